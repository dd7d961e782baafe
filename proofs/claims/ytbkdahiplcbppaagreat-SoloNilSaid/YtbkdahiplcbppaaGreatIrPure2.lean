/- Operations that neither read nor write memory, second part: composites, equality, slices, builtins. -/
import Derived.Test.YtbkdahiplcbppaaGreatIrPure
import Derived.Laws.StructEq
set_option linter.unusedVariables false
set_option linter.unusedSimpArgs false
namespace Go.Ir

section
variable {P : Program} {LB : List Nat} {F : Emb} {f : Fr} {a : Act} {call : CallF} {lo : Nat} {h h' : Heap} {v : Value}
variable {dst : Option Nat} {ty : TypeId} {pos : String} {after : Array Edge} {guard : Option (Nat × Bool)}

theorem partsOf_struct {fs : Array Field} {t : TypeId} (hu : P.underlying t = some (.struct fs)) {parts : List (Nat × Operand)} {ps : List (Nat × Nat × Operand)}
    (h : partsOf P t parts = some ps) : (∀ f ∈ fs.toList, (tySize P f.type).isSome = true) ∧
      ps.length = parts.length ∧ (∀ (j i : Nat) (x : Operand), parts[j]? = some (i, x) → ∃ o n, ps[j]? = some (o, n, x) ∧ ∃ fd, fs[i]? = some fd ∧ fd.offset = o ∧ tySize P fd.type = some n) := by
  unfold partsOf at h
  simp only [hu] at h
  split at h
  · rename_i hall
    refine ⟨fun f hf => by have := List.all_eq_true.1 hall f hf; simpa using this, ?_⟩
    clear hall
    induction parts generalizing ps with
    | nil => simp [partL] at h; subst h; simp
    | cons p parts ih =>
      obtain ⟨i, x⟩ := p
      simp only [partL] at h
      split at h
      · rename_i fd hf
        split at h
        · rename_i n r hn hr
          simp at h
          subst h
          obtain ⟨h1, h2⟩ := ih hr
          refine ⟨by simp [h1], fun j k y hj => ?_⟩
          cases j with
          | zero =>
            simp at hj
            obtain ⟨rfl, rfl⟩ := hj
            exact ⟨fd.offset, n, by simp, fd, hf, rfl, hn⟩
          | succ j =>
            simp at hj
            obtain ⟨o, m, h3, h4⟩ := h2 j k y hj
            exact ⟨o, m, by simpa using h3, h4⟩
        · simp at h
      · simp at h
  · simp at h

theorem zip_parts {parts : List (Nat × Operand)} {ps : List (Nat × Nat × Operand)} (hl : ps.length = parts.length)
    (hp : ∀ (j i : Nat) (x : Operand), parts[j]? = some (i, x) → ∃ o n, ps[j]? = some (o, n, x)) (a : Act) :
    (parts.map (·.1)).zip ((ps.map fun p => (p.1, p.2.1, a.eval p.2.2)).map fun d => d.2.2) = parts.map fun p => (p.1, a.eval p.2) := by
  apply List.ext_getElem (by simp [hl])
  intro j h1 h2
  simp at h1 h2
  obtain ⟨o, n, h3⟩ := hp j parts[j].1 parts[j].2 (by simp [h2])
  have h4 : ps[j]'(by omega) = (o, n, parts[j].2) := by
    rw [List.getElem?_eq_getElem (by omega)] at h3
    injection h3
  simp [h4]

theorem p_build {t : TypeId} {parts : Array (Nat × Operand)} {z : Value} {ps : List (Nat × Nat × Operand)} (hz : zeroFlat P t = some z) (hps : partsOf P t parts.toList = some ps)
    (hok : ps.all (fun p => opndOk LB p.2.2) = true) (hop : OpOk LB F f a ⟨dst, .build t parts, ty, pos, after, guard⟩)
    (hv : iop call lo (.build (vcells z) ps) f h = some (v, h')) : h' = h ∧ Says P a ⟨dst, .build t parts, ty, pos, after, guard⟩ F v := by
  obtain ⟨hz1, hz2, hz3⟩ := zeroFlat_of hz
  simp only [iop] at hv
  split at hv <;> try (simp at hv; done)
  rename_i us hus
  split at hv <;> simp at hv
  rename_i cs hcs
  obtain ⟨rfl, rfl⟩ := hv
  have hzr : VRs F (vcells z) z.cells.toList := by rw [vcells_cells] at hz3 ⊢; exact VRs.flat hz3
  cases hu : P.underlying t with
  | none => simp [partsOf, hu] at hps
  | some d =>
    cases d <;> try (simp [partsOf, hu] at hps; done)
    case struct fs =>
      obtain ⟨h1, h2, h3⟩ := partsOf_struct hu hps
      have hpr := evp_ok (a := a) hok (fun p hp => hop p.2.2 (by
        obtain ⟨j, hj⟩ := List.getElem?_of_mem hp
        have hjl : j < parts.toList.length := by rw [← h2]; exact (List.getElem?_eq_some_iff.1 hj).1
        obtain ⟨o, n, h4, _⟩ := h3 j _ _ (by rw [List.getElem?_eq_getElem hjl])
        rw [hj] at h4
        simp [Op.operands]
        refine ⟨parts.toList[j].1, ?_⟩
        have : p.2.2 = parts.toList[j].2 := by injection h4 with h4; rw [h4]
        rw [this]
        exact Array.getElem_mem (xs := parts) (i := j) (by simpa using hjl))) hus
      obtain ⟨cs', h5, h6⟩ := fill_ok (place := fun i => (fs.toList.map fun f => (f.offset, (tySize P f.type).getD 0))[i]?) (ix := parts.toList.map (·.1)) hpr (by simp [h2]) (fun j i d hi hd => by
        simp only [List.getElem?_map] at hi hd
        cases hpj : parts.toList[j]? with
        | none => simp [hpj] at hi
        | some p =>
          obtain ⟨i', x⟩ := p
          simp [hpj] at hi
          subst hi
          obtain ⟨o, n, h7, fd, h8, h9, h10⟩ := h3 j _ _ hpj
          rw [h7] at hd
          simp at hd
          subst hd
          simp [h8, h9, h10]) hzr hcs
      rw [zip_parts h2 (fun j i x hj => by obtain ⟨o, n, h7, _⟩ := h3 j i x hj; exact ⟨o, n, h7⟩)] at h5
      refine ⟨rfl, .agg cs', fun w => ?_, .agg _ _ (by simpa using h6)⟩
      have hm := mapM_places (P := P) fs.toList h1 w
      have h5' : Instr.fill (fun i => (fs.toList.map fun f => (f.offset, (tySize P f.type).getD 0)).toArray[i]?) z.cells (parts.map fun x => (x.1, a.eval x.2)).toList = some cs' := by
        rw [Array.toList_map]; simpa using h5
      simp only [execOp, Instr.build, Sem.run_bind, run_zeroValue' hz1, Result.andThen_ok, run_underlying hu, Array.mapM_eq_mapM_toList, Sem.run_map]
      rw [hm]
      simp only [Result.andThen_ok, h5']
      rfl
    case array n e =>
      simp only [partsOf, hu] at hps
      cases hn : tySize P e with
      | none => simp [hn] at hps
      | some s =>
        simp only [hn, Option.some.injEq] at hps
        have h2 : ps.length = parts.toList.length := by rw [← hps]; simp
        have h3 : ∀ (j i : Nat) (x : Operand), parts.toList[j]? = some (i, x) → ps[j]? = some (i * s, s, x) := fun j i x hj => by rw [← hps]; simp [hj]
        have hpr := evp_ok (a := a) hok (fun p hp => hop p.2.2 (by
          rw [← hps] at hp
          simp at hp
          obtain ⟨i, x, hm, rfl⟩ := hp
          simp [Op.operands]
          exact ⟨i, hm⟩)) hus
        obtain ⟨cs', h5, h6⟩ := fill_ok (place := fun i => some (i * s, s)) (ix := parts.toList.map (·.1)) hpr (by simp [h2]) (fun j i d hi hd => by
          simp only [List.getElem?_map] at hi hd
          cases hpj : parts.toList[j]? with
          | none => simp [hpj] at hi
          | some p =>
            obtain ⟨i', x⟩ := p
            simp [hpj] at hi
            subst hi
            rw [h3 j _ _ hpj] at hd
            simp at hd
            subst hd
            rfl) hzr hcs
        rw [zip_parts h2 (fun j i x hj => ⟨_, _, h3 j i x hj⟩)] at h5
        refine ⟨rfl, .agg cs', fun w => ?_, .agg _ _ (by simpa using h6)⟩
        have h5' : Instr.fill (fun i => some (i * s, s)) z.cells (parts.map fun x => (x.1, a.eval x.2)).toList = some cs' := by
          rw [Array.toList_map]; exact h5
        simp only [execOp, Instr.build, Sem.run_bind, run_zeroValue' hz1, Result.andThen_ok, run_underlying hu, run_sizeOf' hn, h5']
        rfl

/-! ### equality -/
theorem eqCells_app (xs ys : List Value) : ∀ (l m : List (Nat × Nat)) (b : Bool), eqCells xs ys (l ++ m) = some b → ∃ c d, eqCells xs ys l = some c ∧ eqCells xs ys m = some d ∧ b = (c && d)
  | [], m, b, h => ⟨true, b, rfl, h, by simp⟩
  | (i, t) :: l, m, b, h => by
    simp only [List.cons_append, eqCells] at h
    cases hx : xs[i]? with
    | none => simp [hx] at h
    | some x =>
      cases hy : ys[i]? with
      | none => simp [hx, hy] at h
      | some y =>
        cases he : eqLeaf t x y with
        | none => simp [hx, hy, he] at h
        | some e =>
          cases hc : eqCells xs ys (l ++ m) with
          | none => simp [hx, hy, he, hc] at h
          | some c =>
            simp [hx, hy, he, hc] at h
            obtain ⟨c1, d1, h1, h2, h3⟩ := eqCells_app xs ys l m c hc
            refine ⟨e && c1, d1, ?_, h2, by rw [← h, h3, Bool.and_assoc]⟩
            simp [eqCells, hx, hy, he, h1]

theorem eqCells_part (xs ys : Array Value) (off n : Nat) : ∀ (l : List (Nat × Nat)), l.all (fun p => decide (p.1 < n)) = true →
    eqCells xs.toList ys.toList (l.map fun p => (p.1 + off, p.2)) = eqCells (xs.extract off (off + n)).toList (ys.extract off (off + n)).toList l
  | [], _ => rfl
  | (i, t) :: l, h => by
    simp only [List.all_cons, Bool.and_eq_true, decide_eq_true_eq] at h
    have ih := eqCells_part xs ys off n l h.2
    have e : ∀ zs : Array Value, (zs.extract off (off + n)).toList[i]? = zs.toList[i + off]? := fun zs => by
      simp only [Array.getElem?_toList, Array.getElem?_extract]
      split
      · rw [Nat.add_comm]
      · rw [Array.getElem?_eq_none (by omega)]
    simp only [List.map_cons, eqCells, ih, e]

theorem eqLeaf_ok {t : TypeId} {k : Nat} {x y : Value} {b : Bool} (h : eqLeaf k x y = some b)
    (ht : (k = 0 ∧ ∃ j, P.underlying t = some (.int j)) ∨ (k = 1 ∧ P.underlying t = some .bool) ∨ (k = 2 ∧ P.underlying t = some .string)) (D : Nat) (w : World) :
    (Op.equalIn (D + 1) t x y).run P w = .ok b w := by
  unfold eqLeaf at h
  split at h
  · split at h <;> simp at h
    rename_i hc
    obtain ⟨rfl, rfl⟩ := hc
    rcases ht with ⟨_, j, hj⟩ | ⟨h0, _⟩ | ⟨h0, _⟩
    · subst h; exact run_equalIn_int w D t _ j _ _ hj
    · cases h0
    · cases h0
  · split at h <;> simp at h
    rename_i hc
    subst hc
    rcases ht with ⟨h0, _⟩ | ⟨_, hj⟩ | ⟨h0, _⟩
    · cases h0
    · subst h; exact run_equalIn_bool' w D t _ _ hj
    · cases h0
  · split at h <;> simp at h
    rename_i hc
    subst hc
    rcases ht with ⟨h0, _⟩ | ⟨h0, _⟩ | ⟨_, hj⟩
    · cases h0
    · cases h0
    · subst h; exact run_equalIn_string w D t _ _ hj
  · simp at h

theorem leaves_scalar {t : TypeId} {xs ys : Array Value} {off k D : Nat} {b : Bool} (w : World)
    (ht : (k = 0 ∧ ∃ j, P.underlying t = some (.int j)) ∨ (k = 1 ∧ P.underlying t = some .bool) ∨ (k = 2 ∧ P.underlying t = some .string))
    (h : eqCells xs.toList ys.toList [(0 + off, k)] = some b) :
    ((do let u ← Go.part t xs off; let v ← Go.part t ys off; Op.equalIn (D + 1) t u v : Sem Bool)).run P w = .ok b w := by
  simp only [eqCells, Nat.zero_add, Array.getElem?_toList] at h
  split at h <;> try (simp at h; done)
  rename_i x y hx hy
  split at h <;> simp at h
  rename_i e he
  subst h
  have hty : tyN P t = some none := by
    rcases ht with ⟨_, j, hj⟩ | ⟨_, hj⟩ | ⟨_, hj⟩ <;> simp [tyN, hj]
  simp only [Sem.run_bind, run_part' hty xs off w hx, run_part' hty ys off w hy, Result.andThen_ok]
  exact eqLeaf_ok he ht D w

theorem eqFields_ok (d : Nat) (H : ∀ (t : TypeId) (l : List (Nat × Nat)), leaves P d t = some l → ∀ (D : Nat), d ≤ D → ∀ (xs ys : Array Value) (off : Nat) (b : Bool) (w : World),
    eqCells xs.toList ys.toList (l.map fun p => (p.1 + off, p.2)) = some b →
    (∀ n, tySize P t = some n → l.all (fun p => decide (p.1 < n)) = true) → (∃ n, tySize P t = some n) →
    ((do let u ← Go.part t xs off; let v ← Go.part t ys off; Op.equalIn D t u v : Sem Bool)).run P w = .ok b w) {D : Nat} (hD : d ≤ D) {X Y : Array Value} :
    ∀ {fl : List Field} {l : List (Nat × Nat)} {b : Bool}, leaves.leavesL P (leaves P d) fl = some l → eqCells X.toList Y.toList l = some b → ∀ w, (Op.eqFields D X Y fl).run P w = .ok b w
  | [], l, b, h, he, w => by simp [leaves.leavesL] at h; subst h; simp [eqCells] at he; subst he; simp [Op.eqFields]
  | f :: fl, l, b, h, he, w => by
    simp only [leaves.leavesL] at h
    split at h
    · simp at h
    · rename_i hnm
      split at h <;> try (simp at h; done)
      rename_i l1 n1 m1 h1 h2 h3
      split at h <;> try (simp at h; done)
      rename_i hall
      injection h with h
      subst h
      obtain ⟨c, e, h4, h5, rfl⟩ := eqCells_app _ _ _ _ _ he
      have hA := H f.type l1 h1 D hD X Y f.offset c w h4 (fun k hk => by rw [h2] at hk; injection hk with hk; subst hk; exact hall) ⟨n1, h2⟩
      simp only [Op.eqFields, ne_eq, hnm, not_false_eq_true, if_true]
      simp only [Sem.run_bind] at hA ⊢
      generalize (Go.part f.type X f.offset).run P w = r1 at hA ⊢
      cases r1 with
      | halt x w1 => simp at hA
      | ok u w1 =>
        simp only [Result.andThen_ok] at hA ⊢
        generalize (Go.part f.type Y f.offset).run P w1 = r2 at hA ⊢
        cases r2 with
        | halt x w2 => simp at hA
        | ok v w2 =>
          simp only [Result.andThen_ok] at hA ⊢
          rw [hA]
          simp only [Result.andThen_ok]
          cases c
          · simp
          · simp only [Bool.not_true, Bool.false_eq_true, if_false, Bool.true_and]
            exact eqFields_ok d H hD h3 h5 w

theorem leaves_ok : ∀ (d : Nat) (t : TypeId) (l : List (Nat × Nat)), leaves P d t = some l → ∀ (D : Nat), d ≤ D → ∀ (xs ys : Array Value) (off : Nat) (b : Bool) (w : World),
    eqCells xs.toList ys.toList (l.map fun p => (p.1 + off, p.2)) = some b →
    (∀ n, tySize P t = some n → l.all (fun p => decide (p.1 < n)) = true) → (∃ n, tySize P t = some n) →
    ((do let u ← Go.part t xs off; let v ← Go.part t ys off; Op.equalIn D t u v : Sem Bool)).run P w = .ok b w
  | 0, t, l, h, _, _, _, _, _, _, _, _, _, _ => by simp [leaves] at h
  | d + 1, t, l, h, D, hD, xs, ys, off, b, w, he, hn, ⟨n, hsz⟩ => by
    obtain ⟨D, rfl⟩ : ∃ m, D = m + 1 := ⟨D - 1, by omega⟩
    simp only [leaves] at h
    split at h
    · rename_i hu; injection h with h; subst h; exact leaves_scalar w (.inr (.inl ⟨rfl, hu⟩)) he
    · rename_i j hu; injection h with h; subst h; exact leaves_scalar w (.inl ⟨rfl, j, hu⟩) he
    · rename_i hu; injection h with h; subst h; exact leaves_scalar w (.inr (.inr ⟨rfl, hu⟩)) he
    · rename_i fs hu
      split at h
      · simp at h
      · rename_i hst
        have hty : tyN P t = some (some n) := by
          have : (P.info? t).map (fun i => i.size) = some n := hsz
          simp only [tyN, hu]
          cases hi : P.info? t with
          | none => simp [hi] at this
          | some i => simp [hi] at this ⊢; exact this
        rw [eqCells_part xs ys off n l (hn n hsz)] at he
        simp only [Sem.run_bind, run_part' hty xs off w rfl, run_part' hty ys off w rfl, Result.andThen_ok]
        rw [run_equalIn_struct w D t _ _ (by simp [Program.fieldsOf, hu]) (by simpa using hst)]
        exact eqFields_ok d (fun t l hl D hD => leaves_ok d t l hl D hD) (by omega) (by rw [show (P.fieldsOf t).toList = fs.toList by simp [Program.fieldsOf, hu]]; exact h) he w
    · simp at h

theorem isNil_ok {k : Nat} {x c : Value} {b : Bool} (hr : VR F x c) (h : isNil k x = some b) : isNil k c = some b := by
  cases hr <;> simp [isNil] at h ⊢ <;> first | exact h | (split at h <;> simp_all)

theorem isNil_true {k : Nat} {c : Value} (h : isNil k c = some true) :
    (k = 0 ∧ c = .pointer none) ∨ (k = 1 ∧ ∃ n m, c = .slice none n m) ∨ (k = 2 ∧ c = .map none) ∨ (k = 3 ∧ c = .nilFunc) ∨ (k = 4 ∧ c = .nilIface) := by
  cases c <;> simp [isNil] at h
  case pointer a => obtain ⟨rfl, rfl⟩ := h; simp
  case slice a n m => obtain ⟨rfl, rfl⟩ := h; simp
  case map a => obtain ⟨rfl, rfl⟩ := h; simp
  case nilFunc => subst h; simp
  case nilIface => subst h; simp
  all_goals (try (split at h <;> simp at h))

/-- Neither a number nor a string: '==' goes by the type. -/
def byType : Value → Bool
  | .int _ _ | .float _ _ | .complex _ _ _ | .string _ => false
  | _ => true

theorem run_binOp_eq {op : BinOp} {neg : Bool} (ho : isEq op = some neg) {t : TypeId} {x y : Value} (hx : byType x = true) {b : Bool} {w : World}
    (h : (Op.equal t x y).run P w = .ok b w) : (binOp op t x y).run P w = .ok (.bool (if neg then !b else b)) w := by
  cases op <;> simp [isEq] at ho <;> subst ho <;> cases x <;> simp [byType] at hx <;> cases y <;> simp [binOp, h]

theorem eqGuard_ok {op : BinOp} {t : TypeId} {ox oy : Operand} {x y : Value} (h1 : x = .nilIface → y = .nilIface → (∃ v, ox = .const v) ∨ (∃ v, oy = .const v))
    (h2 : (∃ c d, x = .agg c ∧ y = .agg d) → P.eqGuardType P.depth t = false) (w : World) : (eqGuard op t ox oy x y).run P w = .ok () w := by
  have key : ∀ op', (op' = BinOp.eql ∨ op' = BinOp.neq) → (eqGuard op' t ox oy x y).run P w = .ok () w := by
    intro op' ho
    cases x
    case nilIface =>
      cases y
      case nilIface =>
        rcases ho with rfl | rfl <;> rcases h1 rfl rfl with ⟨v, rfl⟩ | ⟨v, rfl⟩ <;> simp [eqGuard]
      all_goals (rcases ho with rfl | rfl <;> simp [eqGuard])
    case agg c =>
      cases y
      case agg d => rcases ho with rfl | rfl <;> simp [eqGuard, h2 ⟨_, _, rfl, rfl⟩]
      all_goals (rcases ho with rfl | rfl <;> simp [eqGuard])
    all_goals (rcases ho with rfl | rfl <;> simp [eqGuard])
  cases op
  case eql => exact key _ (.inl rfl)
  case neq => exact key _ (.inr rfl)
  all_goals simp [eqGuard]

theorem equal_nilD (D : Nat) {t : TypeId} {k : Nat} {x y : Value} {b : Bool} (h : ieq (.nil k) x y = some b)
    (ht : (k = 0 ∧ ∃ e, P.underlying t = some (.pointer e)) ∨ (k = 1 ∧ ∃ e, P.underlying t = some (.slice e)) ∨ (k = 2 ∧ ∃ e e', P.underlying t = some (.map e e')) ∨
      (k = 3 ∧ ∃ e e' e'', P.underlying t = some (.func e e' e'')) ∨ (k = 4 ∧ ∃ e, P.underlying t = some (.interface e))) (w : World) :
    (Op.equalIn (D + 1) t x y).run P w = .ok b w := by
  simp only [ieq] at h
  split at h
  · rename_i hy
    have hx := h
    rcases isNil_true hy with ⟨rfl, rfl⟩ | ⟨rfl, n, m, rfl⟩ | ⟨rfl, rfl⟩ | ⟨rfl, rfl⟩ | ⟨rfl, rfl⟩
    all_goals
      rcases ht with ⟨h0, e, he⟩ | ⟨h0, e, he⟩ | ⟨h0, e, e', he⟩ | ⟨h0, e, e', e'', he⟩ | ⟨h0, e, he⟩ <;> (try (exact absurd h0 (by decide)))
      cases x <;> simp [isNil] at hx
    · rename_i a; subst hx; cases a <;> simp [Op.equalIn, run_underlying he]
    · rename_i a n m; subst hx; cases a <;> simp [Op.equalIn, run_underlying he]
    · rename_i a; subst hx; cases a <;> simp [Op.equalIn, run_underlying he]
    all_goals (subst hx; simp [Op.equalIn, run_underlying he])
  · rename_i hy
    split at h <;> simp at h
    rename_i hx
    subst h
    rcases isNil_true hx with ⟨rfl, rfl⟩ | ⟨rfl, n, m, rfl⟩ | ⟨rfl, rfl⟩ | ⟨rfl, rfl⟩ | ⟨rfl, rfl⟩
    all_goals
      rcases ht with ⟨h0, e, he⟩ | ⟨h0, e, he⟩ | ⟨h0, e, e', he⟩ | ⟨h0, e, e', e'', he⟩ | ⟨h0, e, he⟩ <;> (try (exact absurd h0 (by decide)))
      cases y <;> simp [isNil] at hy
    · rename_i a; cases a <;> simp at hy; simp [Op.equalIn, run_underlying he]
    · rename_i a n m; cases a <;> simp at hy; simp [Op.equalIn, run_underlying he]
    · rename_i a; cases a <;> simp at hy; simp [Op.equalIn, run_underlying he]
    all_goals simp [Op.equalIn, run_underlying he]
  · simp at h

theorem VRs.eqCells {xs ys xs' ys' : List Value} (h1 : VRs F xs xs') (h2 : VRs F ys ys') : ∀ (l : List (Nat × Nat)) (b : Bool), Ir.eqCells xs ys l = some b → Ir.eqCells xs' ys' l = some b
  | [], b, h => h
  | (i, t) :: l, b, h => by
    simp only [Ir.eqCells] at h ⊢
    cases hx : xs[i]? with
    | none => simp [hx] at h
    | some x =>
      cases hy : ys[i]? with
      | none => simp [hx, hy] at h
      | some y =>
        cases he : eqLeaf t x y with
        | none => simp [hx, hy, he] at h
        | some e =>
          cases hc : Ir.eqCells xs ys l with
          | none => simp [hx, hy, he, hc] at h
          | some c =>
            obtain ⟨x', h3, h4⟩ := h1.get hx
            obtain ⟨y', h5, h6⟩ := h2.get hy
            have hxf : flat1 x = true := by unfold eqLeaf at he; split at he <;> first | rfl | (simp at he)
            have hyf : flat1 y = true := by unfold eqLeaf at he; split at he <;> first | rfl | (simp at he)
            rw [h4.eq_flat1 hxf] at h3
            rw [h6.eq_flat1 hyf] at h5
            simp [hx, hy, he, hc] at h
            simp [h3, h5, he, VRs.eqCells h1 h2 l c hc, h]

theorem p_eqv {op : BinOp} {neg : Bool} {k : EqK} {t t' : TypeId} {x y : Operand} (ho : isEq op = some neg) (hk : eqK P t x y = some k) (hx : opndOk LB x = true) (hy : opndOk LB y = true)
    (hop : OpOk LB F f a ⟨dst, .binOp op t x y t', ty, pos, after, guard⟩)
    (hv : iop call lo (.eqv neg k x y) f h = some (v, h')) : h' = h ∧ Says P a ⟨dst, .binOp op t x y t', ty, pos, after, guard⟩ F v := by
  simp only [iop] at hv
  split at hv <;> try (simp at hv; done)
  rename_i u u' hu hu'
  split at hv <;> simp at hv
  rename_i b hb
  obtain ⟨rfl, rfl⟩ := hv
  have hxv := hop x (by simp [Op.operands]) hx _ hu
  have hyv := hop y (by simp [Op.operands]) hy _ hu'
  refine ⟨rfl, .bool (if neg then !b else b), fun w => ?_, .bool _⟩
  have main : byType (a.eval x) = true ∧ (Op.equal t (a.eval x) (a.eval y)).run P w = .ok b w ∧ (eqGuard op t x y (a.eval x) (a.eval y)).run P w = .ok () w := by
    cases k with
    | bool =>
      have ht : P.underlying t = some .bool := by
        unfold eqK at hk
        split at hk <;> first | assumption | (simp at hk; done) | (split at hk <;> simp at hk; done)
      simp only [ieq] at hb
      split at hb <;> simp at hb
      rw [hxv.eq_flat1 rfl, hyv.eq_flat1 rfl]
      subst hb
      exact ⟨rfl, run_equalIn_bool' w 9999 t _ _ ht, eqGuard_ok (by simp) (by simp) w⟩
    | nil k =>
      have ht : ((k = 0 ∧ ∃ e, P.underlying t = some (.pointer e)) ∨ (k = 1 ∧ ∃ e, P.underlying t = some (.slice e)) ∨ (k = 2 ∧ ∃ e e', P.underlying t = some (.map e e')) ∨
          (k = 3 ∧ ∃ e e' e'', P.underlying t = some (.func e e' e'')) ∨ (k = 4 ∧ ∃ e, P.underlying t = some (.interface e))) ∧ (k = 4 → (∃ v, x = .const v) ∨ (∃ v, y = .const v)) := by
        unfold eqK at hk
        split at hk <;> (try (simp at hk; done))
        · rename_i e he; simp at hk; subst hk; exact ⟨.inl ⟨rfl, e, he⟩, by simp⟩
        · rename_i e he; simp at hk; subst hk; exact ⟨.inr (.inl ⟨rfl, e, he⟩), by simp⟩
        · rename_i e e' he; simp at hk; subst hk; exact ⟨.inr (.inr (.inl ⟨rfl, e, e', he⟩)), by simp⟩
        · rename_i e e' e'' he; simp at hk; subst hk; exact ⟨.inr (.inr (.inr (.inl ⟨rfl, e, e', e'', he⟩))), by simp⟩
        · rename_i e he
          split at hk <;> simp at hk
          · subst hk; exact ⟨.inr (.inr (.inr (.inr ⟨rfl, e, he⟩))), fun _ => .inl ⟨_, rfl⟩⟩
          · subst hk; exact ⟨.inr (.inr (.inr (.inr ⟨rfl, e, he⟩))), fun _ => .inr ⟨_, rfl⟩⟩
      have hb' : ieq (.nil k) (a.eval x) (a.eval y) = some b := by
        simp only [ieq] at hb ⊢
        split at hb
        · rename_i h1; rw [isNil_ok hyv h1]; exact isNil_ok hxv hb
        · rename_i h1
          rw [isNil_ok hyv h1]
          split at hb
          · rename_i h2; simp [isNil_ok hxv h2]; simpa using hb
          · simp at hb
        · simp at hb
      refine ⟨?_, equal_nilD 9999 hb' ht.1 w, eqGuard_ok (fun h1 h2 => ht.2 ?_) ?_ w⟩
      · generalize a.eval x = X at hb'
        generalize a.eval y = Y at hb'
        simp only [ieq] at hb'
        have hX : ∃ c, isNil k X = some c := by
          split at hb'
          · exact ⟨_, hb'⟩
          · split at hb'
            · rename_i h3; exact ⟨_, h3⟩
            · cases hb'
          · cases hb'
        obtain ⟨c, hX⟩ := hX
        cases X <;> first | rfl | (cases hX; done)
      · rw [h1, h2] at hb'
        simp only [ieq, isNil] at hb'
        by_cases h4 : k = 4
        · exact h4
        · simp [h4] at hb'
      · rintro ⟨c, d, h1, h2⟩
        rw [h1, h2] at hb'
        simp [ieq, isNil] at hb'
    | cells l =>
      have ht : (∃ fs, P.underlying t = some (.struct fs)) ∧ P.eqGuardType P.depth t = false ∧ leaves P 8 t = some l := by
        unfold eqK at hk
        split at hk <;> (try (simp at hk; done))
        · split at hk <;> simp at hk
        · rename_i fs hfs
          split at hk <;> simp at hk
          rename_i hg
          exact ⟨⟨fs, hfs⟩, by simpa using hg, hk⟩
      obtain ⟨⟨fs, hfs⟩, hg, hl⟩ := ht
      simp only [ieq] at hb
      split at hb <;> try (simp at hb; done)
      rename_i xs ys
      generalize hcx : a.eval x = X at hxv
      generalize hcy : a.eval y = Y at hyv
      cases hxv with
      | agg _ xs' h1 =>
        cases hyv with
        | agg _ ys' h2 =>
          refine ⟨rfl, ?_, eqGuard_ok (by simp) (fun _ => hg) w⟩
          have hb' := VRs.eqCells h1 h2 l b hb
          have hst : P.stoodInHeld t = false ∧ leaves.leavesL P (leaves P 7) fs.toList = some l := by
            simp only [leaves, hfs] at hl
            split at hl
            · cases hl
            · rename_i hst
              exact ⟨by simpa using hst, hl⟩
          have hd : Op.equal t (.agg xs') (.agg ys') = Op.equalIn (9999 + 1) t (.agg xs') (.agg ys') := rfl
          rw [hd, run_equalIn_struct w 9999 t _ _ (by simp [Program.fieldsOf, hfs]) hst.1]
          exact eqFields_ok 7 (fun t l hl D hD => leaves_ok 7 t l hl D hD) (by omega) (by rw [show (P.fieldsOf t).toList = fs.toList by simp [Program.fieldsOf, hfs]]; exact hst.2) hb' w
  obtain ⟨m1, m2, m3⟩ := main
  have m4 := run_binOp_eq (P := P) ho m1 m2
  simp only [execOp, Sem.run_bind, m3, Result.andThen_ok, m4]
  rfl

end
end Go.Ir
