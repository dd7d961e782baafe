/- Operations that neither read nor write memory: what the interpreter answers the machine answers. -/
import Derived.Test.YtbkdahiplcbppaaGreatIrVr
import Derived.Test.YtbkdahiplcbppaaGreatIrComp
import Derived.Laws.Sem
import Derived.Laws.Entries
import Derived.Laws.CopyRow
import Derived.ChangeKeysEq
set_option linter.unusedVariables false
set_option linter.unusedSimpArgs false
namespace Go.Ir

/-! ### types -/
theorem tySize_info {P : Program} {t n : Nat} (h : tySize P t = some n) : ∃ i, P.info? t = some i ∧ i.size = n := by
  unfold tySize at h
  cases hi : P.info? t with
  | none => simp [hi] at h
  | some i => simp [hi] at h; exact ⟨i, rfl, h⟩

theorem run_sizeOf' {P : Program} {t n : Nat} (h : tySize P t = some n) (w : World) : (sizeOf t).run P w = .ok n w := by
  obtain ⟨i, hi, rfl⟩ := tySize_info h
  have := run_sizeOf (w := w) hi
  simpa [Program.cellsOf, hi] using this

theorem run_tySize {P : Program} {t : Nat} {i : TypeInfo} (h : P.info? t = some i) (w : World) : (sizeOf t).run P w = .ok i.size w :=
  run_sizeOf' (by simp [tySize, h]) w

theorem run_zeroValue' {P : Program} {t : Nat} {z : Value} (h : zeroOf P t = some z) (w : World) : (zeroValue t).run P w = .ok z w := by
  unfold zeroOf at h
  cases hi : P.info? t with
  | none => simp [hi] at h
  | some i =>
    simp [hi] at h
    simp [zeroValue, run_typeInfo (w := w) hi, h]

theorem zeroFlat_of {P : Program} {t : Nat} {z : Value} (h : zeroFlat P t = some z) : zeroOf P t = some z ∧ flatV z = true ∧ (vcells z).all flat1 = true := by
  unfold zeroFlat at h
  split at h
  · rename_i z' hz
    split at h
    · rename_i hc
      simp at h; subst h
      exact ⟨hz, hc.1, hc.2⟩
    · simp at h
  · simp at h

theorem vcells_cells (v : Value) : vcells v = v.cells.toList := by cases v <;> rfl

/-- What a type's value is: one cell, or a row of n. -/
theorem run_isAgg' {P : Program} {t : Nat} {n : Option Nat} (h : tyN P t = some n) (w : World) : (isAgg t).run P w = .ok n.isSome w := by
  unfold tyN at h
  cases hu : P.underlying t with
  | none => simp [hu] at h
  | some d =>
    have hr := run_underlying hu w
    cases d <;> simp [hu] at h <;> first
      | (obtain ⟨i, hi, rfl⟩ := h; simp [isAgg, hr])
      | (subst h; simp [isAgg, hr])

theorem tyN_size {P : Program} {t n : Nat} (h : tyN P t = some (some n)) : tySize P t = some n := by
  unfold tyN at h
  unfold tySize
  split at h <;> simp at h ⊢ <;> exact h

theorem run_part' {P : Program} {t : Nat} {n : Option Nat} (h : tyN P t = some n) (cs : Array Value) (off : Nat) {v : Value} (w : World)
    (hv : (match n with | none => cs[off]? | some n => some (.agg (cs.extract off (off + n)))) = some v) : (Go.part t cs off).run P w = .ok v w := by
  have ha := run_isAgg' h w
  cases n with
  | none => simp at hv; simp [Go.part, ha, hv]
  | some n => simp at hv; subst hv; simp [Go.part, ha, run_sizeOf' (tyN_size h) w]

theorem part_ok {P : Program} {t : Nat} {n : Option Nat} {F : Emb} (h : tyN P t = some n) {cs : List Value} {ds : Array Value} {off : Nat} {v : Value} (hr : VRs F cs ds.toList)
    (hv : part n cs off = some v) (w : World) : ∃ c, (Go.part t ds off).run P w = .ok c w ∧ VR F v c := by
  cases n with
  | none =>
    simp only [part] at hv
    obtain ⟨c, h1, h2⟩ := hr.get hv
    exact ⟨c, run_part' h ds off w (by simpa using h1), h2⟩
  | some n =>
    simp only [part] at hv
    split at hv
    · rename_i hl
      simp at hv
      subst hv
      refine ⟨_, run_part' h ds off w rfl, .agg _ _ ?_⟩
      simp only [Array.toList_extract, List.extract_eq_take_drop]
      have : off + n - off = n := by omega
      rw [this]
      exact (hr.drop off).take n
    · simp at hv

/-- The same at every world: the value does not hang on it. -/
theorem part_ok_all {P : Program} {t : Nat} {n : Option Nat} {F : Emb} (h : tyN P t = some n) {cs : List Value} {ds : Array Value} {off : Nat} {v : Value} (hr : VRs F cs ds.toList)
    (hv : part n cs off = some v) : ∃ c, (∀ w, (Go.part t ds off).run P w = .ok c w) ∧ VR F v c := by
  cases n with
  | none =>
    simp only [part] at hv
    obtain ⟨c, h1, h2⟩ := hr.get hv
    exact ⟨c, fun w => run_part' h ds off w (by simpa using h1), h2⟩
  | some n =>
    simp only [part] at hv
    split at hv
    · rename_i hl
      simp at hv
      subst hv
      refine ⟨_, fun w => run_part' h ds off w rfl, .agg _ _ ?_⟩
      simp only [Array.toList_extract, List.extract_eq_take_drop]
      have : off + n - off = n := by omega
      rw [this]
      exact (hr.drop off).take n
    · simp at hv

theorem fieldOf_of {P : Program} {t f off u : Nat} (h : fieldOf P t f = some (off, u)) :
    ∃ fs x, P.underlying t = some (.struct fs) ∧ fs[f]? = some x ∧ x.offset = off ∧ x.type = u ∧ ∃ n, tySize P u = some (n + 1) := by
  unfold fieldOf at h
  split at h
  · rename_i fs hu
    split at h
    · rename_i x hx
      split at h
      · rename_i n hs
        simp at h
        obtain ⟨rfl, rfl⟩ := h
        exact ⟨fs, x, hu, hx, rfl, rfl, n, hs⟩
      · simp at h
    · simp at h
  · simp at h

/-! ### operands -/
def OpOk (LB : List Nat) (F : Emb) (f : Fr) (a : Act) (o : Oper) : Prop :=
  ∀ x ∈ o.op.operands.toList, opndOk LB x = true → ∀ u, ev f x = some u → VR F u (a.eval x)

theorem ev_ok {LB : List Nat} {F : Emb} {f : Fr} {a : Act} {x : Operand} (hx : opndOk LB x = true)
    (h : ∀ t, x = .tmp t → LB.contains t = false → ∀ u, fget f t = some u → VR F u (a.tmps.getD t undef)) {u : Value} (he : ev f x = some u) : VR F u (a.eval x) := by
  cases x with
  | tmp t => simp [opndOk] at hx; exact h t rfl (by simpa using hx) u he
  | const v => simp [ev] at he; subst he; simp [opndOk] at hx; exact VR.flat hx
  | global g => simp [opndOk] at hx
  | func g => simp [ev] at he; subst he; exact .func _ _ _ _ _ (by simpa using VRs.nil) (by simpa using VRs.nil)

theorem ifOk_some {α : Type} {b : Bool} {x y : α} (h : ifOk b x = some y) : b = true ∧ x = y := by
  unfold ifOk at h
  split at h
  · rename_i hb; simp at h; exact ⟨hb, h⟩
  · simp at h

theorem evs_ok {LB : List Nat} {F : Emb} {f : Fr} {a : Act} : ∀ {xs : List Operand} {us : List Value}, xs.all (opndOk LB) = true →
    (∀ x ∈ xs, opndOk LB x = true → ∀ u, ev f x = some u → VR F u (a.eval x)) → evs f xs = some us → VRs F us (xs.map a.eval)
  | [], us, _, _, h => by simp [evs] at h; subst h; exact .nil
  | x :: xs, us, hx, hop, h => by
    simp only [List.all_cons, Bool.and_eq_true] at hx
    simp only [evs] at h
    split at h
    · rename_i u hu
      split at h
      · rename_i vs hvs
        simp at h; subst h
        exact .cons _ _ _ _ (hop x (by simp) hx.1 u hu) (evs_ok hx.2 (fun y hy => hop y (by simp [hy])) hvs)
      · simp at h
    · simp at h

inductive PR (F : Emb) : List (Nat × Nat × Value) → List (Nat × Nat × Value) → Prop where
  | nil : PR F [] []
  | cons (o n : Nat) (v c : Value) (xs ys : List (Nat × Nat × Value)) (h : VR F v c) (hs : PR F xs ys) : PR F ((o, n, v) :: xs) ((o, n, c) :: ys)

theorem evp_ok {LB : List Nat} {F : Emb} {f : Fr} {a : Act} : ∀ {xs : List (Nat × Nat × Operand)} {us : List (Nat × Nat × Value)}, xs.all (fun p => opndOk LB p.2.2) = true →
    (∀ p ∈ xs, opndOk LB p.2.2 = true → ∀ u, ev f p.2.2 = some u → VR F u (a.eval p.2.2)) → evp f xs = some us → PR F us (xs.map fun p => (p.1, p.2.1, a.eval p.2.2))
  | [], us, _, _, h => by simp [evp] at h; subst h; exact .nil
  | (o, n, x) :: xs, us, hx, hop, h => by
    simp only [List.all_cons, Bool.and_eq_true] at hx
    simp only [evp] at h
    split at h
    · rename_i u hu
      split at h
      · rename_i vs hvs
        simp at h; subst h
        exact .cons _ _ _ _ _ _ (hop _ (by simp) hx.1 u hu) (evp_ok hx.2 (fun y hy => hop y (by simp [hy])) hvs)
      · simp at h
    · simp at h

theorem foldl_splice (c : List Value) : ∀ (k : Nat) (cells : Array Value) (off : Nat), off + k + c.length ≤ cells.size →
    ((c.zipIdx k).foldl (fun (cs : Array Value) (x : Value × Nat) => cs.setIfInBounds (off + x.2) x.1) cells).toList = splice cells.toList (off + k) c := by
  induction c with
  | nil => intro k cells off h; simp [splice]
  | cons v c ih =>
    intro k cells off h
    simp at h
    simp only [List.zipIdx_cons, List.foldl_cons]
    rw [ih (k + 1) _ off (by simp; omega)]
    simp only [splice, Array.toList_setIfInBounds]
    rw [show off + (k + 1) = off + k + 1 from by omega]
    apply List.ext_getElem?
    intro j
    simp only [List.getElem?_append, List.getElem?_take, List.getElem?_drop, List.getElem?_set, List.length_take, List.length_append, List.length_set, Array.length_toList, List.length_cons, List.getElem?_cons]
    have e1 : min (off + k + 1) cells.size = off + k + 1 := by omega
    have e2 : min (off + k) cells.size = off + k := by omega
    rw [e1, e2]
    by_cases h1 : j < off + k
    · simp [h1, show j < off + k + 1 by omega, show j < off + k + 1 + c.length by omega, show j < off + k + (c.length + 1) by omega, show off + k ≠ j by omega]
    · by_cases h2 : j = off + k
      · subst h2
        simp [show off + k < cells.size by omega]
        omega
      · by_cases h3 : j < off + k + 1 + c.length
        · have h4 : ¬ j < off + k + 1 := by omega
          simp [h1, h4, h3, show j < off + k + (c.length + 1) by omega, show j - (off + k) ≠ 0 by omega, show j - (off + k) - 1 = j - (off + k + 1) by omega]
        · have h4 : ¬ j < off + k + 1 := by omega
          simp [h1, h4, h3, show ¬ j < off + k + (c.length + 1) by omega]
          have : off + k ≠ off + k + 1 + c.length + (j - (off + k + 1 + c.length)) := by omega
          simp [this]
          congr 1
          omega

theorem splice_length (cs vs : List Value) (off : Nat) (h : off + vs.length ≤ cs.length) : (splice cs off vs).length = cs.length := by
  simp [splice]; omega

/-- The machine's filling of a row with parts. -/
theorem fill_ok {F : Emb} {place : Nat → Option (Nat × Nat)} : ∀ {us ds : List (Nat × Nat × Value)} {ix : List Nat} {cells : List Value} {ds' : Array Value} {out : List Value},
    PR F us ds → ix.length = ds.length → (∀ (j i : Nat) (d : Nat × Nat × Value), ix[j]? = some i → ds[j]? = some d → place i = some (d.1, d.2.1)) → VRs F cells ds'.toList → fillL cells us = some out →
    ∃ cs', Instr.fill place ds' (ix.zip (ds.map fun d => d.2.2)) = some cs' ∧ VRs F out cs'.toList
  | _, _, ix, cells, ds', out, .nil, hl, _, hr, h => by
    simp [fillL] at h; subst h
    cases ix with
    | nil => exact ⟨ds', by simp [Instr.fill], hr⟩
    | cons i ix => simp at hl
  | _, _, ix, cells, ds', out, .cons o n v c xs ys hv hs, hl, hp, hr, h => by
    cases ix with
    | nil => simp at hl
    | cons i ix =>
      have hpl : place i = some (o, n) := hp 0 i (o, n, c) (by simp) (by simp)
      simp only [fillL] at h
      split at h
      · rename_i hn
        split at h
        · rename_i hle
          have hvc := hv.cells
          have hlen : c.cells.size = n := by have := hvc.length; simp at this; omega
          have hsz : cells.length = ds'.size := by have := hr.length; simpa using this
          have hfold : ((c.cells.zipIdx.foldl (fun cs x => cs.setIfInBounds (o + x.2) x.1) ds')).toList = splice ds'.toList o c.cells.toList := by
            have := foldl_splice c.cells.toList 0 ds' o (by simp; omega)
            rw [← Array.foldl_toList]
            simpa using this
          have hr' : VRs F (splice cells o (vcells v)) ((c.cells.zipIdx.foldl (fun cs x => cs.setIfInBounds (o + x.2) x.1) ds')).toList := by
            rw [hfold]; exact hr.splice hvc o
          obtain ⟨cs', h1, h2⟩ := fill_ok (ix := ix) hs (by simpa using hl) (fun j i d hi hd => hp (j + 1) i d (by simpa using hi) (by simpa using hd)) hr' h
          refine ⟨cs', ?_, h2⟩
          simp only [List.map_cons, List.zip_cons_cons, Instr.fill, hpl]
          rw [if_neg (by simp; constructor <;> omega)]
          exact h1
        · simp at h
      · simp at h

end Go.Ir
