/- Operations that read memory, that make blocks, that write. -/
import Derived.Test.YtbkdahiplcbppaaGreatIrNp
set_option linter.unusedVariables false
set_option linter.unusedSimpArgs false
namespace Go.Ir

section
variable {P : Program} {LB : List Nat} {F : Emb} {f : Fr} {a : Act} {call : CallF} {lo : Nat} {h h' : Heap} {v : Value} {w : World} {B0 : Nat}
variable {dst : Option Nat} {ty : TypeId} {pos : String} {after : Array Edge} {guard : Option (Nat × Bool)}

/-- The blocks that F tells of, and that the heap has, are as the heap has them. -/
def Has (B0 : Nat) (F : Emb) (h : Heap) (w : World) : Prop :=
  ∀ i e k, F i = some e → h[i]? = some k → (∃ x, e = some x ∧ k ≠ .dead ∧ BR B0 F w x k) ∨ (e = none ∧ k = .dead)

theorem Sim.has {w0 : World} (s : Sim B0 w0 F h w) : Has B0 F h w := fun i e k he hk => by
  rcases s.ent he with ⟨x, k', h1, h2, h3, h4⟩ | ⟨h1, h2⟩
  · rw [hk] at h2; injection h2 with h2; subst h2
    exact .inl ⟨x, h1, h3, h4⟩
  · rw [hk] at h2; injection h2 with h2
    exact .inr ⟨h1, h2⟩

theorem loadV_ok {t : TypeId} {n : Option Nat} (hn : tyN P t = some n) {ad c : Addr} {e : Option Ent} (he : F ad.block = some e) (hc : ∀ x, e = some x → c = ⟨x.b, x.base + ad.off, none⟩)
    (hh : Has B0 F h w) (hl : loadV h n ad = some v) : ∃ d, (loadVar t c).run P w = .ok d w ∧ VR F v d := by
  have hrow : ∃ cs, hrow h ad.block = some cs := by
    cases n with
    | none =>
      simp only [loadV, ld1] at hl
      split at hl
      · rename_i cs hcs; exact ⟨cs, hcs⟩
      · cases hl
    | some n =>
      simp only [loadV, ldN] at hl
      split at hl
      · rename_i l hl2
        split at hl2
        · rename_i cs hcs; exact ⟨cs, hcs⟩
        · cases hl2
      · cases hl
  obtain ⟨cs, hcs⟩ := hrow
  have hb : ∃ ro, h[ad.block]? = some (.row cs ro) := by
    unfold hrow at hcs
    split at hcs
    · rename_i cs' ro hb; injection hcs with hcs; subst hcs; exact ⟨ro, hb⟩
    · cases hcs
  obtain ⟨ro, hb⟩ := hb
  rcases hh _ _ _ he hb with ⟨x, rfl, hd, hbr⟩ | ⟨_, hk⟩
  · obtain ⟨C, ct, fz, h1, h2, h3, h4, h5⟩ := hbr
    have e1 := hc x rfl
    subst e1
    have hag := run_isAgg' hn w
    cases n with
    | none =>
      simp only [loadV, ld1, hcs] at hl
      obtain ⟨d, h6, h7⟩ := h4.get hl
      refine ⟨d, ?_, h7⟩
      have hlt : ad.off < cs.length := (List.getElem?_eq_some_iff.1 hl).1
      rw [take_drop_get _ _ _ _ hlt] at h6
      have : w.cell? ⟨x.b, x.base + ad.off, none⟩ = some d := by rw [cell_row h1]; simpa using h6
      simp [loadVar, hag, this]
    | some n =>
      simp only [loadV, ldN, hcs] at hl
      split at hl <;> try (cases hl; done)
      rename_i l hl2
      obtain ⟨hle, rfl⟩ := ifSome hl2
      injection hl with hl
      subst hl
      have hr := run_loadCells_row (P := P) h1 (o := x.base + ad.off) (n := n) (by omega)
      refine ⟨.agg (((C.toList.drop (x.base + ad.off)).take n).toArray), ?_, .agg _ _ ?_⟩
      · simp [loadVar, hag, run_sizeOf' (tyN_size hn), hr]
      · simp only [List.toList_toArray]
        have := (h4.drop ad.off).take n
        rwa [sub_row _ _ _ _ _ hle] at this
  · cases hk

theorem findNow_ok {k : IntKind} {n : Int} {d : TypeDesc} (hd : ∃ j, d = .int j) : ∀ {es : List (Value × Value)} {xs : List MapEntry} {r : Option Value}, MR F es xs → mapGet (.int k n) es = some r →
    ∀ i, ∃ q, Instr.findNow d (.int k n) xs i = some q ∧ (match r, q with | none, none => True | some u, some (j, c) => VR F u c ∧ i ≤ j ∧ (∃ x, xs[j - i]? = some x ∧ x.key = .int k n) | _, _ => False)
  | _, _, r, .nil, hg, i => by
    simp [mapGet] at hg; subst hg
    exact ⟨none, rfl, trivial⟩
  | _, _, r, .cons k' n' u x es xs hk hv hs, hg, i => by
    obtain ⟨j, rfl⟩ := hd
    simp only [mapGet, eq1] at hg
    by_cases hkk : k = k'
    · subst hkk
      by_cases hn : n = n'
      · subst hn
        simp at hg
        subst hg
        refine ⟨some (i, x.val), by simp [Instr.findNow, hk, Instr.sameNow], hv, Nat.le_refl _, x, by simp, hk⟩
      · have : (n == n') = false := by simpa using hn
        simp [this] at hg
        obtain ⟨q, h1, h2⟩ := findNow_ok ⟨j, rfl⟩ hs hg (i + 1)
        refine ⟨q, by simp [Instr.findNow, hk, Instr.sameNow, this, h1], ?_⟩
        cases r with
        | none => cases q with
          | none => trivial
          | some q => exact h2
        | some u =>
          cases q with
          | none => exact h2
          | some q =>
            obtain ⟨h3, h4, y, h5, h6⟩ := h2
            refine ⟨h3, by omega, y, ?_, h6⟩
            rw [show q.1 - i = (q.1 - (i + 1)) + 1 from by omega, List.getElem?_cons_succ]
            exact h5
    · simp [hkk] at hg

theorem checkKey_int {t : TypeId} {j : IntKind} (ht : P.underlying t = some (.int j)) (b : Bool) (k : IntKind) (n : Int) (m : Nat) : (Instr.checkKey b (m + 1) t (.int k n)).run P w = .ok () w := by
  simp [Instr.checkKey, run_underlying ht]

theorem isInt_of {v : Value} (h : isInt v = true) : ∃ k n, v = .int k n := by
  cases v <;> simp [isInt] at h
  exact ⟨_, _, rfl⟩

theorem hmap_some {es : List (Value × Value)} {r : Nat} (hes : hmap h r = some es) : h[r]? = some (.map es) := by
  unfold Ir.hmap at hes
  split at hes
  · rename_i es' hb; injection hes with hes; subst hes; exact hb
  · cases hes

theorem Has.map {r : Nat} {e : Option Ent} {es : List (Value × Value)} (hh : Has B0 F h w) (he : F r = some e) (hes : h[r]? = some (.map es)) :
    ∃ x M clk, e = some x ∧ w.heap[x.b]? = some (.map M clk) ∧ MR F es M.toList ∧ B0 ≤ x.b := by
  rcases hh _ _ _ he hes with ⟨x, rfl, hd, hbr⟩ | ⟨_, hk⟩
  · obtain ⟨M, clk, hM, hmr, hB⟩ := hbr
    exact ⟨x, M, clk, rfl, hM, hmr, hB⟩
  · cases hk

theorem run_getObj_map {b : Nat} {M : Array MapEntry} {clk : Nat} (hM : w.heap[b]? = some (.map M clk)) : (getObj b).run P w = .ok (.map M clk) w := by
  simp [getObj, Sem.run, hM]

theorem MR.length : ∀ {es : List (Value × Value)} {xs : List MapEntry}, MR F es xs → es.length = xs.length
  | _, _, .nil => rfl
  | _, _, .cons _ _ _ _ _ _ _ _ hs => by simp [hs.length]

/-- Reading. -/
theorem read_ok {ops : List Oper} {o : Oper} {io : IOp} (hc : NP P LB ops o io) (hp : isRead io = true) (hop : OpOk LB F f a o) (hh : Has B0 F h w)
    (hv : iop call lo io f h = some (v, h')) : h' = h ∧ ∃ c, (execOp a.eval o).run P w = .ok (.value c) w ∧ VR F v c := by
  obtain ⟨dst, op, ty, pos, after, guard⟩ := o
  cases hc <;> simp [isRead] at hp
  case load t x n ho hn h1 =>
    simp only at ho
    subst ho
    simp only [iop] at hv
    split at hv <;> try (cases hv; done)
    rename_i ad hu
    split at hv <;> try (cases hv; done)
    rename_i u hl
    injection hv with hv
    injection hv with e1 e2
    subst e1 e2
    have hxv := hop x (by simp [Op.operands]) h1 _ hu
    generalize hce : a.eval x = cv at hxv
    cases hxv with
    | ptr _ c e hsp he hcc =>
      obtain ⟨d, h2, h3⟩ := loadV_ok hn he hcc hh hl
      exact ⟨rfl, d, by simp [execOp, hce, Instr.loadAt, Instr.sureAddr, h2], h3⟩
  case lookup t kt et j m k ok z ho hmp hkt hz h1 h2 =>
    simp only at ho
    subst ho
    obtain ⟨hz1, hz2, hz3⟩ := zeroFlat_of hz
    simp only [iop] at hv
    split at hv <;> try (cases hv; done)
    rename_i r kv hu hu'
    obtain ⟨hki, hv⟩ := ifSomeO hv
    obtain ⟨kk, kn, rfl⟩ := isInt_of hki
    have hkv := (hop k (by simp [Op.operands]) h2 _ hu').eq_flat1 rfl
    have hmv := hop m (by simp [Op.operands]) h1 _ hu
    generalize hme : a.eval m = mv at hmv
    have hz4 : VR F z z := VR.flat hz2
    cases hmv with
    | map0 =>
      simp only [mapGet] at hv
      injection hv with hv
      injection hv with e1 e2
      subst e1 e2
      refine ⟨rfl, if ok then .tuple #[z, .bool false] else z, ?_, ?_⟩
      · simp only [execOp, hme, hkv, Instr.lookup, Sem.run_bind, run_underlying hmp, Result.andThen_ok, Sem.run_pure]
        rw [checkKey_int hkt _ _ _ 9999]
        simp [Instr.findKey, run_underlying hkt, Instr.findNow, run_zeroValue' hz1]
      · cases ok
        · exact hz4
        · exact .tuple _ _ (by simpa using VRs.cons _ _ _ _ hz4 (.cons _ _ _ _ (.bool _) .nil))
    | map r c e he hcc =>
      simp only at hv
      split at hv <;> try (cases hv; done)
      rename_i es hes
      obtain ⟨x, M, clk, rfl, hM, hmr, _⟩ := hh.map he (hmap_some hes)
      · have e1 := hcc x rfl
        subst e1
        have hget := run_getObj_map (P := P) hM
        have run : ∀ q : Option (Nat × Value), Instr.findNow (.int j) (.int kk kn) M.toList 0 = some q →
            (execOp a.eval ⟨dst, .lookup t m k ok, ty, pos, after, guard⟩).run P w =
              .ok (.value (match q with | some (_, u) => if ok then .tuple #[u, .bool true] else u | none => if ok then .tuple #[z, .bool false] else z)) w := by
          intro q hq
          simp only [execOp, hme, hkv, Instr.lookup, Sem.run_bind, run_underlying hmp, Result.andThen_ok, hget, Sem.run_pure]
          rw [checkKey_int hkt _ _ _ 9999]
          simp only [Instr.findKey, Sem.run_bind, run_underlying hkt, Result.andThen_ok, hq, Sem.run_pure]
          cases q with
          | none => simp [run_zeroValue' hz1]
          | some q => simp
        split at hv
        · cases hv
        · rename_i hg
          obtain ⟨q, h4, h3⟩ := findNow_ok ⟨j, rfl⟩ hmr hg 0
          injection hv with hv
          injection hv with e1 e2
          subst e1 e2
          cases q with
          | none =>
            refine ⟨rfl, _, run none h4, ?_⟩
            cases ok
            · exact hz4
            · exact .tuple _ _ (by simpa using VRs.cons _ _ _ _ hz4 (.cons _ _ _ _ (.bool _) .nil))
          | some q => exact h3.elim
        · rename_i u hg
          obtain ⟨q, h4, h3⟩ := findNow_ok ⟨j, rfl⟩ hmr hg 0
          injection hv with hv
          injection hv with e1 e2
          subst e1 e2
          cases q with
          | none => exact h3.elim
          | some q =>
            refine ⟨rfl, _, run _ h4, ?_⟩
            cases ok
            · exact h3.1
            · exact .tuple _ _ (by simpa using VRs.cons _ _ _ _ h3.1 (.cons _ _ _ _ (.bool _) .nil))
  case maplen t kt et x ho hu1 h1 =>
    simp only at ho
    subst ho
    simp only [iop] at hv
    split at hv <;> try (cases hv; done)
    rename_i r hu
    split at hv <;> try (cases hv; done)
    rename_i es hes
    injection hv with hv
    injection hv with e1 e2
    subst e1 e2
    obtain ⟨cs, hcs⟩ := run_builtin (P := P) (a := a) (dst := dst) (ty := ty) (pos := pos) (after := after) (guard := guard) (b := .len) (args := #[x]) (ts := #[t])
    refine ⟨rfl, .int .i64 es.length, ?_, .int _ _⟩
    rw [hcs]
    have hmv := hop x (by simp [Op.operands, Call.operands]) h1 _ hu
    generalize hme : a.eval x = mv at hmv
    cases hmv with
    | map0 =>
      simp only at hes
      injection hes with hes
      subst hes
      simp [builtin, Builtin.len_, hme, run_underlying hu1, goInt]
    | map r c e he hcc =>
      simp only at hes
      obtain ⟨x, M, clk, rfl, hM, hmr, _⟩ := hh.map he (hmap_some hes)
      have e1 := hcc x rfl
      subst e1
      have := hmr.length
      simp at this
      simp [builtin, Builtin.len_, hme, run_underlying hu1, run_getObj_map (P := P) hM, goInt, this]

end
end Go.Ir
