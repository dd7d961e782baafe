/- Tables of functions; equations for symbolic runs; closed calls. -/
import Derived.Test.YtbkdahiplcbppaaGreatIrLim
set_option linter.unusedVariables false
set_option linter.unusedSimpArgs false
namespace Go.Ir

theorem lookup_mem {α : Type} : ∀ {l : List (Nat × α)} {g : Nat} {v : α}, l.lookup g = some v → (g, v) ∈ l
  | [], g, v, h => by simp at h
  | (k, u) :: l, g, v, h => by
    simp only [List.lookup_cons] at h
    split at h
    · rename_i he
      have : g = k := by simpa using he
      injection h with h
      subst this h
      simp
    · exact List.mem_cons_of_mem _ (lookup_mem h)

def TblOk (P : Program) (tbl : List (Nat × IFunc)) : Prop := ∀ p ∈ tbl, ∃ F hint, P.funcs[p.1]? = some F ∧ cFunc P F hint = some p.2

theorem TblOk.nil {P : Program} : TblOk P [] := fun p hp => by cases hp
theorem TblOk.cons {P : Program} {g : Nat} {fn : IFunc} {l : List (Nat × IFunc)} {F : Func} {hint : Hint} (h1 : P.funcs[g]? = some F) (h2 : cFunc P F hint = some fn) (h : TblOk P l) : TblOk P ((g, fn) :: l) := by
  intro p hp
  rcases List.mem_cons.1 hp with rfl | hp
  · exact ⟨_, _, h1, h2⟩
  · exact h p hp

theorem envOk_tbl {P : Program} {tbl : List (Nat × IFunc)} (h : TblOk P tbl) (prims : List (Nat × Prim)) (hk : ∀ p ∈ prims, (∀ lo vs h v h', p.2 lo vs h = some (v, h') → Kp lo h h') ∧ PrimOk P p.1 p.2) :
    EnvOk P { fn := fun g => tbl.lookup g, prim := fun g => prims.lookup g } :=
  ⟨fun g p hp => (hk _ (lookup_mem hp)).1, fun g p hp => (hk _ (lookup_mem hp)).2, fun g fn _ hf => h _ (lookup_mem hf)⟩

/-! ### equations -/
section
variable {E : Env} {lo : Nat} {k : List Item} {f : Fr} {h : Heap}

theorem exR_none {items : List Item} (he : ∀ n, exN E n lo items f h = none) : exR E lo items f h = none := by
  cases hr : exR E lo items f h with
  | none => rfl
  | some r => obtain ⟨n, hn⟩ := exR_iff.1 hr; rw [he] at hn; cases hn

theorem eqR_cond {c : Operand} {a b : ICode} : exR E lo (.code (.cond c a b) :: k) f h =
    match ev f c with
    | some (.bool t) => if t then exR E lo (.code a :: k) f h else exR E lo (.code b :: k) f h
    | _ => none := by
  split
  · rename_i t ht
    rw [exR_cond ht]
    cases t <;> rfl
  · rename_i hn
    refine exR_none fun n => ?_
    cases n with
    | zero => rfl
    | succ n =>
      rw [exN]
      split
      · rename_i t ht; exact absurd ht (hn t)
      · rfl

theorem eqR_exit {id : Nat} : exR E lo (.code (.exit id) :: k) f h =
    match exitI id k with
    | some k' => exR E lo k' f h
    | none => none := by
  split
  · rename_i k' hk; exact exR_exit hk
  · rename_i hn
    refine exR_none fun n => ?_
    cases n with
    | zero => rfl
    | succ n => simp only [exN, hn]

theorem eqR_goto {l : Nat} {ls : List Nat} : exR E lo (.code (.goto l ls) :: k) f h =
    match gotoI l k with
    | some k' => exR E lo k' (keep ls f) h
    | none => none := by
  split
  · rename_i k' hk; exact exR_goto hk
  · rename_i hn
    refine exR_none fun n => ?_
    cases n with
    | zero => rfl
    | succ n => simp only [exN, hn]

theorem eqR_region {ops : List IOper} : exR E lo (.code (.region ops) :: k) f h =
    match iops (callR E lo) lo ops f h [] with
    | some (f', h') => exR E lo k f' h'
    | none => none := by
  split
  · rename_i f' h' hv; exact exR_region hv
  · rename_i hn
    refine exR_none fun n => ?_
    cases n with
    | zero => rfl
    | succ n =>
      rw [exN]
      split
      · rename_i f1 h1 h2
        have : iops (callR E lo) lo ops f h [] = some (f1, h1) := iops_le (fun g vs h r hv => callR_iff.2 ⟨n, hv⟩) h2
        rw [hn] at this; cases this
      · rfl
end

/-! ### calls that need nothing of the heap -/
def constPrim (v : Value) : Prim := fun _ args h =>
  match args with
  | [] => some (v, h)
  | _ => none

theorem constPrim_kp (v : Value) (lo : Nat) (vs : List Value) (h : Heap) (u : Value) (h' : Heap) (hv : constPrim v lo vs h = some (u, h')) : Kp lo h h' := by
  unfold constPrim at hv
  split at hv
  · injection hv with hv; injection hv with _ e; subst e; exact .refl _ _
  · cases hv

/-- From an older world to one that is the same below its end. -/
theorem Sim.below_same {B0 : Nat} {w0 : World} {E : Emb} {h : Heap} {w w' : World} (s : Sim B0 w0 E h w) (hB : B0 ≤ w0.heap.size) (hb : Go.RowKit.Below w.heap.size w w') : Sim B0 w0 E h w' ∧ Later E w E w' := by
  have hsame : ∀ b, b < w.heap.size → w'.heap[b]? = w.heap[b]? := hb.block
  refine ⟨⟨s.below.trans (hb.mono (Nat.le_trans hB s.below.size)), s.out, s.dead, fun i k hi hk => ?_, s.inj⟩, ⟨Emb.le_refl _, fun i x hx => .inl ⟨i, x, hx, rfl⟩, hb.size, fun b hb' _ => hsame b hb'⟩⟩
  obtain ⟨x, hx, hbr⟩ := s.live i k hi hk
  exact ⟨x, hx, hbr.world (hsame _ (hbr.lt hk))⟩

theorem sim_nil (w : World) : Sim w.heap.size w (fun _ => none) [] w :=
  ⟨Go.RowKit.Below.refl _ _, fun _ _ => rfl, fun i hi => by simp at hi, fun i k hi => by simp at hi, fun i j x y _ hx => by cases hx⟩

theorem closed_prim {P : Program} {E0 : Env} (ok : EnvOk P E0) (hmix : P.follows .mixedOrders = true) {n g : Nat} {v : Value} {h' : Heap} (hf : flatV v = true)
    (hv : callW E0 (exN E0 n) 0 g [] [] = some (v, h')) : PrimOk P g (constPrim v) := by
  intro B0 w0 lo hB0 vs h u h2 hp
  unfold constPrim at hp
  split at hp <;> try (cases hp; done)
  injection hp with hp; injection hp with e1 e2; subst e1 e2
  refine ⟨(calls_ok ok hmix n 0 w0 0 (Nat.zero_le _) g _ _ _ _ hv).1, fun E w cs s hcs => ?_⟩
  have hc := (calls_ok ok hmix n w.heap.size w 0 (Nat.le_refl _) g _ _ _ _ hv).2 (fun _ => none) w cs (sim_nil w) (by cases hcs'' : cs.toList with
    | nil => exact .nil
    | cons a l => rw [hcs''] at hcs; cases hcs)
  refine Calls.mono hc fun e w' he => ?_
  obtain ⟨c, E', rfl, g1, g2, g3⟩ := he
  obtain ⟨k1, k2⟩ := s.below_same hB0 g1.below
  refine ⟨c, E, rfl, k1, k2, ?_⟩
  have : c = v := by
    cases v with
    | agg cs => cases g3 with
      | agg _ c' h => have := h.eq_flat (by simpa [flatV] using hf); rw [Array.toList_inj.1 this]
    | tuple cs => cases g3 with
      | tuple _ c' h => have := h.eq_flat (by simpa [flatV] using hf); rw [Array.toList_inj.1 this]
    | _ => exact g3.eq_flat1 (by simpa [flatV] using hf)
  rw [this]
  exact VR.flat hf

end Go.Ir
