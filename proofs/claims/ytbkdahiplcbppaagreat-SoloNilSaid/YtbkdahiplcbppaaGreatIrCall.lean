/- Calls; every effect, ahead of what follows. -/
import Derived.Test.YtbkdahiplcbppaaGreatIrReg2
import Derived.Calls
set_option linter.unusedVariables false
set_option linter.unusedSimpArgs false
namespace Go.Ir

/-- A call of the function goes into its body. -/
def Enters (P : Program) (g : Nat) : Prop := ∀ args w, (callFunc g args).run P w = .ok (.enter g args) w

def CallOk (P : Program) (B0 : Nat) (w0 : World) (call : CallF) : Prop :=
  ∀ g vs h v h', call g vs h = some (v, h') → Enters P g ∧ ∀ (E : Emb) (w : World) (cs : Array Value), Sim B0 w0 E h w → VRs E vs cs.toList →
    Calls P g cs w fun e w' => ∃ c E', e = .returned c ∧ Sim B0 w0 E' h' w' ∧ Later E w E' w' ∧ VR E' v c

section
variable {P : Program} {LB : List Nat} {E : Emb} {f : Fr} {a : Act} {call : CallF} {lo : Nat} {h h' : Heap} {v : Value} {w w0 : World} {B0 : Nat}

theorem Sim.base (s : Sim B0 w0 E h w) (hB0 : B0 ≤ w0.heap.size) : B0 ≤ w.heap.size := Nat.le_trans hB0 s.below.size

theorem methodTab_ok {name : String} {t g : Nat} (h : (methodTab P name).lookup t = some g) (recv : Value) (w : World) :
    ∃ r, r = recv ∧ (method (P.types.size + Made.depth) t recv name).run P w = .ok (g, r) w := by
  have hm : (t, g) ∈ methodTab P name := by
    generalize methodTab P name = l at h
    induction l with
    | nil => simp at h
    | cons p l ih =>
      obtain ⟨k, v⟩ := p
      simp only [List.lookup_cons] at h
      split at h
      · rename_i he
        have : t = k := by simpa using he
        injection h with h
        subst this h
        simp
      · exact List.mem_cons_of_mem _ (ih h)
  simp only [methodTab, List.mem_filterMap] at hm
  obtain ⟨t', ht', hm⟩ := hm
  split at hm <;> try (cases hm; done)
  rename_i i hi
  split at hm <;> try (cases hm; done)
  rename_i m hfind
  split at hm <;> try (cases hm; done)
  · rename_i g' e hf hp hu
    injection hm with hm
    injection hm with e1 e2
    subst e1 e2
    refine ⟨recv, rfl, ?_⟩
    have hmp : m.path.toList = [] := by
      have : m.path = #[] := by simpa using hp
      rw [this]
    obtain ⟨q, hq⟩ : ∃ q, P.types.size + Made.depth = q + 1 := ⟨P.types.size + 99, rfl⟩
    rw [hq]
    simp only [method, Sem.run_bind, run_typeInfo (w := w) hi, Result.andThen_ok, hfind, hmp, follow, Sem.run_pure, hf, receiverAt, run_underlying hu]
    rfl
  · rename_i g' e hf hp hu
    injection hm with hm
    injection hm with e1 e2
    subst e1 e2
    refine ⟨recv, rfl, ?_⟩
    have hmp : m.path.toList = [] := by
      have : m.path = #[] := by simpa using hp
      rw [this]
    obtain ⟨q, hq⟩ : ∃ q, P.types.size + Made.depth = q + 1 := ⟨P.types.size + 99, rfl⟩
    rw [hq]
    simp only [method, Sem.run_bind, run_typeInfo (w := w) hi, Result.andThen_ok, hfind, hmp, follow, Sem.run_pure, hf, receiverAt, run_underlying hu]
    rfl

/-- What a call's operation comes to: the function is entered. -/
theorem call_enters {ops : List Oper} {o : Oper} {io : IOp} (hc : NP P LB ops o io) (hp : isCall io = true) (hop : OpOk LB E f a o) (hcall : CallOk P B0 w0 call)
    (hv : iop call lo io f h = some (v, h')) : ∃ g vs args, call g vs h = some (v, h') ∧ VRs E vs args.toList ∧ (execOp a.eval o).run P w = .ok (.enter g args) w := by
  obtain ⟨dst, op, ty, pos, after, guard⟩ := o
  cases hc <;> simp [isCall] at hp
  case call c g ho hcc hx =>
    simp only at ho
    subst ho
    obtain ⟨cal, args, ts⟩ := c
    simp only at hcc
    subst hcc
    simp only [iop] at hv
    split at hv <;> try (cases hv; done)
    rename_i vs hvs
    have hen := (hcall g vs h v h' hv).1
    have hr := evs_ok (a := a) hx (fun x hx => hop x (by simp [Op.operands, Call.operands]; right; simpa using hx)) hvs
    refine ⟨g, vs, args.map a.eval, hv, by simpa using hr, ?_⟩
    have := hen (args.map a.eval) w
    simp only [execOp, resolve, Act.eval, Deferred.ofValue, Sem.run_bind, Sem.run_pure, Result.andThen_ok, invoke]
    simpa using this
  case callv c x ho hcc h0 hx =>
    simp only at ho
    subst ho
    obtain ⟨cal, args, ts⟩ := c
    simp only at hcc
    subst hcc
    simp only [iop] at hv
    split at hv <;> try (cases hv; done)
    rename_i fv vs hfv hvs
    split at hv <;> try (cases hv; done)
    rename_i g caps hcal
    have hen := (hcall g _ h v h' hv).1
    have hr := evs_ok (a := a) hx (fun x hx => hop x (by simp [Op.operands, Call.operands]; right; simpa using hx)) hvs
    have hfr := hop x (by simp [Op.operands, Call.operands]) h0 _ hfv
    generalize hce : a.eval x = cv at hfr
    unfold callee at hcal
    split at hcal <;> try (cases hcal; done)
    obtain ⟨hz, hcal⟩ := ifSome hcal
    injection hcal with e1 e2
    subst e1 e2
    cases hfr with
    | func fn f0 f' c0 c' hf hcc =>
      have hz' : f'.size = 0 := by have := hf.length; simp at this; omega
      have : f' = #[] := Array.eq_empty_of_size_eq_zero hz'
      subst this
      refine ⟨_, _, args.map a.eval ++ c', hv, by simpa using hr.app hcc, ?_⟩
      have := hen (args.map a.eval ++ c') w
      simp only [execOp, resolve, hce, Deferred.ofValue, Sem.run_bind, Sem.run_pure, Result.andThen_ok, invoke]
      simpa using this
  case invoke c x name ho hcc h0 hx =>
    simp only at ho
    subst ho
    obtain ⟨cal, args, ts⟩ := c
    simp only at hcc
    subst hcc
    simp only [iop] at hv
    split at hv <;> try (cases hv; done)
    rename_i t rv vs hfv hvs
    split at hv <;> try (cases hv; done)
    rename_i g hg
    have hen := (hcall g _ h v h' hv).1
    have hr := evs_ok (a := a) hx (fun x hx => hop x (by simp [Op.operands, Call.operands]; right; simpa using hx)) hvs
    have hfr := hop x (by simp [Op.operands, Call.operands]) h0 _ hfv
    generalize hce : a.eval x = cv at hfr
    cases hfr with
    | iface _ _ c hrv =>
      obtain ⟨r, rfl, hm⟩ := methodTab_ok hg c w
      refine ⟨g, _, #[r] ++ args.map a.eval, hv, by simpa using VRs.cons _ _ _ _ hrv hr, ?_⟩
      have := hen (#[r] ++ args.map a.eval) w
      simp only [execOp, resolve, hce, Sem.run_bind, Sem.run_pure, Result.andThen_ok, invoke]
      have e0 : (#[Value.iface t r] ++ Array.map a.eval args)[0]? = some (Value.iface t r) := by
        rw [Array.getElem?_append_left (by simp)]; rfl
      have e1 : (#[Value.iface t r] ++ Array.map a.eval args).extract 1 (#[Value.iface t r] ++ Array.map a.eval args).size = Array.map a.eval args := by
        apply Array.ext'
        simp
        rw [List.take_of_length_le (by simp)]
      simp only [e0, e1, callMethod, Sem.run_bind, run_program, Result.andThen_ok, hm]
      exact this

/-- An effect, and what follows. -/
theorem eff_wp {ops : List Oper} {o : Oper} {io : IOp} (hc : NP P LB ops o io) (hp : isEff io = true) (hop : OpOk LB E f a o) (s : Sim B0 w0 E h w) (hB0 : B0 ≤ w0.heap.size)
    (hcall : CallOk P B0 w0 call) (hv : iop call lo io f h = some (v, h')) {next : Act → World → Prop} {Q : Exit → Act → World → Prop}
    (hn : ∀ c w' E', Sim B0 w0 E' h' w' → Later E w E' w' → VR E' v c → next (a.put o.dst c) w') : o.wp P a w next Q := by
  cases hcl : isCall io with
  | false =>
    obtain ⟨c, w', E', hr, g1, g2, g3⟩ := eff_ok hc hp hcl hop s (s.base hB0) hv
    unfold Oper.wp
    rcases hr with hr | ⟨hr, rfl⟩
    · rw [hr]; exact hn _ _ _ g1 g2 g3
    · rw [hr]; exact hn _ _ _ g1 g2 g3
  | true =>
    obtain ⟨g, vs, args, h1, h2, h3⟩ := call_enters (w := w) hc hcl hop hcall hv
    have hcc := (hcall g vs h v h' h1).2 E w args s h2
    unfold Oper.wp
    rw [h3]
    refine Calls.mono hcc fun e w' he => ?_
    obtain ⟨c, E', rfl, g1, g2, g3⟩ := he
    exact hn _ _ _ g1 g2 g3

end
end Go.Ir
