/- From a run of the small language to the end of a statement. -/
import Derived.Test.YtbkdahiplcbppaaGreatIrEnv
import Derived.ChangeSame
set_option linter.unusedVariables false
set_option linter.unusedSimpArgs false
namespace Go.Ir

theorem post_plain {H : Type} {enc : TypeId × Value → H} {P : Program} {f : Func} {s : ChangeSpec} {apart fresh handsOn : Bool} {W W' : World} {args : Array Value} {v : Value} {ds gs : List (DataW H)} {before pa pv : List MemPlace}
    (hW : DataW.Whole enc P f.params.toList s.vars apart W args.toList ds gs before)
    (hres : ∀ (b : Nat) (sp : Nat → Bool) (hd : Bool), DataW.TrodAll enc P W' b sp hd f.resultTypes.toList (v.resultList f.resultTypes.size) (s.fn H (ds ++ gs)).results [])
    (hargs : ∀ sp : Nat → Bool, (∀ p ∈ before, sp p.block = true) → DataW.TrodAll enc P W' 0 sp true f.params.toList args.toList (s.fn H (ds ++ gs)).args pa)
    (hvars : ∀ sp : Nat → Bool, (∀ p ∈ before, sp p.block = true) → DataW.TrodVars enc P W' sp s.vars (s.fn H (ds ++ gs)).vars pv)
    (hps : before = pa ++ pv) (hk : W.keptBut W' (· ∈ before)) :
    s.post enc P f apart fresh handsOn false W args v W' := by
  have hold : ∀ p ∈ before, (fun b => decide (b < W.heap.size)) p.block = true := fun p hp => by simpa using hW.lt p hp
  refine ⟨ds, gs, before, [], pa, pv, hW, hres _ _ _, hargs _ hold, hvars _ hold, World.keptBut_mono (fun p hp => ⟨hp, ?_⟩) hk, fun h => by cases h⟩
  rw [hps, List.mem_append] at hp
  exact Or.inr hp

theorem VRs.flatV {E : Emb} : ∀ {vs : List Value}, (∀ v ∈ vs, Ir.flatV v = true) → VRs E vs vs
  | [], _ => .nil
  | v :: vs, h => .cons _ _ _ _ (VR.flat (h v (by simp))) (VRs.flatV fun u hu => h u (by simp [hu]))

/-- A law whose arguments hold no address. -/
theorem walk_flat {P : Program} {E : Env} (ok : EnvOk P E) (hmix : P.follows .mixedOrders = true) {n g : Nat} {vs : List Value} {h' : Heap} (hf : ∀ v ∈ vs, flatV v = true)
    (hv : callW E (exN E n) 0 g vs [] = some (.bool true, h')) (w : World) :
    Calls P g vs.toArray w fun e w' => e = .returned (.bool true) ∧ Go.RowKit.Below w.heap.size w w' := by
  have hc := (calls_ok ok hmix n w.heap.size w 0 (Nat.le_refl _) g _ _ _ _ hv).2 (fun _ => none) w vs.toArray (sim_nil w) (by simpa using VRs.flatV hf)
  refine Calls.mono hc fun e w' he => ?_
  obtain ⟨c, E', rfl, g1, g2, g3⟩ := he
  cases g3
  exact ⟨rfl, g1.below⟩

def okB (r : Option (Value × Heap)) : Bool := match r with | some (.bool true, _) => true | _ => false

/-- A closed call that answers true. -/
theorem closed_true {P : Program} {E0 : Env} (ok : EnvOk P E0) (hmix : P.follows .mixedOrders = true) {n g : Nat}
    (hv : okB (callW E0 (exN E0 n) 0 g [] []) = true) : PrimOk P g (constPrim (.bool true)) := by
  unfold okB at hv
  split at hv <;> try (cases hv; done)
  rename_i h' hr
  exact closed_prim ok hmix rfl hr

theorem run_true {E : Env} {n g : Nat} {vs : List Value} (hv : okB (callW E (exN E n) 0 g vs []) = true) :
    ∃ h', callW E (exN E n) 0 g vs [] = some (.bool true, h') := by
  unfold okB at hv
  split at hv <;> try (cases hv; done)
  rename_i h' hr
  exact ⟨h', hr⟩
end Go.Ir
