/- 'Rows.EventHandlesSaid' ('sidings/sidingslaw08.EventHandles'): for every input it returns true, and its arguments read as before. No condition. -/
import Derived.Test.YtgdlplhglpinaaaRows
import Derived.WalkKit
import Derived.ProofKit
import Derived.OpenShut
import Derived.Test.YtgdlplhglpinaaaEventP
import Derived.Test.YtgdlplhglpinaaaEventR

namespace Go.Proofs.Ytgdlplhglpinaaa.eventHandles
open Go Go.Ir Go.ChangeShapes Go.WideShapes Go.ChangeAt Go.RowKit
set_option linter.unusedVariables false
set_option linter.unusedSimpArgs false

theorem own : ownKnob Try.prog.godebug = none := by kernel_rfl

set_option maxRecDepth 100000 in
theorem lifted (os : Os) (started : os.Started) (H : Type) (enc : TypeId × Value → H) :
    ReturnsInHanded {} Try.checked os 8 .any (Rows.eventHandlesSpec.pre6 enc Try.prog Try.f8 Rows.eventHandlesRow.domain false) (Rows.eventHandlesSpec.post enc Try.prog Try.f8 false true false false) := by
  refine returnsInHanded_of_change (C := Try.checked) own started (by kernel_rfl) Try.func8
    (ChangeSpec.witness6 (enc := enc) (C := Try.checked) false ⟨#[], #[.slice none 0 0, .slice none 0 0], []⟩ 8 (by kernel_rfl) (by kernel_rfl) (by kernel_rfl) (by kernel_rfl)) ?_
  intro W base args ds gs before hval0 hW hcnd _
  have hval : ∀ (j : Nat) t v, Try.f8.params[j]? = some t → args[j]? = some v → Value.okWide Try.prog W .any base t v := hval0
  have hW' := hW
  have hlt := fun p hp => hW.lt p hp
  obtain ⟨p, q, hA0, hV, rfl, hfz, hnd⟩ := hW
  have hA : DataW.TrodAll enc Try.prog W 0 (fun _ => true) true Try.f8.params.toList args.toList ds p := hA0
  rw [Try.params8] at hA hval
  obtain ⟨v0, vs0, d0, ds0, p0, q0, hargs, rfl, rfl, h0, r0⟩ := trodAll_cons hA
  obtain ⟨v1, vs1, d1, ds1, p1, q1, rfl, rfl, rfl, h1, r1⟩ := trodAll_cons r0
  obtain ⟨rfl, rfl, rfl⟩ := trodAll_nil r1
  obtain rfl : args = #[v0, v1] := by cases args; simp_all
  obtain ⟨rfl, rfl⟩ := trodVars_none hV
  obtain ⟨E0, hp0, b0, l0, s0, le0, ro0, ex0, vr0, sl0, ti0⟩ := open_evs (sim_nil W) roH_nil (hval 0 22 v0 rfl rfl) h0
  obtain ⟨E1, hp1, b1, l1, s1, le1, ro1, ex1, vr1, sl1, ti1⟩ := open_evs s0 ro0 (hval 1 22 v1 rfl rfl) h1
  clear hA0 hval0
  simp only [List.append_nil] at hW' hlt
  obtain ⟨h', hr⟩ := handles_run (sl0.ext ex1) sl1
  refine (walk_emb En_ok mixed (cs := #[v0, v1]) s1 (.cons _ _ _ _ (VR.mono le1 vr0) (.cons _ _ _ _ vr1 .nil)) hr).mono fun e W' ⟨he, hg⟩ => ?_
  subst he
  have t0 := Below.trod (by kernel_rfl) (by kernel_rfl) (by decide +kernel) h0 hg (fun x hx => hlt x (by simp [hx]))
  have t1 := Below.trod (by kernel_rfl) (by kernel_rfl) (by decide +kernel) h1 hg (fun x hx => hlt x (by simp [hx]))
  exact ⟨_, rfl, post_args (pa := p0 ++ p1) (pv := []) hW' (fun _ _ _ => (trodAll_cons_mk (shut_bool Try.underlying4 _) trodAll_mk0))
    (by have := (trodAll_cons_mk t0 (trodAll_cons_mk t1 trodAll_mk0)); have hh : DataW.TrodAll enc Try.prog W' 0 (fun b => decide (b < W.heap.size)) true [22, 22] [v0, v1] [d0, d1] (p0 ++ p1) := (by simpa using this); exact hh) (fun _ _ => rfl) (by simp) (hg.frame _)⟩

theorem over : Rows.eventHandlesRow.holds Try.pinned (OpenSpec.ofChange Rows.eventHandlesSpec) :=
  OpenClaim.holds_of_wide 8 Try.f8 rfl rfl rfl rfl rfl rfl rfl ⟨rfl, rfl, rfl, rfl, rfl⟩ rfl rfl rfl rfl rfl (by kernel_rfl) Try.func8 (by kernel_rfl)
    (of_decide_eq_true (by kernel_rfl)) (by unfold Func.isWrapper; first | (rw [if_pos (by decide +kernel)]; kernel_rfl) | (rw [if_neg (by decide +kernel)]; exact ⟨rfl, rfl⟩))
    (fun os started H enc _ => lifted os started H enc)

theorem holds : Rows.EventHandlesSaid := over
end Go.Proofs.Ytgdlplhglpinaaa.eventHandles
