/- 'Rows.EventCutSaid' ('sidings/sidingslaw08.EventCut'): for every input it returns true, and its arguments read as before. No condition. -/
import Derived.Test.YtgdlplhglpinaaaRows
import Derived.WalkKit
import Derived.ProofKit
import Derived.OpenShut
import Derived.Test.YtgdlplhglpinaaaEventP
import Derived.Test.YtgdlplhglpinaaaEventQ

namespace Go.Proofs.Ytgdlplhglpinaaa.eventCut
open Go Go.Ir Go.ChangeShapes Go.WideShapes Go.ChangeAt Go.RowKit
set_option linter.unusedVariables false
set_option linter.unusedSimpArgs false

theorem own : ownKnob Try.prog.godebug = none := by kernel_rfl

set_option maxRecDepth 100000 in
theorem lifted (os : Os) (started : os.Started) (H : Type) (enc : TypeId × Value → H) :
    ReturnsInHanded {} Try.checked os 6 .any (Rows.eventCutSpec.pre6 enc Try.prog Try.f6 Rows.eventCutRow.domain false) (Rows.eventCutSpec.post enc Try.prog Try.f6 false true false false) := by
  refine returnsInHanded_of_change (C := Try.checked) own started (by kernel_rfl) Try.func6
    (ChangeSpec.witness6 (enc := enc) (C := Try.checked) false ⟨#[], #[.slice none 0 0, .int .i64 0], []⟩ 8 (by kernel_rfl) (by kernel_rfl) (by kernel_rfl) (by kernel_rfl)) ?_
  intro W base args ds gs before hval0 hW hcnd _
  have hval : ∀ (j : Nat) t v, Try.f6.params[j]? = some t → args[j]? = some v → Value.okWide Try.prog W .any base t v := hval0
  have hW' := hW
  have hlt := fun p hp => hW.lt p hp
  obtain ⟨p, q, hA0, hV, rfl, hfz, hnd⟩ := hW
  have hA : DataW.TrodAll enc Try.prog W 0 (fun _ => true) true Try.f6.params.toList args.toList ds p := hA0
  rw [Try.params6] at hA hval
  obtain ⟨v0, vs0, d0, ds0, p0, q0, hargs, rfl, rfl, h0, r0⟩ := trodAll_cons hA
  obtain ⟨v1, vs1, d1, ds1, p1, q1, rfl, rfl, rfl, h1, r1⟩ := trodAll_cons r0
  obtain ⟨rfl, rfl, rfl⟩ := trodAll_nil r1
  obtain rfl : args = #[v0, v1] := by cases args; simp_all
  obtain ⟨rfl, rfl⟩ := trodVars_none hV
  obtain ⟨E0, hp0, b0, l0, s0, le0, ro0, ex0, vr0, sl0, ti0⟩ := open_evs (sim_nil W) roH_nil (hval 0 22 v0 rfl rfl) h0
  obtain ⟨a1, rfl, rfl, rfl, w1⟩ := open_int Try.underlying3 (hval 1 3 v1 rfl rfl) h1
  clear hA0 hval0
  simp only [List.append_nil] at hW' hlt
  obtain ⟨h', hr⟩ := cut_run (m := a1) sl0 ti0
  refine (walk_emb En_ok mixed (cs := #[v0, .int .i64 a1]) s0 (.cons _ _ _ _ vr0 (.cons _ _ _ _ (.int _ _) .nil)) hr).mono fun e W' ⟨he, hg⟩ => ?_
  subst he
  have t0 := Below.trod (by kernel_rfl) (by kernel_rfl) (by decide +kernel) h0 hg (fun x hx => hlt x (by simp [hx]))
  exact ⟨_, rfl, post_args (pa := p0) (pv := []) hW' (fun _ _ _ => (trodAll_cons_mk (shut_bool Try.underlying4 _) trodAll_mk0))
    (by have := (trodAll_cons_mk t0 (trodAll_cons_mk (shut_int Try.underlying3 w1) trodAll_mk0)); have hh : DataW.TrodAll enc Try.prog W' 0 (fun b => decide (b < W.heap.size)) true [22, 3] [v0, .int .i64 a1] [d0, .lit (.int .i64 a1)] (p0) := (by simpa using this); exact hh) (fun _ _ => rfl) (by simp) (hg.frame _)⟩

theorem over : Rows.eventCutRow.holds Try.pinned (OpenSpec.ofChange Rows.eventCutSpec) :=
  OpenClaim.holds_of_wide 6 Try.f6 rfl rfl rfl rfl rfl rfl rfl ⟨rfl, rfl, rfl, rfl, rfl⟩ rfl rfl rfl rfl rfl (by kernel_rfl) Try.func6 (by kernel_rfl)
    (of_decide_eq_true (by kernel_rfl)) (by unfold Func.isWrapper; first | (rw [if_pos (by decide +kernel)]; kernel_rfl) | (rw [if_neg (by decide +kernel)]; exact ⟨rfl, rfl⟩))
    (fun os started H enc _ => lifted os started H enc)

theorem holds : Rows.EventCutSaid := over
end Go.Proofs.Ytgdlplhglpinaaa.eventCut
