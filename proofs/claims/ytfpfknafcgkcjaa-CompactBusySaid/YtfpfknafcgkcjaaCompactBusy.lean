/- 'Rows.CompactBusySaid' ('sidings/sidingslaw18.CompactBusy'): for every input it returns true, and its arguments read as before. No condition. -/
import Derived.Test.YtfpfknafcgkcjaaRows
import Derived.WalkKit
import Derived.ProofKit
import Derived.OpenShut
import Derived.Test.YtfpfknafcgkcjaaCompactY

namespace Go.Proofs.Ytfpfknafcgkcjaa.compactBusy
open Go Go.Ir Go.ChangeShapes Go.WideShapes Go.ChangeAt Go.RowKit
set_option linter.unusedVariables false
set_option linter.unusedSimpArgs false

theorem own : ownKnob Try.prog.godebug = none := by kernel_rfl

set_option maxRecDepth 100000 in
theorem lifted (os : Os) (started : os.Started) (H : Type) (enc : TypeId × Value → H) :
  ReturnsInHanded {} Try.checked os 4 .any (Rows.compactBusySpec.pre6 enc Try.prog Try.f4 Rows.compactBusyRow.domain false) (Rows.compactBusySpec.post enc Try.prog Try.f4 false true false false) := by
 refine returnsInHanded_of_change (C := Try.checked) own started (by kernel_rfl) Try.func4
  (ChangeSpec.witness6 (enc := enc) (C := Try.checked) false ⟨#[], #[.agg #[.int .i64 0, .int .i64 0, .int .i64 0, .slice none 0 0, .int .i64 0, .int .i64 0]], []⟩ 8 (by kernel_rfl) (by kernel_rfl) (by kernel_rfl) (by kernel_rfl)) ?_
 intro W base args ds gs before hval0 hW hcnd _
 have hval : ∀ (j : Nat) t v, Try.f4.params[j]? = some t → args[j]? = some v → Value.okWide Try.prog W .any base t v := hval0
 have hW' := hW
 have hlt := fun p hp => hW.lt p hp
 obtain ⟨p, q, hA0, hV, rfl, hfz, hnd⟩ := hW
 have hA : DataW.TrodAll enc Try.prog W 0 (fun _ => true) true Try.f4.params.toList args.toList ds p := hA0
 rw [Try.params4] at hA hval
 obtain ⟨v0, vs0, d0, ds0, p0, q0, hargs, rfl, rfl, h0, r0⟩ := trodAll_cons hA
 obtain ⟨rfl, rfl, rfl⟩ := trodAll_nil r0
 obtain rfl : args = #[v0] := by cases args; simp_all
 obtain ⟨rfl, rfl⟩ := trodVars_none hV
 obtain ⟨E0, hp0, b0, w0, l0, cB, pdB, ntB, s0, le0, ro0, ex0, vr0, sl0, ti0, rfl⟩ := open_busy (sim_nil W) roH_nil (hval 0 43 v0 rfl rfl) h0
 clear hA0 hval0
 simp only [List.append_nil] at hW' hlt
 obtain ⟨h', hr⟩ := busy_run cB pdB ntB sl0
 refine (walk_emb En_ok mixed (cs := #[(.agg #[.int .i64 cB.A, .int .i64 cB.S, .int .i64 cB.T, w0, .int .i64 pdB, .int .i64 ntB])]) s0 (.cons _ _ _ _ (.agg _ _ (.cons _ _ _ _ (.int _ _) (.cons _ _ _ _ (.int _ _) (.cons _ _ _ _ (.int _ _) (.cons _ _ _ _ vr0 (.cons _ _ _ _ (.int _ _) (.cons _ _ _ _ (.int _ _) .nil))))))) .nil) hr).mono fun e W' ⟨he, hg⟩ => ?_
 subst he
 have t0 := Below.trod (by kernel_rfl) (by kernel_rfl) (by decide +kernel) h0 hg (fun x hx => hlt x (by simp [hx]))
 exact ⟨_, rfl, post_args (pa := p0) (pv := []) hW' (fun _ _ _ => (trodAll_cons_mk (shut_bool Try.underlying4 _) trodAll_mk0))
  (by have := (trodAll_cons_mk t0 trodAll_mk0); have hh : DataW.TrodAll enc Try.prog W' 0 (fun b => decide (b < W.heap.size)) true [43] [(.agg #[.int .i64 cB.A, .int .i64 cB.S, .int .i64 cB.T, w0, .int .i64 pdB, .int .i64 ntB])] [d0] (p0) := (by simpa using this); exact hh) (fun _ _ => rfl) (by simp) (hg.frame _)⟩

theorem over : Rows.compactBusyRow.holds Try.pinned (OpenSpec.ofChange Rows.compactBusySpec) :=
 OpenClaim.holds_of_wide 4 Try.f4 rfl rfl rfl rfl rfl rfl rfl ⟨rfl, rfl, rfl, rfl, rfl⟩ rfl rfl rfl rfl rfl (by kernel_rfl) Try.func4 (by kernel_rfl)
  (of_decide_eq_true (by kernel_rfl)) (by unfold Func.isWrapper; first | (rw [if_pos (by decide +kernel)]; kernel_rfl) | (rw [if_neg (by decide +kernel)]; exact ⟨rfl, rfl⟩))
  (fun os started H enc _ => lifted os started H enc)

theorem holds : Rows.CompactBusySaid := over
end Go.Proofs.Ytfpfknafcgkcjaa.compactBusy
