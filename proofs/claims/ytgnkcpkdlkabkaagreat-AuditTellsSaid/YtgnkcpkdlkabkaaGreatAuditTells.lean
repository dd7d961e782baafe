/- 'Rows.AuditTellsSaid' ('sidings/sidingslaw21.AuditTells'): for every input it returns true, and its arguments read as before. No condition. -/
import Derived.Test.YtgnkcpkdlkabkaaGreatRows
import Derived.WalkKit
import Derived.ProofKit
import Derived.OpenShut
import Derived.Test.YtgnkcpkdlkabkaaGreatAuditQ

namespace Go.Proofs.YtgnkcpkdlkabkaaGreat.auditTells
open Go Go.Ir Go.ChangeShapes Go.WideShapes Go.ChangeAt Go.RowKit
set_option linter.unusedVariables false
set_option linter.unusedSimpArgs false

theorem own : ownKnob Tryz.prog.godebug = none := by kernel_rfl

set_option maxRecDepth 100000 in
theorem lifted (os : Os) (started : os.Started) (H : Type) (enc : TypeId × Value → H) :
  ReturnsInHanded {} Tryz.checked os 3 .any (Rows.auditTellsSpec.pre6 enc Tryz.prog Tryz.f3 Rows.auditTellsRow.domain false) (Rows.auditTellsSpec.post enc Tryz.prog Tryz.f3 false true false false) := by
 refine returnsInHanded_of_change (C := Tryz.checked) own started (by kernel_rfl) Tryz.func3
  (ChangeSpec.witness6 (enc := enc) (C := Tryz.checked) false ⟨#[], #[.agg #[.int .i64 0, .int .i64 0, .int .i64 0, .slice none 0 0, .slice none 0 0, .int .i64 0, .int .i64 0, .int .i64 0, .int .i64 0, .bool false, .int .i64 0]], []⟩ 8 (by kernel_rfl) (by kernel_rfl) (by kernel_rfl) (by kernel_rfl)) ?_
 intro W base args ds gs before hval0 hW hcnd _
 have hval : ∀ (j : Nat) t v, Tryz.f3.params[j]? = some t → args[j]? = some v → Value.okWide Tryz.prog W .any base t v := hval0
 have hW' := hW
 have hlt := fun p hp => hW.lt p hp
 obtain ⟨p, q, hA0, hV, rfl, hfz, hnd⟩ := hW
 have hA : DataW.TrodAll enc Tryz.prog W 0 (fun _ => true) true Tryz.f3.params.toList args.toList ds p := hA0
 rw [Tryz.params3] at hA hval
 obtain ⟨v0, vs0, d0, ds0, p0, q0, hargs, rfl, rfl, h0, r0⟩ := trodAll_cons hA
 obtain ⟨rfl, rfl, rfl⟩ := trodAll_nil r0
 obtain rfl : args = #[v0] := by cases args; simp_all
 obtain ⟨rfl, rfl⟩ := trodVars_none hV
 obtain ⟨c, mv, is, slot, E1, h1, wv, hv, l, hl, s1, vr1, sl1, sl2⟩ := open_case (hval 0 29 v0 rfl rfl) h0
 clear hA0 hval0
 simp only [List.append_nil] at hW' hlt
 obtain ⟨h', hr⟩ := tells_run c mv is slot sl1 sl2
 refine (walk_emb En_ok mixed (cs := #[v0]) s1 (.cons _ _ _ _ vr1 .nil) hr).mono fun e W' ⟨he, hg⟩ => ?_
 subst he
 have t0 := Below.trod (by kernel_rfl) (by kernel_rfl) (by decide +kernel) h0 hg (fun x hx => hlt x (by simp [hx]))
 exact ⟨_, rfl, post_args (pa := p0) (pv := []) hW' (fun _ _ _ => (trodAll_cons_mk (shut_bool Tryz.underlying4 _) trodAll_mk0))
  (by have := (trodAll_cons_mk t0 trodAll_mk0); have hh : DataW.TrodAll enc Tryz.prog W' 0 (fun b => decide (b < W.heap.size)) true [29] [v0] [d0] (p0) := (by simpa using this); exact hh) (fun _ _ => rfl) (by simp) (hg.frame _)⟩

theorem over : Rows.auditTellsRow.holds Tryz.pinned (OpenSpec.ofChange Rows.auditTellsSpec) :=
 OpenClaim.holds_of_wide 3 Tryz.f3 rfl rfl rfl rfl rfl rfl rfl ⟨rfl, rfl, rfl, rfl, rfl⟩ rfl rfl rfl rfl rfl (by kernel_rfl) Tryz.func3 (by kernel_rfl)
  (of_decide_eq_true (by kernel_rfl)) (by unfold Func.isWrapper; first | (rw [if_pos (by decide +kernel)]; kernel_rfl) | (rw [if_neg (by decide +kernel)]; exact ⟨rfl, rfl⟩))
  (fun os started H enc _ => lifted os started H enc)

theorem holds : Rows.AuditTellsSaid := over
end Go.Proofs.YtgnkcpkdlkabkaaGreat.auditTells

