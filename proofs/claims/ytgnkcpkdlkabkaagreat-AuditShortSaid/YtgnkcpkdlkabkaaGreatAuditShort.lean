/- 'Rows.AuditShortSaid' ('sidings/sidingslaw21.AuditShort'): for every input it returns true, and its arguments read as before. No condition. -/
import Derived.Test.YtgnkcpkdlkabkaaGreatRows
import Derived.WalkKit
import Derived.ProofKit
import Derived.OpenShut
import Derived.Test.YtgnkcpkdlkabkaaGreatAuditQ

namespace Go.Proofs.YtgnkcpkdlkabkaaGreat.auditShort
open Go Go.Ir Go.ChangeShapes Go.WideShapes Go.ChangeAt Go.RowKit
set_option linter.unusedVariables false
set_option linter.unusedSimpArgs false

theorem own : ownKnob Tryz.prog.godebug = none := by kernel_rfl

set_option maxRecDepth 100000 in
theorem lifted (os : Os) (started : os.Started) (H : Type) (enc : TypeId × Value → H) :
  ReturnsInHanded {} Tryz.checked os 6 .any (Rows.auditShortSpec.pre6 enc Tryz.prog Tryz.f6 Rows.auditShortRow.domain false) (Rows.auditShortSpec.post enc Tryz.prog Tryz.f6 false true false false) := by
 refine returnsInHanded_of_change (C := Tryz.checked) own started (by kernel_rfl) Tryz.func6
  (ChangeSpec.witness6 (enc := enc) (C := Tryz.checked) false ⟨#[], #[.agg #[.int .i64 0, .int .i64 0, .int .i64 0], .int .i64 0], []⟩ 8 (by kernel_rfl) (by kernel_rfl) (by kernel_rfl) (by kernel_rfl)) ?_
 intro W base args ds gs before hval0 hW hcnd _
 have hval : ∀ (j : Nat) t v, Tryz.f6.params[j]? = some t → args[j]? = some v → Value.okWide Tryz.prog W .any base t v := hval0
 have hW' := hW
 have hlt := fun p hp => hW.lt p hp
 obtain ⟨p, q, hA0, hV, rfl, hfz, hnd⟩ := hW
 have hA : DataW.TrodAll enc Tryz.prog W 0 (fun _ => true) true Tryz.f6.params.toList args.toList ds p := hA0
 rw [Tryz.params6] at hA hval
 obtain ⟨v0, vs0, d0, ds0, p0, q0, hargs, rfl, rfl, h0, r0⟩ := trodAll_cons hA
 obtain ⟨v1, vs1, d1, ds1, p1, q1, rfl, rfl, rfl, h1, r1⟩ := trodAll_cons r0
 obtain ⟨rfl, rfl, rfl⟩ := trodAll_nil r1
 obtain rfl : args = #[v0, v1] := by cases args; simp_all
 obtain ⟨rfl, rfl⟩ := trodVars_none hV
 obtain ⟨c0, rfl⟩ := open_cfg (hval 0 23 v0 rfl rfl) h0
 obtain ⟨a1, rfl, rfl, rfl, w1⟩ := open_int Tryz.underlying3 (hval 1 3 v1 rfl rfl) h1
 clear hA0 hval0
 simp only [List.append_nil] at hW' hlt
 obtain ⟨h', hr⟩ := short_run c0 a1 []
 refine (walk_emb En_ok mixed (cs := #[.agg (Cfg.cs c0).toArray, .int .i64 a1]) (sim_nil W) (.cons _ _ _ _ (VR.flat rfl) (.cons _ _ _ _ (.int _ _) .nil)) hr).mono fun e W' ⟨he, hg⟩ => ?_
 subst he
 have t0 := Below.trod (by kernel_rfl) (by kernel_rfl) (by decide +kernel) h0 hg (fun x hx => hlt x (by simp [hx]))
 exact ⟨_, rfl, post_args (pa := p0) (pv := []) hW' (fun _ _ _ => (trodAll_cons_mk (shut_bool Tryz.underlying4 _) trodAll_mk0))
  (by have := (trodAll_cons_mk t0 (trodAll_cons_mk (shut_int Tryz.underlying3 w1) trodAll_mk0)); have hh : DataW.TrodAll enc Tryz.prog W' 0 (fun b => decide (b < W.heap.size)) true [23, 3] [.agg (Cfg.cs c0).toArray, .int .i64 a1] [d0, .lit (.int .i64 a1)] (p0) := (by simpa using this); exact hh) (fun _ _ => rfl) (by simp) (hg.frame _)⟩

theorem over : Rows.auditShortRow.holds Tryz.pinned (OpenSpec.ofChange Rows.auditShortSpec) :=
 OpenClaim.holds_of_wide 6 Tryz.f6 rfl rfl rfl rfl rfl rfl rfl ⟨rfl, rfl, rfl, rfl, rfl⟩ rfl rfl rfl rfl rfl (by kernel_rfl) Tryz.func6 (by kernel_rfl)
  (of_decide_eq_true (by kernel_rfl)) (by unfold Func.isWrapper; first | (rw [if_pos (by decide +kernel)]; kernel_rfl) | (rw [if_neg (by decide +kernel)]; exact ⟨rfl, rfl⟩))
  (fun os started H enc _ => lifted os started H enc)

theorem holds : Rows.AuditShortSaid := over
end Go.Proofs.YtgnkcpkdlkabkaaGreat.auditShort

