/- 'Rows.ThreadNilSaid' ('sidings/sidingslaw19.ThreadNil'): for every input it returns true, and its arguments read as before. No condition. -/
import Derived.Test.YtnfcohmbcgfhbaaGreatRows
import Derived.WalkKit
import Derived.ProofKit
import Derived.OpenShut
import Derived.SizedLaws
import Derived.Test.YtnfcohmbcgfhbaaGreatThreadC

namespace Go.Proofs.YtnfcohmbcgfhbaaGreat.threadNil
open Go Go.Ir Go.ChangeShapes Go.WideShapes Go.ChangeAt Go.RowKit
set_option linter.unusedVariables false
set_option linter.unusedSimpArgs false

theorem own : ownKnob Tryz.prog.godebug = none := by kernel_rfl

set_option maxRecDepth 100000 in
theorem lifted (os : Os) (started : os.Started) (H : Type) (enc : TypeId × Value → H) :
  ReturnsInHanded {} Tryz.checked os 7 .any (Rows.threadNilSpec.pre6 enc Tryz.prog Tryz.f7 Rows.threadNilRow.domain false) (Rows.threadNilSpec.post enc Tryz.prog Tryz.f7 false true false false) := by
 refine returnsInHanded_of_change_sized (C := Tryz.checked) own started (by kernel_rfl) Tryz.func7
  (ChangeSpec.witness6 (enc := enc) (C := Tryz.checked) false ⟨#[], #[.agg #[.int .i64 0, .int .i64 0, .int .i64 0], .slice none 0 0], []⟩ 8 (by kernel_rfl) (by kernel_rfl) (by kernel_rfl) (by kernel_rfl)) ?_
 intro W base args ds gs before hval0 hW hcnd hsz _
 have hval : ∀ (j : Nat) t v, Tryz.f7.params[j]? = some t → args[j]? = some v → Value.okWide Tryz.prog W .any base t v := hval0
 have hW' := hW
 have hlt := fun p hp => hW.lt p hp
 obtain ⟨p, q, hA0, hV, rfl, hfz, hnd⟩ := hW
 have hA : DataW.TrodAll enc Tryz.prog W 0 (fun _ => true) true Tryz.f7.params.toList args.toList ds p := hA0
 rw [Tryz.params7] at hA hval
 obtain ⟨v0, vs0, d0, ds0, p0, q0, hargs, rfl, rfl, h0, r0⟩ := trodAll_cons hA
 obtain ⟨v1, vs1, d1, ds1, p1, q1, rfl, rfl, rfl, h1, r1⟩ := trodAll_cons r0
 obtain ⟨rfl, rfl, rfl⟩ := trodAll_nil r1
 obtain rfl : args = #[v0, v1] := by cases args; simp_all
 obtain ⟨rfl, rfl⟩ := trodVars_none hV
 obtain ⟨c0, rfl⟩ := open_cfg (hval 0 23 v0 rfl rfl) h0
 obtain ⟨E1, hp1, b1, l1, s1, le1, ro1, ex1, vr1, sl1, ti1⟩ := open_ops (sim_nil W) roH_nil (hval 1 24 v1 rfl rfl) h1
 have hb1 : l1.length * 32 ≤ 2 ^ 47 := by
  have : l1.length * Tryz.prog.bytesOf 40 ≤ 2 ^ 47 := row_reach hsz (j := 1) (by rw [Tryz.params7]; rfl) rfl Tryz.underlying24 h1 vr1 ti1
  rw [bytesOf40] at this
  exact this
 clear hA0 hval0 hsz
 simp only [List.append_nil] at hW' hlt
 obtain ⟨h', hr⟩ := nil_run c0 sl1 ti1 hb1
 refine (walk_emb En_ok mixed (cs := #[.agg (Cfg.cs c0).toArray, v1]) s1 (.cons _ _ _ _ (VR.flat rfl) (.cons _ _ _ _ vr1 .nil)) hr).mono fun e W' ⟨he, hg⟩ => ?_
 subst he
 have t0 := Below.trod (by kernel_rfl) (by kernel_rfl) (by decide +kernel) h0 hg (fun x hx => hlt x (by simp [hx]))
 have t1 := Below.trod (by kernel_rfl) (by kernel_rfl) (by decide +kernel) h1 hg (fun x hx => hlt x (by simp [hx]))
 exact ⟨_, rfl, post_args (pa := p0 ++ p1) (pv := []) hW' (fun _ _ _ => (trodAll_cons_mk (shut_bool Tryz.underlying4 _) trodAll_mk0))
  (by have := (trodAll_cons_mk t0 (trodAll_cons_mk t1 trodAll_mk0)); have hh : DataW.TrodAll enc Tryz.prog W' 0 (fun b => decide (b < W.heap.size)) true [23, 24] [.agg (Cfg.cs c0).toArray, v1] [d0, d1] (p0 ++ p1) := (by simpa using this); exact hh) (fun _ _ => rfl) (by simp) (hg.frame _)⟩

theorem over : Rows.threadNilRow.holds Tryz.pinned (OpenSpec.ofChange Rows.threadNilSpec) :=
 OpenClaim.holds_of_wide 7 Tryz.f7 rfl rfl rfl rfl rfl rfl rfl ⟨rfl, rfl, rfl, rfl, rfl⟩ rfl rfl rfl rfl rfl (by kernel_rfl) Tryz.func7 (by kernel_rfl)
  (of_decide_eq_true (by kernel_rfl)) (by unfold Func.isWrapper; first | (rw [if_pos (by decide +kernel)]; kernel_rfl) | (rw [if_neg (by decide +kernel)]; exact ⟨rfl, rfl⟩))
  (fun os started H enc _ => lifted os started H enc)

theorem holds : Rows.ThreadNilSaid := over
end Go.Proofs.YtnfcohmbcgfhbaaGreat.threadNil

