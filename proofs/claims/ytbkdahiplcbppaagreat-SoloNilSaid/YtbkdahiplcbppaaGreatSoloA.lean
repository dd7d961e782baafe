/- Of a world that is none nothing comes: the run. -/
import Derived.Test.YtbkdahiplcbppaaGreatSoloOk
import Derived.Test.YtbkdahiplcbppaaGreatSoloCut
import Derived.Test.YtbkdahiplcbppaaGreatIrGo
namespace Go.Proofs.YtbkdahiplcbppaaGreat
open Go Go.Ir

theorem mixed : Tryz.prog.follows .mixedOrders = true := by kernel_rfl
theorem env0_ok : EnvOk Tryz.prog env0 := envOk_tbl tbl_ok [] (by simp)
def prims : List (Nat × Prim) := [(Id.sidingslaw22_live, constPrim (.bool true))]
def env1 : Env := { fn := fun g => tbl.lookup g, prim := fun g => prims.lookup g }
theorem env1_ok : EnvOk Tryz.prog env1 := envOk_tbl tbl_ok prims (by
  intro p hp
  obtain rfl : p = (Id.sidingslaw22_live, constPrim (.bool true)) := by simpa [prims] using hp
  exact ⟨constPrim_kp _, closed_some env0_ok mixed live_run⟩)

theorem done_c (lo : Nat) (h : Heap) : callR env1 lo Id.world_World_Done [.pointer none] h = some (.bool true, h) := callR_iff.2 ⟨200, by kernel_rfl⟩
theorem finish_c (lo : Nat) (h : Heap) : callR env1 lo Id.solo_Finish [.pointer none] h = some (.tuple #[.int .i64 0, .int .i64 1], h) := callR_iff.2 ⟨200, by kernel_rfl⟩
theorem left_c (lo : Nat) (h : Heap) : callR env1 lo Id.solo_Left [.pointer none] h = some (.int .i64 0, h) := callR_iff.2 ⟨200, by kernel_rfl⟩
theorem fits_c (lo : Nat) (h : Heap) (n : Int) : callR env1 lo Id.solo_Fits [.pointer none, .int .i64 n] h = some (.int .i64 1, h) := callR_iff.2 ⟨200, by kernel_rfl⟩
theorem live_c (lo : Nat) (h : Heap) : callR env1 lo Id.sidingslaw22_live [] h = some (.bool true, h) := callR_iff.2 ⟨200, by kernel_rfl⟩
theorem turns_fn : tbl.lookup Id.solo_Turns = some F.solo_Turns := by kernel_rfl
theorem law_fn : tbl.lookup Id.sidingslaw22_SoloNil = some F.sidingslaw22_SoloNil := by kernel_rfl

theorem turns_c (lo : Nat) (h : Heap) (n : Int) : callR env1 lo Id.solo_Turns [.pointer none, .int .i64 n] h = some (.tuple #[.int .i64 0, .bool true], h) := by
  refine call_of rfl turns_fn rfl rfl ?_
  repeat' (first | (show EndsR _ _ _ _ _ _ _; first | refine EndsR.seq ?_ | refine EndsR.reg ?_ | refine EndsR.yes rfl ?_ | refine EndsR.no rfl ?_ | refine EndsR.skip ?_ | refine EndsR.block ?_ | refine EndsR.endB ?_ | refine EndsR.exit rfl ?_ | refine EndsR.br rfl (fun hc => ?_) (fun hc => ?_) | refine EndsR.scope ?_ | refine EndsR.inScope ?_ | refine EndsR.label ?_ | refine EndsR.ret rfl ?_ | refine EndsR.nil rfl ?_) | (show EndsG _ _ _ _ _ _ _ _ _; first | refine EndsG.mov rfl rfl ?_ | refine EndsG.lload rfl rfl rfl rfl ?_ | refine EndsG.laddr rfl rfl rfl ?_ | refine EndsG.lss rfl rfl rfl (fun hc => ?_) (fun hc => ?_) | refine EndsG.leq rfl rfl rfl (fun hc => ?_) (fun hc => ?_) | refine EndsG.gtr rfl rfl rfl (fun hc => ?_) (fun hc => ?_) | refine EndsG.geq rfl rfl rfl (fun hc => ?_) (fun hc => ?_) | refine EndsG.eql rfl rfl rfl (fun hc => ?_) (fun hc => ?_) | refine EndsG.neq rfl rfl rfl (fun hc => ?_) (fun hc => ?_) | refine EndsG.call rfl rfl (done_c _ _) ?_ | refine EndsG.skip rfl ?_ | refine EndsG.fin ?_ | refine EndsG.go rfl rfl rfl ?_ | refine EndsG.gono rfl rfl rfl ?_ | refine EndsG.skipn rfl ?_))
  all_goals rfl

theorem nil_run (n : Int) : callR env1 0 Id.sidingslaw22_SoloNil [.int .i64 n] [] = some (.bool true, []) := by
  refine call_of rfl law_fn rfl rfl ?_
  repeat' (first | (show EndsR _ _ _ _ _ _ _; first | refine EndsR.seq ?_ | refine EndsR.reg ?_ | refine EndsR.yes rfl ?_ | refine EndsR.no rfl ?_ | refine EndsR.skip ?_ | refine EndsR.block ?_ | refine EndsR.endB ?_ | refine EndsR.exit rfl ?_ | refine EndsR.br rfl (fun hc => ?_) (fun hc => ?_) | refine EndsR.scope ?_ | refine EndsR.inScope ?_ | refine EndsR.label ?_ | refine EndsR.ret rfl ?_ | refine EndsR.nil rfl ?_) | (show EndsG _ _ _ _ _ _ _ _ _; first | refine EndsG.mov rfl rfl ?_ | refine EndsG.lload rfl rfl rfl rfl ?_ | refine EndsG.laddr rfl rfl rfl ?_ | refine EndsG.lss rfl rfl rfl (fun hc => ?_) (fun hc => ?_) | refine EndsG.leq rfl rfl rfl (fun hc => ?_) (fun hc => ?_) | refine EndsG.gtr rfl rfl rfl (fun hc => ?_) (fun hc => ?_) | refine EndsG.geq rfl rfl rfl (fun hc => ?_) (fun hc => ?_) | refine EndsG.eql rfl rfl rfl (fun hc => ?_) (fun hc => ?_) | refine EndsG.neq rfl rfl rfl (fun hc => ?_) (fun hc => ?_) | refine EndsG.call rfl rfl (finish_c _ _) ?_ | refine EndsG.call rfl rfl (turns_c _ _ _) ?_ | refine EndsG.call rfl rfl (left_c _ _) ?_ | refine EndsG.call rfl rfl (fits_c _ _ _) ?_ | refine EndsG.call rfl rfl (live_c _ _) ?_ | refine EndsG.skip rfl ?_ | refine EndsG.fin ?_ | refine EndsG.go rfl rfl rfl ?_ | refine EndsG.gono rfl rfl rfl ?_ | refine EndsG.skipn rfl ?_))
  all_goals first | rfl | (exact absurd rfl ‹_›)

theorem nil_walk (n : Int) (w : World) : Calls Tryz.prog Id.sidingslaw22_SoloNil #[.int .i64 n] w fun e w' => e = .returned (.bool true) ∧ Go.RowKit.Below w.heap.size w w' := by
  obtain ⟨m, hr⟩ := callR_iff.1 (nil_run n)
  exact walk_flat env1_ok mixed (by simp [flatV, flat1]) hr w
end Go.Proofs.YtbkdahiplcbppaaGreat
