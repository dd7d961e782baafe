/- A world that is none does nothing: the run. -/
import Derived.Test.YtcohdgajnglilaaGreatWorldOk
import Derived.Test.YtcohdgajnglilaaGreatIrEnd
namespace Go.Proofs.YtcohdgajnglilaaGreat
open Go Go.Ir

theorem mixed : Tryz.prog.follows .mixedOrders = true := by kernel_rfl
theorem env0_ok : EnvOk Tryz.prog env0 := envOk_tbl tbl_ok [] (by simp)
theorem live_run : okB (callW env0 (exN env0 20000) 0 Id.sidingslaw20_live [] []) = true := by kernel_rfl
def prims : List (Nat × Prim) := [(Id.sidingslaw20_live, constPrim (.bool true))]
def env1 : Env := { fn := fun g => tbl.lookup g, prim := fun g => prims.lookup g }
theorem env1_ok : EnvOk Tryz.prog env1 := envOk_tbl tbl_ok prims (by
  intro p hp
  obtain rfl : p = (Id.sidingslaw20_live, constPrim (.bool true)) := by simpa [prims] using hp
  exact ⟨constPrim_kp _, closed_true env0_ok mixed live_run⟩)

theorem nil_run (n : Int) : okB (callW env1 (exN env1 2000) 0 Id.sidingslaw20_WorldNil [.int .i64 n] []) = true := by kernel_rfl

theorem nil_walk (n : Int) (w : World) : Calls Tryz.prog Id.sidingslaw20_WorldNil #[.int .i64 n] w fun e w' => e = .returned (.bool true) ∧ Go.RowKit.Below w.heap.size w w' := by
  obtain ⟨h', hr⟩ := run_true (nil_run n)
  exact walk_flat env1_ok mixed (by simp [flatV, flat1]) hr w
end Go.Proofs.YtcohdgajnglilaaGreat
