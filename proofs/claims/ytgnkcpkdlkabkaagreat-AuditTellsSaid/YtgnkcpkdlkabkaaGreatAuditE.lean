/- The seat's environment. -/
import Derived.Test.YtgnkcpkdlkabkaaGreatAuditOk
import Derived.Test.YtgnkcpkdlkabkaaGreatAuditCut
import Derived.Test.YtgnkcpkdlkabkaaGreatAuditP1
import Derived.Test.YtgnkcpkdlkabkaaGreatIrD

set_option linter.unusedVariables false
set_option linter.unusedSimpArgs false
set_option linter.constructorNameAsVariable false
namespace Go.Proofs.YtgnkcpkdlkabkaaGreat
open Go Go.Ir Go.ChangeShapes Go.WideShapes

theorem mixed : Tryz.prog.follows .mixedOrders = true := by kernel_rfl
theorem env0_ok : EnvOk Tryz.prog env0 := envOk_tbl tbl_ok [] (by simp)
theorem En_ok : EnvOk Tryz.prog En := envOk_tbl tbl_ok pr (by
 intro p hp
 obtain rfl : p = (Id.sidingslaw21_live, constPrim (.bool true)) := by simpa [pr] using hp
 exact ⟨constPrim_kp _, closed_some env0_ok mixed live_run⟩)
end Go.Proofs.YtgnkcpkdlkabkaaGreat

