/- Where each function stands in the table. -/
import Derived.Test.YtclgilndihagiaaPlanIr
import Derived.KernelRfl

namespace Go.Proofs.Ytclgilndihagiaa
open Go Go.Ir

theorem Fn.sidingslaw17_PlanSlides : tbl.lookup Id.sidingslaw17_PlanSlides = some F.sidingslaw17_PlanSlides := by kernel_rfl
theorem Fn.sidingslaw17_PlanOrder : tbl.lookup Id.sidingslaw17_PlanOrder = some F.sidingslaw17_PlanOrder := by kernel_rfl
theorem Fn.sidingslaw17_PlanTight : tbl.lookup Id.sidingslaw17_PlanTight = some F.sidingslaw17_PlanTight := by kernel_rfl
theorem Fn.sidingslaw17_PlanFixed : tbl.lookup Id.sidingslaw17_PlanFixed = some F.sidingslaw17_PlanFixed := by kernel_rfl
theorem Fn.sidingslaw17_live : tbl.lookup Id.sidingslaw17_live = some F.sidingslaw17_live := by kernel_rfl
theorem Fn.plan_Slide : tbl.lookup Id.plan_Slide = some F.plan_Slide := by kernel_rfl
theorem Fn.sidingslaw17_own : tbl.lookup Id.sidingslaw17_own = some F.sidingslaw17_own := by kernel_rfl
theorem Fn.sidingsref17_Slide : tbl.lookup Id.sidingsref17_Slide = some F.sidingsref17_Slide := by kernel_rfl
theorem Fn.sidingsref17_Moves : tbl.lookup Id.sidingsref17_Moves = some F.sidingsref17_Moves := by kernel_rfl
theorem Fn.sidingslaw17_moves : tbl.lookup Id.sidingslaw17_moves = some F.sidingslaw17_moves := by kernel_rfl
theorem Fn.sidingsref17_Sort : tbl.lookup Id.sidingsref17_Sort = some F.sidingsref17_Sort := by kernel_rfl
theorem Fn.sidingsref17_Apart : tbl.lookup Id.sidingsref17_Apart = some F.sidingsref17_Apart := by kernel_rfl
theorem Fn.sidingslaw17_moved : tbl.lookup Id.sidingslaw17_moved = some F.sidingslaw17_moved := by kernel_rfl
theorem Fn.plan_Gaps : tbl.lookup Id.plan_Gaps = some F.plan_Gaps := by kernel_rfl
theorem Fn.plan_Sort : tbl.lookup Id.plan_Sort = some F.plan_Sort := by kernel_rfl
theorem Fn.sidingsref17_Same : tbl.lookup Id.sidingsref17_Same = some F.sidingsref17_Same := by kernel_rfl
theorem Fn.sidingslaw17_told : tbl.lookup Id.sidingslaw17_told = some F.sidingslaw17_told := by kernel_rfl
theorem Fn.plan_Apart : tbl.lookup Id.plan_Apart = some F.plan_Apart := by kernel_rfl
theorem Fn.plan_Check : tbl.lookup Id.plan_Check = some F.plan_Check := by kernel_rfl
theorem Fn.sidingsref17_Check : tbl.lookup Id.sidingsref17_Check = some F.sidingsref17_Check := by kernel_rfl
theorem Fn.sidingsref17_ahead : tbl.lookup Id.sidingsref17_ahead = some F.sidingsref17_ahead := by kernel_rfl
theorem Fn.sidingsref17_share : tbl.lookup Id.sidingsref17_share = some F.sidingsref17_share := by kernel_rfl
theorem Fn.plan_spanOf : tbl.lookup Id.plan_spanOf = some F.plan_spanOf := by kernel_rfl
theorem Fn.plan_span_end : tbl.lookup Id.plan_span_end = some F.plan_span_end := by kernel_rfl
theorem Fn.slices_Clone_Lplan_Object : tbl.lookup Id.slices_Clone_Lplan_Object = some F.slices_Clone_Lplan_Object := by kernel_rfl
theorem Fn.slices_SortStableFunc_Lplan_Object : tbl.lookup Id.slices_SortStableFunc_Lplan_Object = some F.slices_SortStableFunc_Lplan_Object := by kernel_rfl
theorem Fn.plan_byPlace : tbl.lookup Id.plan_byPlace = some F.plan_byPlace := by kernel_rfl
theorem Fn.slices_DeleteFunc_Lplan_Object : tbl.lookup Id.slices_DeleteFunc_Lplan_Object = some F.slices_DeleteFunc_Lplan_Object := by kernel_rfl
theorem Fn.plan_Apart_1 : tbl.lookup Id.plan_Apart_1 = some F.plan_Apart_1 := by kernel_rfl
theorem Fn.slices_ContainsFunc_Lplan_Object : tbl.lookup Id.slices_ContainsFunc_Lplan_Object = some F.slices_ContainsFunc_Lplan_Object := by kernel_rfl
theorem Fn.plan_Apart_2 : tbl.lookup Id.plan_Apart_2 = some F.plan_Apart_2 := by kernel_rfl
theorem Fn.plan_begins : tbl.lookup Id.plan_begins = some F.plan_begins := by kernel_rfl
theorem Fn.plan_Check_1 : tbl.lookup Id.plan_Check_1 = some F.plan_Check_1 := by kernel_rfl
theorem Fn.sidingsref17_has : tbl.lookup Id.sidingsref17_has = some F.sidingsref17_has := by kernel_rfl
theorem Fn.slices_stableCmpFunc_plan_Object : tbl.lookup Id.slices_stableCmpFunc_plan_Object = some F.slices_stableCmpFunc_plan_Object := by kernel_rfl
theorem Fn.cmp_Or_int : tbl.lookup Id.cmp_Or_int = some F.cmp_Or_int := by kernel_rfl
theorem Fn.cmp_Compare_int : tbl.lookup Id.cmp_Compare_int = some F.cmp_Compare_int := by kernel_rfl
theorem Fn.plan_bit : tbl.lookup Id.plan_bit = some F.plan_bit := by kernel_rfl
theorem Fn.slices_IndexFunc_Lplan_Object : tbl.lookup Id.slices_IndexFunc_Lplan_Object = some F.slices_IndexFunc_Lplan_Object := by kernel_rfl
theorem Fn.slices_insertionSortCmpFunc_plan_Object : tbl.lookup Id.slices_insertionSortCmpFunc_plan_Object = some F.slices_insertionSortCmpFunc_plan_Object := by kernel_rfl
theorem Fn.slices_symMergeCmpFunc_plan_Object : tbl.lookup Id.slices_symMergeCmpFunc_plan_Object = some F.slices_symMergeCmpFunc_plan_Object := by kernel_rfl
theorem Fn.cmp_isNaN_int : tbl.lookup Id.cmp_isNaN_int = some F.cmp_isNaN_int := by kernel_rfl
theorem Fn.slices_rotateCmpFunc_plan_Object : tbl.lookup Id.slices_rotateCmpFunc_plan_Object = some F.slices_rotateCmpFunc_plan_Object := by kernel_rfl
theorem Fn.slices_swapRangeCmpFunc_plan_Object : tbl.lookup Id.slices_swapRangeCmpFunc_plan_Object = some F.slices_swapRangeCmpFunc_plan_Object := by kernel_rfl

end Go.Proofs.Ytclgilndihagiaa
