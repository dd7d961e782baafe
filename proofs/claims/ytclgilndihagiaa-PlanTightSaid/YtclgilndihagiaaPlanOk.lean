/- The texts of this seat are its functions' translations. -/
import Derived.Test.YtclgilndihagiaaPlanIr
import Derived.Test.YtclgilndihagiaaProg
import Derived.KernelRfl

namespace Go.Proofs.Ytclgilndihagiaa
open Go Go.Ir

theorem Ok.sidingslaw17_PlanSlides : cFunc Try.prog Try.f3 ⟨[], false, []⟩ = some F.sidingslaw17_PlanSlides := by kernel_rfl
theorem Ok.sidingslaw17_PlanOrder : cFunc Try.prog Try.f4 ⟨[], false, [[1, 5, 6, 8, 9], [1, 6, 8, 10, 11]]⟩ = some F.sidingslaw17_PlanOrder := by kernel_rfl
theorem Ok.sidingslaw17_PlanTight : cFunc Try.prog Try.f5 ⟨[], false, [[0, 6, 8, 9, 10, 11, 12, 13, 14]]⟩ = some F.sidingslaw17_PlanTight := by kernel_rfl
theorem Ok.sidingslaw17_PlanFixed : cFunc Try.prog Try.f6 ⟨[7], false, [[0, 1, 5, 6], [0, 11, 14], [0, 11, 14, 15]]⟩ = some F.sidingslaw17_PlanFixed := by kernel_rfl
theorem Ok.sidingslaw17_live : cFunc Try.prog Try.f7 ⟨[], true, []⟩ = some F.sidingslaw17_live := by kernel_rfl
theorem Ok.plan_Slide : cFunc Try.prog Try.f8 ⟨[11], true, [[8, 9, 20, 21, 22]]⟩ = some F.plan_Slide := by kernel_rfl
theorem Ok.sidingslaw17_own : cFunc Try.prog Try.f9 ⟨[], true, [[0, 3, 4]]⟩ = some F.sidingslaw17_own := by kernel_rfl
theorem Ok.sidingsref17_Slide : cFunc Try.prog Try.f10 ⟨[], true, [[7, 8, 9, 10]]⟩ = some F.sidingsref17_Slide := by kernel_rfl
theorem Ok.sidingsref17_Moves : cFunc Try.prog Try.f11 ⟨[], true, [[0, 1, 5]]⟩ = some F.sidingsref17_Moves := by kernel_rfl
theorem Ok.sidingslaw17_moves : cFunc Try.prog Try.f12 ⟨[], true, [[0, 3, 4]]⟩ = some F.sidingslaw17_moves := by kernel_rfl
theorem Ok.sidingsref17_Sort : cFunc Try.prog Try.f13 ⟨[], true, [[0, 3, 4], [0, 3, 4, 5, 6, 7]]⟩ = some F.sidingsref17_Sort := by kernel_rfl
theorem Ok.sidingsref17_Apart : cFunc Try.prog Try.f14 ⟨[], true, [[0, 3], [0, 3, 4]]⟩ = some F.sidingsref17_Apart := by kernel_rfl
theorem Ok.sidingslaw17_moved : cFunc Try.prog Try.f15 ⟨[7], true, [[0, 1, 5, 6], [0, 1, 5, 6, 7, 8]]⟩ = some F.sidingslaw17_moved := by kernel_rfl
theorem Ok.plan_Gaps : cFunc Try.prog Try.f16 ⟨[8], true, [[1, 5, 6, 27, 28, 29]]⟩ = some F.plan_Gaps := by kernel_rfl
theorem Ok.plan_Sort : cFunc Try.prog Try.f17 ⟨[], true, []⟩ = some F.plan_Sort := by kernel_rfl
theorem Ok.sidingsref17_Same : cFunc Try.prog Try.f18 ⟨[], true, [[0, 1, 5]]⟩ = some F.sidingsref17_Same := by kernel_rfl
theorem Ok.sidingslaw17_told : cFunc Try.prog Try.f19 ⟨[], true, [[0, 3, 4]]⟩ = some F.sidingslaw17_told := by kernel_rfl
theorem Ok.plan_Apart : cFunc Try.prog Try.f20 ⟨[], true, [[3, 9, 10, 11]]⟩ = some F.plan_Apart := by kernel_rfl
theorem Ok.plan_Check : cFunc Try.prog Try.f21 ⟨[], true, []⟩ = some F.plan_Check := by kernel_rfl
theorem Ok.sidingsref17_Check : cFunc Try.prog Try.f22 ⟨[], true, [[0, 1, 5]]⟩ = some F.sidingsref17_Check := by kernel_rfl
theorem Ok.sidingsref17_ahead : cFunc Try.prog Try.f23 ⟨[2, 3], true, []⟩ = some F.sidingsref17_ahead := by kernel_rfl
theorem Ok.sidingsref17_share : cFunc Try.prog Try.f24 ⟨[2, 3], true, []⟩ = some F.sidingsref17_share := by kernel_rfl
theorem Ok.plan_spanOf : cFunc Try.prog Try.f25 ⟨[], true, []⟩ = some F.plan_spanOf := by kernel_rfl
theorem Ok.plan_span_end : cFunc Try.prog Try.f26 ⟨[], true, []⟩ = some F.plan_span_end := by kernel_rfl
theorem Ok.slices_Clone_Lplan_Object : cFunc Try.prog Try.f27 ⟨[], true, []⟩ = some F.slices_Clone_Lplan_Object := by kernel_rfl
theorem Ok.slices_SortStableFunc_Lplan_Object : cFunc Try.prog Try.f28 ⟨[], false, []⟩ = some F.slices_SortStableFunc_Lplan_Object := by kernel_rfl
theorem Ok.plan_byPlace : cFunc Try.prog Try.f29 ⟨[2, 3], true, []⟩ = some F.plan_byPlace := by kernel_rfl
theorem Ok.slices_DeleteFunc_Lplan_Object : cFunc Try.prog Try.f30 ⟨[7], false, [[0, 1, 5, 6]]⟩ = some F.slices_DeleteFunc_Lplan_Object := by kernel_rfl
theorem Ok.plan_Apart_1 : cFunc Try.prog Try.f31 ⟨[1], true, []⟩ = some F.plan_Apart_1 := by kernel_rfl
theorem Ok.slices_ContainsFunc_Lplan_Object : cFunc Try.prog Try.f32 ⟨[], true, []⟩ = some F.slices_ContainsFunc_Lplan_Object := by kernel_rfl
theorem Ok.plan_Apart_2 : cFunc Try.prog Try.f33 ⟨[2], true, []⟩ = some F.plan_Apart_2 := by kernel_rfl
theorem Ok.plan_begins : cFunc Try.prog Try.f34 ⟨[2, 3], true, []⟩ = some F.plan_begins := by kernel_rfl
theorem Ok.plan_Check_1 : cFunc Try.prog Try.f35 ⟨[2], true, []⟩ = some F.plan_Check_1 := by kernel_rfl
theorem Ok.sidingsref17_has : cFunc Try.prog Try.f36 ⟨[2], true, []⟩ = some F.sidingsref17_has := by kernel_rfl
theorem Ok.slices_stableCmpFunc_plan_Object : cFunc Try.prog Try.f37 ⟨[], false, [[0, 1, 2, 6, 7, 8], [0, 1, 2, 6], [0, 1, 2, 6, 7, 8]]⟩ = some F.slices_stableCmpFunc_plan_Object := by kernel_rfl
theorem Ok.cmp_Or_int : cFunc Try.prog Try.f38 ⟨[], true, [[3, 6, 7, 8]]⟩ = some F.cmp_Or_int := by kernel_rfl
theorem Ok.cmp_Compare_int : cFunc Try.prog Try.f39 ⟨[], true, []⟩ = some F.cmp_Compare_int := by kernel_rfl
theorem Ok.plan_bit : cFunc Try.prog Try.f40 ⟨[], true, []⟩ = some F.plan_bit := by kernel_rfl
theorem Ok.slices_IndexFunc_Lplan_Object : cFunc Try.prog Try.f41 ⟨[], true, [[0, 1, 7, 8]]⟩ = some F.slices_IndexFunc_Lplan_Object := by kernel_rfl
theorem Ok.slices_insertionSortCmpFunc_plan_Object : cFunc Try.prog Try.f42 ⟨[], false, [[0, 1, 2, 3, 8], [0, 1, 2, 3, 8, 9]]⟩ = some F.slices_insertionSortCmpFunc_plan_Object := by kernel_rfl
theorem Ok.slices_symMergeCmpFunc_plan_Object : cFunc Try.prog Try.f43 ⟨[], false, [[0, 1, 4, 10, 11], [0, 10, 13], [0, 2, 4, 14, 15], [0, 14, 17], [0, 1, 2, 3, 4, 18, 19, 20, 21, 22]]⟩ = some F.slices_symMergeCmpFunc_plan_Object := by kernel_rfl
theorem Ok.cmp_isNaN_int : cFunc Try.prog Try.f44 ⟨[], true, []⟩ = some F.cmp_isNaN_int := by kernel_rfl
theorem Ok.slices_rotateCmpFunc_plan_Object : cFunc Try.prog Try.f45 ⟨[], false, [[0, 2, 4, 10, 11]]⟩ = some F.slices_rotateCmpFunc_plan_Object := by kernel_rfl
theorem Ok.slices_swapRangeCmpFunc_plan_Object : cFunc Try.prog Try.f46 ⟨[], false, [[0, 1, 2, 3, 10]]⟩ = some F.slices_swapRangeCmpFunc_plan_Object := by kernel_rfl

theorem tbl_ok : TblOk Try.prog tbl := by
  unfold tbl
  refine .cons Try.func3 Ok.sidingslaw17_PlanSlides ?_
  refine .cons Try.func4 Ok.sidingslaw17_PlanOrder ?_
  refine .cons Try.func5 Ok.sidingslaw17_PlanTight ?_
  refine .cons Try.func6 Ok.sidingslaw17_PlanFixed ?_
  refine .cons Try.func7 Ok.sidingslaw17_live ?_
  refine .cons Try.func8 Ok.plan_Slide ?_
  refine .cons Try.func9 Ok.sidingslaw17_own ?_
  refine .cons Try.func10 Ok.sidingsref17_Slide ?_
  refine .cons Try.func11 Ok.sidingsref17_Moves ?_
  refine .cons Try.func12 Ok.sidingslaw17_moves ?_
  refine .cons Try.func13 Ok.sidingsref17_Sort ?_
  refine .cons Try.func14 Ok.sidingsref17_Apart ?_
  refine .cons Try.func15 Ok.sidingslaw17_moved ?_
  refine .cons Try.func16 Ok.plan_Gaps ?_
  refine .cons Try.func17 Ok.plan_Sort ?_
  refine .cons Try.func18 Ok.sidingsref17_Same ?_
  refine .cons Try.func19 Ok.sidingslaw17_told ?_
  refine .cons Try.func20 Ok.plan_Apart ?_
  refine .cons Try.func21 Ok.plan_Check ?_
  refine .cons Try.func22 Ok.sidingsref17_Check ?_
  refine .cons Try.func23 Ok.sidingsref17_ahead ?_
  refine .cons Try.func24 Ok.sidingsref17_share ?_
  refine .cons Try.func25 Ok.plan_spanOf ?_
  refine .cons Try.func26 Ok.plan_span_end ?_
  refine .cons Try.func27 Ok.slices_Clone_Lplan_Object ?_
  refine .cons Try.func28 Ok.slices_SortStableFunc_Lplan_Object ?_
  refine .cons Try.func29 Ok.plan_byPlace ?_
  refine .cons Try.func30 Ok.slices_DeleteFunc_Lplan_Object ?_
  refine .cons Try.func31 Ok.plan_Apart_1 ?_
  refine .cons Try.func32 Ok.slices_ContainsFunc_Lplan_Object ?_
  refine .cons Try.func33 Ok.plan_Apart_2 ?_
  refine .cons Try.func34 Ok.plan_begins ?_
  refine .cons Try.func35 Ok.plan_Check_1 ?_
  refine .cons Try.func36 Ok.sidingsref17_has ?_
  refine .cons Try.func37 Ok.slices_stableCmpFunc_plan_Object ?_
  refine .cons Try.func38 Ok.cmp_Or_int ?_
  refine .cons Try.func39 Ok.cmp_Compare_int ?_
  refine .cons Try.func40 Ok.plan_bit ?_
  refine .cons Try.func41 Ok.slices_IndexFunc_Lplan_Object ?_
  refine .cons Try.func42 Ok.slices_insertionSortCmpFunc_plan_Object ?_
  refine .cons Try.func43 Ok.slices_symMergeCmpFunc_plan_Object ?_
  refine .cons Try.func44 Ok.cmp_isNaN_int ?_
  refine .cons Try.func45 Ok.slices_rotateCmpFunc_plan_Object ?_
  refine .cons Try.func46 Ok.slices_swapRangeCmpFunc_plan_Object ?_
  exact .nil
end Go.Proofs.Ytclgilndihagiaa
