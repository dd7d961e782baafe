/- The texts of this seat are its functions' translations. -/
import Derived.Test.YtfpfknafcgkcjaaCompactIr
import Derived.Test.YtfpfknafcgkcjaaProg
import Derived.KernelRfl

namespace Go.Proofs.Ytfpfknafcgkcjaa
open Go Go.Ir

theorem Ok.sidingslaw18_CompactEnds : cFunc Try.prog Try.f3 ⟨[3, 12], false, [[3, 7, 8, 10, 11]]⟩ = some F.sidingslaw18_CompactEnds := by kernel_rfl
theorem Ok.sidingslaw18_CompactBusy : cFunc Try.prog Try.f4 ⟨[1, 3, 12], false, []⟩ = some F.sidingslaw18_CompactBusy := by kernel_rfl
theorem Ok.sidingslaw18_CompactTwice : cFunc Try.prog Try.f5 ⟨[3, 12], false, [[3, 7, 10, 11, 12, 14]]⟩ = some F.sidingslaw18_CompactTwice := by kernel_rfl
theorem Ok.sidingslaw18_CompactNil : cFunc Try.prog Try.f6 ⟨[1, 4, 6, 8], false, []⟩ = some F.sidingslaw18_CompactNil := by kernel_rfl
theorem Ok.sidingslaw18_CompactLocks : cFunc Try.prog Try.f7 ⟨[3, 14, 16, 19], false, [[1, 3, 7, 10, 11, 12, 13], [1, 3, 7, 10, 11, 12, 13, 15, 16, 17, 18], [3, 7, 11, 22]]⟩ = some F.sidingslaw18_CompactLocks := by kernel_rfl
theorem Ok.sidingslaw18_start : cFunc Try.prog Try.f8 ⟨[1], false, []⟩ = some F.sidingslaw18_start := by kernel_rfl
theorem Ok.sidingsref06_May : cFunc Try.prog Try.f9 ⟨[1], true, []⟩ = some F.sidingsref06_May := by kernel_rfl
theorem Ok.sidingslaw18_live : cFunc Try.prog Try.f10 ⟨[1, 6, 9, 11], true, []⟩ = some F.sidingslaw18_live := by kernel_rfl
theorem Ok.sidingslaw18_lay : cFunc Try.prog Try.f11 ⟨[5], false, [[0, 2, 3, 5, 10, 11, 12], [0, 2, 3, 5, 10, 11, 12, 13, 17]]⟩ = some F.sidingslaw18_lay := by kernel_rfl
theorem Ok.sidingslaw18_run : cFunc Try.prog Try.f12 ⟨[6, 9], false, [[0, 1, 2, 6, 8]]⟩ = some F.sidingslaw18_run := by kernel_rfl
theorem Ok.compact_New : cFunc Try.prog Try.f13 ⟨[1, 3], false, []⟩ = some F.compact_New := by kernel_rfl
theorem Ok.cells_Plain_Load : cFunc Try.prog Try.f14 ⟨[], false, []⟩ = some F.cells_Plain_Load := by kernel_rfl
theorem Ok.cells_Plain_Store : cFunc Try.prog Try.f15 ⟨[], false, []⟩ = some F.cells_Plain_Store := by kernel_rfl
theorem Ok.compact_Machine_Lowered : cFunc Try.prog Try.f16 ⟨[], false, []⟩ = some F.compact_Machine_Lowered := by kernel_rfl
theorem Ok.cells_Plain_Copy : cFunc Try.prog Try.f17 ⟨[], false, []⟩ = some F.cells_Plain_Copy := by kernel_rfl
theorem Ok.cells_Plain_Byte : cFunc Try.prog Try.f18 ⟨[], false, []⟩ = some F.cells_Plain_Byte := by kernel_rfl
theorem Ok.compact_Machine_Step : cFunc Try.prog Try.f19 ⟨[4], false, []⟩ = some F.compact_Machine_Step := by kernel_rfl
theorem Ok.compact_Machine_Moving : cFunc Try.prog Try.f20 ⟨[2, 4], false, []⟩ = some F.compact_Machine_Moving := by kernel_rfl
theorem Ok.sidingsref02_Unpack : cFunc Try.prog Try.f21 ⟨[2, 4], true, []⟩ = some F.sidingsref02_Unpack := by kernel_rfl
theorem Ok.cells_New : cFunc Try.prog Try.f22 ⟨[], false, []⟩ = some F.cells_New := by kernel_rfl
theorem Ok.sidingsref06_Words : cFunc Try.prog Try.f23 ⟨[1], true, []⟩ = some F.sidingsref06_Words := by kernel_rfl
theorem Ok.layout_Start : cFunc Try.prog Try.f24 ⟨[3, 5], false, [[0, 5, 38, 39], [0, 5, 8, 9]]⟩ = some F.layout_Start := by kernel_rfl
theorem Ok.sidingsref02_Pack : cFunc Try.prog Try.f25 ⟨[1], true, []⟩ = some F.sidingsref02_Pack := by kernel_rfl
theorem Ok.cells_Plain_SetByte : cFunc Try.prog Try.f26 ⟨[], false, []⟩ = some F.cells_Plain_SetByte := by kernel_rfl
theorem Ok.sidingsref03_Round : cFunc Try.prog Try.f27 ⟨[], true, [[0]]⟩ = some F.sidingsref03_Round := by kernel_rfl
theorem Ok.layout_Of : cFunc Try.prog Try.f28 ⟨[1, 2], true, []⟩ = some F.layout_Of := by kernel_rfl
theorem Ok.cells_Plain_word : cFunc Try.prog Try.f29 ⟨[], false, []⟩ = some F.cells_Plain_word := by kernel_rfl
theorem Ok.cells_Plain_byte : cFunc Try.prog Try.f30 ⟨[], false, []⟩ = some F.cells_Plain_byte := by kernel_rfl
theorem Ok.layout_Layout_Frontier : cFunc Try.prog Try.f31 ⟨[1], true, []⟩ = some F.layout_Layout_Frontier := by kernel_rfl
theorem Ok.compact_Machine_on : cFunc Try.prog Try.f32 ⟨[4], false, []⟩ = some F.compact_Machine_on := by kernel_rfl
theorem Ok.layout_Layout_Pending : cFunc Try.prog Try.f33 ⟨[1], true, []⟩ = some F.layout_Layout_Pending := by kernel_rfl
theorem Ok.compact_Machine_end : cFunc Try.prog Try.f34 ⟨[2], false, []⟩ = some F.compact_Machine_end := by kernel_rfl
theorem Ok.compact_Machine_scan : cFunc Try.prog Try.f35 ⟨[4, 6], false, []⟩ = some F.compact_Machine_scan := by kernel_rfl
theorem Ok.compact_Machine_measure : cFunc Try.prog Try.f36 ⟨[4], false, []⟩ = some F.compact_Machine_measure := by kernel_rfl
theorem Ok.compact_Machine_look : cFunc Try.prog Try.f37 ⟨[4, 6, 7], false, []⟩ = some F.compact_Machine_look := by kernel_rfl
theorem Ok.compact_Machine_lock : cFunc Try.prog Try.f38 ⟨[4], false, []⟩ = some F.compact_Machine_lock := by kernel_rfl
theorem Ok.compact_Machine_object : cFunc Try.prog Try.f39 ⟨[2], false, []⟩ = some F.compact_Machine_object := by kernel_rfl
theorem Ok.compact_Machine_lay : cFunc Try.prog Try.f40 ⟨[4], false, []⟩ = some F.compact_Machine_lay := by kernel_rfl
theorem Ok.compact_Machine_store : cFunc Try.prog Try.f41 ⟨[4], false, []⟩ = some F.compact_Machine_store := by kernel_rfl
theorem Ok.compact_Machine_turn : cFunc Try.prog Try.f42 ⟨[4], false, []⟩ = some F.compact_Machine_turn := by kernel_rfl
theorem Ok.sidingsref02_May : cFunc Try.prog Try.f43 ⟨[1], true, []⟩ = some F.sidingsref02_May := by kernel_rfl
theorem Ok.cells_may : cFunc Try.prog Try.f44 ⟨[], true, []⟩ = some F.cells_may := by kernel_rfl
theorem Ok.layout_Layout_Words : cFunc Try.prog Try.f45 ⟨[1], true, []⟩ = some F.layout_Layout_Words := by kernel_rfl
theorem Ok.layout_Layout_Link : cFunc Try.prog Try.f46 ⟨[2], true, []⟩ = some F.layout_Layout_Link := by kernel_rfl
theorem Ok.head_Pack : cFunc Try.prog Try.f47 ⟨[], true, []⟩ = some F.head_Pack := by kernel_rfl
theorem Ok.layout_Layout_Stack : cFunc Try.prog Try.f48 ⟨[1], true, []⟩ = some F.layout_Layout_Stack := by kernel_rfl
theorem Ok.sidingsref02_bit : cFunc Try.prog Try.f49 ⟨[], true, []⟩ = some F.sidingsref02_bit := by kernel_rfl
theorem Ok.layout_in : cFunc Try.prog Try.f50 ⟨[], true, []⟩ = some F.layout_in := by kernel_rfl
theorem Ok.layout_Layout_once : cFunc Try.prog Try.f51 ⟨[2], true, []⟩ = some F.layout_Layout_once := by kernel_rfl
theorem Ok.entry_Unpack : cFunc Try.prog Try.f52 ⟨[2, 6, 7], true, [[0, 2, 4, 15, 16]]⟩ = some F.entry_Unpack := by kernel_rfl
theorem Ok.layout_Layout_Entry : cFunc Try.prog Try.f53 ⟨[2], true, []⟩ = some F.layout_Layout_Entry := by kernel_rfl
theorem Ok.compact_Machine_scanned : cFunc Try.prog Try.f54 ⟨[2], false, []⟩ = some F.compact_Machine_scanned := by kernel_rfl
theorem Ok.handle_Round : cFunc Try.prog Try.f55 ⟨[], true, [[0]]⟩ = some F.handle_Round := by kernel_rfl
theorem Ok.layout_Layout_Size : cFunc Try.prog Try.f56 ⟨[2], true, []⟩ = some F.layout_Layout_Size := by kernel_rfl
theorem Ok.compact_Machine_passed : cFunc Try.prog Try.f57 ⟨[2], false, []⟩ = some F.compact_Machine_passed := by kernel_rfl
theorem Ok.entry_Lock : cFunc Try.prog Try.f58 ⟨[], true, []⟩ = some F.entry_Lock := by kernel_rfl
theorem Ok.entry_Move : cFunc Try.prog Try.f59 ⟨[], true, []⟩ = some F.entry_Move := by kernel_rfl
theorem Ok.epoch_Turn_Step : cFunc Try.prog Try.f60 ⟨[], false, []⟩ = some F.epoch_Turn_Step := by kernel_rfl
theorem Ok.layout_Layout_of : cFunc Try.prog Try.f61 ⟨[3], true, []⟩ = some F.layout_Layout_of := by kernel_rfl
theorem Ok.head_may : cFunc Try.prog Try.f62 ⟨[], true, []⟩ = some F.head_may := by kernel_rfl
theorem Ok.head_of : cFunc Try.prog Try.f63 ⟨[], true, []⟩ = some F.head_of := by kernel_rfl
theorem Ok.head_front_word : cFunc Try.prog Try.f64 ⟨[], true, []⟩ = some F.head_front_word := by kernel_rfl
theorem Ok.entry_fields : cFunc Try.prog Try.f65 ⟨[0], true, []⟩ = some F.entry_fields := by kernel_rfl
theorem Ok.field_Get : cFunc Try.prog Try.f66 ⟨[3], true, []⟩ = some F.field_Get := by kernel_rfl
theorem Ok.entry_Entry_may : cFunc Try.prog Try.f67 ⟨[1], true, []⟩ = some F.entry_Entry_may := by kernel_rfl
theorem Ok.plan_Sort : cFunc Try.prog Try.f68 ⟨[], true, []⟩ = some F.plan_Sort := by kernel_rfl
theorem Ok.compact_Machine_behind : cFunc Try.prog Try.f69 ⟨[2], false, []⟩ = some F.compact_Machine_behind := by kernel_rfl
theorem Ok.entry_changed : cFunc Try.prog Try.f70 ⟨[], true, []⟩ = some F.entry_changed := by kernel_rfl
theorem Ok.entry_Lock_1 : cFunc Try.prog Try.f71 ⟨[], false, []⟩ = some F.entry_Lock_1 := by kernel_rfl
theorem Ok.entry_Move_1 : cFunc Try.prog Try.f72 ⟨[], false, []⟩ = some F.entry_Move_1 := by kernel_rfl
theorem Ok.layout_Layout_Epoch : cFunc Try.prog Try.f73 ⟨[1], true, []⟩ = some F.layout_Layout_Epoch := by kernel_rfl
theorem Ok.head_Older : cFunc Try.prog Try.f74 ⟨[], true, []⟩ = some F.head_Older := by kernel_rfl
theorem Ok.layout_Layout_Note : cFunc Try.prog Try.f75 ⟨[2], true, []⟩ = some F.layout_Layout_Note := by kernel_rfl
theorem Ok.field_Put : cFunc Try.prog Try.f76 ⟨[4], true, []⟩ = some F.field_Put := by kernel_rfl
theorem Ok.head_topField : cFunc Try.prog Try.f77 ⟨[0], true, []⟩ = some F.head_topField := by kernel_rfl
theorem Ok.head_front_top : cFunc Try.prog Try.f78 ⟨[], true, []⟩ = some F.head_front_top := by kernel_rfl
theorem Ok.head_tagField : cFunc Try.prog Try.f79 ⟨[0], true, []⟩ = some F.head_tagField := by kernel_rfl
theorem Ok.head_front_tag : cFunc Try.prog Try.f80 ⟨[], true, []⟩ = some F.head_front_tag := by kernel_rfl
theorem Ok.field_word : cFunc Try.prog Try.f81 ⟨[], true, []⟩ = some F.field_word := by kernel_rfl
theorem Ok.field_told : cFunc Try.prog Try.f82 ⟨[3], true, []⟩ = some F.field_told := by kernel_rfl
theorem Ok.field_Field_mask : cFunc Try.prog Try.f83 ⟨[1], true, []⟩ = some F.field_Field_mask := by kernel_rfl
theorem Ok.entry_in : cFunc Try.prog Try.f84 ⟨[], true, []⟩ = some F.entry_in := by kernel_rfl
theorem Ok.slices_Clone_Lplan_Object : cFunc Try.prog Try.f85 ⟨[], true, []⟩ = some F.slices_Clone_Lplan_Object := by kernel_rfl
theorem Ok.slices_SortStableFunc_Lplan_Object : cFunc Try.prog Try.f86 ⟨[], false, []⟩ = some F.slices_SortStableFunc_Lplan_Object := by kernel_rfl
theorem Ok.plan_byPlace : cFunc Try.prog Try.f87 ⟨[2, 3], true, []⟩ = some F.plan_byPlace := by kernel_rfl
theorem Ok.epoch_NewTurn : cFunc Try.prog Try.f88 ⟨[1, 3], false, []⟩ = some F.epoch_NewTurn := by kernel_rfl
theorem Ok.entry_Pack : cFunc Try.prog Try.f89 ⟨[1], true, [[4, 24, 25]]⟩ = some F.entry_Pack := by kernel_rfl
theorem Ok.head_Inside : cFunc Try.prog Try.f90 ⟨[], true, []⟩ = some F.head_Inside := by kernel_rfl
theorem Ok.field_Field_may : cFunc Try.prog Try.f91 ⟨[1], true, []⟩ = some F.field_Field_may := by kernel_rfl
theorem Ok.field_Field_most : cFunc Try.prog Try.f92 ⟨[1], true, []⟩ = some F.field_Field_most := by kernel_rfl
theorem Ok.slices_stableCmpFunc_plan_Object : cFunc Try.prog Try.f93 ⟨[], false, [[0, 1, 2, 6, 7, 8], [0, 1, 2, 6], [0, 1, 2, 6, 7, 8]]⟩ = some F.slices_stableCmpFunc_plan_Object := by kernel_rfl
theorem Ok.cmp_Or_int : cFunc Try.prog Try.f94 ⟨[], true, [[3, 6, 7, 8]]⟩ = some F.cmp_Or_int := by kernel_rfl
theorem Ok.cmp_Compare_int : cFunc Try.prog Try.f95 ⟨[], true, []⟩ = some F.cmp_Compare_int := by kernel_rfl
theorem Ok.plan_bit : cFunc Try.prog Try.f96 ⟨[], true, []⟩ = some F.plan_bit := by kernel_rfl
theorem Ok.entry_bit : cFunc Try.prog Try.f97 ⟨[], true, []⟩ = some F.entry_bit := by kernel_rfl
theorem Ok.slices_insertionSortCmpFunc_plan_Object : cFunc Try.prog Try.f98 ⟨[], false, [[0, 1, 2, 3, 8], [0, 1, 2, 3, 8, 9]]⟩ = some F.slices_insertionSortCmpFunc_plan_Object := by kernel_rfl
theorem Ok.slices_symMergeCmpFunc_plan_Object : cFunc Try.prog Try.f99 ⟨[], false, [[0, 1, 4, 10, 11], [0, 10, 13], [0, 2, 4, 14, 15], [0, 14, 17], [0, 1, 2, 3, 4, 18, 19, 20, 21, 22]]⟩ = some F.slices_symMergeCmpFunc_plan_Object := by kernel_rfl
theorem Ok.cmp_isNaN_int : cFunc Try.prog Try.f100 ⟨[], true, []⟩ = some F.cmp_isNaN_int := by kernel_rfl
theorem Ok.slices_rotateCmpFunc_plan_Object : cFunc Try.prog Try.f101 ⟨[], false, [[0, 2, 4, 10, 11]]⟩ = some F.slices_rotateCmpFunc_plan_Object := by kernel_rfl
theorem Ok.slices_swapRangeCmpFunc_plan_Object : cFunc Try.prog Try.f102 ⟨[], false, [[0, 1, 2, 3, 10]]⟩ = some F.slices_swapRangeCmpFunc_plan_Object := by kernel_rfl
theorem Ok.cells_Plain_Bytes : cFunc Try.prog Try.f118 ⟨[], false, []⟩ = some F.cells_Plain_Bytes := by kernel_rfl
theorem Ok.cells_Plain_Cas : cFunc Try.prog Try.f119 ⟨[], false, []⟩ = some F.cells_Plain_Cas := by kernel_rfl
theorem Ok.cells_Plain_Words : cFunc Try.prog Try.f120 ⟨[], false, []⟩ = some F.cells_Plain_Words := by kernel_rfl

theorem tbl_ok : TblOk Try.prog tbl := by
 unfold tbl
 refine .cons Try.func3 Ok.sidingslaw18_CompactEnds ?_
 refine .cons Try.func4 Ok.sidingslaw18_CompactBusy ?_
 refine .cons Try.func5 Ok.sidingslaw18_CompactTwice ?_
 refine .cons Try.func6 Ok.sidingslaw18_CompactNil ?_
 refine .cons Try.func7 Ok.sidingslaw18_CompactLocks ?_
 refine .cons Try.func8 Ok.sidingslaw18_start ?_
 refine .cons Try.func9 Ok.sidingsref06_May ?_
 refine .cons Try.func10 Ok.sidingslaw18_live ?_
 refine .cons Try.func11 Ok.sidingslaw18_lay ?_
 refine .cons Try.func12 Ok.sidingslaw18_run ?_
 refine .cons Try.func13 Ok.compact_New ?_
 refine .cons Try.func14 Ok.cells_Plain_Load ?_
 refine .cons Try.func15 Ok.cells_Plain_Store ?_
 refine .cons Try.func16 Ok.compact_Machine_Lowered ?_
 refine .cons Try.func17 Ok.cells_Plain_Copy ?_
 refine .cons Try.func18 Ok.cells_Plain_Byte ?_
 refine .cons Try.func19 Ok.compact_Machine_Step ?_
 refine .cons Try.func20 Ok.compact_Machine_Moving ?_
 refine .cons Try.func21 Ok.sidingsref02_Unpack ?_
 refine .cons Try.func22 Ok.cells_New ?_
 refine .cons Try.func23 Ok.sidingsref06_Words ?_
 refine .cons Try.func24 Ok.layout_Start ?_
 refine .cons Try.func25 Ok.sidingsref02_Pack ?_
 refine .cons Try.func26 Ok.cells_Plain_SetByte ?_
 refine .cons Try.func27 Ok.sidingsref03_Round ?_
 refine .cons Try.func28 Ok.layout_Of ?_
 refine .cons Try.func29 Ok.cells_Plain_word ?_
 refine .cons Try.func30 Ok.cells_Plain_byte ?_
 refine .cons Try.func31 Ok.layout_Layout_Frontier ?_
 refine .cons Try.func32 Ok.compact_Machine_on ?_
 refine .cons Try.func33 Ok.layout_Layout_Pending ?_
 refine .cons Try.func34 Ok.compact_Machine_end ?_
 refine .cons Try.func35 Ok.compact_Machine_scan ?_
 refine .cons Try.func36 Ok.compact_Machine_measure ?_
 refine .cons Try.func37 Ok.compact_Machine_look ?_
 refine .cons Try.func38 Ok.compact_Machine_lock ?_
 refine .cons Try.func39 Ok.compact_Machine_object ?_
 refine .cons Try.func40 Ok.compact_Machine_lay ?_
 refine .cons Try.func41 Ok.compact_Machine_store ?_
 refine .cons Try.func42 Ok.compact_Machine_turn ?_
 refine .cons Try.func43 Ok.sidingsref02_May ?_
 refine .cons Try.func44 Ok.cells_may ?_
 refine .cons Try.func45 Ok.layout_Layout_Words ?_
 refine .cons Try.func46 Ok.layout_Layout_Link ?_
 refine .cons Try.func47 Ok.head_Pack ?_
 refine .cons Try.func48 Ok.layout_Layout_Stack ?_
 refine .cons Try.func49 Ok.sidingsref02_bit ?_
 refine .cons Try.func50 Ok.layout_in ?_
 refine .cons Try.func51 Ok.layout_Layout_once ?_
 refine .cons Try.func52 Ok.entry_Unpack ?_
 refine .cons Try.func53 Ok.layout_Layout_Entry ?_
 refine .cons Try.func54 Ok.compact_Machine_scanned ?_
 refine .cons Try.func55 Ok.handle_Round ?_
 refine .cons Try.func56 Ok.layout_Layout_Size ?_
 refine .cons Try.func57 Ok.compact_Machine_passed ?_
 refine .cons Try.func58 Ok.entry_Lock ?_
 refine .cons Try.func59 Ok.entry_Move ?_
 refine .cons Try.func60 Ok.epoch_Turn_Step ?_
 refine .cons Try.func61 Ok.layout_Layout_of ?_
 refine .cons Try.func62 Ok.head_may ?_
 refine .cons Try.func63 Ok.head_of ?_
 refine .cons Try.func64 Ok.head_front_word ?_
 refine .cons Try.func65 Ok.entry_fields ?_
 refine .cons Try.func66 Ok.field_Get ?_
 refine .cons Try.func67 Ok.entry_Entry_may ?_
 refine .cons Try.func68 Ok.plan_Sort ?_
 refine .cons Try.func69 Ok.compact_Machine_behind ?_
 refine .cons Try.func70 Ok.entry_changed ?_
 refine .cons Try.func71 Ok.entry_Lock_1 ?_
 refine .cons Try.func72 Ok.entry_Move_1 ?_
 refine .cons Try.func73 Ok.layout_Layout_Epoch ?_
 refine .cons Try.func74 Ok.head_Older ?_
 refine .cons Try.func75 Ok.layout_Layout_Note ?_
 refine .cons Try.func76 Ok.field_Put ?_
 refine .cons Try.func77 Ok.head_topField ?_
 refine .cons Try.func78 Ok.head_front_top ?_
 refine .cons Try.func79 Ok.head_tagField ?_
 refine .cons Try.func80 Ok.head_front_tag ?_
 refine .cons Try.func81 Ok.field_word ?_
 refine .cons Try.func82 Ok.field_told ?_
 refine .cons Try.func83 Ok.field_Field_mask ?_
 refine .cons Try.func84 Ok.entry_in ?_
 refine .cons Try.func85 Ok.slices_Clone_Lplan_Object ?_
 refine .cons Try.func86 Ok.slices_SortStableFunc_Lplan_Object ?_
 refine .cons Try.func87 Ok.plan_byPlace ?_
 refine .cons Try.func88 Ok.epoch_NewTurn ?_
 refine .cons Try.func89 Ok.entry_Pack ?_
 refine .cons Try.func90 Ok.head_Inside ?_
 refine .cons Try.func91 Ok.field_Field_may ?_
 refine .cons Try.func92 Ok.field_Field_most ?_
 refine .cons Try.func93 Ok.slices_stableCmpFunc_plan_Object ?_
 refine .cons Try.func94 Ok.cmp_Or_int ?_
 refine .cons Try.func95 Ok.cmp_Compare_int ?_
 refine .cons Try.func96 Ok.plan_bit ?_
 refine .cons Try.func97 Ok.entry_bit ?_
 refine .cons Try.func98 Ok.slices_insertionSortCmpFunc_plan_Object ?_
 refine .cons Try.func99 Ok.slices_symMergeCmpFunc_plan_Object ?_
 refine .cons Try.func100 Ok.cmp_isNaN_int ?_
 refine .cons Try.func101 Ok.slices_rotateCmpFunc_plan_Object ?_
 refine .cons Try.func102 Ok.slices_swapRangeCmpFunc_plan_Object ?_
 refine .cons Try.func118 Ok.cells_Plain_Bytes ?_
 refine .cons Try.func119 Ok.cells_Plain_Cas ?_
 refine .cons Try.func120 Ok.cells_Plain_Words ?_
 exact .nil
end Go.Proofs.Ytfpfknafcgkcjaa

