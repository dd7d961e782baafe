/- The texts of this seat are its functions' translations. -/
import Derived.Test.YtfpfknafcgkcjaaGreatAloneIr
import Derived.Test.YtfpfknafcgkcjaaGreatProg
import Derived.KernelRfl

namespace Go.Proofs.YtfpfknafcgkcjaaGreat
open Go Go.Ir

theorem Ok.sidingslaw18_CompactAlone : cFunc Tryz.prog Tryz.f3 ⟨[3, 15], false, [[1, 3, 7, 8, 11, 17], [1, 3, 7, 8, 11, 17, 18, 19], [1, 3, 7, 8, 11, 17, 18, 22]]⟩ = some F.sidingslaw18_CompactAlone := by kernel_rfl
theorem Ok.sidingslaw18_start : cFunc Tryz.prog Tryz.f4 ⟨[1], false, []⟩ = some F.sidingslaw18_start := by kernel_rfl
theorem Ok.sidingsref06_May : cFunc Tryz.prog Tryz.f5 ⟨[1], true, []⟩ = some F.sidingsref06_May := by kernel_rfl
theorem Ok.sidingslaw18_live : cFunc Tryz.prog Tryz.f6 ⟨[1, 6, 9, 11], true, []⟩ = some F.sidingslaw18_live := by kernel_rfl
theorem Ok.sidingslaw18_lay : cFunc Tryz.prog Tryz.f7 ⟨[5], false, [[0, 2, 3, 5, 10, 11, 12], [0, 2, 3, 5, 10, 11, 12, 13, 17]]⟩ = some F.sidingslaw18_lay := by kernel_rfl
theorem Ok.cells_Plain_Load : cFunc Tryz.prog Tryz.f8 ⟨[], false, []⟩ = some F.cells_Plain_Load := by kernel_rfl
theorem Ok.plan_Slide : cFunc Tryz.prog Tryz.f9 ⟨[11], true, [[8, 9, 20, 21, 22]]⟩ = some F.plan_Slide := by kernel_rfl
theorem Ok.compact_New : cFunc Tryz.prog Tryz.f10 ⟨[1, 3], false, []⟩ = some F.compact_New := by kernel_rfl
theorem Ok.sidingslaw18_run : cFunc Tryz.prog Tryz.f11 ⟨[6, 9], false, [[0, 1, 2, 6, 8]]⟩ = some F.sidingslaw18_run := by kernel_rfl
theorem Ok.compact_Machine_Lowered : cFunc Tryz.prog Tryz.f12 ⟨[], false, []⟩ = some F.compact_Machine_Lowered := by kernel_rfl
theorem Ok.sidingsref02_Pack : cFunc Tryz.prog Tryz.f13 ⟨[1], true, []⟩ = some F.sidingsref02_Pack := by kernel_rfl
theorem Ok.cells_Plain_Byte : cFunc Tryz.prog Tryz.f14 ⟨[], false, []⟩ = some F.cells_Plain_Byte := by kernel_rfl
theorem Ok.cells_New : cFunc Tryz.prog Tryz.f15 ⟨[], false, []⟩ = some F.cells_New := by kernel_rfl
theorem Ok.sidingsref06_Words : cFunc Tryz.prog Tryz.f16 ⟨[1], true, []⟩ = some F.sidingsref06_Words := by kernel_rfl
theorem Ok.layout_Start : cFunc Tryz.prog Tryz.f17 ⟨[3, 5], false, [[0, 5, 38, 39], [0, 5, 8, 9]]⟩ = some F.layout_Start := by kernel_rfl
theorem Ok.cells_Plain_Store : cFunc Tryz.prog Tryz.f18 ⟨[], false, []⟩ = some F.cells_Plain_Store := by kernel_rfl
theorem Ok.cells_Plain_SetByte : cFunc Tryz.prog Tryz.f19 ⟨[], false, []⟩ = some F.cells_Plain_SetByte := by kernel_rfl
theorem Ok.sidingsref03_Round : cFunc Tryz.prog Tryz.f20 ⟨[], true, [[0]]⟩ = some F.sidingsref03_Round := by kernel_rfl
theorem Ok.cells_Plain_word : cFunc Tryz.prog Tryz.f21 ⟨[], false, []⟩ = some F.cells_Plain_word := by kernel_rfl
theorem Ok.plan_Check : cFunc Tryz.prog Tryz.f22 ⟨[], true, []⟩ = some F.plan_Check := by kernel_rfl
theorem Ok.plan_Sort : cFunc Tryz.prog Tryz.f23 ⟨[], true, []⟩ = some F.plan_Sort := by kernel_rfl
theorem Ok.layout_Of : cFunc Tryz.prog Tryz.f24 ⟨[1, 2], true, []⟩ = some F.layout_Of := by kernel_rfl
theorem Ok.compact_Machine_Step : cFunc Tryz.prog Tryz.f25 ⟨[4], false, []⟩ = some F.compact_Machine_Step := by kernel_rfl
theorem Ok.sidingsref02_May : cFunc Tryz.prog Tryz.f26 ⟨[1], true, []⟩ = some F.sidingsref02_May := by kernel_rfl
theorem Ok.sidingsref02_bit : cFunc Tryz.prog Tryz.f27 ⟨[], true, []⟩ = some F.sidingsref02_bit := by kernel_rfl
theorem Ok.cells_Plain_byte : cFunc Tryz.prog Tryz.f28 ⟨[], false, []⟩ = some F.cells_Plain_byte := by kernel_rfl
theorem Ok.cells_may : cFunc Tryz.prog Tryz.f29 ⟨[], true, []⟩ = some F.cells_may := by kernel_rfl
theorem Ok.layout_Layout_Words : cFunc Tryz.prog Tryz.f30 ⟨[1], true, []⟩ = some F.layout_Layout_Words := by kernel_rfl
theorem Ok.layout_Layout_Link : cFunc Tryz.prog Tryz.f31 ⟨[2], true, []⟩ = some F.layout_Layout_Link := by kernel_rfl
theorem Ok.head_Pack : cFunc Tryz.prog Tryz.f32 ⟨[], true, []⟩ = some F.head_Pack := by kernel_rfl
theorem Ok.layout_Layout_Stack : cFunc Tryz.prog Tryz.f33 ⟨[1], true, []⟩ = some F.layout_Layout_Stack := by kernel_rfl
theorem Ok.plan_Check_1 : cFunc Tryz.prog Tryz.f34 ⟨[2], true, []⟩ = some F.plan_Check_1 := by kernel_rfl
theorem Ok.slices_ContainsFunc_Lplan_Object : cFunc Tryz.prog Tryz.f35 ⟨[], true, []⟩ = some F.slices_ContainsFunc_Lplan_Object := by kernel_rfl
theorem Ok.plan_Apart : cFunc Tryz.prog Tryz.f36 ⟨[], true, [[3, 9, 10, 11]]⟩ = some F.plan_Apart := by kernel_rfl
theorem Ok.slices_Clone_Lplan_Object : cFunc Tryz.prog Tryz.f37 ⟨[], true, []⟩ = some F.slices_Clone_Lplan_Object := by kernel_rfl
theorem Ok.slices_SortStableFunc_Lplan_Object : cFunc Tryz.prog Tryz.f38 ⟨[], false, []⟩ = some F.slices_SortStableFunc_Lplan_Object := by kernel_rfl
theorem Ok.plan_byPlace : cFunc Tryz.prog Tryz.f39 ⟨[2, 3], true, []⟩ = some F.plan_byPlace := by kernel_rfl
theorem Ok.layout_in : cFunc Tryz.prog Tryz.f40 ⟨[], true, []⟩ = some F.layout_in := by kernel_rfl
theorem Ok.layout_Layout_Frontier : cFunc Tryz.prog Tryz.f41 ⟨[1], true, []⟩ = some F.layout_Layout_Frontier := by kernel_rfl
theorem Ok.compact_Machine_on : cFunc Tryz.prog Tryz.f42 ⟨[4], false, []⟩ = some F.compact_Machine_on := by kernel_rfl
theorem Ok.layout_Layout_Pending : cFunc Tryz.prog Tryz.f43 ⟨[1], true, []⟩ = some F.layout_Layout_Pending := by kernel_rfl
theorem Ok.compact_Machine_end : cFunc Tryz.prog Tryz.f44 ⟨[2], false, []⟩ = some F.compact_Machine_end := by kernel_rfl
theorem Ok.compact_Machine_scan : cFunc Tryz.prog Tryz.f45 ⟨[4, 6], false, []⟩ = some F.compact_Machine_scan := by kernel_rfl
theorem Ok.compact_Machine_measure : cFunc Tryz.prog Tryz.f46 ⟨[4], false, []⟩ = some F.compact_Machine_measure := by kernel_rfl
theorem Ok.compact_Machine_look : cFunc Tryz.prog Tryz.f47 ⟨[4, 6, 7], false, []⟩ = some F.compact_Machine_look := by kernel_rfl
theorem Ok.compact_Machine_lock : cFunc Tryz.prog Tryz.f48 ⟨[4], false, []⟩ = some F.compact_Machine_lock := by kernel_rfl
theorem Ok.compact_Machine_object : cFunc Tryz.prog Tryz.f49 ⟨[2], false, []⟩ = some F.compact_Machine_object := by kernel_rfl
theorem Ok.compact_Machine_lay : cFunc Tryz.prog Tryz.f50 ⟨[4], false, []⟩ = some F.compact_Machine_lay := by kernel_rfl
theorem Ok.compact_Machine_store : cFunc Tryz.prog Tryz.f51 ⟨[4], false, []⟩ = some F.compact_Machine_store := by kernel_rfl
theorem Ok.compact_Machine_turn : cFunc Tryz.prog Tryz.f52 ⟨[4], false, []⟩ = some F.compact_Machine_turn := by kernel_rfl
theorem Ok.layout_Layout_of : cFunc Tryz.prog Tryz.f53 ⟨[3], true, []⟩ = some F.layout_Layout_of := by kernel_rfl
theorem Ok.head_may : cFunc Tryz.prog Tryz.f54 ⟨[], true, []⟩ = some F.head_may := by kernel_rfl
theorem Ok.head_of : cFunc Tryz.prog Tryz.f55 ⟨[], true, []⟩ = some F.head_of := by kernel_rfl
theorem Ok.head_front_word : cFunc Tryz.prog Tryz.f56 ⟨[], true, []⟩ = some F.head_front_word := by kernel_rfl
theorem Ok.layout_Layout_once : cFunc Tryz.prog Tryz.f57 ⟨[2], true, []⟩ = some F.layout_Layout_once := by kernel_rfl
theorem Ok.slices_IndexFunc_Lplan_Object : cFunc Tryz.prog Tryz.f58 ⟨[], true, [[0, 1, 7, 8]]⟩ = some F.slices_IndexFunc_Lplan_Object := by kernel_rfl
theorem Ok.slices_DeleteFunc_Lplan_Object : cFunc Tryz.prog Tryz.f59 ⟨[7], false, [[0, 1, 5, 6]]⟩ = some F.slices_DeleteFunc_Lplan_Object := by kernel_rfl
theorem Ok.plan_Apart_1 : cFunc Tryz.prog Tryz.f60 ⟨[1], true, []⟩ = some F.plan_Apart_1 := by kernel_rfl
theorem Ok.plan_Apart_2 : cFunc Tryz.prog Tryz.f61 ⟨[2], true, []⟩ = some F.plan_Apart_2 := by kernel_rfl
theorem Ok.plan_begins : cFunc Tryz.prog Tryz.f62 ⟨[2, 3], true, []⟩ = some F.plan_begins := by kernel_rfl
theorem Ok.slices_stableCmpFunc_plan_Object : cFunc Tryz.prog Tryz.f63 ⟨[], false, [[0, 1, 2, 6, 7, 8], [0, 1, 2, 6], [0, 1, 2, 6, 7, 8]]⟩ = some F.slices_stableCmpFunc_plan_Object := by kernel_rfl
theorem Ok.cmp_Or_int : cFunc Tryz.prog Tryz.f64 ⟨[], true, [[3, 6, 7, 8]]⟩ = some F.cmp_Or_int := by kernel_rfl
theorem Ok.cmp_Compare_int : cFunc Tryz.prog Tryz.f65 ⟨[], true, []⟩ = some F.cmp_Compare_int := by kernel_rfl
theorem Ok.plan_bit : cFunc Tryz.prog Tryz.f66 ⟨[], true, []⟩ = some F.plan_bit := by kernel_rfl
theorem Ok.entry_Unpack : cFunc Tryz.prog Tryz.f67 ⟨[2, 6, 7], true, [[0, 2, 4, 15, 16]]⟩ = some F.entry_Unpack := by kernel_rfl
theorem Ok.layout_Layout_Entry : cFunc Tryz.prog Tryz.f68 ⟨[2], true, []⟩ = some F.layout_Layout_Entry := by kernel_rfl
theorem Ok.compact_Machine_scanned : cFunc Tryz.prog Tryz.f69 ⟨[2], false, []⟩ = some F.compact_Machine_scanned := by kernel_rfl
theorem Ok.handle_Round : cFunc Tryz.prog Tryz.f70 ⟨[], true, [[0]]⟩ = some F.handle_Round := by kernel_rfl
theorem Ok.layout_Layout_Size : cFunc Tryz.prog Tryz.f71 ⟨[2], true, []⟩ = some F.layout_Layout_Size := by kernel_rfl
theorem Ok.compact_Machine_passed : cFunc Tryz.prog Tryz.f72 ⟨[2], false, []⟩ = some F.compact_Machine_passed := by kernel_rfl
theorem Ok.entry_Lock : cFunc Tryz.prog Tryz.f73 ⟨[], true, []⟩ = some F.entry_Lock := by kernel_rfl
theorem Ok.entry_Move : cFunc Tryz.prog Tryz.f74 ⟨[], true, []⟩ = some F.entry_Move := by kernel_rfl
theorem Ok.epoch_Turn_Step : cFunc Tryz.prog Tryz.f75 ⟨[], false, []⟩ = some F.epoch_Turn_Step := by kernel_rfl
theorem Ok.field_Put : cFunc Tryz.prog Tryz.f76 ⟨[4], true, []⟩ = some F.field_Put := by kernel_rfl
theorem Ok.head_topField : cFunc Tryz.prog Tryz.f77 ⟨[0], true, []⟩ = some F.head_topField := by kernel_rfl
theorem Ok.head_front_top : cFunc Tryz.prog Tryz.f78 ⟨[], true, []⟩ = some F.head_front_top := by kernel_rfl
theorem Ok.head_tagField : cFunc Tryz.prog Tryz.f79 ⟨[0], true, []⟩ = some F.head_tagField := by kernel_rfl
theorem Ok.head_front_tag : cFunc Tryz.prog Tryz.f80 ⟨[], true, []⟩ = some F.head_front_tag := by kernel_rfl
theorem Ok.slices_insertionSortCmpFunc_plan_Object : cFunc Tryz.prog Tryz.f81 ⟨[], false, [[0, 1, 2, 3, 8], [0, 1, 2, 3, 8, 9]]⟩ = some F.slices_insertionSortCmpFunc_plan_Object := by kernel_rfl
theorem Ok.slices_symMergeCmpFunc_plan_Object : cFunc Tryz.prog Tryz.f82 ⟨[], false, [[0, 1, 4, 10, 11], [0, 10, 13], [0, 2, 4, 14, 15], [0, 14, 17], [0, 1, 2, 3, 4, 18, 19, 20, 21, 22]]⟩ = some F.slices_symMergeCmpFunc_plan_Object := by kernel_rfl
theorem Ok.cmp_isNaN_int : cFunc Tryz.prog Tryz.f83 ⟨[], true, []⟩ = some F.cmp_isNaN_int := by kernel_rfl
theorem Ok.entry_fields : cFunc Tryz.prog Tryz.f84 ⟨[0], true, []⟩ = some F.entry_fields := by kernel_rfl
theorem Ok.field_Get : cFunc Tryz.prog Tryz.f85 ⟨[3], true, []⟩ = some F.field_Get := by kernel_rfl
theorem Ok.entry_Entry_may : cFunc Tryz.prog Tryz.f86 ⟨[1], true, []⟩ = some F.entry_Entry_may := by kernel_rfl
theorem Ok.compact_Machine_behind : cFunc Tryz.prog Tryz.f87 ⟨[2], false, []⟩ = some F.compact_Machine_behind := by kernel_rfl
theorem Ok.entry_changed : cFunc Tryz.prog Tryz.f88 ⟨[], true, []⟩ = some F.entry_changed := by kernel_rfl
theorem Ok.entry_Lock_1 : cFunc Tryz.prog Tryz.f89 ⟨[], false, []⟩ = some F.entry_Lock_1 := by kernel_rfl
theorem Ok.entry_Move_1 : cFunc Tryz.prog Tryz.f90 ⟨[], false, []⟩ = some F.entry_Move_1 := by kernel_rfl
theorem Ok.layout_Layout_Epoch : cFunc Tryz.prog Tryz.f91 ⟨[1], true, []⟩ = some F.layout_Layout_Epoch := by kernel_rfl
theorem Ok.head_Older : cFunc Tryz.prog Tryz.f92 ⟨[], true, []⟩ = some F.head_Older := by kernel_rfl
theorem Ok.layout_Layout_Note : cFunc Tryz.prog Tryz.f93 ⟨[2], true, []⟩ = some F.layout_Layout_Note := by kernel_rfl
theorem Ok.field_word : cFunc Tryz.prog Tryz.f94 ⟨[], true, []⟩ = some F.field_word := by kernel_rfl
theorem Ok.field_Field_may : cFunc Tryz.prog Tryz.f95 ⟨[1], true, []⟩ = some F.field_Field_may := by kernel_rfl
theorem Ok.field_Field_most : cFunc Tryz.prog Tryz.f96 ⟨[1], true, []⟩ = some F.field_Field_most := by kernel_rfl
theorem Ok.field_Field_mask : cFunc Tryz.prog Tryz.f97 ⟨[1], true, []⟩ = some F.field_Field_mask := by kernel_rfl
theorem Ok.slices_rotateCmpFunc_plan_Object : cFunc Tryz.prog Tryz.f98 ⟨[], false, [[0, 2, 4, 10, 11]]⟩ = some F.slices_rotateCmpFunc_plan_Object := by kernel_rfl
theorem Ok.field_told : cFunc Tryz.prog Tryz.f99 ⟨[3], true, []⟩ = some F.field_told := by kernel_rfl
theorem Ok.entry_in : cFunc Tryz.prog Tryz.f100 ⟨[], true, []⟩ = some F.entry_in := by kernel_rfl
theorem Ok.epoch_NewTurn : cFunc Tryz.prog Tryz.f101 ⟨[1, 3], false, []⟩ = some F.epoch_NewTurn := by kernel_rfl
theorem Ok.entry_Pack : cFunc Tryz.prog Tryz.f102 ⟨[1], true, [[4, 24, 25]]⟩ = some F.entry_Pack := by kernel_rfl
theorem Ok.head_Inside : cFunc Tryz.prog Tryz.f103 ⟨[], true, []⟩ = some F.head_Inside := by kernel_rfl
theorem Ok.slices_swapRangeCmpFunc_plan_Object : cFunc Tryz.prog Tryz.f104 ⟨[], false, [[0, 1, 2, 3, 10]]⟩ = some F.slices_swapRangeCmpFunc_plan_Object := by kernel_rfl
theorem Ok.entry_bit : cFunc Tryz.prog Tryz.f105 ⟨[], true, []⟩ = some F.entry_bit := by kernel_rfl
theorem Ok.cells_Plain_Bytes : cFunc Tryz.prog Tryz.f121 ⟨[], false, []⟩ = some F.cells_Plain_Bytes := by kernel_rfl
theorem Ok.cells_Plain_Cas : cFunc Tryz.prog Tryz.f122 ⟨[], false, []⟩ = some F.cells_Plain_Cas := by kernel_rfl
theorem Ok.cells_Plain_Words : cFunc Tryz.prog Tryz.f123 ⟨[], false, []⟩ = some F.cells_Plain_Words := by kernel_rfl

theorem tbl_ok : TblOk Tryz.prog tbl := by
 unfold tbl
 refine .cons Tryz.func3 Ok.sidingslaw18_CompactAlone ?_
 refine .cons Tryz.func4 Ok.sidingslaw18_start ?_
 refine .cons Tryz.func5 Ok.sidingsref06_May ?_
 refine .cons Tryz.func6 Ok.sidingslaw18_live ?_
 refine .cons Tryz.func7 Ok.sidingslaw18_lay ?_
 refine .cons Tryz.func8 Ok.cells_Plain_Load ?_
 refine .cons Tryz.func9 Ok.plan_Slide ?_
 refine .cons Tryz.func10 Ok.compact_New ?_
 refine .cons Tryz.func11 Ok.sidingslaw18_run ?_
 refine .cons Tryz.func12 Ok.compact_Machine_Lowered ?_
 refine .cons Tryz.func13 Ok.sidingsref02_Pack ?_
 refine .cons Tryz.func14 Ok.cells_Plain_Byte ?_
 refine .cons Tryz.func15 Ok.cells_New ?_
 refine .cons Tryz.func16 Ok.sidingsref06_Words ?_
 refine .cons Tryz.func17 Ok.layout_Start ?_
 refine .cons Tryz.func18 Ok.cells_Plain_Store ?_
 refine .cons Tryz.func19 Ok.cells_Plain_SetByte ?_
 refine .cons Tryz.func20 Ok.sidingsref03_Round ?_
 refine .cons Tryz.func21 Ok.cells_Plain_word ?_
 refine .cons Tryz.func22 Ok.plan_Check ?_
 refine .cons Tryz.func23 Ok.plan_Sort ?_
 refine .cons Tryz.func24 Ok.layout_Of ?_
 refine .cons Tryz.func25 Ok.compact_Machine_Step ?_
 refine .cons Tryz.func26 Ok.sidingsref02_May ?_
 refine .cons Tryz.func27 Ok.sidingsref02_bit ?_
 refine .cons Tryz.func28 Ok.cells_Plain_byte ?_
 refine .cons Tryz.func29 Ok.cells_may ?_
 refine .cons Tryz.func30 Ok.layout_Layout_Words ?_
 refine .cons Tryz.func31 Ok.layout_Layout_Link ?_
 refine .cons Tryz.func32 Ok.head_Pack ?_
 refine .cons Tryz.func33 Ok.layout_Layout_Stack ?_
 refine .cons Tryz.func34 Ok.plan_Check_1 ?_
 refine .cons Tryz.func35 Ok.slices_ContainsFunc_Lplan_Object ?_
 refine .cons Tryz.func36 Ok.plan_Apart ?_
 refine .cons Tryz.func37 Ok.slices_Clone_Lplan_Object ?_
 refine .cons Tryz.func38 Ok.slices_SortStableFunc_Lplan_Object ?_
 refine .cons Tryz.func39 Ok.plan_byPlace ?_
 refine .cons Tryz.func40 Ok.layout_in ?_
 refine .cons Tryz.func41 Ok.layout_Layout_Frontier ?_
 refine .cons Tryz.func42 Ok.compact_Machine_on ?_
 refine .cons Tryz.func43 Ok.layout_Layout_Pending ?_
 refine .cons Tryz.func44 Ok.compact_Machine_end ?_
 refine .cons Tryz.func45 Ok.compact_Machine_scan ?_
 refine .cons Tryz.func46 Ok.compact_Machine_measure ?_
 refine .cons Tryz.func47 Ok.compact_Machine_look ?_
 refine .cons Tryz.func48 Ok.compact_Machine_lock ?_
 refine .cons Tryz.func49 Ok.compact_Machine_object ?_
 refine .cons Tryz.func50 Ok.compact_Machine_lay ?_
 refine .cons Tryz.func51 Ok.compact_Machine_store ?_
 refine .cons Tryz.func52 Ok.compact_Machine_turn ?_
 refine .cons Tryz.func53 Ok.layout_Layout_of ?_
 refine .cons Tryz.func54 Ok.head_may ?_
 refine .cons Tryz.func55 Ok.head_of ?_
 refine .cons Tryz.func56 Ok.head_front_word ?_
 refine .cons Tryz.func57 Ok.layout_Layout_once ?_
 refine .cons Tryz.func58 Ok.slices_IndexFunc_Lplan_Object ?_
 refine .cons Tryz.func59 Ok.slices_DeleteFunc_Lplan_Object ?_
 refine .cons Tryz.func60 Ok.plan_Apart_1 ?_
 refine .cons Tryz.func61 Ok.plan_Apart_2 ?_
 refine .cons Tryz.func62 Ok.plan_begins ?_
 refine .cons Tryz.func63 Ok.slices_stableCmpFunc_plan_Object ?_
 refine .cons Tryz.func64 Ok.cmp_Or_int ?_
 refine .cons Tryz.func65 Ok.cmp_Compare_int ?_
 refine .cons Tryz.func66 Ok.plan_bit ?_
 refine .cons Tryz.func67 Ok.entry_Unpack ?_
 refine .cons Tryz.func68 Ok.layout_Layout_Entry ?_
 refine .cons Tryz.func69 Ok.compact_Machine_scanned ?_
 refine .cons Tryz.func70 Ok.handle_Round ?_
 refine .cons Tryz.func71 Ok.layout_Layout_Size ?_
 refine .cons Tryz.func72 Ok.compact_Machine_passed ?_
 refine .cons Tryz.func73 Ok.entry_Lock ?_
 refine .cons Tryz.func74 Ok.entry_Move ?_
 refine .cons Tryz.func75 Ok.epoch_Turn_Step ?_
 refine .cons Tryz.func76 Ok.field_Put ?_
 refine .cons Tryz.func77 Ok.head_topField ?_
 refine .cons Tryz.func78 Ok.head_front_top ?_
 refine .cons Tryz.func79 Ok.head_tagField ?_
 refine .cons Tryz.func80 Ok.head_front_tag ?_
 refine .cons Tryz.func81 Ok.slices_insertionSortCmpFunc_plan_Object ?_
 refine .cons Tryz.func82 Ok.slices_symMergeCmpFunc_plan_Object ?_
 refine .cons Tryz.func83 Ok.cmp_isNaN_int ?_
 refine .cons Tryz.func84 Ok.entry_fields ?_
 refine .cons Tryz.func85 Ok.field_Get ?_
 refine .cons Tryz.func86 Ok.entry_Entry_may ?_
 refine .cons Tryz.func87 Ok.compact_Machine_behind ?_
 refine .cons Tryz.func88 Ok.entry_changed ?_
 refine .cons Tryz.func89 Ok.entry_Lock_1 ?_
 refine .cons Tryz.func90 Ok.entry_Move_1 ?_
 refine .cons Tryz.func91 Ok.layout_Layout_Epoch ?_
 refine .cons Tryz.func92 Ok.head_Older ?_
 refine .cons Tryz.func93 Ok.layout_Layout_Note ?_
 refine .cons Tryz.func94 Ok.field_word ?_
 refine .cons Tryz.func95 Ok.field_Field_may ?_
 refine .cons Tryz.func96 Ok.field_Field_most ?_
 refine .cons Tryz.func97 Ok.field_Field_mask ?_
 refine .cons Tryz.func98 Ok.slices_rotateCmpFunc_plan_Object ?_
 refine .cons Tryz.func99 Ok.field_told ?_
 refine .cons Tryz.func100 Ok.entry_in ?_
 refine .cons Tryz.func101 Ok.epoch_NewTurn ?_
 refine .cons Tryz.func102 Ok.entry_Pack ?_
 refine .cons Tryz.func103 Ok.head_Inside ?_
 refine .cons Tryz.func104 Ok.slices_swapRangeCmpFunc_plan_Object ?_
 refine .cons Tryz.func105 Ok.entry_bit ?_
 refine .cons Tryz.func121 Ok.cells_Plain_Bytes ?_
 refine .cons Tryz.func122 Ok.cells_Plain_Cas ?_
 refine .cons Tryz.func123 Ok.cells_Plain_Words ?_
 exact .nil
end Go.Proofs.YtfpfknafcgkcjaaGreat

