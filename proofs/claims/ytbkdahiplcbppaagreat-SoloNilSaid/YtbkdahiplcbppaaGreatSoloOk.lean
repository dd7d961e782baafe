/- The texts of this seat are its functions' translations. -/
import Derived.Test.YtbkdahiplcbppaaGreatSoloIr
import Derived.Test.YtbkdahiplcbppaaGreatProg
import Derived.KernelRfl
namespace Go.Proofs.YtbkdahiplcbppaaGreat
open Go Go.Ir

theorem Ok.sidingslaw22_SoloNil : cFunc Tryz.prog Tryz.f3 ⟨[], false, []⟩ = some F.sidingslaw22_SoloNil := by kernel_rfl
theorem Ok.solo_Finish : cFunc Tryz.prog Tryz.f4 ⟨[], false, [[0, 4, 7]]⟩ = some F.solo_Finish := by kernel_rfl
theorem Ok.solo_Turns : cFunc Tryz.prog Tryz.f5 ⟨[], false, [[0, 1, 6, 23, 24], [0, 1, 6]]⟩ = some F.solo_Turns := by kernel_rfl
theorem Ok.solo_Left : cFunc Tryz.prog Tryz.f6 ⟨[3], false, []⟩ = some F.solo_Left := by kernel_rfl
theorem Ok.solo_Fits : cFunc Tryz.prog Tryz.f7 ⟨[5], false, []⟩ = some F.solo_Fits := by kernel_rfl
theorem Ok.sidingslaw22_live : cFunc Tryz.prog Tryz.f8 ⟨[1], false, []⟩ = some F.sidingslaw22_live := by kernel_rfl
theorem Ok.world_World_Quiet : cFunc Tryz.prog Tryz.f9 ⟨[], false, []⟩ = some F.world_World_Quiet := by kernel_rfl
theorem Ok.world_World_Counts : cFunc Tryz.prog Tryz.f10 ⟨[], false, []⟩ = some F.world_World_Counts := by kernel_rfl
theorem Ok.world_World_Pick : cFunc Tryz.prog Tryz.f11 ⟨[], false, []⟩ = some F.world_World_Pick := by kernel_rfl
theorem Ok.world_World_Config : cFunc Tryz.prog Tryz.f12 ⟨[2], false, []⟩ = some F.world_World_Config := by kernel_rfl
theorem Ok.world_World_Done : cFunc Tryz.prog Tryz.f13 ⟨[], false, []⟩ = some F.world_World_Done := by kernel_rfl
theorem Ok.layout_Of : cFunc Tryz.prog Tryz.f14 ⟨[1, 2], false, []⟩ = some F.layout_Of := by kernel_rfl
theorem Ok.world_World_Cells : cFunc Tryz.prog Tryz.f15 ⟨[], false, []⟩ = some F.world_World_Cells := by kernel_rfl
theorem Ok.cells_Plain_Load : cFunc Tryz.prog Tryz.f16 ⟨[], false, []⟩ = some F.cells_Plain_Load := by kernel_rfl
theorem Ok.layout_Layout_Frontier : cFunc Tryz.prog Tryz.f17 ⟨[1], false, []⟩ = some F.layout_Layout_Frontier := by kernel_rfl
theorem Ok.handle_Round : cFunc Tryz.prog Tryz.f18 ⟨[], false, [[0]]⟩ = some F.handle_Round := by kernel_rfl
theorem Ok.stack_Free : cFunc Tryz.prog Tryz.f19 ⟨[3], false, [[0, 3, 5, 6, 24, 25]]⟩ = some F.stack_Free := by kernel_rfl
theorem Ok.handle_Make : cFunc Tryz.prog Tryz.f20 ⟨[], false, []⟩ = some F.handle_Make := by kernel_rfl
theorem Ok.sidingslaw22_run : cFunc Tryz.prog Tryz.f21 ⟨[3], false, [[2, 7, 9]]⟩ = some F.sidingslaw22_run := by kernel_rfl
theorem Ok.audit_Objects : cFunc Tryz.prog Tryz.f22 ⟨[3, 10], false, [[7, 8, 17, 18, 19]]⟩ = some F.audit_Objects := by kernel_rfl
theorem Ok.solo_Bound : cFunc Tryz.prog Tryz.f23 ⟨[1, 3], false, []⟩ = some F.solo_Bound := by kernel_rfl
theorem Ok.slices_ContainsFunc_L_thread_Thread : cFunc Tryz.prog Tryz.f24 ⟨[], false, []⟩ = some F.slices_ContainsFunc_L_thread_Thread := by kernel_rfl
theorem Ok.thread_Thread_Busy : cFunc Tryz.prog Tryz.f25 ⟨[], false, []⟩ = some F.thread_Thread_Busy := by kernel_rfl
theorem Ok.world_World_step : cFunc Tryz.prog Tryz.f26 ⟨[2], false, []⟩ = some F.world_World_step := by kernel_rfl
theorem Ok.thread_Thread_Done : cFunc Tryz.prog Tryz.f27 ⟨[], false, []⟩ = some F.thread_Thread_Done := by kernel_rfl
theorem Ok.thread_Thread_Step : cFunc Tryz.prog Tryz.f28 ⟨[5], false, []⟩ = some F.thread_Thread_Step := by kernel_rfl
theorem Ok.world_World_Done_1 : cFunc Tryz.prog Tryz.f29 ⟨[], false, []⟩ = some F.world_World_Done_1 := by kernel_rfl
theorem Ok.layout_in : cFunc Tryz.prog Tryz.f30 ⟨[], false, []⟩ = some F.layout_in := by kernel_rfl
theorem Ok.cells_Plain_word : cFunc Tryz.prog Tryz.f31 ⟨[], false, []⟩ = some F.cells_Plain_word := by kernel_rfl
theorem Ok.layout_Layout_once : cFunc Tryz.prog Tryz.f32 ⟨[2], false, []⟩ = some F.layout_Layout_once := by kernel_rfl
theorem Ok.head_Unpack : cFunc Tryz.prog Tryz.f33 ⟨[], false, []⟩ = some F.head_Unpack := by kernel_rfl
theorem Ok.layout_Layout_Stack : cFunc Tryz.prog Tryz.f34 ⟨[1], false, []⟩ = some F.layout_Layout_Stack := by kernel_rfl
theorem Ok.layout_Layout_Words : cFunc Tryz.prog Tryz.f35 ⟨[1], false, []⟩ = some F.layout_Layout_Words := by kernel_rfl
theorem Ok.layout_Layout_Link : cFunc Tryz.prog Tryz.f36 ⟨[2], false, []⟩ = some F.layout_Layout_Link := by kernel_rfl
theorem Ok.layout_Layout_Entry : cFunc Tryz.prog Tryz.f37 ⟨[2], false, []⟩ = some F.layout_Layout_Entry := by kernel_rfl
theorem Ok.world_New : cFunc Tryz.prog Tryz.f38 ⟨[2, 6], false, [[1, 2, 8, 43, 44]]⟩ = some F.world_New := by kernel_rfl
theorem Ok.audit_all : cFunc Tryz.prog Tryz.f39 ⟨[3, 6, 10], false, [[0, 6, 8, 33, 34]]⟩ = some F.audit_all := by kernel_rfl
theorem Ok.slices_IndexFunc_L_thread_Thread : cFunc Tryz.prog Tryz.f40 ⟨[], false, [[0, 1, 7, 8]]⟩ = some F.slices_IndexFunc_L_thread_Thread := by kernel_rfl
theorem Ok.compact_Machine_Step : cFunc Tryz.prog Tryz.f41 ⟨[4], false, []⟩ = some F.compact_Machine_Step := by kernel_rfl
theorem Ok.compact_Machine_Lowered : cFunc Tryz.prog Tryz.f42 ⟨[], false, []⟩ = some F.compact_Machine_Lowered := by kernel_rfl
theorem Ok.compact_New : cFunc Tryz.prog Tryz.f43 ⟨[1, 3], false, []⟩ = some F.compact_New := by kernel_rfl
theorem Ok.epoch_NewEnter : cFunc Tryz.prog Tryz.f44 ⟨[2, 5], false, []⟩ = some F.epoch_NewEnter := by kernel_rfl
theorem Ok.epoch_Enter_Step : cFunc Tryz.prog Tryz.f45 ⟨[], false, []⟩ = some F.epoch_Enter_Step := by kernel_rfl
theorem Ok.thread_of : cFunc Tryz.prog Tryz.f46 ⟨[2, 3], false, []⟩ = some F.thread_of := by kernel_rfl
theorem Ok.epoch_Exit : cFunc Tryz.prog Tryz.f47 ⟨[4, 6], false, []⟩ = some F.epoch_Exit := by kernel_rfl
theorem Ok.head_read : cFunc Tryz.prog Tryz.f48 ⟨[], false, []⟩ = some F.head_read := by kernel_rfl
theorem Ok.head_front_top : cFunc Tryz.prog Tryz.f49 ⟨[], false, []⟩ = some F.head_front_top := by kernel_rfl
theorem Ok.head_front_tag : cFunc Tryz.prog Tryz.f50 ⟨[], false, []⟩ = some F.head_front_tag := by kernel_rfl
theorem Ok.layout_Layout_of : cFunc Tryz.prog Tryz.f51 ⟨[3], false, []⟩ = some F.layout_Layout_of := by kernel_rfl
theorem Ok.cells_New : cFunc Tryz.prog Tryz.f52 ⟨[], false, []⟩ = some F.cells_New := by kernel_rfl
theorem Ok.layout_Start : cFunc Tryz.prog Tryz.f53 ⟨[3, 5], false, [[0, 5, 38, 39], [0, 5, 8, 9]]⟩ = some F.layout_Start := by kernel_rfl
theorem Ok.thread_New : cFunc Tryz.prog Tryz.f54 ⟨[3, 8], false, []⟩ = some F.thread_New := by kernel_rfl
theorem Ok.entry_Unpack : cFunc Tryz.prog Tryz.f55 ⟨[2, 6, 7], false, [[0, 2, 4, 15, 16]]⟩ = some F.entry_Unpack := by kernel_rfl
theorem Ok.layout_Layout_Size : cFunc Tryz.prog Tryz.f56 ⟨[2], false, []⟩ = some F.layout_Layout_Size := by kernel_rfl
theorem Ok.compact_Machine_on : cFunc Tryz.prog Tryz.f57 ⟨[4], false, []⟩ = some F.compact_Machine_on := by kernel_rfl
theorem Ok.layout_Layout_Pending : cFunc Tryz.prog Tryz.f58 ⟨[1], false, []⟩ = some F.layout_Layout_Pending := by kernel_rfl
theorem Ok.compact_Machine_end : cFunc Tryz.prog Tryz.f59 ⟨[2], false, []⟩ = some F.compact_Machine_end := by kernel_rfl
theorem Ok.compact_Machine_scan : cFunc Tryz.prog Tryz.f60 ⟨[4, 6], false, []⟩ = some F.compact_Machine_scan := by kernel_rfl
theorem Ok.compact_Machine_measure : cFunc Tryz.prog Tryz.f61 ⟨[4], false, []⟩ = some F.compact_Machine_measure := by kernel_rfl
theorem Ok.compact_Machine_look : cFunc Tryz.prog Tryz.f62 ⟨[4, 6, 7], false, []⟩ = some F.compact_Machine_look := by kernel_rfl
theorem Ok.compact_Machine_lock : cFunc Tryz.prog Tryz.f63 ⟨[4], false, []⟩ = some F.compact_Machine_lock := by kernel_rfl
theorem Ok.compact_Machine_object : cFunc Tryz.prog Tryz.f64 ⟨[2], false, []⟩ = some F.compact_Machine_object := by kernel_rfl
theorem Ok.compact_Machine_lay : cFunc Tryz.prog Tryz.f65 ⟨[4], false, []⟩ = some F.compact_Machine_lay := by kernel_rfl
theorem Ok.compact_Machine_store : cFunc Tryz.prog Tryz.f66 ⟨[4], false, []⟩ = some F.compact_Machine_store := by kernel_rfl
theorem Ok.compact_Machine_turn : cFunc Tryz.prog Tryz.f67 ⟨[4], false, []⟩ = some F.compact_Machine_turn := by kernel_rfl
theorem Ok.layout_Layout_Note : cFunc Tryz.prog Tryz.f68 ⟨[2], false, []⟩ = some F.layout_Layout_Note := by kernel_rfl
theorem Ok.layout_Layout_Epoch : cFunc Tryz.prog Tryz.f69 ⟨[1], false, []⟩ = some F.layout_Layout_Epoch := by kernel_rfl
theorem Ok.alloc_New : cFunc Tryz.prog Tryz.f70 ⟨[2, 5], false, []⟩ = some F.alloc_New := by kernel_rfl
theorem Ok.free_New : cFunc Tryz.prog Tryz.f71 ⟨[2, 5], false, []⟩ = some F.free_New := by kernel_rfl
theorem Ok.read_New : cFunc Tryz.prog Tryz.f72 ⟨[3, 7], false, []⟩ = some F.read_New := by kernel_rfl
theorem Ok.write_New : cFunc Tryz.prog Tryz.f73 ⟨[4, 9], false, []⟩ = some F.write_New := by kernel_rfl
theorem Ok.pin_New : cFunc Tryz.prog Tryz.f74 ⟨[2], false, []⟩ = some F.pin_New := by kernel_rfl
theorem Ok.pin_NewUn : cFunc Tryz.prog Tryz.f75 ⟨[2], false, []⟩ = some F.pin_NewUn := by kernel_rfl
theorem Ok.head_of : cFunc Tryz.prog Tryz.f76 ⟨[], false, []⟩ = some F.head_of := by kernel_rfl
theorem Ok.field_Get : cFunc Tryz.prog Tryz.f77 ⟨[3], false, []⟩ = some F.field_Get := by kernel_rfl
theorem Ok.head_topField : cFunc Tryz.prog Tryz.f78 ⟨[0], false, []⟩ = some F.head_topField := by kernel_rfl
theorem Ok.head_tagField : cFunc Tryz.prog Tryz.f79 ⟨[0], false, []⟩ = some F.head_tagField := by kernel_rfl
theorem Ok.head_may : cFunc Tryz.prog Tryz.f80 ⟨[], false, []⟩ = some F.head_may := by kernel_rfl
theorem Ok.head_front_word : cFunc Tryz.prog Tryz.f81 ⟨[], false, []⟩ = some F.head_front_word := by kernel_rfl
theorem Ok.cells_may : cFunc Tryz.prog Tryz.f82 ⟨[], false, []⟩ = some F.cells_may := by kernel_rfl
theorem Ok.head_Pack : cFunc Tryz.prog Tryz.f83 ⟨[], false, []⟩ = some F.head_Pack := by kernel_rfl
theorem Ok.slices_Clone_Lapi_Op : cFunc Tryz.prog Tryz.f84 ⟨[], false, []⟩ = some F.slices_Clone_Lapi_Op := by kernel_rfl
theorem Ok.entry_fields : cFunc Tryz.prog Tryz.f85 ⟨[0], false, []⟩ = some F.entry_fields := by kernel_rfl
theorem Ok.entry_Entry_may : cFunc Tryz.prog Tryz.f86 ⟨[1], false, []⟩ = some F.entry_Entry_may := by kernel_rfl
theorem Ok.compact_Machine_scanned : cFunc Tryz.prog Tryz.f87 ⟨[2], false, []⟩ = some F.compact_Machine_scanned := by kernel_rfl
theorem Ok.compact_Machine_passed : cFunc Tryz.prog Tryz.f88 ⟨[2], false, []⟩ = some F.compact_Machine_passed := by kernel_rfl
theorem Ok.entry_Lock : cFunc Tryz.prog Tryz.f89 ⟨[], false, []⟩ = some F.entry_Lock := by kernel_rfl
theorem Ok.entry_Move : cFunc Tryz.prog Tryz.f90 ⟨[], false, []⟩ = some F.entry_Move := by kernel_rfl
theorem Ok.epoch_Turn_Step : cFunc Tryz.prog Tryz.f91 ⟨[], false, []⟩ = some F.epoch_Turn_Step := by kernel_rfl
theorem Ok.stack_NewPop : cFunc Tryz.prog Tryz.f92 ⟨[1], false, []⟩ = some F.stack_NewPop := by kernel_rfl
theorem Ok.handle_Of : cFunc Tryz.prog Tryz.f93 ⟨[], false, []⟩ = some F.handle_Of := by kernel_rfl
theorem Ok.pin_of : cFunc Tryz.prog Tryz.f94 ⟨[4, 9], false, []⟩ = some F.pin_of := by kernel_rfl
theorem Ok.entry_Pin : cFunc Tryz.prog Tryz.f95 ⟨[], false, []⟩ = some F.entry_Pin := by kernel_rfl
theorem Ok.entry_Unpin : cFunc Tryz.prog Tryz.f96 ⟨[], false, []⟩ = some F.entry_Unpin := by kernel_rfl
theorem Ok.field_word : cFunc Tryz.prog Tryz.f97 ⟨[], false, []⟩ = some F.field_word := by kernel_rfl
theorem Ok.field_told : cFunc Tryz.prog Tryz.f98 ⟨[3], false, []⟩ = some F.field_told := by kernel_rfl
theorem Ok.field_Field_mask : cFunc Tryz.prog Tryz.f99 ⟨[1], false, []⟩ = some F.field_Field_mask := by kernel_rfl
theorem Ok.field_Put : cFunc Tryz.prog Tryz.f100 ⟨[4], false, []⟩ = some F.field_Put := by kernel_rfl
theorem Ok.entry_in : cFunc Tryz.prog Tryz.f101 ⟨[], false, []⟩ = some F.entry_in := by kernel_rfl
theorem Ok.plan_Sort : cFunc Tryz.prog Tryz.f102 ⟨[], false, []⟩ = some F.plan_Sort := by kernel_rfl
theorem Ok.compact_Machine_behind : cFunc Tryz.prog Tryz.f103 ⟨[2], false, []⟩ = some F.compact_Machine_behind := by kernel_rfl
theorem Ok.entry_changed : cFunc Tryz.prog Tryz.f104 ⟨[], false, []⟩ = some F.entry_changed := by kernel_rfl
theorem Ok.entry_Lock_1 : cFunc Tryz.prog Tryz.f105 ⟨[], false, []⟩ = some F.entry_Lock_1 := by kernel_rfl
theorem Ok.entry_Move_1 : cFunc Tryz.prog Tryz.f106 ⟨[], false, []⟩ = some F.entry_Move_1 := by kernel_rfl
theorem Ok.head_Older : cFunc Tryz.prog Tryz.f107 ⟨[], false, []⟩ = some F.head_Older := by kernel_rfl
theorem Ok.handle_Split : cFunc Tryz.prog Tryz.f108 ⟨[], false, []⟩ = some F.handle_Split := by kernel_rfl
theorem Ok.entry_Pin_1 : cFunc Tryz.prog Tryz.f109 ⟨[], false, []⟩ = some F.entry_Pin_1 := by kernel_rfl
theorem Ok.entry_Unpin_1 : cFunc Tryz.prog Tryz.f110 ⟨[], false, []⟩ = some F.entry_Unpin_1 := by kernel_rfl
theorem Ok.field_Field_may : cFunc Tryz.prog Tryz.f111 ⟨[1], false, []⟩ = some F.field_Field_may := by kernel_rfl
theorem Ok.field_Field_most : cFunc Tryz.prog Tryz.f112 ⟨[1], false, []⟩ = some F.field_Field_most := by kernel_rfl
theorem Ok.slices_Clone_Lplan_Object : cFunc Tryz.prog Tryz.f113 ⟨[], false, []⟩ = some F.slices_Clone_Lplan_Object := by kernel_rfl
theorem Ok.slices_SortStableFunc_Lplan_Object : cFunc Tryz.prog Tryz.f114 ⟨[], false, []⟩ = some F.slices_SortStableFunc_Lplan_Object := by kernel_rfl
theorem Ok.plan_byPlace : cFunc Tryz.prog Tryz.f115 ⟨[2, 3], false, []⟩ = some F.plan_byPlace := by kernel_rfl
theorem Ok.epoch_NewTurn : cFunc Tryz.prog Tryz.f116 ⟨[1, 3], false, []⟩ = some F.epoch_NewTurn := by kernel_rfl
theorem Ok.entry_Pack : cFunc Tryz.prog Tryz.f117 ⟨[1], false, [[4, 24, 25]]⟩ = some F.entry_Pack := by kernel_rfl
theorem Ok.head_Inside : cFunc Tryz.prog Tryz.f118 ⟨[], false, []⟩ = some F.head_Inside := by kernel_rfl
theorem Ok.slices_stableCmpFunc_plan_Object : cFunc Tryz.prog Tryz.f119 ⟨[], false, [[0, 1, 2, 6, 7, 8], [0, 1, 2, 6], [0, 1, 2, 6, 7, 8]]⟩ = some F.slices_stableCmpFunc_plan_Object := by kernel_rfl
theorem Ok.cmp_Or_int : cFunc Tryz.prog Tryz.f120 ⟨[], false, [[3, 6, 7, 8]]⟩ = some F.cmp_Or_int := by kernel_rfl
theorem Ok.cmp_Compare_int : cFunc Tryz.prog Tryz.f121 ⟨[], false, []⟩ = some F.cmp_Compare_int := by kernel_rfl
theorem Ok.plan_bit : cFunc Tryz.prog Tryz.f122 ⟨[], false, []⟩ = some F.plan_bit := by kernel_rfl
theorem Ok.entry_bit : cFunc Tryz.prog Tryz.f123 ⟨[], false, []⟩ = some F.entry_bit := by kernel_rfl
theorem Ok.slices_insertionSortCmpFunc_plan_Object : cFunc Tryz.prog Tryz.f124 ⟨[], false, [[0, 1, 2, 3, 8], [0, 1, 2, 3, 8, 9]]⟩ = some F.slices_insertionSortCmpFunc_plan_Object := by kernel_rfl
theorem Ok.slices_symMergeCmpFunc_plan_Object : cFunc Tryz.prog Tryz.f125 ⟨[], false, [[0, 1, 4, 10, 11], [0, 10, 13], [0, 2, 4, 14, 15], [0, 14, 17], [0, 1, 2, 3, 4, 18, 19, 20, 21, 22]]⟩ = some F.slices_symMergeCmpFunc_plan_Object := by kernel_rfl
theorem Ok.cmp_isNaN_int : cFunc Tryz.prog Tryz.f126 ⟨[], false, []⟩ = some F.cmp_isNaN_int := by kernel_rfl
theorem Ok.slices_rotateCmpFunc_plan_Object : cFunc Tryz.prog Tryz.f127 ⟨[], false, [[0, 2, 4, 10, 11]]⟩ = some F.slices_rotateCmpFunc_plan_Object := by kernel_rfl
theorem Ok.slices_swapRangeCmpFunc_plan_Object : cFunc Tryz.prog Tryz.f128 ⟨[], false, [[0, 1, 2, 3, 10]]⟩ = some F.slices_swapRangeCmpFunc_plan_Object := by kernel_rfl
theorem Ok.cells_Plain_Byte : cFunc Tryz.prog Tryz.f144 ⟨[], false, []⟩ = some F.cells_Plain_Byte := by kernel_rfl
theorem Ok.cells_Plain_Bytes : cFunc Tryz.prog Tryz.f145 ⟨[], false, []⟩ = some F.cells_Plain_Bytes := by kernel_rfl
theorem Ok.cells_Plain_Cas : cFunc Tryz.prog Tryz.f146 ⟨[], false, []⟩ = some F.cells_Plain_Cas := by kernel_rfl
theorem Ok.cells_Plain_SetByte : cFunc Tryz.prog Tryz.f147 ⟨[], false, []⟩ = some F.cells_Plain_SetByte := by kernel_rfl
theorem Ok.cells_Plain_Store : cFunc Tryz.prog Tryz.f148 ⟨[], false, []⟩ = some F.cells_Plain_Store := by kernel_rfl
theorem Ok.cells_Plain_Words : cFunc Tryz.prog Tryz.f149 ⟨[], false, []⟩ = some F.cells_Plain_Words := by kernel_rfl
theorem Ok.cells_Plain_byte : cFunc Tryz.prog Tryz.f150 ⟨[], false, []⟩ = some F.cells_Plain_byte := by kernel_rfl
theorem Ok.alloc_Machine_Step : cFunc Tryz.prog Tryz.f152 ⟨[4], false, []⟩ = some F.alloc_Machine_Step := by kernel_rfl
theorem Ok.alloc_Machine_pending : cFunc Tryz.prog Tryz.f153 ⟨[], false, []⟩ = some F.alloc_Machine_pending := by kernel_rfl
theorem Ok.alloc_Machine_take : cFunc Tryz.prog Tryz.f154 ⟨[], false, []⟩ = some F.alloc_Machine_take := by kernel_rfl
theorem Ok.alloc_Machine_front : cFunc Tryz.prog Tryz.f155 ⟨[], false, []⟩ = some F.alloc_Machine_front := by kernel_rfl
theorem Ok.stack_Push_Step : cFunc Tryz.prog Tryz.f156 ⟨[], false, []⟩ = some F.stack_Push_Step := by kernel_rfl
theorem Ok.alloc_Machine_clear : cFunc Tryz.prog Tryz.f157 ⟨[], false, []⟩ = some F.alloc_Machine_clear := by kernel_rfl
theorem Ok.alloc_Machine_look : cFunc Tryz.prog Tryz.f158 ⟨[4], false, []⟩ = some F.alloc_Machine_look := by kernel_rfl
theorem Ok.alloc_Machine_publish : cFunc Tryz.prog Tryz.f159 ⟨[], false, []⟩ = some F.alloc_Machine_publish := by kernel_rfl
theorem Ok.alloc_Machine_result : cFunc Tryz.prog Tryz.f160 ⟨[2], false, []⟩ = some F.alloc_Machine_result := by kernel_rfl
theorem Ok.stack_Pop_Step : cFunc Tryz.prog Tryz.f161 ⟨[], false, []⟩ = some F.stack_Pop_Step := by kernel_rfl
theorem Ok.alloc_Machine_fail : cFunc Tryz.prog Tryz.f162 ⟨[], false, []⟩ = some F.alloc_Machine_fail := by kernel_rfl
theorem Ok.stack_NewPush : cFunc Tryz.prog Tryz.f163 ⟨[2], false, []⟩ = some F.stack_NewPush := by kernel_rfl
theorem Ok.stack_machine_look : cFunc Tryz.prog Tryz.f164 ⟨[], false, []⟩ = some F.stack_machine_look := by kernel_rfl
theorem Ok.head_Push : cFunc Tryz.prog Tryz.f165 ⟨[], false, []⟩ = some F.head_Push := by kernel_rfl
theorem Ok.stack_machine_swap : cFunc Tryz.prog Tryz.f166 ⟨[], false, []⟩ = some F.stack_machine_swap := by kernel_rfl
theorem Ok.stack_machine_end : cFunc Tryz.prog Tryz.f167 ⟨[], false, []⟩ = some F.stack_machine_end := by kernel_rfl
theorem Ok.head_Pop : cFunc Tryz.prog Tryz.f168 ⟨[], false, []⟩ = some F.head_Pop := by kernel_rfl
theorem Ok.head_front_behind : cFunc Tryz.prog Tryz.f169 ⟨[], false, []⟩ = some F.head_front_behind := by kernel_rfl
theorem Ok.free_Machine_Step : cFunc Tryz.prog Tryz.f171 ⟨[4], false, []⟩ = some F.free_Machine_Step := by kernel_rfl
theorem Ok.free_Machine_look : cFunc Tryz.prog Tryz.f172 ⟨[4, 6], false, []⟩ = some F.free_Machine_look := by kernel_rfl
theorem Ok.free_Machine_swap : cFunc Tryz.prog Tryz.f173 ⟨[4], false, []⟩ = some F.free_Machine_swap := by kernel_rfl
theorem Ok.free_Machine_end : cFunc Tryz.prog Tryz.f174 ⟨[4], false, []⟩ = some F.free_Machine_end := by kernel_rfl
theorem Ok.entry_Next : cFunc Tryz.prog Tryz.f175 ⟨[], false, []⟩ = some F.entry_Next := by kernel_rfl
theorem Ok.entry_Next_1 : cFunc Tryz.prog Tryz.f176 ⟨[], false, []⟩ = some F.entry_Next_1 := by kernel_rfl
theorem Ok.read_Machine_Step : cFunc Tryz.prog Tryz.f177 ⟨[4, 6, 9], false, []⟩ = some F.read_Machine_Step := by kernel_rfl
theorem Ok.read_Machine_end : cFunc Tryz.prog Tryz.f178 ⟨[3, 4], false, []⟩ = some F.read_Machine_end := by kernel_rfl
theorem Ok.read_Machine_load : cFunc Tryz.prog Tryz.f179 ⟨[4, 6], false, []⟩ = some F.read_Machine_load := by kernel_rfl
theorem Ok.write_Machine_Step : cFunc Tryz.prog Tryz.f181 ⟨[4], false, []⟩ = some F.write_Machine_Step := by kernel_rfl
theorem Ok.write_Machine_look : cFunc Tryz.prog Tryz.f182 ⟨[5], false, []⟩ = some F.write_Machine_look := by kernel_rfl
theorem Ok.write_Machine_end : cFunc Tryz.prog Tryz.f183 ⟨[4], false, []⟩ = some F.write_Machine_end := by kernel_rfl
theorem Ok.write_Machine_guard : cFunc Tryz.prog Tryz.f184 ⟨[], false, []⟩ = some F.write_Machine_guard := by kernel_rfl
theorem Ok.write_Machine_load : cFunc Tryz.prog Tryz.f185 ⟨[], false, []⟩ = some F.write_Machine_load := by kernel_rfl
theorem Ok.write_Machine_leave : cFunc Tryz.prog Tryz.f186 ⟨[], false, []⟩ = some F.write_Machine_leave := by kernel_rfl
theorem Ok.entry_Guard : cFunc Tryz.prog Tryz.f187 ⟨[], false, []⟩ = some F.entry_Guard := by kernel_rfl
theorem Ok.write_Machine_swap : cFunc Tryz.prog Tryz.f188 ⟨[], false, []⟩ = some F.write_Machine_swap := by kernel_rfl
theorem Ok.entry_Guard_1 : cFunc Tryz.prog Tryz.f189 ⟨[], false, []⟩ = some F.entry_Guard_1 := by kernel_rfl
theorem Ok.pin_Machine_Step : cFunc Tryz.prog Tryz.f190 ⟨[4], false, []⟩ = some F.pin_Machine_Step := by kernel_rfl
theorem Ok.pin_Machine_look : cFunc Tryz.prog Tryz.f191 ⟨[4, 6], false, []⟩ = some F.pin_Machine_look := by kernel_rfl
theorem Ok.pin_Machine_end : cFunc Tryz.prog Tryz.f192 ⟨[4], false, []⟩ = some F.pin_Machine_end := by kernel_rfl
theorem Ok.thread_nothing_Step : cFunc Tryz.prog Tryz.f193 ⟨[2, 4], false, []⟩ = some F.thread_nothing_Step := by kernel_rfl

theorem tbl_ok : TblOk Tryz.prog tbl := by
  unfold tbl
  refine .cons Tryz.func3 Ok.sidingslaw22_SoloNil ?_
  refine .cons Tryz.func4 Ok.solo_Finish ?_
  refine .cons Tryz.func5 Ok.solo_Turns ?_
  refine .cons Tryz.func6 Ok.solo_Left ?_
  refine .cons Tryz.func7 Ok.solo_Fits ?_
  refine .cons Tryz.func8 Ok.sidingslaw22_live ?_
  refine .cons Tryz.func9 Ok.world_World_Quiet ?_
  refine .cons Tryz.func10 Ok.world_World_Counts ?_
  refine .cons Tryz.func11 Ok.world_World_Pick ?_
  refine .cons Tryz.func12 Ok.world_World_Config ?_
  refine .cons Tryz.func13 Ok.world_World_Done ?_
  refine .cons Tryz.func14 Ok.layout_Of ?_
  refine .cons Tryz.func15 Ok.world_World_Cells ?_
  refine .cons Tryz.func16 Ok.cells_Plain_Load ?_
  refine .cons Tryz.func17 Ok.layout_Layout_Frontier ?_
  refine .cons Tryz.func18 Ok.handle_Round ?_
  refine .cons Tryz.func19 Ok.stack_Free ?_
  refine .cons Tryz.func20 Ok.handle_Make ?_
  refine .cons Tryz.func21 Ok.sidingslaw22_run ?_
  refine .cons Tryz.func22 Ok.audit_Objects ?_
  refine .cons Tryz.func23 Ok.solo_Bound ?_
  refine .cons Tryz.func24 Ok.slices_ContainsFunc_L_thread_Thread ?_
  refine .cons Tryz.func25 Ok.thread_Thread_Busy ?_
  refine .cons Tryz.func26 Ok.world_World_step ?_
  refine .cons Tryz.func27 Ok.thread_Thread_Done ?_
  refine .cons Tryz.func28 Ok.thread_Thread_Step ?_
  refine .cons Tryz.func29 Ok.world_World_Done_1 ?_
  refine .cons Tryz.func30 Ok.layout_in ?_
  refine .cons Tryz.func31 Ok.cells_Plain_word ?_
  refine .cons Tryz.func32 Ok.layout_Layout_once ?_
  refine .cons Tryz.func33 Ok.head_Unpack ?_
  refine .cons Tryz.func34 Ok.layout_Layout_Stack ?_
  refine .cons Tryz.func35 Ok.layout_Layout_Words ?_
  refine .cons Tryz.func36 Ok.layout_Layout_Link ?_
  refine .cons Tryz.func37 Ok.layout_Layout_Entry ?_
  refine .cons Tryz.func38 Ok.world_New ?_
  refine .cons Tryz.func39 Ok.audit_all ?_
  refine .cons Tryz.func40 Ok.slices_IndexFunc_L_thread_Thread ?_
  refine .cons Tryz.func41 Ok.compact_Machine_Step ?_
  refine .cons Tryz.func42 Ok.compact_Machine_Lowered ?_
  refine .cons Tryz.func43 Ok.compact_New ?_
  refine .cons Tryz.func44 Ok.epoch_NewEnter ?_
  refine .cons Tryz.func45 Ok.epoch_Enter_Step ?_
  refine .cons Tryz.func46 Ok.thread_of ?_
  refine .cons Tryz.func47 Ok.epoch_Exit ?_
  refine .cons Tryz.func48 Ok.head_read ?_
  refine .cons Tryz.func49 Ok.head_front_top ?_
  refine .cons Tryz.func50 Ok.head_front_tag ?_
  refine .cons Tryz.func51 Ok.layout_Layout_of ?_
  refine .cons Tryz.func52 Ok.cells_New ?_
  refine .cons Tryz.func53 Ok.layout_Start ?_
  refine .cons Tryz.func54 Ok.thread_New ?_
  refine .cons Tryz.func55 Ok.entry_Unpack ?_
  refine .cons Tryz.func56 Ok.layout_Layout_Size ?_
  refine .cons Tryz.func57 Ok.compact_Machine_on ?_
  refine .cons Tryz.func58 Ok.layout_Layout_Pending ?_
  refine .cons Tryz.func59 Ok.compact_Machine_end ?_
  refine .cons Tryz.func60 Ok.compact_Machine_scan ?_
  refine .cons Tryz.func61 Ok.compact_Machine_measure ?_
  refine .cons Tryz.func62 Ok.compact_Machine_look ?_
  refine .cons Tryz.func63 Ok.compact_Machine_lock ?_
  refine .cons Tryz.func64 Ok.compact_Machine_object ?_
  refine .cons Tryz.func65 Ok.compact_Machine_lay ?_
  refine .cons Tryz.func66 Ok.compact_Machine_store ?_
  refine .cons Tryz.func67 Ok.compact_Machine_turn ?_
  refine .cons Tryz.func68 Ok.layout_Layout_Note ?_
  refine .cons Tryz.func69 Ok.layout_Layout_Epoch ?_
  refine .cons Tryz.func70 Ok.alloc_New ?_
  refine .cons Tryz.func71 Ok.free_New ?_
  refine .cons Tryz.func72 Ok.read_New ?_
  refine .cons Tryz.func73 Ok.write_New ?_
  refine .cons Tryz.func74 Ok.pin_New ?_
  refine .cons Tryz.func75 Ok.pin_NewUn ?_
  refine .cons Tryz.func76 Ok.head_of ?_
  refine .cons Tryz.func77 Ok.field_Get ?_
  refine .cons Tryz.func78 Ok.head_topField ?_
  refine .cons Tryz.func79 Ok.head_tagField ?_
  refine .cons Tryz.func80 Ok.head_may ?_
  refine .cons Tryz.func81 Ok.head_front_word ?_
  refine .cons Tryz.func82 Ok.cells_may ?_
  refine .cons Tryz.func83 Ok.head_Pack ?_
  refine .cons Tryz.func84 Ok.slices_Clone_Lapi_Op ?_
  refine .cons Tryz.func85 Ok.entry_fields ?_
  refine .cons Tryz.func86 Ok.entry_Entry_may ?_
  refine .cons Tryz.func87 Ok.compact_Machine_scanned ?_
  refine .cons Tryz.func88 Ok.compact_Machine_passed ?_
  refine .cons Tryz.func89 Ok.entry_Lock ?_
  refine .cons Tryz.func90 Ok.entry_Move ?_
  refine .cons Tryz.func91 Ok.epoch_Turn_Step ?_
  refine .cons Tryz.func92 Ok.stack_NewPop ?_
  refine .cons Tryz.func93 Ok.handle_Of ?_
  refine .cons Tryz.func94 Ok.pin_of ?_
  refine .cons Tryz.func95 Ok.entry_Pin ?_
  refine .cons Tryz.func96 Ok.entry_Unpin ?_
  refine .cons Tryz.func97 Ok.field_word ?_
  refine .cons Tryz.func98 Ok.field_told ?_
  refine .cons Tryz.func99 Ok.field_Field_mask ?_
  refine .cons Tryz.func100 Ok.field_Put ?_
  refine .cons Tryz.func101 Ok.entry_in ?_
  refine .cons Tryz.func102 Ok.plan_Sort ?_
  refine .cons Tryz.func103 Ok.compact_Machine_behind ?_
  refine .cons Tryz.func104 Ok.entry_changed ?_
  refine .cons Tryz.func105 Ok.entry_Lock_1 ?_
  refine .cons Tryz.func106 Ok.entry_Move_1 ?_
  refine .cons Tryz.func107 Ok.head_Older ?_
  refine .cons Tryz.func108 Ok.handle_Split ?_
  refine .cons Tryz.func109 Ok.entry_Pin_1 ?_
  refine .cons Tryz.func110 Ok.entry_Unpin_1 ?_
  refine .cons Tryz.func111 Ok.field_Field_may ?_
  refine .cons Tryz.func112 Ok.field_Field_most ?_
  refine .cons Tryz.func113 Ok.slices_Clone_Lplan_Object ?_
  refine .cons Tryz.func114 Ok.slices_SortStableFunc_Lplan_Object ?_
  refine .cons Tryz.func115 Ok.plan_byPlace ?_
  refine .cons Tryz.func116 Ok.epoch_NewTurn ?_
  refine .cons Tryz.func117 Ok.entry_Pack ?_
  refine .cons Tryz.func118 Ok.head_Inside ?_
  refine .cons Tryz.func119 Ok.slices_stableCmpFunc_plan_Object ?_
  refine .cons Tryz.func120 Ok.cmp_Or_int ?_
  refine .cons Tryz.func121 Ok.cmp_Compare_int ?_
  refine .cons Tryz.func122 Ok.plan_bit ?_
  refine .cons Tryz.func123 Ok.entry_bit ?_
  refine .cons Tryz.func124 Ok.slices_insertionSortCmpFunc_plan_Object ?_
  refine .cons Tryz.func125 Ok.slices_symMergeCmpFunc_plan_Object ?_
  refine .cons Tryz.func126 Ok.cmp_isNaN_int ?_
  refine .cons Tryz.func127 Ok.slices_rotateCmpFunc_plan_Object ?_
  refine .cons Tryz.func128 Ok.slices_swapRangeCmpFunc_plan_Object ?_
  refine .cons Tryz.func144 Ok.cells_Plain_Byte ?_
  refine .cons Tryz.func145 Ok.cells_Plain_Bytes ?_
  refine .cons Tryz.func146 Ok.cells_Plain_Cas ?_
  refine .cons Tryz.func147 Ok.cells_Plain_SetByte ?_
  refine .cons Tryz.func148 Ok.cells_Plain_Store ?_
  refine .cons Tryz.func149 Ok.cells_Plain_Words ?_
  refine .cons Tryz.func150 Ok.cells_Plain_byte ?_
  refine .cons Tryz.func152 Ok.alloc_Machine_Step ?_
  refine .cons Tryz.func153 Ok.alloc_Machine_pending ?_
  refine .cons Tryz.func154 Ok.alloc_Machine_take ?_
  refine .cons Tryz.func155 Ok.alloc_Machine_front ?_
  refine .cons Tryz.func156 Ok.stack_Push_Step ?_
  refine .cons Tryz.func157 Ok.alloc_Machine_clear ?_
  refine .cons Tryz.func158 Ok.alloc_Machine_look ?_
  refine .cons Tryz.func159 Ok.alloc_Machine_publish ?_
  refine .cons Tryz.func160 Ok.alloc_Machine_result ?_
  refine .cons Tryz.func161 Ok.stack_Pop_Step ?_
  refine .cons Tryz.func162 Ok.alloc_Machine_fail ?_
  refine .cons Tryz.func163 Ok.stack_NewPush ?_
  refine .cons Tryz.func164 Ok.stack_machine_look ?_
  refine .cons Tryz.func165 Ok.head_Push ?_
  refine .cons Tryz.func166 Ok.stack_machine_swap ?_
  refine .cons Tryz.func167 Ok.stack_machine_end ?_
  refine .cons Tryz.func168 Ok.head_Pop ?_
  refine .cons Tryz.func169 Ok.head_front_behind ?_
  refine .cons Tryz.func171 Ok.free_Machine_Step ?_
  refine .cons Tryz.func172 Ok.free_Machine_look ?_
  refine .cons Tryz.func173 Ok.free_Machine_swap ?_
  refine .cons Tryz.func174 Ok.free_Machine_end ?_
  refine .cons Tryz.func175 Ok.entry_Next ?_
  refine .cons Tryz.func176 Ok.entry_Next_1 ?_
  refine .cons Tryz.func177 Ok.read_Machine_Step ?_
  refine .cons Tryz.func178 Ok.read_Machine_end ?_
  refine .cons Tryz.func179 Ok.read_Machine_load ?_
  refine .cons Tryz.func181 Ok.write_Machine_Step ?_
  refine .cons Tryz.func182 Ok.write_Machine_look ?_
  refine .cons Tryz.func183 Ok.write_Machine_end ?_
  refine .cons Tryz.func184 Ok.write_Machine_guard ?_
  refine .cons Tryz.func185 Ok.write_Machine_load ?_
  refine .cons Tryz.func186 Ok.write_Machine_leave ?_
  refine .cons Tryz.func187 Ok.entry_Guard ?_
  refine .cons Tryz.func188 Ok.write_Machine_swap ?_
  refine .cons Tryz.func189 Ok.entry_Guard_1 ?_
  refine .cons Tryz.func190 Ok.pin_Machine_Step ?_
  refine .cons Tryz.func191 Ok.pin_Machine_look ?_
  refine .cons Tryz.func192 Ok.pin_Machine_end ?_
  refine .cons Tryz.func193 Ok.thread_nothing_Step ?_
  exact .nil
end Go.Proofs.YtbkdahiplcbppaaGreat
