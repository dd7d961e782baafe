/- The texts of this seat are its functions' translations. -/
import Derived.Test.YtgnkcpkdlkabkaaGreatAuditIr
import Derived.Test.YtgnkcpkdlkabkaaGreatProg
import Derived.KernelRfl

namespace Go.Proofs.YtgnkcpkdlkabkaaGreat
open Go Go.Ir

theorem Ok.sidingslaw21_AuditTells : cFunc Tryz.prog Tryz.f3 ⟨[1, 11], false, [[1, 3, 4, 5], [1, 3, 4, 6]]⟩ = some F.sidingslaw21_AuditTells := by kernel_rfl
theorem Ok.sidingslaw21_AuditShort : cFunc Tryz.prog Tryz.f6 ⟨[2], false, []⟩ = some F.sidingslaw21_AuditShort := by kernel_rfl
theorem Ok.sidingslaw21_live : cFunc Tryz.prog Tryz.f9 ⟨[1], false, [[1, 2, 4]]⟩ = some F.sidingslaw21_live := by kernel_rfl
theorem Ok.sidingslaw21_start : cFunc Tryz.prog Tryz.f10 ⟨[1], false, []⟩ = some F.sidingslaw21_start := by kernel_rfl
theorem Ok.sidingsref06_May : cFunc Tryz.prog Tryz.f11 ⟨[1], true, []⟩ = some F.sidingsref06_May := by kernel_rfl
theorem Ok.sidingsref10_Start : cFunc Tryz.prog Tryz.f12 ⟨[1], false, []⟩ = some F.sidingsref10_Start := by kernel_rfl
theorem Ok.cells_Plain_Store : cFunc Tryz.prog Tryz.f13 ⟨[], false, []⟩ = some F.cells_Plain_Store := by kernel_rfl
theorem Ok.sidingsref05_Plain_Store : cFunc Tryz.prog Tryz.f14 ⟨[], false, []⟩ = some F.sidingsref05_Plain_Store := by kernel_rfl
theorem Ok.cells_Plain_SetByte : cFunc Tryz.prog Tryz.f15 ⟨[], false, []⟩ = some F.cells_Plain_SetByte := by kernel_rfl
theorem Ok.sidingsref05_Plain_SetByte : cFunc Tryz.prog Tryz.f16 ⟨[], false, []⟩ = some F.sidingsref05_Plain_SetByte := by kernel_rfl
theorem Ok.audit_Objects : cFunc Tryz.prog Tryz.f17 ⟨[3, 10], false, [[7, 8, 17, 18, 19]]⟩ = some F.audit_Objects := by kernel_rfl
theorem Ok.sidingsref21_Objects : cFunc Tryz.prog Tryz.f18 ⟨[3, 8], true, [[0, 3, 6, 7]]⟩ = some F.sidingsref21_Objects := by kernel_rfl
theorem Ok.sidingslaw21_own : cFunc Tryz.prog Tryz.f19 ⟨[], true, [[0, 3, 4]]⟩ = some F.sidingslaw21_own := by kernel_rfl
theorem Ok.sidingsref17_Same : cFunc Tryz.prog Tryz.f20 ⟨[], true, [[0, 1, 5]]⟩ = some F.sidingsref17_Same := by kernel_rfl
theorem Ok.sidingslaw21_told : cFunc Tryz.prog Tryz.f21 ⟨[], true, [[0, 3, 4]]⟩ = some F.sidingslaw21_told := by kernel_rfl
theorem Ok.audit_Check : cFunc Tryz.prog Tryz.f22 ⟨[1, 5, 11, 12], false, [[1, 3, 7, 8, 9, 38, 39, 40]]⟩ = some F.audit_Check := by kernel_rfl
theorem Ok.sidingsref21_Check : cFunc Tryz.prog Tryz.f23 ⟨[6, 8], true, []⟩ = some F.sidingsref21_Check := by kernel_rfl
theorem Ok.sidingsref01_Same : cFunc Tryz.prog Tryz.f24 ⟨[], true, [[0, 1, 5]]⟩ = some F.sidingsref01_Same := by kernel_rfl
theorem Ok.audit_Bytes : cFunc Tryz.prog Tryz.f25 ⟨[4, 9, 13], false, [[0, 2, 9, 11, 26, 27, 28], [0, 2, 9, 11, 13, 26, 27, 28, 44, 45]]⟩ = some F.audit_Bytes := by kernel_rfl
theorem Ok.sidingsref21_Bytes : cFunc Tryz.prog Tryz.f26 ⟨[4], false, [[0, 2, 4, 7, 8, 10], [0, 2, 4, 7, 8, 10, 11]]⟩ = some F.sidingsref21_Bytes := by kernel_rfl
theorem Ok.world_New : cFunc Tryz.prog Tryz.f28 ⟨[2, 6], false, [[1, 2, 8, 43, 44]]⟩ = some F.world_New := by kernel_rfl
theorem Ok.world_World_Pick : cFunc Tryz.prog Tryz.f29 ⟨[], false, []⟩ = some F.world_World_Pick := by kernel_rfl
theorem Ok.audit_World : cFunc Tryz.prog Tryz.f30 ⟨[3], false, []⟩ = some F.audit_World := by kernel_rfl
theorem Ok.world_World_Cells : cFunc Tryz.prog Tryz.f34 ⟨[], false, []⟩ = some F.world_World_Cells := by kernel_rfl
theorem Ok.cells_New : cFunc Tryz.prog Tryz.f36 ⟨[], false, []⟩ = some F.cells_New := by kernel_rfl
theorem Ok.sidingsref06_Words : cFunc Tryz.prog Tryz.f37 ⟨[1], true, []⟩ = some F.sidingsref06_Words := by kernel_rfl
theorem Ok.world_World_Holds : cFunc Tryz.prog Tryz.f39 ⟨[], false, [[3, 14, 15, 16]]⟩ = some F.world_World_Holds := by kernel_rfl
theorem Ok.cells_Plain_Load : cFunc Tryz.prog Tryz.f40 ⟨[], false, []⟩ = some F.cells_Plain_Load := by kernel_rfl
theorem Ok.cells_Plain_Copy : cFunc Tryz.prog Tryz.f41 ⟨[], false, []⟩ = some F.cells_Plain_Copy := by kernel_rfl
theorem Ok.layout_Start : cFunc Tryz.prog Tryz.f42 ⟨[3, 5], false, [[0, 5, 38, 39], [0, 5, 8, 9]]⟩ = some F.layout_Start := by kernel_rfl
theorem Ok.sidingsref05_New : cFunc Tryz.prog Tryz.f43 ⟨[], false, []⟩ = some F.sidingsref05_New := by kernel_rfl
theorem Ok.sidingsref06_Start : cFunc Tryz.prog Tryz.f44 ⟨[1], false, [[1, 3, 4]]⟩ = some F.sidingsref06_Start := by kernel_rfl
theorem Ok.cells_Plain_word : cFunc Tryz.prog Tryz.f45 ⟨[], false, []⟩ = some F.cells_Plain_word := by kernel_rfl
theorem Ok.cells_Plain_byte : cFunc Tryz.prog Tryz.f46 ⟨[], false, []⟩ = some F.cells_Plain_byte := by kernel_rfl
theorem Ok.audit_all : cFunc Tryz.prog Tryz.f47 ⟨[3, 6, 10], false, [[0, 6, 8, 33, 34]]⟩ = some F.audit_all := by kernel_rfl
theorem Ok.sidingsref02_Unpack : cFunc Tryz.prog Tryz.f48 ⟨[2, 4], true, []⟩ = some F.sidingsref02_Unpack := by kernel_rfl
theorem Ok.sidingsref06_At : cFunc Tryz.prog Tryz.f49 ⟨[3], true, []⟩ = some F.sidingsref06_At := by kernel_rfl
theorem Ok.sidingsref03_Round : cFunc Tryz.prog Tryz.f50 ⟨[], true, [[0]]⟩ = some F.sidingsref03_Round := by kernel_rfl
theorem Ok.layout_Of : cFunc Tryz.prog Tryz.f51 ⟨[1, 2], true, []⟩ = some F.layout_Of := by kernel_rfl
theorem Ok.layout_Layout_Frontier : cFunc Tryz.prog Tryz.f52 ⟨[1], true, []⟩ = some F.layout_Layout_Frontier := by kernel_rfl
theorem Ok.audit_State_stretched : cFunc Tryz.prog Tryz.f53 ⟨[2, 3, 4, 6, 7], true, []⟩ = some F.audit_State_stretched := by kernel_rfl
theorem Ok.plan_Check : cFunc Tryz.prog Tryz.f54 ⟨[], true, []⟩ = some F.plan_Check := by kernel_rfl
theorem Ok.audit_State_spare : cFunc Tryz.prog Tryz.f55 ⟨[2, 5, 9], false, [[2, 5, 7, 18, 19, 20], [7, 32, 33, 34]]⟩ = some F.audit_State_spare := by kernel_rfl
theorem Ok.sidingsref21_stretched : cFunc Tryz.prog Tryz.f56 ⟨[6, 8, 15], true, [[0, 2, 4, 6, 8, 12, 13, 14]]⟩ = some F.sidingsref21_stretched := by kernel_rfl
theorem Ok.sidingsref17_Check : cFunc Tryz.prog Tryz.f57 ⟨[], true, [[0, 1, 5]]⟩ = some F.sidingsref17_Check := by kernel_rfl
theorem Ok.sidingsref21_spare : cFunc Tryz.prog Tryz.f58 ⟨[4], true, [[2, 7, 8], [2, 7, 8, 9], [2, 7, 8, 10]]⟩ = some F.sidingsref21_spare := by kernel_rfl
theorem Ok.layout_Layout_Size : cFunc Tryz.prog Tryz.f59 ⟨[2], true, []⟩ = some F.layout_Layout_Size := by kernel_rfl
theorem Ok.sidingsref05_Plain_Byte : cFunc Tryz.prog Tryz.f60 ⟨[], false, []⟩ = some F.sidingsref05_Plain_Byte := by kernel_rfl
theorem Ok.layout_Layout_Words : cFunc Tryz.prog Tryz.f61 ⟨[1], true, []⟩ = some F.layout_Layout_Words := by kernel_rfl
theorem Ok.compact_New : cFunc Tryz.prog Tryz.f62 ⟨[1, 3], false, []⟩ = some F.compact_New := by kernel_rfl
theorem Ok.thread_New : cFunc Tryz.prog Tryz.f63 ⟨[3, 8], false, []⟩ = some F.thread_New := by kernel_rfl
theorem Ok.world_World_step : cFunc Tryz.prog Tryz.f64 ⟨[2], false, []⟩ = some F.world_World_step := by kernel_rfl
theorem Ok.thread_Thread_Done : cFunc Tryz.prog Tryz.f65 ⟨[], false, []⟩ = some F.thread_Thread_Done := by kernel_rfl
theorem Ok.thread_Thread_Step : cFunc Tryz.prog Tryz.f66 ⟨[5], false, []⟩ = some F.thread_Thread_Step := by kernel_rfl
theorem Ok.world_World_Config : cFunc Tryz.prog Tryz.f67 ⟨[2], false, []⟩ = some F.world_World_Config := by kernel_rfl
theorem Ok.world_World_Moving : cFunc Tryz.prog Tryz.f68 ⟨[2], false, []⟩ = some F.world_World_Moving := by kernel_rfl
theorem Ok.cells_may : cFunc Tryz.prog Tryz.f75 ⟨[], true, []⟩ = some F.cells_may := by kernel_rfl
theorem Ok.cells_Plain_Words : cFunc Tryz.prog Tryz.f76 ⟨[], false, []⟩ = some F.cells_Plain_Words := by kernel_rfl
theorem Ok.cells_Plain_Bytes : cFunc Tryz.prog Tryz.f77 ⟨[], false, []⟩ = some F.cells_Plain_Bytes := by kernel_rfl
theorem Ok.cells_Plain_Byte : cFunc Tryz.prog Tryz.f78 ⟨[], false, []⟩ = some F.cells_Plain_Byte := by kernel_rfl
theorem Ok.thread_Thread_Holds : cFunc Tryz.prog Tryz.f79 ⟨[], false, []⟩ = some F.thread_Thread_Holds := by kernel_rfl
theorem Ok.layout_Layout_Link : cFunc Tryz.prog Tryz.f80 ⟨[2], true, []⟩ = some F.layout_Layout_Link := by kernel_rfl
theorem Ok.head_Pack : cFunc Tryz.prog Tryz.f81 ⟨[], true, []⟩ = some F.head_Pack := by kernel_rfl
theorem Ok.layout_Layout_Stack : cFunc Tryz.prog Tryz.f82 ⟨[1], true, []⟩ = some F.layout_Layout_Stack := by kernel_rfl
theorem Ok.entry_Unpack : cFunc Tryz.prog Tryz.f83 ⟨[2, 6, 7], true, [[0, 2, 4, 15, 16]]⟩ = some F.entry_Unpack := by kernel_rfl
theorem Ok.layout_Layout_Entry : cFunc Tryz.prog Tryz.f84 ⟨[2], true, []⟩ = some F.layout_Layout_Entry := by kernel_rfl
theorem Ok.handle_Round : cFunc Tryz.prog Tryz.f85 ⟨[], true, [[0]]⟩ = some F.handle_Round := by kernel_rfl
theorem Ok.sidingsref02_May : cFunc Tryz.prog Tryz.f86 ⟨[1], true, []⟩ = some F.sidingsref02_May := by kernel_rfl
theorem Ok.layout_in : cFunc Tryz.prog Tryz.f87 ⟨[], true, []⟩ = some F.layout_in := by kernel_rfl
theorem Ok.layout_Layout_once : cFunc Tryz.prog Tryz.f88 ⟨[2], true, []⟩ = some F.layout_Layout_once := by kernel_rfl
theorem Ok.plan_Check_1 : cFunc Tryz.prog Tryz.f89 ⟨[2], true, []⟩ = some F.plan_Check_1 := by kernel_rfl
theorem Ok.slices_ContainsFunc_Lplan_Object : cFunc Tryz.prog Tryz.f90 ⟨[], true, []⟩ = some F.slices_ContainsFunc_Lplan_Object := by kernel_rfl
theorem Ok.plan_Apart : cFunc Tryz.prog Tryz.f91 ⟨[], true, [[3, 9, 10, 11]]⟩ = some F.plan_Apart := by kernel_rfl
theorem Ok.stack_Free : cFunc Tryz.prog Tryz.f92 ⟨[3], false, [[0, 3, 5, 6, 24, 25]]⟩ = some F.stack_Free := by kernel_rfl
theorem Ok.sidingsref21_locked : cFunc Tryz.prog Tryz.f93 ⟨[4, 7], true, []⟩ = some F.sidingsref21_locked := by kernel_rfl
theorem Ok.sidingsref17_Apart : cFunc Tryz.prog Tryz.f94 ⟨[], true, [[0, 3], [0, 3, 4]]⟩ = some F.sidingsref17_Apart := by kernel_rfl
theorem Ok.sidingsref10_Free : cFunc Tryz.prog Tryz.f95 ⟨[2], true, [[1, 2, 5, 6, 9]]⟩ = some F.sidingsref10_Free := by kernel_rfl
theorem Ok.layout_Layout_of : cFunc Tryz.prog Tryz.f96 ⟨[3], true, []⟩ = some F.layout_Layout_of := by kernel_rfl
theorem Ok.layout_Layout_Note : cFunc Tryz.prog Tryz.f97 ⟨[2], true, []⟩ = some F.layout_Layout_Note := by kernel_rfl
theorem Ok.slices_Clone_Lapi_Op : cFunc Tryz.prog Tryz.f98 ⟨[], false, []⟩ = some F.slices_Clone_Lapi_Op := by kernel_rfl
theorem Ok.compact_Machine_Step : cFunc Tryz.prog Tryz.f99 ⟨[4], false, []⟩ = some F.compact_Machine_Step := by kernel_rfl
theorem Ok.compact_Machine_Lowered : cFunc Tryz.prog Tryz.f100 ⟨[], false, []⟩ = some F.compact_Machine_Lowered := by kernel_rfl
theorem Ok.epoch_NewEnter : cFunc Tryz.prog Tryz.f101 ⟨[2, 5], false, []⟩ = some F.epoch_NewEnter := by kernel_rfl
theorem Ok.epoch_Enter_Step : cFunc Tryz.prog Tryz.f102 ⟨[], false, []⟩ = some F.epoch_Enter_Step := by kernel_rfl
theorem Ok.thread_of : cFunc Tryz.prog Tryz.f103 ⟨[2, 3], false, []⟩ = some F.thread_of := by kernel_rfl
theorem Ok.epoch_Exit : cFunc Tryz.prog Tryz.f104 ⟨[4, 6], false, []⟩ = some F.epoch_Exit := by kernel_rfl
theorem Ok.compact_Machine_Moving : cFunc Tryz.prog Tryz.f105 ⟨[2, 4], false, []⟩ = some F.compact_Machine_Moving := by kernel_rfl
theorem Ok.sidingsref05_Plain_Load : cFunc Tryz.prog Tryz.f106 ⟨[], false, []⟩ = some F.sidingsref05_Plain_Load := by kernel_rfl
theorem Ok.sidingsref05_Plain_Cas : cFunc Tryz.prog Tryz.f112 ⟨[], false, []⟩ = some F.sidingsref05_Plain_Cas := by kernel_rfl
theorem Ok.alloc_Machine_Holds : cFunc Tryz.prog Tryz.f120 ⟨[], false, []⟩ = some F.alloc_Machine_Holds := by kernel_rfl
theorem Ok.head_may : cFunc Tryz.prog Tryz.f121 ⟨[], true, []⟩ = some F.head_may := by kernel_rfl
theorem Ok.head_of : cFunc Tryz.prog Tryz.f122 ⟨[], true, []⟩ = some F.head_of := by kernel_rfl
theorem Ok.head_front_word : cFunc Tryz.prog Tryz.f123 ⟨[], true, []⟩ = some F.head_front_word := by kernel_rfl
theorem Ok.entry_fields : cFunc Tryz.prog Tryz.f124 ⟨[0], true, []⟩ = some F.entry_fields := by kernel_rfl
theorem Ok.field_Get : cFunc Tryz.prog Tryz.f125 ⟨[3], true, []⟩ = some F.field_Get := by kernel_rfl
theorem Ok.entry_Entry_may : cFunc Tryz.prog Tryz.f126 ⟨[1], true, []⟩ = some F.entry_Entry_may := by kernel_rfl
theorem Ok.slices_IndexFunc_Lplan_Object : cFunc Tryz.prog Tryz.f127 ⟨[], true, [[0, 1, 7, 8]]⟩ = some F.slices_IndexFunc_Lplan_Object := by kernel_rfl
theorem Ok.slices_DeleteFunc_Lplan_Object : cFunc Tryz.prog Tryz.f128 ⟨[7], false, [[0, 1, 5, 6]]⟩ = some F.slices_DeleteFunc_Lplan_Object := by kernel_rfl
theorem Ok.plan_Sort : cFunc Tryz.prog Tryz.f129 ⟨[], true, []⟩ = some F.plan_Sort := by kernel_rfl
theorem Ok.plan_Apart_1 : cFunc Tryz.prog Tryz.f130 ⟨[1], true, []⟩ = some F.plan_Apart_1 := by kernel_rfl
theorem Ok.plan_Apart_2 : cFunc Tryz.prog Tryz.f131 ⟨[2], true, []⟩ = some F.plan_Apart_2 := by kernel_rfl
theorem Ok.plan_begins : cFunc Tryz.prog Tryz.f132 ⟨[2, 3], true, []⟩ = some F.plan_begins := by kernel_rfl
theorem Ok.head_Unpack : cFunc Tryz.prog Tryz.f133 ⟨[], true, []⟩ = some F.head_Unpack := by kernel_rfl
theorem Ok.sidingsref17_share : cFunc Tryz.prog Tryz.f134 ⟨[2, 3], true, []⟩ = some F.sidingsref17_share := by kernel_rfl
theorem Ok.sidingsref04_Unpack : cFunc Tryz.prog Tryz.f135 ⟨[], true, []⟩ = some F.sidingsref04_Unpack := by kernel_rfl
theorem Ok.compact_Machine_on : cFunc Tryz.prog Tryz.f136 ⟨[4], false, []⟩ = some F.compact_Machine_on := by kernel_rfl
theorem Ok.layout_Layout_Pending : cFunc Tryz.prog Tryz.f137 ⟨[1], true, []⟩ = some F.layout_Layout_Pending := by kernel_rfl
theorem Ok.compact_Machine_end : cFunc Tryz.prog Tryz.f138 ⟨[2], false, []⟩ = some F.compact_Machine_end := by kernel_rfl
theorem Ok.compact_Machine_scan : cFunc Tryz.prog Tryz.f139 ⟨[4, 6], false, []⟩ = some F.compact_Machine_scan := by kernel_rfl
theorem Ok.compact_Machine_measure : cFunc Tryz.prog Tryz.f140 ⟨[4], false, []⟩ = some F.compact_Machine_measure := by kernel_rfl
theorem Ok.compact_Machine_look : cFunc Tryz.prog Tryz.f141 ⟨[4, 6, 7], false, []⟩ = some F.compact_Machine_look := by kernel_rfl
theorem Ok.compact_Machine_lock : cFunc Tryz.prog Tryz.f142 ⟨[4], false, []⟩ = some F.compact_Machine_lock := by kernel_rfl
theorem Ok.compact_Machine_object : cFunc Tryz.prog Tryz.f143 ⟨[2], false, []⟩ = some F.compact_Machine_object := by kernel_rfl
theorem Ok.compact_Machine_lay : cFunc Tryz.prog Tryz.f144 ⟨[4], false, []⟩ = some F.compact_Machine_lay := by kernel_rfl
theorem Ok.compact_Machine_store : cFunc Tryz.prog Tryz.f145 ⟨[4], false, []⟩ = some F.compact_Machine_store := by kernel_rfl
theorem Ok.compact_Machine_turn : cFunc Tryz.prog Tryz.f146 ⟨[4], false, []⟩ = some F.compact_Machine_turn := by kernel_rfl
theorem Ok.layout_Layout_Epoch : cFunc Tryz.prog Tryz.f147 ⟨[1], true, []⟩ = some F.layout_Layout_Epoch := by kernel_rfl
theorem Ok.alloc_New : cFunc Tryz.prog Tryz.f148 ⟨[2, 5], false, []⟩ = some F.alloc_New := by kernel_rfl
theorem Ok.free_New : cFunc Tryz.prog Tryz.f149 ⟨[2, 5], false, []⟩ = some F.free_New := by kernel_rfl
theorem Ok.read_New : cFunc Tryz.prog Tryz.f150 ⟨[3, 7], false, []⟩ = some F.read_New := by kernel_rfl
theorem Ok.write_New : cFunc Tryz.prog Tryz.f151 ⟨[4, 9], false, []⟩ = some F.write_New := by kernel_rfl
theorem Ok.pin_New : cFunc Tryz.prog Tryz.f152 ⟨[2], false, []⟩ = some F.pin_New := by kernel_rfl
theorem Ok.pin_NewUn : cFunc Tryz.prog Tryz.f153 ⟨[2], false, []⟩ = some F.pin_NewUn := by kernel_rfl
theorem Ok.field_Put : cFunc Tryz.prog Tryz.f172 ⟨[4], true, []⟩ = some F.field_Put := by kernel_rfl
theorem Ok.head_topField : cFunc Tryz.prog Tryz.f173 ⟨[0], true, []⟩ = some F.head_topField := by kernel_rfl
theorem Ok.head_front_top : cFunc Tryz.prog Tryz.f174 ⟨[], true, []⟩ = some F.head_front_top := by kernel_rfl
theorem Ok.head_tagField : cFunc Tryz.prog Tryz.f175 ⟨[0], true, []⟩ = some F.head_tagField := by kernel_rfl
theorem Ok.head_front_tag : cFunc Tryz.prog Tryz.f176 ⟨[], true, []⟩ = some F.head_front_tag := by kernel_rfl
theorem Ok.field_word : cFunc Tryz.prog Tryz.f177 ⟨[], true, []⟩ = some F.field_word := by kernel_rfl
theorem Ok.field_told : cFunc Tryz.prog Tryz.f178 ⟨[3], true, []⟩ = some F.field_told := by kernel_rfl
theorem Ok.field_Field_mask : cFunc Tryz.prog Tryz.f179 ⟨[1], true, []⟩ = some F.field_Field_mask := by kernel_rfl
theorem Ok.entry_in : cFunc Tryz.prog Tryz.f180 ⟨[], true, []⟩ = some F.entry_in := by kernel_rfl
theorem Ok.slices_Clone_Lplan_Object : cFunc Tryz.prog Tryz.f181 ⟨[], true, []⟩ = some F.slices_Clone_Lplan_Object := by kernel_rfl
theorem Ok.slices_SortStableFunc_Lplan_Object : cFunc Tryz.prog Tryz.f182 ⟨[], false, []⟩ = some F.slices_SortStableFunc_Lplan_Object := by kernel_rfl
theorem Ok.plan_byPlace : cFunc Tryz.prog Tryz.f183 ⟨[2, 3], true, []⟩ = some F.plan_byPlace := by kernel_rfl
theorem Ok.head_read : cFunc Tryz.prog Tryz.f184 ⟨[], true, []⟩ = some F.head_read := by kernel_rfl
theorem Ok.sidingsref17_has : cFunc Tryz.prog Tryz.f185 ⟨[2], true, []⟩ = some F.sidingsref17_has := by kernel_rfl
theorem Ok.sidingsref04_top : cFunc Tryz.prog Tryz.f186 ⟨[], true, []⟩ = some F.sidingsref04_top := by kernel_rfl
theorem Ok.compact_Machine_scanned : cFunc Tryz.prog Tryz.f187 ⟨[2], false, []⟩ = some F.compact_Machine_scanned := by kernel_rfl
theorem Ok.compact_Machine_passed : cFunc Tryz.prog Tryz.f188 ⟨[2], false, []⟩ = some F.compact_Machine_passed := by kernel_rfl
theorem Ok.entry_Lock : cFunc Tryz.prog Tryz.f189 ⟨[], true, []⟩ = some F.entry_Lock := by kernel_rfl
theorem Ok.entry_Move : cFunc Tryz.prog Tryz.f190 ⟨[], true, []⟩ = some F.entry_Move := by kernel_rfl
theorem Ok.epoch_Turn_Step : cFunc Tryz.prog Tryz.f191 ⟨[], false, []⟩ = some F.epoch_Turn_Step := by kernel_rfl
theorem Ok.stack_NewPop : cFunc Tryz.prog Tryz.f192 ⟨[1], false, []⟩ = some F.stack_NewPop := by kernel_rfl
theorem Ok.handle_Of : cFunc Tryz.prog Tryz.f193 ⟨[], true, []⟩ = some F.handle_Of := by kernel_rfl
theorem Ok.pin_of : cFunc Tryz.prog Tryz.f194 ⟨[4, 9], false, []⟩ = some F.pin_of := by kernel_rfl
theorem Ok.entry_Pin : cFunc Tryz.prog Tryz.f195 ⟨[], true, []⟩ = some F.entry_Pin := by kernel_rfl
theorem Ok.entry_Unpin : cFunc Tryz.prog Tryz.f196 ⟨[], true, []⟩ = some F.entry_Unpin := by kernel_rfl
theorem Ok.field_Field_may : cFunc Tryz.prog Tryz.f222 ⟨[1], true, []⟩ = some F.field_Field_may := by kernel_rfl
theorem Ok.field_Field_most : cFunc Tryz.prog Tryz.f223 ⟨[1], true, []⟩ = some F.field_Field_most := by kernel_rfl
theorem Ok.slices_stableCmpFunc_plan_Object : cFunc Tryz.prog Tryz.f224 ⟨[], false, [[0, 1, 2, 6, 7, 8], [0, 1, 2, 6], [0, 1, 2, 6, 7, 8]]⟩ = some F.slices_stableCmpFunc_plan_Object := by kernel_rfl
theorem Ok.cmp_Or_int : cFunc Tryz.prog Tryz.f225 ⟨[], true, [[3, 6, 7, 8]]⟩ = some F.cmp_Or_int := by kernel_rfl
theorem Ok.cmp_Compare_int : cFunc Tryz.prog Tryz.f226 ⟨[], true, []⟩ = some F.cmp_Compare_int := by kernel_rfl
theorem Ok.plan_bit : cFunc Tryz.prog Tryz.f227 ⟨[], true, []⟩ = some F.plan_bit := by kernel_rfl
theorem Ok.compact_Machine_behind : cFunc Tryz.prog Tryz.f228 ⟨[2], false, []⟩ = some F.compact_Machine_behind := by kernel_rfl
theorem Ok.entry_changed : cFunc Tryz.prog Tryz.f229 ⟨[], false, []⟩ = some F.entry_changed := by kernel_rfl
theorem Ok.entry_Lock_1 : cFunc Tryz.prog Tryz.f230 ⟨[], false, []⟩ = some F.entry_Lock_1 := by kernel_rfl
theorem Ok.entry_Move_1 : cFunc Tryz.prog Tryz.f231 ⟨[], false, []⟩ = some F.entry_Move_1 := by kernel_rfl
theorem Ok.head_Older : cFunc Tryz.prog Tryz.f232 ⟨[], true, []⟩ = some F.head_Older := by kernel_rfl
theorem Ok.handle_Split : cFunc Tryz.prog Tryz.f233 ⟨[], true, []⟩ = some F.handle_Split := by kernel_rfl
theorem Ok.entry_Pin_1 : cFunc Tryz.prog Tryz.f234 ⟨[], false, []⟩ = some F.entry_Pin_1 := by kernel_rfl
theorem Ok.entry_Unpin_1 : cFunc Tryz.prog Tryz.f235 ⟨[], false, []⟩ = some F.entry_Unpin_1 := by kernel_rfl
theorem Ok.slices_insertionSortCmpFunc_plan_Object : cFunc Tryz.prog Tryz.f247 ⟨[], false, [[0, 1, 2, 3, 8], [0, 1, 2, 3, 8, 9]]⟩ = some F.slices_insertionSortCmpFunc_plan_Object := by kernel_rfl
theorem Ok.slices_symMergeCmpFunc_plan_Object : cFunc Tryz.prog Tryz.f248 ⟨[], false, [[0, 1, 4, 10, 11], [0, 10, 13], [0, 2, 4, 14, 15], [0, 14, 17], [0, 1, 2, 3, 4, 18, 19, 20, 21, 22]]⟩ = some F.slices_symMergeCmpFunc_plan_Object := by kernel_rfl
theorem Ok.cmp_isNaN_int : cFunc Tryz.prog Tryz.f249 ⟨[], true, []⟩ = some F.cmp_isNaN_int := by kernel_rfl
theorem Ok.epoch_NewTurn : cFunc Tryz.prog Tryz.f250 ⟨[1, 3], false, []⟩ = some F.epoch_NewTurn := by kernel_rfl
theorem Ok.entry_Pack : cFunc Tryz.prog Tryz.f251 ⟨[1], true, [[4, 24, 25]]⟩ = some F.entry_Pack := by kernel_rfl
theorem Ok.head_Inside : cFunc Tryz.prog Tryz.f252 ⟨[], true, []⟩ = some F.head_Inside := by kernel_rfl
theorem Ok.handle_Make : cFunc Tryz.prog Tryz.f253 ⟨[], true, []⟩ = some F.handle_Make := by kernel_rfl
theorem Ok.slices_rotateCmpFunc_plan_Object : cFunc Tryz.prog Tryz.f256 ⟨[], false, [[0, 2, 4, 10, 11]]⟩ = some F.slices_rotateCmpFunc_plan_Object := by kernel_rfl
theorem Ok.entry_bit : cFunc Tryz.prog Tryz.f257 ⟨[], true, []⟩ = some F.entry_bit := by kernel_rfl
theorem Ok.slices_swapRangeCmpFunc_plan_Object : cFunc Tryz.prog Tryz.f259 ⟨[], false, [[0, 1, 2, 3, 10]]⟩ = some F.slices_swapRangeCmpFunc_plan_Object := by kernel_rfl
theorem Ok.cells_Plain_Cas : cFunc Tryz.prog Tryz.f275 ⟨[], false, []⟩ = some F.cells_Plain_Cas := by kernel_rfl
theorem Ok.alloc_Machine_Step : cFunc Tryz.prog Tryz.f279 ⟨[4], false, []⟩ = some F.alloc_Machine_Step := by kernel_rfl
theorem Ok.alloc_Machine_pending : cFunc Tryz.prog Tryz.f280 ⟨[], false, []⟩ = some F.alloc_Machine_pending := by kernel_rfl
theorem Ok.alloc_Machine_take : cFunc Tryz.prog Tryz.f281 ⟨[], false, []⟩ = some F.alloc_Machine_take := by kernel_rfl
theorem Ok.alloc_Machine_front : cFunc Tryz.prog Tryz.f282 ⟨[], false, []⟩ = some F.alloc_Machine_front := by kernel_rfl
theorem Ok.stack_Push_Step : cFunc Tryz.prog Tryz.f283 ⟨[], false, []⟩ = some F.stack_Push_Step := by kernel_rfl
theorem Ok.alloc_Machine_clear : cFunc Tryz.prog Tryz.f284 ⟨[], false, []⟩ = some F.alloc_Machine_clear := by kernel_rfl
theorem Ok.alloc_Machine_look : cFunc Tryz.prog Tryz.f285 ⟨[4], false, []⟩ = some F.alloc_Machine_look := by kernel_rfl
theorem Ok.alloc_Machine_publish : cFunc Tryz.prog Tryz.f286 ⟨[], false, []⟩ = some F.alloc_Machine_publish := by kernel_rfl
theorem Ok.alloc_Machine_result : cFunc Tryz.prog Tryz.f287 ⟨[2], false, []⟩ = some F.alloc_Machine_result := by kernel_rfl
theorem Ok.stack_Pop_Step : cFunc Tryz.prog Tryz.f288 ⟨[], false, []⟩ = some F.stack_Pop_Step := by kernel_rfl
theorem Ok.alloc_Machine_fail : cFunc Tryz.prog Tryz.f289 ⟨[], false, []⟩ = some F.alloc_Machine_fail := by kernel_rfl
theorem Ok.stack_NewPush : cFunc Tryz.prog Tryz.f290 ⟨[2], false, []⟩ = some F.stack_NewPush := by kernel_rfl
theorem Ok.stack_machine_look : cFunc Tryz.prog Tryz.f291 ⟨[], false, []⟩ = some F.stack_machine_look := by kernel_rfl
theorem Ok.head_Push : cFunc Tryz.prog Tryz.f292 ⟨[], true, []⟩ = some F.head_Push := by kernel_rfl
theorem Ok.stack_machine_swap : cFunc Tryz.prog Tryz.f293 ⟨[], false, []⟩ = some F.stack_machine_swap := by kernel_rfl
theorem Ok.stack_machine_end : cFunc Tryz.prog Tryz.f294 ⟨[], false, []⟩ = some F.stack_machine_end := by kernel_rfl
theorem Ok.head_Pop : cFunc Tryz.prog Tryz.f295 ⟨[], true, []⟩ = some F.head_Pop := by kernel_rfl
theorem Ok.head_front_behind : cFunc Tryz.prog Tryz.f296 ⟨[], true, []⟩ = some F.head_front_behind := by kernel_rfl
theorem Ok.free_Machine_Step : cFunc Tryz.prog Tryz.f299 ⟨[4], false, []⟩ = some F.free_Machine_Step := by kernel_rfl
theorem Ok.free_Machine_look : cFunc Tryz.prog Tryz.f300 ⟨[4, 6], false, []⟩ = some F.free_Machine_look := by kernel_rfl
theorem Ok.free_Machine_swap : cFunc Tryz.prog Tryz.f301 ⟨[4], false, []⟩ = some F.free_Machine_swap := by kernel_rfl
theorem Ok.free_Machine_end : cFunc Tryz.prog Tryz.f302 ⟨[4], false, []⟩ = some F.free_Machine_end := by kernel_rfl
theorem Ok.entry_Next : cFunc Tryz.prog Tryz.f303 ⟨[], true, []⟩ = some F.entry_Next := by kernel_rfl
theorem Ok.entry_Next_1 : cFunc Tryz.prog Tryz.f304 ⟨[], false, []⟩ = some F.entry_Next_1 := by kernel_rfl
theorem Ok.read_Machine_Step : cFunc Tryz.prog Tryz.f305 ⟨[4, 6, 9], false, []⟩ = some F.read_Machine_Step := by kernel_rfl
theorem Ok.read_Machine_end : cFunc Tryz.prog Tryz.f306 ⟨[3, 4], false, []⟩ = some F.read_Machine_end := by kernel_rfl
theorem Ok.read_Machine_load : cFunc Tryz.prog Tryz.f307 ⟨[4, 6], false, []⟩ = some F.read_Machine_load := by kernel_rfl
theorem Ok.write_Machine_Step : cFunc Tryz.prog Tryz.f309 ⟨[4], false, []⟩ = some F.write_Machine_Step := by kernel_rfl
theorem Ok.write_Machine_look : cFunc Tryz.prog Tryz.f310 ⟨[5], false, []⟩ = some F.write_Machine_look := by kernel_rfl
theorem Ok.write_Machine_end : cFunc Tryz.prog Tryz.f311 ⟨[4], false, []⟩ = some F.write_Machine_end := by kernel_rfl
theorem Ok.write_Machine_guard : cFunc Tryz.prog Tryz.f312 ⟨[], false, []⟩ = some F.write_Machine_guard := by kernel_rfl
theorem Ok.write_Machine_load : cFunc Tryz.prog Tryz.f313 ⟨[], false, []⟩ = some F.write_Machine_load := by kernel_rfl
theorem Ok.write_Machine_leave : cFunc Tryz.prog Tryz.f314 ⟨[], false, []⟩ = some F.write_Machine_leave := by kernel_rfl
theorem Ok.entry_Guard : cFunc Tryz.prog Tryz.f315 ⟨[], true, []⟩ = some F.entry_Guard := by kernel_rfl
theorem Ok.write_Machine_swap : cFunc Tryz.prog Tryz.f316 ⟨[], false, []⟩ = some F.write_Machine_swap := by kernel_rfl
theorem Ok.entry_Guard_1 : cFunc Tryz.prog Tryz.f317 ⟨[], false, []⟩ = some F.entry_Guard_1 := by kernel_rfl
theorem Ok.pin_Machine_Step : cFunc Tryz.prog Tryz.f318 ⟨[4], false, []⟩ = some F.pin_Machine_Step := by kernel_rfl
theorem Ok.pin_Machine_look : cFunc Tryz.prog Tryz.f319 ⟨[4, 6], false, []⟩ = some F.pin_Machine_look := by kernel_rfl
theorem Ok.pin_Machine_end : cFunc Tryz.prog Tryz.f320 ⟨[4], false, []⟩ = some F.pin_Machine_end := by kernel_rfl
theorem Ok.thread_nothing_Step : cFunc Tryz.prog Tryz.f321 ⟨[2, 4], false, []⟩ = some F.thread_nothing_Step := by kernel_rfl

theorem tbl_ok : TblOk Tryz.prog tbl := by
 unfold tbl
 refine .cons Tryz.func3 Ok.sidingslaw21_AuditTells ?_
 refine .cons Tryz.func6 Ok.sidingslaw21_AuditShort ?_
 refine .cons Tryz.func9 Ok.sidingslaw21_live ?_
 refine .cons Tryz.func10 Ok.sidingslaw21_start ?_
 refine .cons Tryz.func11 Ok.sidingsref06_May ?_
 refine .cons Tryz.func12 Ok.sidingsref10_Start ?_
 refine .cons Tryz.func13 Ok.cells_Plain_Store ?_
 refine .cons Tryz.func14 Ok.sidingsref05_Plain_Store ?_
 refine .cons Tryz.func15 Ok.cells_Plain_SetByte ?_
 refine .cons Tryz.func16 Ok.sidingsref05_Plain_SetByte ?_
 refine .cons Tryz.func17 Ok.audit_Objects ?_
 refine .cons Tryz.func18 Ok.sidingsref21_Objects ?_
 refine .cons Tryz.func19 Ok.sidingslaw21_own ?_
 refine .cons Tryz.func20 Ok.sidingsref17_Same ?_
 refine .cons Tryz.func21 Ok.sidingslaw21_told ?_
 refine .cons Tryz.func22 Ok.audit_Check ?_
 refine .cons Tryz.func23 Ok.sidingsref21_Check ?_
 refine .cons Tryz.func24 Ok.sidingsref01_Same ?_
 refine .cons Tryz.func25 Ok.audit_Bytes ?_
 refine .cons Tryz.func26 Ok.sidingsref21_Bytes ?_
 refine .cons Tryz.func28 Ok.world_New ?_
 refine .cons Tryz.func29 Ok.world_World_Pick ?_
 refine .cons Tryz.func30 Ok.audit_World ?_
 refine .cons Tryz.func34 Ok.world_World_Cells ?_
 refine .cons Tryz.func36 Ok.cells_New ?_
 refine .cons Tryz.func37 Ok.sidingsref06_Words ?_
 refine .cons Tryz.func39 Ok.world_World_Holds ?_
 refine .cons Tryz.func40 Ok.cells_Plain_Load ?_
 refine .cons Tryz.func41 Ok.cells_Plain_Copy ?_
 refine .cons Tryz.func42 Ok.layout_Start ?_
 refine .cons Tryz.func43 Ok.sidingsref05_New ?_
 refine .cons Tryz.func44 Ok.sidingsref06_Start ?_
 refine .cons Tryz.func45 Ok.cells_Plain_word ?_
 refine .cons Tryz.func46 Ok.cells_Plain_byte ?_
 refine .cons Tryz.func47 Ok.audit_all ?_
 refine .cons Tryz.func48 Ok.sidingsref02_Unpack ?_
 refine .cons Tryz.func49 Ok.sidingsref06_At ?_
 refine .cons Tryz.func50 Ok.sidingsref03_Round ?_
 refine .cons Tryz.func51 Ok.layout_Of ?_
 refine .cons Tryz.func52 Ok.layout_Layout_Frontier ?_
 refine .cons Tryz.func53 Ok.audit_State_stretched ?_
 refine .cons Tryz.func54 Ok.plan_Check ?_
 refine .cons Tryz.func55 Ok.audit_State_spare ?_
 refine .cons Tryz.func56 Ok.sidingsref21_stretched ?_
 refine .cons Tryz.func57 Ok.sidingsref17_Check ?_
 refine .cons Tryz.func58 Ok.sidingsref21_spare ?_
 refine .cons Tryz.func59 Ok.layout_Layout_Size ?_
 refine .cons Tryz.func60 Ok.sidingsref05_Plain_Byte ?_
 refine .cons Tryz.func61 Ok.layout_Layout_Words ?_
 refine .cons Tryz.func62 Ok.compact_New ?_
 refine .cons Tryz.func63 Ok.thread_New ?_
 refine .cons Tryz.func64 Ok.world_World_step ?_
 refine .cons Tryz.func65 Ok.thread_Thread_Done ?_
 refine .cons Tryz.func66 Ok.thread_Thread_Step ?_
 refine .cons Tryz.func67 Ok.world_World_Config ?_
 refine .cons Tryz.func68 Ok.world_World_Moving ?_
 refine .cons Tryz.func75 Ok.cells_may ?_
 refine .cons Tryz.func76 Ok.cells_Plain_Words ?_
 refine .cons Tryz.func77 Ok.cells_Plain_Bytes ?_
 refine .cons Tryz.func78 Ok.cells_Plain_Byte ?_
 refine .cons Tryz.func79 Ok.thread_Thread_Holds ?_
 refine .cons Tryz.func80 Ok.layout_Layout_Link ?_
 refine .cons Tryz.func81 Ok.head_Pack ?_
 refine .cons Tryz.func82 Ok.layout_Layout_Stack ?_
 refine .cons Tryz.func83 Ok.entry_Unpack ?_
 refine .cons Tryz.func84 Ok.layout_Layout_Entry ?_
 refine .cons Tryz.func85 Ok.handle_Round ?_
 refine .cons Tryz.func86 Ok.sidingsref02_May ?_
 refine .cons Tryz.func87 Ok.layout_in ?_
 refine .cons Tryz.func88 Ok.layout_Layout_once ?_
 refine .cons Tryz.func89 Ok.plan_Check_1 ?_
 refine .cons Tryz.func90 Ok.slices_ContainsFunc_Lplan_Object ?_
 refine .cons Tryz.func91 Ok.plan_Apart ?_
 refine .cons Tryz.func92 Ok.stack_Free ?_
 refine .cons Tryz.func93 Ok.sidingsref21_locked ?_
 refine .cons Tryz.func94 Ok.sidingsref17_Apart ?_
 refine .cons Tryz.func95 Ok.sidingsref10_Free ?_
 refine .cons Tryz.func96 Ok.layout_Layout_of ?_
 refine .cons Tryz.func97 Ok.layout_Layout_Note ?_
 refine .cons Tryz.func98 Ok.slices_Clone_Lapi_Op ?_
 refine .cons Tryz.func99 Ok.compact_Machine_Step ?_
 refine .cons Tryz.func100 Ok.compact_Machine_Lowered ?_
 refine .cons Tryz.func101 Ok.epoch_NewEnter ?_
 refine .cons Tryz.func102 Ok.epoch_Enter_Step ?_
 refine .cons Tryz.func103 Ok.thread_of ?_
 refine .cons Tryz.func104 Ok.epoch_Exit ?_
 refine .cons Tryz.func105 Ok.compact_Machine_Moving ?_
 refine .cons Tryz.func106 Ok.sidingsref05_Plain_Load ?_
 refine .cons Tryz.func112 Ok.sidingsref05_Plain_Cas ?_
 refine .cons Tryz.func120 Ok.alloc_Machine_Holds ?_
 refine .cons Tryz.func121 Ok.head_may ?_
 refine .cons Tryz.func122 Ok.head_of ?_
 refine .cons Tryz.func123 Ok.head_front_word ?_
 refine .cons Tryz.func124 Ok.entry_fields ?_
 refine .cons Tryz.func125 Ok.field_Get ?_
 refine .cons Tryz.func126 Ok.entry_Entry_may ?_
 refine .cons Tryz.func127 Ok.slices_IndexFunc_Lplan_Object ?_
 refine .cons Tryz.func128 Ok.slices_DeleteFunc_Lplan_Object ?_
 refine .cons Tryz.func129 Ok.plan_Sort ?_
 refine .cons Tryz.func130 Ok.plan_Apart_1 ?_
 refine .cons Tryz.func131 Ok.plan_Apart_2 ?_
 refine .cons Tryz.func132 Ok.plan_begins ?_
 refine .cons Tryz.func133 Ok.head_Unpack ?_
 refine .cons Tryz.func134 Ok.sidingsref17_share ?_
 refine .cons Tryz.func135 Ok.sidingsref04_Unpack ?_
 refine .cons Tryz.func136 Ok.compact_Machine_on ?_
 refine .cons Tryz.func137 Ok.layout_Layout_Pending ?_
 refine .cons Tryz.func138 Ok.compact_Machine_end ?_
 refine .cons Tryz.func139 Ok.compact_Machine_scan ?_
 refine .cons Tryz.func140 Ok.compact_Machine_measure ?_
 refine .cons Tryz.func141 Ok.compact_Machine_look ?_
 refine .cons Tryz.func142 Ok.compact_Machine_lock ?_
 refine .cons Tryz.func143 Ok.compact_Machine_object ?_
 refine .cons Tryz.func144 Ok.compact_Machine_lay ?_
 refine .cons Tryz.func145 Ok.compact_Machine_store ?_
 refine .cons Tryz.func146 Ok.compact_Machine_turn ?_
 refine .cons Tryz.func147 Ok.layout_Layout_Epoch ?_
 refine .cons Tryz.func148 Ok.alloc_New ?_
 refine .cons Tryz.func149 Ok.free_New ?_
 refine .cons Tryz.func150 Ok.read_New ?_
 refine .cons Tryz.func151 Ok.write_New ?_
 refine .cons Tryz.func152 Ok.pin_New ?_
 refine .cons Tryz.func153 Ok.pin_NewUn ?_
 refine .cons Tryz.func172 Ok.field_Put ?_
 refine .cons Tryz.func173 Ok.head_topField ?_
 refine .cons Tryz.func174 Ok.head_front_top ?_
 refine .cons Tryz.func175 Ok.head_tagField ?_
 refine .cons Tryz.func176 Ok.head_front_tag ?_
 refine .cons Tryz.func177 Ok.field_word ?_
 refine .cons Tryz.func178 Ok.field_told ?_
 refine .cons Tryz.func179 Ok.field_Field_mask ?_
 refine .cons Tryz.func180 Ok.entry_in ?_
 refine .cons Tryz.func181 Ok.slices_Clone_Lplan_Object ?_
 refine .cons Tryz.func182 Ok.slices_SortStableFunc_Lplan_Object ?_
 refine .cons Tryz.func183 Ok.plan_byPlace ?_
 refine .cons Tryz.func184 Ok.head_read ?_
 refine .cons Tryz.func185 Ok.sidingsref17_has ?_
 refine .cons Tryz.func186 Ok.sidingsref04_top ?_
 refine .cons Tryz.func187 Ok.compact_Machine_scanned ?_
 refine .cons Tryz.func188 Ok.compact_Machine_passed ?_
 refine .cons Tryz.func189 Ok.entry_Lock ?_
 refine .cons Tryz.func190 Ok.entry_Move ?_
 refine .cons Tryz.func191 Ok.epoch_Turn_Step ?_
 refine .cons Tryz.func192 Ok.stack_NewPop ?_
 refine .cons Tryz.func193 Ok.handle_Of ?_
 refine .cons Tryz.func194 Ok.pin_of ?_
 refine .cons Tryz.func195 Ok.entry_Pin ?_
 refine .cons Tryz.func196 Ok.entry_Unpin ?_
 refine .cons Tryz.func222 Ok.field_Field_may ?_
 refine .cons Tryz.func223 Ok.field_Field_most ?_
 refine .cons Tryz.func224 Ok.slices_stableCmpFunc_plan_Object ?_
 refine .cons Tryz.func225 Ok.cmp_Or_int ?_
 refine .cons Tryz.func226 Ok.cmp_Compare_int ?_
 refine .cons Tryz.func227 Ok.plan_bit ?_
 refine .cons Tryz.func228 Ok.compact_Machine_behind ?_
 refine .cons Tryz.func229 Ok.entry_changed ?_
 refine .cons Tryz.func230 Ok.entry_Lock_1 ?_
 refine .cons Tryz.func231 Ok.entry_Move_1 ?_
 refine .cons Tryz.func232 Ok.head_Older ?_
 refine .cons Tryz.func233 Ok.handle_Split ?_
 refine .cons Tryz.func234 Ok.entry_Pin_1 ?_
 refine .cons Tryz.func235 Ok.entry_Unpin_1 ?_
 refine .cons Tryz.func247 Ok.slices_insertionSortCmpFunc_plan_Object ?_
 refine .cons Tryz.func248 Ok.slices_symMergeCmpFunc_plan_Object ?_
 refine .cons Tryz.func249 Ok.cmp_isNaN_int ?_
 refine .cons Tryz.func250 Ok.epoch_NewTurn ?_
 refine .cons Tryz.func251 Ok.entry_Pack ?_
 refine .cons Tryz.func252 Ok.head_Inside ?_
 refine .cons Tryz.func253 Ok.handle_Make ?_
 refine .cons Tryz.func256 Ok.slices_rotateCmpFunc_plan_Object ?_
 refine .cons Tryz.func257 Ok.entry_bit ?_
 refine .cons Tryz.func259 Ok.slices_swapRangeCmpFunc_plan_Object ?_
 refine .cons Tryz.func275 Ok.cells_Plain_Cas ?_
 refine .cons Tryz.func279 Ok.alloc_Machine_Step ?_
 refine .cons Tryz.func280 Ok.alloc_Machine_pending ?_
 refine .cons Tryz.func281 Ok.alloc_Machine_take ?_
 refine .cons Tryz.func282 Ok.alloc_Machine_front ?_
 refine .cons Tryz.func283 Ok.stack_Push_Step ?_
 refine .cons Tryz.func284 Ok.alloc_Machine_clear ?_
 refine .cons Tryz.func285 Ok.alloc_Machine_look ?_
 refine .cons Tryz.func286 Ok.alloc_Machine_publish ?_
 refine .cons Tryz.func287 Ok.alloc_Machine_result ?_
 refine .cons Tryz.func288 Ok.stack_Pop_Step ?_
 refine .cons Tryz.func289 Ok.alloc_Machine_fail ?_
 refine .cons Tryz.func290 Ok.stack_NewPush ?_
 refine .cons Tryz.func291 Ok.stack_machine_look ?_
 refine .cons Tryz.func292 Ok.head_Push ?_
 refine .cons Tryz.func293 Ok.stack_machine_swap ?_
 refine .cons Tryz.func294 Ok.stack_machine_end ?_
 refine .cons Tryz.func295 Ok.head_Pop ?_
 refine .cons Tryz.func296 Ok.head_front_behind ?_
 refine .cons Tryz.func299 Ok.free_Machine_Step ?_
 refine .cons Tryz.func300 Ok.free_Machine_look ?_
 refine .cons Tryz.func301 Ok.free_Machine_swap ?_
 refine .cons Tryz.func302 Ok.free_Machine_end ?_
 refine .cons Tryz.func303 Ok.entry_Next ?_
 refine .cons Tryz.func304 Ok.entry_Next_1 ?_
 refine .cons Tryz.func305 Ok.read_Machine_Step ?_
 refine .cons Tryz.func306 Ok.read_Machine_end ?_
 refine .cons Tryz.func307 Ok.read_Machine_load ?_
 refine .cons Tryz.func309 Ok.write_Machine_Step ?_
 refine .cons Tryz.func310 Ok.write_Machine_look ?_
 refine .cons Tryz.func311 Ok.write_Machine_end ?_
 refine .cons Tryz.func312 Ok.write_Machine_guard ?_
 refine .cons Tryz.func313 Ok.write_Machine_load ?_
 refine .cons Tryz.func314 Ok.write_Machine_leave ?_
 refine .cons Tryz.func315 Ok.entry_Guard ?_
 refine .cons Tryz.func316 Ok.write_Machine_swap ?_
 refine .cons Tryz.func317 Ok.entry_Guard_1 ?_
 refine .cons Tryz.func318 Ok.pin_Machine_Step ?_
 refine .cons Tryz.func319 Ok.pin_Machine_look ?_
 refine .cons Tryz.func320 Ok.pin_Machine_end ?_
 refine .cons Tryz.func321 Ok.thread_nothing_Step ?_
 exact .nil
end Go.Proofs.YtgnkcpkdlkabkaaGreat

