/- The texts of this seat are its functions' translations. -/
import Derived.Test.YtnfcohmbcgfhbaaGreatThreadIr
import Derived.Test.YtnfcohmbcgfhbaaGreatProg
import Derived.KernelRfl

namespace Go.Proofs.YtnfcohmbcgfhbaaGreat
open Go Go.Ir

theorem Ok.sidingslaw19_ThreadAlone : cFunc Tryz.prog Tryz.f3 ⟨[2], false, [[1, 5, 7, 9, 10]]⟩ = some F.sidingslaw19_ThreadAlone := by kernel_rfl
theorem Ok.sidingslaw19_ThreadHistories : cFunc Tryz.prog Tryz.f4 ⟨[3], false, [[1, 2, 3, 7, 8, 9], [1, 2, 3, 7, 8, 10, 11], [1, 13, 15, 16]]⟩ = some F.sidingslaw19_ThreadHistories := by kernel_rfl
theorem Ok.sidingslaw19_ThreadPrefix : cFunc Tryz.prog Tryz.f5 ⟨[3], false, []⟩ = some F.sidingslaw19_ThreadPrefix := by kernel_rfl
theorem Ok.sidingslaw19_ThreadSteps : cFunc Tryz.prog Tryz.f6 ⟨[3], false, [[1, 2, 3, 7, 8, 9, 10, 11], [2, 7, 8, 9, 10, 12]]⟩ = some F.sidingslaw19_ThreadSteps := by kernel_rfl
theorem Ok.sidingslaw19_ThreadNil : cFunc Tryz.prog Tryz.f7 ⟨[2], false, []⟩ = some F.sidingslaw19_ThreadNil := by kernel_rfl
theorem Ok.sidingslaw19_start : cFunc Tryz.prog Tryz.f8 ⟨[1], false, []⟩ = some F.sidingslaw19_start := by kernel_rfl
theorem Ok.sidingsref06_May : cFunc Tryz.prog Tryz.f9 ⟨[1], true, []⟩ = some F.sidingsref06_May := by kernel_rfl
theorem Ok.sidingslaw19_live : cFunc Tryz.prog Tryz.f10 ⟨[1], true, []⟩ = some F.sidingslaw19_live := by kernel_rfl
theorem Ok.thread_New : cFunc Tryz.prog Tryz.f11 ⟨[3, 8], false, []⟩ = some F.thread_New := by kernel_rfl
theorem Ok.sidingslaw19_run : cFunc Tryz.prog Tryz.f12 ⟨[], false, [[0, 1, 2, 8, 9]]⟩ = some F.sidingslaw19_run := by kernel_rfl
theorem Ok.thread_Thread_Done : cFunc Tryz.prog Tryz.f13 ⟨[], false, []⟩ = some F.thread_Thread_Done := by kernel_rfl
theorem Ok.sidingsref07_Map_Try : cFunc Tryz.prog Tryz.f14 ⟨[4, 5, 7, 9], false, []⟩ = some F.sidingsref07_Map_Try := by kernel_rfl
theorem Ok.cells_Plain_Load : cFunc Tryz.prog Tryz.f15 ⟨[], false, []⟩ = some F.cells_Plain_Load := by kernel_rfl
theorem Ok.sidingslaw19_small : cFunc Tryz.prog Tryz.f16 ⟨[], true, [[0, 1, 5, 6]]⟩ = some F.sidingslaw19_small := by kernel_rfl
theorem Ok.thread_Thread_Step : cFunc Tryz.prog Tryz.f17 ⟨[5], false, []⟩ = some F.thread_Thread_Step := by kernel_rfl
theorem Ok.thread_Thread_Busy : cFunc Tryz.prog Tryz.f18 ⟨[], false, []⟩ = some F.thread_Thread_Busy := by kernel_rfl
theorem Ok.sidingsref08_Calls : cFunc Tryz.prog Tryz.f19 ⟨[6], false, [[0, 4, 5]]⟩ = some F.sidingsref08_Calls := by kernel_rfl
theorem Ok.sidingsref19_Events : cFunc Tryz.prog Tryz.f20 ⟨[], true, [[0, 1, 5]]⟩ = some F.sidingsref19_Events := by kernel_rfl
theorem Ok.sidingsref10_Start : cFunc Tryz.prog Tryz.f21 ⟨[1], false, []⟩ = some F.sidingsref10_Start := by kernel_rfl
theorem Ok.sidingsref19_New : cFunc Tryz.prog Tryz.f22 ⟨[3], false, []⟩ = some F.sidingsref19_New := by kernel_rfl
theorem Ok.sidingsref19_Thread_Step : cFunc Tryz.prog Tryz.f23 ⟨[5], false, []⟩ = some F.sidingsref19_Thread_Step := by kernel_rfl
theorem Ok.thread_Thread_Holds : cFunc Tryz.prog Tryz.f24 ⟨[], false, []⟩ = some F.thread_Thread_Holds := by kernel_rfl
theorem Ok.sidingsref19_Thread_Holds : cFunc Tryz.prog Tryz.f25 ⟨[], false, []⟩ = some F.sidingsref19_Thread_Holds := by kernel_rfl
theorem Ok.sidingsref19_Thread_Done : cFunc Tryz.prog Tryz.f26 ⟨[], false, []⟩ = some F.sidingsref19_Thread_Done := by kernel_rfl
theorem Ok.sidingsref19_Thread_Busy : cFunc Tryz.prog Tryz.f27 ⟨[], false, []⟩ = some F.sidingsref19_Thread_Busy := by kernel_rfl
theorem Ok.sidingslaw19_same : cFunc Tryz.prog Tryz.f28 ⟨[], false, [[0, 1, 5], [0, 1, 6]]⟩ = some F.sidingslaw19_same := by kernel_rfl
theorem Ok.cells_New : cFunc Tryz.prog Tryz.f29 ⟨[], false, []⟩ = some F.cells_New := by kernel_rfl
theorem Ok.sidingsref06_Words : cFunc Tryz.prog Tryz.f30 ⟨[1], true, []⟩ = some F.sidingsref06_Words := by kernel_rfl
theorem Ok.layout_Start : cFunc Tryz.prog Tryz.f31 ⟨[3, 5], false, [[0, 5, 38, 39], [0, 5, 8, 9]]⟩ = some F.layout_Start := by kernel_rfl
theorem Ok.epoch_Inside : cFunc Tryz.prog Tryz.f32 ⟨[3, 5], false, [[0, 5, 7, 23, 24]]⟩ = some F.epoch_Inside := by kernel_rfl
theorem Ok.layout_Of : cFunc Tryz.prog Tryz.f33 ⟨[1, 2], true, []⟩ = some F.layout_Of := by kernel_rfl
theorem Ok.layout_Layout_Note : cFunc Tryz.prog Tryz.f34 ⟨[2], true, []⟩ = some F.layout_Layout_Note := by kernel_rfl
theorem Ok.slices_Clone_Lapi_Op : cFunc Tryz.prog Tryz.f35 ⟨[], false, []⟩ = some F.slices_Clone_Lapi_Op := by kernel_rfl
theorem Ok.sidingsref07_Map_Answer : cFunc Tryz.prog Tryz.f36 ⟨[3, 4, 7], false, []⟩ = some F.sidingsref07_Map_Answer := by kernel_rfl
theorem Ok.sidingsref07_Map_tell : cFunc Tryz.prog Tryz.f37 ⟨[], false, [[0, 1, 7, 8, 9, 10]]⟩ = some F.sidingsref07_Map_tell := by kernel_rfl
theorem Ok.sidingsref07_put : cFunc Tryz.prog Tryz.f38 ⟨[3], false, [[0, 3, 5, 6, 7]]⟩ = some F.sidingsref07_put := by kernel_rfl
theorem Ok.sidingsref07_Map_find : cFunc Tryz.prog Tryz.f39 ⟨[], false, [[0, 1, 5]]⟩ = some F.sidingsref07_Map_find := by kernel_rfl
theorem Ok.cells_Plain_word : cFunc Tryz.prog Tryz.f40 ⟨[], false, []⟩ = some F.cells_Plain_word := by kernel_rfl
theorem Ok.epoch_NewEnter : cFunc Tryz.prog Tryz.f41 ⟨[2, 5], false, []⟩ = some F.epoch_NewEnter := by kernel_rfl
theorem Ok.epoch_Enter_Step : cFunc Tryz.prog Tryz.f42 ⟨[], false, []⟩ = some F.epoch_Enter_Step := by kernel_rfl
theorem Ok.thread_of : cFunc Tryz.prog Tryz.f43 ⟨[2, 3], false, []⟩ = some F.thread_of := by kernel_rfl
theorem Ok.epoch_Exit : cFunc Tryz.prog Tryz.f44 ⟨[4, 6], false, []⟩ = some F.epoch_Exit := by kernel_rfl
theorem Ok.sidingsref08_Check : cFunc Tryz.prog Tryz.f45 ⟨[], false, [[0, 3]]⟩ = some F.sidingsref08_Check := by kernel_rfl
theorem Ok.sidingsref08_answer : cFunc Tryz.prog Tryz.f46 ⟨[], false, [[0, 1, 5]]⟩ = some F.sidingsref08_answer := by kernel_rfl
theorem Ok.sidingsref05_New : cFunc Tryz.prog Tryz.f47 ⟨[], false, []⟩ = some F.sidingsref05_New := by kernel_rfl
theorem Ok.sidingsref06_Start : cFunc Tryz.prog Tryz.f48 ⟨[1], false, [[1, 3, 4]]⟩ = some F.sidingsref06_Start := by kernel_rfl
theorem Ok.sidingsref06_At : cFunc Tryz.prog Tryz.f49 ⟨[3], true, []⟩ = some F.sidingsref06_At := by kernel_rfl
theorem Ok.sidingsref16_NewEnter : cFunc Tryz.prog Tryz.f50 ⟨[2], false, []⟩ = some F.sidingsref16_NewEnter := by kernel_rfl
theorem Ok.sidingsref16_Enter_Step : cFunc Tryz.prog Tryz.f51 ⟨[], false, []⟩ = some F.sidingsref16_Enter_Step := by kernel_rfl
theorem Ok.sidingsref19_NewMachine : cFunc Tryz.prog Tryz.f52 ⟨[2, 3], false, []⟩ = some F.sidingsref19_NewMachine := by kernel_rfl
theorem Ok.sidingsref19_Machine_Step : cFunc Tryz.prog Tryz.f53 ⟨[4], false, []⟩ = some F.sidingsref19_Machine_Step := by kernel_rfl
theorem Ok.sidingsref16_Exit : cFunc Tryz.prog Tryz.f54 ⟨[4], false, []⟩ = some F.sidingsref16_Exit := by kernel_rfl
theorem Ok.alloc_Machine_Holds : cFunc Tryz.prog Tryz.f55 ⟨[], false, []⟩ = some F.alloc_Machine_Holds := by kernel_rfl
theorem Ok.sidingsref11_Machine_Holds : cFunc Tryz.prog Tryz.f56 ⟨[], false, []⟩ = some F.sidingsref11_Machine_Holds := by kernel_rfl
theorem Ok.cells_Plain_Byte : cFunc Tryz.prog Tryz.f57 ⟨[], false, []⟩ = some F.cells_Plain_Byte := by kernel_rfl
theorem Ok.cells_may : cFunc Tryz.prog Tryz.f58 ⟨[], true, []⟩ = some F.cells_may := by kernel_rfl
theorem Ok.layout_Layout_Words : cFunc Tryz.prog Tryz.f59 ⟨[1], true, []⟩ = some F.layout_Layout_Words := by kernel_rfl
theorem Ok.layout_Layout_Link : cFunc Tryz.prog Tryz.f60 ⟨[2], true, []⟩ = some F.layout_Layout_Link := by kernel_rfl
theorem Ok.head_Pack : cFunc Tryz.prog Tryz.f61 ⟨[], true, []⟩ = some F.head_Pack := by kernel_rfl
theorem Ok.layout_Layout_Stack : cFunc Tryz.prog Tryz.f62 ⟨[1], true, []⟩ = some F.layout_Layout_Stack := by kernel_rfl
theorem Ok.head_Inside : cFunc Tryz.prog Tryz.f63 ⟨[], true, []⟩ = some F.head_Inside := by kernel_rfl
theorem Ok.layout_in : cFunc Tryz.prog Tryz.f64 ⟨[], true, []⟩ = some F.layout_in := by kernel_rfl
theorem Ok.sidingsref07_of : cFunc Tryz.prog Tryz.f65 ⟨[2], true, []⟩ = some F.sidingsref07_of := by kernel_rfl
theorem Ok.sidingsref03_Split : cFunc Tryz.prog Tryz.f66 ⟨[], true, [[0, 5]]⟩ = some F.sidingsref03_Split := by kernel_rfl
theorem Ok.layout_Layout_Epoch : cFunc Tryz.prog Tryz.f67 ⟨[1], true, []⟩ = some F.layout_Layout_Epoch := by kernel_rfl
theorem Ok.alloc_New : cFunc Tryz.prog Tryz.f68 ⟨[2, 5], false, []⟩ = some F.alloc_New := by kernel_rfl
theorem Ok.free_New : cFunc Tryz.prog Tryz.f69 ⟨[2, 5], false, []⟩ = some F.free_New := by kernel_rfl
theorem Ok.read_New : cFunc Tryz.prog Tryz.f70 ⟨[3, 7], false, []⟩ = some F.read_New := by kernel_rfl
theorem Ok.write_New : cFunc Tryz.prog Tryz.f71 ⟨[4, 9], false, []⟩ = some F.write_New := by kernel_rfl
theorem Ok.pin_New : cFunc Tryz.prog Tryz.f72 ⟨[2], false, []⟩ = some F.pin_New := by kernel_rfl
theorem Ok.pin_NewUn : cFunc Tryz.prog Tryz.f73 ⟨[2], false, []⟩ = some F.pin_NewUn := by kernel_rfl
theorem Ok.sidingsref08_turn : cFunc Tryz.prog Tryz.f74 ⟨[], false, [[0, 1, 5, 6]]⟩ = some F.sidingsref08_turn := by kernel_rfl
theorem Ok.sidingsref05_Plain_Load : cFunc Tryz.prog Tryz.f75 ⟨[], false, []⟩ = some F.sidingsref05_Plain_Load := by kernel_rfl
theorem Ok.sidingsref05_Plain_Store : cFunc Tryz.prog Tryz.f76 ⟨[], false, []⟩ = some F.sidingsref05_Plain_Store := by kernel_rfl
theorem Ok.sidingsref11_New : cFunc Tryz.prog Tryz.f77 ⟨[2], false, []⟩ = some F.sidingsref11_New := by kernel_rfl
theorem Ok.sidingsref15_New : cFunc Tryz.prog Tryz.f78 ⟨[2], false, []⟩ = some F.sidingsref15_New := by kernel_rfl
theorem Ok.sidingsref12_New : cFunc Tryz.prog Tryz.f79 ⟨[3], false, []⟩ = some F.sidingsref12_New := by kernel_rfl
theorem Ok.sidingsref13_New : cFunc Tryz.prog Tryz.f80 ⟨[4], false, []⟩ = some F.sidingsref13_New := by kernel_rfl
theorem Ok.sidingsref14_New : cFunc Tryz.prog Tryz.f81 ⟨[3], false, []⟩ = some F.sidingsref14_New := by kernel_rfl
theorem Ok.sidingsref11_Machine_Step : cFunc Tryz.prog Tryz.f82 ⟨[4], false, []⟩ = some F.sidingsref11_Machine_Step := by kernel_rfl
theorem Ok.sidingsref15_Machine_Step : cFunc Tryz.prog Tryz.f83 ⟨[4], false, []⟩ = some F.sidingsref15_Machine_Step := by kernel_rfl
theorem Ok.sidingsref12_Machine_Step : cFunc Tryz.prog Tryz.f84 ⟨[4], false, []⟩ = some F.sidingsref12_Machine_Step := by kernel_rfl
theorem Ok.sidingsref13_Machine_Step : cFunc Tryz.prog Tryz.f85 ⟨[4], false, []⟩ = some F.sidingsref13_Machine_Step := by kernel_rfl
theorem Ok.sidingsref14_Machine_Step : cFunc Tryz.prog Tryz.f86 ⟨[4], false, []⟩ = some F.sidingsref14_Machine_Step := by kernel_rfl
theorem Ok.sidingsref11_Machine_Size : cFunc Tryz.prog Tryz.f87 ⟨[], false, []⟩ = some F.sidingsref11_Machine_Size := by kernel_rfl
theorem Ok.cells_Plain_byte : cFunc Tryz.prog Tryz.f88 ⟨[], false, []⟩ = some F.cells_Plain_byte := by kernel_rfl
theorem Ok.layout_Layout_of : cFunc Tryz.prog Tryz.f89 ⟨[3], true, []⟩ = some F.layout_Layout_of := by kernel_rfl
theorem Ok.head_may : cFunc Tryz.prog Tryz.f90 ⟨[], true, []⟩ = some F.head_may := by kernel_rfl
theorem Ok.head_of : cFunc Tryz.prog Tryz.f91 ⟨[], true, []⟩ = some F.head_of := by kernel_rfl
theorem Ok.head_front_word : cFunc Tryz.prog Tryz.f92 ⟨[], true, []⟩ = some F.head_front_word := by kernel_rfl
theorem Ok.layout_Layout_once : cFunc Tryz.prog Tryz.f93 ⟨[2], true, []⟩ = some F.layout_Layout_once := by kernel_rfl
theorem Ok.sidingsref03_Make : cFunc Tryz.prog Tryz.f94 ⟨[], true, []⟩ = some F.sidingsref03_Make := by kernel_rfl
theorem Ok.stack_NewPop : cFunc Tryz.prog Tryz.f95 ⟨[1], false, []⟩ = some F.stack_NewPop := by kernel_rfl
theorem Ok.handle_Round : cFunc Tryz.prog Tryz.f96 ⟨[], true, [[0]]⟩ = some F.handle_Round := by kernel_rfl
theorem Ok.handle_Of : cFunc Tryz.prog Tryz.f97 ⟨[], true, []⟩ = some F.handle_Of := by kernel_rfl
theorem Ok.pin_of : cFunc Tryz.prog Tryz.f98 ⟨[4, 9], false, []⟩ = some F.pin_of := by kernel_rfl
theorem Ok.entry_Pin : cFunc Tryz.prog Tryz.f99 ⟨[], true, []⟩ = some F.entry_Pin := by kernel_rfl
theorem Ok.entry_Unpin : cFunc Tryz.prog Tryz.f100 ⟨[], true, []⟩ = some F.entry_Unpin := by kernel_rfl
theorem Ok.sidingsref11_Machine_counted : cFunc Tryz.prog Tryz.f101 ⟨[4], false, []⟩ = some F.sidingsref11_Machine_counted := by kernel_rfl
theorem Ok.sidingsref10_Machine_Step : cFunc Tryz.prog Tryz.f102 ⟨[], false, []⟩ = some F.sidingsref10_Machine_Step := by kernel_rfl
theorem Ok.sidingsref11_Machine_on : cFunc Tryz.prog Tryz.f103 ⟨[4], false, []⟩ = some F.sidingsref11_Machine_on := by kernel_rfl
theorem Ok.sidingsref11_Machine_fail : cFunc Tryz.prog Tryz.f104 ⟨[6], false, []⟩ = some F.sidingsref11_Machine_fail := by kernel_rfl
theorem Ok.sidingsref11_Machine_room : cFunc Tryz.prog Tryz.f105 ⟨[4], false, []⟩ = some F.sidingsref11_Machine_room := by kernel_rfl
theorem Ok.sidingsref11_Machine_lay : cFunc Tryz.prog Tryz.f106 ⟨[4, 6], false, []⟩ = some F.sidingsref11_Machine_lay := by kernel_rfl
theorem Ok.sidingsref03_Of : cFunc Tryz.prog Tryz.f107 ⟨[], true, []⟩ = some F.sidingsref03_Of := by kernel_rfl
theorem Ok.sidingsref15_Machine_end : cFunc Tryz.prog Tryz.f108 ⟨[4], false, []⟩ = some F.sidingsref15_Machine_end := by kernel_rfl
theorem Ok.sidingsref15_Machine_first : cFunc Tryz.prog Tryz.f109 ⟨[8, 10], false, []⟩ = some F.sidingsref15_Machine_first := by kernel_rfl
theorem Ok.sidingsref15_Machine_second : cFunc Tryz.prog Tryz.f110 ⟨[8], false, []⟩ = some F.sidingsref15_Machine_second := by kernel_rfl
theorem Ok.sidingsref12_Machine_end : cFunc Tryz.prog Tryz.f111 ⟨[3, 4], false, []⟩ = some F.sidingsref12_Machine_end := by kernel_rfl
theorem Ok.sidingsref12_Machine_first : cFunc Tryz.prog Tryz.f112 ⟨[8, 10], false, []⟩ = some F.sidingsref12_Machine_first := by kernel_rfl
theorem Ok.sidingsref12_Machine_on : cFunc Tryz.prog Tryz.f113 ⟨[4], false, []⟩ = some F.sidingsref12_Machine_on := by kernel_rfl
theorem Ok.sidingsref05_Plain_Byte : cFunc Tryz.prog Tryz.f114 ⟨[], false, []⟩ = some F.sidingsref05_Plain_Byte := by kernel_rfl
theorem Ok.sidingsref12_Machine_last : cFunc Tryz.prog Tryz.f115 ⟨[8, 10], false, []⟩ = some F.sidingsref12_Machine_last := by kernel_rfl
theorem Ok.sidingsref13_Machine_end : cFunc Tryz.prog Tryz.f116 ⟨[4], false, []⟩ = some F.sidingsref13_Machine_end := by kernel_rfl
theorem Ok.sidingsref13_Machine_take : cFunc Tryz.prog Tryz.f117 ⟨[8, 10], false, []⟩ = some F.sidingsref13_Machine_take := by kernel_rfl
theorem Ok.sidingsref13_Machine_on : cFunc Tryz.prog Tryz.f118 ⟨[4], false, []⟩ = some F.sidingsref13_Machine_on := by kernel_rfl
theorem Ok.sidingsref05_Plain_SetByte : cFunc Tryz.prog Tryz.f119 ⟨[], false, []⟩ = some F.sidingsref05_Plain_SetByte := by kernel_rfl
theorem Ok.sidingsref13_Machine_leave : cFunc Tryz.prog Tryz.f120 ⟨[6], false, []⟩ = some F.sidingsref13_Machine_leave := by kernel_rfl
theorem Ok.sidingsref14_Machine_end : cFunc Tryz.prog Tryz.f121 ⟨[4], false, []⟩ = some F.sidingsref14_Machine_end := by kernel_rfl
theorem Ok.sidingsref14_Machine_first : cFunc Tryz.prog Tryz.f122 ⟨[8, 10], false, []⟩ = some F.sidingsref14_Machine_first := by kernel_rfl
theorem Ok.sidingsref05_Plain_Cas : cFunc Tryz.prog Tryz.f123 ⟨[], false, []⟩ = some F.sidingsref05_Plain_Cas := by kernel_rfl
theorem Ok.sidingsref03_Round : cFunc Tryz.prog Tryz.f124 ⟨[], true, [[0]]⟩ = some F.sidingsref03_Round := by kernel_rfl
theorem Ok.field_Put : cFunc Tryz.prog Tryz.f125 ⟨[4], true, []⟩ = some F.field_Put := by kernel_rfl
theorem Ok.head_topField : cFunc Tryz.prog Tryz.f126 ⟨[0], true, []⟩ = some F.head_topField := by kernel_rfl
theorem Ok.head_front_top : cFunc Tryz.prog Tryz.f127 ⟨[], true, []⟩ = some F.head_front_top := by kernel_rfl
theorem Ok.head_tagField : cFunc Tryz.prog Tryz.f128 ⟨[0], true, []⟩ = some F.head_tagField := by kernel_rfl
theorem Ok.head_front_tag : cFunc Tryz.prog Tryz.f129 ⟨[], true, []⟩ = some F.head_front_tag := by kernel_rfl
theorem Ok.handle_Split : cFunc Tryz.prog Tryz.f130 ⟨[], true, []⟩ = some F.handle_Split := by kernel_rfl
theorem Ok.entry_changed : cFunc Tryz.prog Tryz.f131 ⟨[], true, []⟩ = some F.entry_changed := by kernel_rfl
theorem Ok.entry_Pin_1 : cFunc Tryz.prog Tryz.f132 ⟨[], false, []⟩ = some F.entry_Pin_1 := by kernel_rfl
theorem Ok.entry_Unpin_1 : cFunc Tryz.prog Tryz.f133 ⟨[], false, []⟩ = some F.entry_Unpin_1 := by kernel_rfl
theorem Ok.sidingsref10_New : cFunc Tryz.prog Tryz.f134 ⟨[3], false, []⟩ = some F.sidingsref10_New := by kernel_rfl
theorem Ok.sidingsref10_Machine_first : cFunc Tryz.prog Tryz.f135 ⟨[], false, []⟩ = some F.sidingsref10_Machine_first := by kernel_rfl
theorem Ok.sidingsref10_Machine_second : cFunc Tryz.prog Tryz.f136 ⟨[], false, []⟩ = some F.sidingsref10_Machine_second := by kernel_rfl
theorem Ok.sidingsref10_Machine_end : cFunc Tryz.prog Tryz.f137 ⟨[], false, []⟩ = some F.sidingsref10_Machine_end := by kernel_rfl
theorem Ok.sidingsref02_Unpack : cFunc Tryz.prog Tryz.f138 ⟨[2, 4], true, []⟩ = some F.sidingsref02_Unpack := by kernel_rfl
theorem Ok.sidingsref02_Pack : cFunc Tryz.prog Tryz.f139 ⟨[1], true, []⟩ = some F.sidingsref02_Pack := by kernel_rfl
theorem Ok.sidingsref12_Fresh : cFunc Tryz.prog Tryz.f140 ⟨[4, 6], false, []⟩ = some F.sidingsref12_Fresh := by kernel_rfl
theorem Ok.sidingsref02_Next : cFunc Tryz.prog Tryz.f141 ⟨[5], true, []⟩ = some F.sidingsref02_Next := by kernel_rfl
theorem Ok.sidingsref02_Guard : cFunc Tryz.prog Tryz.f142 ⟨[6], true, []⟩ = some F.sidingsref02_Guard := by kernel_rfl
theorem Ok.sidingsref02_Pin : cFunc Tryz.prog Tryz.f143 ⟨[4], true, []⟩ = some F.sidingsref02_Pin := by kernel_rfl
theorem Ok.sidingsref02_Unpin : cFunc Tryz.prog Tryz.f144 ⟨[4], true, []⟩ = some F.sidingsref02_Unpin := by kernel_rfl
theorem Ok.field_word : cFunc Tryz.prog Tryz.f145 ⟨[], true, []⟩ = some F.field_word := by kernel_rfl
theorem Ok.field_Field_may : cFunc Tryz.prog Tryz.f146 ⟨[1], true, []⟩ = some F.field_Field_may := by kernel_rfl
theorem Ok.field_Field_most : cFunc Tryz.prog Tryz.f147 ⟨[1], true, []⟩ = some F.field_Field_most := by kernel_rfl
theorem Ok.field_Field_mask : cFunc Tryz.prog Tryz.f148 ⟨[1], true, []⟩ = some F.field_Field_mask := by kernel_rfl
theorem Ok.handle_Make : cFunc Tryz.prog Tryz.f149 ⟨[], true, []⟩ = some F.handle_Make := by kernel_rfl
theorem Ok.entry_Unpack : cFunc Tryz.prog Tryz.f150 ⟨[2, 6, 7], true, [[0, 2, 4, 15, 16]]⟩ = some F.entry_Unpack := by kernel_rfl
theorem Ok.entry_Pack : cFunc Tryz.prog Tryz.f151 ⟨[1], true, [[4, 24, 25]]⟩ = some F.entry_Pack := by kernel_rfl
theorem Ok.sidingsref04_Unpack : cFunc Tryz.prog Tryz.f152 ⟨[], true, []⟩ = some F.sidingsref04_Unpack := by kernel_rfl
theorem Ok.sidingsref04_Push : cFunc Tryz.prog Tryz.f153 ⟨[], true, []⟩ = some F.sidingsref04_Push := by kernel_rfl
theorem Ok.sidingsref04_Pop : cFunc Tryz.prog Tryz.f154 ⟨[], true, []⟩ = some F.sidingsref04_Pop := by kernel_rfl
theorem Ok.sidingsref02_May : cFunc Tryz.prog Tryz.f155 ⟨[1], true, []⟩ = some F.sidingsref02_May := by kernel_rfl
theorem Ok.sidingsref02_bit : cFunc Tryz.prog Tryz.f156 ⟨[], true, []⟩ = some F.sidingsref02_bit := by kernel_rfl
theorem Ok.sidingsref02_live : cFunc Tryz.prog Tryz.f157 ⟨[2, 4], true, []⟩ = some F.sidingsref02_live := by kernel_rfl
theorem Ok.entry_fields : cFunc Tryz.prog Tryz.f158 ⟨[0], true, []⟩ = some F.entry_fields := by kernel_rfl
theorem Ok.field_Get : cFunc Tryz.prog Tryz.f159 ⟨[3], true, []⟩ = some F.field_Get := by kernel_rfl
theorem Ok.entry_Entry_may : cFunc Tryz.prog Tryz.f160 ⟨[1], true, []⟩ = some F.entry_Entry_may := by kernel_rfl
theorem Ok.entry_bit : cFunc Tryz.prog Tryz.f161 ⟨[], true, []⟩ = some F.entry_bit := by kernel_rfl
theorem Ok.sidingsref04_top : cFunc Tryz.prog Tryz.f162 ⟨[], true, []⟩ = some F.sidingsref04_top := by kernel_rfl
theorem Ok.sidingsref04_Pack : cFunc Tryz.prog Tryz.f163 ⟨[], true, []⟩ = some F.sidingsref04_Pack := by kernel_rfl
theorem Ok.field_told : cFunc Tryz.prog Tryz.f164 ⟨[3], true, []⟩ = some F.field_told := by kernel_rfl
theorem Ok.entry_in : cFunc Tryz.prog Tryz.f165 ⟨[], true, []⟩ = some F.entry_in := by kernel_rfl
theorem Ok.cells_Plain_Bytes : cFunc Tryz.prog Tryz.f181 ⟨[], false, []⟩ = some F.cells_Plain_Bytes := by kernel_rfl
theorem Ok.cells_Plain_Store : cFunc Tryz.prog Tryz.f182 ⟨[], false, []⟩ = some F.cells_Plain_Store := by kernel_rfl
theorem Ok.cells_Plain_Words : cFunc Tryz.prog Tryz.f183 ⟨[], false, []⟩ = some F.cells_Plain_Words := by kernel_rfl
theorem Ok.sidingsref07_Map_Bytes : cFunc Tryz.prog Tryz.f184 ⟨[], false, []⟩ = some F.sidingsref07_Map_Bytes := by kernel_rfl
theorem Ok.alloc_Machine_Step : cFunc Tryz.prog Tryz.f186 ⟨[4], false, []⟩ = some F.alloc_Machine_Step := by kernel_rfl
theorem Ok.layout_Layout_Pending : cFunc Tryz.prog Tryz.f187 ⟨[1], true, []⟩ = some F.layout_Layout_Pending := by kernel_rfl
theorem Ok.alloc_Machine_pending : cFunc Tryz.prog Tryz.f188 ⟨[], false, []⟩ = some F.alloc_Machine_pending := by kernel_rfl
theorem Ok.alloc_Machine_take : cFunc Tryz.prog Tryz.f189 ⟨[], false, []⟩ = some F.alloc_Machine_take := by kernel_rfl
theorem Ok.alloc_Machine_front : cFunc Tryz.prog Tryz.f190 ⟨[], false, []⟩ = some F.alloc_Machine_front := by kernel_rfl
theorem Ok.layout_Layout_Frontier : cFunc Tryz.prog Tryz.f191 ⟨[1], true, []⟩ = some F.layout_Layout_Frontier := by kernel_rfl
theorem Ok.stack_Push_Step : cFunc Tryz.prog Tryz.f192 ⟨[], false, []⟩ = some F.stack_Push_Step := by kernel_rfl
theorem Ok.alloc_Machine_clear : cFunc Tryz.prog Tryz.f193 ⟨[], false, []⟩ = some F.alloc_Machine_clear := by kernel_rfl
theorem Ok.layout_Layout_Size : cFunc Tryz.prog Tryz.f194 ⟨[2], true, []⟩ = some F.layout_Layout_Size := by kernel_rfl
theorem Ok.alloc_Machine_look : cFunc Tryz.prog Tryz.f195 ⟨[4], false, []⟩ = some F.alloc_Machine_look := by kernel_rfl
theorem Ok.alloc_Machine_publish : cFunc Tryz.prog Tryz.f196 ⟨[], false, []⟩ = some F.alloc_Machine_publish := by kernel_rfl
theorem Ok.alloc_Machine_result : cFunc Tryz.prog Tryz.f197 ⟨[2], false, []⟩ = some F.alloc_Machine_result := by kernel_rfl
theorem Ok.stack_Pop_Step : cFunc Tryz.prog Tryz.f198 ⟨[], false, []⟩ = some F.stack_Pop_Step := by kernel_rfl
theorem Ok.alloc_Machine_fail : cFunc Tryz.prog Tryz.f199 ⟨[], false, []⟩ = some F.alloc_Machine_fail := by kernel_rfl
theorem Ok.stack_NewPush : cFunc Tryz.prog Tryz.f200 ⟨[2], false, []⟩ = some F.stack_NewPush := by kernel_rfl
theorem Ok.stack_machine_look : cFunc Tryz.prog Tryz.f201 ⟨[], false, []⟩ = some F.stack_machine_look := by kernel_rfl
theorem Ok.head_Push : cFunc Tryz.prog Tryz.f202 ⟨[], true, []⟩ = some F.head_Push := by kernel_rfl
theorem Ok.stack_machine_swap : cFunc Tryz.prog Tryz.f203 ⟨[], false, []⟩ = some F.stack_machine_swap := by kernel_rfl
theorem Ok.layout_Layout_Entry : cFunc Tryz.prog Tryz.f204 ⟨[2], true, []⟩ = some F.layout_Layout_Entry := by kernel_rfl
theorem Ok.stack_machine_end : cFunc Tryz.prog Tryz.f205 ⟨[], false, []⟩ = some F.stack_machine_end := by kernel_rfl
theorem Ok.head_Pop : cFunc Tryz.prog Tryz.f206 ⟨[], true, []⟩ = some F.head_Pop := by kernel_rfl
theorem Ok.head_Unpack : cFunc Tryz.prog Tryz.f207 ⟨[], true, []⟩ = some F.head_Unpack := by kernel_rfl
theorem Ok.head_read : cFunc Tryz.prog Tryz.f208 ⟨[], true, []⟩ = some F.head_read := by kernel_rfl
theorem Ok.head_front_behind : cFunc Tryz.prog Tryz.f209 ⟨[], true, []⟩ = some F.head_front_behind := by kernel_rfl
theorem Ok.free_Machine_Step : cFunc Tryz.prog Tryz.f212 ⟨[4], false, []⟩ = some F.free_Machine_Step := by kernel_rfl
theorem Ok.free_Machine_look : cFunc Tryz.prog Tryz.f213 ⟨[4, 6], false, []⟩ = some F.free_Machine_look := by kernel_rfl
theorem Ok.free_Machine_swap : cFunc Tryz.prog Tryz.f214 ⟨[4], false, []⟩ = some F.free_Machine_swap := by kernel_rfl
theorem Ok.free_Machine_end : cFunc Tryz.prog Tryz.f215 ⟨[4], false, []⟩ = some F.free_Machine_end := by kernel_rfl
theorem Ok.entry_Next : cFunc Tryz.prog Tryz.f216 ⟨[], true, []⟩ = some F.entry_Next := by kernel_rfl
theorem Ok.entry_Next_1 : cFunc Tryz.prog Tryz.f217 ⟨[], false, []⟩ = some F.entry_Next_1 := by kernel_rfl
theorem Ok.read_Machine_Step : cFunc Tryz.prog Tryz.f218 ⟨[4, 6, 9], false, []⟩ = some F.read_Machine_Step := by kernel_rfl
theorem Ok.read_Machine_end : cFunc Tryz.prog Tryz.f219 ⟨[3, 4], false, []⟩ = some F.read_Machine_end := by kernel_rfl
theorem Ok.read_Machine_load : cFunc Tryz.prog Tryz.f220 ⟨[4, 6], false, []⟩ = some F.read_Machine_load := by kernel_rfl
theorem Ok.write_Machine_Step : cFunc Tryz.prog Tryz.f222 ⟨[4], false, []⟩ = some F.write_Machine_Step := by kernel_rfl
theorem Ok.write_Machine_look : cFunc Tryz.prog Tryz.f223 ⟨[5], false, []⟩ = some F.write_Machine_look := by kernel_rfl
theorem Ok.write_Machine_end : cFunc Tryz.prog Tryz.f224 ⟨[4], false, []⟩ = some F.write_Machine_end := by kernel_rfl
theorem Ok.write_Machine_guard : cFunc Tryz.prog Tryz.f225 ⟨[], false, []⟩ = some F.write_Machine_guard := by kernel_rfl
theorem Ok.write_Machine_load : cFunc Tryz.prog Tryz.f226 ⟨[], false, []⟩ = some F.write_Machine_load := by kernel_rfl
theorem Ok.write_Machine_leave : cFunc Tryz.prog Tryz.f227 ⟨[], false, []⟩ = some F.write_Machine_leave := by kernel_rfl
theorem Ok.entry_Guard : cFunc Tryz.prog Tryz.f228 ⟨[], true, []⟩ = some F.entry_Guard := by kernel_rfl
theorem Ok.write_Machine_swap : cFunc Tryz.prog Tryz.f229 ⟨[], false, []⟩ = some F.write_Machine_swap := by kernel_rfl
theorem Ok.entry_Guard_1 : cFunc Tryz.prog Tryz.f230 ⟨[], false, []⟩ = some F.entry_Guard_1 := by kernel_rfl
theorem Ok.pin_Machine_Step : cFunc Tryz.prog Tryz.f231 ⟨[4], false, []⟩ = some F.pin_Machine_Step := by kernel_rfl
theorem Ok.pin_Machine_look : cFunc Tryz.prog Tryz.f232 ⟨[4, 6], false, []⟩ = some F.pin_Machine_look := by kernel_rfl
theorem Ok.pin_Machine_end : cFunc Tryz.prog Tryz.f233 ⟨[4], false, []⟩ = some F.pin_Machine_end := by kernel_rfl
theorem Ok.thread_nothing_Step : cFunc Tryz.prog Tryz.f234 ⟨[2, 4], false, []⟩ = some F.thread_nothing_Step := by kernel_rfl
theorem Ok.cells_Plain_Cas : cFunc Tryz.prog Tryz.f236 ⟨[], false, []⟩ = some F.cells_Plain_Cas := by kernel_rfl
theorem Ok.cells_Plain_SetByte : cFunc Tryz.prog Tryz.f237 ⟨[], false, []⟩ = some F.cells_Plain_SetByte := by kernel_rfl

theorem tbl_ok : TblOk Tryz.prog tbl := by
 unfold tbl
 refine .cons Tryz.func3 Ok.sidingslaw19_ThreadAlone ?_
 refine .cons Tryz.func4 Ok.sidingslaw19_ThreadHistories ?_
 refine .cons Tryz.func5 Ok.sidingslaw19_ThreadPrefix ?_
 refine .cons Tryz.func6 Ok.sidingslaw19_ThreadSteps ?_
 refine .cons Tryz.func7 Ok.sidingslaw19_ThreadNil ?_
 refine .cons Tryz.func8 Ok.sidingslaw19_start ?_
 refine .cons Tryz.func9 Ok.sidingsref06_May ?_
 refine .cons Tryz.func10 Ok.sidingslaw19_live ?_
 refine .cons Tryz.func11 Ok.thread_New ?_
 refine .cons Tryz.func12 Ok.sidingslaw19_run ?_
 refine .cons Tryz.func13 Ok.thread_Thread_Done ?_
 refine .cons Tryz.func14 Ok.sidingsref07_Map_Try ?_
 refine .cons Tryz.func15 Ok.cells_Plain_Load ?_
 refine .cons Tryz.func16 Ok.sidingslaw19_small ?_
 refine .cons Tryz.func17 Ok.thread_Thread_Step ?_
 refine .cons Tryz.func18 Ok.thread_Thread_Busy ?_
 refine .cons Tryz.func19 Ok.sidingsref08_Calls ?_
 refine .cons Tryz.func20 Ok.sidingsref19_Events ?_
 refine .cons Tryz.func21 Ok.sidingsref10_Start ?_
 refine .cons Tryz.func22 Ok.sidingsref19_New ?_
 refine .cons Tryz.func23 Ok.sidingsref19_Thread_Step ?_
 refine .cons Tryz.func24 Ok.thread_Thread_Holds ?_
 refine .cons Tryz.func25 Ok.sidingsref19_Thread_Holds ?_
 refine .cons Tryz.func26 Ok.sidingsref19_Thread_Done ?_
 refine .cons Tryz.func27 Ok.sidingsref19_Thread_Busy ?_
 refine .cons Tryz.func28 Ok.sidingslaw19_same ?_
 refine .cons Tryz.func29 Ok.cells_New ?_
 refine .cons Tryz.func30 Ok.sidingsref06_Words ?_
 refine .cons Tryz.func31 Ok.layout_Start ?_
 refine .cons Tryz.func32 Ok.epoch_Inside ?_
 refine .cons Tryz.func33 Ok.layout_Of ?_
 refine .cons Tryz.func34 Ok.layout_Layout_Note ?_
 refine .cons Tryz.func35 Ok.slices_Clone_Lapi_Op ?_
 refine .cons Tryz.func36 Ok.sidingsref07_Map_Answer ?_
 refine .cons Tryz.func37 Ok.sidingsref07_Map_tell ?_
 refine .cons Tryz.func38 Ok.sidingsref07_put ?_
 refine .cons Tryz.func39 Ok.sidingsref07_Map_find ?_
 refine .cons Tryz.func40 Ok.cells_Plain_word ?_
 refine .cons Tryz.func41 Ok.epoch_NewEnter ?_
 refine .cons Tryz.func42 Ok.epoch_Enter_Step ?_
 refine .cons Tryz.func43 Ok.thread_of ?_
 refine .cons Tryz.func44 Ok.epoch_Exit ?_
 refine .cons Tryz.func45 Ok.sidingsref08_Check ?_
 refine .cons Tryz.func46 Ok.sidingsref08_answer ?_
 refine .cons Tryz.func47 Ok.sidingsref05_New ?_
 refine .cons Tryz.func48 Ok.sidingsref06_Start ?_
 refine .cons Tryz.func49 Ok.sidingsref06_At ?_
 refine .cons Tryz.func50 Ok.sidingsref16_NewEnter ?_
 refine .cons Tryz.func51 Ok.sidingsref16_Enter_Step ?_
 refine .cons Tryz.func52 Ok.sidingsref19_NewMachine ?_
 refine .cons Tryz.func53 Ok.sidingsref19_Machine_Step ?_
 refine .cons Tryz.func54 Ok.sidingsref16_Exit ?_
 refine .cons Tryz.func55 Ok.alloc_Machine_Holds ?_
 refine .cons Tryz.func56 Ok.sidingsref11_Machine_Holds ?_
 refine .cons Tryz.func57 Ok.cells_Plain_Byte ?_
 refine .cons Tryz.func58 Ok.cells_may ?_
 refine .cons Tryz.func59 Ok.layout_Layout_Words ?_
 refine .cons Tryz.func60 Ok.layout_Layout_Link ?_
 refine .cons Tryz.func61 Ok.head_Pack ?_
 refine .cons Tryz.func62 Ok.layout_Layout_Stack ?_
 refine .cons Tryz.func63 Ok.head_Inside ?_
 refine .cons Tryz.func64 Ok.layout_in ?_
 refine .cons Tryz.func65 Ok.sidingsref07_of ?_
 refine .cons Tryz.func66 Ok.sidingsref03_Split ?_
 refine .cons Tryz.func67 Ok.layout_Layout_Epoch ?_
 refine .cons Tryz.func68 Ok.alloc_New ?_
 refine .cons Tryz.func69 Ok.free_New ?_
 refine .cons Tryz.func70 Ok.read_New ?_
 refine .cons Tryz.func71 Ok.write_New ?_
 refine .cons Tryz.func72 Ok.pin_New ?_
 refine .cons Tryz.func73 Ok.pin_NewUn ?_
 refine .cons Tryz.func74 Ok.sidingsref08_turn ?_
 refine .cons Tryz.func75 Ok.sidingsref05_Plain_Load ?_
 refine .cons Tryz.func76 Ok.sidingsref05_Plain_Store ?_
 refine .cons Tryz.func77 Ok.sidingsref11_New ?_
 refine .cons Tryz.func78 Ok.sidingsref15_New ?_
 refine .cons Tryz.func79 Ok.sidingsref12_New ?_
 refine .cons Tryz.func80 Ok.sidingsref13_New ?_
 refine .cons Tryz.func81 Ok.sidingsref14_New ?_
 refine .cons Tryz.func82 Ok.sidingsref11_Machine_Step ?_
 refine .cons Tryz.func83 Ok.sidingsref15_Machine_Step ?_
 refine .cons Tryz.func84 Ok.sidingsref12_Machine_Step ?_
 refine .cons Tryz.func85 Ok.sidingsref13_Machine_Step ?_
 refine .cons Tryz.func86 Ok.sidingsref14_Machine_Step ?_
 refine .cons Tryz.func87 Ok.sidingsref11_Machine_Size ?_
 refine .cons Tryz.func88 Ok.cells_Plain_byte ?_
 refine .cons Tryz.func89 Ok.layout_Layout_of ?_
 refine .cons Tryz.func90 Ok.head_may ?_
 refine .cons Tryz.func91 Ok.head_of ?_
 refine .cons Tryz.func92 Ok.head_front_word ?_
 refine .cons Tryz.func93 Ok.layout_Layout_once ?_
 refine .cons Tryz.func94 Ok.sidingsref03_Make ?_
 refine .cons Tryz.func95 Ok.stack_NewPop ?_
 refine .cons Tryz.func96 Ok.handle_Round ?_
 refine .cons Tryz.func97 Ok.handle_Of ?_
 refine .cons Tryz.func98 Ok.pin_of ?_
 refine .cons Tryz.func99 Ok.entry_Pin ?_
 refine .cons Tryz.func100 Ok.entry_Unpin ?_
 refine .cons Tryz.func101 Ok.sidingsref11_Machine_counted ?_
 refine .cons Tryz.func102 Ok.sidingsref10_Machine_Step ?_
 refine .cons Tryz.func103 Ok.sidingsref11_Machine_on ?_
 refine .cons Tryz.func104 Ok.sidingsref11_Machine_fail ?_
 refine .cons Tryz.func105 Ok.sidingsref11_Machine_room ?_
 refine .cons Tryz.func106 Ok.sidingsref11_Machine_lay ?_
 refine .cons Tryz.func107 Ok.sidingsref03_Of ?_
 refine .cons Tryz.func108 Ok.sidingsref15_Machine_end ?_
 refine .cons Tryz.func109 Ok.sidingsref15_Machine_first ?_
 refine .cons Tryz.func110 Ok.sidingsref15_Machine_second ?_
 refine .cons Tryz.func111 Ok.sidingsref12_Machine_end ?_
 refine .cons Tryz.func112 Ok.sidingsref12_Machine_first ?_
 refine .cons Tryz.func113 Ok.sidingsref12_Machine_on ?_
 refine .cons Tryz.func114 Ok.sidingsref05_Plain_Byte ?_
 refine .cons Tryz.func115 Ok.sidingsref12_Machine_last ?_
 refine .cons Tryz.func116 Ok.sidingsref13_Machine_end ?_
 refine .cons Tryz.func117 Ok.sidingsref13_Machine_take ?_
 refine .cons Tryz.func118 Ok.sidingsref13_Machine_on ?_
 refine .cons Tryz.func119 Ok.sidingsref05_Plain_SetByte ?_
 refine .cons Tryz.func120 Ok.sidingsref13_Machine_leave ?_
 refine .cons Tryz.func121 Ok.sidingsref14_Machine_end ?_
 refine .cons Tryz.func122 Ok.sidingsref14_Machine_first ?_
 refine .cons Tryz.func123 Ok.sidingsref05_Plain_Cas ?_
 refine .cons Tryz.func124 Ok.sidingsref03_Round ?_
 refine .cons Tryz.func125 Ok.field_Put ?_
 refine .cons Tryz.func126 Ok.head_topField ?_
 refine .cons Tryz.func127 Ok.head_front_top ?_
 refine .cons Tryz.func128 Ok.head_tagField ?_
 refine .cons Tryz.func129 Ok.head_front_tag ?_
 refine .cons Tryz.func130 Ok.handle_Split ?_
 refine .cons Tryz.func131 Ok.entry_changed ?_
 refine .cons Tryz.func132 Ok.entry_Pin_1 ?_
 refine .cons Tryz.func133 Ok.entry_Unpin_1 ?_
 refine .cons Tryz.func134 Ok.sidingsref10_New ?_
 refine .cons Tryz.func135 Ok.sidingsref10_Machine_first ?_
 refine .cons Tryz.func136 Ok.sidingsref10_Machine_second ?_
 refine .cons Tryz.func137 Ok.sidingsref10_Machine_end ?_
 refine .cons Tryz.func138 Ok.sidingsref02_Unpack ?_
 refine .cons Tryz.func139 Ok.sidingsref02_Pack ?_
 refine .cons Tryz.func140 Ok.sidingsref12_Fresh ?_
 refine .cons Tryz.func141 Ok.sidingsref02_Next ?_
 refine .cons Tryz.func142 Ok.sidingsref02_Guard ?_
 refine .cons Tryz.func143 Ok.sidingsref02_Pin ?_
 refine .cons Tryz.func144 Ok.sidingsref02_Unpin ?_
 refine .cons Tryz.func145 Ok.field_word ?_
 refine .cons Tryz.func146 Ok.field_Field_may ?_
 refine .cons Tryz.func147 Ok.field_Field_most ?_
 refine .cons Tryz.func148 Ok.field_Field_mask ?_
 refine .cons Tryz.func149 Ok.handle_Make ?_
 refine .cons Tryz.func150 Ok.entry_Unpack ?_
 refine .cons Tryz.func151 Ok.entry_Pack ?_
 refine .cons Tryz.func152 Ok.sidingsref04_Unpack ?_
 refine .cons Tryz.func153 Ok.sidingsref04_Push ?_
 refine .cons Tryz.func154 Ok.sidingsref04_Pop ?_
 refine .cons Tryz.func155 Ok.sidingsref02_May ?_
 refine .cons Tryz.func156 Ok.sidingsref02_bit ?_
 refine .cons Tryz.func157 Ok.sidingsref02_live ?_
 refine .cons Tryz.func158 Ok.entry_fields ?_
 refine .cons Tryz.func159 Ok.field_Get ?_
 refine .cons Tryz.func160 Ok.entry_Entry_may ?_
 refine .cons Tryz.func161 Ok.entry_bit ?_
 refine .cons Tryz.func162 Ok.sidingsref04_top ?_
 refine .cons Tryz.func163 Ok.sidingsref04_Pack ?_
 refine .cons Tryz.func164 Ok.field_told ?_
 refine .cons Tryz.func165 Ok.entry_in ?_
 refine .cons Tryz.func181 Ok.cells_Plain_Bytes ?_
 refine .cons Tryz.func182 Ok.cells_Plain_Store ?_
 refine .cons Tryz.func183 Ok.cells_Plain_Words ?_
 refine .cons Tryz.func184 Ok.sidingsref07_Map_Bytes ?_
 refine .cons Tryz.func186 Ok.alloc_Machine_Step ?_
 refine .cons Tryz.func187 Ok.layout_Layout_Pending ?_
 refine .cons Tryz.func188 Ok.alloc_Machine_pending ?_
 refine .cons Tryz.func189 Ok.alloc_Machine_take ?_
 refine .cons Tryz.func190 Ok.alloc_Machine_front ?_
 refine .cons Tryz.func191 Ok.layout_Layout_Frontier ?_
 refine .cons Tryz.func192 Ok.stack_Push_Step ?_
 refine .cons Tryz.func193 Ok.alloc_Machine_clear ?_
 refine .cons Tryz.func194 Ok.layout_Layout_Size ?_
 refine .cons Tryz.func195 Ok.alloc_Machine_look ?_
 refine .cons Tryz.func196 Ok.alloc_Machine_publish ?_
 refine .cons Tryz.func197 Ok.alloc_Machine_result ?_
 refine .cons Tryz.func198 Ok.stack_Pop_Step ?_
 refine .cons Tryz.func199 Ok.alloc_Machine_fail ?_
 refine .cons Tryz.func200 Ok.stack_NewPush ?_
 refine .cons Tryz.func201 Ok.stack_machine_look ?_
 refine .cons Tryz.func202 Ok.head_Push ?_
 refine .cons Tryz.func203 Ok.stack_machine_swap ?_
 refine .cons Tryz.func204 Ok.layout_Layout_Entry ?_
 refine .cons Tryz.func205 Ok.stack_machine_end ?_
 refine .cons Tryz.func206 Ok.head_Pop ?_
 refine .cons Tryz.func207 Ok.head_Unpack ?_
 refine .cons Tryz.func208 Ok.head_read ?_
 refine .cons Tryz.func209 Ok.head_front_behind ?_
 refine .cons Tryz.func212 Ok.free_Machine_Step ?_
 refine .cons Tryz.func213 Ok.free_Machine_look ?_
 refine .cons Tryz.func214 Ok.free_Machine_swap ?_
 refine .cons Tryz.func215 Ok.free_Machine_end ?_
 refine .cons Tryz.func216 Ok.entry_Next ?_
 refine .cons Tryz.func217 Ok.entry_Next_1 ?_
 refine .cons Tryz.func218 Ok.read_Machine_Step ?_
 refine .cons Tryz.func219 Ok.read_Machine_end ?_
 refine .cons Tryz.func220 Ok.read_Machine_load ?_
 refine .cons Tryz.func222 Ok.write_Machine_Step ?_
 refine .cons Tryz.func223 Ok.write_Machine_look ?_
 refine .cons Tryz.func224 Ok.write_Machine_end ?_
 refine .cons Tryz.func225 Ok.write_Machine_guard ?_
 refine .cons Tryz.func226 Ok.write_Machine_load ?_
 refine .cons Tryz.func227 Ok.write_Machine_leave ?_
 refine .cons Tryz.func228 Ok.entry_Guard ?_
 refine .cons Tryz.func229 Ok.write_Machine_swap ?_
 refine .cons Tryz.func230 Ok.entry_Guard_1 ?_
 refine .cons Tryz.func231 Ok.pin_Machine_Step ?_
 refine .cons Tryz.func232 Ok.pin_Machine_look ?_
 refine .cons Tryz.func233 Ok.pin_Machine_end ?_
 refine .cons Tryz.func234 Ok.thread_nothing_Step ?_
 refine .cons Tryz.func236 Ok.cells_Plain_Cas ?_
 refine .cons Tryz.func237 Ok.cells_Plain_SetByte ?_
 exact .nil
end Go.Proofs.YtnfcohmbcgfhbaaGreat

