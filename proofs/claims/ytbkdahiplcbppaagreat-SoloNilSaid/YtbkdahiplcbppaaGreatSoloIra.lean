/- The functions of this seat in the small language: printed by a program. -/
import Derived.Test.YtbkdahiplcbppaaGreatIrSl
namespace Go.Proofs.YtbkdahiplcbppaaGreat
open Go Go.Ir

def Id.sidingslaw22_SoloNil : Nat := 3
def Id.solo_Finish : Nat := 4
def Id.solo_Turns : Nat := 5
def Id.solo_Left : Nat := 6
def Id.solo_Fits : Nat := 7
def Id.sidingslaw22_live : Nat := 8
def Id.world_World_Quiet : Nat := 9
def Id.world_World_Counts : Nat := 10
def Id.world_World_Pick : Nat := 11
def Id.world_World_Config : Nat := 12
def Id.world_World_Done : Nat := 13
def Id.layout_Of : Nat := 14
def Id.world_World_Cells : Nat := 15
def Id.cells_Plain_Load : Nat := 16
def Id.layout_Layout_Frontier : Nat := 17
def Id.handle_Round : Nat := 18
def Id.stack_Free : Nat := 19
def Id.handle_Make : Nat := 20
def Id.sidingslaw22_run : Nat := 21
def Id.audit_Objects : Nat := 22
def Id.solo_Bound : Nat := 23
def Id.slices_ContainsFunc_L_thread_Thread : Nat := 24
def Id.thread_Thread_Busy : Nat := 25
def Id.world_World_step : Nat := 26
def Id.thread_Thread_Done : Nat := 27
def Id.thread_Thread_Step : Nat := 28
def Id.world_World_Done_1 : Nat := 29
def Id.layout_in : Nat := 30
def Id.cells_Plain_word : Nat := 31
def Id.layout_Layout_once : Nat := 32
def Id.head_Unpack : Nat := 33
def Id.layout_Layout_Stack : Nat := 34
def Id.layout_Layout_Words : Nat := 35
def Id.layout_Layout_Link : Nat := 36
def Id.layout_Layout_Entry : Nat := 37
def Id.world_New : Nat := 38
def Id.audit_all : Nat := 39
def Id.slices_IndexFunc_L_thread_Thread : Nat := 40
def Id.compact_Machine_Step : Nat := 41
def Id.compact_Machine_Lowered : Nat := 42
def Id.compact_New : Nat := 43
def Id.epoch_NewEnter : Nat := 44
def Id.epoch_Enter_Step : Nat := 45
def Id.thread_of : Nat := 46
def Id.epoch_Exit : Nat := 47
def Id.head_read : Nat := 48
def Id.head_front_top : Nat := 49
def Id.head_front_tag : Nat := 50
def Id.layout_Layout_of : Nat := 51
def Id.cells_New : Nat := 52
def Id.layout_Start : Nat := 53
def Id.thread_New : Nat := 54
def Id.entry_Unpack : Nat := 55
def Id.layout_Layout_Size : Nat := 56
def Id.compact_Machine_on : Nat := 57
def Id.layout_Layout_Pending : Nat := 58
def Id.compact_Machine_end : Nat := 59
def Id.compact_Machine_scan : Nat := 60
def Id.compact_Machine_measure : Nat := 61
def Id.compact_Machine_look : Nat := 62
def Id.compact_Machine_lock : Nat := 63
def Id.compact_Machine_object : Nat := 64
def Id.compact_Machine_lay : Nat := 65
def Id.compact_Machine_store : Nat := 66
def Id.compact_Machine_turn : Nat := 67
def Id.layout_Layout_Note : Nat := 68
def Id.layout_Layout_Epoch : Nat := 69
def Id.alloc_New : Nat := 70
def Id.free_New : Nat := 71
def Id.read_New : Nat := 72
def Id.write_New : Nat := 73
def Id.pin_New : Nat := 74
def Id.pin_NewUn : Nat := 75
def Id.head_of : Nat := 76
def Id.field_Get : Nat := 77
def Id.head_topField : Nat := 78
def Id.head_tagField : Nat := 79
def Id.head_may : Nat := 80
def Id.head_front_word : Nat := 81
def Id.cells_may : Nat := 82
def Id.head_Pack : Nat := 83
def Id.slices_Clone_Lapi_Op : Nat := 84
def Id.entry_fields : Nat := 85
def Id.entry_Entry_may : Nat := 86
def Id.compact_Machine_scanned : Nat := 87
def Id.compact_Machine_passed : Nat := 88
def Id.entry_Lock : Nat := 89
def Id.entry_Move : Nat := 90
def Id.epoch_Turn_Step : Nat := 91
def Id.stack_NewPop : Nat := 92
def Id.handle_Of : Nat := 93
def Id.pin_of : Nat := 94
def Id.entry_Pin : Nat := 95
def Id.entry_Unpin : Nat := 96
def Id.field_word : Nat := 97
def Id.field_told : Nat := 98
def Id.field_Field_mask : Nat := 99
def Id.field_Put : Nat := 100
def Id.entry_in : Nat := 101
def Id.plan_Sort : Nat := 102
def Id.compact_Machine_behind : Nat := 103
def Id.entry_changed : Nat := 104
def Id.entry_Lock_1 : Nat := 105
def Id.entry_Move_1 : Nat := 106
def Id.head_Older : Nat := 107
def Id.handle_Split : Nat := 108
def Id.entry_Pin_1 : Nat := 109
def Id.entry_Unpin_1 : Nat := 110
def Id.field_Field_may : Nat := 111
def Id.field_Field_most : Nat := 112
def Id.slices_Clone_Lplan_Object : Nat := 113
def Id.slices_SortStableFunc_Lplan_Object : Nat := 114
def Id.plan_byPlace : Nat := 115
def Id.epoch_NewTurn : Nat := 116
def Id.entry_Pack : Nat := 117
def Id.head_Inside : Nat := 118
def Id.slices_stableCmpFunc_plan_Object : Nat := 119
def Id.cmp_Or_int : Nat := 120
def Id.cmp_Compare_int : Nat := 121
def Id.plan_bit : Nat := 122
def Id.entry_bit : Nat := 123
def Id.slices_insertionSortCmpFunc_plan_Object : Nat := 124
def Id.slices_symMergeCmpFunc_plan_Object : Nat := 125
def Id.cmp_isNaN_int : Nat := 126
def Id.slices_rotateCmpFunc_plan_Object : Nat := 127
def Id.slices_swapRangeCmpFunc_plan_Object : Nat := 128
def Id.cells_Plain_Byte : Nat := 144
def Id.cells_Plain_Bytes : Nat := 145
def Id.cells_Plain_Cas : Nat := 146
def Id.cells_Plain_SetByte : Nat := 147
def Id.cells_Plain_Store : Nat := 148
def Id.cells_Plain_Words : Nat := 149
def Id.cells_Plain_byte : Nat := 150
def Id.alloc_Machine_Step : Nat := 152
def Id.alloc_Machine_pending : Nat := 153
def Id.alloc_Machine_take : Nat := 154
def Id.alloc_Machine_front : Nat := 155
def Id.stack_Push_Step : Nat := 156
def Id.alloc_Machine_clear : Nat := 157
def Id.alloc_Machine_look : Nat := 158
def Id.alloc_Machine_publish : Nat := 159
def Id.alloc_Machine_result : Nat := 160
def Id.stack_Pop_Step : Nat := 161
def Id.alloc_Machine_fail : Nat := 162
def Id.stack_NewPush : Nat := 163
def Id.stack_machine_look : Nat := 164
def Id.head_Push : Nat := 165
def Id.stack_machine_swap : Nat := 166
def Id.stack_machine_end : Nat := 167
def Id.head_Pop : Nat := 168
def Id.head_front_behind : Nat := 169
def Id.free_Machine_Step : Nat := 171
def Id.free_Machine_look : Nat := 172
def Id.free_Machine_swap : Nat := 173
def Id.free_Machine_end : Nat := 174
def Id.entry_Next : Nat := 175
def Id.entry_Next_1 : Nat := 176
def Id.read_Machine_Step : Nat := 177
def Id.read_Machine_end : Nat := 178
def Id.read_Machine_load : Nat := 179
def Id.write_Machine_Step : Nat := 181
def Id.write_Machine_look : Nat := 182
def Id.write_Machine_end : Nat := 183
def Id.write_Machine_guard : Nat := 184
def Id.write_Machine_load : Nat := 185
def Id.write_Machine_leave : Nat := 186
def Id.entry_Guard : Nat := 187
def Id.write_Machine_swap : Nat := 188
def Id.entry_Guard_1 : Nat := 189
def Id.pin_Machine_Step : Nat := 190
def Id.pin_Machine_look : Nat := 191
def Id.pin_Machine_end : Nat := 192
def Id.thread_nothing_Step : Nat := 193

def F.sidingslaw22_SoloNil : IFunc :=
  { lb := [], scr := false, nargs := 1, res := [.tmp 2],
    body := .seq (.region [⟨(some 2), .mov (.const (.bool false)), none, 0⟩])
      (.seq (.region [⟨(some 8), .call Id.solo_Finish [.const (.pointer none)], none, 0⟩,
        ⟨(some 7), .mov (.tmp 8), none, 0⟩,
        ⟨(some 9), .extract (.tmp 7) 0, none, 0⟩,
        ⟨(some 10), .extract (.tmp 7) 1, none, 0⟩,
        ⟨(some 3), .mov (.tmp 9), none, 0⟩,
        ⟨(some 4), .mov (.tmp 10), none, 0⟩])
      (.seq (.region [⟨(some 12), .mov (.tmp 0), none, 0⟩,
        ⟨(some 13), .call Id.solo_Turns [.const (.pointer none), .tmp 12], none, 0⟩,
        ⟨(some 11), .mov (.tmp 13), none, 0⟩,
        ⟨(some 14), .extract (.tmp 11) 0, none, 0⟩,
        ⟨(some 15), .extract (.tmp 11) 1, none, 0⟩,
        ⟨(some 5), .mov (.tmp 14), none, 0⟩,
        ⟨(some 6), .mov (.tmp 15), none, 0⟩])
      (.seq (.region [⟨(some 16), .mov (.tmp 3), none, 0⟩,
        ⟨(some 17), .bin .eql (.tmp 16) (.const (.int .i64 0)), none, 0⟩,
        ⟨(some 18), .mov (.tmp 17), none, 0⟩,
        ⟨(some 19), .mov (.tmp 4), (some (18, true)), 0⟩,
        ⟨(some 20), .bin .eql (.tmp 19) (.const (.int .i64 1)), (some (18, true)), 0⟩,
        ⟨(some 21), .pick (.tmp 18) (.tmp 20) (.const (.bool false)), none, 0⟩,
        ⟨(some 22), .mov (.tmp 21), none, 0⟩,
        ⟨(some 23), .call Id.solo_Left [.const (.pointer none)], (some (22, true)), 0⟩,
        ⟨(some 24), .bin .eql (.tmp 23) (.const (.int .i64 0)), (some (22, true)), 0⟩,
        ⟨(some 25), .pick (.tmp 22) (.tmp 24) (.const (.bool false)), none, 0⟩,
        ⟨(some 26), .mov (.tmp 25), none, 0⟩,
        ⟨(some 27), .mov (.tmp 0), (some (26, true)), 0⟩,
        ⟨(some 28), .call Id.solo_Fits [.const (.pointer none), .tmp 27], (some (26, true)), 0⟩,
        ⟨(some 29), .bin .eql (.tmp 28) (.const (.int .i64 1)), (some (26, true)), 0⟩,
        ⟨(some 30), .pick (.tmp 26) (.tmp 29) (.const (.bool false)), none, 0⟩,
        ⟨(some 31), .mov (.tmp 30), none, 0⟩,
        ⟨(some 32), .mov (.tmp 5), (some (31, true)), 0⟩,
        ⟨(some 33), .bin .eql (.tmp 32) (.const (.int .i64 0)), (some (31, true)), 0⟩,
        ⟨(some 34), .pick (.tmp 31) (.tmp 33) (.const (.bool false)), none, 0⟩,
        ⟨(some 35), .mov (.tmp 34), none, 0⟩,
        ⟨(some 36), .mov (.tmp 6), (some (35, true)), 0⟩,
        ⟨(some 37), .pick (.tmp 35) (.tmp 36) (.const (.bool false)), none, 0⟩,
        ⟨(some 38), .mov (.tmp 37), none, 0⟩,
        ⟨(some 39), .call Id.sidingslaw22_live [], (some (38, true)), 0⟩,
        ⟨(some 40), .pick (.tmp 38) (.tmp 39) (.const (.bool false)), none, 0⟩,
        ⟨(some 2), .mov (.tmp 40), none, 0⟩])
      (.ret)))) }

def F.solo_Finish : IFunc :=
  { lb := [], scr := false, nargs := 1, res := [.tmp 2, .tmp 3],
    body := .seq (.region [⟨(some 2), .mov (.const (.int .i64 0)), none, 0⟩,
        ⟨(some 3), .mov (.const (.int .i64 0)), none, 0⟩])
      (.seq (.seq (.region [⟨(some 11), .mov (.tmp 0), none, 0⟩,
        ⟨(some 12), .eqv false (.nil 0) (.tmp 11) (.const (.pointer none)), none, 0⟩,
        ⟨(some 13), .mov (.tmp 12), none, 0⟩,
        ⟨(some 14), .mov (.tmp 0), (some (13, false)), 0⟩,
        ⟨(some 15), .call Id.world_World_Quiet [.tmp 14], (some (13, false)), 0⟩,
        ⟨(some 16), .un .not (.tmp 15), (some (13, false)), 0⟩,
        ⟨(some 17), .pick (.tmp 13) (.const (.bool true)) (.tmp 16), none, 0⟩])
      (.cond (.tmp 17)
        (.seq (.region [⟨(some 2), .mov (.const (.int .i64 0)), none, 0⟩,
          ⟨(some 3), .mov (.const (.int .i64 1)), none, 0⟩])
        (.ret))
        (.skip)))
      (.seq (.region [⟨(some 19), .mov (.tmp 0), none, 0⟩,
        ⟨(some 20), .call Id.world_World_Counts [.tmp 19], none, 0⟩,
        ⟨(some 18), .mov (.tmp 20), none, 0⟩,
        ⟨(some 21), .extract (.tmp 18) 0, none, 0⟩,
        ⟨(some 22), .extract (.tmp 18) 1, none, 0⟩,
        ⟨(some 23), .extract (.tmp 18) 2, none, 0⟩,
        ⟨(some 4), .mov (.tmp 21), none, 0⟩,
        ⟨(some 5), .mov (.tmp 22), none, 0⟩,
        ⟨(some 6), .mov (.tmp 23), none, 0⟩])
      (.seq (.region [⟨(some 7), .mov (.const (.int .i64 0)), none, 0⟩])
      (.block 0 (.loop [0, 4, 7]
        (.seq (.block 1 (.seq (.seq (.region [⟨(some 27), .mov (.tmp 0), none, 0⟩,
          ⟨(some 28), .call Id.world_World_Counts [.tmp 27], none, 0⟩,
          ⟨(some 26), .mov (.tmp 28), none, 0⟩,
          ⟨(some 29), .extract (.tmp 26) 0, none, 0⟩,
          ⟨(some 30), .extract (.tmp 26) 1, none, 0⟩,
          ⟨(some 31), .extract (.tmp 26) 2, none, 0⟩,
          ⟨(some 8), .mov (.tmp 29), none, 0⟩,
          ⟨(some 9), .mov (.tmp 30), none, 0⟩,
          ⟨(some 10), .mov (.tmp 31), none, 0⟩])
        (.seq (.region [⟨(some 32), .mov (.tmp 8), none, 0⟩,
          ⟨(some 33), .mov (.tmp 4), none, 0⟩,
          ⟨(some 34), .bin .add (.tmp 33) (.const (.int .i64 2)), none, 0⟩,
          ⟨(some 35), .bin .eql (.tmp 32) (.tmp 34), none, 0⟩])
        (.cond (.tmp 35)
          (.seq (.region [⟨(some 36), .mov (.tmp 7), none, 0⟩,
            ⟨(some 2), .mov (.tmp 36), none, 0⟩,
            ⟨(some 3), .mov (.const (.int .i64 0)), none, 0⟩])
          (.ret))
          (.skip))))
        (.region [⟨(some 37), .mov (.tmp 0), none, 0⟩,
          ⟨(some 38), .mov (.tmp 0), none, 0⟩,
          ⟨(some 39), .call Id.world_World_Config [.tmp 38], none, 0⟩,
          ⟨(some 40), .field 2 none (.tmp 39), none, 0⟩,
          ⟨(some 41), .call Id.world_World_Pick [.tmp 37, .tmp 40], none, 0⟩])))
        (.region [⟨(some 24), .mov (.tmp 7), none, 0⟩,
          ⟨(some 25), .bin .add (.tmp 24) (.const (.int .i64 1)), none, 0⟩,
          ⟨(some 7), .mov (.tmp 25), none, 0⟩]))))))) }

def F.solo_Turns : IFunc :=
  { lb := [], scr := false, nargs := 2, res := [.tmp 4, .tmp 5],
    body := .seq (.region [⟨(some 4), .mov (.const (.int .i64 0)), none, 0⟩,
        ⟨(some 5), .mov (.const (.bool false)), none, 0⟩])
      (.scope (.seq (.region [⟨(some 6), .mov (.const (.int .i64 0)), none, 0⟩])
      (.seq (.region [⟨(some 8), .mov (.tmp 1), none, 0⟩,
        ⟨(some 9), .min [.tmp 8, .const (.int .i64 1000000)], none, 0⟩,
        ⟨(some 1), .mov (.tmp 9), none, 0⟩])
      (.seq (.label 0)
      (.seq (.seq (.region [⟨(some 10), .mov (.tmp 6), none, 0⟩,
        ⟨(some 11), .mov (.tmp 1), none, 0⟩,
        ⟨(some 12), .bin .geq (.tmp 10) (.tmp 11), none, 0⟩,
        ⟨(some 13), .mov (.tmp 12), none, 0⟩,
        ⟨(some 14), .mov (.tmp 0), (some (13, false)), 0⟩,
        ⟨(some 15), .call Id.world_World_Done [.tmp 14], (some (13, false)), 0⟩,
        ⟨(some 16), .pick (.tmp 13) (.const (.bool true)) (.tmp 15), none, 0⟩])
      (.cond (.tmp 16)
        (.seq (.region [⟨(some 17), .mov (.tmp 6), none, 0⟩,
          ⟨(some 18), .mov (.tmp 0), none, 0⟩,
          ⟨(some 19), .call Id.world_World_Done [.tmp 18], none, 0⟩,
          ⟨(some 4), .mov (.tmp 17), none, 0⟩,
          ⟨(some 5), .mov (.tmp 19), none, 0⟩])
        (.ret))
        (.skip)))
      (.seq (.seq (.region [⟨(some 20), .mov (.tmp 0), none, 0⟩,
        ⟨(some 21), .call Id.world_World_Config [.tmp 20], none, 0⟩,
        ⟨(some 22), .field 2 none (.tmp 21), none, 0⟩,
        ⟨(some 23), .bin .add (.tmp 22) (.const (.int .i64 1)), none, 0⟩,
        ⟨(some 24), .mov (.const (.int .i64 0)), none, 0⟩])
      (.block 0 (.loop [0, 1, 6, 23, 24]
        (.seq (.region [⟨(some 25), .bin .lss (.tmp 24) (.tmp 23), none, 0⟩])
        (.seq (.cond (.tmp 25)
          (.skip)
          (.exit 0))
        (.seq (.block 1 (.seq (.region [⟨(some 26), .mov (.tmp 24), none, 0⟩,
          ⟨(some 7), .mov (.tmp 26), none, 0⟩])
        (.region [⟨(some 27), .mov (.tmp 0), none, 0⟩,
          ⟨(some 28), .mov (.tmp 7), none, 0⟩,
          ⟨(some 29), .call Id.world_World_Pick [.tmp 27, .tmp 28], none, 0⟩])))
        (.region [⟨(some 30), .bin .add (.tmp 24) (.const (.int .i64 1)), none, 0⟩,
          ⟨(some 24), .mov (.tmp 30), none, 0⟩])))))))
      (.seq (.region [⟨(some 31), .mov (.tmp 6), none, 0⟩,
        ⟨(some 32), .bin .add (.tmp 31) (.const (.int .i64 1)), none, 0⟩,
        ⟨(some 6), .mov (.tmp 32), none, 0⟩])
      (.goto 0 [0, 1, 6])))))))) }

def F.solo_Left : IFunc :=
  { lb := [3], scr := false, nargs := 1, res := [.tmp 2],
    body := .seq (.region [⟨(some 2), .mov (.const (.int .i64 0)), none, 0⟩])
      (.seq (.seq (.region [⟨(some 5), .mov (.tmp 0), none, 0⟩,
        ⟨(some 6), .eqv false (.nil 0) (.tmp 5) (.const (.pointer none)), none, 0⟩])
      (.cond (.tmp 6)
        (.seq (.region [⟨(some 2), .mov (.const (.int .i64 0)), none, 0⟩])
        (.ret))
        (.skip)))
      (.seq (.region [⟨(some 8), .mov (.tmp 0), none, 0⟩,
        ⟨(some 9), .call Id.world_World_Config [.tmp 8], none, 0⟩,
        ⟨(some 10), .call Id.layout_Of [.tmp 9], none, 0⟩,
        ⟨(some 7), .mov (.tmp 10), none, 0⟩,
        ⟨(some 11), .extract (.tmp 7) 0, none, 0⟩,
        ⟨(some 12), .extract (.tmp 7) 1, none, 0⟩,
        ⟨(some 3), .lbox (.const (.agg #[.int .i64 0, .int .i64 0])), none, 0⟩,
        ⟨(some 3), .lstore none 3 0 2 (.tmp 11), none, 0⟩,
        ⟨(some 4), .mov (.tmp 12), none, 0⟩])
      (.seq (.region [⟨(some 13), .mov (.tmp 0), none, 0⟩,
        ⟨(some 14), .call Id.world_World_Config [.tmp 13], none, 0⟩,
        ⟨(some 16), .mov (.tmp 0), none, 0⟩,
        ⟨(some 17), .call Id.world_World_Cells [.tmp 16], none, 0⟩,
        ⟨(some 18), .lload none 3 0 (some 2), none, 0⟩,
        ⟨(some 19), .call Id.layout_Layout_Frontier [.tmp 18], none, 0⟩,
        ⟨(some 20), .call Id.cells_Plain_Load [.tmp 17, .tmp 19], none, 0⟩,
        ⟨(some 15), .field 0 none (.tmp 14), none, 0⟩,
        ⟨(some 21), .bin .sub (.tmp 15) (.tmp 20), none, 0⟩,
        ⟨(some 2), .mov (.tmp 21), none, 0⟩])
      (.ret)))) }

def F.solo_Fits : IFunc :=
  { lb := [5], scr := false, nargs := 2, res := [.tmp 4],
    body := .seq (.region [⟨(some 4), .mov (.const (.int .i64 0)), none, 0⟩])
      (.seq (.seq (.region [⟨(some 9), .mov (.tmp 0), none, 0⟩,
        ⟨(some 10), .eqv false (.nil 0) (.tmp 9) (.const (.pointer none)), none, 0⟩])
      (.cond (.tmp 10)
        (.seq (.region [⟨(some 4), .mov (.const (.int .i64 1)), none, 0⟩])
        (.ret))
        (.skip)))
      (.seq (.region [⟨(some 12), .mov (.tmp 0), none, 0⟩,
        ⟨(some 13), .call Id.world_World_Config [.tmp 12], none, 0⟩,
        ⟨(some 14), .call Id.layout_Of [.tmp 13], none, 0⟩,
        ⟨(some 11), .mov (.tmp 14), none, 0⟩,
        ⟨(some 15), .extract (.tmp 11) 0, none, 0⟩,
        ⟨(some 16), .extract (.tmp 11) 1, none, 0⟩,
        ⟨(some 5), .lbox (.const (.agg #[.int .i64 0, .int .i64 0])), none, 0⟩,
        ⟨(some 5), .lstore none 5 0 2 (.tmp 15), none, 0⟩,
        ⟨(some 6), .mov (.tmp 16), none, 0⟩])
      (.seq (.region [⟨(some 18), .mov (.tmp 1), none, 0⟩,
        ⟨(some 19), .call Id.handle_Round [.tmp 18], none, 0⟩,
        ⟨(some 17), .mov (.tmp 19), none, 0⟩,
        ⟨(some 20), .extract (.tmp 17) 0, none, 0⟩,
        ⟨(some 21), .extract (.tmp 17) 1, none, 0⟩,
        ⟨(some 7), .mov (.tmp 20), none, 0⟩,
        ⟨(some 8), .mov (.tmp 21), none, 0⟩])
      (.seq (.block 0 (.seq (.region [⟨(some 23), .mov (.tmp 8), none, 0⟩,
        ⟨(some 24), .bin .neq (.tmp 23) (.const (.int .i64 0)), none, 0⟩,
        ⟨(some 22), .mov (.tmp 24), none, 0⟩])
      (.cond (.tmp 22)
        (.seq (.region [⟨(some 25), .mov (.tmp 8), none, 0⟩,
          ⟨(some 4), .mov (.tmp 25), none, 0⟩])
        (.ret))
        (.seq (.region [⟨(some 27), .mov (.tmp 0), none, 0⟩,
          ⟨(some 28), .call Id.world_World_Cells [.tmp 27], none, 0⟩,
          ⟨(some 29), .mkif 41 (.tmp 28), none, 0⟩,
          ⟨(some 30), .lload none 5 0 (some 2), none, 0⟩,
          ⟨(some 31), .call Id.stack_Free [.tmp 29, .tmp 30], none, 0⟩,
          ⟨(some 32), .len false (.tmp 31), none, 0⟩,
          ⟨(some 33), .bin .eql (.tmp 32) (.const (.int .i64 0)), none, 0⟩,
          ⟨(some 26), .mov (.tmp 33), none, 0⟩])
        (.cond (.tmp 26)
          (.seq (.region [⟨(some 4), .mov (.const (.int .i64 11)), none, 0⟩])
          (.ret))
          (.seq (.region [⟨(some 35), .mov (.tmp 7), none, 0⟩,
            ⟨(some 36), .mov (.tmp 0), none, 0⟩,
            ⟨(some 37), .call Id.solo_Left [.tmp 36], none, 0⟩,
            ⟨(some 38), .bin .gtr (.tmp 35) (.tmp 37), none, 0⟩,
            ⟨(some 34), .mov (.tmp 38), none, 0⟩])
          (.cond (.tmp 34)
            (.seq (.region [⟨(some 4), .mov (.const (.int .i64 10)), none, 0⟩])
            (.ret))
            (.skip))))))))
      (.seq (.region [⟨(some 4), .mov (.const (.int .i64 0)), none, 0⟩])
      (.ret)))))) }

def F.sidingslaw22_live : IFunc :=
  { lb := [1], scr := false, nargs := 0, res := [.tmp 0],
    body := .seq (.region [⟨(some 0), .mov (.const (.bool false)), none, 0⟩])
      (.seq (.region [⟨(some 13), .build [.int .i64 0, .int .i64 0, .int .i64 0] [(0, 1, .const (.int .i64 64)), (1, 1, .const (.int .i64 2)), (2, 1, .const (.int .i64 1))], none, 0⟩,
        ⟨(some 1), .lbox (.const (.agg #[.int .i64 0, .int .i64 0, .int .i64 0])), none, 0⟩,
        ⟨(some 1), .lstore none 1 0 3 (.tmp 13), none, 0⟩])
      (.seq (.region [⟨(some 15), .call Id.handle_Make [.const (.int .i64 0), .const (.int .i64 0)], none, 0⟩,
        ⟨(some 14), .mov (.tmp 15), none, 0⟩,
        ⟨(some 16), .extract (.tmp 14) 0, none, 0⟩,
        ⟨(some 17), .extract (.tmp 14) 1, none, 0⟩,
        ⟨(some 2), .mov (.tmp 16), none, 0⟩,
        ⟨(some 3), .mov (.tmp 17), none, 0⟩])
      (.seq (.region [⟨(some 18), .lload none 1 0 (some 3), none, 0⟩,
        ⟨(some 19), .build [.int .i64 0, .int .i64 0, .int .i64 0, .int .i64 0] [(3, 1, .const (.int .i64 9))], none, 0⟩,
        ⟨(some 20), .build [.int .i64 0, .int .i64 0, .int .i64 0, .int .i64 0] [(3, 1, .const (.int .i64 8))], none, 0⟩,
        ⟨(some 21), .mov (.tmp 2), none, 0⟩,
        ⟨(some 22), .build [.int .i64 0, .int .i64 0, .int .i64 0, .int .i64 0] [(0, 1, .const (.int .i64 1)), (1, 1, .tmp 21)], none, 0⟩,
        ⟨(some 23), .buildSlice 4 3 [.int .i64 0, .int .i64 0, .int .i64 0, .int .i64 0, .int .i64 0, .int .i64 0, .int .i64 0, .int .i64 0, .int .i64 0, .int .i64 0, .int .i64 0, .int .i64 0] [(0, 4, .tmp 19), (4, 4, .tmp 20), (8, 4, .tmp 22)], none, 0⟩,
        ⟨(some 24), .buildSlice 1 1 [.slice none 0 0] [(0, 1, .tmp 23)], none, 0⟩,
        ⟨(some 25), .call Id.sidingslaw22_run [.tmp 18, .tmp 24, .const (.slice none 0 0)], none, 0⟩,
        ⟨(some 4), .mov (.tmp 25), none, 0⟩])
      (.seq (.seq (.region [⟨(some 26), .mov (.tmp 4), none, 0⟩,
        ⟨(some 27), .eqv false (.nil 0) (.tmp 26) (.const (.pointer none)), none, 0⟩])
      (.cond (.tmp 27)
        (.seq (.region [⟨(some 0), .mov (.const (.bool false)), none, 0⟩])
        (.ret))
        (.skip)))
      (.seq (.region [⟨(some 29), .mov (.tmp 4), none, 0⟩,
        ⟨(some 30), .call Id.solo_Turns [.tmp 29, .const (.int .i64 1000)], none, 0⟩,
        ⟨(some 28), .mov (.tmp 30), none, 0⟩,
        ⟨(some 31), .extract (.tmp 28) 0, none, 0⟩,
        ⟨(some 32), .extract (.tmp 28) 1, none, 0⟩,
        ⟨(some 5), .mov (.tmp 31), none, 0⟩,
        ⟨(some 6), .mov (.tmp 32), none, 0⟩])
      (.seq (.region [⟨(some 34), .lload none 1 0 (some 3), none, 0⟩,
        ⟨(some 35), .build [.int .i64 0, .int .i64 0, .int .i64 0, .int .i64 0] [(3, 1, .const (.int .i64 9))], none, 0⟩,
        ⟨(some 36), .buildSlice 4 1 [.int .i64 0, .int .i64 0, .int .i64 0, .int .i64 0] [(0, 4, .tmp 35)], none, 0⟩,
        ⟨(some 37), .buildSlice 1 1 [.slice none 0 0] [(0, 1, .tmp 36)], none, 0⟩,
        ⟨(some 38), .call Id.sidingslaw22_run [.tmp 34, .tmp 37, .const (.slice none 0 0)], none, 0⟩,
        ⟨(some 39), .call Id.solo_Turns [.tmp 38, .const (.int .i64 5)], none, 0⟩,
        ⟨(some 33), .mov (.tmp 39), none, 0⟩,
        ⟨(some 40), .extract (.tmp 33) 0, none, 0⟩,
        ⟨(some 41), .extract (.tmp 33) 1, none, 0⟩,
        ⟨(some 7), .mov (.tmp 40), none, 0⟩,
        ⟨(some 8), .mov (.tmp 41), none, 0⟩])
      (.seq (.region [⟨(some 43), .mov (.tmp 4), none, 0⟩,
        ⟨(some 44), .call Id.solo_Finish [.tmp 43], none, 0⟩,
        ⟨(some 42), .mov (.tmp 44), none, 0⟩,
        ⟨(some 45), .extract (.tmp 42) 0, none, 0⟩,
        ⟨(some 46), .extract (.tmp 42) 1, none, 0⟩,
        ⟨(some 9), .mov (.tmp 45), none, 0⟩,
        ⟨(some 10), .mov (.tmp 46), none, 0⟩])
      (.seq (.region [⟨(some 48), .mov (.tmp 4), none, 0⟩,
        ⟨(some 49), .call Id.world_World_Cells [.tmp 48], none, 0⟩,
        ⟨(some 50), .mkif 41 (.tmp 49), none, 0⟩,
        ⟨(some 51), .lload none 1 0 (some 3), none, 0⟩,
        ⟨(some 52), .call Id.audit_Objects [.tmp 50, .tmp 51], none, 0⟩,
        ⟨(some 47), .mov (.tmp 52), none, 0⟩,
        ⟨(some 53), .extract (.tmp 47) 0, none, 0⟩,
        ⟨(some 54), .extract (.tmp 47) 1, none, 0⟩,
        ⟨(some 11), .mov (.tmp 53), none, 0⟩,
        ⟨(some 12), .mov (.tmp 54), none, 0⟩])
      (.seq (.seq (.region [⟨(some 55), .mov (.tmp 11), none, 0⟩,
        ⟨(some 56), .len false (.tmp 55), none, 0⟩,
        ⟨(some 57), .bin .neq (.tmp 56) (.const (.int .i64 1)), none, 0⟩])
      (.cond (.tmp 57)
        (.seq (.region [⟨(some 0), .mov (.const (.bool false)), none, 0⟩])
        (.ret))
        (.skip)))
      (.seq (.region [⟨(some 58), .lload none 1 0 (some 3), none, 0⟩,
        ⟨(some 59), .call Id.solo_Bound [.tmp 58], none, 0⟩,
        ⟨(some 60), .bin .eql (.tmp 59) (.const (.int .i64 144)), none, 0⟩,
        ⟨(some 61), .mov (.tmp 60), none, 0⟩,
        ⟨(some 62), .mov (.tmp 6), (some (61, true)), 0⟩,
        ⟨(some 63), .pick (.tmp 61) (.tmp 62) (.const (.bool false)), none, 0⟩,
        ⟨(some 64), .mov (.tmp 63), none, 0⟩,
        ⟨(some 65), .mov (.tmp 5), (some (64, true)), 0⟩,
        ⟨(some 66), .bin .eql (.tmp 65) (.const (.int .i64 62)), (some (64, true)), 0⟩,
        ⟨(some 67), .pick (.tmp 64) (.tmp 66) (.const (.bool false)), none, 0⟩,
        ⟨(some 68), .mov (.tmp 67), none, 0⟩,
        ⟨(some 69), .mov (.tmp 8), (some (68, true)), 0⟩,
        ⟨(some 70), .un .not (.tmp 69), (some (68, true)), 0⟩,
        ⟨(some 71), .pick (.tmp 68) (.tmp 70) (.const (.bool false)), none, 0⟩,
        ⟨(some 72), .mov (.tmp 71), none, 0⟩,
        ⟨(some 73), .mov (.tmp 9), (some (72, true)), 0⟩,
        ⟨(some 74), .bin .gtr (.tmp 73) (.const (.int .i64 0)), (some (72, true)), 0⟩,
        ⟨(some 75), .pick (.tmp 72) (.tmp 74) (.const (.bool false)), none, 0⟩,
        ⟨(some 76), .mov (.tmp 75), none, 0⟩,
        ⟨(some 77), .mov (.tmp 9), (some (76, true)), 0⟩,
        ⟨(some 78), .lload none 1 0 (some 3), (some (76, true)), 0⟩,
        ⟨(some 79), .call Id.solo_Bound [.tmp 78], (some (76, true)), 0⟩,
        ⟨(some 80), .bin .mul (.const (.int .i64 2)) (.tmp 79), (some (76, true)), 0⟩,
        ⟨(some 81), .bin .leq (.tmp 77) (.tmp 80), (some (76, true)), 0⟩,
        ⟨(some 82), .pick (.tmp 76) (.tmp 81) (.const (.bool false)), none, 0⟩,
        ⟨(some 83), .mov (.tmp 82), none, 0⟩,
        ⟨(some 84), .mov (.tmp 10), (some (83, true)), 0⟩,
        ⟨(some 85), .bin .eql (.tmp 84) (.const (.int .i64 0)), (some (83, true)), 0⟩,
        ⟨(some 86), .pick (.tmp 83) (.tmp 85) (.const (.bool false)), none, 0⟩,
        ⟨(some 87), .mov (.tmp 86), none, 0⟩,
        ⟨(some 88), .mov (.tmp 12), (some (87, true)), 0⟩,
        ⟨(some 89), .bin .eql (.tmp 88) (.const (.int .i64 0)), (some (87, true)), 0⟩,
        ⟨(some 90), .pick (.tmp 87) (.tmp 89) (.const (.bool false)), none, 0⟩,
        ⟨(some 91), .mov (.tmp 90), none, 0⟩,
        ⟨(some 92), .mov (.tmp 11), (some (91, true)), 0⟩,
        ⟨(some 93), .iaddr none 4 (.tmp 92) (.const (.int .i64 0)), (some (91, true)), 0⟩,
        ⟨(some 94), .load (some 4) (.tmp 93), (some (91, true)), 0⟩,
        ⟨(some 95), .build [.int .i64 0, .int .i64 0, .int .i64 0, .bool false] [(0, 1, .const (.int .i64 1)), (1, 1, .const (.int .i64 0)), (2, 1, .const (.int .i64 8))], (some (91, true)), 0⟩,
        ⟨(some 96), .eqv false (.cells [(0, 0), (1, 0), (2, 0), (3, 1)]) (.tmp 94) (.tmp 95), (some (91, true)), 0⟩,
        ⟨(some 97), .pick (.tmp 91) (.tmp 96) (.const (.bool false)), none, 0⟩,
        ⟨(some 98), .mov (.tmp 97), none, 0⟩,
        ⟨(some 99), .mov (.tmp 4), (some (98, true)), 0⟩,
        ⟨(some 100), .call Id.solo_Left [.tmp 99], (some (98, true)), 0⟩,
        ⟨(some 101), .bin .eql (.tmp 100) (.const (.int .i64 56)), (some (98, true)), 0⟩,
        ⟨(some 102), .pick (.tmp 98) (.tmp 101) (.const (.bool false)), none, 0⟩,
        ⟨(some 103), .mov (.tmp 102), none, 0⟩,
        ⟨(some 104), .mov (.tmp 4), (some (103, true)), 0⟩,
        ⟨(some 105), .call Id.solo_Fits [.tmp 104, .const (.int .i64 56)], (some (103, true)), 0⟩,
        ⟨(some 106), .bin .eql (.tmp 105) (.const (.int .i64 0)), (some (103, true)), 0⟩,
        ⟨(some 107), .pick (.tmp 103) (.tmp 106) (.const (.bool false)), none, 0⟩,
        ⟨(some 108), .mov (.tmp 107), none, 0⟩,
        ⟨(some 109), .mov (.tmp 4), (some (108, true)), 0⟩,
        ⟨(some 110), .call Id.solo_Fits [.tmp 109, .const (.int .i64 57)], (some (108, true)), 0⟩,
        ⟨(some 111), .bin .eql (.tmp 110) (.const (.int .i64 10)), (some (108, true)), 0⟩,
        ⟨(some 112), .pick (.tmp 108) (.tmp 111) (.const (.bool false)), none, 0⟩,
        ⟨(some 113), .mov (.tmp 112), none, 0⟩,
        ⟨(some 114), .mov (.tmp 4), (some (113, true)), 0⟩,
        ⟨(some 115), .call Id.solo_Fits [.tmp 114, .const (.int .i64 0)], (some (113, true)), 0⟩,
        ⟨(some 116), .bin .eql (.tmp 115) (.const (.int .i64 9)), (some (113, true)), 0⟩,
        ⟨(some 117), .pick (.tmp 113) (.tmp 116) (.const (.bool false)), none, 0⟩,
        ⟨(some 118), .mov (.tmp 117), none, 0⟩,
        ⟨(some 119), .call Id.solo_Fits [.const (.pointer none), .const (.int .i64 1)], (some (118, true)), 0⟩,
        ⟨(some 120), .bin .eql (.tmp 119) (.const (.int .i64 1)), (some (118, true)), 0⟩,
        ⟨(some 121), .pick (.tmp 118) (.tmp 120) (.const (.bool false)), none, 0⟩,
        ⟨(some 0), .mov (.tmp 121), none, 0⟩])
      (.ret))))))))))) }

def F.world_World_Quiet : IFunc :=
  { lb := [], scr := false, nargs := 1, res := [.tmp 2],
    body := .seq (.region [⟨(some 2), .mov (.const (.bool false)), none, 0⟩])
      (.seq (.region [⟨(some 3), .mov (.tmp 0), none, 0⟩,
        ⟨(some 4), .eqv false (.nil 0) (.tmp 3) (.const (.pointer none)), none, 0⟩,
        ⟨(some 5), .mov (.tmp 4), none, 0⟩,
        ⟨(some 6), .mov (.tmp 0), (some (5, false)), 0⟩,
        ⟨(some 7), .nilchk (.tmp 6), (some (5, false)), 0⟩,
        ⟨(some 8), .faddr 4 (.tmp 7), (some (5, false)), 0⟩,
        ⟨(some 9), .load none (.tmp 8), (some (5, false)), 0⟩,
        ⟨(some 10), .call Id.slices_ContainsFunc_L_thread_Thread [.tmp 9, .func Id.thread_Thread_Busy], (some (5, false)), 0⟩,
        ⟨(some 11), .un .not (.tmp 10), (some (5, false)), 0⟩,
        ⟨(some 12), .pick (.tmp 5) (.const (.bool true)) (.tmp 11), none, 0⟩,
        ⟨(some 2), .mov (.tmp 12), none, 0⟩])
      (.ret)) }

def F.world_World_Counts : IFunc :=
  { lb := [], scr := false, nargs := 1, res := [.tmp 2, .tmp 3, .tmp 4],
    body := .seq (.region [⟨(some 2), .mov (.const (.int .i64 0)), none, 0⟩,
        ⟨(some 3), .mov (.const (.int .i64 0)), none, 0⟩,
        ⟨(some 4), .mov (.const (.int .i64 0)), none, 0⟩])
      (.seq (.seq (.region [⟨(some 5), .mov (.tmp 0), none, 0⟩,
        ⟨(some 6), .eqv false (.nil 0) (.tmp 5) (.const (.pointer none)), none, 0⟩])
      (.cond (.tmp 6)
        (.seq (.region [⟨(some 2), .mov (.const (.int .i64 0)), none, 0⟩,
          ⟨(some 3), .mov (.const (.int .i64 0)), none, 0⟩,
          ⟨(some 4), .mov (.const (.int .i64 0)), none, 0⟩])
        (.ret))
        (.skip)))
      (.seq (.region [⟨(some 7), .mov (.tmp 0), none, 0⟩,
        ⟨(some 8), .nilchk (.tmp 7), none, 0⟩,
        ⟨(some 9), .faddr 7 (.tmp 8), none, 0⟩,
        ⟨(some 10), .load none (.tmp 9), none, 0⟩,
        ⟨(some 11), .mov (.tmp 0), none, 0⟩,
        ⟨(some 12), .nilchk (.tmp 11), none, 0⟩,
        ⟨(some 13), .faddr 8 (.tmp 12), none, 0⟩,
        ⟨(some 14), .load none (.tmp 13), none, 0⟩,
        ⟨(some 15), .mov (.tmp 0), none, 0⟩,
        ⟨(some 16), .nilchk (.tmp 15), none, 0⟩,
        ⟨(some 17), .faddr 9 (.tmp 16), none, 0⟩,
        ⟨(some 18), .load none (.tmp 17), none, 0⟩,
        ⟨(some 2), .mov (.tmp 10), none, 0⟩,
        ⟨(some 3), .mov (.tmp 14), none, 0⟩,
        ⟨(some 4), .mov (.tmp 18), none, 0⟩])
      (.ret))) }

def F.world_World_Pick : IFunc :=
  { lb := [], scr := false, nargs := 2, res := [.tmp 4],
    body := .seq (.region [⟨(some 4), .mov (.const (.bool false)), none, 0⟩])
      (.seq (.block 0 (.seq (.region [⟨(some 6), .mov (.tmp 0), none, 0⟩,
        ⟨(some 7), .eqv false (.nil 0) (.tmp 6) (.const (.pointer none)), none, 0⟩,
        ⟨(some 8), .mov (.tmp 7), none, 0⟩,
        ⟨(some 9), .mov (.tmp 1), (some (8, false)), 0⟩,
        ⟨(some 10), .bin .lss (.tmp 9) (.const (.int .i64 0)), (some (8, false)), 0⟩,
        ⟨(some 11), .pick (.tmp 8) (.const (.bool true)) (.tmp 10), none, 0⟩,
        ⟨(some 12), .mov (.tmp 11), none, 0⟩,
        ⟨(some 13), .mov (.tmp 1), (some (12, false)), 0⟩,
        ⟨(some 14), .mov (.tmp 0), (some (12, false)), 0⟩,
        ⟨(some 15), .nilchk (.tmp 14), (some (12, false)), 0⟩,
        ⟨(some 16), .faddr 1 (.tmp 15), (some (12, false)), 0⟩,
        ⟨(some 17), .faddr 2 (.tmp 16), (some (12, false)), 0⟩,
        ⟨(some 18), .load none (.tmp 17), (some (12, false)), 0⟩,
        ⟨(some 19), .bin .gtr (.tmp 13) (.tmp 18), (some (12, false)), 0⟩,
        ⟨(some 20), .pick (.tmp 12) (.const (.bool true)) (.tmp 19), none, 0⟩,
        ⟨(some 5), .mov (.tmp 20), none, 0⟩])
      (.cond (.tmp 5)
        (.seq (.region [⟨(some 4), .mov (.const (.bool false)), none, 0⟩])
        (.ret))
        (.seq (.region [⟨(some 22), .mov (.tmp 1), none, 0⟩,
          ⟨(some 23), .mov (.tmp 0), none, 0⟩,
          ⟨(some 24), .nilchk (.tmp 23), none, 0⟩,
          ⟨(some 25), .faddr 1 (.tmp 24), none, 0⟩,
          ⟨(some 26), .faddr 2 (.tmp 25), none, 0⟩,
          ⟨(some 27), .load none (.tmp 26), none, 0⟩,
          ⟨(some 28), .bin .eql (.tmp 22) (.tmp 27), none, 0⟩,
          ⟨(some 21), .mov (.tmp 28), none, 0⟩])
        (.cond (.tmp 21)
          (.seq (.region [⟨(some 29), .mov (.tmp 0), none, 0⟩,
            ⟨(some 30), .call Id.world_World_step [.tmp 29], none, 0⟩])
          (.seq (.region [⟨(some 4), .mov (.const (.bool true)), none, 0⟩])
          (.ret)))
          (.seq (.region [⟨(some 32), .mov (.tmp 0), none, 0⟩,
            ⟨(some 33), .nilchk (.tmp 32), none, 0⟩,
            ⟨(some 34), .faddr 4 (.tmp 33), none, 0⟩,
            ⟨(some 35), .load none (.tmp 34), none, 0⟩,
            ⟨(some 36), .mov (.tmp 1), none, 0⟩,
            ⟨(some 37), .iaddr none 1 (.tmp 35) (.tmp 36), none, 0⟩,
            ⟨(some 38), .load none (.tmp 37), none, 0⟩,
            ⟨(some 39), .call Id.thread_Thread_Done [.tmp 38], none, 0⟩,
            ⟨(some 31), .mov (.tmp 39), none, 0⟩])
          (.cond (.tmp 31)
            (.seq (.region [⟨(some 4), .mov (.const (.bool false)), none, 0⟩])
            (.ret))
            (.skip))))))))
      (.seq (.region [⟨(some 45), .mov (.tmp 0), none, 0⟩,
        ⟨(some 46), .nilchk (.tmp 45), none, 0⟩,
        ⟨(some 47), .faddr 4 (.tmp 46), none, 0⟩,
        ⟨(some 48), .load none (.tmp 47), none, 0⟩,
        ⟨(some 49), .mov (.tmp 1), none, 0⟩,
        ⟨(some 50), .iaddr none 1 (.tmp 48) (.tmp 49), none, 0⟩,
        ⟨(some 51), .load none (.tmp 50), none, 0⟩,
        ⟨(some 52), .mov (.tmp 0), none, 0⟩,
        ⟨(some 53), .nilchk (.tmp 52), none, 0⟩,
        ⟨(some 54), .faddr 0 (.tmp 53), none, 0⟩,
        ⟨(some 55), .load none (.tmp 54), none, 0⟩,
        ⟨(some 56), .mkif 41 (.tmp 55), none, 0⟩,
        ⟨(some 57), .call Id.thread_Thread_Step [.tmp 51, .tmp 56], none, 0⟩,
        ⟨(some 41), .mov (.tmp 0), none, 0⟩,
        ⟨(some 42), .nilchk (.tmp 41), none, 0⟩,
        ⟨(some 43), .faddr 6 (.tmp 42), none, 0⟩,
        ⟨(some 44), .load none (.tmp 43), none, 1⟩,
        ⟨(some 58), .append 8 64 (.tmp 44) (.tmp 57), none, 0⟩,
        ⟨(some 40), .mov (.tmp 0), none, 0⟩,
        ⟨(some 59), .nilchk (.tmp 40), none, 0⟩,
        ⟨(some 60), .faddr 6 (.tmp 59), none, 0⟩,
        ⟨none, .store 1 (.tmp 60) (.tmp 58), none, 0⟩])
      (.seq (.region [⟨(some 4), .mov (.const (.bool true)), none, 0⟩])
      (.ret)))) }

def F.world_World_Config : IFunc :=
  { lb := [2], scr := false, nargs := 1, res := [.lb 2 (some 3)],
    body := .seq (.region [⟨(some 2), .lbox (.const (.agg #[.int .i64 0, .int .i64 0, .int .i64 0])), none, 0⟩])
      (.seq (.seq (.region [⟨(some 3), .mov (.tmp 0), none, 0⟩,
        ⟨(some 4), .eqv false (.nil 0) (.tmp 3) (.const (.pointer none)), none, 0⟩])
      (.cond (.tmp 4)
        (.seq (.region [⟨(some 5), .build [.int .i64 0, .int .i64 0, .int .i64 0] [], none, 0⟩,
          ⟨(some 2), .lstore none 2 0 3 (.tmp 5), none, 0⟩])
        (.ret))
        (.skip)))
      (.seq (.region [⟨(some 6), .mov (.tmp 0), none, 0⟩,
        ⟨(some 7), .nilchk (.tmp 6), none, 0⟩,
        ⟨(some 8), .faddr 1 (.tmp 7), none, 0⟩,
        ⟨(some 9), .load (some 3) (.tmp 8), none, 0⟩,
        ⟨(some 2), .lstore none 2 0 3 (.tmp 9), none, 0⟩])
      (.ret))) }

def F.world_World_Done : IFunc :=
  { lb := [], scr := false, nargs := 1, res := [.tmp 2],
    body := .seq (.region [⟨(some 2), .mov (.const (.bool false)), none, 0⟩])
      (.seq (.region [⟨(some 3), .mov (.func Id.world_World_Done_1), none, 0⟩])
      (.seq (.region [⟨(some 4), .mov (.tmp 0), none, 0⟩,
        ⟨(some 5), .eqv false (.nil 0) (.tmp 4) (.const (.pointer none)), none, 0⟩,
        ⟨(some 6), .mov (.tmp 5), none, 0⟩,
        ⟨(some 7), .mov (.tmp 0), (some (6, false)), 0⟩,
        ⟨(some 8), .nilchk (.tmp 7), (some (6, false)), 0⟩,
        ⟨(some 9), .faddr 4 (.tmp 8), (some (6, false)), 0⟩,
        ⟨(some 10), .load none (.tmp 9), (some (6, false)), 0⟩,
        ⟨(some 11), .mov (.tmp 3), (some (6, false)), 0⟩,
        ⟨(some 12), .call Id.slices_ContainsFunc_L_thread_Thread [.tmp 10, .tmp 11], (some (6, false)), 0⟩,
        ⟨(some 13), .un .not (.tmp 12), (some (6, false)), 0⟩,
        ⟨(some 14), .pick (.tmp 6) (.const (.bool true)) (.tmp 13), none, 0⟩,
        ⟨(some 2), .mov (.tmp 14), none, 0⟩])
      (.ret))) }

def F.layout_Of : IFunc :=
  { lb := [1, 2], scr := false, nargs := 1, res := [.lb 2 (some 2), .tmp 3],
    body := .seq (.region [⟨(some 1), .lbox (.tmp 0), none, 0⟩,
        ⟨(some 2), .lbox (.const (.agg #[.int .i64 0, .int .i64 0])), none, 0⟩,
        ⟨(some 3), .mov (.const (.int .i64 0)), none, 0⟩])
      (.seq (.seq (.region [⟨(some 4), .laddr none 1 0, none, 0⟩,
        ⟨(some 5), .lload (some 4) 1 0 none, none, 0⟩,
        ⟨(some 6), .call Id.layout_in [.tmp 5, .const (.int .i64 8), .const (.int .i64 4096)], none, 0⟩,
        ⟨(some 7), .un .not (.tmp 6), none, 0⟩,
        ⟨(some 8), .mov (.tmp 7), none, 0⟩,
        ⟨(some 9), .laddr none 1 0, (some (8, false)), 0⟩,
        ⟨(some 10), .lload (some 9) 1 0 none, (some (8, false)), 0⟩,
        ⟨(some 11), .bin .rem (.tmp 10) (.const (.int .i64 8)), (some (8, false)), 0⟩,
        ⟨(some 12), .bin .neq (.tmp 11) (.const (.int .i64 0)), (some (8, false)), 0⟩,
        ⟨(some 13), .pick (.tmp 8) (.const (.bool true)) (.tmp 12), none, 0⟩,
        ⟨(some 14), .mov (.tmp 13), none, 0⟩,
        ⟨(some 15), .laddr none 1 1, (some (14, false)), 0⟩,
        ⟨(some 16), .lload (some 15) 1 1 none, (some (14, false)), 0⟩,
        ⟨(some 17), .call Id.layout_in [.tmp 16, .const (.int .i64 1), .const (.int .i64 64)], (some (14, false)), 0⟩,
        ⟨(some 18), .un .not (.tmp 17), (some (14, false)), 0⟩,
        ⟨(some 19), .pick (.tmp 14) (.const (.bool true)) (.tmp 18), none, 0⟩,
        ⟨(some 20), .mov (.tmp 19), none, 0⟩,
        ⟨(some 21), .laddr none 1 2, (some (20, false)), 0⟩,
        ⟨(some 22), .lload (some 21) 1 2 none, (some (20, false)), 0⟩,
        ⟨(some 23), .call Id.layout_in [.tmp 22, .const (.int .i64 1), .const (.int .i64 4)], (some (20, false)), 0⟩,
        ⟨(some 24), .un .not (.tmp 23), (some (20, false)), 0⟩,
        ⟨(some 25), .pick (.tmp 20) (.const (.bool true)) (.tmp 24), none, 0⟩])
      (.cond (.tmp 25)
        (.seq (.region [⟨(some 26), .build [.int .i64 0, .int .i64 0] [], none, 0⟩,
          ⟨(some 2), .lstore none 2 0 2 (.tmp 26), none, 0⟩,
          ⟨(some 3), .mov (.const (.int .i64 1)), none, 0⟩])
        (.ret))
        (.skip)))
      (.seq (.region [⟨(some 27), .laddr none 1 2, none, 0⟩,
        ⟨(some 28), .lload (some 27) 1 2 none, none, 0⟩,
        ⟨(some 29), .laddr none 1 1, none, 0⟩,
        ⟨(some 30), .lload (some 29) 1 1 none, none, 0⟩,
        ⟨(some 31), .build [.int .i64 0, .int .i64 0] [(0, 1, .tmp 28), (1, 1, .tmp 30)], none, 0⟩,
        ⟨(some 2), .lstore none 2 0 2 (.tmp 31), none, 0⟩,
        ⟨(some 3), .mov (.const (.int .i64 0)), none, 0⟩])
      (.ret))) }

def F.world_World_Cells : IFunc :=
  { lb := [], scr := false, nargs := 1, res := [.tmp 2],
    body := .seq (.region [⟨(some 2), .mov (.const (.pointer none)), none, 0⟩])
      (.seq (.seq (.region [⟨(some 3), .mov (.tmp 0), none, 0⟩,
        ⟨(some 4), .eqv false (.nil 0) (.tmp 3) (.const (.pointer none)), none, 0⟩])
      (.cond (.tmp 4)
        (.seq (.region [⟨(some 2), .mov (.const (.pointer none)), none, 0⟩])
        (.ret))
        (.skip)))
      (.seq (.region [⟨(some 5), .mov (.tmp 0), none, 0⟩,
        ⟨(some 6), .nilchk (.tmp 5), none, 0⟩,
        ⟨(some 7), .faddr 0 (.tmp 6), none, 0⟩,
        ⟨(some 8), .load none (.tmp 7), none, 0⟩,
        ⟨(some 2), .mov (.tmp 8), none, 0⟩])
      (.ret))) }

def F.cells_Plain_Load : IFunc :=
  { lb := [], scr := false, nargs := 2, res := [.tmp 4],
    body := .seq (.region [⟨(some 4), .mov (.const (.int .i64 0)), none, 0⟩])
      (.seq (.seq (.region [⟨(some 5), .mov (.tmp 0), none, 0⟩,
        ⟨(some 6), .mov (.tmp 1), none, 0⟩,
        ⟨(some 7), .call Id.cells_Plain_word [.tmp 5, .tmp 6], none, 0⟩,
        ⟨(some 8), .un .not (.tmp 7), none, 0⟩])
      (.cond (.tmp 8)
        (.seq (.region [⟨(some 4), .mov (.const (.int .i64 0)), none, 0⟩])
        (.ret))
        (.skip)))
      (.seq (.region [⟨(some 9), .mov (.tmp 0), none, 0⟩,
        ⟨(some 10), .nilchk (.tmp 9), none, 0⟩,
        ⟨(some 11), .faddr 0 (.tmp 10), none, 0⟩,
        ⟨(some 12), .load none (.tmp 11), none, 0⟩,
        ⟨(some 13), .mov (.tmp 1), none, 0⟩,
        ⟨(some 14), .iaddr none 1 (.tmp 12) (.tmp 13), none, 0⟩,
        ⟨(some 15), .load none (.tmp 14), none, 0⟩,
        ⟨(some 4), .mov (.tmp 15), none, 0⟩])
      (.ret))) }

def F.layout_Layout_Frontier : IFunc :=
  { lb := [1], scr := false, nargs := 1, res := [.tmp 2],
    body := .seq (.region [⟨(some 1), .lbox (.tmp 0), none, 0⟩,
        ⟨(some 2), .mov (.const (.int .i64 0)), none, 0⟩])
      (.seq (.region [⟨(some 3), .lload none 1 0 (some 2), none, 0⟩,
        ⟨(some 4), .call Id.layout_Layout_once [.tmp 3, .const (.int .i64 0)], none, 0⟩,
        ⟨(some 2), .mov (.tmp 4), none, 0⟩])
      (.ret)) }

def F.handle_Round : IFunc :=
  { lb := [], scr := false, nargs := 1, res := [.tmp 2, .tmp 3],
    body := .seq (.region [⟨(some 2), .mov (.const (.int .i64 0)), none, 0⟩,
        ⟨(some 3), .mov (.const (.int .i64 0)), none, 0⟩])
      (.scope (.seq (.seq (.region [⟨(some 4), .mov (.tmp 0), none, 0⟩,
        ⟨(some 5), .bin .lss (.tmp 4) (.const (.int .i64 1)), none, 0⟩,
        ⟨(some 6), .mov (.tmp 5), none, 0⟩,
        ⟨(some 7), .mov (.tmp 0), (some (6, false)), 0⟩,
        ⟨(some 8), .bin .gtr (.tmp 7) (.const (.int .i64 256)), (some (6, false)), 0⟩,
        ⟨(some 9), .pick (.tmp 6) (.const (.bool true)) (.tmp 8), none, 0⟩])
      (.cond (.tmp 9)
        (.seq (.region [⟨(some 2), .mov (.const (.int .i64 0)), none, 0⟩,
          ⟨(some 3), .mov (.const (.int .i64 9)), none, 0⟩])
        (.ret))
        (.skip)))
      (.seq (.label 0)
      (.seq (.seq (.region [⟨(some 10), .mov (.tmp 0), none, 0⟩,
        ⟨(some 11), .bin .rem (.tmp 10) (.const (.int .i64 8)), none, 0⟩,
        ⟨(some 12), .bin .eql (.tmp 11) (.const (.int .i64 0)), none, 0⟩])
      (.cond (.tmp 12)
        (.seq (.region [⟨(some 13), .mov (.tmp 0), none, 0⟩,
          ⟨(some 2), .mov (.tmp 13), none, 0⟩,
          ⟨(some 3), .mov (.const (.int .i64 0)), none, 0⟩])
        (.ret))
        (.skip)))
      (.seq (.region [⟨(some 14), .mov (.tmp 0), none, 0⟩,
        ⟨(some 15), .bin .add (.tmp 14) (.const (.int .i64 1)), none, 0⟩,
        ⟨(some 0), .mov (.tmp 15), none, 0⟩])
      (.goto 0 [0])))))) }

def F.stack_Free : IFunc :=
  { lb := [3], scr := false, nargs := 2, res := [.tmp 4],
    body := .seq (.region [⟨(some 3), .lbox (.tmp 1), none, 0⟩,
        ⟨(some 4), .mov (.const (.slice none 0 0)), none, 0⟩])
      (.seq (.seq (.region [⟨(some 9), .mov (.tmp 0), none, 0⟩,
        ⟨(some 10), .eqv false (.nil 4) (.tmp 9) (.const (.nilIface)), none, 0⟩])
      (.cond (.tmp 10)
        (.seq (.region [⟨(some 4), .mov (.const (.slice none 0 0)), none, 0⟩])
        (.ret))
        (.skip)))
      (.seq (.region [⟨(some 5), .mov (.const (.slice none 0 0)), none, 0⟩])
      (.seq (.region [⟨(some 13), .lload none 3 0 (some 2), none, 0⟩,
        ⟨(some 14), .call Id.layout_Layout_Stack [.tmp 13], none, 0⟩,
        ⟨(some 12), .mov (.tmp 0), none, 0⟩,
        ⟨(some 15), .mkfn (.method "Load") [.tmp 12] [], none, 0⟩,
        ⟨(some 16), .nilchkm "Load" [(41, Id.cells_Plain_Load)] (.tmp 15), none, 0⟩,
        ⟨(some 17), .mov (.tmp 12), none, 0⟩,
        ⟨(some 18), .invoke [(41, Id.cells_Plain_Load)] (.tmp 17) [.tmp 14], none, 0⟩,
        ⟨(some 19), .call Id.head_Unpack [.tmp 18], none, 0⟩,
        ⟨(some 11), .mov (.tmp 19), none, 0⟩,
        ⟨(some 20), .extract (.tmp 11) 0, none, 0⟩,
        ⟨(some 21), .extract (.tmp 11) 1, none, 0⟩,
        ⟨(some 22), .extract (.tmp 11) 2, none, 0⟩,
        ⟨(some 6), .mov (.tmp 20), none, 0⟩,
        ⟨(some 7), .mov (.tmp 21), none, 0⟩,
        ⟨(some 8), .mov (.tmp 22), none, 0⟩])
      (.seq (.seq (.region [⟨(some 23), .lload none 3 0 (some 2), none, 0⟩,
        ⟨(some 24), .call Id.layout_Layout_Words [.tmp 23], none, 0⟩,
        ⟨(some 25), .mov (.const (.int .i64 0)), none, 0⟩])
      (.block 0 (.loop [0, 3, 5, 6, 24, 25]
        (.seq (.region [⟨(some 26), .bin .lss (.tmp 25) (.tmp 24), none, 0⟩])
        (.seq (.cond (.tmp 26)
          (.skip)
          (.exit 0))
        (.seq (.block 1 (.seq (.seq (.region [⟨(some 27), .lload none 3 0 (some 2), none, 0⟩,
          ⟨(some 28), .mov (.tmp 6), none, 0⟩,
          ⟨(some 29), .bin .sub (.tmp 28) (.const (.int .i64 1)), none, 0⟩,
          ⟨(some 30), .call Id.layout_Layout_Link [.tmp 27, .tmp 29], none, 0⟩,
          ⟨(some 31), .bin .lss (.tmp 30) (.const (.int .i64 0)), none, 0⟩,
          ⟨(some 32), .mov (.tmp 31), none, 0⟩,
          ⟨(some 33), .mov (.tmp 5), (some (32, false)), 0⟩,
          ⟨(some 34), .len false (.tmp 33), (some (32, false)), 0⟩,
          ⟨(some 35), .bin .eql (.tmp 34) (.const (.int .i64 64)), (some (32, false)), 0⟩,
          ⟨(some 36), .pick (.tmp 32) (.const (.bool true)) (.tmp 35), none, 0⟩,
          ⟨(some 37), .mov (.tmp 36), none, 0⟩,
          ⟨(some 38), .lload none 3 0 (some 2), (some (37, false)), 0⟩,
          ⟨(some 39), .mov (.tmp 5), (some (37, false)), 0⟩,
          ⟨(some 40), .len false (.tmp 39), (some (37, false)), 0⟩,
          ⟨(some 41), .call Id.layout_Layout_Entry [.tmp 38, .tmp 40], (some (37, false)), 0⟩,
          ⟨(some 42), .bin .lss (.tmp 41) (.const (.int .i64 0)), (some (37, false)), 0⟩,
          ⟨(some 43), .pick (.tmp 37) (.const (.bool true)) (.tmp 42), none, 0⟩])
        (.cond (.tmp 43)
          (.exit 0)
          (.skip)))
        (.seq (.region [⟨(some 44), .mov (.tmp 5), none, 0⟩,
          ⟨(some 45), .mov (.tmp 6), none, 0⟩,
          ⟨(some 46), .bin .sub (.tmp 45) (.const (.int .i64 1)), none, 0⟩,
          ⟨(some 47), .buildSlice 1 1 [.int .i64 0] [(0, 1, .tmp 46)], none, 0⟩,
          ⟨(some 48), .append 1 8 (.tmp 44) (.tmp 47), none, 0⟩,
          ⟨(some 5), .mov (.tmp 48), none, 0⟩])
        (.region [⟨(some 50), .lload none 3 0 (some 2), none, 0⟩,
          ⟨(some 51), .mov (.tmp 6), none, 0⟩,
          ⟨(some 52), .bin .sub (.tmp 51) (.const (.int .i64 1)), none, 0⟩,
          ⟨(some 53), .call Id.layout_Layout_Link [.tmp 50, .tmp 52], none, 0⟩,
          ⟨(some 49), .mov (.tmp 0), none, 0⟩,
          ⟨(some 54), .mkfn (.method "Load") [.tmp 49] [], none, 0⟩,
          ⟨(some 55), .nilchkm "Load" [(41, Id.cells_Plain_Load)] (.tmp 54), none, 0⟩,
          ⟨(some 56), .mov (.tmp 49), none, 0⟩,
          ⟨(some 57), .invoke [(41, Id.cells_Plain_Load)] (.tmp 56) [.tmp 53], none, 0⟩,
          ⟨(some 6), .mov (.tmp 57), none, 0⟩]))))
        (.region [⟨(some 58), .bin .add (.tmp 25) (.const (.int .i64 1)), none, 0⟩,
          ⟨(some 25), .mov (.tmp 58), none, 0⟩])))))))
      (.seq (.region [⟨(some 59), .mov (.tmp 5), none, 0⟩,
        ⟨(some 4), .mov (.tmp 59), none, 0⟩])
      (.ret)))))) }

def F.handle_Make : IFunc :=
  { lb := [], scr := false, nargs := 2, res := [.tmp 4, .tmp 5],
    body := .seq (.region [⟨(some 4), .mov (.const (.int .i64 0)), none, 0⟩,
        ⟨(some 5), .mov (.const (.int .i64 0)), none, 0⟩])
      (.seq (.seq (.region [⟨(some 6), .mov (.tmp 0), none, 0⟩,
        ⟨(some 7), .bin .lss (.tmp 6) (.const (.int .i64 0)), none, 0⟩,
        ⟨(some 8), .mov (.tmp 7), none, 0⟩,
        ⟨(some 9), .mov (.tmp 0), (some (8, false)), 0⟩,
        ⟨(some 10), .bin .geq (.tmp 9) (.const (.int .i64 64)), (some (8, false)), 0⟩,
        ⟨(some 11), .pick (.tmp 8) (.const (.bool true)) (.tmp 10), none, 0⟩,
        ⟨(some 12), .mov (.tmp 11), none, 0⟩,
        ⟨(some 13), .mov (.tmp 1), (some (12, false)), 0⟩,
        ⟨(some 14), .bin .lss (.tmp 13) (.const (.int .i64 0)), (some (12, false)), 0⟩,
        ⟨(some 15), .pick (.tmp 12) (.const (.bool true)) (.tmp 14), none, 0⟩,
        ⟨(some 16), .mov (.tmp 15), none, 0⟩,
        ⟨(some 17), .mov (.tmp 1), (some (16, false)), 0⟩,
        ⟨(some 18), .bin .gtr (.tmp 17) (.const (.int .i64 1000)), (some (16, false)), 0⟩,
        ⟨(some 19), .pick (.tmp 16) (.const (.bool true)) (.tmp 18), none, 0⟩])
      (.cond (.tmp 19)
        (.seq (.region [⟨(some 4), .mov (.const (.int .i64 0)), none, 0⟩,
          ⟨(some 5), .mov (.const (.int .i64 1)), none, 0⟩])
        (.ret))
        (.skip)))
      (.seq (.region [⟨(some 20), .mov (.tmp 1), none, 0⟩,
        ⟨(some 21), .bin .shl (.tmp 20) (.const (.int .u64 20)), none, 0⟩,
        ⟨(some 22), .bin .or (.const (.int .i64 1099511627776)) (.tmp 21), none, 0⟩,
        ⟨(some 23), .mov (.tmp 0), none, 0⟩,
        ⟨(some 24), .bin .or (.tmp 22) (.tmp 23), none, 0⟩,
        ⟨(some 4), .mov (.tmp 24), none, 0⟩,
        ⟨(some 5), .mov (.const (.int .i64 0)), none, 0⟩])
      (.ret))) }

def F.sidingslaw22_run : IFunc :=
  { lb := [3], scr := false, nargs := 3, res := [.tmp 6],
    body := .seq (.region [⟨(some 3), .lbox (.tmp 0), none, 0⟩,
        ⟨(some 6), .mov (.const (.pointer none)), none, 0⟩])
      (.seq (.region [⟨(some 11), .lload none 3 0 (some 3), none, 0⟩,
        ⟨(some 12), .mov (.tmp 1), none, 0⟩,
        ⟨(some 13), .call Id.world_New [.tmp 11, .tmp 12], none, 0⟩,
        ⟨(some 10), .mov (.tmp 13), none, 0⟩,
        ⟨(some 14), .extract (.tmp 10) 0, none, 0⟩,
        ⟨(some 15), .extract (.tmp 10) 1, none, 0⟩,
        ⟨(some 7), .mov (.tmp 14), none, 0⟩,
        ⟨(some 8), .mov (.tmp 15), none, 0⟩])
      (.seq (.seq (.region [⟨(some 16), .mov (.tmp 8), none, 0⟩,
        ⟨(some 17), .bin .neq (.tmp 16) (.const (.int .i64 0)), none, 0⟩])
      (.cond (.tmp 17)
        (.seq (.region [⟨(some 6), .mov (.const (.pointer none)), none, 0⟩])
        (.ret))
        (.skip)))
      (.seq (.seq (.region [⟨(some 9), .mov (.const (.int .i64 0)), none, 0⟩])
      (.block 0 (.loop [2, 7, 9]
        (.seq (.seq (.region [⟨(some 18), .mov (.tmp 9), none, 0⟩,
          ⟨(some 19), .mov (.tmp 2), none, 0⟩,
          ⟨(some 20), .len false (.tmp 19), none, 0⟩,
          ⟨(some 21), .bin .lss (.tmp 18) (.tmp 20), none, 0⟩])
        (.cond (.tmp 21)
          (.skip)
          (.exit 0)))
        (.seq (.block 1 (.region [⟨(some 24), .mov (.tmp 7), none, 0⟩,
          ⟨(some 25), .mov (.tmp 2), none, 0⟩,
          ⟨(some 26), .mov (.tmp 9), none, 0⟩,
          ⟨(some 27), .iaddr none 1 (.tmp 25) (.tmp 26), none, 0⟩,
          ⟨(some 28), .load none (.tmp 27), none, 0⟩,
          ⟨(some 29), .call Id.world_World_Pick [.tmp 24, .tmp 28], none, 0⟩]))
        (.region [⟨(some 22), .mov (.tmp 9), none, 0⟩,
          ⟨(some 23), .bin .add (.tmp 22) (.const (.int .i64 1)), none, 0⟩,
          ⟨(some 9), .mov (.tmp 23), none, 0⟩]))))))
      (.seq (.region [⟨(some 30), .mov (.tmp 7), none, 0⟩,
        ⟨(some 6), .mov (.tmp 30), none, 0⟩])
      (.ret))))) }

def F.audit_Objects : IFunc :=
  { lb := [3, 10], scr := false, nargs := 2, res := [.tmp 4, .tmp 5],
    body := .seq (.region [⟨(some 3), .lbox (.tmp 1), none, 0⟩,
        ⟨(some 4), .mov (.const (.slice none 0 0)), none, 0⟩,
        ⟨(some 5), .mov (.const (.int .i64 0)), none, 0⟩])
      (.seq (.region [⟨(some 12), .mov (.tmp 0), none, 0⟩,
        ⟨(some 13), .lload none 3 0 (some 3), none, 0⟩,
        ⟨(some 14), .call Id.audit_all [.tmp 12, .tmp 13], none, 0⟩,
        ⟨(some 11), .mov (.tmp 14), none, 0⟩,
        ⟨(some 15), .extract (.tmp 11) 0, none, 0⟩,
        ⟨(some 16), .extract (.tmp 11) 1, none, 0⟩,
        ⟨(some 6), .mov (.tmp 15), none, 0⟩,
        ⟨(some 7), .mov (.tmp 16), none, 0⟩])
      (.seq (.region [⟨(some 8), .mov (.const (.slice none 0 0)), none, 0⟩])
      (.seq (.seq (.region [⟨(some 17), .mov (.tmp 6), none, 0⟩,
        ⟨(some 18), .len false (.tmp 17), none, 0⟩,
        ⟨(some 19), .mov (.const (.int .i64 0)), none, 0⟩])
      (.block 0 (.loop [7, 8, 17, 18, 19]
        (.seq (.region [⟨(some 20), .bin .lss (.tmp 19) (.tmp 18), none, 0⟩])
        (.seq (.cond (.tmp 20)
          (.skip)
          (.exit 0))
        (.seq (.block 1 (.seq (.region [⟨(some 21), .iaddr none 10 (.tmp 17) (.tmp 19), none, 0⟩,
          ⟨(some 22), .load (some 10) (.tmp 21), none, 0⟩,
          ⟨(some 10), .lbox (.const (.agg #[.int .i64 0, .int .i64 0, .int .i64 0, .bool false, .int .i64 0, .int .i64 0, .int .i64 0, .int .i64 0, .bool false, .bool false])), none, 0⟩,
          ⟨(some 10), .lstore none 10 0 10 (.tmp 22), none, 0⟩])
        (.region [⟨(some 23), .mov (.tmp 8), none, 0⟩,
          ⟨(some 24), .laddr none 10 0, none, 0⟩,
          ⟨(some 25), .lload (some 24) 10 0 (some 4), none, 0⟩,
          ⟨(some 26), .buildSlice 4 1 [.int .i64 0, .int .i64 0, .int .i64 0, .bool false] [(0, 4, .tmp 25)], none, 0⟩,
          ⟨(some 27), .append 4 32 (.tmp 23) (.tmp 26), none, 0⟩,
          ⟨(some 8), .mov (.tmp 27), none, 0⟩])))
        (.region [⟨(some 28), .bin .add (.tmp 19) (.const (.int .i64 1)), none, 0⟩,
          ⟨(some 19), .mov (.tmp 28), none, 0⟩])))))))
      (.seq (.region [⟨(some 29), .mov (.tmp 8), none, 0⟩,
        ⟨(some 30), .mov (.tmp 7), none, 0⟩,
        ⟨(some 4), .mov (.tmp 29), none, 0⟩,
        ⟨(some 5), .mov (.tmp 30), none, 0⟩])
      (.ret))))) }

def F.solo_Bound : IFunc :=
  { lb := [1, 3], scr := false, nargs := 1, res := [.tmp 2],
    body := .seq (.region [⟨(some 1), .lbox (.tmp 0), none, 0⟩,
        ⟨(some 2), .mov (.const (.int .i64 0)), none, 0⟩])
      (.seq (.seq (.region [⟨(some 6), .lload none 1 0 (some 3), none, 0⟩,
        ⟨(some 7), .call Id.layout_Of [.tmp 6], none, 0⟩,
        ⟨(some 5), .mov (.tmp 7), none, 0⟩,
        ⟨(some 8), .extract (.tmp 5) 0, none, 0⟩,
        ⟨(some 9), .extract (.tmp 5) 1, none, 0⟩,
        ⟨(some 3), .lbox (.const (.agg #[.int .i64 0, .int .i64 0])), none, 0⟩,
        ⟨(some 3), .lstore none 3 0 2 (.tmp 8), none, 0⟩,
        ⟨(some 4), .mov (.tmp 9), none, 0⟩])
      (.seq (.region [⟨(some 10), .mov (.tmp 4), none, 0⟩,
        ⟨(some 11), .bin .neq (.tmp 10) (.const (.int .i64 0)), none, 0⟩])
      (.cond (.tmp 11)
        (.seq (.region [⟨(some 2), .mov (.const (.int .i64 0)), none, 0⟩])
        (.ret))
        (.skip))))
      (.seq (.region [⟨(some 12), .laddr none 1 0, none, 0⟩,
        ⟨(some 13), .lload (some 12) 1 0 none, none, 0⟩,
        ⟨(some 14), .bin .mul (.const (.int .i64 2)) (.tmp 13), none, 0⟩,
        ⟨(some 15), .bin .add (.const (.int .i64 5)) (.tmp 14), none, 0⟩,
        ⟨(some 16), .laddr none 1 1, none, 0⟩,
        ⟨(some 17), .lload (some 16) 1 1 none, none, 0⟩,
        ⟨(some 18), .bin .mul (.const (.int .i64 5)) (.tmp 17), none, 0⟩,
        ⟨(some 19), .bin .add (.tmp 15) (.tmp 18), none, 0⟩,
        ⟨(some 20), .laddr none 1 2, none, 0⟩,
        ⟨(some 21), .lload (some 20) 1 2 none, none, 0⟩,
        ⟨(some 22), .bin .add (.tmp 19) (.tmp 21), none, 0⟩,
        ⟨(some 2), .mov (.tmp 22), none, 0⟩])
      (.ret))) }

def F.slices_ContainsFunc_L_thread_Thread : IFunc :=
  { lb := [], scr := false, nargs := 2, res := [.tmp 4],
    body := .seq (.region [⟨(some 4), .mov (.const (.bool false)), none, 0⟩])
      (.seq (.region [⟨(some 5), .mov (.tmp 0), none, 0⟩,
        ⟨(some 6), .mov (.tmp 1), none, 0⟩,
        ⟨(some 7), .call Id.slices_IndexFunc_L_thread_Thread [.tmp 5, .tmp 6], none, 0⟩,
        ⟨(some 8), .bin .geq (.tmp 7) (.const (.int .i64 0)), none, 0⟩,
        ⟨(some 4), .mov (.tmp 8), none, 0⟩])
      (.ret)) }

def F.thread_Thread_Busy : IFunc :=
  { lb := [], scr := false, nargs := 1, res := [.tmp 2],
    body := .seq (.region [⟨(some 2), .mov (.const (.bool false)), none, 0⟩])
      (.seq (.region [⟨(some 3), .mov (.tmp 0), none, 0⟩,
        ⟨(some 4), .eqv true (.nil 0) (.tmp 3) (.const (.pointer none)), none, 0⟩,
        ⟨(some 5), .mov (.tmp 4), none, 0⟩,
        ⟨(some 6), .mov (.tmp 0), (some (5, true)), 0⟩,
        ⟨(some 7), .nilchk (.tmp 6), (some (5, true)), 0⟩,
        ⟨(some 8), .faddr 5 (.tmp 7), (some (5, true)), 0⟩,
        ⟨(some 9), .load none (.tmp 8), (some (5, true)), 0⟩,
        ⟨(some 10), .bin .neq (.tmp 9) (.const (.int .i64 0)), (some (5, true)), 0⟩,
        ⟨(some 11), .pick (.tmp 5) (.tmp 10) (.const (.bool false)), none, 0⟩,
        ⟨(some 2), .mov (.tmp 11), none, 0⟩])
      (.ret)) }

def F.world_World_step : IFunc :=
  { lb := [2], scr := false, nargs := 1, res := [],
    body := .seq (.region [⟨(some 5), .mov (.tmp 0), none, 0⟩,
        ⟨(some 6), .nilchk (.tmp 5), none, 0⟩,
        ⟨(some 7), .faddr 5 (.tmp 6), none, 0⟩,
        ⟨(some 8), .load none (.tmp 7), none, 0⟩,
        ⟨(some 9), .mov (.tmp 0), none, 0⟩,
        ⟨(some 10), .nilchk (.tmp 9), none, 0⟩,
        ⟨(some 11), .faddr 0 (.tmp 10), none, 0⟩,
        ⟨(some 12), .load none (.tmp 11), none, 0⟩,
        ⟨(some 13), .mkif 41 (.tmp 12), none, 0⟩,
        ⟨(some 14), .call Id.compact_Machine_Step [.tmp 8, .tmp 13], none, 0⟩,
        ⟨(some 4), .mov (.tmp 14), none, 0⟩,
        ⟨(some 15), .extract (.tmp 4) 0, none, 0⟩,
        ⟨(some 16), .extract (.tmp 4) 1, none, 0⟩,
        ⟨(some 2), .lbox (.const (.agg #[.int .i64 0, .int .i64 0])), none, 0⟩,
        ⟨(some 2), .lstore none 2 0 2 (.tmp 15), none, 0⟩,
        ⟨(some 3), .mov (.tmp 16), none, 0⟩])
      (.seq (.seq (.region [⟨(some 17), .mov (.tmp 3), none, 0⟩,
        ⟨(some 18), .un .not (.tmp 17), none, 0⟩])
      (.cond (.tmp 18)
        (.ret)
        (.skip)))
      (.seq (.region [⟨(some 19), .mov (.tmp 0), none, 0⟩,
        ⟨(some 20), .nilchk (.tmp 19), none, 0⟩,
        ⟨(some 21), .faddr 7 (.tmp 20), none, 0⟩,
        ⟨(some 22), .load none (.tmp 21), none, 0⟩,
        ⟨(some 23), .bin .add (.tmp 22) (.const (.int .i64 1)), none, 0⟩,
        ⟨(some 24), .nilchk (.tmp 19), none, 0⟩,
        ⟨(some 25), .faddr 7 (.tmp 24), none, 0⟩,
        ⟨none, .store 1 (.tmp 25) (.tmp 23), none, 0⟩])
      (.seq (.region [⟨(some 26), .mov (.tmp 0), none, 0⟩,
        ⟨(some 27), .nilchk (.tmp 26), none, 0⟩,
        ⟨(some 28), .faddr 8 (.tmp 27), none, 0⟩,
        ⟨(some 29), .load none (.tmp 28), none, 0⟩,
        ⟨(some 30), .laddr none 2 1, none, 0⟩,
        ⟨(some 31), .lload (some 30) 2 1 none, none, 0⟩,
        ⟨(some 32), .bin .add (.tmp 29) (.tmp 31), none, 0⟩,
        ⟨(some 33), .nilchk (.tmp 26), none, 0⟩,
        ⟨(some 34), .faddr 8 (.tmp 33), none, 0⟩,
        ⟨none, .store 1 (.tmp 34) (.tmp 32), none, 0⟩])
      (.seq (.seq (.region [⟨(some 35), .mov (.tmp 0), none, 0⟩,
        ⟨(some 36), .nilchk (.tmp 35), none, 0⟩,
        ⟨(some 37), .faddr 5 (.tmp 36), none, 0⟩,
        ⟨(some 38), .load none (.tmp 37), none, 0⟩,
        ⟨(some 39), .call Id.compact_Machine_Lowered [.tmp 38], none, 0⟩])
      (.cond (.tmp 39)
        (.region [⟨(some 40), .mov (.tmp 0), none, 0⟩,
          ⟨(some 41), .nilchk (.tmp 40), none, 0⟩,
          ⟨(some 42), .faddr 9 (.tmp 41), none, 0⟩,
          ⟨(some 43), .load none (.tmp 42), none, 0⟩,
          ⟨(some 44), .bin .add (.tmp 43) (.const (.int .i64 1)), none, 0⟩,
          ⟨(some 45), .nilchk (.tmp 40), none, 0⟩,
          ⟨(some 46), .faddr 9 (.tmp 45), none, 0⟩,
          ⟨none, .store 1 (.tmp 46) (.tmp 44), none, 0⟩])
        (.skip)))
      (.region [⟨(some 47), .mov (.tmp 0), none, 0⟩,
        ⟨(some 48), .mov (.tmp 0), none, 0⟩,
        ⟨(some 49), .nilchk (.tmp 48), none, 0⟩,
        ⟨(some 50), .faddr 1 (.tmp 49), none, 0⟩,
        ⟨(some 51), .load (some 3) (.tmp 50), none, 0⟩,
        ⟨(some 52), .call Id.compact_New [.tmp 51], none, 0⟩,
        ⟨(some 53), .nilchk (.tmp 47), none, 0⟩,
        ⟨(some 54), .faddr 5 (.tmp 53), none, 0⟩,
        ⟨none, .store 1 (.tmp 54) (.tmp 52), none, 0⟩]))))) }

def F.thread_Thread_Done : IFunc :=
  { lb := [], scr := false, nargs := 1, res := [.tmp 2],
    body := .seq (.region [⟨(some 2), .mov (.const (.bool false)), none, 0⟩])
      (.seq (.region [⟨(some 3), .mov (.tmp 0), none, 0⟩,
        ⟨(some 4), .eqv false (.nil 0) (.tmp 3) (.const (.pointer none)), none, 0⟩,
        ⟨(some 5), .mov (.tmp 4), none, 0⟩,
        ⟨(some 6), .mov (.tmp 0), (some (5, false)), 0⟩,
        ⟨(some 7), .nilchk (.tmp 6), (some (5, false)), 0⟩,
        ⟨(some 8), .faddr 4 (.tmp 7), (some (5, false)), 0⟩,
        ⟨(some 9), .load none (.tmp 8), (some (5, false)), 0⟩,
        ⟨(some 10), .len false (.tmp 9), (some (5, false)), 0⟩,
        ⟨(some 11), .bin .eql (.tmp 10) (.const (.int .i64 0)), (some (5, false)), 0⟩,
        ⟨(some 12), .pick (.tmp 5) (.const (.bool true)) (.tmp 11), none, 0⟩,
        ⟨(some 2), .mov (.tmp 12), none, 0⟩])
      (.ret)) }

def F.thread_Thread_Step : IFunc :=
  { lb := [5], scr := false, nargs := 2, res := [.tmp 4],
    body := .seq (.region [⟨(some 4), .mov (.const (.slice none 0 0)), none, 0⟩])
      (.seq (.seq (.region [⟨(some 7), .mov (.tmp 0), none, 0⟩,
        ⟨(some 8), .call Id.thread_Thread_Done [.tmp 7], none, 0⟩,
        ⟨(some 9), .mov (.tmp 8), none, 0⟩,
        ⟨(some 10), .mov (.tmp 1), (some (9, false)), 0⟩,
        ⟨(some 11), .eqv false (.nil 4) (.tmp 10) (.const (.nilIface)), (some (9, false)), 0⟩,
        ⟨(some 12), .pick (.tmp 9) (.const (.bool true)) (.tmp 11), none, 0⟩])
      (.cond (.tmp 12)
        (.seq (.region [⟨(some 4), .mov (.const (.slice none 0 0)), none, 0⟩])
        (.ret))
        (.skip)))
      (.seq (.seq (.region [⟨(some 13), .mov (.tmp 0), none, 0⟩,
        ⟨(some 14), .nilchk (.tmp 13), none, 0⟩,
        ⟨(some 15), .faddr 5 (.tmp 14), none, 0⟩,
        ⟨(some 16), .load none (.tmp 15), none, 0⟩])
      (.block 0 (.seq (.region [⟨(some 18), .bin .eql (.tmp 16) (.const (.int .i64 0)), none, 0⟩,
        ⟨(some 17), .mov (.tmp 18), none, 0⟩])
      (.cond (.tmp 17)
        (.seq (.region [⟨(some 20), .mov (.tmp 0), none, 0⟩,
          ⟨(some 21), .nilchk (.tmp 20), none, 0⟩,
          ⟨(some 22), .faddr 0 (.tmp 21), none, 0⟩,
          ⟨(some 23), .load (some 3) (.tmp 22), none, 0⟩,
          ⟨(some 24), .mov (.tmp 0), none, 0⟩,
          ⟨(some 25), .nilchk (.tmp 24), none, 0⟩,
          ⟨(some 26), .faddr 3 (.tmp 25), none, 0⟩,
          ⟨(some 27), .load none (.tmp 26), none, 0⟩,
          ⟨(some 28), .call Id.epoch_NewEnter [.tmp 23, .tmp 27], none, 0⟩,
          ⟨(some 19), .mov (.tmp 0), none, 0⟩,
          ⟨(some 29), .nilchk (.tmp 19), none, 0⟩,
          ⟨(some 30), .faddr 6 (.tmp 29), none, 0⟩,
          ⟨none, .store 1 (.tmp 30) (.tmp 28), none, 0⟩])
        (.seq (.region [⟨(some 31), .mov (.tmp 0), none, 0⟩,
          ⟨(some 32), .nilchk (.tmp 31), none, 0⟩,
          ⟨(some 33), .faddr 6 (.tmp 32), none, 0⟩,
          ⟨(some 34), .load none (.tmp 33), none, 0⟩,
          ⟨(some 35), .mov (.tmp 1), none, 0⟩,
          ⟨(some 36), .call Id.epoch_Enter_Step [.tmp 34, .tmp 35], none, 0⟩])
        (.seq (.region [⟨(some 37), .mov (.tmp 0), none, 0⟩,
          ⟨(some 38), .nilchk (.tmp 37), none, 0⟩,
          ⟨(some 39), .faddr 5 (.tmp 38), none, 0⟩,
          ⟨none, .store 1 (.tmp 39) (.const (.int .i64 1)), none, 0⟩])
        (.seq (.region [⟨(some 40), .mov (.tmp 0), none, 0⟩,
          ⟨(some 41), .nilchk (.tmp 40), none, 0⟩,
          ⟨(some 42), .faddr 3 (.tmp 41), none, 0⟩,
          ⟨(some 43), .load none (.tmp 42), none, 0⟩,
          ⟨(some 44), .mov (.tmp 0), none, 0⟩,
          ⟨(some 45), .nilchk (.tmp 44), none, 0⟩,
          ⟨(some 46), .faddr 4 (.tmp 45), none, 0⟩,
          ⟨(some 47), .load none (.tmp 46), none, 0⟩,
          ⟨(some 48), .iaddr none 4 (.tmp 47) (.const (.int .i64 0)), none, 0⟩,
          ⟨(some 49), .load (some 4) (.tmp 48), none, 0⟩,
          ⟨(some 50), .build [.int .i64 0, .bool false, .int .i64 0, .int .i64 0, .int .i64 0, .int .i64 0, .int .i64 0, .int .i64 0] [(0, 1, .tmp 43), (2, 4, .tmp 49)], none, 0⟩,
          ⟨(some 51), .buildSlice 8 1 [.int .i64 0, .bool false, .int .i64 0, .int .i64 0, .int .i64 0, .int .i64 0, .int .i64 0, .int .i64 0] [(0, 8, .tmp 50)], none, 0⟩,
          ⟨(some 4), .mov (.tmp 51), none, 0⟩])
        (.ret)))))
        (.seq (.region [⟨(some 53), .bin .eql (.tmp 16) (.const (.int .i64 1)), none, 0⟩,
          ⟨(some 52), .mov (.tmp 53), none, 0⟩])
        (.cond (.tmp 52)
          (.seq (.region [⟨(some 54), .mov (.tmp 0), none, 0⟩,
            ⟨(some 55), .nilchk (.tmp 54), none, 0⟩,
            ⟨(some 56), .faddr 6 (.tmp 55), none, 0⟩,
            ⟨(some 57), .load none (.tmp 56), none, 0⟩,
            ⟨(some 58), .mov (.tmp 1), none, 0⟩,
            ⟨(some 59), .call Id.epoch_Enter_Step [.tmp 57, .tmp 58], none, 0⟩])
          (.seq (.region [⟨(some 63), .mov (.tmp 0), none, 0⟩,
            ⟨(some 64), .nilchk (.tmp 63), none, 0⟩,
            ⟨(some 65), .faddr 0 (.tmp 64), none, 0⟩,
            ⟨(some 66), .load (some 3) (.tmp 65), none, 0⟩,
            ⟨(some 67), .mov (.tmp 0), none, 0⟩,
            ⟨(some 68), .nilchk (.tmp 67), none, 0⟩,
            ⟨(some 69), .faddr 4 (.tmp 68), none, 0⟩,
            ⟨(some 70), .load none (.tmp 69), none, 0⟩,
            ⟨(some 71), .iaddr none 4 (.tmp 70) (.const (.int .i64 0)), none, 0⟩,
            ⟨(some 72), .load (some 4) (.tmp 71), none, 0⟩,
            ⟨(some 73), .call Id.thread_of [.tmp 66, .tmp 72], none, 0⟩,
            ⟨(some 61), .mov (.tmp 0), none, 0⟩,
            ⟨(some 60), .mov (.tmp 73), none, 0⟩,
            ⟨(some 74), .extract (.tmp 60) 0, none, 0⟩,
            ⟨(some 76), .nilchk (.tmp 61), none, 0⟩,
            ⟨(some 77), .faddr 7 (.tmp 76), none, 0⟩,
            ⟨none, .store 1 (.tmp 77) (.tmp 74), none, 0⟩,
            ⟨(some 62), .mov (.tmp 0), none, 0⟩,
            ⟨(some 75), .extract (.tmp 60) 1, none, 0⟩,
            ⟨(some 78), .nilchk (.tmp 62), none, 0⟩,
            ⟨(some 79), .faddr 8 (.tmp 78), none, 0⟩,
            ⟨none, .store 1 (.tmp 79) (.tmp 75), none, 0⟩])
          (.region [⟨(some 80), .mov (.tmp 0), none, 0⟩,
            ⟨(some 81), .nilchk (.tmp 80), none, 0⟩,
            ⟨(some 82), .faddr 5 (.tmp 81), none, 0⟩,
            ⟨none, .store 1 (.tmp 82) (.const (.int .i64 2)), none, 0⟩])))
          (.seq (.region [⟨(some 84), .bin .eql (.tmp 16) (.const (.int .i64 2)), none, 0⟩,
            ⟨(some 83), .mov (.tmp 84), none, 0⟩])
          (.cond (.tmp 83)
            (.seq (.region [⟨(some 86), .mov (.tmp 0), none, 0⟩,
              ⟨(some 87), .nilchk (.tmp 86), none, 0⟩,
              ⟨(some 88), .faddr 7 (.tmp 87), none, 0⟩,
              ⟨(some 89), .load none (.tmp 88), none, 0⟩,
              ⟨(some 90), .mov (.tmp 1), none, 0⟩,
              ⟨(some 91), .invoke [(62, Id.thread_Thread_Step), (63, Id.compact_Machine_Step), (88, Id.epoch_Enter_Step), (91, Id.alloc_Machine_Step), (117, Id.epoch_Turn_Step), (127, Id.free_Machine_Step), (129, Id.read_Machine_Step), (131, Id.write_Machine_Step), (133, Id.pin_Machine_Step), (136, Id.thread_nothing_Step), (151, Id.stack_Pop_Step), (153, Id.stack_Push_Step)] (.tmp 89) [.tmp 90], none, 0⟩,
              ⟨(some 85), .mov (.tmp 91), none, 0⟩,
              ⟨(some 92), .extract (.tmp 85) 0, none, 0⟩,
              ⟨(some 93), .extract (.tmp 85) 1, none, 0⟩,
              ⟨(some 5), .lbox (.const (.agg #[.int .i64 0, .int .i64 0])), none, 0⟩,
              ⟨(some 5), .lstore none 5 0 2 (.tmp 92), none, 0⟩,
              ⟨(some 6), .mov (.tmp 93), none, 0⟩])
            (.seq (.region [⟨(some 94), .mov (.tmp 6), none, 0⟩])
            (.cond (.tmp 94)
              (.region [⟨(some 95), .mov (.tmp 0), none, 0⟩,
                ⟨(some 96), .mov (.tmp 0), none, 0⟩,
                ⟨(some 97), .lload none 5 0 (some 2), none, 0⟩,
                ⟨(some 98), .nilchk (.tmp 95), none, 0⟩,
                ⟨(some 99), .faddr 9 (.tmp 98), none, 0⟩,
                ⟨none, .store 2 (.tmp 99) (.tmp 97), none, 0⟩,
                ⟨(some 100), .nilchk (.tmp 96), none, 0⟩,
                ⟨(some 101), .faddr 5 (.tmp 100), none, 0⟩,
                ⟨none, .store 1 (.tmp 101) (.const (.int .i64 3)), none, 0⟩])
              (.skip))))
            (.seq (.region [⟨(some 103), .bin .eql (.tmp 16) (.const (.int .i64 3)), none, 0⟩,
              ⟨(some 102), .mov (.tmp 103), none, 0⟩])
            (.cond (.tmp 102)
              (.seq (.region [⟨(some 104), .mov (.tmp 1), none, 0⟩,
                ⟨(some 105), .mov (.tmp 0), none, 0⟩,
                ⟨(some 106), .nilchk (.tmp 105), none, 0⟩,
                ⟨(some 107), .faddr 0 (.tmp 106), none, 0⟩,
                ⟨(some 108), .load (some 3) (.tmp 107), none, 0⟩,
                ⟨(some 109), .mov (.tmp 0), none, 0⟩,
                ⟨(some 110), .nilchk (.tmp 109), none, 0⟩,
                ⟨(some 111), .faddr 3 (.tmp 110), none, 0⟩,
                ⟨(some 112), .load none (.tmp 111), none, 0⟩,
                ⟨(some 113), .call Id.epoch_Exit [.tmp 104, .tmp 108, .tmp 112], none, 0⟩])
              (.seq (.region [⟨(some 114), .mov (.tmp 0), none, 0⟩,
                ⟨(some 115), .mov (.tmp 0), none, 0⟩,
                ⟨(some 116), .mov (.tmp 0), none, 0⟩,
                ⟨(some 117), .nilchk (.tmp 116), none, 0⟩,
                ⟨(some 118), .faddr 4 (.tmp 117), none, 0⟩,
                ⟨(some 119), .load none (.tmp 118), none, 0⟩,
                ⟨(some 120), .slice 4 (.tmp 119) (some (.const (.int .i64 1))) none none, none, 0⟩,
                ⟨(some 121), .nilchk (.tmp 114), none, 0⟩,
                ⟨(some 122), .faddr 4 (.tmp 121), none, 0⟩,
                ⟨none, .store 1 (.tmp 122) (.tmp 120), none, 0⟩,
                ⟨(some 123), .nilchk (.tmp 115), none, 0⟩,
                ⟨(some 124), .faddr 5 (.tmp 123), none, 0⟩,
                ⟨none, .store 1 (.tmp 124) (.const (.int .i64 0)), none, 0⟩])
              (.seq (.region [⟨(some 125), .mov (.tmp 0), none, 0⟩,
                ⟨(some 126), .nilchk (.tmp 125), none, 0⟩,
                ⟨(some 127), .faddr 3 (.tmp 126), none, 0⟩,
                ⟨(some 128), .load none (.tmp 127), none, 0⟩,
                ⟨(some 129), .mov (.tmp 0), none, 0⟩,
                ⟨(some 130), .nilchk (.tmp 129), none, 0⟩,
                ⟨(some 131), .faddr 9 (.tmp 130), none, 0⟩,
                ⟨(some 132), .load (some 2) (.tmp 131), none, 0⟩,
                ⟨(some 133), .build [.int .i64 0, .bool false, .int .i64 0, .int .i64 0, .int .i64 0, .int .i64 0, .int .i64 0, .int .i64 0] [(0, 1, .tmp 128), (1, 1, .const (.bool true)), (6, 2, .tmp 132)], none, 0⟩,
                ⟨(some 134), .buildSlice 8 1 [.int .i64 0, .bool false, .int .i64 0, .int .i64 0, .int .i64 0, .int .i64 0, .int .i64 0, .int .i64 0] [(0, 8, .tmp 133)], none, 0⟩,
                ⟨(some 4), .mov (.tmp 134), none, 0⟩])
              (.ret))))
              (.skip)))))))))))
      (.seq (.region [⟨(some 4), .mov (.const (.slice none 0 0)), none, 0⟩])
      (.ret)))) }

def F.world_World_Done_1 : IFunc :=
  { lb := [], scr := false, nargs := 1, res := [.tmp 2],
    body := .seq (.region [⟨(some 2), .mov (.const (.bool false)), none, 0⟩])
      (.seq (.region [⟨(some 3), .mov (.tmp 0), none, 0⟩,
        ⟨(some 4), .call Id.thread_Thread_Done [.tmp 3], none, 0⟩,
        ⟨(some 5), .un .not (.tmp 4), none, 0⟩,
        ⟨(some 2), .mov (.tmp 5), none, 0⟩])
      (.ret)) }

def F.layout_in : IFunc :=
  { lb := [], scr := false, nargs := 3, res := [.tmp 6],
    body := .seq (.region [⟨(some 6), .mov (.const (.bool false)), none, 0⟩])
      (.seq (.region [⟨(some 7), .mov (.tmp 0), none, 0⟩,
        ⟨(some 8), .mov (.tmp 1), none, 0⟩,
        ⟨(some 9), .bin .geq (.tmp 7) (.tmp 8), none, 0⟩,
        ⟨(some 10), .mov (.tmp 9), none, 0⟩,
        ⟨(some 11), .mov (.tmp 0), (some (10, true)), 0⟩,
        ⟨(some 12), .mov (.tmp 2), (some (10, true)), 0⟩,
        ⟨(some 13), .bin .leq (.tmp 11) (.tmp 12), (some (10, true)), 0⟩,
        ⟨(some 14), .pick (.tmp 10) (.tmp 13) (.const (.bool false)), none, 0⟩,
        ⟨(some 6), .mov (.tmp 14), none, 0⟩])
      (.ret)) }

def F.cells_Plain_word : IFunc :=
  { lb := [], scr := false, nargs := 2, res := [.tmp 4],
    body := .seq (.region [⟨(some 4), .mov (.const (.bool false)), none, 0⟩])
      (.seq (.seq (.region [⟨(some 5), .mov (.tmp 0), none, 0⟩,
        ⟨(some 6), .eqv false (.nil 0) (.tmp 5) (.const (.pointer none)), none, 0⟩])
      (.cond (.tmp 6)
        (.seq (.region [⟨(some 4), .mov (.const (.bool false)), none, 0⟩])
        (.ret))
        (.skip)))
      (.seq (.region [⟨(some 7), .mov (.tmp 0), none, 0⟩,
        ⟨(some 8), .nilchk (.tmp 7), none, 0⟩,
        ⟨(some 9), .faddr 2 (.tmp 8), none, 0⟩,
        ⟨(some 10), .load none (.tmp 9), none, 0⟩,
        ⟨(some 11), .bin .add (.tmp 10) (.const (.int .i64 1)), none, 0⟩,
        ⟨(some 12), .nilchk (.tmp 7), none, 0⟩,
        ⟨(some 13), .faddr 2 (.tmp 12), none, 0⟩,
        ⟨none, .store 1 (.tmp 13) (.tmp 11), none, 0⟩])
      (.seq (.region [⟨(some 14), .mov (.tmp 1), none, 0⟩,
        ⟨(some 15), .bin .geq (.tmp 14) (.const (.int .i64 0)), none, 0⟩,
        ⟨(some 16), .mov (.tmp 15), none, 0⟩,
        ⟨(some 17), .mov (.tmp 1), (some (16, true)), 0⟩,
        ⟨(some 18), .mov (.tmp 0), (some (16, true)), 0⟩,
        ⟨(some 19), .nilchk (.tmp 18), (some (16, true)), 0⟩,
        ⟨(some 20), .faddr 0 (.tmp 19), (some (16, true)), 0⟩,
        ⟨(some 21), .load none (.tmp 20), (some (16, true)), 0⟩,
        ⟨(some 22), .len false (.tmp 21), (some (16, true)), 0⟩,
        ⟨(some 23), .bin .lss (.tmp 17) (.tmp 22), (some (16, true)), 0⟩,
        ⟨(some 24), .pick (.tmp 16) (.tmp 23) (.const (.bool false)), none, 0⟩,
        ⟨(some 4), .mov (.tmp 24), none, 0⟩])
      (.ret)))) }

def F.layout_Layout_once : IFunc :=
  { lb := [2], scr := false, nargs := 2, res := [.tmp 4],
    body := .seq (.region [⟨(some 2), .lbox (.tmp 0), none, 0⟩,
        ⟨(some 4), .mov (.const (.int .i64 0)), none, 0⟩])
      (.seq (.seq (.region [⟨(some 5), .lload none 2 0 (some 2), none, 0⟩,
        ⟨(some 6), .build [.int .i64 0, .int .i64 0] [], none, 0⟩,
        ⟨(some 7), .eqv false (.cells [(0, 0), (1, 0)]) (.tmp 5) (.tmp 6), none, 0⟩])
      (.cond (.tmp 7)
        (.seq (.region [⟨(some 4), .mov (.const (.int .i64 (-1))), none, 0⟩])
        (.ret))
        (.skip)))
      (.seq (.region [⟨(some 8), .mov (.tmp 1), none, 0⟩,
        ⟨(some 4), .mov (.tmp 8), none, 0⟩])
      (.ret))) }

def F.head_Unpack : IFunc :=
  { lb := [], scr := false, nargs := 1, res := [.tmp 2, .tmp 3, .tmp 4],
    body := .seq (.region [⟨(some 2), .mov (.const (.int .i64 0)), none, 0⟩,
        ⟨(some 3), .mov (.const (.int .i64 0)), none, 0⟩,
        ⟨(some 4), .mov (.const (.int .i64 0)), none, 0⟩])
      (.seq (.region [⟨(some 8), .mov (.tmp 0), none, 0⟩,
        ⟨(some 9), .call Id.head_read [.tmp 8], none, 0⟩,
        ⟨(some 7), .mov (.tmp 9), none, 0⟩,
        ⟨(some 10), .extract (.tmp 7) 0, none, 0⟩,
        ⟨(some 11), .extract (.tmp 7) 1, none, 0⟩,
        ⟨(some 5), .mov (.tmp 10), none, 0⟩,
        ⟨(some 6), .mov (.tmp 11), none, 0⟩])
      (.seq (.region [⟨(some 12), .mov (.tmp 5), none, 0⟩,
        ⟨(some 13), .call Id.head_front_top [.tmp 12], none, 0⟩,
        ⟨(some 14), .mov (.tmp 5), none, 0⟩,
        ⟨(some 15), .call Id.head_front_tag [.tmp 14], none, 0⟩,
        ⟨(some 16), .mov (.tmp 6), none, 0⟩,
        ⟨(some 2), .mov (.tmp 13), none, 0⟩,
        ⟨(some 3), .mov (.tmp 15), none, 0⟩,
        ⟨(some 4), .mov (.tmp 16), none, 0⟩])
      (.ret))) }

def F.layout_Layout_Stack : IFunc :=
  { lb := [1], scr := false, nargs := 1, res := [.tmp 2],
    body := .seq (.region [⟨(some 1), .lbox (.tmp 0), none, 0⟩,
        ⟨(some 2), .mov (.const (.int .i64 0)), none, 0⟩])
      (.seq (.region [⟨(some 3), .lload none 1 0 (some 2), none, 0⟩,
        ⟨(some 4), .call Id.layout_Layout_once [.tmp 3, .const (.int .i64 1)], none, 0⟩,
        ⟨(some 2), .mov (.tmp 4), none, 0⟩])
      (.ret)) }

def F.layout_Layout_Words : IFunc :=
  { lb := [1], scr := false, nargs := 1, res := [.tmp 2],
    body := .seq (.region [⟨(some 1), .lbox (.tmp 0), none, 0⟩,
        ⟨(some 2), .mov (.const (.int .i64 0)), none, 0⟩])
      (.seq (.seq (.region [⟨(some 3), .lload none 1 0 (some 2), none, 0⟩,
        ⟨(some 4), .build [.int .i64 0, .int .i64 0] [], none, 0⟩,
        ⟨(some 5), .eqv false (.cells [(0, 0), (1, 0)]) (.tmp 3) (.tmp 4), none, 0⟩])
      (.cond (.tmp 5)
        (.seq (.region [⟨(some 2), .mov (.const (.int .i64 0)), none, 0⟩])
        (.ret))
        (.skip)))
      (.seq (.region [⟨(some 6), .laddr none 1 0, none, 0⟩,
        ⟨(some 7), .lload (some 6) 1 0 none, none, 0⟩,
        ⟨(some 8), .bin .add (.const (.int .i64 4)) (.tmp 7), none, 0⟩,
        ⟨(some 9), .laddr none 1 1, none, 0⟩,
        ⟨(some 10), .lload (some 9) 1 1 none, none, 0⟩,
        ⟨(some 11), .bin .mul (.const (.int .i64 3)) (.tmp 10), none, 0⟩,
        ⟨(some 12), .bin .add (.tmp 8) (.tmp 11), none, 0⟩,
        ⟨(some 2), .mov (.tmp 12), none, 0⟩])
      (.ret))) }

def F.layout_Layout_Link : IFunc :=
  { lb := [2], scr := false, nargs := 2, res := [.tmp 4],
    body := .seq (.region [⟨(some 2), .lbox (.tmp 0), none, 0⟩,
        ⟨(some 4), .mov (.const (.int .i64 0)), none, 0⟩])
      (.seq (.region [⟨(some 5), .lload none 2 0 (some 2), none, 0⟩,
        ⟨(some 6), .mov (.tmp 1), none, 0⟩,
        ⟨(some 7), .call Id.layout_Layout_of [.tmp 5, .tmp 6, .const (.int .i64 2)], none, 0⟩,
        ⟨(some 4), .mov (.tmp 7), none, 0⟩])
      (.ret)) }

def F.layout_Layout_Entry : IFunc :=
  { lb := [2], scr := false, nargs := 2, res := [.tmp 4],
    body := .seq (.region [⟨(some 2), .lbox (.tmp 0), none, 0⟩,
        ⟨(some 4), .mov (.const (.int .i64 0)), none, 0⟩])
      (.seq (.region [⟨(some 5), .lload none 2 0 (some 2), none, 0⟩,
        ⟨(some 6), .mov (.tmp 1), none, 0⟩,
        ⟨(some 7), .call Id.layout_Layout_of [.tmp 5, .tmp 6, .const (.int .i64 0)], none, 0⟩,
        ⟨(some 4), .mov (.tmp 7), none, 0⟩])
      (.ret)) }

def F.world_New : IFunc :=
  { lb := [2, 6], scr := false, nargs := 2, res := [.tmp 4, .tmp 5],
    body := .seq (.region [⟨(some 2), .lbox (.tmp 0), none, 0⟩,
        ⟨(some 4), .mov (.const (.pointer none)), none, 0⟩,
        ⟨(some 5), .mov (.const (.int .i64 0)), none, 0⟩])
      (.seq (.region [⟨(some 12), .lload none 2 0 (some 3), none, 0⟩,
        ⟨(some 13), .call Id.layout_Of [.tmp 12], none, 0⟩,
        ⟨(some 11), .mov (.tmp 13), none, 0⟩,
        ⟨(some 14), .extract (.tmp 11) 0, none, 0⟩,
        ⟨(some 15), .extract (.tmp 11) 1, none, 0⟩,
        ⟨(some 6), .lbox (.const (.agg #[.int .i64 0, .int .i64 0])), none, 0⟩,
        ⟨(some 6), .lstore none 6 0 2 (.tmp 14), none, 0⟩,
        ⟨(some 7), .mov (.tmp 15), none, 0⟩])
      (.seq (.seq (.region [⟨(some 16), .mov (.tmp 7), none, 0⟩,
        ⟨(some 17), .bin .neq (.tmp 16) (.const (.int .i64 0)), none, 0⟩,
        ⟨(some 18), .mov (.tmp 17), none, 0⟩,
        ⟨(some 19), .mov (.tmp 1), (some (18, false)), 0⟩,
        ⟨(some 20), .len false (.tmp 19), (some (18, false)), 0⟩,
        ⟨(some 21), .laddr none 2 2, (some (18, false)), 0⟩,
        ⟨(some 22), .lload (some 21) 2 2 none, (some (18, false)), 0⟩,
        ⟨(some 23), .bin .gtr (.tmp 20) (.tmp 22), (some (18, false)), 0⟩,
        ⟨(some 24), .pick (.tmp 18) (.const (.bool true)) (.tmp 23), none, 0⟩])
      (.cond (.tmp 24)
        (.seq (.region [⟨(some 4), .mov (.const (.pointer none)), none, 0⟩,
          ⟨(some 5), .mov (.const (.int .i64 1)), none, 0⟩])
        (.ret))
        (.skip)))
      (.seq (.region [⟨(some 25), .lload none 6 0 (some 2), none, 0⟩,
        ⟨(some 26), .call Id.layout_Layout_Words [.tmp 25], none, 0⟩,
        ⟨(some 27), .laddr none 2 0, none, 0⟩,
        ⟨(some 28), .lload (some 27) 2 0 none, none, 0⟩,
        ⟨(some 29), .call Id.cells_New [.tmp 26, .tmp 28], none, 0⟩,
        ⟨(some 31), .lload none 2 0 (some 3), none, 0⟩,
        ⟨(some 32), .call Id.compact_New [.tmp 31], none, 0⟩,
        ⟨(some 30), .lload none 2 0 (some 3), none, 0⟩,
        ⟨(some 33), .build [.pointer none, .int .i64 0, .int .i64 0, .int .i64 0, .slice none 0 0, .pointer none, .slice none 0 0, .int .i64 0, .int .i64 0, .int .i64 0] [(0, 1, .tmp 29), (1, 3, .tmp 30), (5, 1, .tmp 32)], none, 0⟩,
        ⟨(some 34), .box (.tmp 33), none, 0⟩,
        ⟨(some 8), .mov (.tmp 34), none, 0⟩])
      (.seq (.region [⟨(some 35), .mov (.tmp 8), none, 0⟩,
        ⟨(some 36), .nilchk (.tmp 35), none, 0⟩,
        ⟨(some 37), .faddr 0 (.tmp 36), none, 0⟩,
        ⟨(some 38), .load none (.tmp 37), none, 0⟩,
        ⟨(some 39), .mkif 41 (.tmp 38), none, 0⟩,
        ⟨(some 40), .lload none 2 0 (some 3), none, 0⟩,
        ⟨(some 41), .call Id.layout_Start [.tmp 39, .tmp 40], none, 0⟩])
      (.seq (.seq (.region [⟨(some 42), .laddr none 2 2, none, 0⟩,
        ⟨(some 43), .lload (some 42) 2 2 none, none, 0⟩,
        ⟨(some 44), .mov (.const (.int .i64 0)), none, 0⟩])
      (.block 0 (.loop [1, 2, 8, 43, 44]
        (.seq (.region [⟨(some 45), .bin .lss (.tmp 44) (.tmp 43), none, 0⟩])
        (.seq (.cond (.tmp 45)
          (.skip)
          (.exit 0))
        (.seq (.block 1 (.seq (.region [⟨(some 46), .mov (.tmp 44), none, 0⟩,
          ⟨(some 9), .mov (.tmp 46), none, 0⟩])
        (.seq (.region [⟨(some 10), .mov (.const (.slice none 0 0)), none, 0⟩])
        (.seq (.seq (.region [⟨(some 47), .mov (.tmp 9), none, 0⟩,
          ⟨(some 48), .mov (.tmp 1), none, 0⟩,
          ⟨(some 49), .len false (.tmp 48), none, 0⟩,
          ⟨(some 50), .bin .lss (.tmp 47) (.tmp 49), none, 0⟩])
        (.cond (.tmp 50)
          (.region [⟨(some 51), .mov (.tmp 1), none, 0⟩,
            ⟨(some 52), .mov (.tmp 9), none, 0⟩,
            ⟨(some 53), .iaddr none 1 (.tmp 51) (.tmp 52), none, 0⟩,
            ⟨(some 54), .load none (.tmp 53), none, 0⟩,
            ⟨(some 10), .mov (.tmp 54), none, 0⟩])
          (.skip)))
        (.region [⟨(some 60), .lload none 2 0 (some 3), none, 0⟩,
          ⟨(some 61), .mov (.tmp 9), none, 0⟩,
          ⟨(some 62), .mov (.tmp 10), none, 0⟩,
          ⟨(some 63), .call Id.thread_New [.tmp 60, .tmp 61, .tmp 62], none, 0⟩,
          ⟨(some 56), .mov (.tmp 8), none, 0⟩,
          ⟨(some 57), .nilchk (.tmp 56), none, 0⟩,
          ⟨(some 58), .faddr 4 (.tmp 57), none, 0⟩,
          ⟨(some 59), .load none (.tmp 58), none, 1⟩,
          ⟨(some 64), .buildSlice 1 1 [.pointer none] [(0, 1, .tmp 63)], none, 0⟩,
          ⟨(some 65), .append 1 8 (.tmp 59) (.tmp 64), none, 0⟩,
          ⟨(some 55), .mov (.tmp 8), none, 0⟩,
          ⟨(some 66), .nilchk (.tmp 55), none, 0⟩,
          ⟨(some 67), .faddr 4 (.tmp 66), none, 0⟩,
          ⟨none, .store 1 (.tmp 67) (.tmp 65), none, 0⟩])))))
        (.region [⟨(some 68), .bin .add (.tmp 44) (.const (.int .i64 1)), none, 0⟩,
          ⟨(some 44), .mov (.tmp 68), none, 0⟩])))))))
      (.seq (.region [⟨(some 69), .mov (.tmp 8), none, 0⟩,
        ⟨(some 4), .mov (.tmp 69), none, 0⟩,
        ⟨(some 5), .mov (.const (.int .i64 0)), none, 0⟩])
      (.ret))))))) }

def F.audit_all : IFunc :=
  { lb := [3, 6, 10], scr := false, nargs := 2, res := [.tmp 4, .tmp 5],
    body := .seq (.region [⟨(some 3), .lbox (.tmp 1), none, 0⟩,
        ⟨(some 4), .mov (.const (.slice none 0 0)), none, 0⟩,
        ⟨(some 5), .mov (.const (.int .i64 0)), none, 0⟩])
      (.seq (.region [⟨(some 15), .lload none 3 0 (some 3), none, 0⟩,
        ⟨(some 16), .call Id.layout_Of [.tmp 15], none, 0⟩,
        ⟨(some 14), .mov (.tmp 16), none, 0⟩,
        ⟨(some 17), .extract (.tmp 14) 0, none, 0⟩,
        ⟨(some 18), .extract (.tmp 14) 1, none, 0⟩,
        ⟨(some 6), .lbox (.const (.agg #[.int .i64 0, .int .i64 0])), none, 0⟩,
        ⟨(some 6), .lstore none 6 0 2 (.tmp 17), none, 0⟩,
        ⟨(some 7), .mov (.tmp 18), none, 0⟩])
      (.seq (.seq (.region [⟨(some 19), .mov (.tmp 7), none, 0⟩,
        ⟨(some 20), .bin .neq (.tmp 19) (.const (.int .i64 0)), none, 0⟩,
        ⟨(some 21), .mov (.tmp 20), none, 0⟩,
        ⟨(some 22), .mov (.tmp 0), (some (21, false)), 0⟩,
        ⟨(some 23), .eqv false (.nil 4) (.tmp 22) (.const (.nilIface)), (some (21, false)), 0⟩,
        ⟨(some 24), .pick (.tmp 21) (.const (.bool true)) (.tmp 23), none, 0⟩,
        ⟨(some 25), .mov (.tmp 24), none, 0⟩,
        ⟨(some 26), .mov (.tmp 0), (some (25, false)), 0⟩,
        ⟨(some 27), .invoke [(38, Id.layout_Layout_Words), (41, Id.cells_Plain_Words)] (.tmp 26) [], (some (25, false)), 0⟩,
        ⟨(some 28), .lload none 6 0 (some 2), (some (25, false)), 0⟩,
        ⟨(some 29), .call Id.layout_Layout_Words [.tmp 28], (some (25, false)), 0⟩,
        ⟨(some 30), .bin .lss (.tmp 27) (.tmp 29), (some (25, false)), 0⟩,
        ⟨(some 31), .pick (.tmp 25) (.const (.bool true)) (.tmp 30), none, 0⟩])
      (.cond (.tmp 31)
        (.seq (.region [⟨(some 4), .mov (.const (.slice none 0 0)), none, 0⟩,
          ⟨(some 5), .mov (.const (.int .i64 1)), none, 0⟩])
        (.ret))
        (.skip)))
      (.seq (.region [⟨(some 8), .mov (.const (.slice none 0 0)), none, 0⟩])
      (.seq (.seq (.region [⟨(some 32), .laddr none 3 1, none, 0⟩,
        ⟨(some 33), .lload (some 32) 3 1 none, none, 0⟩,
        ⟨(some 34), .mov (.const (.int .i64 0)), none, 0⟩])
      (.block 0 (.loop [0, 6, 8, 33, 34]
        (.seq (.region [⟨(some 35), .bin .lss (.tmp 34) (.tmp 33), none, 0⟩])
        (.seq (.cond (.tmp 35)
          (.skip)
          (.exit 0))
        (.seq (.block 1 (.seq (.region [⟨(some 36), .mov (.tmp 34), none, 0⟩,
          ⟨(some 9), .mov (.tmp 36), none, 0⟩])
        (.seq (.region [⟨(some 39), .lload none 6 0 (some 2), none, 0⟩,
          ⟨(some 40), .mov (.tmp 9), none, 0⟩,
          ⟨(some 41), .call Id.layout_Layout_Entry [.tmp 39, .tmp 40], none, 0⟩,
          ⟨(some 38), .mov (.tmp 0), none, 0⟩,
          ⟨(some 42), .mkfn (.method "Load") [.tmp 38] [], none, 0⟩,
          ⟨(some 43), .nilchkm "Load" [(41, Id.cells_Plain_Load)] (.tmp 42), none, 0⟩,
          ⟨(some 44), .mov (.tmp 38), none, 0⟩,
          ⟨(some 45), .invoke [(41, Id.cells_Plain_Load)] (.tmp 44) [.tmp 41], none, 0⟩,
          ⟨(some 46), .call Id.entry_Unpack [.tmp 45], none, 0⟩,
          ⟨(some 37), .mov (.tmp 46), none, 0⟩,
          ⟨(some 47), .extract (.tmp 37) 0, none, 0⟩,
          ⟨(some 48), .extract (.tmp 37) 1, none, 0⟩,
          ⟨(some 10), .lbox (.const (.agg #[.int .i64 0, .int .i64 0, .int .i64 0, .int .i64 0, .bool false, .bool false])), none, 0⟩,
          ⟨(some 10), .lstore none 10 0 6 (.tmp 47), none, 0⟩,
          ⟨(some 11), .mov (.tmp 48), none, 0⟩])
        (.seq (.region [⟨(some 51), .lload none 6 0 (some 2), none, 0⟩,
          ⟨(some 52), .mov (.tmp 9), none, 0⟩,
          ⟨(some 53), .call Id.layout_Layout_Size [.tmp 51, .tmp 52], none, 0⟩,
          ⟨(some 50), .mov (.tmp 0), none, 0⟩,
          ⟨(some 54), .mkfn (.method "Load") [.tmp 50] [], none, 0⟩,
          ⟨(some 55), .nilchkm "Load" [(41, Id.cells_Plain_Load)] (.tmp 54), none, 0⟩,
          ⟨(some 56), .mov (.tmp 50), none, 0⟩,
          ⟨(some 57), .invoke [(41, Id.cells_Plain_Load)] (.tmp 56) [.tmp 53], none, 0⟩,
          ⟨(some 58), .call Id.handle_Round [.tmp 57], none, 0⟩,
          ⟨(some 49), .mov (.tmp 58), none, 0⟩,
          ⟨(some 59), .extract (.tmp 49) 0, none, 0⟩,
          ⟨(some 60), .extract (.tmp 49) 1, none, 0⟩,
          ⟨(some 12), .mov (.tmp 59), none, 0⟩,
          ⟨(some 13), .mov (.tmp 60), none, 0⟩])
        (.block 2 (.seq (.region [⟨(some 62), .mov (.tmp 11), none, 0⟩,
          ⟨(some 63), .bin .neq (.tmp 62) (.const (.int .i64 0)), none, 0⟩,
          ⟨(some 64), .mov (.tmp 63), none, 0⟩,
          ⟨(some 65), .laddr none 10 5, (some (64, false)), 0⟩,
          ⟨(some 66), .lload (some 65) 10 5 none, (some (64, false)), 0⟩,
          ⟨(some 67), .mov (.tmp 66), (some (64, false)), 0⟩,
          ⟨(some 68), .mov (.tmp 13), (some (67, true)), 0⟩,
          ⟨(some 69), .bin .neq (.tmp 68) (.const (.int .i64 0)), (some (67, true)), 0⟩,
          ⟨(some 70), .pick (.tmp 67) (.tmp 69) (.const (.bool false)), (some (64, false)), 0⟩,
          ⟨(some 71), .pick (.tmp 64) (.const (.bool true)) (.tmp 70), none, 0⟩,
          ⟨(some 61), .mov (.tmp 71), none, 0⟩])
        (.cond (.tmp 61)
          (.seq (.region [⟨(some 4), .mov (.const (.slice none 0 0)), none, 0⟩,
            ⟨(some 5), .mov (.const (.int .i64 2)), none, 0⟩])
          (.ret))
          (.seq (.region [⟨(some 73), .laddr none 10 5, none, 0⟩,
            ⟨(some 74), .lload (some 73) 10 5 none, none, 0⟩,
            ⟨(some 72), .mov (.tmp 74), none, 0⟩])
          (.cond (.tmp 72)
            (.region [⟨(some 75), .mov (.tmp 8), none, 0⟩,
              ⟨(some 76), .mov (.tmp 9), none, 0⟩,
              ⟨(some 77), .laddr none 10 0, none, 0⟩,
              ⟨(some 78), .lload (some 77) 10 0 none, none, 0⟩,
              ⟨(some 79), .mov (.tmp 12), none, 0⟩,
              ⟨(some 80), .laddr none 10 2, none, 0⟩,
              ⟨(some 81), .lload (some 80) 10 2 none, none, 0⟩,
              ⟨(some 82), .bin .gtr (.tmp 81) (.const (.int .i64 0)), none, 0⟩,
              ⟨(some 83), .build [.int .i64 0, .int .i64 0, .int .i64 0, .bool false] [(0, 1, .tmp 76), (1, 1, .tmp 78), (2, 1, .tmp 79), (3, 1, .tmp 82)], none, 0⟩,
              ⟨(some 84), .lload none 10 0 (some 6), none, 0⟩,
              ⟨(some 85), .build [.int .i64 0, .int .i64 0, .int .i64 0, .bool false, .int .i64 0, .int .i64 0, .int .i64 0, .int .i64 0, .bool false, .bool false] [(0, 4, .tmp 83), (4, 6, .tmp 84)], none, 0⟩,
              ⟨(some 86), .buildSlice 10 1 [.int .i64 0, .int .i64 0, .int .i64 0, .bool false, .int .i64 0, .int .i64 0, .int .i64 0, .int .i64 0, .bool false, .bool false] [(0, 10, .tmp 85)], none, 0⟩,
              ⟨(some 87), .append 10 72 (.tmp 75) (.tmp 86), none, 0⟩,
              ⟨(some 8), .mov (.tmp 87), none, 0⟩])
            (.skip))))))))))
        (.region [⟨(some 88), .bin .add (.tmp 34) (.const (.int .i64 1)), none, 0⟩,
          ⟨(some 34), .mov (.tmp 88), none, 0⟩])))))))
      (.seq (.region [⟨(some 89), .mov (.tmp 8), none, 0⟩,
        ⟨(some 4), .mov (.tmp 89), none, 0⟩,
        ⟨(some 5), .mov (.const (.int .i64 0)), none, 0⟩])
      (.ret)))))) }

def F.slices_IndexFunc_L_thread_Thread : IFunc :=
  { lb := [], scr := false, nargs := 2, res := [.tmp 4],
    body := .seq (.region [⟨(some 4), .mov (.const (.int .i64 0)), none, 0⟩])
      (.seq (.seq (.region [⟨(some 6), .mov (.tmp 0), none, 0⟩,
        ⟨(some 7), .len false (.tmp 6), none, 0⟩,
        ⟨(some 8), .mov (.const (.int .i64 0)), none, 0⟩])
      (.block 0 (.loop [0, 1, 7, 8]
        (.seq (.region [⟨(some 9), .bin .lss (.tmp 8) (.tmp 7), none, 0⟩])
        (.seq (.cond (.tmp 9)
          (.skip)
          (.exit 0))
        (.seq (.block 1 (.seq (.region [⟨(some 10), .mov (.tmp 8), none, 0⟩,
          ⟨(some 5), .mov (.tmp 10), none, 0⟩])
        (.seq (.region [⟨(some 11), .mov (.tmp 1), none, 0⟩,
          ⟨(some 12), .mov (.tmp 0), none, 0⟩,
          ⟨(some 13), .mov (.tmp 5), none, 0⟩,
          ⟨(some 14), .iaddr none 1 (.tmp 12) (.tmp 13), none, 0⟩,
          ⟨(some 15), .load none (.tmp 14), none, 0⟩,
          ⟨(some 16), .callv (.tmp 11) [.tmp 15], none, 0⟩])
        (.cond (.tmp 16)
          (.seq (.region [⟨(some 17), .mov (.tmp 5), none, 0⟩,
            ⟨(some 4), .mov (.tmp 17), none, 0⟩])
          (.ret))
          (.skip)))))
        (.region [⟨(some 18), .bin .add (.tmp 8) (.const (.int .i64 1)), none, 0⟩,
          ⟨(some 8), .mov (.tmp 18), none, 0⟩])))))))
      (.seq (.region [⟨(some 4), .mov (.const (.int .i64 (-1))), none, 0⟩])
      (.ret))) }

def F.compact_Machine_Step : IFunc :=
  { lb := [4], scr := false, nargs := 2, res := [.lb 4 (some 2), .tmp 5],
    body := .seq (.region [⟨(some 4), .lbox (.const (.agg #[.int .i64 0, .int .i64 0])), none, 0⟩,
        ⟨(some 5), .mov (.const (.bool false)), none, 0⟩])
      (.seq (.seq (.region [⟨(some 6), .mov (.tmp 0), none, 0⟩,
        ⟨(some 7), .eqv false (.nil 0) (.tmp 6) (.const (.pointer none)), none, 0⟩,
        ⟨(some 8), .mov (.tmp 7), none, 0⟩,
        ⟨(some 9), .mov (.tmp 1), (some (8, false)), 0⟩,
        ⟨(some 10), .eqv false (.nil 4) (.tmp 9) (.const (.nilIface)), (some (8, false)), 0⟩,
        ⟨(some 11), .pick (.tmp 8) (.const (.bool true)) (.tmp 10), none, 0⟩,
        ⟨(some 12), .mov (.tmp 11), none, 0⟩,
        ⟨(some 13), .mov (.tmp 0), (some (12, false)), 0⟩,
        ⟨(some 14), .nilchk (.tmp 13), (some (12, false)), 0⟩,
        ⟨(some 15), .faddr 5 (.tmp 14), (some (12, false)), 0⟩,
        ⟨(some 16), .load none (.tmp 15), (some (12, false)), 0⟩,
        ⟨(some 17), .bin .eql (.tmp 16) (.const (.int .i64 0)), (some (12, false)), 0⟩,
        ⟨(some 18), .pick (.tmp 12) (.const (.bool true)) (.tmp 17), none, 0⟩])
      (.cond (.tmp 18)
        (.seq (.region [⟨(some 19), .build [.int .i64 0, .int .i64 0] [(0, 1, .const (.int .i64 1))], none, 0⟩,
          ⟨(some 4), .lstore none 4 0 2 (.tmp 19), none, 0⟩,
          ⟨(some 5), .mov (.const (.bool true)), none, 0⟩])
        (.ret))
        (.skip)))
      (.seq (.seq (.region [⟨(some 20), .mov (.tmp 0), none, 0⟩,
        ⟨(some 21), .nilchk (.tmp 20), none, 0⟩,
        ⟨(some 22), .faddr 5 (.tmp 21), none, 0⟩,
        ⟨(some 23), .load none (.tmp 22), none, 0⟩])
      (.block 0 (.seq (.region [⟨(some 25), .bin .eql (.tmp 23) (.const (.int .i64 1)), none, 0⟩,
        ⟨(some 24), .mov (.tmp 25), none, 0⟩])
      (.cond (.tmp 24)
        (.seq (.region [⟨(some 28), .mov (.tmp 0), none, 0⟩,
          ⟨(some 29), .nilchk (.tmp 28), none, 0⟩,
          ⟨(some 30), .faddr 0 (.tmp 29), none, 0⟩,
          ⟨(some 31), .load (some 2) (.tmp 30), none, 0⟩,
          ⟨(some 32), .call Id.layout_Layout_Frontier [.tmp 31], none, 0⟩,
          ⟨(some 27), .mov (.tmp 1), none, 0⟩,
          ⟨(some 33), .mkfn (.method "Load") [.tmp 27] [], none, 0⟩,
          ⟨(some 34), .nilchkm "Load" [(41, Id.cells_Plain_Load)] (.tmp 33), none, 0⟩,
          ⟨(some 35), .mov (.tmp 27), none, 0⟩,
          ⟨(some 36), .invoke [(41, Id.cells_Plain_Load)] (.tmp 35) [.tmp 32], none, 0⟩,
          ⟨(some 26), .mov (.tmp 0), none, 0⟩,
          ⟨(some 37), .nilchk (.tmp 26), none, 0⟩,
          ⟨(some 38), .faddr 6 (.tmp 37), none, 0⟩,
          ⟨none, .store 1 (.tmp 38) (.tmp 36), none, 0⟩])
        (.seq (.region [⟨(some 39), .mov (.tmp 0), none, 0⟩,
          ⟨(some 40), .call Id.compact_Machine_on [.tmp 39, .const (.int .i64 2)], none, 0⟩,
          ⟨(some 41), .extract (.tmp 40) 0, none, 0⟩,
          ⟨(some 42), .extract (.tmp 40) 1, none, 0⟩,
          ⟨(some 4), .lstore none 4 0 2 (.tmp 41), none, 0⟩,
          ⟨(some 5), .mov (.tmp 42), none, 0⟩])
        (.ret)))
        (.seq (.region [⟨(some 44), .bin .eql (.tmp 23) (.const (.int .i64 2)), none, 0⟩,
          ⟨(some 43), .mov (.tmp 44), none, 0⟩])
        (.cond (.tmp 43)
          (.seq (.seq (.region [⟨(some 46), .mov (.tmp 0), none, 0⟩,
            ⟨(some 47), .nilchk (.tmp 46), none, 0⟩,
            ⟨(some 48), .faddr 0 (.tmp 47), none, 0⟩,
            ⟨(some 49), .load (some 2) (.tmp 48), none, 0⟩,
            ⟨(some 50), .call Id.layout_Layout_Pending [.tmp 49], none, 0⟩,
            ⟨(some 45), .mov (.tmp 1), none, 0⟩,
            ⟨(some 51), .mkfn (.method "Load") [.tmp 45] [], none, 0⟩,
            ⟨(some 52), .nilchkm "Load" [(41, Id.cells_Plain_Load)] (.tmp 51), none, 0⟩,
            ⟨(some 53), .mov (.tmp 45), none, 0⟩,
            ⟨(some 54), .invoke [(41, Id.cells_Plain_Load)] (.tmp 53) [.tmp 50], none, 0⟩,
            ⟨(some 55), .bin .neq (.tmp 54) (.const (.int .i64 0)), none, 0⟩])
          (.cond (.tmp 55)
            (.seq (.region [⟨(some 56), .mov (.tmp 0), none, 0⟩,
              ⟨(some 57), .call Id.compact_Machine_end [.tmp 56], none, 0⟩,
              ⟨(some 58), .extract (.tmp 57) 0, none, 0⟩,
              ⟨(some 59), .extract (.tmp 57) 1, none, 0⟩,
              ⟨(some 4), .lstore none 4 0 2 (.tmp 58), none, 0⟩,
              ⟨(some 5), .mov (.tmp 59), none, 0⟩])
            (.ret))
            (.skip)))
          (.seq (.region [⟨(some 60), .mov (.tmp 0), none, 0⟩,
            ⟨(some 61), .call Id.compact_Machine_on [.tmp 60, .const (.int .i64 3)], none, 0⟩,
            ⟨(some 62), .extract (.tmp 61) 0, none, 0⟩,
            ⟨(some 63), .extract (.tmp 61) 1, none, 0⟩,
            ⟨(some 4), .lstore none 4 0 2 (.tmp 62), none, 0⟩,
            ⟨(some 5), .mov (.tmp 63), none, 0⟩])
          (.ret)))
          (.seq (.region [⟨(some 65), .bin .eql (.tmp 23) (.const (.int .i64 3)), none, 0⟩,
            ⟨(some 64), .mov (.tmp 65), none, 0⟩])
          (.cond (.tmp 64)
            (.seq (.region [⟨(some 66), .mov (.tmp 0), none, 0⟩,
              ⟨(some 67), .mov (.tmp 1), none, 0⟩,
              ⟨(some 68), .call Id.compact_Machine_scan [.tmp 66, .tmp 67], none, 0⟩,
              ⟨(some 69), .extract (.tmp 68) 0, none, 0⟩,
              ⟨(some 70), .extract (.tmp 68) 1, none, 0⟩,
              ⟨(some 4), .lstore none 4 0 2 (.tmp 69), none, 0⟩,
              ⟨(some 5), .mov (.tmp 70), none, 0⟩])
            (.ret))
            (.seq (.region [⟨(some 72), .bin .eql (.tmp 23) (.const (.int .i64 4)), none, 0⟩,
              ⟨(some 71), .mov (.tmp 72), none, 0⟩])
            (.cond (.tmp 71)
              (.seq (.region [⟨(some 73), .mov (.tmp 0), none, 0⟩,
                ⟨(some 74), .mov (.tmp 1), none, 0⟩,
                ⟨(some 75), .call Id.compact_Machine_measure [.tmp 73, .tmp 74], none, 0⟩,
                ⟨(some 76), .extract (.tmp 75) 0, none, 0⟩,
                ⟨(some 77), .extract (.tmp 75) 1, none, 0⟩,
                ⟨(some 4), .lstore none 4 0 2 (.tmp 76), none, 0⟩,
                ⟨(some 5), .mov (.tmp 77), none, 0⟩])
              (.ret))
              (.seq (.region [⟨(some 79), .bin .eql (.tmp 23) (.const (.int .i64 5)), none, 0⟩,
                ⟨(some 78), .mov (.tmp 79), none, 0⟩])
              (.cond (.tmp 78)
                (.seq (.region [⟨(some 80), .mov (.tmp 0), none, 0⟩,
                  ⟨(some 81), .mov (.tmp 1), none, 0⟩,
                  ⟨(some 82), .call Id.compact_Machine_look [.tmp 80, .tmp 81], none, 0⟩,
                  ⟨(some 83), .extract (.tmp 82) 0, none, 0⟩,
                  ⟨(some 84), .extract (.tmp 82) 1, none, 0⟩,
                  ⟨(some 4), .lstore none 4 0 2 (.tmp 83), none, 0⟩,
                  ⟨(some 5), .mov (.tmp 84), none, 0⟩])
                (.ret))
                (.seq (.region [⟨(some 86), .bin .eql (.tmp 23) (.const (.int .i64 6)), none, 0⟩,
                  ⟨(some 85), .mov (.tmp 86), none, 0⟩])
                (.cond (.tmp 85)
                  (.seq (.region [⟨(some 87), .mov (.tmp 0), none, 0⟩,
                    ⟨(some 88), .mov (.tmp 1), none, 0⟩,
                    ⟨(some 89), .call Id.compact_Machine_lock [.tmp 87, .tmp 88], none, 0⟩,
                    ⟨(some 90), .extract (.tmp 89) 0, none, 0⟩,
                    ⟨(some 91), .extract (.tmp 89) 1, none, 0⟩,
                    ⟨(some 4), .lstore none 4 0 2 (.tmp 90), none, 0⟩,
                    ⟨(some 5), .mov (.tmp 91), none, 0⟩])
                  (.ret))
                  (.seq (.region [⟨(some 93), .bin .eql (.tmp 23) (.const (.int .i64 7)), none, 0⟩,
                    ⟨(some 92), .mov (.tmp 93), none, 0⟩])
                  (.cond (.tmp 92)
                    (.seq (.region [⟨(some 96), .mov (.tmp 0), none, 0⟩,
                      ⟨(some 97), .call Id.compact_Machine_object [.tmp 96], none, 0⟩,
                      ⟨(some 95), .mov (.tmp 1), none, 0⟩,
                      ⟨(some 98), .field 1 none (.tmp 97), none, 0⟩,
                      ⟨(some 99), .mov (.tmp 0), none, 0⟩,
                      ⟨(some 100), .nilchk (.tmp 99), none, 0⟩,
                      ⟨(some 101), .faddr 82 (.tmp 100), none, 0⟩,
                      ⟨(some 102), .load none (.tmp 101), none, 1⟩,
                      ⟨(some 103), .bin .add (.tmp 98) (.tmp 102), none, 0⟩,
                      ⟨(some 104), .mkfn (.method "Byte") [.tmp 95] [], none, 0⟩,
                      ⟨(some 105), .nilchkm "Byte" [(41, Id.cells_Plain_Byte)] (.tmp 104), none, 0⟩,
                      ⟨(some 106), .mov (.tmp 95), none, 0⟩,
                      ⟨(some 107), .invoke [(41, Id.cells_Plain_Byte)] (.tmp 106) [.tmp 103], none, 0⟩,
                      ⟨(some 94), .mov (.tmp 0), none, 0⟩,
                      ⟨(some 108), .nilchk (.tmp 94), none, 0⟩,
                      ⟨(some 109), .faddr 83 (.tmp 108), none, 0⟩,
                      ⟨none, .store 1 (.tmp 109) (.tmp 107), none, 0⟩])
                    (.seq (.region [⟨(some 110), .mov (.tmp 0), none, 0⟩,
                      ⟨(some 111), .call Id.compact_Machine_on [.tmp 110, .const (.int .i64 8)], none, 0⟩,
                      ⟨(some 112), .extract (.tmp 111) 0, none, 0⟩,
                      ⟨(some 113), .extract (.tmp 111) 1, none, 0⟩,
                      ⟨(some 4), .lstore none 4 0 2 (.tmp 112), none, 0⟩,
                      ⟨(some 5), .mov (.tmp 113), none, 0⟩])
                    (.ret)))
                    (.seq (.region [⟨(some 115), .bin .eql (.tmp 23) (.const (.int .i64 8)), none, 0⟩,
                      ⟨(some 114), .mov (.tmp 115), none, 0⟩])
                    (.cond (.tmp 114)
                      (.seq (.region [⟨(some 116), .mov (.tmp 0), none, 0⟩,
                        ⟨(some 117), .mov (.tmp 1), none, 0⟩,
                        ⟨(some 118), .call Id.compact_Machine_lay [.tmp 116, .tmp 117], none, 0⟩,
                        ⟨(some 119), .extract (.tmp 118) 0, none, 0⟩,
                        ⟨(some 120), .extract (.tmp 118) 1, none, 0⟩,
                        ⟨(some 4), .lstore none 4 0 2 (.tmp 119), none, 0⟩,
                        ⟨(some 5), .mov (.tmp 120), none, 0⟩])
                      (.ret))
                      (.seq (.region [⟨(some 122), .bin .eql (.tmp 23) (.const (.int .i64 9)), none, 0⟩,
                        ⟨(some 121), .mov (.tmp 122), none, 0⟩])
                      (.cond (.tmp 121)
                        (.seq (.region [⟨(some 123), .mov (.tmp 0), none, 0⟩,
                          ⟨(some 124), .mov (.tmp 1), none, 0⟩,
                          ⟨(some 125), .call Id.compact_Machine_store [.tmp 123, .tmp 124], none, 0⟩,
                          ⟨(some 126), .extract (.tmp 125) 0, none, 0⟩,
                          ⟨(some 127), .extract (.tmp 125) 1, none, 0⟩,
                          ⟨(some 4), .lstore none 4 0 2 (.tmp 126), none, 0⟩,
                          ⟨(some 5), .mov (.tmp 127), none, 0⟩])
                        (.ret))
                        (.seq (.region [⟨(some 129), .bin .eql (.tmp 23) (.const (.int .i64 10)), none, 0⟩,
                          ⟨(some 128), .mov (.tmp 129), none, 0⟩])
                        (.cond (.tmp 128)
                          (.seq (.region [⟨(some 130), .mov (.tmp 0), none, 0⟩,
                            ⟨(some 131), .mov (.tmp 1), none, 0⟩,
                            ⟨(some 132), .call Id.compact_Machine_turn [.tmp 130, .tmp 131], none, 0⟩,
                            ⟨(some 133), .extract (.tmp 132) 0, none, 0⟩,
                            ⟨(some 134), .extract (.tmp 132) 1, none, 0⟩,
                            ⟨(some 4), .lstore none 4 0 2 (.tmp 133), none, 0⟩,
                            ⟨(some 5), .mov (.tmp 134), none, 0⟩])
                          (.ret))
                          (.skip)))))))))))))))))))))))
      (.seq (.region [⟨(some 137), .mov (.tmp 0), none, 0⟩,
        ⟨(some 138), .nilchk (.tmp 137), none, 0⟩,
        ⟨(some 139), .faddr 0 (.tmp 138), none, 0⟩,
        ⟨(some 140), .load (some 2) (.tmp 139), none, 0⟩,
        ⟨(some 141), .call Id.layout_Layout_Frontier [.tmp 140], none, 0⟩,
        ⟨(some 136), .mov (.tmp 1), none, 0⟩,
        ⟨(some 142), .mov (.tmp 0), none, 0⟩,
        ⟨(some 143), .nilchk (.tmp 142), none, 0⟩,
        ⟨(some 144), .faddr 6 (.tmp 143), none, 0⟩,
        ⟨(some 145), .load none (.tmp 144), none, 1⟩,
        ⟨(some 146), .mov (.tmp 0), none, 0⟩,
        ⟨(some 147), .nilchk (.tmp 146), none, 0⟩,
        ⟨(some 148), .faddr 80 (.tmp 147), none, 0⟩,
        ⟨(some 149), .load none (.tmp 148), none, 1⟩,
        ⟨(some 150), .mkfn (.method "Cas") [.tmp 136] [], none, 0⟩,
        ⟨(some 151), .nilchkm "Cas" [(41, Id.cells_Plain_Cas)] (.tmp 150), none, 0⟩,
        ⟨(some 152), .mov (.tmp 136), none, 0⟩,
        ⟨(some 153), .invoke [(41, Id.cells_Plain_Cas)] (.tmp 152) [.tmp 141, .tmp 145, .tmp 149], none, 0⟩,
        ⟨(some 135), .mov (.tmp 0), none, 0⟩,
        ⟨(some 154), .nilchk (.tmp 135), none, 0⟩,
        ⟨(some 155), .faddr 86 (.tmp 154), none, 0⟩,
        ⟨none, .store 1 (.tmp 155) (.tmp 153), none, 0⟩])
      (.seq (.region [⟨(some 156), .mov (.tmp 0), none, 0⟩,
        ⟨(some 157), .call Id.compact_Machine_end [.tmp 156], none, 0⟩,
        ⟨(some 158), .extract (.tmp 157) 0, none, 0⟩,
        ⟨(some 159), .extract (.tmp 157) 1, none, 0⟩,
        ⟨(some 4), .lstore none 4 0 2 (.tmp 158), none, 0⟩,
        ⟨(some 5), .mov (.tmp 159), none, 0⟩])
      (.ret))))) }

def F.compact_Machine_Lowered : IFunc :=
  { lb := [], scr := false, nargs := 1, res := [.tmp 2],
    body := .seq (.region [⟨(some 2), .mov (.const (.bool false)), none, 0⟩])
      (.seq (.region [⟨(some 3), .mov (.tmp 0), none, 0⟩,
        ⟨(some 4), .eqv true (.nil 0) (.tmp 3) (.const (.pointer none)), none, 0⟩,
        ⟨(some 5), .mov (.tmp 4), none, 0⟩,
        ⟨(some 6), .mov (.tmp 0), (some (5, true)), 0⟩,
        ⟨(some 7), .nilchk (.tmp 6), (some (5, true)), 0⟩,
        ⟨(some 8), .faddr 86 (.tmp 7), (some (5, true)), 0⟩,
        ⟨(some 9), .load none (.tmp 8), (some (5, true)), 0⟩,
        ⟨(some 10), .pick (.tmp 5) (.tmp 9) (.const (.bool false)), none, 0⟩,
        ⟨(some 2), .mov (.tmp 10), none, 0⟩])
      (.ret)) }

def F.compact_New : IFunc :=
  { lb := [1, 3], scr := false, nargs := 1, res := [.tmp 2],
    body := .seq (.region [⟨(some 1), .lbox (.tmp 0), none, 0⟩,
        ⟨(some 2), .mov (.const (.pointer none)), none, 0⟩])
      (.seq (.region [⟨(some 7), .lload none 1 0 (some 3), none, 0⟩,
        ⟨(some 8), .call Id.layout_Of [.tmp 7], none, 0⟩,
        ⟨(some 6), .mov (.tmp 8), none, 0⟩,
        ⟨(some 9), .extract (.tmp 6) 0, none, 0⟩,
        ⟨(some 10), .extract (.tmp 6) 1, none, 0⟩,
        ⟨(some 3), .lbox (.const (.agg #[.int .i64 0, .int .i64 0])), none, 0⟩,
        ⟨(some 3), .lstore none 3 0 2 (.tmp 9), none, 0⟩,
        ⟨(some 4), .mov (.tmp 10), none, 0⟩])
      (.seq (.region [⟨(some 11), .lload none 3 0 (some 2), none, 0⟩,
        ⟨(some 12), .lload none 1 0 (some 3), none, 0⟩,
        ⟨(some 13), .build [.int .i64 0, .int .i64 0, .int .i64 0, .int .i64 0, .int .i64 0, .int .i64 0, .int .i64 0, .int .i64 0, .int .i64 0, .int .i64 0, .int .i64 0, .int .i64 0, .bool false, .bool false, .slice none 0 0, .int .i64 0, .int .i64 0, .int .i64 0, .int .i64 0, .int .i64 0, .int .i64 0, .int .i64 0, .int .i64 0, .int .i64 0, .int .i64 0, .int .i64 0, .int .i64 0, .int .i64 0, .int .i64 0, .int .i64 0, .int .i64 0, .int .i64 0, .int .i64 0, .int .i64 0, .int .i64 0, .int .i64 0, .int .i64 0, .int .i64 0, .int .i64 0, .int .i64 0, .int .i64 0, .int .i64 0, .int .i64 0, .int .i64 0, .int .i64 0, .int .i64 0, .int .i64 0, .int .i64 0, .int .i64 0, .int .i64 0, .int .i64 0, .int .i64 0, .int .i64 0, .int .i64 0, .int .i64 0, .int .i64 0, .int .i64 0, .int .i64 0, .int .i64 0, .int .i64 0, .int .i64 0, .int .i64 0, .int .i64 0, .int .i64 0, .int .i64 0, .int .i64 0, .int .i64 0, .int .i64 0, .int .i64 0, .int .i64 0, .int .i64 0, .int .i64 0, .int .i64 0, .int .i64 0, .int .i64 0, .int .i64 0, .int .i64 0, .int .i64 0, .int .i64 0, .int .i64 0, .int .i64 0, .int .i64 0, .int .i64 0, .int .i64 0, .int .i64 0, .pointer none, .bool false] [(0, 2, .tmp 11), (2, 3, .tmp 12), (5, 1, .const (.int .i64 1))], none, 0⟩,
        ⟨(some 14), .box (.tmp 13), none, 0⟩,
        ⟨(some 5), .mov (.tmp 14), none, 0⟩])
      (.seq (.seq (.region [⟨(some 15), .mov (.tmp 4), none, 0⟩,
        ⟨(some 16), .bin .neq (.tmp 15) (.const (.int .i64 0)), none, 0⟩])
      (.cond (.tmp 16)
        (.region [⟨(some 17), .mov (.tmp 5), none, 0⟩,
          ⟨(some 18), .nilchk (.tmp 17), none, 0⟩,
          ⟨(some 19), .faddr 5 (.tmp 18), none, 0⟩,
          ⟨none, .store 1 (.tmp 19) (.const (.int .i64 0)), none, 0⟩])
        (.skip)))
      (.seq (.region [⟨(some 20), .mov (.tmp 5), none, 0⟩,
        ⟨(some 2), .mov (.tmp 20), none, 0⟩])
      (.ret))))) }

def F.epoch_NewEnter : IFunc :=
  { lb := [2, 5], scr := false, nargs := 2, res := [.tmp 4],
    body := .seq (.region [⟨(some 2), .lbox (.tmp 0), none, 0⟩,
        ⟨(some 4), .mov (.const (.pointer none)), none, 0⟩])
      (.seq (.region [⟨(some 9), .lload none 2 0 (some 3), none, 0⟩,
        ⟨(some 10), .call Id.layout_Of [.tmp 9], none, 0⟩,
        ⟨(some 8), .mov (.tmp 10), none, 0⟩,
        ⟨(some 11), .extract (.tmp 8) 0, none, 0⟩,
        ⟨(some 12), .extract (.tmp 8) 1, none, 0⟩,
        ⟨(some 5), .lbox (.const (.agg #[.int .i64 0, .int .i64 0])), none, 0⟩,
        ⟨(some 5), .lstore none 5 0 2 (.tmp 11), none, 0⟩,
        ⟨(some 6), .mov (.tmp 12), none, 0⟩])
      (.seq (.region [⟨(some 14), .lload none 5 0 (some 2), none, 0⟩,
        ⟨(some 15), .mov (.tmp 1), none, 0⟩,
        ⟨(some 16), .call Id.layout_Layout_Note [.tmp 14, .tmp 15], none, 0⟩,
        ⟨(some 13), .lload none 5 0 (some 2), none, 0⟩,
        ⟨(some 17), .build [.int .i64 0, .int .i64 0, .int .i64 0, .int .i64 0, .int .i64 0] [(0, 2, .tmp 13), (2, 1, .tmp 16), (3, 1, .const (.int .i64 1))], none, 0⟩,
        ⟨(some 18), .box (.tmp 17), none, 0⟩,
        ⟨(some 7), .mov (.tmp 18), none, 0⟩])
      (.seq (.seq (.region [⟨(some 19), .mov (.tmp 7), none, 0⟩,
        ⟨(some 20), .nilchk (.tmp 19), none, 0⟩,
        ⟨(some 21), .faddr 2 (.tmp 20), none, 0⟩,
        ⟨(some 22), .load none (.tmp 21), none, 0⟩,
        ⟨(some 23), .bin .lss (.tmp 22) (.const (.int .i64 0)), none, 0⟩])
      (.cond (.tmp 23)
        (.region [⟨(some 24), .mov (.tmp 7), none, 0⟩,
          ⟨(some 25), .nilchk (.tmp 24), none, 0⟩,
          ⟨(some 26), .faddr 3 (.tmp 25), none, 0⟩,
          ⟨none, .store 1 (.tmp 26) (.const (.int .i64 0)), none, 0⟩])
        (.skip)))
      (.seq (.region [⟨(some 27), .mov (.tmp 7), none, 0⟩,
        ⟨(some 4), .mov (.tmp 27), none, 0⟩])
      (.ret))))) }

def F.epoch_Enter_Step : IFunc :=
  { lb := [], scr := false, nargs := 2, res := [.tmp 4],
    body := .seq (.region [⟨(some 4), .mov (.const (.bool false)), none, 0⟩])
      (.seq (.seq (.region [⟨(some 5), .mov (.tmp 0), none, 0⟩,
        ⟨(some 6), .eqv false (.nil 0) (.tmp 5) (.const (.pointer none)), none, 0⟩,
        ⟨(some 7), .mov (.tmp 6), none, 0⟩,
        ⟨(some 8), .mov (.tmp 1), (some (7, false)), 0⟩,
        ⟨(some 9), .eqv false (.nil 4) (.tmp 8) (.const (.nilIface)), (some (7, false)), 0⟩,
        ⟨(some 10), .pick (.tmp 7) (.const (.bool true)) (.tmp 9), none, 0⟩,
        ⟨(some 11), .mov (.tmp 10), none, 0⟩,
        ⟨(some 12), .mov (.tmp 0), (some (11, false)), 0⟩,
        ⟨(some 13), .nilchk (.tmp 12), (some (11, false)), 0⟩,
        ⟨(some 14), .faddr 3 (.tmp 13), (some (11, false)), 0⟩,
        ⟨(some 15), .load none (.tmp 14), (some (11, false)), 0⟩,
        ⟨(some 16), .bin .eql (.tmp 15) (.const (.int .i64 0)), (some (11, false)), 0⟩,
        ⟨(some 17), .pick (.tmp 11) (.const (.bool true)) (.tmp 16), none, 0⟩])
      (.cond (.tmp 17)
        (.seq (.region [⟨(some 4), .mov (.const (.bool true)), none, 0⟩])
        (.ret))
        (.skip)))
      (.seq (.seq (.region [⟨(some 18), .mov (.tmp 0), none, 0⟩,
        ⟨(some 19), .nilchk (.tmp 18), none, 0⟩,
        ⟨(some 20), .faddr 3 (.tmp 19), none, 0⟩,
        ⟨(some 21), .load none (.tmp 20), none, 0⟩,
        ⟨(some 22), .bin .eql (.tmp 21) (.const (.int .i64 1)), none, 0⟩])
      (.cond (.tmp 22)
        (.seq (.region [⟨(some 26), .mov (.tmp 0), none, 0⟩,
          ⟨(some 27), .nilchk (.tmp 26), none, 0⟩,
          ⟨(some 28), .faddr 0 (.tmp 27), none, 0⟩,
          ⟨(some 29), .load (some 2) (.tmp 28), none, 0⟩,
          ⟨(some 30), .call Id.layout_Layout_Epoch [.tmp 29], none, 0⟩,
          ⟨(some 25), .mov (.tmp 1), none, 0⟩,
          ⟨(some 31), .mkfn (.method "Load") [.tmp 25] [], none, 0⟩,
          ⟨(some 32), .nilchkm "Load" [(41, Id.cells_Plain_Load)] (.tmp 31), none, 0⟩,
          ⟨(some 33), .mov (.tmp 25), none, 0⟩,
          ⟨(some 34), .invoke [(41, Id.cells_Plain_Load)] (.tmp 33) [.tmp 30], none, 0⟩,
          ⟨(some 23), .mov (.tmp 0), none, 0⟩,
          ⟨(some 35), .nilchk (.tmp 23), none, 0⟩,
          ⟨(some 36), .faddr 4 (.tmp 35), none, 0⟩,
          ⟨none, .store 1 (.tmp 36) (.tmp 34), none, 0⟩,
          ⟨(some 24), .mov (.tmp 0), none, 0⟩,
          ⟨(some 37), .nilchk (.tmp 24), none, 0⟩,
          ⟨(some 38), .faddr 3 (.tmp 37), none, 0⟩,
          ⟨none, .store 1 (.tmp 38) (.const (.int .i64 2)), none, 0⟩])
        (.seq (.region [⟨(some 4), .mov (.const (.bool false)), none, 0⟩])
        (.ret)))
        (.skip)))
      (.seq (.region [⟨(some 39), .mov (.tmp 1), none, 0⟩,
        ⟨(some 40), .mov (.tmp 0), none, 0⟩,
        ⟨(some 41), .nilchk (.tmp 40), none, 0⟩,
        ⟨(some 42), .faddr 2 (.tmp 41), none, 0⟩,
        ⟨(some 43), .load none (.tmp 42), none, 0⟩,
        ⟨(some 44), .mov (.tmp 0), none, 0⟩,
        ⟨(some 45), .nilchk (.tmp 44), none, 0⟩,
        ⟨(some 46), .faddr 4 (.tmp 45), none, 0⟩,
        ⟨(some 47), .load none (.tmp 46), none, 0⟩,
        ⟨(some 48), .bin .add (.tmp 47) (.const (.int .i64 1)), none, 0⟩,
        ⟨(some 49), .mkfn (.method "Store") [.tmp 39] [], none, 0⟩,
        ⟨(some 50), .nilchkm "Store" [(41, Id.cells_Plain_Store)] (.tmp 49), none, 0⟩,
        ⟨(some 51), .mov (.tmp 39), none, 0⟩,
        ⟨(some 52), .invoke [(41, Id.cells_Plain_Store)] (.tmp 51) [.tmp 43, .tmp 48], none, 0⟩])
      (.seq (.region [⟨(some 53), .mov (.tmp 0), none, 0⟩,
        ⟨(some 54), .nilchk (.tmp 53), none, 0⟩,
        ⟨(some 55), .faddr 3 (.tmp 54), none, 0⟩,
        ⟨none, .store 1 (.tmp 55) (.const (.int .i64 0)), none, 0⟩])
      (.seq (.region [⟨(some 4), .mov (.const (.bool true)), none, 0⟩])
      (.ret)))))) }

def F.thread_of : IFunc :=
  { lb := [2, 3], scr := false, nargs := 2, res := [.tmp 4, .tmp 5],
    body := .seq (.region [⟨(some 2), .lbox (.tmp 0), none, 0⟩,
        ⟨(some 3), .lbox (.tmp 1), none, 0⟩,
        ⟨(some 4), .mov (.const (.nilIface)), none, 0⟩,
        ⟨(some 5), .mov (.const (.pointer none)), none, 0⟩])
      (.seq (.seq (.region [⟨(some 7), .laddr none 3 0, none, 0⟩,
        ⟨(some 8), .lload (some 7) 3 0 none, none, 0⟩])
      (.block 0 (.seq (.region [⟨(some 10), .bin .eql (.tmp 8) (.const (.int .i64 0)), none, 0⟩,
        ⟨(some 9), .mov (.tmp 10), none, 0⟩])
      (.cond (.tmp 9)
        (.seq (.region [⟨(some 11), .lload none 2 0 (some 3), none, 0⟩,
          ⟨(some 12), .laddr none 3 3, none, 0⟩,
          ⟨(some 13), .lload (some 12) 3 3 none, none, 0⟩,
          ⟨(some 14), .call Id.alloc_New [.tmp 11, .tmp 13], none, 0⟩,
          ⟨(some 6), .mov (.tmp 14), none, 0⟩])
        (.seq (.region [⟨(some 15), .mov (.tmp 6), none, 0⟩,
          ⟨(some 16), .mkif 91 (.tmp 15), none, 0⟩,
          ⟨(some 17), .mov (.tmp 6), none, 0⟩,
          ⟨(some 4), .mov (.tmp 16), none, 0⟩,
          ⟨(some 5), .mov (.tmp 17), none, 0⟩])
        (.ret)))
        (.seq (.region [⟨(some 19), .bin .eql (.tmp 8) (.const (.int .i64 1)), none, 0⟩,
          ⟨(some 18), .mov (.tmp 19), none, 0⟩])
        (.cond (.tmp 18)
          (.seq (.region [⟨(some 20), .lload none 2 0 (some 3), none, 0⟩,
            ⟨(some 21), .laddr none 3 1, none, 0⟩,
            ⟨(some 22), .lload (some 21) 3 1 none, none, 0⟩,
            ⟨(some 23), .call Id.free_New [.tmp 20, .tmp 22], none, 0⟩,
            ⟨(some 24), .mkif 127 (.tmp 23), none, 0⟩,
            ⟨(some 4), .mov (.tmp 24), none, 0⟩,
            ⟨(some 5), .mov (.const (.pointer none)), none, 0⟩])
          (.ret))
          (.seq (.region [⟨(some 26), .bin .eql (.tmp 8) (.const (.int .i64 2)), none, 0⟩,
            ⟨(some 25), .mov (.tmp 26), none, 0⟩])
          (.cond (.tmp 25)
            (.seq (.region [⟨(some 27), .lload none 2 0 (some 3), none, 0⟩,
              ⟨(some 28), .laddr none 3 1, none, 0⟩,
              ⟨(some 29), .lload (some 28) 3 1 none, none, 0⟩,
              ⟨(some 30), .laddr none 3 2, none, 0⟩,
              ⟨(some 31), .lload (some 30) 3 2 none, none, 0⟩,
              ⟨(some 32), .call Id.read_New [.tmp 27, .tmp 29, .tmp 31], none, 0⟩,
              ⟨(some 33), .mkif 129 (.tmp 32), none, 0⟩,
              ⟨(some 4), .mov (.tmp 33), none, 0⟩,
              ⟨(some 5), .mov (.const (.pointer none)), none, 0⟩])
            (.ret))
            (.seq (.region [⟨(some 35), .bin .eql (.tmp 8) (.const (.int .i64 3)), none, 0⟩,
              ⟨(some 34), .mov (.tmp 35), none, 0⟩])
            (.cond (.tmp 34)
              (.seq (.region [⟨(some 36), .lload none 2 0 (some 3), none, 0⟩,
                ⟨(some 37), .laddr none 3 1, none, 0⟩,
                ⟨(some 38), .lload (some 37) 3 1 none, none, 0⟩,
                ⟨(some 39), .laddr none 3 2, none, 0⟩,
                ⟨(some 40), .lload (some 39) 3 2 none, none, 0⟩,
                ⟨(some 41), .laddr none 3 3, none, 0⟩,
                ⟨(some 42), .lload (some 41) 3 3 none, none, 0⟩,
                ⟨(some 43), .call Id.write_New [.tmp 36, .tmp 38, .tmp 40, .tmp 42], none, 0⟩,
                ⟨(some 44), .mkif 131 (.tmp 43), none, 0⟩,
                ⟨(some 4), .mov (.tmp 44), none, 0⟩,
                ⟨(some 5), .mov (.const (.pointer none)), none, 0⟩])
              (.ret))
              (.seq (.region [⟨(some 46), .bin .eql (.tmp 8) (.const (.int .i64 4)), none, 0⟩,
                ⟨(some 45), .mov (.tmp 46), none, 0⟩])
              (.cond (.tmp 45)
                (.seq (.region [⟨(some 47), .lload none 2 0 (some 3), none, 0⟩,
                  ⟨(some 48), .laddr none 3 1, none, 0⟩,
                  ⟨(some 49), .lload (some 48) 3 1 none, none, 0⟩,
                  ⟨(some 50), .call Id.pin_New [.tmp 47, .tmp 49], none, 0⟩,
                  ⟨(some 51), .mkif 133 (.tmp 50), none, 0⟩,
                  ⟨(some 4), .mov (.tmp 51), none, 0⟩,
                  ⟨(some 5), .mov (.const (.pointer none)), none, 0⟩])
                (.ret))
                (.seq (.region [⟨(some 53), .bin .eql (.tmp 8) (.const (.int .i64 5)), none, 0⟩,
                  ⟨(some 52), .mov (.tmp 53), none, 0⟩])
                (.cond (.tmp 52)
                  (.seq (.region [⟨(some 54), .lload none 2 0 (some 3), none, 0⟩,
                    ⟨(some 55), .laddr none 3 1, none, 0⟩,
                    ⟨(some 56), .lload (some 55) 3 1 none, none, 0⟩,
                    ⟨(some 57), .call Id.pin_NewUn [.tmp 54, .tmp 56], none, 0⟩,
                    ⟨(some 58), .mkif 133 (.tmp 57), none, 0⟩,
                    ⟨(some 4), .mov (.tmp 58), none, 0⟩,
                    ⟨(some 5), .mov (.const (.pointer none)), none, 0⟩])
                  (.ret))
                  (.skip)))))))))))))))
      (.seq (.region [⟨(some 59), .build [] [], none, 0⟩,
        ⟨(some 60), .mkif 136 (.tmp 59), none, 0⟩,
        ⟨(some 4), .mov (.tmp 60), none, 0⟩,
        ⟨(some 5), .mov (.const (.pointer none)), none, 0⟩])
      (.ret))) }

def F.epoch_Exit : IFunc :=
  { lb := [4, 6], scr := false, nargs := 3, res := [],
    body := .seq (.region [⟨(some 4), .lbox (.tmp 1), none, 0⟩])
      (.seq (.region [⟨(some 10), .lload none 4 0 (some 3), none, 0⟩,
        ⟨(some 11), .call Id.layout_Of [.tmp 10], none, 0⟩,
        ⟨(some 9), .mov (.tmp 11), none, 0⟩,
        ⟨(some 12), .extract (.tmp 9) 0, none, 0⟩,
        ⟨(some 13), .extract (.tmp 9) 1, none, 0⟩,
        ⟨(some 6), .lbox (.const (.agg #[.int .i64 0, .int .i64 0])), none, 0⟩,
        ⟨(some 6), .lstore none 6 0 2 (.tmp 12), none, 0⟩,
        ⟨(some 7), .mov (.tmp 13), none, 0⟩])
      (.seq (.region [⟨(some 14), .lload none 6 0 (some 2), none, 0⟩,
        ⟨(some 15), .mov (.tmp 2), none, 0⟩,
        ⟨(some 16), .call Id.layout_Layout_Note [.tmp 14, .tmp 15], none, 0⟩,
        ⟨(some 8), .mov (.tmp 16), none, 0⟩])
      (.seq (.region [⟨(some 17), .mov (.tmp 8), none, 0⟩,
        ⟨(some 18), .bin .geq (.tmp 17) (.const (.int .i64 0)), none, 0⟩,
        ⟨(some 19), .mov (.tmp 18), none, 0⟩,
        ⟨(some 20), .mov (.tmp 0), (some (19, true)), 0⟩,
        ⟨(some 21), .eqv true (.nil 4) (.tmp 20) (.const (.nilIface)), (some (19, true)), 0⟩,
        ⟨(some 22), .pick (.tmp 19) (.tmp 21) (.const (.bool false)), none, 0⟩])
      (.cond (.tmp 22)
        (.region [⟨(some 23), .mov (.tmp 0), none, 0⟩,
          ⟨(some 24), .mov (.tmp 8), none, 0⟩,
          ⟨(some 25), .invoke [(41, Id.cells_Plain_Store)] (.tmp 23) [.tmp 24, .const (.int .i64 0)], none, 0⟩])
        (.skip))))) }

def F.head_read : IFunc :=
  { lb := [], scr := false, nargs := 1, res := [.tmp 2, .tmp 3],
    body := .seq (.region [⟨(some 2), .mov (.const (.complex .f64 0 0)), none, 0⟩,
        ⟨(some 3), .mov (.const (.int .i64 0)), none, 0⟩])
      (.seq (.region [⟨(some 5), .mov (.tmp 0), none, 0⟩,
        ⟨(some 6), .call Id.head_topField [], none, 0⟩,
        ⟨(some 7), .call Id.field_Get [.tmp 5, .tmp 6], none, 0⟩,
        ⟨(some 8), .mov (.tmp 0), none, 0⟩,
        ⟨(some 9), .call Id.head_tagField [], none, 0⟩,
        ⟨(some 10), .call Id.field_Get [.tmp 8, .tmp 9], none, 0⟩,
        ⟨(some 11), .call Id.head_of [.tmp 7, .tmp 10], none, 0⟩,
        ⟨(some 4), .mov (.tmp 11), none, 0⟩])
      (.seq (.seq (.region [⟨(some 12), .mov (.tmp 4), none, 0⟩,
        ⟨(some 13), .call Id.head_front_top [.tmp 12], none, 0⟩,
        ⟨(some 14), .call Id.head_may [.tmp 13], none, 0⟩,
        ⟨(some 15), .un .not (.tmp 14), none, 0⟩,
        ⟨(some 16), .mov (.tmp 15), none, 0⟩,
        ⟨(some 17), .mov (.tmp 4), (some (16, false)), 0⟩,
        ⟨(some 18), .call Id.head_front_word [.tmp 17], (some (16, false)), 0⟩,
        ⟨(some 19), .mov (.tmp 0), (some (16, false)), 0⟩,
        ⟨(some 20), .bin .neq (.tmp 18) (.tmp 19), (some (16, false)), 0⟩,
        ⟨(some 21), .pick (.tmp 16) (.const (.bool true)) (.tmp 20), none, 0⟩])
      (.cond (.tmp 21)
        (.seq (.region [⟨(some 2), .mov (.const (.complex .f64 0 0)), none, 0⟩,
          ⟨(some 3), .mov (.const (.int .i64 2)), none, 0⟩])
        (.ret))
        (.skip)))
      (.seq (.region [⟨(some 22), .mov (.tmp 4), none, 0⟩,
        ⟨(some 2), .mov (.tmp 22), none, 0⟩,
        ⟨(some 3), .mov (.const (.int .i64 0)), none, 0⟩])
      (.ret)))) }

def F.head_front_top : IFunc :=
  { lb := [], scr := false, nargs := 1, res := [.tmp 2],
    body := .seq (.region [⟨(some 2), .mov (.const (.int .i64 0)), none, 0⟩])
      (.seq (.region [⟨(some 3), .mov (.tmp 0), none, 0⟩,
        ⟨(some 4), .re (.tmp 3), none, 0⟩,
        ⟨(some 5), .conv (.int .i64) (.tmp 4), none, 0⟩,
        ⟨(some 2), .mov (.tmp 5), none, 0⟩])
      (.ret)) }

def F.head_front_tag : IFunc :=
  { lb := [], scr := false, nargs := 1, res := [.tmp 2],
    body := .seq (.region [⟨(some 2), .mov (.const (.int .i64 0)), none, 0⟩])
      (.seq (.region [⟨(some 3), .mov (.tmp 0), none, 0⟩,
        ⟨(some 4), .im (.tmp 3), none, 0⟩,
        ⟨(some 5), .conv (.int .i64) (.tmp 4), none, 0⟩,
        ⟨(some 2), .mov (.tmp 5), none, 0⟩])
      (.ret)) }

def F.layout_Layout_of : IFunc :=
  { lb := [3], scr := false, nargs := 3, res := [.tmp 6],
    body := .seq (.region [⟨(some 3), .lbox (.tmp 0), none, 0⟩,
        ⟨(some 6), .mov (.const (.int .i64 0)), none, 0⟩])
      (.seq (.seq (.region [⟨(some 7), .mov (.tmp 1), none, 0⟩,
        ⟨(some 8), .laddr none 3 1, none, 0⟩,
        ⟨(some 9), .lload (some 8) 3 1 none, none, 0⟩,
        ⟨(some 10), .bin .sub (.tmp 9) (.const (.int .i64 1)), none, 0⟩,
        ⟨(some 11), .call Id.layout_in [.tmp 7, .const (.int .i64 0), .tmp 10], none, 0⟩,
        ⟨(some 12), .un .not (.tmp 11), none, 0⟩])
      (.cond (.tmp 12)
        (.seq (.region [⟨(some 6), .mov (.const (.int .i64 (-1))), none, 0⟩])
        (.ret))
        (.skip)))
      (.seq (.region [⟨(some 13), .laddr none 3 0, none, 0⟩,
        ⟨(some 14), .lload (some 13) 3 0 none, none, 0⟩,
        ⟨(some 15), .bin .add (.const (.int .i64 4)) (.tmp 14), none, 0⟩,
        ⟨(some 16), .mov (.tmp 1), none, 0⟩,
        ⟨(some 17), .bin .mul (.const (.int .i64 3)) (.tmp 16), none, 0⟩,
        ⟨(some 18), .bin .add (.tmp 15) (.tmp 17), none, 0⟩,
        ⟨(some 19), .mov (.tmp 2), none, 0⟩,
        ⟨(some 20), .bin .add (.tmp 18) (.tmp 19), none, 0⟩,
        ⟨(some 6), .mov (.tmp 20), none, 0⟩])
      (.ret))) }

def F.cells_New : IFunc :=
  { lb := [], scr := false, nargs := 2, res := [.tmp 4],
    body := .seq (.region [⟨(some 4), .mov (.const (.pointer none)), none, 0⟩])
      (.seq (.seq (.region [⟨(some 5), .mov (.tmp 0), none, 0⟩,
        ⟨(some 6), .mov (.tmp 1), none, 0⟩,
        ⟨(some 7), .call Id.cells_may [.tmp 5, .tmp 6], none, 0⟩,
        ⟨(some 8), .un .not (.tmp 7), none, 0⟩])
      (.cond (.tmp 8)
        (.seq (.region [⟨(some 4), .mov (.const (.pointer none)), none, 0⟩])
        (.ret))
        (.skip)))
      (.seq (.region [⟨(some 9), .mov (.tmp 0), none, 0⟩,
        ⟨(some 10), .mkslice 1 8 [.int .i64 0] (.tmp 9) (.tmp 9), none, 0⟩,
        ⟨(some 11), .mov (.tmp 1), none, 0⟩,
        ⟨(some 12), .mkslice 1 1 [.int .u8 0] (.tmp 11) (.tmp 11), none, 0⟩,
        ⟨(some 13), .build [.slice none 0 0, .slice none 0 0, .int .i64 0] [(0, 1, .tmp 10), (1, 1, .tmp 12)], none, 0⟩,
        ⟨(some 14), .box (.tmp 13), none, 0⟩,
        ⟨(some 4), .mov (.tmp 14), none, 0⟩])
      (.ret))) }

def F.layout_Start : IFunc :=
  { lb := [3, 5], scr := false, nargs := 2, res := [.tmp 4],
    body := .seq (.region [⟨(some 3), .lbox (.tmp 1), none, 0⟩,
        ⟨(some 4), .mov (.const (.int .i64 0)), none, 0⟩])
      (.seq (.region [⟨(some 13), .lload none 3 0 (some 3), none, 0⟩,
        ⟨(some 14), .call Id.layout_Of [.tmp 13], none, 0⟩,
        ⟨(some 12), .mov (.tmp 14), none, 0⟩,
        ⟨(some 15), .extract (.tmp 12) 0, none, 0⟩,
        ⟨(some 16), .extract (.tmp 12) 1, none, 0⟩,
        ⟨(some 5), .lbox (.const (.agg #[.int .i64 0, .int .i64 0])), none, 0⟩,
        ⟨(some 5), .lstore none 5 0 2 (.tmp 15), none, 0⟩,
        ⟨(some 6), .mov (.tmp 16), none, 0⟩])
      (.seq (.seq (.region [⟨(some 17), .mov (.tmp 6), none, 0⟩,
        ⟨(some 18), .bin .neq (.tmp 17) (.const (.int .i64 0)), none, 0⟩,
        ⟨(some 19), .mov (.tmp 18), none, 0⟩,
        ⟨(some 20), .mov (.tmp 0), (some (19, false)), 0⟩,
        ⟨(some 21), .eqv false (.nil 4) (.tmp 20) (.const (.nilIface)), (some (19, false)), 0⟩,
        ⟨(some 22), .pick (.tmp 19) (.const (.bool true)) (.tmp 21), none, 0⟩,
        ⟨(some 23), .mov (.tmp 22), none, 0⟩,
        ⟨(some 24), .mov (.tmp 0), (some (23, false)), 0⟩,
        ⟨(some 25), .invoke [(38, Id.layout_Layout_Words), (41, Id.cells_Plain_Words)] (.tmp 24) [], (some (23, false)), 0⟩,
        ⟨(some 26), .lload none 5 0 (some 2), (some (23, false)), 0⟩,
        ⟨(some 27), .call Id.layout_Layout_Words [.tmp 26], (some (23, false)), 0⟩,
        ⟨(some 28), .bin .lss (.tmp 25) (.tmp 27), (some (23, false)), 0⟩,
        ⟨(some 29), .pick (.tmp 23) (.const (.bool true)) (.tmp 28), none, 0⟩,
        ⟨(some 30), .mov (.tmp 29), none, 0⟩,
        ⟨(some 31), .mov (.tmp 0), (some (30, false)), 0⟩,
        ⟨(some 32), .invoke [(41, Id.cells_Plain_Bytes)] (.tmp 31) [], (some (30, false)), 0⟩,
        ⟨(some 33), .laddr none 3 0, (some (30, false)), 0⟩,
        ⟨(some 34), .lload (some 33) 3 0 none, (some (30, false)), 0⟩,
        ⟨(some 35), .bin .lss (.tmp 32) (.tmp 34), (some (30, false)), 0⟩,
        ⟨(some 36), .pick (.tmp 30) (.const (.bool true)) (.tmp 35), none, 0⟩])
      (.cond (.tmp 36)
        (.seq (.region [⟨(some 4), .mov (.const (.int .i64 1)), none, 0⟩])
        (.ret))
        (.skip)))
      (.seq (.seq (.region [⟨(some 37), .lload none 5 0 (some 2), none, 0⟩,
        ⟨(some 38), .call Id.layout_Layout_Words [.tmp 37], none, 0⟩,
        ⟨(some 39), .mov (.const (.int .i64 0)), none, 0⟩])
      (.block 0 (.loop [0, 5, 38, 39]
        (.seq (.region [⟨(some 40), .bin .lss (.tmp 39) (.tmp 38), none, 0⟩])
        (.seq (.cond (.tmp 40)
          (.skip)
          (.exit 0))
        (.seq (.block 1 (.seq (.region [⟨(some 41), .mov (.tmp 39), none, 0⟩,
          ⟨(some 7), .mov (.tmp 41), none, 0⟩])
        (.region [⟨(some 42), .mov (.tmp 0), none, 0⟩,
          ⟨(some 43), .mov (.tmp 7), none, 0⟩,
          ⟨(some 44), .invoke [(41, Id.cells_Plain_Store)] (.tmp 42) [.tmp 43, .const (.int .i64 0)], none, 0⟩])))
        (.region [⟨(some 45), .bin .add (.tmp 39) (.const (.int .i64 1)), none, 0⟩,
          ⟨(some 39), .mov (.tmp 45), none, 0⟩])))))))
      (.seq (.region [⟨(some 8), .mov (.const (.int .i64 0)), none, 0⟩])
      (.seq (.seq (.region [⟨(some 46), .laddr none 5 1, none, 0⟩,
        ⟨(some 47), .lload (some 46) 5 1 none, none, 0⟩,
        ⟨(some 48), .bin .sub (.tmp 47) (.const (.int .i64 1)), none, 0⟩,
        ⟨(some 9), .mov (.tmp 48), none, 0⟩])
      (.block 2 (.loop [0, 5, 8, 9]
        (.seq (.seq (.region [⟨(some 49), .mov (.tmp 9), none, 0⟩,
          ⟨(some 50), .bin .geq (.tmp 49) (.const (.int .i64 0)), none, 0⟩])
        (.cond (.tmp 50)
          (.skip)
          (.exit 2)))
        (.seq (.block 3 (.seq (.region [⟨(some 54), .lload none 5 0 (some 2), none, 0⟩,
          ⟨(some 55), .mov (.tmp 9), none, 0⟩,
          ⟨(some 56), .call Id.layout_Layout_Link [.tmp 54, .tmp 55], none, 0⟩,
          ⟨(some 53), .mov (.tmp 0), none, 0⟩,
          ⟨(some 57), .mov (.tmp 8), none, 0⟩,
          ⟨(some 58), .mkfn (.method "Store") [.tmp 53] [], none, 0⟩,
          ⟨(some 59), .nilchkm "Store" [(41, Id.cells_Plain_Store)] (.tmp 58), none, 0⟩,
          ⟨(some 60), .mov (.tmp 53), none, 0⟩,
          ⟨(some 61), .invoke [(41, Id.cells_Plain_Store)] (.tmp 60) [.tmp 56, .tmp 57], none, 0⟩])
        (.region [⟨(some 62), .mov (.tmp 9), none, 0⟩,
          ⟨(some 63), .bin .add (.tmp 62) (.const (.int .i64 1)), none, 0⟩,
          ⟨(some 8), .mov (.tmp 63), none, 0⟩])))
        (.region [⟨(some 51), .mov (.tmp 9), none, 0⟩,
          ⟨(some 52), .bin .sub (.tmp 51) (.const (.int .i64 1)), none, 0⟩,
          ⟨(some 9), .mov (.tmp 52), none, 0⟩]))))))
      (.seq (.region [⟨(some 65), .mov (.tmp 8), none, 0⟩,
        ⟨(some 66), .call Id.head_Pack [.tmp 65, .const (.int .i64 0)], none, 0⟩,
        ⟨(some 64), .mov (.tmp 66), none, 0⟩,
        ⟨(some 67), .extract (.tmp 64) 0, none, 0⟩,
        ⟨(some 68), .extract (.tmp 64) 1, none, 0⟩,
        ⟨(some 10), .mov (.tmp 67), none, 0⟩,
        ⟨(some 11), .mov (.tmp 68), none, 0⟩])
      (.seq (.region [⟨(some 70), .lload none 5 0 (some 2), none, 0⟩,
        ⟨(some 71), .call Id.layout_Layout_Stack [.tmp 70], none, 0⟩,
        ⟨(some 69), .mov (.tmp 0), none, 0⟩,
        ⟨(some 72), .mov (.tmp 10), none, 0⟩,
        ⟨(some 73), .mkfn (.method "Store") [.tmp 69] [], none, 0⟩,
        ⟨(some 74), .nilchkm "Store" [(41, Id.cells_Plain_Store)] (.tmp 73), none, 0⟩,
        ⟨(some 75), .mov (.tmp 69), none, 0⟩,
        ⟨(some 76), .invoke [(41, Id.cells_Plain_Store)] (.tmp 75) [.tmp 71, .tmp 72], none, 0⟩])
      (.seq (.region [⟨(some 4), .mov (.const (.int .i64 0)), none, 0⟩])
      (.ret))))))))) }

def F.thread_New : IFunc :=
  { lb := [3, 8], scr := false, nargs := 3, res := [.tmp 6],
    body := .seq (.region [⟨(some 3), .lbox (.tmp 0), none, 0⟩,
        ⟨(some 6), .mov (.const (.pointer none)), none, 0⟩])
      (.seq (.region [⟨(some 10), .lload none 3 0 (some 3), none, 0⟩,
        ⟨(some 11), .mov (.tmp 1), none, 0⟩,
        ⟨(some 12), .build [.int .i64 0, .int .i64 0, .int .i64 0, .int .i64 0, .slice none 0 0, .int .i64 0, .pointer none, .nilIface, .pointer none, .int .i64 0, .int .i64 0] [(0, 3, .tmp 10), (3, 1, .tmp 11)], none, 0⟩,
        ⟨(some 13), .box (.tmp 12), none, 0⟩,
        ⟨(some 7), .mov (.tmp 13), none, 0⟩])
      (.seq (.seq (.region [⟨(some 15), .lload none 3 0 (some 3), none, 0⟩,
        ⟨(some 16), .call Id.layout_Of [.tmp 15], none, 0⟩,
        ⟨(some 14), .mov (.tmp 16), none, 0⟩,
        ⟨(some 17), .extract (.tmp 14) 0, none, 0⟩,
        ⟨(some 18), .extract (.tmp 14) 1, none, 0⟩,
        ⟨(some 8), .lbox (.const (.agg #[.int .i64 0, .int .i64 0])), none, 0⟩,
        ⟨(some 8), .lstore none 8 0 2 (.tmp 17), none, 0⟩,
        ⟨(some 9), .mov (.tmp 18), none, 0⟩])
      (.seq (.region [⟨(some 19), .mov (.tmp 9), none, 0⟩,
        ⟨(some 20), .bin .eql (.tmp 19) (.const (.int .i64 0)), none, 0⟩,
        ⟨(some 21), .mov (.tmp 20), none, 0⟩,
        ⟨(some 22), .lload none 8 0 (some 2), (some (21, true)), 0⟩,
        ⟨(some 23), .mov (.tmp 1), (some (21, true)), 0⟩,
        ⟨(some 24), .call Id.layout_Layout_Note [.tmp 22, .tmp 23], (some (21, true)), 0⟩,
        ⟨(some 25), .bin .geq (.tmp 24) (.const (.int .i64 0)), (some (21, true)), 0⟩,
        ⟨(some 26), .pick (.tmp 21) (.tmp 25) (.const (.bool false)), none, 0⟩])
      (.cond (.tmp 26)
        (.region [⟨(some 27), .mov (.tmp 7), none, 0⟩,
          ⟨(some 28), .mov (.tmp 2), none, 0⟩,
          ⟨(some 29), .call Id.slices_Clone_Lapi_Op [.tmp 28], none, 0⟩,
          ⟨(some 30), .nilchk (.tmp 27), none, 0⟩,
          ⟨(some 31), .faddr 4 (.tmp 30), none, 0⟩,
          ⟨none, .store 1 (.tmp 31) (.tmp 29), none, 0⟩])
        (.skip))))
      (.seq (.region [⟨(some 32), .mov (.tmp 7), none, 0⟩,
        ⟨(some 6), .mov (.tmp 32), none, 0⟩])
      (.ret)))) }

def F.entry_Unpack : IFunc :=
  { lb := [2, 6, 7], scr := false, nargs := 1, res := [.lb 2 (some 6), .tmp 3],
    body := .seq (.region [⟨(some 2), .lbox (.const (.agg #[.int .i64 0, .int .i64 0, .int .i64 0, .int .i64 0, .bool false, .bool false])), none, 0⟩,
        ⟨(some 3), .mov (.const (.int .i64 0)), none, 0⟩])
      (.seq (.seq (.region [⟨(some 8), .mov (.tmp 0), none, 0⟩,
        ⟨(some 9), .bin .lss (.tmp 8) (.const (.int .i64 0)), none, 0⟩,
        ⟨(some 10), .mov (.tmp 9), none, 0⟩,
        ⟨(some 11), .mov (.tmp 0), (some (10, false)), 0⟩,
        ⟨(some 12), .bin .geq (.tmp 11) (.const (.int .i64 1125899906842624)), (some (10, false)), 0⟩,
        ⟨(some 13), .pick (.tmp 10) (.const (.bool true)) (.tmp 12), none, 0⟩])
      (.cond (.tmp 13)
        (.seq (.region [⟨(some 14), .build [.int .i64 0, .int .i64 0, .int .i64 0, .int .i64 0, .bool false, .bool false] [], none, 0⟩,
          ⟨(some 2), .lstore none 2 0 6 (.tmp 14), none, 0⟩,
          ⟨(some 3), .mov (.const (.int .i64 2)), none, 0⟩])
        (.ret))
        (.skip)))
      (.seq (.region [⟨(some 4), .box (.const (.agg #[.int .i64 0, .int .i64 0, .int .i64 0, .int .i64 0, .int .i64 0, .int .i64 0])), none, 0⟩])
      (.seq (.seq (.region [⟨(some 15), .call Id.entry_fields [], none, 0⟩,
        ⟨(some 16), .mov (.const (.int .i64 0)), none, 0⟩])
      (.block 0 (.loop [0, 2, 4, 15, 16]
        (.seq (.region [⟨(some 17), .bin .lss (.tmp 16) (.const (.int .i64 6)), none, 0⟩])
        (.seq (.cond (.tmp 17)
          (.skip)
          (.exit 0))
        (.seq (.block 1 (.seq (.region [⟨(some 18), .mov (.tmp 16), none, 0⟩,
          ⟨(some 19), .index 6 2 (some 2) (.tmp 15) (.tmp 16), none, 0⟩,
          ⟨(some 6), .lbox (.const (.agg #[.int .i64 0, .int .i64 0])), none, 0⟩,
          ⟨(some 5), .mov (.tmp 18), none, 0⟩,
          ⟨(some 6), .lstore none 6 0 2 (.tmp 19), none, 0⟩])
        (.region [⟨(some 20), .mov (.tmp 5), none, 0⟩,
          ⟨(some 21), .mov (.tmp 0), none, 0⟩,
          ⟨(some 22), .lload none 6 0 (some 2), none, 0⟩,
          ⟨(some 23), .call Id.field_Get [.tmp 21, .tmp 22], none, 0⟩,
          ⟨(some 24), .iaddr (some 6) 1 (.tmp 4) (.tmp 20), none, 0⟩,
          ⟨none, .store 1 (.tmp 24) (.tmp 23), none, 0⟩])))
        (.region [⟨(some 25), .bin .add (.tmp 16) (.const (.int .i64 1)), none, 0⟩,
          ⟨(some 16), .mov (.tmp 25), none, 0⟩])))))))
      (.seq (.region [⟨(some 26), .iaddr (some 6) 1 (.tmp 4) (.const (.int .i64 0)), none, 0⟩,
        ⟨(some 27), .load none (.tmp 26), none, 0⟩,
        ⟨(some 28), .iaddr (some 6) 1 (.tmp 4) (.const (.int .i64 1)), none, 0⟩,
        ⟨(some 29), .load none (.tmp 28), none, 0⟩,
        ⟨(some 30), .iaddr (some 6) 1 (.tmp 4) (.const (.int .i64 2)), none, 0⟩,
        ⟨(some 31), .load none (.tmp 30), none, 0⟩,
        ⟨(some 32), .iaddr (some 6) 1 (.tmp 4) (.const (.int .i64 3)), none, 0⟩,
        ⟨(some 33), .load none (.tmp 32), none, 0⟩,
        ⟨(some 34), .iaddr (some 6) 1 (.tmp 4) (.const (.int .i64 4)), none, 0⟩,
        ⟨(some 35), .load none (.tmp 34), none, 0⟩,
        ⟨(some 36), .bin .eql (.tmp 35) (.const (.int .i64 1)), none, 0⟩,
        ⟨(some 37), .iaddr (some 6) 1 (.tmp 4) (.const (.int .i64 5)), none, 0⟩,
        ⟨(some 38), .load none (.tmp 37), none, 0⟩,
        ⟨(some 39), .bin .eql (.tmp 38) (.const (.int .i64 1)), none, 0⟩,
        ⟨(some 40), .build [.int .i64 0, .int .i64 0, .int .i64 0, .int .i64 0, .bool false, .bool false] [(0, 1, .tmp 27), (1, 1, .tmp 29), (2, 1, .tmp 31), (3, 1, .tmp 33), (4, 1, .tmp 36), (5, 1, .tmp 39)], none, 0⟩,
        ⟨(some 7), .lbox (.const (.agg #[.int .i64 0, .int .i64 0, .int .i64 0, .int .i64 0, .bool false, .bool false])), none, 0⟩,
        ⟨(some 7), .lstore none 7 0 6 (.tmp 40), none, 0⟩])
      (.seq (.seq (.region [⟨(some 41), .lload none 7 0 (some 6), none, 0⟩,
        ⟨(some 42), .call Id.entry_Entry_may [.tmp 41], none, 0⟩,
        ⟨(some 43), .un .not (.tmp 42), none, 0⟩])
      (.cond (.tmp 43)
        (.seq (.region [⟨(some 44), .build [.int .i64 0, .int .i64 0, .int .i64 0, .int .i64 0, .bool false, .bool false] [], none, 0⟩,
          ⟨(some 2), .lstore none 2 0 6 (.tmp 44), none, 0⟩,
          ⟨(some 3), .mov (.const (.int .i64 2)), none, 0⟩])
        (.ret))
        (.skip)))
      (.seq (.region [⟨(some 45), .lload none 7 0 (some 6), none, 0⟩,
        ⟨(some 2), .lstore none 2 0 6 (.tmp 45), none, 0⟩,
        ⟨(some 3), .mov (.const (.int .i64 0)), none, 0⟩])
      (.ret))))))) }

def F.layout_Layout_Size : IFunc :=
  { lb := [2], scr := false, nargs := 2, res := [.tmp 4],
    body := .seq (.region [⟨(some 2), .lbox (.tmp 0), none, 0⟩,
        ⟨(some 4), .mov (.const (.int .i64 0)), none, 0⟩])
      (.seq (.region [⟨(some 5), .lload none 2 0 (some 2), none, 0⟩,
        ⟨(some 6), .mov (.tmp 1), none, 0⟩,
        ⟨(some 7), .call Id.layout_Layout_of [.tmp 5, .tmp 6, .const (.int .i64 1)], none, 0⟩,
        ⟨(some 4), .mov (.tmp 7), none, 0⟩])
      (.ret)) }

def F.compact_Machine_on : IFunc :=
  { lb := [4], scr := false, nargs := 2, res := [.lb 4 (some 2), .tmp 5],
    body := .seq (.region [⟨(some 4), .lbox (.const (.agg #[.int .i64 0, .int .i64 0])), none, 0⟩,
        ⟨(some 5), .mov (.const (.bool false)), none, 0⟩])
      (.seq (.region [⟨(some 6), .mov (.tmp 0), none, 0⟩,
        ⟨(some 7), .mov (.tmp 1), none, 0⟩,
        ⟨(some 8), .nilchk (.tmp 6), none, 0⟩,
        ⟨(some 9), .faddr 5 (.tmp 8), none, 0⟩,
        ⟨none, .store 1 (.tmp 9) (.tmp 7), none, 0⟩])
      (.seq (.region [⟨(some 10), .build [.int .i64 0, .int .i64 0] [], none, 0⟩,
        ⟨(some 4), .lstore none 4 0 2 (.tmp 10), none, 0⟩,
        ⟨(some 5), .mov (.const (.bool false)), none, 0⟩])
      (.ret))) }

def F.layout_Layout_Pending : IFunc :=
  { lb := [1], scr := false, nargs := 1, res := [.tmp 2],
    body := .seq (.region [⟨(some 1), .lbox (.tmp 0), none, 0⟩,
        ⟨(some 2), .mov (.const (.int .i64 0)), none, 0⟩])
      (.seq (.region [⟨(some 3), .lload none 1 0 (some 2), none, 0⟩,
        ⟨(some 4), .call Id.layout_Layout_once [.tmp 3, .const (.int .i64 2)], none, 0⟩,
        ⟨(some 2), .mov (.tmp 4), none, 0⟩])
      (.ret)) }

def F.compact_Machine_end : IFunc :=
  { lb := [2], scr := false, nargs := 1, res := [.lb 2 (some 2), .tmp 3],
    body := .seq (.region [⟨(some 2), .lbox (.const (.agg #[.int .i64 0, .int .i64 0])), none, 0⟩,
        ⟨(some 3), .mov (.const (.bool false)), none, 0⟩])
      (.seq (.region [⟨(some 4), .mov (.tmp 0), none, 0⟩,
        ⟨(some 5), .nilchk (.tmp 4), none, 0⟩,
        ⟨(some 6), .faddr 5 (.tmp 5), none, 0⟩,
        ⟨none, .store 1 (.tmp 6) (.const (.int .i64 0)), none, 0⟩])
      (.seq (.region [⟨(some 7), .mov (.tmp 0), none, 0⟩,
        ⟨(some 8), .nilchk (.tmp 7), none, 0⟩,
        ⟨(some 9), .faddr 84 (.tmp 8), none, 0⟩,
        ⟨(some 10), .load none (.tmp 9), none, 0⟩,
        ⟨(some 11), .build [.int .i64 0, .int .i64 0] [(1, 1, .tmp 10)], none, 0⟩,
        ⟨(some 2), .lstore none 2 0 2 (.tmp 11), none, 0⟩,
        ⟨(some 3), .mov (.const (.bool true)), none, 0⟩])
      (.ret))) }

def F.compact_Machine_scan : IFunc :=
  { lb := [4, 6], scr := false, nargs := 2, res := [.lb 4 (some 2), .tmp 5],
    body := .seq (.region [⟨(some 4), .lbox (.const (.agg #[.int .i64 0, .int .i64 0])), none, 0⟩,
        ⟨(some 5), .mov (.const (.bool false)), none, 0⟩])
      (.seq (.region [⟨(some 10), .mov (.tmp 0), none, 0⟩,
        ⟨(some 11), .nilchk (.tmp 10), none, 0⟩,
        ⟨(some 12), .faddr 0 (.tmp 11), none, 0⟩,
        ⟨(some 13), .load (some 2) (.tmp 12), none, 0⟩,
        ⟨(some 14), .mov (.tmp 0), none, 0⟩,
        ⟨(some 15), .nilchk (.tmp 14), none, 0⟩,
        ⟨(some 16), .faddr 7 (.tmp 15), none, 0⟩,
        ⟨(some 17), .load none (.tmp 16), none, 0⟩,
        ⟨(some 18), .call Id.layout_Layout_Entry [.tmp 13, .tmp 17], none, 0⟩,
        ⟨(some 9), .mov (.tmp 1), none, 0⟩,
        ⟨(some 19), .mkfn (.method "Load") [.tmp 9] [], none, 0⟩,
        ⟨(some 20), .nilchkm "Load" [(41, Id.cells_Plain_Load)] (.tmp 19), none, 0⟩,
        ⟨(some 21), .mov (.tmp 9), none, 0⟩,
        ⟨(some 22), .invoke [(41, Id.cells_Plain_Load)] (.tmp 21) [.tmp 18], none, 0⟩,
        ⟨(some 23), .call Id.entry_Unpack [.tmp 22], none, 0⟩,
        ⟨(some 8), .mov (.tmp 23), none, 0⟩,
        ⟨(some 24), .extract (.tmp 8) 0, none, 0⟩,
        ⟨(some 25), .extract (.tmp 8) 1, none, 0⟩,
        ⟨(some 6), .lbox (.const (.agg #[.int .i64 0, .int .i64 0, .int .i64 0, .int .i64 0, .bool false, .bool false])), none, 0⟩,
        ⟨(some 6), .lstore none 6 0 6 (.tmp 24), none, 0⟩,
        ⟨(some 7), .mov (.tmp 25), none, 0⟩])
      (.seq (.seq (.region [⟨(some 26), .mov (.tmp 0), none, 0⟩,
        ⟨(some 27), .lload none 6 0 (some 6), none, 0⟩,
        ⟨(some 28), .nilchk (.tmp 26), none, 0⟩,
        ⟨(some 29), .faddr 8 (.tmp 28), none, 0⟩,
        ⟨none, .store 6 (.tmp 29) (.tmp 27), none, 0⟩])
      (.seq (.region [⟨(some 30), .mov (.tmp 7), none, 0⟩,
        ⟨(some 31), .bin .eql (.tmp 30) (.const (.int .i64 0)), none, 0⟩,
        ⟨(some 32), .mov (.tmp 31), none, 0⟩,
        ⟨(some 33), .laddr none 6 5, (some (32, true)), 0⟩,
        ⟨(some 34), .lload (some 33) 6 5 none, (some (32, true)), 0⟩,
        ⟨(some 35), .pick (.tmp 32) (.tmp 34) (.const (.bool false)), none, 0⟩,
        ⟨(some 36), .mov (.tmp 35), none, 0⟩,
        ⟨(some 37), .laddr none 6 0, (some (36, true)), 0⟩,
        ⟨(some 38), .lload (some 37) 6 0 none, (some (36, true)), 0⟩,
        ⟨(some 39), .mov (.tmp 0), (some (36, true)), 0⟩,
        ⟨(some 40), .nilchk (.tmp 39), (some (36, true)), 0⟩,
        ⟨(some 41), .faddr 6 (.tmp 40), (some (36, true)), 0⟩,
        ⟨(some 42), .load none (.tmp 41), (some (36, true)), 0⟩,
        ⟨(some 43), .bin .lss (.tmp 38) (.tmp 42), (some (36, true)), 0⟩,
        ⟨(some 44), .pick (.tmp 36) (.tmp 43) (.const (.bool false)), none, 0⟩])
      (.cond (.tmp 44)
        (.seq (.region [⟨(some 45), .mov (.tmp 0), none, 0⟩,
          ⟨(some 46), .call Id.compact_Machine_on [.tmp 45, .const (.int .i64 4)], none, 0⟩,
          ⟨(some 47), .extract (.tmp 46) 0, none, 0⟩,
          ⟨(some 48), .extract (.tmp 46) 1, none, 0⟩,
          ⟨(some 4), .lstore none 4 0 2 (.tmp 47), none, 0⟩,
          ⟨(some 5), .mov (.tmp 48), none, 0⟩])
        (.ret))
        (.skip))))
      (.seq (.region [⟨(some 49), .mov (.tmp 0), none, 0⟩,
        ⟨(some 50), .call Id.compact_Machine_scanned [.tmp 49], none, 0⟩,
        ⟨(some 51), .extract (.tmp 50) 0, none, 0⟩,
        ⟨(some 52), .extract (.tmp 50) 1, none, 0⟩,
        ⟨(some 4), .lstore none 4 0 2 (.tmp 51), none, 0⟩,
        ⟨(some 5), .mov (.tmp 52), none, 0⟩])
      (.ret)))) }

def F.compact_Machine_measure : IFunc :=
  { lb := [4], scr := false, nargs := 2, res := [.lb 4 (some 2), .tmp 5],
    body := .seq (.region [⟨(some 4), .lbox (.const (.agg #[.int .i64 0, .int .i64 0])), none, 0⟩,
        ⟨(some 5), .mov (.const (.bool false)), none, 0⟩])
      (.seq (.seq (.region [⟨(some 10), .mov (.tmp 0), none, 0⟩,
        ⟨(some 11), .nilchk (.tmp 10), none, 0⟩,
        ⟨(some 12), .faddr 0 (.tmp 11), none, 0⟩,
        ⟨(some 13), .load (some 2) (.tmp 12), none, 0⟩,
        ⟨(some 14), .mov (.tmp 0), none, 0⟩,
        ⟨(some 15), .nilchk (.tmp 14), none, 0⟩,
        ⟨(some 16), .faddr 7 (.tmp 15), none, 0⟩,
        ⟨(some 17), .load none (.tmp 16), none, 0⟩,
        ⟨(some 18), .call Id.layout_Layout_Size [.tmp 13, .tmp 17], none, 0⟩,
        ⟨(some 9), .mov (.tmp 1), none, 0⟩,
        ⟨(some 19), .mkfn (.method "Load") [.tmp 9] [], none, 0⟩,
        ⟨(some 20), .nilchkm "Load" [(41, Id.cells_Plain_Load)] (.tmp 19), none, 0⟩,
        ⟨(some 21), .mov (.tmp 9), none, 0⟩,
        ⟨(some 22), .invoke [(41, Id.cells_Plain_Load)] (.tmp 21) [.tmp 18], none, 0⟩,
        ⟨(some 23), .call Id.handle_Round [.tmp 22], none, 0⟩,
        ⟨(some 8), .mov (.tmp 23), none, 0⟩,
        ⟨(some 24), .extract (.tmp 8) 0, none, 0⟩,
        ⟨(some 25), .extract (.tmp 8) 1, none, 0⟩,
        ⟨(some 6), .mov (.tmp 24), none, 0⟩,
        ⟨(some 7), .mov (.tmp 25), none, 0⟩])
      (.seq (.region [⟨(some 26), .mov (.tmp 7), none, 0⟩,
        ⟨(some 27), .bin .eql (.tmp 26) (.const (.int .i64 0)), none, 0⟩])
      (.cond (.tmp 27)
        (.seq (.region [⟨(some 29), .mov (.tmp 0), none, 0⟩,
          ⟨(some 30), .nilchk (.tmp 29), none, 0⟩,
          ⟨(some 31), .faddr 14 (.tmp 30), none, 0⟩,
          ⟨(some 32), .load none (.tmp 31), none, 0⟩,
          ⟨(some 33), .mov (.tmp 0), none, 0⟩,
          ⟨(some 34), .nilchk (.tmp 33), none, 0⟩,
          ⟨(some 35), .faddr 7 (.tmp 34), none, 0⟩,
          ⟨(some 36), .load none (.tmp 35), none, 0⟩,
          ⟨(some 37), .mov (.tmp 0), none, 0⟩,
          ⟨(some 38), .nilchk (.tmp 37), none, 0⟩,
          ⟨(some 39), .faddr 8 (.tmp 38), none, 0⟩,
          ⟨(some 40), .faddr 0 (.tmp 39), none, 0⟩,
          ⟨(some 41), .load none (.tmp 40), none, 0⟩,
          ⟨(some 42), .mov (.tmp 6), none, 0⟩,
          ⟨(some 43), .build [.int .i64 0, .int .i64 0, .int .i64 0, .bool false] [(0, 1, .tmp 36), (1, 1, .tmp 41), (2, 1, .tmp 42)], none, 0⟩,
          ⟨(some 44), .buildSlice 4 1 [.int .i64 0, .int .i64 0, .int .i64 0, .bool false] [(0, 4, .tmp 43)], none, 0⟩,
          ⟨(some 45), .append 4 32 (.tmp 32) (.tmp 44), none, 0⟩,
          ⟨(some 28), .mov (.tmp 0), none, 0⟩,
          ⟨(some 46), .nilchk (.tmp 28), none, 0⟩,
          ⟨(some 47), .faddr 14 (.tmp 46), none, 0⟩,
          ⟨none, .store 1 (.tmp 47) (.tmp 45), none, 0⟩])
        (.region [⟨(some 48), .mov (.tmp 0), none, 0⟩,
          ⟨(some 49), .mov (.tmp 0), none, 0⟩,
          ⟨(some 50), .nilchk (.tmp 49), none, 0⟩,
          ⟨(some 51), .faddr 7 (.tmp 50), none, 0⟩,
          ⟨(some 52), .load none (.tmp 51), none, 0⟩,
          ⟨(some 53), .mov (.tmp 0), none, 0⟩,
          ⟨(some 54), .nilchk (.tmp 53), none, 0⟩,
          ⟨(some 55), .faddr 8 (.tmp 54), none, 0⟩,
          ⟨(some 56), .faddr 1 (.tmp 55), none, 0⟩,
          ⟨(some 57), .load none (.tmp 56), none, 0⟩,
          ⟨(some 58), .nilchk (.tmp 48), none, 0⟩,
          ⟨(some 59), .faddr 15 (.tmp 58), none, 0⟩,
          ⟨(some 60), .iaddr (some 64) 1 (.tmp 59) (.tmp 52), none, 0⟩,
          ⟨none, .store 1 (.tmp 60) (.tmp 57), none, 0⟩]))
        (.skip))))
      (.seq (.region [⟨(some 61), .mov (.tmp 0), none, 0⟩,
        ⟨(some 62), .call Id.compact_Machine_scanned [.tmp 61], none, 0⟩,
        ⟨(some 63), .extract (.tmp 62) 0, none, 0⟩,
        ⟨(some 64), .extract (.tmp 62) 1, none, 0⟩,
        ⟨(some 4), .lstore none 4 0 2 (.tmp 63), none, 0⟩,
        ⟨(some 5), .mov (.tmp 64), none, 0⟩])
      (.ret))) }

def F.compact_Machine_look : IFunc :=
  { lb := [4, 6, 7], scr := false, nargs := 2, res := [.lb 4 (some 2), .tmp 5],
    body := .seq (.region [⟨(some 4), .lbox (.const (.agg #[.int .i64 0, .int .i64 0])), none, 0⟩,
        ⟨(some 5), .mov (.const (.bool false)), none, 0⟩])
      (.seq (.region [⟨(some 9), .mov (.tmp 0), none, 0⟩,
        ⟨(some 10), .call Id.compact_Machine_object [.tmp 9], none, 0⟩,
        ⟨(some 6), .lbox (.const (.agg #[.int .i64 0, .int .i64 0, .int .i64 0, .bool false])), none, 0⟩,
        ⟨(some 6), .lstore none 6 0 4 (.tmp 10), none, 0⟩])
      (.seq (.region [⟨(some 13), .mov (.tmp 0), none, 0⟩,
        ⟨(some 14), .nilchk (.tmp 13), none, 0⟩,
        ⟨(some 15), .faddr 0 (.tmp 14), none, 0⟩,
        ⟨(some 16), .load (some 2) (.tmp 15), none, 0⟩,
        ⟨(some 17), .laddr none 6 0, none, 0⟩,
        ⟨(some 18), .lload (some 17) 6 0 none, none, 0⟩,
        ⟨(some 19), .call Id.layout_Layout_Entry [.tmp 16, .tmp 18], none, 0⟩,
        ⟨(some 12), .mov (.tmp 1), none, 0⟩,
        ⟨(some 20), .mkfn (.method "Load") [.tmp 12] [], none, 0⟩,
        ⟨(some 21), .nilchkm "Load" [(41, Id.cells_Plain_Load)] (.tmp 20), none, 0⟩,
        ⟨(some 22), .mov (.tmp 12), none, 0⟩,
        ⟨(some 23), .invoke [(41, Id.cells_Plain_Load)] (.tmp 22) [.tmp 19], none, 0⟩,
        ⟨(some 11), .mov (.tmp 0), none, 0⟩,
        ⟨(some 24), .nilchk (.tmp 11), none, 0⟩,
        ⟨(some 25), .faddr 81 (.tmp 24), none, 0⟩,
        ⟨none, .store 1 (.tmp 25) (.tmp 23), none, 0⟩])
      (.seq (.region [⟨(some 27), .mov (.tmp 0), none, 0⟩,
        ⟨(some 28), .nilchk (.tmp 27), none, 0⟩,
        ⟨(some 29), .faddr 81 (.tmp 28), none, 0⟩,
        ⟨(some 30), .load none (.tmp 29), none, 0⟩,
        ⟨(some 31), .call Id.entry_Unpack [.tmp 30], none, 0⟩,
        ⟨(some 26), .mov (.tmp 31), none, 0⟩,
        ⟨(some 32), .extract (.tmp 26) 0, none, 0⟩,
        ⟨(some 33), .extract (.tmp 26) 1, none, 0⟩,
        ⟨(some 7), .lbox (.const (.agg #[.int .i64 0, .int .i64 0, .int .i64 0, .int .i64 0, .bool false, .bool false])), none, 0⟩,
        ⟨(some 7), .lstore none 7 0 6 (.tmp 32), none, 0⟩,
        ⟨(some 8), .mov (.tmp 33), none, 0⟩])
      (.seq (.block 0 (.seq (.region [⟨(some 35), .mov (.tmp 8), none, 0⟩,
        ⟨(some 36), .bin .neq (.tmp 35) (.const (.int .i64 0)), none, 0⟩,
        ⟨(some 37), .mov (.tmp 36), none, 0⟩,
        ⟨(some 38), .laddr none 7 5, (some (37, false)), 0⟩,
        ⟨(some 39), .lload (some 38) 7 5 none, (some (37, false)), 0⟩,
        ⟨(some 40), .un .not (.tmp 39), (some (37, false)), 0⟩,
        ⟨(some 41), .pick (.tmp 37) (.const (.bool true)) (.tmp 40), none, 0⟩,
        ⟨(some 42), .mov (.tmp 41), none, 0⟩,
        ⟨(some 43), .laddr none 7 1, (some (42, false)), 0⟩,
        ⟨(some 44), .lload (some 43) 7 1 none, (some (42, false)), 0⟩,
        ⟨(some 45), .mov (.tmp 0), (some (42, false)), 0⟩,
        ⟨(some 46), .laddr none 6 0, (some (42, false)), 0⟩,
        ⟨(some 47), .lload (some 46) 6 0 none, (some (42, false)), 0⟩,
        ⟨(some 48), .nilchk (.tmp 45), (some (42, false)), 0⟩,
        ⟨(some 49), .faddr 15 (.tmp 48), (some (42, false)), 0⟩,
        ⟨(some 50), .iaddr (some 64) 1 (.tmp 49) (.tmp 47), (some (42, false)), 0⟩,
        ⟨(some 51), .load none (.tmp 50), (some (42, false)), 0⟩,
        ⟨(some 52), .bin .neq (.tmp 44) (.tmp 51), (some (42, false)), 0⟩,
        ⟨(some 53), .pick (.tmp 42) (.const (.bool true)) (.tmp 52), none, 0⟩,
        ⟨(some 54), .mov (.tmp 53), none, 0⟩,
        ⟨(some 55), .laddr none 7 0, (some (54, false)), 0⟩,
        ⟨(some 56), .lload (some 55) 7 0 none, (some (54, false)), 0⟩,
        ⟨(some 57), .laddr none 6 1, (some (54, false)), 0⟩,
        ⟨(some 58), .lload (some 57) 6 1 none, (some (54, false)), 0⟩,
        ⟨(some 59), .bin .neq (.tmp 56) (.tmp 58), (some (54, false)), 0⟩,
        ⟨(some 60), .pick (.tmp 54) (.const (.bool true)) (.tmp 59), none, 0⟩,
        ⟨(some 34), .mov (.tmp 60), none, 0⟩])
      (.cond (.tmp 34)
        (.seq (.region [⟨(some 61), .mov (.tmp 0), none, 0⟩,
          ⟨(some 62), .call Id.compact_Machine_passed [.tmp 61], none, 0⟩,
          ⟨(some 63), .extract (.tmp 62) 0, none, 0⟩,
          ⟨(some 64), .extract (.tmp 62) 1, none, 0⟩,
          ⟨(some 4), .lstore none 4 0 2 (.tmp 63), none, 0⟩,
          ⟨(some 5), .mov (.tmp 64), none, 0⟩])
        (.ret))
        (.seq (.region [⟨(some 66), .laddr none 7 2, none, 0⟩,
          ⟨(some 67), .lload (some 66) 7 2 none, none, 0⟩,
          ⟨(some 68), .laddr none 7 3, none, 0⟩,
          ⟨(some 69), .lload (some 68) 7 3 none, none, 0⟩,
          ⟨(some 70), .bin .add (.tmp 67) (.tmp 69), none, 0⟩,
          ⟨(some 71), .bin .gtr (.tmp 70) (.const (.int .i64 0)), none, 0⟩,
          ⟨(some 72), .mov (.tmp 71), none, 0⟩,
          ⟨(some 73), .laddr none 7 4, (some (72, false)), 0⟩,
          ⟨(some 74), .lload (some 73) 7 4 none, (some (72, false)), 0⟩,
          ⟨(some 75), .pick (.tmp 72) (.const (.bool true)) (.tmp 74), none, 0⟩,
          ⟨(some 76), .mov (.tmp 75), none, 0⟩,
          ⟨(some 77), .laddr none 7 0, (some (76, false)), 0⟩,
          ⟨(some 78), .lload (some 77) 7 0 none, (some (76, false)), 0⟩,
          ⟨(some 79), .mov (.tmp 0), (some (76, false)), 0⟩,
          ⟨(some 80), .nilchk (.tmp 79), (some (76, false)), 0⟩,
          ⟨(some 81), .faddr 80 (.tmp 80), (some (76, false)), 0⟩,
          ⟨(some 82), .load none (.tmp 81), (some (76, false)), 0⟩,
          ⟨(some 83), .bin .leq (.tmp 78) (.tmp 82), (some (76, false)), 0⟩,
          ⟨(some 84), .pick (.tmp 76) (.const (.bool true)) (.tmp 83), none, 0⟩,
          ⟨(some 65), .mov (.tmp 84), none, 0⟩])
        (.cond (.tmp 65)
          (.seq (.region [⟨(some 85), .mov (.tmp 0), none, 0⟩,
            ⟨(some 86), .mov (.tmp 0), none, 0⟩,
            ⟨(some 87), .nilchk (.tmp 86), none, 0⟩,
            ⟨(some 88), .faddr 80 (.tmp 87), none, 0⟩,
            ⟨(some 89), .load none (.tmp 88), none, 0⟩,
            ⟨(some 90), .laddr none 6 1, none, 0⟩,
            ⟨(some 91), .lload (some 90) 6 1 none, none, 0⟩,
            ⟨(some 92), .laddr none 6 2, none, 0⟩,
            ⟨(some 93), .lload (some 92) 6 2 none, none, 0⟩,
            ⟨(some 94), .bin .add (.tmp 91) (.tmp 93), none, 0⟩,
            ⟨(some 95), .max [.tmp 89, .tmp 94], none, 0⟩,
            ⟨(some 96), .nilchk (.tmp 85), none, 0⟩,
            ⟨(some 97), .faddr 80 (.tmp 96), none, 0⟩,
            ⟨none, .store 1 (.tmp 97) (.tmp 95), none, 0⟩])
          (.seq (.region [⟨(some 98), .mov (.tmp 0), none, 0⟩,
            ⟨(some 99), .call Id.compact_Machine_passed [.tmp 98], none, 0⟩,
            ⟨(some 100), .extract (.tmp 99) 0, none, 0⟩,
            ⟨(some 101), .extract (.tmp 99) 1, none, 0⟩,
            ⟨(some 4), .lstore none 4 0 2 (.tmp 100), none, 0⟩,
            ⟨(some 5), .mov (.tmp 101), none, 0⟩])
          (.ret)))
          (.skip))))))
      (.seq (.region [⟨(some 102), .mov (.tmp 0), none, 0⟩,
        ⟨(some 103), .call Id.compact_Machine_on [.tmp 102, .const (.int .i64 6)], none, 0⟩,
        ⟨(some 104), .extract (.tmp 103) 0, none, 0⟩,
        ⟨(some 105), .extract (.tmp 103) 1, none, 0⟩,
        ⟨(some 4), .lstore none 4 0 2 (.tmp 104), none, 0⟩,
        ⟨(some 5), .mov (.tmp 105), none, 0⟩])
      (.ret)))))) }

def F.compact_Machine_lock : IFunc :=
  { lb := [4], scr := false, nargs := 2, res := [.lb 4 (some 2), .tmp 5],
    body := .seq (.region [⟨(some 4), .lbox (.const (.agg #[.int .i64 0, .int .i64 0])), none, 0⟩,
        ⟨(some 5), .mov (.const (.bool false)), none, 0⟩])
      (.seq (.region [⟨(some 9), .mov (.tmp 0), none, 0⟩,
        ⟨(some 10), .nilchk (.tmp 9), none, 0⟩,
        ⟨(some 11), .faddr 81 (.tmp 10), none, 0⟩,
        ⟨(some 12), .load none (.tmp 11), none, 0⟩,
        ⟨(some 13), .call Id.entry_Lock [.tmp 12, .const (.bool true)], none, 0⟩,
        ⟨(some 8), .mov (.tmp 13), none, 0⟩,
        ⟨(some 14), .extract (.tmp 8) 0, none, 0⟩,
        ⟨(some 15), .extract (.tmp 8) 1, none, 0⟩,
        ⟨(some 6), .mov (.tmp 14), none, 0⟩,
        ⟨(some 7), .mov (.tmp 15), none, 0⟩])
      (.seq (.seq (.region [⟨(some 21), .mov (.tmp 0), none, 0⟩,
        ⟨(some 22), .call Id.compact_Machine_object [.tmp 21], none, 0⟩,
        ⟨(some 17), .mov (.tmp 0), none, 0⟩,
        ⟨(some 18), .nilchk (.tmp 17), none, 0⟩,
        ⟨(some 19), .faddr 0 (.tmp 18), none, 0⟩,
        ⟨(some 20), .load (some 2) (.tmp 19), none, 1⟩,
        ⟨(some 23), .field 0 none (.tmp 22), none, 0⟩,
        ⟨(some 24), .call Id.layout_Layout_Entry [.tmp 20, .tmp 23], none, 0⟩,
        ⟨(some 16), .mov (.tmp 1), none, 0⟩,
        ⟨(some 25), .mov (.tmp 0), none, 0⟩,
        ⟨(some 26), .nilchk (.tmp 25), none, 0⟩,
        ⟨(some 27), .faddr 81 (.tmp 26), none, 0⟩,
        ⟨(some 28), .load none (.tmp 27), none, 2⟩,
        ⟨(some 29), .mov (.tmp 6), none, 0⟩,
        ⟨(some 30), .mkfn (.method "Cas") [.tmp 16] [], none, 0⟩,
        ⟨(some 31), .nilchkm "Cas" [(41, Id.cells_Plain_Cas)] (.tmp 30), none, 0⟩,
        ⟨(some 32), .mov (.tmp 16), none, 0⟩,
        ⟨(some 33), .invoke [(41, Id.cells_Plain_Cas)] (.tmp 32) [.tmp 24, .tmp 28, .tmp 29], none, 0⟩,
        ⟨(some 34), .un .not (.tmp 33), none, 0⟩])
      (.cond (.tmp 34)
        (.seq (.region [⟨(some 35), .mov (.tmp 0), none, 0⟩,
          ⟨(some 36), .call Id.compact_Machine_on [.tmp 35, .const (.int .i64 5)], none, 0⟩,
          ⟨(some 37), .extract (.tmp 36) 0, none, 0⟩,
          ⟨(some 38), .extract (.tmp 36) 1, none, 0⟩,
          ⟨(some 4), .lstore none 4 0 2 (.tmp 37), none, 0⟩,
          ⟨(some 5), .mov (.tmp 38), none, 0⟩])
        (.ret))
        (.skip)))
      (.seq (.region [⟨(some 39), .mov (.tmp 0), none, 0⟩,
        ⟨(some 40), .mov (.tmp 0), none, 0⟩,
        ⟨(some 41), .mov (.tmp 6), none, 0⟩,
        ⟨(some 42), .nilchk (.tmp 39), none, 0⟩,
        ⟨(some 43), .faddr 81 (.tmp 42), none, 0⟩,
        ⟨none, .store 1 (.tmp 43) (.tmp 41), none, 0⟩,
        ⟨(some 44), .nilchk (.tmp 40), none, 0⟩,
        ⟨(some 45), .faddr 82 (.tmp 44), none, 0⟩,
        ⟨none, .store 1 (.tmp 45) (.const (.int .i64 0)), none, 0⟩])
      (.seq (.region [⟨(some 46), .mov (.tmp 0), none, 0⟩,
        ⟨(some 47), .call Id.compact_Machine_on [.tmp 46, .const (.int .i64 7)], none, 0⟩,
        ⟨(some 48), .extract (.tmp 47) 0, none, 0⟩,
        ⟨(some 49), .extract (.tmp 47) 1, none, 0⟩,
        ⟨(some 4), .lstore none 4 0 2 (.tmp 48), none, 0⟩,
        ⟨(some 5), .mov (.tmp 49), none, 0⟩])
      (.ret))))) }

def F.compact_Machine_object : IFunc :=
  { lb := [2], scr := false, nargs := 1, res := [.lb 2 (some 4)],
    body := .seq (.region [⟨(some 2), .lbox (.const (.agg #[.int .i64 0, .int .i64 0, .int .i64 0, .bool false])), none, 0⟩])
      (.seq (.region [⟨(some 3), .mov (.tmp 0), none, 0⟩,
        ⟨(some 4), .nilchk (.tmp 3), none, 0⟩,
        ⟨(some 5), .faddr 14 (.tmp 4), none, 0⟩,
        ⟨(some 6), .load none (.tmp 5), none, 0⟩,
        ⟨(some 7), .mov (.tmp 0), none, 0⟩,
        ⟨(some 8), .nilchk (.tmp 7), none, 0⟩,
        ⟨(some 9), .faddr 79 (.tmp 8), none, 0⟩,
        ⟨(some 10), .load none (.tmp 9), none, 0⟩,
        ⟨(some 11), .iaddr none 4 (.tmp 6) (.tmp 10), none, 0⟩,
        ⟨(some 12), .load (some 4) (.tmp 11), none, 0⟩,
        ⟨(some 2), .lstore none 2 0 4 (.tmp 12), none, 0⟩])
      (.ret)) }

def F.compact_Machine_lay : IFunc :=
  { lb := [4], scr := false, nargs := 2, res := [.lb 4 (some 2), .tmp 5],
    body := .seq (.region [⟨(some 4), .lbox (.const (.agg #[.int .i64 0, .int .i64 0])), none, 0⟩,
        ⟨(some 5), .mov (.const (.bool false)), none, 0⟩])
      (.seq (.region [⟨(some 6), .mov (.tmp 1), none, 0⟩,
        ⟨(some 7), .mov (.tmp 0), none, 0⟩,
        ⟨(some 8), .nilchk (.tmp 7), none, 0⟩,
        ⟨(some 9), .faddr 80 (.tmp 8), none, 0⟩,
        ⟨(some 10), .load none (.tmp 9), none, 0⟩,
        ⟨(some 11), .mov (.tmp 0), none, 0⟩,
        ⟨(some 12), .nilchk (.tmp 11), none, 0⟩,
        ⟨(some 13), .faddr 82 (.tmp 12), none, 0⟩,
        ⟨(some 14), .load none (.tmp 13), none, 0⟩,
        ⟨(some 15), .bin .add (.tmp 10) (.tmp 14), none, 0⟩,
        ⟨(some 16), .mov (.tmp 0), none, 0⟩,
        ⟨(some 17), .nilchk (.tmp 16), none, 0⟩,
        ⟨(some 18), .faddr 83 (.tmp 17), none, 0⟩,
        ⟨(some 19), .load none (.tmp 18), none, 0⟩,
        ⟨(some 20), .mkfn (.method "SetByte") [.tmp 6] [], none, 0⟩,
        ⟨(some 21), .nilchkm "SetByte" [(41, Id.cells_Plain_SetByte)] (.tmp 20), none, 0⟩,
        ⟨(some 22), .mov (.tmp 6), none, 0⟩,
        ⟨(some 23), .invoke [(41, Id.cells_Plain_SetByte)] (.tmp 22) [.tmp 15, .tmp 19], none, 0⟩])
      (.seq (.seq (.region [⟨(some 24), .mov (.tmp 0), none, 0⟩,
        ⟨(some 25), .nilchk (.tmp 24), none, 0⟩,
        ⟨(some 26), .faddr 82 (.tmp 25), none, 0⟩,
        ⟨(some 27), .load none (.tmp 26), none, 0⟩,
        ⟨(some 28), .bin .add (.tmp 27) (.const (.int .i64 1)), none, 0⟩,
        ⟨(some 29), .nilchk (.tmp 24), none, 0⟩,
        ⟨(some 30), .faddr 82 (.tmp 29), none, 0⟩,
        ⟨none, .store 1 (.tmp 30) (.tmp 28), none, 0⟩])
      (.seq (.region [⟨(some 35), .mov (.tmp 0), none, 0⟩,
        ⟨(some 36), .call Id.compact_Machine_object [.tmp 35], none, 0⟩,
        ⟨(some 31), .mov (.tmp 0), none, 0⟩,
        ⟨(some 32), .nilchk (.tmp 31), none, 0⟩,
        ⟨(some 33), .faddr 82 (.tmp 32), none, 0⟩,
        ⟨(some 34), .load none (.tmp 33), none, 1⟩,
        ⟨(some 37), .field 2 none (.tmp 36), none, 0⟩,
        ⟨(some 38), .bin .lss (.tmp 34) (.tmp 37), none, 0⟩])
      (.cond (.tmp 38)
        (.seq (.region [⟨(some 39), .mov (.tmp 0), none, 0⟩,
          ⟨(some 40), .call Id.compact_Machine_on [.tmp 39, .const (.int .i64 7)], none, 0⟩,
          ⟨(some 41), .extract (.tmp 40) 0, none, 0⟩,
          ⟨(some 42), .extract (.tmp 40) 1, none, 0⟩,
          ⟨(some 4), .lstore none 4 0 2 (.tmp 41), none, 0⟩,
          ⟨(some 5), .mov (.tmp 42), none, 0⟩])
        (.ret))
        (.skip))))
      (.seq (.region [⟨(some 43), .mov (.tmp 0), none, 0⟩,
        ⟨(some 44), .call Id.compact_Machine_on [.tmp 43, .const (.int .i64 9)], none, 0⟩,
        ⟨(some 45), .extract (.tmp 44) 0, none, 0⟩,
        ⟨(some 46), .extract (.tmp 44) 1, none, 0⟩,
        ⟨(some 4), .lstore none 4 0 2 (.tmp 45), none, 0⟩,
        ⟨(some 5), .mov (.tmp 46), none, 0⟩])
      (.ret)))) }

def F.compact_Machine_store : IFunc :=
  { lb := [4], scr := false, nargs := 2, res := [.lb 4 (some 2), .tmp 5],
    body := .seq (.region [⟨(some 4), .lbox (.const (.agg #[.int .i64 0, .int .i64 0])), none, 0⟩,
        ⟨(some 5), .mov (.const (.bool false)), none, 0⟩])
      (.seq (.region [⟨(some 9), .mov (.tmp 0), none, 0⟩,
        ⟨(some 10), .nilchk (.tmp 9), none, 0⟩,
        ⟨(some 11), .faddr 81 (.tmp 10), none, 0⟩,
        ⟨(some 12), .load none (.tmp 11), none, 0⟩,
        ⟨(some 13), .mov (.tmp 0), none, 0⟩,
        ⟨(some 14), .nilchk (.tmp 13), none, 0⟩,
        ⟨(some 15), .faddr 80 (.tmp 14), none, 0⟩,
        ⟨(some 16), .load none (.tmp 15), none, 0⟩,
        ⟨(some 17), .call Id.entry_Move [.tmp 12, .tmp 16], none, 0⟩,
        ⟨(some 8), .mov (.tmp 17), none, 0⟩,
        ⟨(some 18), .extract (.tmp 8) 0, none, 0⟩,
        ⟨(some 19), .extract (.tmp 8) 1, none, 0⟩,
        ⟨(some 6), .mov (.tmp 18), none, 0⟩,
        ⟨(some 7), .mov (.tmp 19), none, 0⟩])
      (.seq (.region [⟨(some 25), .mov (.tmp 0), none, 0⟩,
        ⟨(some 26), .call Id.compact_Machine_object [.tmp 25], none, 0⟩,
        ⟨(some 21), .mov (.tmp 0), none, 0⟩,
        ⟨(some 22), .nilchk (.tmp 21), none, 0⟩,
        ⟨(some 23), .faddr 0 (.tmp 22), none, 0⟩,
        ⟨(some 24), .load (some 2) (.tmp 23), none, 1⟩,
        ⟨(some 27), .field 0 none (.tmp 26), none, 0⟩,
        ⟨(some 28), .call Id.layout_Layout_Entry [.tmp 24, .tmp 27], none, 0⟩,
        ⟨(some 20), .mov (.tmp 1), none, 0⟩,
        ⟨(some 29), .mov (.tmp 6), none, 0⟩,
        ⟨(some 30), .mkfn (.method "Store") [.tmp 20] [], none, 0⟩,
        ⟨(some 31), .nilchkm "Store" [(41, Id.cells_Plain_Store)] (.tmp 30), none, 0⟩,
        ⟨(some 32), .mov (.tmp 20), none, 0⟩,
        ⟨(some 33), .invoke [(41, Id.cells_Plain_Store)] (.tmp 32) [.tmp 28, .tmp 29], none, 0⟩])
      (.seq (.region [⟨(some 38), .mov (.tmp 0), none, 0⟩,
        ⟨(some 39), .call Id.compact_Machine_object [.tmp 38], none, 0⟩,
        ⟨(some 34), .mov (.tmp 0), none, 0⟩,
        ⟨(some 35), .nilchk (.tmp 34), none, 0⟩,
        ⟨(some 36), .faddr 80 (.tmp 35), none, 0⟩,
        ⟨(some 37), .load none (.tmp 36), none, 1⟩,
        ⟨(some 40), .field 2 none (.tmp 39), none, 0⟩,
        ⟨(some 41), .bin .add (.tmp 37) (.tmp 40), none, 0⟩,
        ⟨(some 42), .nilchk (.tmp 34), none, 0⟩,
        ⟨(some 43), .faddr 80 (.tmp 42), none, 0⟩,
        ⟨none, .store 1 (.tmp 43) (.tmp 41), none, 0⟩])
      (.seq (.region [⟨(some 44), .mov (.tmp 0), none, 0⟩,
        ⟨(some 45), .nilchk (.tmp 44), none, 0⟩,
        ⟨(some 46), .faddr 84 (.tmp 45), none, 0⟩,
        ⟨(some 47), .load none (.tmp 46), none, 0⟩,
        ⟨(some 48), .bin .add (.tmp 47) (.const (.int .i64 1)), none, 0⟩,
        ⟨(some 49), .nilchk (.tmp 44), none, 0⟩,
        ⟨(some 50), .faddr 84 (.tmp 49), none, 0⟩,
        ⟨none, .store 1 (.tmp 50) (.tmp 48), none, 0⟩])
      (.seq (.region [⟨(some 51), .mov (.tmp 0), none, 0⟩,
        ⟨(some 52), .call Id.compact_Machine_passed [.tmp 51], none, 0⟩,
        ⟨(some 53), .extract (.tmp 52) 0, none, 0⟩,
        ⟨(some 54), .extract (.tmp 52) 1, none, 0⟩,
        ⟨(some 4), .lstore none 4 0 2 (.tmp 53), none, 0⟩,
        ⟨(some 5), .mov (.tmp 54), none, 0⟩])
      (.ret)))))) }

def F.compact_Machine_turn : IFunc :=
  { lb := [4], scr := false, nargs := 2, res := [.lb 4 (some 2), .tmp 5],
    body := .seq (.region [⟨(some 4), .lbox (.const (.agg #[.int .i64 0, .int .i64 0])), none, 0⟩,
        ⟨(some 5), .mov (.const (.bool false)), none, 0⟩])
      (.seq (.region [⟨(some 9), .mov (.tmp 0), none, 0⟩,
        ⟨(some 10), .nilchk (.tmp 9), none, 0⟩,
        ⟨(some 11), .faddr 85 (.tmp 10), none, 0⟩,
        ⟨(some 12), .load none (.tmp 11), none, 0⟩,
        ⟨(some 13), .mov (.tmp 1), none, 0⟩,
        ⟨(some 14), .call Id.epoch_Turn_Step [.tmp 12, .tmp 13], none, 0⟩,
        ⟨(some 8), .mov (.tmp 14), none, 0⟩,
        ⟨(some 15), .extract (.tmp 8) 0, none, 0⟩,
        ⟨(some 16), .extract (.tmp 8) 1, none, 0⟩,
        ⟨(some 6), .mov (.tmp 15), none, 0⟩,
        ⟨(some 7), .mov (.tmp 16), none, 0⟩])
      (.seq (.block 0 (.seq (.region [⟨(some 18), .mov (.tmp 7), none, 0⟩,
        ⟨(some 19), .un .not (.tmp 18), none, 0⟩,
        ⟨(some 17), .mov (.tmp 19), none, 0⟩])
      (.cond (.tmp 17)
        (.seq (.region [⟨(some 20), .mov (.tmp 0), none, 0⟩,
          ⟨(some 21), .call Id.compact_Machine_on [.tmp 20, .const (.int .i64 10)], none, 0⟩,
          ⟨(some 22), .extract (.tmp 21) 0, none, 0⟩,
          ⟨(some 23), .extract (.tmp 21) 1, none, 0⟩,
          ⟨(some 4), .lstore none 4 0 2 (.tmp 22), none, 0⟩,
          ⟨(some 5), .mov (.tmp 23), none, 0⟩])
        (.ret))
        (.seq (.region [⟨(some 25), .mov (.tmp 6), none, 0⟩,
          ⟨(some 26), .un .not (.tmp 25), none, 0⟩,
          ⟨(some 24), .mov (.tmp 26), none, 0⟩])
        (.cond (.tmp 24)
          (.seq (.region [⟨(some 27), .mov (.tmp 0), none, 0⟩,
            ⟨(some 28), .call Id.compact_Machine_end [.tmp 27], none, 0⟩,
            ⟨(some 29), .extract (.tmp 28) 0, none, 0⟩,
            ⟨(some 30), .extract (.tmp 28) 1, none, 0⟩,
            ⟨(some 4), .lstore none 4 0 2 (.tmp 29), none, 0⟩,
            ⟨(some 5), .mov (.tmp 30), none, 0⟩])
          (.ret))
          (.skip))))))
      (.seq (.region [⟨(some 31), .mov (.tmp 0), none, 0⟩,
        ⟨(some 32), .call Id.compact_Machine_on [.tmp 31, .const (.int .i64 11)], none, 0⟩,
        ⟨(some 33), .extract (.tmp 32) 0, none, 0⟩,
        ⟨(some 34), .extract (.tmp 32) 1, none, 0⟩,
        ⟨(some 4), .lstore none 4 0 2 (.tmp 33), none, 0⟩,
        ⟨(some 5), .mov (.tmp 34), none, 0⟩])
      (.ret)))) }

def F.layout_Layout_Note : IFunc :=
  { lb := [2], scr := false, nargs := 2, res := [.tmp 4],
    body := .seq (.region [⟨(some 2), .lbox (.tmp 0), none, 0⟩,
        ⟨(some 4), .mov (.const (.int .i64 0)), none, 0⟩])
      (.seq (.seq (.region [⟨(some 5), .mov (.tmp 1), none, 0⟩,
        ⟨(some 6), .laddr none 2 0, none, 0⟩,
        ⟨(some 7), .lload (some 6) 2 0 none, none, 0⟩,
        ⟨(some 8), .bin .sub (.tmp 7) (.const (.int .i64 1)), none, 0⟩,
        ⟨(some 9), .call Id.layout_in [.tmp 5, .const (.int .i64 0), .tmp 8], none, 0⟩,
        ⟨(some 10), .un .not (.tmp 9), none, 0⟩])
      (.cond (.tmp 10)
        (.seq (.region [⟨(some 4), .mov (.const (.int .i64 (-1))), none, 0⟩])
        (.ret))
        (.skip)))
      (.seq (.region [⟨(some 11), .mov (.tmp 1), none, 0⟩,
        ⟨(some 12), .bin .add (.const (.int .i64 4)) (.tmp 11), none, 0⟩,
        ⟨(some 4), .mov (.tmp 12), none, 0⟩])
      (.ret))) }

def F.layout_Layout_Epoch : IFunc :=
  { lb := [1], scr := false, nargs := 1, res := [.tmp 2],
    body := .seq (.region [⟨(some 1), .lbox (.tmp 0), none, 0⟩,
        ⟨(some 2), .mov (.const (.int .i64 0)), none, 0⟩])
      (.seq (.region [⟨(some 3), .lload none 1 0 (some 2), none, 0⟩,
        ⟨(some 4), .call Id.layout_Layout_once [.tmp 3, .const (.int .i64 3)], none, 0⟩,
        ⟨(some 2), .mov (.tmp 4), none, 0⟩])
      (.ret)) }

def F.alloc_New : IFunc :=
  { lb := [2, 5], scr := false, nargs := 2, res := [.tmp 4],
    body := .seq (.region [⟨(some 2), .lbox (.tmp 0), none, 0⟩,
        ⟨(some 4), .mov (.const (.pointer none)), none, 0⟩])
      (.seq (.region [⟨(some 9), .lload none 2 0 (some 3), none, 0⟩,
        ⟨(some 10), .call Id.layout_Of [.tmp 9], none, 0⟩,
        ⟨(some 8), .mov (.tmp 10), none, 0⟩,
        ⟨(some 11), .extract (.tmp 8) 0, none, 0⟩,
        ⟨(some 12), .extract (.tmp 8) 1, none, 0⟩,
        ⟨(some 5), .lbox (.const (.agg #[.int .i64 0, .int .i64 0])), none, 0⟩,
        ⟨(some 5), .lstore none 5 0 2 (.tmp 11), none, 0⟩,
        ⟨(some 6), .mov (.tmp 12), none, 0⟩])
      (.seq (.region [⟨(some 13), .lload none 5 0 (some 2), none, 0⟩,
        ⟨(some 14), .call Id.stack_NewPop [.tmp 13], none, 0⟩,
        ⟨(some 15), .lload none 5 0 (some 2), none, 0⟩,
        ⟨(some 16), .laddr none 2 0, none, 0⟩,
        ⟨(some 17), .lload (some 16) 2 0 none, none, 0⟩,
        ⟨(some 18), .mov (.tmp 1), none, 0⟩,
        ⟨(some 19), .build [.pointer none, .pointer none, .int .i64 0, .int .i64 0, .int .i64 0, .int .i64 0, .int .i64 0, .int .i64 0, .int .i64 0, .int .i64 0, .int .i64 0, .int .i64 0, .int .i64 0, .int .i64 0, .int .i64 0, .bool false] [(0, 1, .tmp 14), (2, 2, .tmp 15), (4, 1, .tmp 17), (5, 1, .tmp 18), (7, 1, .const (.int .i64 1))], none, 0⟩,
        ⟨(some 20), .box (.tmp 19), none, 0⟩,
        ⟨(some 7), .mov (.tmp 20), none, 0⟩])
      (.seq (.region [⟨(some 22), .mov (.tmp 7), none, 0⟩,
        ⟨(some 23), .mov (.tmp 1), none, 0⟩,
        ⟨(some 24), .call Id.handle_Round [.tmp 23], none, 0⟩,
        ⟨(some 21), .mov (.tmp 24), none, 0⟩,
        ⟨(some 25), .extract (.tmp 21) 0, none, 0⟩,
        ⟨(some 26), .extract (.tmp 21) 1, none, 0⟩,
        ⟨(some 27), .nilchk (.tmp 22), none, 0⟩,
        ⟨(some 28), .faddr 6 (.tmp 27), none, 0⟩,
        ⟨none, .store 1 (.tmp 28) (.tmp 25), none, 0⟩])
      (.seq (.seq (.region [⟨(some 29), .mov (.tmp 6), none, 0⟩,
        ⟨(some 30), .bin .neq (.tmp 29) (.const (.int .i64 0)), none, 0⟩])
      (.cond (.tmp 30)
        (.region [⟨(some 31), .mov (.tmp 7), none, 0⟩,
          ⟨(some 32), .nilchk (.tmp 31), none, 0⟩,
          ⟨(some 33), .faddr 7 (.tmp 32), none, 0⟩,
          ⟨none, .store 1 (.tmp 33) (.const (.int .i64 0)), none, 0⟩])
        (.skip)))
      (.seq (.region [⟨(some 34), .mov (.tmp 7), none, 0⟩,
        ⟨(some 4), .mov (.tmp 34), none, 0⟩])
      (.ret)))))) }

def F.free_New : IFunc :=
  { lb := [2, 5], scr := false, nargs := 2, res := [.tmp 4],
    body := .seq (.region [⟨(some 2), .lbox (.tmp 0), none, 0⟩,
        ⟨(some 4), .mov (.const (.pointer none)), none, 0⟩])
      (.seq (.region [⟨(some 12), .lload none 2 0 (some 3), none, 0⟩,
        ⟨(some 13), .call Id.layout_Of [.tmp 12], none, 0⟩,
        ⟨(some 11), .mov (.tmp 13), none, 0⟩,
        ⟨(some 14), .extract (.tmp 11) 0, none, 0⟩,
        ⟨(some 15), .extract (.tmp 11) 1, none, 0⟩,
        ⟨(some 5), .lbox (.const (.agg #[.int .i64 0, .int .i64 0])), none, 0⟩,
        ⟨(some 5), .lstore none 5 0 2 (.tmp 14), none, 0⟩,
        ⟨(some 6), .mov (.tmp 15), none, 0⟩])
      (.seq (.region [⟨(some 17), .mov (.tmp 1), none, 0⟩,
        ⟨(some 18), .laddr none 2 1, none, 0⟩,
        ⟨(some 19), .lload (some 18) 2 1 none, none, 0⟩,
        ⟨(some 20), .call Id.handle_Of [.tmp 17, .tmp 19], none, 0⟩,
        ⟨(some 16), .mov (.tmp 20), none, 0⟩,
        ⟨(some 21), .extract (.tmp 16) 0, none, 0⟩,
        ⟨(some 22), .extract (.tmp 16) 1, none, 0⟩,
        ⟨(some 23), .extract (.tmp 16) 2, none, 0⟩,
        ⟨(some 7), .mov (.tmp 21), none, 0⟩,
        ⟨(some 8), .mov (.tmp 22), none, 0⟩,
        ⟨(some 9), .mov (.tmp 23), none, 0⟩])
      (.seq (.region [⟨(some 24), .lload none 5 0 (some 2), none, 0⟩,
        ⟨(some 25), .mov (.tmp 7), none, 0⟩,
        ⟨(some 26), .mov (.tmp 8), none, 0⟩,
        ⟨(some 27), .mov (.tmp 9), none, 0⟩,
        ⟨(some 28), .bin .neq (.tmp 27) (.const (.int .i64 0)), none, 0⟩,
        ⟨(some 29), .build [.int .i64 0, .int .i64 0, .int .i64 0, .int .i64 0, .bool false, .int .i64 0, .int .i64 0, .int .i64 0, .bool false, .pointer none] [(0, 2, .tmp 24), (2, 1, .tmp 25), (3, 1, .tmp 26), (4, 1, .tmp 28), (5, 1, .const (.int .i64 1))], none, 0⟩,
        ⟨(some 30), .box (.tmp 29), none, 0⟩,
        ⟨(some 10), .mov (.tmp 30), none, 0⟩])
      (.seq (.seq (.region [⟨(some 31), .mov (.tmp 6), none, 0⟩,
        ⟨(some 32), .bin .neq (.tmp 31) (.const (.int .i64 0)), none, 0⟩])
      (.cond (.tmp 32)
        (.region [⟨(some 33), .mov (.tmp 10), none, 0⟩,
          ⟨(some 34), .nilchk (.tmp 33), none, 0⟩,
          ⟨(some 35), .faddr 5 (.tmp 34), none, 0⟩,
          ⟨none, .store 1 (.tmp 35) (.const (.int .i64 0)), none, 0⟩])
        (.skip)))
      (.seq (.region [⟨(some 36), .mov (.tmp 10), none, 0⟩,
        ⟨(some 4), .mov (.tmp 36), none, 0⟩])
      (.ret)))))) }

def F.read_New : IFunc :=
  { lb := [3, 7], scr := false, nargs := 3, res := [.tmp 6],
    body := .seq (.region [⟨(some 3), .lbox (.tmp 0), none, 0⟩,
        ⟨(some 6), .mov (.const (.pointer none)), none, 0⟩])
      (.seq (.region [⟨(some 12), .lload none 3 0 (some 3), none, 0⟩,
        ⟨(some 13), .call Id.layout_Of [.tmp 12], none, 0⟩,
        ⟨(some 11), .mov (.tmp 13), none, 0⟩,
        ⟨(some 14), .extract (.tmp 11) 0, none, 0⟩,
        ⟨(some 15), .extract (.tmp 11) 1, none, 0⟩,
        ⟨(some 7), .lbox (.const (.agg #[.int .i64 0, .int .i64 0])), none, 0⟩,
        ⟨(some 7), .lstore none 7 0 2 (.tmp 14), none, 0⟩,
        ⟨(some 8), .mov (.tmp 15), none, 0⟩])
      (.seq (.region [⟨(some 16), .lload none 7 0 (some 2), none, 0⟩,
        ⟨(some 17), .mov (.tmp 2), none, 0⟩,
        ⟨(some 18), .build [.int .i64 0, .int .i64 0, .int .i64 0, .int .i64 0, .bool false, .int .i64 0, .int .i64 0, .int .i64 0, .int .i64 0, .int .i64 0, .int .i64 0, .bool false, .bool false, .int .i64 0, .int .i64 0] [(0, 2, .tmp 16), (5, 1, .tmp 17), (6, 1, .const (.int .i64 1))], none, 0⟩,
        ⟨(some 19), .box (.tmp 18), none, 0⟩,
        ⟨(some 9), .mov (.tmp 19), none, 0⟩])
      (.seq (.region [⟨(some 10), .mov (.const (.int .i64 0)), none, 0⟩])
      (.seq (.seq (.region [⟨(some 21), .mov (.tmp 9), none, 0⟩,
        ⟨(some 22), .mov (.tmp 9), none, 0⟩,
        ⟨(some 23), .mov (.tmp 1), none, 0⟩,
        ⟨(some 24), .laddr none 3 1, none, 0⟩,
        ⟨(some 25), .lload (some 24) 3 1 none, none, 0⟩,
        ⟨(some 26), .call Id.handle_Of [.tmp 23, .tmp 25], none, 0⟩,
        ⟨(some 20), .mov (.tmp 26), none, 0⟩,
        ⟨(some 27), .extract (.tmp 20) 0, none, 0⟩,
        ⟨(some 28), .extract (.tmp 20) 1, none, 0⟩,
        ⟨(some 29), .extract (.tmp 20) 2, none, 0⟩,
        ⟨(some 30), .nilchk (.tmp 21), none, 0⟩,
        ⟨(some 31), .faddr 2 (.tmp 30), none, 0⟩,
        ⟨none, .store 1 (.tmp 31) (.tmp 27), none, 0⟩,
        ⟨(some 32), .nilchk (.tmp 22), none, 0⟩,
        ⟨(some 33), .faddr 3 (.tmp 32), none, 0⟩,
        ⟨none, .store 1 (.tmp 33) (.tmp 28), none, 0⟩,
        ⟨(some 10), .mov (.tmp 29), none, 0⟩])
      (.seq (.region [⟨(some 34), .mov (.tmp 10), none, 0⟩,
        ⟨(some 35), .bin .neq (.tmp 34) (.const (.int .i64 0)), none, 0⟩])
      (.cond (.tmp 35)
        (.region [⟨(some 36), .mov (.tmp 9), none, 0⟩,
          ⟨(some 37), .nilchk (.tmp 36), none, 0⟩,
          ⟨(some 38), .faddr 4 (.tmp 37), none, 0⟩,
          ⟨none, .store 1 (.tmp 38) (.const (.bool true)), none, 0⟩])
        (.skip))))
      (.seq (.seq (.region [⟨(some 39), .mov (.tmp 8), none, 0⟩,
        ⟨(some 40), .bin .neq (.tmp 39) (.const (.int .i64 0)), none, 0⟩])
      (.cond (.tmp 40)
        (.region [⟨(some 41), .mov (.tmp 9), none, 0⟩,
          ⟨(some 42), .nilchk (.tmp 41), none, 0⟩,
          ⟨(some 43), .faddr 6 (.tmp 42), none, 0⟩,
          ⟨none, .store 1 (.tmp 43) (.const (.int .i64 0)), none, 0⟩])
        (.skip)))
      (.seq (.region [⟨(some 44), .mov (.tmp 9), none, 0⟩,
        ⟨(some 6), .mov (.tmp 44), none, 0⟩])
      (.ret))))))) }

def F.write_New : IFunc :=
  { lb := [4, 9], scr := false, nargs := 4, res := [.tmp 8],
    body := .seq (.region [⟨(some 4), .lbox (.tmp 0), none, 0⟩,
        ⟨(some 8), .mov (.const (.pointer none)), none, 0⟩])
      (.seq (.region [⟨(some 14), .lload none 4 0 (some 3), none, 0⟩,
        ⟨(some 15), .call Id.layout_Of [.tmp 14], none, 0⟩,
        ⟨(some 13), .mov (.tmp 15), none, 0⟩,
        ⟨(some 16), .extract (.tmp 13) 0, none, 0⟩,
        ⟨(some 17), .extract (.tmp 13) 1, none, 0⟩,
        ⟨(some 9), .lbox (.const (.agg #[.int .i64 0, .int .i64 0])), none, 0⟩,
        ⟨(some 9), .lstore none 9 0 2 (.tmp 16), none, 0⟩,
        ⟨(some 10), .mov (.tmp 17), none, 0⟩])
      (.seq (.region [⟨(some 18), .lload none 9 0 (some 2), none, 0⟩,
        ⟨(some 19), .mov (.tmp 2), none, 0⟩,
        ⟨(some 20), .mov (.tmp 3), none, 0⟩,
        ⟨(some 21), .build [.int .i64 0, .int .i64 0, .int .i64 0, .int .i64 0, .bool false, .int .i64 0, .int .i64 0, .int .i64 0, .int .i64 0, .int .i64 0, .int .i64 0, .bool false] [(0, 2, .tmp 18), (5, 1, .tmp 19), (6, 1, .tmp 20), (7, 1, .const (.int .i64 1))], none, 0⟩,
        ⟨(some 22), .box (.tmp 21), none, 0⟩,
        ⟨(some 11), .mov (.tmp 22), none, 0⟩])
      (.seq (.region [⟨(some 12), .mov (.const (.int .i64 0)), none, 0⟩])
      (.seq (.seq (.region [⟨(some 24), .mov (.tmp 11), none, 0⟩,
        ⟨(some 25), .mov (.tmp 11), none, 0⟩,
        ⟨(some 26), .mov (.tmp 1), none, 0⟩,
        ⟨(some 27), .laddr none 4 1, none, 0⟩,
        ⟨(some 28), .lload (some 27) 4 1 none, none, 0⟩,
        ⟨(some 29), .call Id.handle_Of [.tmp 26, .tmp 28], none, 0⟩,
        ⟨(some 23), .mov (.tmp 29), none, 0⟩,
        ⟨(some 30), .extract (.tmp 23) 0, none, 0⟩,
        ⟨(some 31), .extract (.tmp 23) 1, none, 0⟩,
        ⟨(some 32), .extract (.tmp 23) 2, none, 0⟩,
        ⟨(some 33), .nilchk (.tmp 24), none, 0⟩,
        ⟨(some 34), .faddr 2 (.tmp 33), none, 0⟩,
        ⟨none, .store 1 (.tmp 34) (.tmp 30), none, 0⟩,
        ⟨(some 35), .nilchk (.tmp 25), none, 0⟩,
        ⟨(some 36), .faddr 3 (.tmp 35), none, 0⟩,
        ⟨none, .store 1 (.tmp 36) (.tmp 31), none, 0⟩,
        ⟨(some 12), .mov (.tmp 32), none, 0⟩])
      (.seq (.region [⟨(some 37), .mov (.tmp 12), none, 0⟩,
        ⟨(some 38), .bin .neq (.tmp 37) (.const (.int .i64 0)), none, 0⟩])
      (.cond (.tmp 38)
        (.region [⟨(some 39), .mov (.tmp 11), none, 0⟩,
          ⟨(some 40), .nilchk (.tmp 39), none, 0⟩,
          ⟨(some 41), .faddr 4 (.tmp 40), none, 0⟩,
          ⟨none, .store 1 (.tmp 41) (.const (.bool true)), none, 0⟩])
        (.skip))))
      (.seq (.seq (.region [⟨(some 42), .mov (.tmp 10), none, 0⟩,
        ⟨(some 43), .bin .neq (.tmp 42) (.const (.int .i64 0)), none, 0⟩])
      (.cond (.tmp 43)
        (.region [⟨(some 44), .mov (.tmp 11), none, 0⟩,
          ⟨(some 45), .nilchk (.tmp 44), none, 0⟩,
          ⟨(some 46), .faddr 7 (.tmp 45), none, 0⟩,
          ⟨none, .store 1 (.tmp 46) (.const (.int .i64 0)), none, 0⟩])
        (.skip)))
      (.seq (.region [⟨(some 47), .mov (.tmp 11), none, 0⟩,
        ⟨(some 8), .mov (.tmp 47), none, 0⟩])
      (.ret))))))) }

def F.pin_New : IFunc :=
  { lb := [2], scr := false, nargs := 2, res := [.tmp 4],
    body := .seq (.region [⟨(some 2), .lbox (.tmp 0), none, 0⟩,
        ⟨(some 4), .mov (.const (.pointer none)), none, 0⟩])
      (.seq (.region [⟨(some 5), .lload none 2 0 (some 3), none, 0⟩,
        ⟨(some 6), .mov (.tmp 1), none, 0⟩,
        ⟨(some 7), .call Id.pin_of [.tmp 5, .tmp 6, .const (.bool true), .func Id.entry_Pin], none, 0⟩,
        ⟨(some 4), .mov (.tmp 7), none, 0⟩])
      (.ret)) }

def F.pin_NewUn : IFunc :=
  { lb := [2], scr := false, nargs := 2, res := [.tmp 4],
    body := .seq (.region [⟨(some 2), .lbox (.tmp 0), none, 0⟩,
        ⟨(some 4), .mov (.const (.pointer none)), none, 0⟩])
      (.seq (.region [⟨(some 5), .lload none 2 0 (some 3), none, 0⟩,
        ⟨(some 6), .mov (.tmp 1), none, 0⟩,
        ⟨(some 7), .call Id.pin_of [.tmp 5, .tmp 6, .const (.bool false), .func Id.entry_Unpin], none, 0⟩,
        ⟨(some 4), .mov (.tmp 7), none, 0⟩])
      (.ret)) }

def F.head_of : IFunc :=
  { lb := [], scr := false, nargs := 2, res := [.tmp 4],
    body := .seq (.region [⟨(some 4), .mov (.const (.complex .f64 0 0)), none, 0⟩])
      (.seq (.region [⟨(some 5), .mov (.tmp 0), none, 0⟩,
        ⟨(some 6), .conv (.float .f64) (.tmp 5), none, 0⟩,
        ⟨(some 7), .mov (.tmp 1), none, 0⟩,
        ⟨(some 8), .conv (.float .f64) (.tmp 7), none, 0⟩,
        ⟨(some 9), .cplx (.tmp 6) (.tmp 8), none, 0⟩,
        ⟨(some 4), .mov (.tmp 9), none, 0⟩])
      (.ret)) }

def F.field_Get : IFunc :=
  { lb := [3], scr := false, nargs := 2, res := [.tmp 4],
    body := .seq (.region [⟨(some 3), .lbox (.tmp 1), none, 0⟩,
        ⟨(some 4), .mov (.const (.int .i64 0)), none, 0⟩])
      (.seq (.seq (.region [⟨(some 5), .mov (.tmp 0), none, 0⟩,
        ⟨(some 6), .call Id.field_word [.tmp 5], none, 0⟩,
        ⟨(some 7), .un .not (.tmp 6), none, 0⟩])
      (.cond (.tmp 7)
        (.seq (.region [⟨(some 4), .mov (.const (.int .i64 0)), none, 0⟩])
        (.ret))
        (.skip)))
      (.seq (.region [⟨(some 9), .lload none 3 0 (some 2), none, 0⟩,
        ⟨(some 10), .call Id.field_told [.tmp 9, .func Id.field_Field_mask, .const (.int .i64 0)], none, 0⟩,
        ⟨(some 8), .mov (.tmp 0), none, 0⟩,
        ⟨(some 11), .bin .and (.tmp 8) (.tmp 10), none, 0⟩,
        ⟨(some 12), .laddr none 3 0, none, 0⟩,
        ⟨(some 13), .lload (some 12) 3 0 none, none, 0⟩,
        ⟨(some 14), .max [.tmp 13, .const (.int .i64 0)], none, 0⟩,
        ⟨(some 15), .bin .shr (.tmp 11) (.tmp 14), none, 0⟩,
        ⟨(some 4), .mov (.tmp 15), none, 0⟩])
      (.ret))) }

def F.head_topField : IFunc :=
  { lb := [0], scr := false, nargs := 0, res := [.lb 0 (some 2)],
    body := .seq (.region [⟨(some 0), .lbox (.const (.agg #[.int .i64 0, .int .i64 0])), none, 0⟩])
      (.seq (.region [⟨(some 1), .build [.int .i64 0, .int .i64 0] [(0, 1, .const (.int .i64 0)), (1, 1, .const (.int .i64 20))], none, 0⟩,
        ⟨(some 0), .lstore none 0 0 2 (.tmp 1), none, 0⟩])
      (.ret)) }

def F.head_tagField : IFunc :=
  { lb := [0], scr := false, nargs := 0, res := [.lb 0 (some 2)],
    body := .seq (.region [⟨(some 0), .lbox (.const (.agg #[.int .i64 0, .int .i64 0])), none, 0⟩])
      (.seq (.region [⟨(some 1), .build [.int .i64 0, .int .i64 0] [(0, 1, .const (.int .i64 20)), (1, 1, .const (.int .i64 32))], none, 0⟩,
        ⟨(some 0), .lstore none 0 0 2 (.tmp 1), none, 0⟩])
      (.ret)) }

def F.head_may : IFunc :=
  { lb := [], scr := false, nargs := 1, res := [.tmp 2],
    body := .seq (.region [⟨(some 2), .mov (.const (.bool false)), none, 0⟩])
      (.seq (.region [⟨(some 3), .mov (.tmp 0), none, 0⟩,
        ⟨(some 4), .bin .geq (.tmp 3) (.const (.int .i64 0)), none, 0⟩,
        ⟨(some 5), .mov (.tmp 4), none, 0⟩,
        ⟨(some 6), .mov (.tmp 0), (some (5, true)), 0⟩,
        ⟨(some 7), .bin .leq (.tmp 6) (.const (.int .i64 64)), (some (5, true)), 0⟩,
        ⟨(some 8), .pick (.tmp 5) (.tmp 7) (.const (.bool false)), none, 0⟩,
        ⟨(some 2), .mov (.tmp 8), none, 0⟩])
      (.ret)) }

def F.head_front_word : IFunc :=
  { lb := [], scr := false, nargs := 1, res := [.tmp 2],
    body := .seq (.region [⟨(some 2), .mov (.const (.int .i64 0)), none, 0⟩])
      (.seq (.region [⟨(some 6), .call Id.head_topField [], none, 0⟩,
        ⟨(some 7), .mov (.tmp 0), none, 0⟩,
        ⟨(some 8), .call Id.head_front_top [.tmp 7], none, 0⟩,
        ⟨(some 9), .call Id.field_Put [.const (.int .i64 0), .tmp 6, .tmp 8], none, 0⟩,
        ⟨(some 5), .mov (.tmp 9), none, 0⟩,
        ⟨(some 10), .extract (.tmp 5) 0, none, 0⟩,
        ⟨(some 11), .extract (.tmp 5) 1, none, 0⟩,
        ⟨(some 3), .mov (.tmp 10), none, 0⟩,
        ⟨(some 4), .mov (.tmp 11), none, 0⟩])
      (.seq (.region [⟨(some 13), .mov (.tmp 3), none, 0⟩,
        ⟨(some 14), .call Id.head_tagField [], none, 0⟩,
        ⟨(some 15), .mov (.tmp 0), none, 0⟩,
        ⟨(some 16), .call Id.head_front_tag [.tmp 15], none, 0⟩,
        ⟨(some 17), .call Id.field_Put [.tmp 13, .tmp 14, .tmp 16], none, 0⟩,
        ⟨(some 12), .mov (.tmp 17), none, 0⟩,
        ⟨(some 18), .extract (.tmp 12) 0, none, 0⟩,
        ⟨(some 19), .extract (.tmp 12) 1, none, 0⟩,
        ⟨(some 3), .mov (.tmp 18), none, 0⟩])
      (.seq (.region [⟨(some 20), .mov (.tmp 3), none, 0⟩,
        ⟨(some 2), .mov (.tmp 20), none, 0⟩])
      (.ret)))) }

def F.cells_may : IFunc :=
  { lb := [], scr := false, nargs := 2, res := [.tmp 4],
    body := .seq (.region [⟨(some 4), .mov (.const (.bool false)), none, 0⟩])
      (.seq (.region [⟨(some 5), .mov (.tmp 0), none, 0⟩,
        ⟨(some 6), .bin .geq (.tmp 5) (.const (.int .i64 1)), none, 0⟩,
        ⟨(some 7), .mov (.tmp 6), none, 0⟩,
        ⟨(some 8), .mov (.tmp 0), (some (7, true)), 0⟩,
        ⟨(some 9), .bin .leq (.tmp 8) (.const (.int .i64 4096)), (some (7, true)), 0⟩,
        ⟨(some 10), .pick (.tmp 7) (.tmp 9) (.const (.bool false)), none, 0⟩,
        ⟨(some 11), .mov (.tmp 10), none, 0⟩,
        ⟨(some 12), .mov (.tmp 1), (some (11, true)), 0⟩,
        ⟨(some 13), .bin .geq (.tmp 12) (.const (.int .i64 0)), (some (11, true)), 0⟩,
        ⟨(some 14), .pick (.tmp 11) (.tmp 13) (.const (.bool false)), none, 0⟩,
        ⟨(some 15), .mov (.tmp 14), none, 0⟩,
        ⟨(some 16), .mov (.tmp 1), (some (15, true)), 0⟩,
        ⟨(some 17), .bin .leq (.tmp 16) (.const (.int .i64 4096)), (some (15, true)), 0⟩,
        ⟨(some 18), .pick (.tmp 15) (.tmp 17) (.const (.bool false)), none, 0⟩,
        ⟨(some 4), .mov (.tmp 18), none, 0⟩])
      (.ret)) }

def F.head_Pack : IFunc :=
  { lb := [], scr := false, nargs := 2, res := [.tmp 4, .tmp 5],
    body := .seq (.region [⟨(some 4), .mov (.const (.int .i64 0)), none, 0⟩,
        ⟨(some 5), .mov (.const (.int .i64 0)), none, 0⟩])
      (.seq (.seq (.region [⟨(some 6), .mov (.tmp 0), none, 0⟩,
        ⟨(some 7), .call Id.head_may [.tmp 6], none, 0⟩,
        ⟨(some 8), .un .not (.tmp 7), none, 0⟩,
        ⟨(some 9), .mov (.tmp 8), none, 0⟩,
        ⟨(some 10), .mov (.tmp 1), (some (9, false)), 0⟩,
        ⟨(some 11), .bin .lss (.tmp 10) (.const (.int .i64 0)), (some (9, false)), 0⟩,
        ⟨(some 12), .pick (.tmp 9) (.const (.bool true)) (.tmp 11), none, 0⟩,
        ⟨(some 13), .mov (.tmp 12), none, 0⟩,
        ⟨(some 14), .mov (.tmp 1), (some (13, false)), 0⟩,
        ⟨(some 15), .bin .gtr (.tmp 14) (.const (.int .i64 4294967295)), (some (13, false)), 0⟩,
        ⟨(some 16), .pick (.tmp 13) (.const (.bool true)) (.tmp 15), none, 0⟩])
      (.cond (.tmp 16)
        (.seq (.region [⟨(some 4), .mov (.const (.int .i64 0)), none, 0⟩,
          ⟨(some 5), .mov (.const (.int .i64 1)), none, 0⟩])
        (.ret))
        (.skip)))
      (.seq (.region [⟨(some 17), .mov (.tmp 0), none, 0⟩,
        ⟨(some 18), .mov (.tmp 1), none, 0⟩,
        ⟨(some 19), .call Id.head_of [.tmp 17, .tmp 18], none, 0⟩,
        ⟨(some 20), .call Id.head_front_word [.tmp 19], none, 0⟩,
        ⟨(some 4), .mov (.tmp 20), none, 0⟩,
        ⟨(some 5), .mov (.const (.int .i64 0)), none, 0⟩])
      (.ret))) }

def F.slices_Clone_Lapi_Op : IFunc :=
  { lb := [], scr := false, nargs := 1, res := [.tmp 2],
    body := .seq (.region [⟨(some 2), .mov (.const (.slice none 0 0)), none, 0⟩])
      (.seq (.seq (.region [⟨(some 3), .mov (.tmp 0), none, 0⟩,
        ⟨(some 4), .eqv false (.nil 1) (.tmp 3) (.const (.slice none 0 0)), none, 0⟩])
      (.cond (.tmp 4)
        (.seq (.region [⟨(some 2), .mov (.const (.slice none 0 0)), none, 0⟩])
        (.ret))
        (.skip)))
      (.seq (.region [⟨(some 5), .buildSlice 4 0 [] [], none, 0⟩,
        ⟨(some 6), .mov (.tmp 0), none, 0⟩,
        ⟨(some 7), .append 4 32 (.tmp 5) (.tmp 6), none, 0⟩,
        ⟨(some 2), .mov (.tmp 7), none, 0⟩])
      (.ret))) }

def F.entry_fields : IFunc :=
  { lb := [0], scr := false, nargs := 0, res := [.lb 0 (some 12)],
    body := .seq (.region [⟨(some 0), .lbox (.const (.agg #[.int .i64 0, .int .i64 0, .int .i64 0, .int .i64 0, .int .i64 0, .int .i64 0, .int .i64 0, .int .i64 0, .int .i64 0, .int .i64 0, .int .i64 0, .int .i64 0])), none, 0⟩])
      (.seq (.region [⟨(some 1), .build [.int .i64 0, .int .i64 0] [(0, 1, .const (.int .i64 0)), (1, 1, .const (.int .i64 20))], none, 0⟩,
        ⟨(some 2), .build [.int .i64 0, .int .i64 0] [(0, 1, .const (.int .i64 20)), (1, 1, .const (.int .i64 20))], none, 0⟩,
        ⟨(some 3), .build [.int .i64 0, .int .i64 0] [(0, 1, .const (.int .i64 40)), (1, 1, .const (.int .i64 4))], none, 0⟩,
        ⟨(some 4), .build [.int .i64 0, .int .i64 0] [(0, 1, .const (.int .i64 44)), (1, 1, .const (.int .i64 4))], none, 0⟩,
        ⟨(some 5), .build [.int .i64 0, .int .i64 0] [(0, 1, .const (.int .i64 48)), (1, 1, .const (.int .i64 1))], none, 0⟩,
        ⟨(some 6), .build [.int .i64 0, .int .i64 0] [(0, 1, .const (.int .i64 49)), (1, 1, .const (.int .i64 1))], none, 0⟩,
        ⟨(some 7), .build [.int .i64 0, .int .i64 0, .int .i64 0, .int .i64 0, .int .i64 0, .int .i64 0, .int .i64 0, .int .i64 0, .int .i64 0, .int .i64 0, .int .i64 0, .int .i64 0] [(0, 2, .tmp 1), (2, 2, .tmp 2), (4, 2, .tmp 3), (6, 2, .tmp 4), (8, 2, .tmp 5), (10, 2, .tmp 6)], none, 0⟩,
        ⟨(some 0), .lstore none 0 0 12 (.tmp 7), none, 0⟩])
      (.ret)) }

def F.entry_Entry_may : IFunc :=
  { lb := [1], scr := false, nargs := 1, res := [.tmp 2],
    body := .seq (.region [⟨(some 1), .lbox (.tmp 0), none, 0⟩,
        ⟨(some 2), .mov (.const (.bool false)), none, 0⟩])
      (.seq (.block 0 (.seq (.region [⟨(some 4), .laddr none 1 0, none, 0⟩,
        ⟨(some 5), .lload (some 4) 1 0 none, none, 0⟩,
        ⟨(some 6), .call Id.entry_in [.tmp 5, .const (.int .i64 4096)], none, 0⟩,
        ⟨(some 7), .un .not (.tmp 6), none, 0⟩,
        ⟨(some 8), .mov (.tmp 7), none, 0⟩,
        ⟨(some 9), .laddr none 1 1, (some (8, false)), 0⟩,
        ⟨(some 10), .lload (some 9) 1 1 none, (some (8, false)), 0⟩,
        ⟨(some 11), .call Id.entry_in [.tmp 10, .const (.int .i64 1000)], (some (8, false)), 0⟩,
        ⟨(some 12), .un .not (.tmp 11), (some (8, false)), 0⟩,
        ⟨(some 13), .pick (.tmp 8) (.const (.bool true)) (.tmp 12), none, 0⟩,
        ⟨(some 14), .mov (.tmp 13), none, 0⟩,
        ⟨(some 15), .laddr none 1 2, (some (14, false)), 0⟩,
        ⟨(some 16), .lload (some 15) 1 2 none, (some (14, false)), 0⟩,
        ⟨(some 17), .call Id.entry_in [.tmp 16, .const (.int .i64 7)], (some (14, false)), 0⟩,
        ⟨(some 18), .un .not (.tmp 17), (some (14, false)), 0⟩,
        ⟨(some 19), .pick (.tmp 14) (.const (.bool true)) (.tmp 18), none, 0⟩,
        ⟨(some 20), .mov (.tmp 19), none, 0⟩,
        ⟨(some 21), .laddr none 1 3, (some (20, false)), 0⟩,
        ⟨(some 22), .lload (some 21) 1 3 none, (some (20, false)), 0⟩,
        ⟨(some 23), .call Id.entry_in [.tmp 22, .const (.int .i64 15)], (some (20, false)), 0⟩,
        ⟨(some 24), .un .not (.tmp 23), (some (20, false)), 0⟩,
        ⟨(some 25), .pick (.tmp 20) (.const (.bool true)) (.tmp 24), none, 0⟩,
        ⟨(some 3), .mov (.tmp 25), none, 0⟩])
      (.cond (.tmp 3)
        (.seq (.region [⟨(some 2), .mov (.const (.bool false)), none, 0⟩])
        (.ret))
        (.seq (.region [⟨(some 27), .laddr none 1 4, none, 0⟩,
          ⟨(some 28), .lload (some 27) 1 4 none, none, 0⟩,
          ⟨(some 29), .mov (.tmp 28), none, 0⟩,
          ⟨(some 30), .laddr none 1 2, (some (29, true)), 0⟩,
          ⟨(some 31), .lload (some 30) 1 2 none, (some (29, true)), 0⟩,
          ⟨(some 32), .laddr none 1 3, (some (29, true)), 0⟩,
          ⟨(some 33), .lload (some 32) 1 3 none, (some (29, true)), 0⟩,
          ⟨(some 34), .bin .add (.tmp 31) (.tmp 33), (some (29, true)), 0⟩,
          ⟨(some 35), .bin .gtr (.tmp 34) (.const (.int .i64 0)), (some (29, true)), 0⟩,
          ⟨(some 36), .pick (.tmp 29) (.tmp 35) (.const (.bool false)), none, 0⟩,
          ⟨(some 26), .mov (.tmp 36), none, 0⟩])
        (.cond (.tmp 26)
          (.seq (.region [⟨(some 2), .mov (.const (.bool false)), none, 0⟩])
          (.ret))
          (.skip))))))
      (.seq (.region [⟨(some 37), .laddr none 1 5, none, 0⟩,
        ⟨(some 38), .lload (some 37) 1 5 none, none, 0⟩,
        ⟨(some 39), .mov (.tmp 38), none, 0⟩,
        ⟨(some 40), .lload none 1 0 (some 6), (some (39, false)), 0⟩,
        ⟨(some 41), .laddr none 1 1, (some (39, false)), 0⟩,
        ⟨(some 42), .lload (some 41) 1 1 none, (some (39, false)), 0⟩,
        ⟨(some 43), .build [.int .i64 0, .int .i64 0, .int .i64 0, .int .i64 0, .bool false, .bool false] [(1, 1, .tmp 42)], (some (39, false)), 0⟩,
        ⟨(some 44), .eqv false (.cells [(0, 0), (1, 0), (2, 0), (3, 0), (4, 1), (5, 1)]) (.tmp 40) (.tmp 43), (some (39, false)), 0⟩,
        ⟨(some 45), .pick (.tmp 39) (.const (.bool true)) (.tmp 44), none, 0⟩,
        ⟨(some 2), .mov (.tmp 45), none, 0⟩])
      (.ret))) }

def F.compact_Machine_scanned : IFunc :=
  { lb := [2], scr := false, nargs := 1, res := [.lb 2 (some 2), .tmp 3],
    body := .seq (.region [⟨(some 2), .lbox (.const (.agg #[.int .i64 0, .int .i64 0])), none, 0⟩,
        ⟨(some 3), .mov (.const (.bool false)), none, 0⟩])
      (.seq (.seq (.region [⟨(some 4), .mov (.tmp 0), none, 0⟩,
        ⟨(some 5), .nilchk (.tmp 4), none, 0⟩,
        ⟨(some 6), .faddr 7 (.tmp 5), none, 0⟩,
        ⟨(some 7), .load none (.tmp 6), none, 0⟩,
        ⟨(some 8), .bin .add (.tmp 7) (.const (.int .i64 1)), none, 0⟩,
        ⟨(some 9), .nilchk (.tmp 4), none, 0⟩,
        ⟨(some 10), .faddr 7 (.tmp 9), none, 0⟩,
        ⟨none, .store 1 (.tmp 10) (.tmp 8), none, 0⟩])
      (.seq (.region [⟨(some 11), .mov (.tmp 0), none, 0⟩,
        ⟨(some 12), .nilchk (.tmp 11), none, 0⟩,
        ⟨(some 13), .faddr 7 (.tmp 12), none, 0⟩,
        ⟨(some 14), .load none (.tmp 13), none, 0⟩,
        ⟨(some 15), .mov (.tmp 0), none, 0⟩,
        ⟨(some 16), .nilchk (.tmp 15), none, 0⟩,
        ⟨(some 17), .faddr 2 (.tmp 16), none, 0⟩,
        ⟨(some 18), .faddr 1 (.tmp 17), none, 0⟩,
        ⟨(some 19), .load none (.tmp 18), none, 0⟩,
        ⟨(some 20), .bin .lss (.tmp 14) (.tmp 19), none, 0⟩])
      (.cond (.tmp 20)
        (.seq (.region [⟨(some 21), .mov (.tmp 0), none, 0⟩,
          ⟨(some 22), .call Id.compact_Machine_on [.tmp 21, .const (.int .i64 3)], none, 0⟩,
          ⟨(some 23), .extract (.tmp 22) 0, none, 0⟩,
          ⟨(some 24), .extract (.tmp 22) 1, none, 0⟩,
          ⟨(some 2), .lstore none 2 0 2 (.tmp 23), none, 0⟩,
          ⟨(some 3), .mov (.tmp 24), none, 0⟩])
        (.ret))
        (.skip))))
      (.seq (.region [⟨(some 25), .mov (.tmp 0), none, 0⟩,
        ⟨(some 26), .mov (.tmp 0), none, 0⟩,
        ⟨(some 27), .nilchk (.tmp 26), none, 0⟩,
        ⟨(some 28), .faddr 14 (.tmp 27), none, 0⟩,
        ⟨(some 29), .load none (.tmp 28), none, 0⟩,
        ⟨(some 30), .call Id.plan_Sort [.tmp 29], none, 0⟩,
        ⟨(some 31), .nilchk (.tmp 25), none, 0⟩,
        ⟨(some 32), .faddr 14 (.tmp 31), none, 0⟩,
        ⟨none, .store 1 (.tmp 32) (.tmp 30), none, 0⟩])
      (.seq (.region [⟨(some 33), .mov (.tmp 0), none, 0⟩,
        ⟨(some 34), .call Id.compact_Machine_behind [.tmp 33], none, 0⟩,
        ⟨(some 35), .extract (.tmp 34) 0, none, 0⟩,
        ⟨(some 36), .extract (.tmp 34) 1, none, 0⟩,
        ⟨(some 2), .lstore none 2 0 2 (.tmp 35), none, 0⟩,
        ⟨(some 3), .mov (.tmp 36), none, 0⟩])
      (.ret)))) }

def F.compact_Machine_passed : IFunc :=
  { lb := [2], scr := false, nargs := 1, res := [.lb 2 (some 2), .tmp 3],
    body := .seq (.region [⟨(some 2), .lbox (.const (.agg #[.int .i64 0, .int .i64 0])), none, 0⟩,
        ⟨(some 3), .mov (.const (.bool false)), none, 0⟩])
      (.seq (.region [⟨(some 4), .mov (.tmp 0), none, 0⟩,
        ⟨(some 5), .nilchk (.tmp 4), none, 0⟩,
        ⟨(some 6), .faddr 79 (.tmp 5), none, 0⟩,
        ⟨(some 7), .load none (.tmp 6), none, 0⟩,
        ⟨(some 8), .bin .add (.tmp 7) (.const (.int .i64 1)), none, 0⟩,
        ⟨(some 9), .nilchk (.tmp 4), none, 0⟩,
        ⟨(some 10), .faddr 79 (.tmp 9), none, 0⟩,
        ⟨none, .store 1 (.tmp 10) (.tmp 8), none, 0⟩])
      (.seq (.region [⟨(some 11), .mov (.tmp 0), none, 0⟩,
        ⟨(some 12), .call Id.compact_Machine_behind [.tmp 11], none, 0⟩,
        ⟨(some 13), .extract (.tmp 12) 0, none, 0⟩,
        ⟨(some 14), .extract (.tmp 12) 1, none, 0⟩,
        ⟨(some 2), .lstore none 2 0 2 (.tmp 13), none, 0⟩,
        ⟨(some 3), .mov (.tmp 14), none, 0⟩])
      (.ret))) }

def F.entry_Lock : IFunc :=
  { lb := [], scr := false, nargs := 2, res := [.tmp 4, .tmp 5],
    body := .seq (.region [⟨(some 3), .box (.tmp 1), none, 0⟩,
        ⟨(some 4), .mov (.const (.int .i64 0)), none, 0⟩,
        ⟨(some 5), .mov (.const (.int .i64 0)), none, 0⟩])
      (.seq (.region [⟨(some 6), .mov (.tmp 0), none, 0⟩,
        ⟨(some 7), .mkfn (.func Id.entry_Lock_1) [] [.tmp 3], none, 0⟩,
        ⟨(some 8), .call Id.entry_changed [.tmp 6, .tmp 7], none, 0⟩,
        ⟨(some 9), .extract (.tmp 8) 0, none, 0⟩,
        ⟨(some 10), .extract (.tmp 8) 1, none, 0⟩,
        ⟨(some 4), .mov (.tmp 9), none, 0⟩,
        ⟨(some 5), .mov (.tmp 10), none, 0⟩])
      (.ret)) }

def F.entry_Move : IFunc :=
  { lb := [], scr := false, nargs := 2, res := [.tmp 4, .tmp 5],
    body := .seq (.region [⟨(some 3), .box (.tmp 1), none, 0⟩,
        ⟨(some 4), .mov (.const (.int .i64 0)), none, 0⟩,
        ⟨(some 5), .mov (.const (.int .i64 0)), none, 0⟩])
      (.seq (.region [⟨(some 6), .mov (.tmp 0), none, 0⟩,
        ⟨(some 7), .mkfn (.func Id.entry_Move_1) [] [.tmp 3], none, 0⟩,
        ⟨(some 8), .call Id.entry_changed [.tmp 6, .tmp 7], none, 0⟩,
        ⟨(some 9), .extract (.tmp 8) 0, none, 0⟩,
        ⟨(some 10), .extract (.tmp 8) 1, none, 0⟩,
        ⟨(some 4), .mov (.tmp 9), none, 0⟩,
        ⟨(some 5), .mov (.tmp 10), none, 0⟩])
      (.ret)) }

def F.epoch_Turn_Step : IFunc :=
  { lb := [], scr := false, nargs := 2, res := [.tmp 4, .tmp 5],
    body := .seq (.region [⟨(some 4), .mov (.const (.bool false)), none, 0⟩,
        ⟨(some 5), .mov (.const (.bool false)), none, 0⟩])
      (.seq (.seq (.region [⟨(some 7), .mov (.tmp 0), none, 0⟩,
        ⟨(some 8), .eqv false (.nil 0) (.tmp 7) (.const (.pointer none)), none, 0⟩,
        ⟨(some 9), .mov (.tmp 8), none, 0⟩,
        ⟨(some 10), .mov (.tmp 1), (some (9, false)), 0⟩,
        ⟨(some 11), .eqv false (.nil 4) (.tmp 10) (.const (.nilIface)), (some (9, false)), 0⟩,
        ⟨(some 12), .pick (.tmp 9) (.const (.bool true)) (.tmp 11), none, 0⟩])
      (.cond (.tmp 12)
        (.seq (.region [⟨(some 4), .mov (.const (.bool false)), none, 0⟩,
          ⟨(some 5), .mov (.const (.bool true)), none, 0⟩])
        (.ret))
        (.skip)))
      (.seq (.seq (.region [⟨(some 13), .mov (.tmp 0), none, 0⟩,
        ⟨(some 14), .nilchk (.tmp 13), none, 0⟩,
        ⟨(some 15), .faddr 3 (.tmp 14), none, 0⟩,
        ⟨(some 16), .load none (.tmp 15), none, 0⟩])
      (.block 0 (.seq (.region [⟨(some 18), .bin .eql (.tmp 16) (.const (.int .i64 0)), none, 0⟩,
        ⟨(some 17), .mov (.tmp 18), none, 0⟩])
      (.cond (.tmp 17)
        (.seq (.region [⟨(some 4), .mov (.const (.bool false)), none, 0⟩,
          ⟨(some 5), .mov (.const (.bool true)), none, 0⟩])
        (.ret))
        (.seq (.region [⟨(some 20), .bin .eql (.tmp 16) (.const (.int .i64 1)), none, 0⟩,
          ⟨(some 19), .mov (.tmp 20), none, 0⟩])
        (.cond (.tmp 19)
          (.region [⟨(some 24), .mov (.tmp 0), none, 0⟩,
            ⟨(some 25), .nilchk (.tmp 24), none, 0⟩,
            ⟨(some 26), .faddr 0 (.tmp 25), none, 0⟩,
            ⟨(some 27), .load (some 2) (.tmp 26), none, 0⟩,
            ⟨(some 28), .call Id.layout_Layout_Epoch [.tmp 27], none, 0⟩,
            ⟨(some 23), .mov (.tmp 1), none, 0⟩,
            ⟨(some 29), .mkfn (.method "Load") [.tmp 23] [], none, 0⟩,
            ⟨(some 30), .nilchkm "Load" [(41, Id.cells_Plain_Load)] (.tmp 29), none, 0⟩,
            ⟨(some 31), .mov (.tmp 23), none, 0⟩,
            ⟨(some 32), .invoke [(41, Id.cells_Plain_Load)] (.tmp 31) [.tmp 28], none, 0⟩,
            ⟨(some 21), .mov (.tmp 0), none, 0⟩,
            ⟨(some 33), .nilchk (.tmp 21), none, 0⟩,
            ⟨(some 34), .faddr 4 (.tmp 33), none, 0⟩,
            ⟨none, .store 1 (.tmp 34) (.tmp 32), none, 0⟩,
            ⟨(some 22), .mov (.tmp 0), none, 0⟩,
            ⟨(some 35), .nilchk (.tmp 22), none, 0⟩,
            ⟨(some 36), .faddr 3 (.tmp 35), none, 0⟩,
            ⟨none, .store 1 (.tmp 36) (.const (.int .i64 2)), none, 0⟩])
          (.seq (.region [⟨(some 38), .bin .eql (.tmp 16) (.const (.int .i64 2)), none, 0⟩,
            ⟨(some 37), .mov (.tmp 38), none, 0⟩])
          (.cond (.tmp 37)
            (.seq (.region [⟨(some 39), .mov (.tmp 0), none, 0⟩,
              ⟨(some 40), .nilchk (.tmp 39), none, 0⟩,
              ⟨(some 41), .faddr 3 (.tmp 40), none, 0⟩,
              ⟨none, .store 1 (.tmp 41) (.const (.int .i64 1)), none, 0⟩])
            (.seq (.region [⟨(some 43), .mov (.tmp 0), none, 0⟩,
              ⟨(some 44), .nilchk (.tmp 43), none, 0⟩,
              ⟨(some 45), .faddr 0 (.tmp 44), none, 0⟩,
              ⟨(some 46), .load (some 2) (.tmp 45), none, 0⟩,
              ⟨(some 47), .call Id.layout_Layout_Epoch [.tmp 46], none, 0⟩,
              ⟨(some 42), .mov (.tmp 1), none, 0⟩,
              ⟨(some 48), .mov (.tmp 0), none, 0⟩,
              ⟨(some 49), .nilchk (.tmp 48), none, 0⟩,
              ⟨(some 50), .faddr 4 (.tmp 49), none, 0⟩,
              ⟨(some 51), .load none (.tmp 50), none, 1⟩,
              ⟨(some 52), .mov (.tmp 0), none, 0⟩,
              ⟨(some 53), .nilchk (.tmp 52), none, 0⟩,
              ⟨(some 54), .faddr 4 (.tmp 53), none, 0⟩,
              ⟨(some 55), .load none (.tmp 54), none, 1⟩,
              ⟨(some 56), .bin .add (.tmp 55) (.const (.int .i64 1)), none, 0⟩,
              ⟨(some 57), .mkfn (.method "Cas") [.tmp 42] [], none, 0⟩,
              ⟨(some 58), .nilchkm "Cas" [(41, Id.cells_Plain_Cas)] (.tmp 57), none, 0⟩,
              ⟨(some 59), .mov (.tmp 42), none, 0⟩,
              ⟨(some 60), .invoke [(41, Id.cells_Plain_Cas)] (.tmp 59) [.tmp 47, .tmp 51, .tmp 56], none, 0⟩])
            (.cond (.tmp 60)
              (.region [⟨(some 61), .mov (.tmp 0), none, 0⟩,
                ⟨(some 62), .nilchk (.tmp 61), none, 0⟩,
                ⟨(some 63), .faddr 3 (.tmp 62), none, 0⟩,
                ⟨none, .store 1 (.tmp 63) (.const (.int .i64 3)), none, 0⟩])
              (.skip))))
            (.seq (.region [⟨(some 65), .bin .eql (.tmp 16) (.const (.int .i64 3)), none, 0⟩,
              ⟨(some 64), .mov (.tmp 65), none, 0⟩])
            (.cond (.tmp 64)
              (.seq (.region [⟨(some 67), .mov (.tmp 0), none, 0⟩,
                ⟨(some 68), .nilchk (.tmp 67), none, 0⟩,
                ⟨(some 69), .faddr 0 (.tmp 68), none, 0⟩,
                ⟨(some 70), .load (some 2) (.tmp 69), none, 0⟩,
                ⟨(some 71), .mov (.tmp 0), none, 0⟩,
                ⟨(some 72), .nilchk (.tmp 71), none, 0⟩,
                ⟨(some 73), .faddr 5 (.tmp 72), none, 0⟩,
                ⟨(some 74), .load none (.tmp 73), none, 0⟩,
                ⟨(some 75), .call Id.layout_Layout_Note [.tmp 70, .tmp 74], none, 0⟩,
                ⟨(some 66), .mov (.tmp 1), none, 0⟩,
                ⟨(some 76), .mkfn (.method "Load") [.tmp 66] [], none, 0⟩,
                ⟨(some 77), .nilchkm "Load" [(41, Id.cells_Plain_Load)] (.tmp 76), none, 0⟩,
                ⟨(some 78), .mov (.tmp 66), none, 0⟩,
                ⟨(some 79), .invoke [(41, Id.cells_Plain_Load)] (.tmp 78) [.tmp 75], none, 0⟩,
                ⟨(some 80), .mov (.tmp 0), none, 0⟩,
                ⟨(some 81), .nilchk (.tmp 80), none, 0⟩,
                ⟨(some 82), .faddr 4 (.tmp 81), none, 0⟩,
                ⟨(some 83), .load none (.tmp 82), none, 2⟩,
                ⟨(some 84), .bin .add (.tmp 83) (.const (.int .i64 1)), none, 0⟩,
                ⟨(some 85), .call Id.head_Older [.tmp 79, .tmp 84], none, 0⟩,
                ⟨(some 6), .mov (.tmp 85), none, 0⟩])
              (.seq (.region [⟨(some 86), .mov (.tmp 0), none, 0⟩,
                ⟨(some 87), .nilchk (.tmp 86), none, 0⟩,
                ⟨(some 88), .faddr 5 (.tmp 87), none, 0⟩,
                ⟨(some 89), .load none (.tmp 88), none, 0⟩,
                ⟨(some 90), .bin .add (.tmp 89) (.const (.int .i64 1)), none, 0⟩,
                ⟨(some 91), .nilchk (.tmp 86), none, 0⟩,
                ⟨(some 92), .faddr 5 (.tmp 91), none, 0⟩,
                ⟨none, .store 1 (.tmp 92) (.tmp 90), none, 0⟩])
              (.seq (.region [⟨(some 93), .mov (.tmp 6), none, 0⟩,
                ⟨(some 94), .mov (.tmp 93), none, 0⟩,
                ⟨(some 95), .mov (.tmp 0), (some (94, false)), 0⟩,
                ⟨(some 96), .nilchk (.tmp 95), (some (94, false)), 0⟩,
                ⟨(some 97), .faddr 5 (.tmp 96), (some (94, false)), 0⟩,
                ⟨(some 98), .load none (.tmp 97), (some (94, false)), 0⟩,
                ⟨(some 99), .mov (.tmp 0), (some (94, false)), 0⟩,
                ⟨(some 100), .nilchk (.tmp 99), (some (94, false)), 0⟩,
                ⟨(some 101), .faddr 2 (.tmp 100), (some (94, false)), 0⟩,
                ⟨(some 102), .load none (.tmp 101), (some (94, false)), 0⟩,
                ⟨(some 103), .bin .eql (.tmp 98) (.tmp 102), (some (94, false)), 0⟩,
                ⟨(some 104), .pick (.tmp 94) (.const (.bool true)) (.tmp 103), none, 0⟩])
              (.cond (.tmp 104)
                (.seq (.region [⟨(some 105), .mov (.tmp 0), none, 0⟩,
                  ⟨(some 106), .nilchk (.tmp 105), none, 0⟩,
                  ⟨(some 107), .faddr 3 (.tmp 106), none, 0⟩,
                  ⟨none, .store 1 (.tmp 107) (.const (.int .i64 0)), none, 0⟩])
                (.seq (.region [⟨(some 108), .mov (.tmp 6), none, 0⟩,
                  ⟨(some 109), .un .not (.tmp 108), none, 0⟩,
                  ⟨(some 4), .mov (.tmp 109), none, 0⟩,
                  ⟨(some 5), .mov (.const (.bool true)), none, 0⟩])
                (.ret)))
                (.skip)))))
              (.skip)))))))))))
      (.seq (.region [⟨(some 4), .mov (.const (.bool false)), none, 0⟩,
        ⟨(some 5), .mov (.const (.bool false)), none, 0⟩])
      (.ret)))) }

def F.stack_NewPop : IFunc :=
  { lb := [1], scr := false, nargs := 1, res := [.tmp 2],
    body := .seq (.region [⟨(some 1), .lbox (.tmp 0), none, 0⟩,
        ⟨(some 2), .mov (.const (.pointer none)), none, 0⟩])
      (.seq (.region [⟨(some 3), .lload none 1 0 (some 2), none, 0⟩,
        ⟨(some 4), .build [.int .i64 0, .int .i64 0, .int .i64 0, .int .i64 0, .int .i64 0, .int .i64 0] [(0, 2, .tmp 3), (2, 1, .const (.int .i64 1))], none, 0⟩,
        ⟨(some 5), .build [.int .i64 0, .int .i64 0, .int .i64 0, .int .i64 0, .int .i64 0, .int .i64 0] [(0, 6, .tmp 4)], none, 0⟩,
        ⟨(some 6), .box (.tmp 5), none, 0⟩,
        ⟨(some 2), .mov (.tmp 6), none, 0⟩])
      (.ret)) }

def F.handle_Of : IFunc :=
  { lb := [], scr := false, nargs := 2, res := [.tmp 4, .tmp 5, .tmp 6],
    body := .seq (.region [⟨(some 4), .mov (.const (.int .i64 0)), none, 0⟩,
        ⟨(some 5), .mov (.const (.int .i64 0)), none, 0⟩,
        ⟨(some 6), .mov (.const (.int .i64 0)), none, 0⟩])
      (.seq (.region [⟨(some 11), .mov (.tmp 0), none, 0⟩,
        ⟨(some 12), .call Id.handle_Split [.tmp 11], none, 0⟩,
        ⟨(some 10), .mov (.tmp 12), none, 0⟩,
        ⟨(some 13), .extract (.tmp 10) 0, none, 0⟩,
        ⟨(some 14), .extract (.tmp 10) 1, none, 0⟩,
        ⟨(some 15), .extract (.tmp 10) 2, none, 0⟩,
        ⟨(some 7), .mov (.tmp 13), none, 0⟩,
        ⟨(some 8), .mov (.tmp 14), none, 0⟩,
        ⟨(some 9), .mov (.tmp 15), none, 0⟩])
      (.seq (.seq (.region [⟨(some 16), .mov (.tmp 9), none, 0⟩,
        ⟨(some 17), .un .not (.tmp 16), none, 0⟩,
        ⟨(some 18), .mov (.tmp 17), none, 0⟩,
        ⟨(some 19), .mov (.tmp 7), (some (18, false)), 0⟩,
        ⟨(some 20), .mov (.tmp 1), (some (18, false)), 0⟩,
        ⟨(some 21), .bin .geq (.tmp 19) (.tmp 20), (some (18, false)), 0⟩,
        ⟨(some 22), .pick (.tmp 18) (.const (.bool true)) (.tmp 21), none, 0⟩])
      (.cond (.tmp 22)
        (.seq (.region [⟨(some 4), .mov (.const (.int .i64 0)), none, 0⟩,
          ⟨(some 5), .mov (.const (.int .i64 0)), none, 0⟩,
          ⟨(some 6), .mov (.const (.int .i64 4)), none, 0⟩])
        (.ret))
        (.skip)))
      (.seq (.region [⟨(some 23), .mov (.tmp 7), none, 0⟩,
        ⟨(some 24), .mov (.tmp 8), none, 0⟩,
        ⟨(some 4), .mov (.tmp 23), none, 0⟩,
        ⟨(some 5), .mov (.tmp 24), none, 0⟩,
        ⟨(some 6), .mov (.const (.int .i64 0)), none, 0⟩])
      (.ret)))) }

def F.pin_of : IFunc :=
  { lb := [4, 9], scr := false, nargs := 4, res := [.tmp 8],
    body := .seq (.region [⟨(some 4), .lbox (.tmp 0), none, 0⟩,
        ⟨(some 8), .mov (.const (.pointer none)), none, 0⟩])
      (.seq (.region [⟨(some 16), .lload none 4 0 (some 3), none, 0⟩,
        ⟨(some 17), .call Id.layout_Of [.tmp 16], none, 0⟩,
        ⟨(some 15), .mov (.tmp 17), none, 0⟩,
        ⟨(some 18), .extract (.tmp 15) 0, none, 0⟩,
        ⟨(some 19), .extract (.tmp 15) 1, none, 0⟩,
        ⟨(some 9), .lbox (.const (.agg #[.int .i64 0, .int .i64 0])), none, 0⟩,
        ⟨(some 9), .lstore none 9 0 2 (.tmp 18), none, 0⟩,
        ⟨(some 10), .mov (.tmp 19), none, 0⟩])
      (.seq (.region [⟨(some 21), .mov (.tmp 1), none, 0⟩,
        ⟨(some 22), .laddr none 4 1, none, 0⟩,
        ⟨(some 23), .lload (some 22) 4 1 none, none, 0⟩,
        ⟨(some 24), .call Id.handle_Of [.tmp 21, .tmp 23], none, 0⟩,
        ⟨(some 20), .mov (.tmp 24), none, 0⟩,
        ⟨(some 25), .extract (.tmp 20) 0, none, 0⟩,
        ⟨(some 26), .extract (.tmp 20) 1, none, 0⟩,
        ⟨(some 27), .extract (.tmp 20) 2, none, 0⟩,
        ⟨(some 11), .mov (.tmp 25), none, 0⟩,
        ⟨(some 12), .mov (.tmp 26), none, 0⟩,
        ⟨(some 13), .mov (.tmp 27), none, 0⟩])
      (.seq (.region [⟨(some 28), .lload none 9 0 (some 2), none, 0⟩,
        ⟨(some 29), .mov (.tmp 11), none, 0⟩,
        ⟨(some 30), .mov (.tmp 12), none, 0⟩,
        ⟨(some 31), .mov (.tmp 13), none, 0⟩,
        ⟨(some 32), .bin .neq (.tmp 31) (.const (.int .i64 0)), none, 0⟩,
        ⟨(some 33), .mov (.tmp 3), none, 0⟩,
        ⟨(some 34), .mov (.tmp 2), none, 0⟩,
        ⟨(some 35), .build [.int .i64 0, .int .i64 0, .int .i64 0, .int .i64 0, .bool false, .nilFunc, .bool false, .int .i64 0, .int .i64 0, .int .i64 0] [(0, 2, .tmp 28), (2, 1, .tmp 29), (3, 1, .tmp 30), (4, 1, .tmp 32), (5, 1, .tmp 33), (6, 1, .tmp 34), (7, 1, .const (.int .i64 1))], none, 0⟩,
        ⟨(some 36), .box (.tmp 35), none, 0⟩,
        ⟨(some 14), .mov (.tmp 36), none, 0⟩])
      (.seq (.seq (.region [⟨(some 37), .mov (.tmp 10), none, 0⟩,
        ⟨(some 38), .bin .neq (.tmp 37) (.const (.int .i64 0)), none, 0⟩])
      (.cond (.tmp 38)
        (.region [⟨(some 39), .mov (.tmp 14), none, 0⟩,
          ⟨(some 40), .nilchk (.tmp 39), none, 0⟩,
          ⟨(some 41), .faddr 7 (.tmp 40), none, 0⟩,
          ⟨none, .store 1 (.tmp 41) (.const (.int .i64 0)), none, 0⟩])
        (.skip)))
      (.seq (.region [⟨(some 42), .mov (.tmp 14), none, 0⟩,
        ⟨(some 8), .mov (.tmp 42), none, 0⟩])
      (.ret)))))) }

def F.entry_Pin : IFunc :=
  { lb := [], scr := false, nargs := 1, res := [.tmp 2, .tmp 3],
    body := .seq (.region [⟨(some 2), .mov (.const (.int .i64 0)), none, 0⟩,
        ⟨(some 3), .mov (.const (.int .i64 0)), none, 0⟩])
      (.seq (.region [⟨(some 4), .mov (.tmp 0), none, 0⟩,
        ⟨(some 5), .call Id.entry_changed [.tmp 4, .func Id.entry_Pin_1], none, 0⟩,
        ⟨(some 6), .extract (.tmp 5) 0, none, 0⟩,
        ⟨(some 7), .extract (.tmp 5) 1, none, 0⟩,
        ⟨(some 2), .mov (.tmp 6), none, 0⟩,
        ⟨(some 3), .mov (.tmp 7), none, 0⟩])
      (.ret)) }

def F.entry_Unpin : IFunc :=
  { lb := [], scr := false, nargs := 1, res := [.tmp 2, .tmp 3],
    body := .seq (.region [⟨(some 2), .mov (.const (.int .i64 0)), none, 0⟩,
        ⟨(some 3), .mov (.const (.int .i64 0)), none, 0⟩])
      (.seq (.region [⟨(some 4), .mov (.tmp 0), none, 0⟩,
        ⟨(some 5), .call Id.entry_changed [.tmp 4, .func Id.entry_Unpin_1], none, 0⟩,
        ⟨(some 6), .extract (.tmp 5) 0, none, 0⟩,
        ⟨(some 7), .extract (.tmp 5) 1, none, 0⟩,
        ⟨(some 2), .mov (.tmp 6), none, 0⟩,
        ⟨(some 3), .mov (.tmp 7), none, 0⟩])
      (.ret)) }

def F.field_word : IFunc :=
  { lb := [], scr := false, nargs := 1, res := [.tmp 2],
    body := .seq (.region [⟨(some 2), .mov (.const (.bool false)), none, 0⟩])
      (.seq (.region [⟨(some 3), .mov (.tmp 0), none, 0⟩,
        ⟨(some 4), .bin .geq (.tmp 3) (.const (.int .i64 0)), none, 0⟩,
        ⟨(some 5), .mov (.tmp 4), none, 0⟩,
        ⟨(some 6), .mov (.tmp 0), (some (5, true)), 0⟩,
        ⟨(some 7), .bin .lss (.tmp 6) (.const (.int .i64 4611686018427387904)), (some (5, true)), 0⟩,
        ⟨(some 8), .pick (.tmp 5) (.tmp 7) (.const (.bool false)), none, 0⟩,
        ⟨(some 2), .mov (.tmp 8), none, 0⟩])
      (.ret)) }

def F.field_told : IFunc :=
  { lb := [3], scr := false, nargs := 3, res := [.tmp 6],
    body := .seq (.region [⟨(some 3), .lbox (.tmp 0), none, 0⟩,
        ⟨(some 6), .mov (.const (.int .i64 0)), none, 0⟩])
      (.seq (.seq (.region [⟨(some 7), .lload none 3 0 (some 2), none, 0⟩,
        ⟨(some 8), .call Id.field_Field_may [.tmp 7], none, 0⟩,
        ⟨(some 9), .un .not (.tmp 8), none, 0⟩])
      (.cond (.tmp 9)
        (.seq (.region [⟨(some 10), .mov (.tmp 2), none, 0⟩,
          ⟨(some 6), .mov (.tmp 10), none, 0⟩])
        (.ret))
        (.skip)))
      (.seq (.region [⟨(some 11), .mov (.tmp 1), none, 0⟩,
        ⟨(some 12), .lload none 3 0 (some 2), none, 0⟩,
        ⟨(some 13), .callv (.tmp 11) [.tmp 12], none, 0⟩,
        ⟨(some 6), .mov (.tmp 13), none, 0⟩])
      (.ret))) }

def F.field_Field_mask : IFunc :=
  { lb := [1], scr := false, nargs := 1, res := [.tmp 2],
    body := .seq (.region [⟨(some 1), .lbox (.tmp 0), none, 0⟩,
        ⟨(some 2), .mov (.const (.int .i64 0)), none, 0⟩])
      (.seq (.region [⟨(some 3), .lload none 1 0 (some 2), none, 0⟩,
        ⟨(some 4), .call Id.field_Field_most [.tmp 3], none, 0⟩,
        ⟨(some 5), .laddr none 1 0, none, 0⟩,
        ⟨(some 6), .lload (some 5) 1 0 none, none, 0⟩,
        ⟨(some 7), .bin .shl (.tmp 4) (.tmp 6), none, 0⟩,
        ⟨(some 2), .mov (.tmp 7), none, 0⟩])
      (.ret)) }

def F.field_Put : IFunc :=
  { lb := [4], scr := false, nargs := 3, res := [.tmp 6, .tmp 7],
    body := .seq (.region [⟨(some 4), .lbox (.tmp 1), none, 0⟩,
        ⟨(some 6), .mov (.const (.int .i64 0)), none, 0⟩,
        ⟨(some 7), .mov (.const (.int .i64 0)), none, 0⟩])
      (.seq (.block 0 (.seq (.region [⟨(some 9), .mov (.tmp 0), none, 0⟩,
        ⟨(some 10), .call Id.field_word [.tmp 9], none, 0⟩,
        ⟨(some 11), .un .not (.tmp 10), none, 0⟩,
        ⟨(some 12), .mov (.tmp 11), none, 0⟩,
        ⟨(some 13), .lload none 4 0 (some 2), (some (12, false)), 0⟩,
        ⟨(some 14), .call Id.field_Field_may [.tmp 13], (some (12, false)), 0⟩,
        ⟨(some 15), .un .not (.tmp 14), (some (12, false)), 0⟩,
        ⟨(some 16), .pick (.tmp 12) (.const (.bool true)) (.tmp 15), none, 0⟩,
        ⟨(some 17), .mov (.tmp 16), none, 0⟩,
        ⟨(some 18), .mov (.tmp 2), (some (17, false)), 0⟩,
        ⟨(some 19), .bin .lss (.tmp 18) (.const (.int .i64 0)), (some (17, false)), 0⟩,
        ⟨(some 20), .pick (.tmp 17) (.const (.bool true)) (.tmp 19), none, 0⟩,
        ⟨(some 8), .mov (.tmp 20), none, 0⟩])
      (.cond (.tmp 8)
        (.seq (.region [⟨(some 6), .mov (.const (.int .i64 0)), none, 0⟩,
          ⟨(some 7), .mov (.const (.int .i64 1)), none, 0⟩])
        (.ret))
        (.seq (.region [⟨(some 22), .mov (.tmp 2), none, 0⟩,
          ⟨(some 23), .lload none 4 0 (some 2), none, 0⟩,
          ⟨(some 24), .call Id.field_Field_most [.tmp 23], none, 0⟩,
          ⟨(some 25), .bin .gtr (.tmp 22) (.tmp 24), none, 0⟩,
          ⟨(some 21), .mov (.tmp 25), none, 0⟩])
        (.cond (.tmp 21)
          (.seq (.region [⟨(some 6), .mov (.const (.int .i64 0)), none, 0⟩,
            ⟨(some 7), .mov (.const (.int .i64 3)), none, 0⟩])
          (.ret))
          (.skip))))))
      (.seq (.region [⟨(some 27), .lload none 4 0 (some 2), none, 0⟩,
        ⟨(some 28), .call Id.field_Field_mask [.tmp 27], none, 0⟩,
        ⟨(some 26), .mov (.tmp 0), none, 0⟩,
        ⟨(some 29), .bin .andNot (.tmp 26) (.tmp 28), none, 0⟩,
        ⟨(some 30), .mov (.tmp 2), none, 0⟩,
        ⟨(some 31), .laddr none 4 0, none, 0⟩,
        ⟨(some 32), .lload (some 31) 4 0 none, none, 0⟩,
        ⟨(some 33), .bin .shl (.tmp 30) (.tmp 32), none, 0⟩,
        ⟨(some 34), .bin .or (.tmp 29) (.tmp 33), none, 0⟩,
        ⟨(some 6), .mov (.tmp 34), none, 0⟩,
        ⟨(some 7), .mov (.const (.int .i64 0)), none, 0⟩])
      (.ret))) }

def F.entry_in : IFunc :=
  { lb := [], scr := false, nargs := 2, res := [.tmp 4],
    body := .seq (.region [⟨(some 4), .mov (.const (.bool false)), none, 0⟩])
      (.seq (.region [⟨(some 5), .mov (.tmp 0), none, 0⟩,
        ⟨(some 6), .bin .geq (.tmp 5) (.const (.int .i64 0)), none, 0⟩,
        ⟨(some 7), .mov (.tmp 6), none, 0⟩,
        ⟨(some 8), .mov (.tmp 0), (some (7, true)), 0⟩,
        ⟨(some 9), .mov (.tmp 1), (some (7, true)), 0⟩,
        ⟨(some 10), .bin .leq (.tmp 8) (.tmp 9), (some (7, true)), 0⟩,
        ⟨(some 11), .pick (.tmp 7) (.tmp 10) (.const (.bool false)), none, 0⟩,
        ⟨(some 4), .mov (.tmp 11), none, 0⟩])
      (.ret)) }

def F.plan_Sort : IFunc :=
  { lb := [], scr := false, nargs := 1, res := [.tmp 2],
    body := .seq (.region [⟨(some 2), .mov (.const (.slice none 0 0)), none, 0⟩])
      (.seq (.region [⟨(some 4), .mov (.tmp 0), none, 0⟩,
        ⟨(some 5), .call Id.slices_Clone_Lplan_Object [.tmp 4], none, 0⟩,
        ⟨(some 3), .mov (.tmp 5), none, 0⟩])
      (.seq (.region [⟨(some 6), .mov (.tmp 3), none, 0⟩,
        ⟨(some 7), .call Id.slices_SortStableFunc_Lplan_Object [.tmp 6, .func Id.plan_byPlace], none, 0⟩])
      (.seq (.region [⟨(some 8), .mov (.tmp 3), none, 0⟩,
        ⟨(some 2), .mov (.tmp 8), none, 0⟩])
      (.ret)))) }

def F.compact_Machine_behind : IFunc :=
  { lb := [2], scr := false, nargs := 1, res := [.lb 2 (some 2), .tmp 3],
    body := .seq (.region [⟨(some 2), .lbox (.const (.agg #[.int .i64 0, .int .i64 0])), none, 0⟩,
        ⟨(some 3), .mov (.const (.bool false)), none, 0⟩])
      (.seq (.block 0 (.seq (.region [⟨(some 5), .mov (.tmp 0), none, 0⟩,
        ⟨(some 6), .nilchk (.tmp 5), none, 0⟩,
        ⟨(some 7), .faddr 79 (.tmp 6), none, 0⟩,
        ⟨(some 8), .load none (.tmp 7), none, 0⟩,
        ⟨(some 9), .mov (.tmp 0), none, 0⟩,
        ⟨(some 10), .nilchk (.tmp 9), none, 0⟩,
        ⟨(some 11), .faddr 14 (.tmp 10), none, 0⟩,
        ⟨(some 12), .load none (.tmp 11), none, 0⟩,
        ⟨(some 13), .len false (.tmp 12), none, 0⟩,
        ⟨(some 14), .bin .lss (.tmp 8) (.tmp 13), none, 0⟩,
        ⟨(some 4), .mov (.tmp 14), none, 0⟩])
      (.cond (.tmp 4)
        (.seq (.region [⟨(some 15), .mov (.tmp 0), none, 0⟩,
          ⟨(some 16), .call Id.compact_Machine_on [.tmp 15, .const (.int .i64 5)], none, 0⟩,
          ⟨(some 17), .extract (.tmp 16) 0, none, 0⟩,
          ⟨(some 18), .extract (.tmp 16) 1, none, 0⟩,
          ⟨(some 2), .lstore none 2 0 2 (.tmp 17), none, 0⟩,
          ⟨(some 3), .mov (.tmp 18), none, 0⟩])
        (.ret))
        (.seq (.region [⟨(some 20), .mov (.tmp 0), none, 0⟩,
          ⟨(some 21), .nilchk (.tmp 20), none, 0⟩,
          ⟨(some 22), .faddr 80 (.tmp 21), none, 0⟩,
          ⟨(some 23), .load none (.tmp 22), none, 0⟩,
          ⟨(some 24), .mov (.tmp 0), none, 0⟩,
          ⟨(some 25), .nilchk (.tmp 24), none, 0⟩,
          ⟨(some 26), .faddr 6 (.tmp 25), none, 0⟩,
          ⟨(some 27), .load none (.tmp 26), none, 0⟩,
          ⟨(some 28), .bin .geq (.tmp 23) (.tmp 27), none, 0⟩,
          ⟨(some 19), .mov (.tmp 28), none, 0⟩])
        (.cond (.tmp 19)
          (.seq (.region [⟨(some 29), .mov (.tmp 0), none, 0⟩,
            ⟨(some 30), .call Id.compact_Machine_end [.tmp 29], none, 0⟩,
            ⟨(some 31), .extract (.tmp 30) 0, none, 0⟩,
            ⟨(some 32), .extract (.tmp 30) 1, none, 0⟩,
            ⟨(some 2), .lstore none 2 0 2 (.tmp 31), none, 0⟩,
            ⟨(some 3), .mov (.tmp 32), none, 0⟩])
          (.ret))
          (.skip))))))
      (.seq (.region [⟨(some 33), .mov (.tmp 0), none, 0⟩,
        ⟨(some 34), .mov (.tmp 0), none, 0⟩,
        ⟨(some 35), .nilchk (.tmp 34), none, 0⟩,
        ⟨(some 36), .faddr 2 (.tmp 35), none, 0⟩,
        ⟨(some 37), .load (some 3) (.tmp 36), none, 0⟩,
        ⟨(some 38), .call Id.epoch_NewTurn [.tmp 37], none, 0⟩,
        ⟨(some 39), .nilchk (.tmp 33), none, 0⟩,
        ⟨(some 40), .faddr 85 (.tmp 39), none, 0⟩,
        ⟨none, .store 1 (.tmp 40) (.tmp 38), none, 0⟩])
      (.seq (.region [⟨(some 41), .mov (.tmp 0), none, 0⟩,
        ⟨(some 42), .call Id.compact_Machine_on [.tmp 41, .const (.int .i64 10)], none, 0⟩,
        ⟨(some 43), .extract (.tmp 42) 0, none, 0⟩,
        ⟨(some 44), .extract (.tmp 42) 1, none, 0⟩,
        ⟨(some 2), .lstore none 2 0 2 (.tmp 43), none, 0⟩,
        ⟨(some 3), .mov (.tmp 44), none, 0⟩])
      (.ret)))) }

def F.entry_changed : IFunc :=
  { lb := [], scr := false, nargs := 2, res := [.tmp 4, .tmp 5],
    body := .seq (.region [⟨(some 4), .mov (.const (.int .i64 0)), none, 0⟩,
        ⟨(some 5), .mov (.const (.int .i64 0)), none, 0⟩])
      (.seq (.region [⟨(some 9), .mov (.tmp 0), none, 0⟩,
        ⟨(some 10), .call Id.entry_Unpack [.tmp 9], none, 0⟩,
        ⟨(some 8), .mov (.tmp 10), none, 0⟩,
        ⟨(some 11), .extract (.tmp 8) 0, none, 0⟩,
        ⟨(some 12), .extract (.tmp 8) 1, none, 0⟩,
        ⟨(some 6), .box (.const (.agg #[.int .i64 0, .int .i64 0, .int .i64 0, .int .i64 0, .bool false, .bool false])), none, 0⟩,
        ⟨none, .store 6 (.tmp 6) (.tmp 11), none, 0⟩,
        ⟨(some 7), .mov (.tmp 12), none, 0⟩])
      (.seq (.block 0 (.seq (.region [⟨(some 14), .mov (.tmp 7), none, 0⟩,
        ⟨(some 15), .bin .neq (.tmp 14) (.const (.int .i64 0)), none, 0⟩,
        ⟨(some 13), .mov (.tmp 15), none, 0⟩])
      (.cond (.tmp 13)
        (.seq (.region [⟨(some 16), .mov (.tmp 7), none, 0⟩,
          ⟨(some 4), .mov (.const (.int .i64 0)), none, 0⟩,
          ⟨(some 5), .mov (.tmp 16), none, 0⟩])
        (.ret))
        (.seq (.region [⟨(some 18), .faddr 5 (.tmp 6), none, 0⟩,
          ⟨(some 19), .load none (.tmp 18), none, 0⟩,
          ⟨(some 20), .un .not (.tmp 19), none, 0⟩,
          ⟨(some 17), .mov (.tmp 20), none, 0⟩])
        (.cond (.tmp 17)
          (.seq (.region [⟨(some 4), .mov (.const (.int .i64 0)), none, 0⟩,
            ⟨(some 5), .mov (.const (.int .i64 1)), none, 0⟩])
          (.ret))
          (.skip))))))
      (.seq (.seq (.region [⟨(some 21), .mov (.tmp 1), none, 0⟩,
        ⟨(some 22), .callv (.tmp 21) [.tmp 6], none, 0⟩,
        ⟨(some 7), .mov (.tmp 22), none, 0⟩])
      (.seq (.region [⟨(some 23), .mov (.tmp 7), none, 0⟩,
        ⟨(some 24), .bin .neq (.tmp 23) (.const (.int .i64 0)), none, 0⟩])
      (.cond (.tmp 24)
        (.seq (.region [⟨(some 25), .mov (.tmp 7), none, 0⟩,
          ⟨(some 4), .mov (.const (.int .i64 0)), none, 0⟩,
          ⟨(some 5), .mov (.tmp 25), none, 0⟩])
        (.ret))
        (.skip))))
      (.seq (.region [⟨(some 26), .load (some 6) (.tmp 6), none, 0⟩,
        ⟨(some 27), .call Id.entry_Pack [.tmp 26], none, 0⟩,
        ⟨(some 28), .extract (.tmp 27) 0, none, 0⟩,
        ⟨(some 29), .extract (.tmp 27) 1, none, 0⟩,
        ⟨(some 4), .mov (.tmp 28), none, 0⟩,
        ⟨(some 5), .mov (.tmp 29), none, 0⟩])
      (.ret))))) }

def F.entry_Lock_1 : IFunc :=
  { lb := [], scr := false, nargs := 2, res := [.tmp 3],
    body := .seq (.region [⟨(some 3), .mov (.const (.int .i64 0)), none, 0⟩])
      (.seq (.region [⟨(some 4), .mov (.tmp 0), none, 0⟩,
        ⟨(some 5), .load none (.tmp 1), none, 0⟩,
        ⟨(some 6), .nilchk (.tmp 4), none, 0⟩,
        ⟨(some 7), .faddr 4 (.tmp 6), none, 0⟩,
        ⟨none, .store 1 (.tmp 7) (.tmp 5), none, 0⟩])
      (.seq (.region [⟨(some 3), .mov (.const (.int .i64 0)), none, 0⟩])
      (.ret))) }

def F.entry_Move_1 : IFunc :=
  { lb := [], scr := false, nargs := 2, res := [.tmp 3],
    body := .seq (.region [⟨(some 3), .mov (.const (.int .i64 0)), none, 0⟩])
      (.seq (.region [⟨(some 4), .mov (.tmp 0), none, 0⟩,
        ⟨(some 5), .mov (.tmp 0), none, 0⟩,
        ⟨(some 6), .load none (.tmp 1), none, 0⟩,
        ⟨(some 7), .nilchk (.tmp 4), none, 0⟩,
        ⟨(some 8), .faddr 0 (.tmp 7), none, 0⟩,
        ⟨none, .store 1 (.tmp 8) (.tmp 6), none, 0⟩,
        ⟨(some 9), .nilchk (.tmp 5), none, 0⟩,
        ⟨(some 10), .faddr 4 (.tmp 9), none, 0⟩,
        ⟨none, .store 1 (.tmp 10) (.const (.bool false)), none, 0⟩])
      (.seq (.region [⟨(some 3), .mov (.const (.int .i64 0)), none, 0⟩])
      (.ret))) }

def F.head_Older : IFunc :=
  { lb := [], scr := false, nargs := 2, res := [.tmp 4],
    body := .seq (.region [⟨(some 4), .mov (.const (.bool false)), none, 0⟩])
      (.seq (.region [⟨(some 8), .mov (.tmp 0), none, 0⟩,
        ⟨(some 9), .call Id.head_Inside [.tmp 8], none, 0⟩,
        ⟨(some 7), .mov (.tmp 9), none, 0⟩,
        ⟨(some 10), .extract (.tmp 7) 0, none, 0⟩,
        ⟨(some 11), .extract (.tmp 7) 1, none, 0⟩,
        ⟨(some 5), .mov (.tmp 10), none, 0⟩,
        ⟨(some 6), .mov (.tmp 11), none, 0⟩])
      (.seq (.region [⟨(some 12), .mov (.tmp 6), none, 0⟩,
        ⟨(some 13), .mov (.tmp 12), none, 0⟩,
        ⟨(some 14), .mov (.tmp 5), (some (13, true)), 0⟩,
        ⟨(some 15), .mov (.tmp 1), (some (13, true)), 0⟩,
        ⟨(some 16), .bin .lss (.tmp 14) (.tmp 15), (some (13, true)), 0⟩,
        ⟨(some 17), .pick (.tmp 13) (.tmp 16) (.const (.bool false)), none, 0⟩,
        ⟨(some 4), .mov (.tmp 17), none, 0⟩])
      (.ret))) }
end Go.Proofs.YtbkdahiplcbppaaGreat
