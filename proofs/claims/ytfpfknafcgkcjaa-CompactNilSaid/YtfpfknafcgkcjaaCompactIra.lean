/- The functions of this seat in the small language: printed by a program. -/
import Derived.Test.YtfpfknafcgkcjaaIrD

namespace Go.Proofs.Ytfpfknafcgkcjaa
open Go Go.Ir

def Id.sidingslaw18_CompactEnds : Nat := 3
def Id.sidingslaw18_CompactBusy : Nat := 4
def Id.sidingslaw18_CompactTwice : Nat := 5
def Id.sidingslaw18_CompactNil : Nat := 6
def Id.sidingslaw18_CompactLocks : Nat := 7
def Id.sidingslaw18_start : Nat := 8
def Id.sidingsref06_May : Nat := 9
def Id.sidingslaw18_live : Nat := 10
def Id.sidingslaw18_lay : Nat := 11
def Id.sidingslaw18_run : Nat := 12
def Id.compact_New : Nat := 13
def Id.cells_Plain_Load : Nat := 14
def Id.cells_Plain_Store : Nat := 15
def Id.compact_Machine_Lowered : Nat := 16
def Id.cells_Plain_Copy : Nat := 17
def Id.cells_Plain_Byte : Nat := 18
def Id.compact_Machine_Step : Nat := 19
def Id.compact_Machine_Moving : Nat := 20
def Id.sidingsref02_Unpack : Nat := 21
def Id.cells_New : Nat := 22
def Id.sidingsref06_Words : Nat := 23
def Id.layout_Start : Nat := 24
def Id.sidingsref02_Pack : Nat := 25
def Id.cells_Plain_SetByte : Nat := 26
def Id.sidingsref03_Round : Nat := 27
def Id.layout_Of : Nat := 28
def Id.cells_Plain_word : Nat := 29
def Id.cells_Plain_byte : Nat := 30
def Id.layout_Layout_Frontier : Nat := 31
def Id.compact_Machine_on : Nat := 32
def Id.layout_Layout_Pending : Nat := 33
def Id.compact_Machine_end : Nat := 34
def Id.compact_Machine_scan : Nat := 35
def Id.compact_Machine_measure : Nat := 36
def Id.compact_Machine_look : Nat := 37
def Id.compact_Machine_lock : Nat := 38
def Id.compact_Machine_object : Nat := 39
def Id.compact_Machine_lay : Nat := 40
def Id.compact_Machine_store : Nat := 41
def Id.compact_Machine_turn : Nat := 42
def Id.sidingsref02_May : Nat := 43
def Id.cells_may : Nat := 44
def Id.layout_Layout_Words : Nat := 45
def Id.layout_Layout_Link : Nat := 46
def Id.head_Pack : Nat := 47
def Id.layout_Layout_Stack : Nat := 48
def Id.sidingsref02_bit : Nat := 49
def Id.layout_in : Nat := 50
def Id.layout_Layout_once : Nat := 51
def Id.entry_Unpack : Nat := 52
def Id.layout_Layout_Entry : Nat := 53
def Id.compact_Machine_scanned : Nat := 54
def Id.handle_Round : Nat := 55
def Id.layout_Layout_Size : Nat := 56
def Id.compact_Machine_passed : Nat := 57
def Id.entry_Lock : Nat := 58
def Id.entry_Move : Nat := 59
def Id.epoch_Turn_Step : Nat := 60
def Id.layout_Layout_of : Nat := 61
def Id.head_may : Nat := 62
def Id.head_of : Nat := 63
def Id.head_front_word : Nat := 64
def Id.entry_fields : Nat := 65
def Id.field_Get : Nat := 66
def Id.entry_Entry_may : Nat := 67
def Id.plan_Sort : Nat := 68
def Id.compact_Machine_behind : Nat := 69
def Id.entry_changed : Nat := 70
def Id.entry_Lock_1 : Nat := 71
def Id.entry_Move_1 : Nat := 72
def Id.layout_Layout_Epoch : Nat := 73
def Id.head_Older : Nat := 74
def Id.layout_Layout_Note : Nat := 75
def Id.field_Put : Nat := 76
def Id.head_topField : Nat := 77
def Id.head_front_top : Nat := 78
def Id.head_tagField : Nat := 79
def Id.head_front_tag : Nat := 80
def Id.field_word : Nat := 81
def Id.field_told : Nat := 82
def Id.field_Field_mask : Nat := 83
def Id.entry_in : Nat := 84
def Id.slices_Clone_Lplan_Object : Nat := 85
def Id.slices_SortStableFunc_Lplan_Object : Nat := 86
def Id.plan_byPlace : Nat := 87
def Id.epoch_NewTurn : Nat := 88
def Id.entry_Pack : Nat := 89
def Id.head_Inside : Nat := 90
def Id.field_Field_may : Nat := 91
def Id.field_Field_most : Nat := 92
def Id.slices_stableCmpFunc_plan_Object : Nat := 93
def Id.cmp_Or_int : Nat := 94
def Id.cmp_Compare_int : Nat := 95
def Id.plan_bit : Nat := 96
def Id.entry_bit : Nat := 97
def Id.slices_insertionSortCmpFunc_plan_Object : Nat := 98
def Id.slices_symMergeCmpFunc_plan_Object : Nat := 99
def Id.cmp_isNaN_int : Nat := 100
def Id.slices_rotateCmpFunc_plan_Object : Nat := 101
def Id.slices_swapRangeCmpFunc_plan_Object : Nat := 102
def Id.cells_Plain_Bytes : Nat := 118
def Id.cells_Plain_Cas : Nat := 119
def Id.cells_Plain_Words : Nat := 120

def F.sidingslaw18_CompactEnds : IFunc :=
  { lb := [3, 12], scr := false, nargs := 3, res := [.tmp 6],
    body := .seq (.region [⟨(some 3), .lbox (.tmp 0), none, 0⟩,
        ⟨(some 6), .mov (.const (.bool false)), none, 0⟩])
      (.seq (.region [⟨(some 14), .lload none 3 0 (some 3), none, 0⟩,
        ⟨(some 15), .call Id.sidingslaw18_start [.tmp 14], none, 0⟩,
        ⟨(some 7), .mov (.tmp 15), none, 0⟩])
      (.seq (.seq (.region [⟨(some 16), .mov (.tmp 7), none, 0⟩,
        ⟨(some 17), .eqv false (.nil 0) (.tmp 16) (.const (.pointer none)), none, 0⟩,
        ⟨(some 18), .mov (.tmp 17), none, 0⟩,
        ⟨(some 19), .mov (.tmp 1), (some (18, false)), 0⟩,
        ⟨(some 20), .len false (.tmp 19), (some (18, false)), 0⟩,
        ⟨(some 21), .bin .gtr (.tmp 20) (.const (.int .i64 20)), (some (18, false)), 0⟩,
        ⟨(some 22), .pick (.tmp 18) (.const (.bool true)) (.tmp 21), none, 0⟩])
      (.cond (.tmp 22)
        (.seq (.region [⟨(some 23), .mov (.tmp 7), none, 0⟩,
          ⟨(some 24), .eqv true (.nil 0) (.tmp 23) (.const (.pointer none)), none, 0⟩,
          ⟨(some 25), .mov (.tmp 24), none, 0⟩,
          ⟨(some 26), .lload none 3 0 (some 3), (some (25, false)), 0⟩,
          ⟨(some 27), .call Id.sidingsref06_May [.tmp 26], (some (25, false)), 0⟩,
          ⟨(some 28), .un .not (.tmp 27), (some (25, false)), 0⟩,
          ⟨(some 29), .pick (.tmp 25) (.const (.bool true)) (.tmp 28), none, 0⟩,
          ⟨(some 30), .mov (.tmp 29), none, 0⟩,
          ⟨(some 31), .call Id.sidingslaw18_live [], (some (30, true)), 0⟩,
          ⟨(some 32), .pick (.tmp 30) (.tmp 31) (.const (.bool false)), none, 0⟩,
          ⟨(some 6), .mov (.tmp 32), none, 0⟩])
        (.ret))
        (.skip)))
      (.seq (.region [⟨(some 34), .mov (.tmp 7), none, 0⟩,
        ⟨(some 35), .lload none 3 0 (some 3), none, 0⟩,
        ⟨(some 36), .mov (.tmp 1), none, 0⟩,
        ⟨(some 37), .mov (.tmp 2), none, 0⟩,
        ⟨(some 38), .call Id.sidingslaw18_lay [.tmp 34, .tmp 35, .tmp 36, .tmp 37], none, 0⟩,
        ⟨(some 33), .mov (.tmp 38), none, 0⟩,
        ⟨(some 39), .extract (.tmp 33) 0, none, 0⟩,
        ⟨(some 40), .extract (.tmp 33) 1, none, 0⟩,
        ⟨(some 8), .mov (.tmp 39), none, 0⟩,
        ⟨(some 9), .mov (.tmp 40), none, 0⟩])
      (.seq (.seq (.region [⟨(some 41), .mov (.tmp 9), none, 0⟩,
        ⟨(some 42), .un .not (.tmp 41), none, 0⟩])
      (.cond (.tmp 42)
        (.seq (.region [⟨(some 43), .call Id.sidingslaw18_live [], none, 0⟩,
          ⟨(some 6), .mov (.tmp 43), none, 0⟩])
        (.ret))
        (.skip)))
      (.seq (.region [⟨(some 44), .laddr none 3 1, none, 0⟩,
        ⟨(some 45), .lload (some 44) 3 1 none, none, 0⟩,
        ⟨(some 46), .bin .mul (.const (.int .i64 2)) (.tmp 45), none, 0⟩,
        ⟨(some 47), .bin .add (.const (.int .i64 2)) (.tmp 46), none, 0⟩,
        ⟨(some 48), .bin .add (.tmp 47) (.const (.int .i64 2)), none, 0⟩,
        ⟨(some 49), .laddr none 3 2, none, 0⟩,
        ⟨(some 50), .lload (some 49) 3 2 none, none, 0⟩,
        ⟨(some 51), .bin .add (.tmp 48) (.tmp 50), none, 0⟩,
        ⟨(some 52), .bin .add (.tmp 51) (.const (.int .i64 1)), none, 0⟩,
        ⟨(some 10), .mov (.tmp 52), none, 0⟩])
      (.seq (.seq (.region [⟨(some 11), .mov (.const (.int .i64 0)), none, 0⟩])
      (.block 0 (.loop [3, 7, 8, 10, 11]
        (.seq (.seq (.region [⟨(some 53), .mov (.tmp 11), none, 0⟩,
          ⟨(some 54), .mov (.tmp 8), none, 0⟩,
          ⟨(some 55), .len false (.tmp 54), none, 0⟩,
          ⟨(some 56), .bin .lss (.tmp 53) (.tmp 55), none, 0⟩])
        (.cond (.tmp 56)
          (.skip)
          (.exit 0)))
        (.seq (.block 1 (.region [⟨(some 59), .mov (.tmp 10), none, 0⟩,
          ⟨(some 60), .bin .add (.tmp 59) (.const (.int .i64 3)), none, 0⟩,
          ⟨(some 61), .mov (.tmp 8), none, 0⟩,
          ⟨(some 62), .mov (.tmp 11), none, 0⟩,
          ⟨(some 63), .iaddr none 4 (.tmp 61) (.tmp 62), none, 0⟩,
          ⟨(some 64), .faddr 2 (.tmp 63), none, 0⟩,
          ⟨(some 65), .load none (.tmp 64), none, 0⟩,
          ⟨(some 66), .bin .mul (.const (.int .i64 2)) (.tmp 65), none, 0⟩,
          ⟨(some 67), .bin .add (.tmp 60) (.tmp 66), none, 0⟩,
          ⟨(some 10), .mov (.tmp 67), none, 0⟩]))
        (.region [⟨(some 57), .mov (.tmp 11), none, 0⟩,
          ⟨(some 58), .bin .add (.tmp 57) (.const (.int .i64 1)), none, 0⟩,
          ⟨(some 11), .mov (.tmp 58), none, 0⟩]))))))
      (.seq (.region [⟨(some 69), .mov (.tmp 7), none, 0⟩,
        ⟨(some 70), .lload none 3 0 (some 3), none, 0⟩,
        ⟨(some 71), .call Id.compact_New [.tmp 70], none, 0⟩,
        ⟨(some 72), .mov (.tmp 10), none, 0⟩,
        ⟨(some 73), .call Id.sidingslaw18_run [.tmp 69, .tmp 71, .tmp 72], none, 0⟩,
        ⟨(some 68), .mov (.tmp 73), none, 0⟩,
        ⟨(some 74), .extract (.tmp 68) 0, none, 0⟩,
        ⟨(some 75), .extract (.tmp 68) 1, none, 0⟩,
        ⟨(some 12), .lbox (.const (.agg #[.int .i64 0, .int .i64 0])), none, 0⟩,
        ⟨(some 12), .lstore none 12 0 2 (.tmp 74), none, 0⟩,
        ⟨(some 13), .mov (.tmp 75), none, 0⟩])
      (.seq (.region [⟨(some 76), .laddr none 12 0, none, 0⟩,
        ⟨(some 77), .lload (some 76) 12 0 none, none, 0⟩,
        ⟨(some 78), .bin .eql (.tmp 77) (.const (.int .i64 0)), none, 0⟩,
        ⟨(some 79), .mov (.tmp 78), none, 0⟩,
        ⟨(some 80), .mov (.tmp 13), (some (79, true)), 0⟩,
        ⟨(some 81), .mov (.tmp 10), (some (79, true)), 0⟩,
        ⟨(some 82), .bin .leq (.tmp 80) (.tmp 81), (some (79, true)), 0⟩,
        ⟨(some 83), .pick (.tmp 79) (.tmp 82) (.const (.bool false)), none, 0⟩,
        ⟨(some 84), .mov (.tmp 83), none, 0⟩,
        ⟨(some 85), .call Id.sidingslaw18_live [], (some (84, true)), 0⟩,
        ⟨(some 86), .pick (.tmp 84) (.tmp 85) (.const (.bool false)), none, 0⟩,
        ⟨(some 6), .mov (.tmp 86), none, 0⟩])
      (.ret))))))))) }

def F.sidingslaw18_CompactBusy : IFunc :=
  { lb := [1, 3, 12], scr := false, nargs := 1, res := [.tmp 2],
    body := .seq (.region [⟨(some 1), .lbox (.tmp 0), none, 0⟩,
        ⟨(some 2), .mov (.const (.bool false)), none, 0⟩])
      (.seq (.region [⟨(some 14), .laddr none 1 0, none, 0⟩,
        ⟨(some 15), .lload (some 14) 1 0 (some 3), none, 0⟩,
        ⟨(some 16), .laddr none 1 3, none, 0⟩,
        ⟨(some 17), .lload (some 16) 1 3 none, none, 0⟩,
        ⟨(some 18), .laddr none 1 4, none, 0⟩,
        ⟨(some 19), .lload (some 18) 1 4 none, none, 0⟩,
        ⟨(some 20), .laddr none 1 5, none, 0⟩,
        ⟨(some 21), .lload (some 20) 1 5 none, none, 0⟩,
        ⟨(some 3), .lbox (.const (.agg #[.int .i64 0, .int .i64 0, .int .i64 0])), none, 0⟩,
        ⟨(some 3), .lstore none 3 0 3 (.tmp 15), none, 0⟩,
        ⟨(some 4), .mov (.tmp 17), none, 0⟩,
        ⟨(some 5), .mov (.tmp 19), none, 0⟩,
        ⟨(some 6), .mov (.tmp 21), none, 0⟩])
      (.seq (.region [⟨(some 22), .lload none 3 0 (some 3), none, 0⟩,
        ⟨(some 23), .call Id.sidingslaw18_start [.tmp 22], none, 0⟩,
        ⟨(some 7), .mov (.tmp 23), none, 0⟩])
      (.seq (.seq (.region [⟨(some 24), .mov (.tmp 7), none, 0⟩,
        ⟨(some 25), .eqv false (.nil 0) (.tmp 24) (.const (.pointer none)), none, 0⟩,
        ⟨(some 26), .mov (.tmp 25), none, 0⟩,
        ⟨(some 27), .mov (.tmp 4), (some (26, false)), 0⟩,
        ⟨(some 28), .len false (.tmp 27), (some (26, false)), 0⟩,
        ⟨(some 29), .bin .gtr (.tmp 28) (.const (.int .i64 20)), (some (26, false)), 0⟩,
        ⟨(some 30), .pick (.tmp 26) (.const (.bool true)) (.tmp 29), none, 0⟩,
        ⟨(some 31), .mov (.tmp 30), none, 0⟩,
        ⟨(some 32), .mov (.tmp 6), (some (31, false)), 0⟩,
        ⟨(some 33), .bin .lss (.tmp 32) (.const (.int .i64 0)), (some (31, false)), 0⟩,
        ⟨(some 34), .pick (.tmp 31) (.const (.bool true)) (.tmp 33), none, 0⟩,
        ⟨(some 35), .mov (.tmp 34), none, 0⟩,
        ⟨(some 36), .mov (.tmp 6), (some (35, false)), 0⟩,
        ⟨(some 37), .bin .gtr (.tmp 36) (.const (.int .i64 1)), (some (35, false)), 0⟩,
        ⟨(some 38), .pick (.tmp 35) (.const (.bool true)) (.tmp 37), none, 0⟩])
      (.cond (.tmp 38)
        (.seq (.region [⟨(some 39), .mov (.tmp 7), none, 0⟩,
          ⟨(some 40), .eqv true (.nil 0) (.tmp 39) (.const (.pointer none)), none, 0⟩,
          ⟨(some 41), .mov (.tmp 40), none, 0⟩,
          ⟨(some 42), .lload none 3 0 (some 3), (some (41, false)), 0⟩,
          ⟨(some 43), .call Id.sidingsref06_May [.tmp 42], (some (41, false)), 0⟩,
          ⟨(some 44), .un .not (.tmp 43), (some (41, false)), 0⟩,
          ⟨(some 45), .pick (.tmp 41) (.const (.bool true)) (.tmp 44), none, 0⟩,
          ⟨(some 46), .mov (.tmp 45), none, 0⟩,
          ⟨(some 47), .call Id.sidingslaw18_live [], (some (46, true)), 0⟩,
          ⟨(some 48), .pick (.tmp 46) (.tmp 47) (.const (.bool false)), none, 0⟩,
          ⟨(some 2), .mov (.tmp 48), none, 0⟩])
        (.ret))
        (.skip)))
      (.seq (.region [⟨(some 50), .mov (.tmp 7), none, 0⟩,
        ⟨(some 51), .lload none 3 0 (some 3), none, 0⟩,
        ⟨(some 52), .mov (.tmp 4), none, 0⟩,
        ⟨(some 53), .call Id.sidingslaw18_lay [.tmp 50, .tmp 51, .tmp 52, .const (.int .i64 1)], none, 0⟩,
        ⟨(some 49), .mov (.tmp 53), none, 0⟩,
        ⟨(some 54), .extract (.tmp 49) 0, none, 0⟩,
        ⟨(some 55), .extract (.tmp 49) 1, none, 0⟩,
        ⟨(some 8), .mov (.tmp 54), none, 0⟩,
        ⟨(some 9), .mov (.tmp 55), none, 0⟩])
      (.seq (.seq (.region [⟨(some 56), .mov (.tmp 9), none, 0⟩,
        ⟨(some 57), .un .not (.tmp 56), none, 0⟩,
        ⟨(some 58), .mov (.tmp 57), none, 0⟩,
        ⟨(some 59), .mov (.tmp 5), (some (58, false)), 0⟩,
        ⟨(some 60), .bin .eql (.tmp 59) (.const (.int .i64 0)), (some (58, false)), 0⟩,
        ⟨(some 61), .mov (.tmp 60), (some (58, false)), 0⟩,
        ⟨(some 62), .mov (.tmp 6), (some (61, true)), 0⟩,
        ⟨(some 63), .bin .eql (.tmp 62) (.const (.int .i64 0)), (some (61, true)), 0⟩,
        ⟨(some 64), .pick (.tmp 61) (.tmp 63) (.const (.bool false)), (some (58, false)), 0⟩,
        ⟨(some 65), .pick (.tmp 58) (.const (.bool true)) (.tmp 64), none, 0⟩])
      (.cond (.tmp 65)
        (.seq (.region [⟨(some 66), .call Id.sidingslaw18_live [], none, 0⟩,
          ⟨(some 2), .mov (.tmp 66), none, 0⟩])
        (.ret))
        (.skip)))
      (.seq (.region [⟨(some 67), .mov (.tmp 7), none, 0⟩,
        ⟨(some 68), .call Id.cells_Plain_Load [.tmp 67, .const (.int .i64 0)], none, 0⟩,
        ⟨(some 10), .mov (.tmp 68), none, 0⟩])
      (.seq (.region [⟨(some 69), .mov (.tmp 7), none, 0⟩,
        ⟨(some 70), .mov (.tmp 5), none, 0⟩,
        ⟨(some 71), .call Id.cells_Plain_Store [.tmp 69, .const (.int .i64 2), .tmp 70], none, 0⟩])
      (.seq (.region [⟨(some 72), .mov (.tmp 7), none, 0⟩,
        ⟨(some 73), .mov (.tmp 6), none, 0⟩,
        ⟨(some 74), .call Id.cells_Plain_Store [.tmp 72, .const (.int .i64 4), .tmp 73], none, 0⟩])
      (.seq (.region [⟨(some 75), .lload none 3 0 (some 3), none, 0⟩,
        ⟨(some 76), .call Id.compact_New [.tmp 75], none, 0⟩,
        ⟨(some 11), .mov (.tmp 76), none, 0⟩])
      (.seq (.region [⟨(some 78), .mov (.tmp 7), none, 0⟩,
        ⟨(some 79), .mov (.tmp 11), none, 0⟩,
        ⟨(some 80), .call Id.sidingslaw18_run [.tmp 78, .tmp 79, .const (.int .i64 20000)], none, 0⟩,
        ⟨(some 77), .mov (.tmp 80), none, 0⟩,
        ⟨(some 81), .extract (.tmp 77) 0, none, 0⟩,
        ⟨(some 82), .extract (.tmp 77) 1, none, 0⟩,
        ⟨(some 12), .lbox (.const (.agg #[.int .i64 0, .int .i64 0])), none, 0⟩,
        ⟨(some 12), .lstore none 12 0 2 (.tmp 81), none, 0⟩,
        ⟨(some 13), .mov (.tmp 82), none, 0⟩])
      (.seq (.seq (.region [⟨(some 83), .mov (.tmp 5), none, 0⟩,
        ⟨(some 84), .bin .neq (.tmp 83) (.const (.int .i64 0)), none, 0⟩,
        ⟨(some 85), .mov (.tmp 84), none, 0⟩,
        ⟨(some 86), .mov (.tmp 13), (some (85, true)), 0⟩,
        ⟨(some 87), .bin .neq (.tmp 86) (.const (.int .i64 2)), (some (85, true)), 0⟩,
        ⟨(some 88), .mov (.tmp 87), (some (85, true)), 0⟩,
        ⟨(some 89), .lload none 12 0 (some 2), (some (88, false)), 0⟩,
        ⟨(some 90), .build [.int .i64 0, .int .i64 0] [], (some (88, false)), 0⟩,
        ⟨(some 91), .eqv true (.cells [(0, 0), (1, 0)]) (.tmp 89) (.tmp 90), (some (88, false)), 0⟩,
        ⟨(some 92), .pick (.tmp 88) (.const (.bool true)) (.tmp 91), (some (85, true)), 0⟩,
        ⟨(some 93), .pick (.tmp 85) (.tmp 92) (.const (.bool false)), none, 0⟩])
      (.cond (.tmp 93)
        (.seq (.region [⟨(some 2), .mov (.const (.bool false)), none, 0⟩])
        (.ret))
        (.skip)))
      (.seq (.region [⟨(some 94), .laddr none 12 0, none, 0⟩,
        ⟨(some 95), .lload (some 94) 12 0 none, none, 0⟩,
        ⟨(some 96), .bin .eql (.tmp 95) (.const (.int .i64 0)), none, 0⟩,
        ⟨(some 97), .mov (.tmp 96), none, 0⟩,
        ⟨(some 98), .mov (.tmp 7), (some (97, true)), 0⟩,
        ⟨(some 99), .call Id.cells_Plain_Load [.tmp 98, .const (.int .i64 0)], (some (97, true)), 0⟩,
        ⟨(some 100), .mov (.tmp 10), (some (97, true)), 0⟩,
        ⟨(some 101), .bin .eql (.tmp 99) (.tmp 100), (some (97, true)), 0⟩,
        ⟨(some 102), .pick (.tmp 97) (.tmp 101) (.const (.bool false)), none, 0⟩,
        ⟨(some 103), .mov (.tmp 102), none, 0⟩,
        ⟨(some 104), .mov (.tmp 11), (some (103, true)), 0⟩,
        ⟨(some 105), .call Id.compact_Machine_Lowered [.tmp 104], (some (103, true)), 0⟩,
        ⟨(some 106), .un .not (.tmp 105), (some (103, true)), 0⟩,
        ⟨(some 107), .pick (.tmp 103) (.tmp 106) (.const (.bool false)), none, 0⟩,
        ⟨(some 108), .mov (.tmp 107), none, 0⟩,
        ⟨(some 109), .call Id.sidingslaw18_live [], (some (108, true)), 0⟩,
        ⟨(some 110), .pick (.tmp 108) (.tmp 109) (.const (.bool false)), none, 0⟩,
        ⟨(some 2), .mov (.tmp 110), none, 0⟩])
      (.ret))))))))))))) }

def F.sidingslaw18_CompactTwice : IFunc :=
  { lb := [3, 12], scr := false, nargs := 3, res := [.tmp 6],
    body := .seq (.region [⟨(some 3), .lbox (.tmp 0), none, 0⟩,
        ⟨(some 6), .mov (.const (.bool false)), none, 0⟩])
      (.seq (.region [⟨(some 15), .lload none 3 0 (some 3), none, 0⟩,
        ⟨(some 16), .call Id.sidingslaw18_start [.tmp 15], none, 0⟩,
        ⟨(some 7), .mov (.tmp 16), none, 0⟩])
      (.seq (.seq (.region [⟨(some 17), .mov (.tmp 7), none, 0⟩,
        ⟨(some 18), .eqv false (.nil 0) (.tmp 17) (.const (.pointer none)), none, 0⟩,
        ⟨(some 19), .mov (.tmp 18), none, 0⟩,
        ⟨(some 20), .mov (.tmp 1), (some (19, false)), 0⟩,
        ⟨(some 21), .len false (.tmp 20), (some (19, false)), 0⟩,
        ⟨(some 22), .bin .gtr (.tmp 21) (.const (.int .i64 20)), (some (19, false)), 0⟩,
        ⟨(some 23), .pick (.tmp 19) (.const (.bool true)) (.tmp 22), none, 0⟩])
      (.cond (.tmp 23)
        (.seq (.region [⟨(some 24), .mov (.tmp 7), none, 0⟩,
          ⟨(some 25), .eqv true (.nil 0) (.tmp 24) (.const (.pointer none)), none, 0⟩,
          ⟨(some 26), .mov (.tmp 25), none, 0⟩,
          ⟨(some 27), .lload none 3 0 (some 3), (some (26, false)), 0⟩,
          ⟨(some 28), .call Id.sidingsref06_May [.tmp 27], (some (26, false)), 0⟩,
          ⟨(some 29), .un .not (.tmp 28), (some (26, false)), 0⟩,
          ⟨(some 30), .pick (.tmp 26) (.const (.bool true)) (.tmp 29), none, 0⟩,
          ⟨(some 31), .mov (.tmp 30), none, 0⟩,
          ⟨(some 32), .call Id.sidingslaw18_live [], (some (31, true)), 0⟩,
          ⟨(some 33), .pick (.tmp 31) (.tmp 32) (.const (.bool false)), none, 0⟩,
          ⟨(some 6), .mov (.tmp 33), none, 0⟩])
        (.ret))
        (.skip)))
      (.seq (.region [⟨(some 35), .mov (.tmp 7), none, 0⟩,
        ⟨(some 36), .lload none 3 0 (some 3), none, 0⟩,
        ⟨(some 37), .mov (.tmp 1), none, 0⟩,
        ⟨(some 38), .mov (.tmp 2), none, 0⟩,
        ⟨(some 39), .call Id.sidingslaw18_lay [.tmp 35, .tmp 36, .tmp 37, .tmp 38], none, 0⟩,
        ⟨(some 34), .mov (.tmp 39), none, 0⟩,
        ⟨(some 40), .extract (.tmp 34) 0, none, 0⟩,
        ⟨(some 41), .extract (.tmp 34) 1, none, 0⟩,
        ⟨(some 8), .mov (.tmp 40), none, 0⟩,
        ⟨(some 9), .mov (.tmp 41), none, 0⟩])
      (.seq (.seq (.region [⟨(some 42), .mov (.tmp 9), none, 0⟩,
        ⟨(some 43), .un .not (.tmp 42), none, 0⟩])
      (.cond (.tmp 43)
        (.seq (.region [⟨(some 44), .call Id.sidingslaw18_live [], none, 0⟩,
          ⟨(some 6), .mov (.tmp 44), none, 0⟩])
        (.ret))
        (.skip)))
      (.seq (.region [⟨(some 45), .mov (.tmp 7), none, 0⟩,
        ⟨(some 46), .lload none 3 0 (some 3), none, 0⟩,
        ⟨(some 47), .call Id.compact_New [.tmp 46], none, 0⟩,
        ⟨(some 48), .call Id.sidingslaw18_run [.tmp 45, .tmp 47, .const (.int .i64 20000)], none, 0⟩])
      (.seq (.region [⟨(some 49), .mov (.tmp 7), none, 0⟩,
        ⟨(some 50), .call Id.cells_Plain_Copy [.tmp 49], none, 0⟩,
        ⟨(some 10), .mov (.tmp 50), none, 0⟩])
      (.seq (.region [⟨(some 51), .lload none 3 0 (some 3), none, 0⟩,
        ⟨(some 52), .call Id.compact_New [.tmp 51], none, 0⟩,
        ⟨(some 11), .mov (.tmp 52), none, 0⟩])
      (.seq (.region [⟨(some 54), .mov (.tmp 7), none, 0⟩,
        ⟨(some 55), .mov (.tmp 11), none, 0⟩,
        ⟨(some 56), .call Id.sidingslaw18_run [.tmp 54, .tmp 55, .const (.int .i64 20000)], none, 0⟩,
        ⟨(some 53), .mov (.tmp 56), none, 0⟩,
        ⟨(some 57), .extract (.tmp 53) 0, none, 0⟩,
        ⟨(some 58), .extract (.tmp 53) 1, none, 0⟩,
        ⟨(some 12), .lbox (.const (.agg #[.int .i64 0, .int .i64 0])), none, 0⟩,
        ⟨(some 12), .lstore none 12 0 2 (.tmp 57), none, 0⟩,
        ⟨(some 13), .mov (.tmp 58), none, 0⟩])
      (.seq (.seq (.region [⟨(some 14), .mov (.const (.int .i64 0)), none, 0⟩])
      (.block 0 (.loop [3, 7, 10, 11, 12, 14]
        (.seq (.seq (.region [⟨(some 59), .mov (.tmp 14), none, 0⟩,
          ⟨(some 60), .laddr none 3 0, none, 0⟩,
          ⟨(some 61), .lload (some 60) 3 0 none, none, 0⟩,
          ⟨(some 62), .bin .lss (.tmp 59) (.tmp 61), none, 0⟩])
        (.cond (.tmp 62)
          (.skip)
          (.exit 0)))
        (.seq (.block 1 (.seq (.region [⟨(some 65), .mov (.tmp 7), none, 0⟩,
          ⟨(some 66), .mov (.tmp 14), none, 0⟩,
          ⟨(some 67), .call Id.cells_Plain_Byte [.tmp 65, .tmp 66], none, 0⟩,
          ⟨(some 68), .mov (.tmp 10), none, 0⟩,
          ⟨(some 69), .mov (.tmp 14), none, 0⟩,
          ⟨(some 70), .call Id.cells_Plain_Byte [.tmp 68, .tmp 69], none, 0⟩,
          ⟨(some 71), .bin .neq (.tmp 67) (.tmp 70), none, 0⟩])
        (.cond (.tmp 71)
          (.seq (.region [⟨(some 6), .mov (.const (.bool false)), none, 0⟩])
          (.ret))
          (.skip))))
        (.region [⟨(some 63), .mov (.tmp 14), none, 0⟩,
          ⟨(some 64), .bin .add (.tmp 63) (.const (.int .i64 1)), none, 0⟩,
          ⟨(some 14), .mov (.tmp 64), none, 0⟩]))))))
      (.seq (.region [⟨(some 72), .lload none 12 0 (some 2), none, 0⟩,
        ⟨(some 73), .build [.int .i64 0, .int .i64 0] [], none, 0⟩,
        ⟨(some 74), .eqv false (.cells [(0, 0), (1, 0)]) (.tmp 72) (.tmp 73), none, 0⟩,
        ⟨(some 75), .mov (.tmp 74), none, 0⟩,
        ⟨(some 76), .mov (.tmp 11), (some (75, true)), 0⟩,
        ⟨(some 77), .call Id.compact_Machine_Lowered [.tmp 76], (some (75, true)), 0⟩,
        ⟨(some 78), .un .not (.tmp 77), (some (75, true)), 0⟩,
        ⟨(some 79), .pick (.tmp 75) (.tmp 78) (.const (.bool false)), none, 0⟩,
        ⟨(some 80), .mov (.tmp 79), none, 0⟩,
        ⟨(some 81), .mov (.tmp 7), (some (80, true)), 0⟩,
        ⟨(some 82), .call Id.cells_Plain_Load [.tmp 81, .const (.int .i64 0)], (some (80, true)), 0⟩,
        ⟨(some 83), .mov (.tmp 10), (some (80, true)), 0⟩,
        ⟨(some 84), .call Id.cells_Plain_Load [.tmp 83, .const (.int .i64 0)], (some (80, true)), 0⟩,
        ⟨(some 85), .bin .eql (.tmp 82) (.tmp 84), (some (80, true)), 0⟩,
        ⟨(some 86), .pick (.tmp 80) (.tmp 85) (.const (.bool false)), none, 0⟩,
        ⟨(some 87), .mov (.tmp 86), none, 0⟩,
        ⟨(some 88), .call Id.sidingslaw18_live [], (some (87, true)), 0⟩,
        ⟨(some 89), .pick (.tmp 87) (.tmp 88) (.const (.bool false)), none, 0⟩,
        ⟨(some 6), .mov (.tmp 89), none, 0⟩])
      (.ret))))))))))) }

def F.sidingslaw18_CompactNil : IFunc :=
  { lb := [1, 4, 6, 8], scr := false, nargs := 1, res := [.tmp 2],
    body := .seq (.region [⟨(some 1), .lbox (.tmp 0), none, 0⟩,
        ⟨(some 2), .mov (.const (.bool false)), none, 0⟩])
      (.seq (.region [⟨(some 3), .mov (.const (.pointer none)), none, 0⟩])
      (.seq (.region [⟨(some 11), .mov (.tmp 3), none, 0⟩,
        ⟨(some 12), .lload none 1 0 (some 3), none, 0⟩,
        ⟨(some 13), .call Id.sidingslaw18_start [.tmp 12], none, 0⟩,
        ⟨(some 14), .mkif 25 (.tmp 13), none, 0⟩,
        ⟨(some 15), .call Id.compact_Machine_Step [.tmp 11, .tmp 14], none, 0⟩,
        ⟨(some 10), .mov (.tmp 15), none, 0⟩,
        ⟨(some 16), .extract (.tmp 10) 0, none, 0⟩,
        ⟨(some 17), .extract (.tmp 10) 1, none, 0⟩,
        ⟨(some 4), .lbox (.const (.agg #[.int .i64 0, .int .i64 0])), none, 0⟩,
        ⟨(some 4), .lstore none 4 0 2 (.tmp 16), none, 0⟩,
        ⟨(some 5), .mov (.tmp 17), none, 0⟩])
      (.seq (.region [⟨(some 19), .lload none 1 0 (some 3), none, 0⟩,
        ⟨(some 20), .call Id.compact_New [.tmp 19], none, 0⟩,
        ⟨(some 21), .call Id.compact_Machine_Step [.tmp 20, .const (.nilIface)], none, 0⟩,
        ⟨(some 18), .mov (.tmp 21), none, 0⟩,
        ⟨(some 22), .extract (.tmp 18) 0, none, 0⟩,
        ⟨(some 23), .extract (.tmp 18) 1, none, 0⟩,
        ⟨(some 6), .lbox (.const (.agg #[.int .i64 0, .int .i64 0])), none, 0⟩,
        ⟨(some 6), .lstore none 6 0 2 (.tmp 22), none, 0⟩,
        ⟨(some 7), .mov (.tmp 23), none, 0⟩])
      (.seq (.region [⟨(some 25), .mov (.tmp 3), none, 0⟩,
        ⟨(some 26), .call Id.compact_Machine_Moving [.tmp 25], none, 0⟩,
        ⟨(some 24), .mov (.tmp 26), none, 0⟩,
        ⟨(some 27), .extract (.tmp 24) 0, none, 0⟩,
        ⟨(some 28), .extract (.tmp 24) 1, none, 0⟩,
        ⟨(some 8), .lbox (.const (.agg #[.int .i64 0, .int .i64 0, .int .i64 0, .int .i64 0])), none, 0⟩,
        ⟨(some 8), .lstore none 8 0 4 (.tmp 27), none, 0⟩,
        ⟨(some 9), .mov (.tmp 28), none, 0⟩])
      (.seq (.region [⟨(some 29), .lload none 4 0 (some 2), none, 0⟩,
        ⟨(some 30), .build [.int .i64 0, .int .i64 0] [(0, 1, .const (.int .i64 1))], none, 0⟩,
        ⟨(some 31), .eqv false (.cells [(0, 0), (1, 0)]) (.tmp 29) (.tmp 30), none, 0⟩,
        ⟨(some 32), .mov (.tmp 31), none, 0⟩,
        ⟨(some 33), .mov (.tmp 5), (some (32, true)), 0⟩,
        ⟨(some 34), .pick (.tmp 32) (.tmp 33) (.const (.bool false)), none, 0⟩,
        ⟨(some 35), .mov (.tmp 34), none, 0⟩,
        ⟨(some 36), .lload none 6 0 (some 2), (some (35, true)), 0⟩,
        ⟨(some 37), .build [.int .i64 0, .int .i64 0] [(0, 1, .const (.int .i64 1))], (some (35, true)), 0⟩,
        ⟨(some 38), .eqv false (.cells [(0, 0), (1, 0)]) (.tmp 36) (.tmp 37), (some (35, true)), 0⟩,
        ⟨(some 39), .pick (.tmp 35) (.tmp 38) (.const (.bool false)), none, 0⟩,
        ⟨(some 40), .mov (.tmp 39), none, 0⟩,
        ⟨(some 41), .mov (.tmp 7), (some (40, true)), 0⟩,
        ⟨(some 42), .pick (.tmp 40) (.tmp 41) (.const (.bool false)), none, 0⟩,
        ⟨(some 43), .mov (.tmp 42), none, 0⟩,
        ⟨(some 44), .mov (.tmp 3), (some (43, true)), 0⟩,
        ⟨(some 45), .call Id.compact_Machine_Lowered [.tmp 44], (some (43, true)), 0⟩,
        ⟨(some 46), .un .not (.tmp 45), (some (43, true)), 0⟩,
        ⟨(some 47), .pick (.tmp 43) (.tmp 46) (.const (.bool false)), none, 0⟩,
        ⟨(some 48), .mov (.tmp 47), none, 0⟩,
        ⟨(some 49), .lload none 8 0 (some 4), (some (48, true)), 0⟩,
        ⟨(some 50), .build [.int .i64 0, .int .i64 0, .int .i64 0, .int .i64 0] [], (some (48, true)), 0⟩,
        ⟨(some 51), .eqv false (.cells [(0, 0), (1, 0), (2, 0), (3, 0)]) (.tmp 49) (.tmp 50), (some (48, true)), 0⟩,
        ⟨(some 52), .pick (.tmp 48) (.tmp 51) (.const (.bool false)), none, 0⟩,
        ⟨(some 53), .mov (.tmp 52), none, 0⟩,
        ⟨(some 54), .mov (.tmp 9), (some (53, true)), 0⟩,
        ⟨(some 55), .un .not (.tmp 54), (some (53, true)), 0⟩,
        ⟨(some 56), .pick (.tmp 53) (.tmp 55) (.const (.bool false)), none, 0⟩,
        ⟨(some 57), .mov (.tmp 56), none, 0⟩,
        ⟨(some 58), .call Id.sidingslaw18_live [], (some (57, true)), 0⟩,
        ⟨(some 59), .pick (.tmp 57) (.tmp 58) (.const (.bool false)), none, 0⟩,
        ⟨(some 2), .mov (.tmp 59), none, 0⟩])
      (.ret)))))) }

def F.sidingslaw18_CompactLocks : IFunc :=
  { lb := [3, 14, 16, 19], scr := false, nargs := 3, res := [.tmp 6],
    body := .seq (.region [⟨(some 3), .lbox (.tmp 0), none, 0⟩,
        ⟨(some 6), .mov (.const (.bool false)), none, 0⟩])
      (.seq (.region [⟨(some 23), .lload none 3 0 (some 3), none, 0⟩,
        ⟨(some 24), .call Id.sidingslaw18_start [.tmp 23], none, 0⟩,
        ⟨(some 7), .mov (.tmp 24), none, 0⟩])
      (.seq (.seq (.region [⟨(some 25), .mov (.tmp 7), none, 0⟩,
        ⟨(some 26), .eqv false (.nil 0) (.tmp 25) (.const (.pointer none)), none, 0⟩,
        ⟨(some 27), .mov (.tmp 26), none, 0⟩,
        ⟨(some 28), .mov (.tmp 1), (some (27, false)), 0⟩,
        ⟨(some 29), .len false (.tmp 28), (some (27, false)), 0⟩,
        ⟨(some 30), .bin .gtr (.tmp 29) (.const (.int .i64 20)), (some (27, false)), 0⟩,
        ⟨(some 31), .pick (.tmp 27) (.const (.bool true)) (.tmp 30), none, 0⟩,
        ⟨(some 32), .mov (.tmp 31), none, 0⟩,
        ⟨(some 33), .laddr none 3 0, (some (32, false)), 0⟩,
        ⟨(some 34), .lload (some 33) 3 0 none, (some (32, false)), 0⟩,
        ⟨(some 35), .bin .gtr (.tmp 34) (.const (.int .i64 200)), (some (32, false)), 0⟩,
        ⟨(some 36), .pick (.tmp 32) (.const (.bool true)) (.tmp 35), none, 0⟩])
      (.cond (.tmp 36)
        (.seq (.region [⟨(some 37), .mov (.tmp 7), none, 0⟩,
          ⟨(some 38), .eqv true (.nil 0) (.tmp 37) (.const (.pointer none)), none, 0⟩,
          ⟨(some 39), .mov (.tmp 38), none, 0⟩,
          ⟨(some 40), .lload none 3 0 (some 3), (some (39, false)), 0⟩,
          ⟨(some 41), .call Id.sidingsref06_May [.tmp 40], (some (39, false)), 0⟩,
          ⟨(some 42), .un .not (.tmp 41), (some (39, false)), 0⟩,
          ⟨(some 43), .pick (.tmp 39) (.const (.bool true)) (.tmp 42), none, 0⟩,
          ⟨(some 44), .mov (.tmp 43), none, 0⟩,
          ⟨(some 45), .call Id.sidingslaw18_live [], (some (44, true)), 0⟩,
          ⟨(some 46), .pick (.tmp 44) (.tmp 45) (.const (.bool false)), none, 0⟩,
          ⟨(some 6), .mov (.tmp 46), none, 0⟩])
        (.ret))
        (.skip)))
      (.seq (.region [⟨(some 48), .mov (.tmp 7), none, 0⟩,
        ⟨(some 49), .lload none 3 0 (some 3), none, 0⟩,
        ⟨(some 50), .mov (.tmp 1), none, 0⟩,
        ⟨(some 51), .mov (.tmp 2), none, 0⟩,
        ⟨(some 52), .call Id.sidingslaw18_lay [.tmp 48, .tmp 49, .tmp 50, .tmp 51], none, 0⟩,
        ⟨(some 47), .mov (.tmp 52), none, 0⟩,
        ⟨(some 53), .extract (.tmp 47) 0, none, 0⟩,
        ⟨(some 54), .extract (.tmp 47) 1, none, 0⟩,
        ⟨(some 8), .mov (.tmp 53), none, 0⟩,
        ⟨(some 9), .mov (.tmp 54), none, 0⟩])
      (.seq (.seq (.region [⟨(some 55), .mov (.tmp 9), none, 0⟩,
        ⟨(some 56), .un .not (.tmp 55), none, 0⟩])
      (.cond (.tmp 56)
        (.seq (.region [⟨(some 57), .call Id.sidingslaw18_live [], none, 0⟩,
          ⟨(some 6), .mov (.tmp 57), none, 0⟩])
        (.ret))
        (.skip)))
      (.seq (.region [⟨(some 58), .mov (.tmp 7), none, 0⟩,
        ⟨(some 59), .call Id.cells_Plain_Load [.tmp 58, .const (.int .i64 0)], none, 0⟩,
        ⟨(some 10), .mov (.tmp 59), none, 0⟩])
      (.seq (.region [⟨(some 60), .mov (.tmp 7), none, 0⟩,
        ⟨(some 61), .call Id.cells_Plain_Copy [.tmp 60], none, 0⟩,
        ⟨(some 11), .mov (.tmp 61), none, 0⟩])
      (.seq (.region [⟨(some 62), .lload none 3 0 (some 3), none, 0⟩,
        ⟨(some 63), .call Id.compact_New [.tmp 62], none, 0⟩,
        ⟨(some 12), .mov (.tmp 63), none, 0⟩])
      (.seq (.seq (.region [⟨(some 13), .mov (.const (.int .i64 0)), none, 0⟩])
      (.block 0 (.loop [1, 3, 7, 10, 11, 12, 13]
        (.seq (.seq (.region [⟨(some 64), .mov (.tmp 13), none, 0⟩,
          ⟨(some 65), .bin .lss (.tmp 64) (.const (.int .i64 3000)), none, 0⟩])
        (.cond (.tmp 65)
          (.skip)
          (.exit 0)))
        (.seq (.block 1 (.seq (.region [⟨(some 69), .mov (.tmp 12), none, 0⟩,
          ⟨(some 70), .mov (.tmp 7), none, 0⟩,
          ⟨(some 71), .mkif 25 (.tmp 70), none, 0⟩,
          ⟨(some 72), .call Id.compact_Machine_Step [.tmp 69, .tmp 71], none, 0⟩,
          ⟨(some 68), .mov (.tmp 72), none, 0⟩,
          ⟨(some 73), .extract (.tmp 68) 0, none, 0⟩,
          ⟨(some 74), .extract (.tmp 68) 1, none, 0⟩,
          ⟨(some 14), .lbox (.const (.agg #[.int .i64 0, .int .i64 0])), none, 0⟩,
          ⟨(some 14), .lstore none 14 0 2 (.tmp 73), none, 0⟩,
          ⟨(some 15), .mov (.tmp 74), none, 0⟩])
        (.seq (.region [⟨(some 76), .mov (.tmp 12), none, 0⟩,
          ⟨(some 77), .call Id.compact_Machine_Moving [.tmp 76], none, 0⟩,
          ⟨(some 75), .mov (.tmp 77), none, 0⟩,
          ⟨(some 78), .extract (.tmp 75) 0, none, 0⟩,
          ⟨(some 79), .extract (.tmp 75) 1, none, 0⟩,
          ⟨(some 16), .lbox (.const (.agg #[.int .i64 0, .int .i64 0, .int .i64 0, .int .i64 0])), none, 0⟩,
          ⟨(some 16), .lstore none 16 0 4 (.tmp 78), none, 0⟩,
          ⟨(some 17), .mov (.tmp 79), none, 0⟩])
        (.seq (.seq (.region [⟨(some 18), .mov (.const (.int .i64 0)), none, 0⟩])
        (.block 2 (.loop [1, 3, 7, 10, 11, 12, 13, 15, 16, 17, 18]
          (.seq (.seq (.region [⟨(some 80), .mov (.tmp 18), none, 0⟩,
            ⟨(some 81), .mov (.tmp 1), none, 0⟩,
            ⟨(some 82), .len false (.tmp 81), none, 0⟩,
            ⟨(some 83), .bin .lss (.tmp 80) (.tmp 82), none, 0⟩])
          (.cond (.tmp 83)
            (.skip)
            (.exit 2)))
          (.seq (.block 3 (.seq (.region [⟨(some 87), .mov (.tmp 7), none, 0⟩,
            ⟨(some 88), .laddr none 3 2, none, 0⟩,
            ⟨(some 89), .lload (some 88) 3 2 none, none, 0⟩,
            ⟨(some 90), .bin .add (.const (.int .i64 4)) (.tmp 89), none, 0⟩,
            ⟨(some 91), .mov (.tmp 18), none, 0⟩,
            ⟨(some 92), .bin .mul (.const (.int .i64 3)) (.tmp 91), none, 0⟩,
            ⟨(some 93), .bin .add (.tmp 90) (.tmp 92), none, 0⟩,
            ⟨(some 94), .call Id.cells_Plain_Load [.tmp 87, .tmp 93], none, 0⟩,
            ⟨(some 95), .call Id.sidingsref02_Unpack [.tmp 94], none, 0⟩,
            ⟨(some 86), .mov (.tmp 95), none, 0⟩,
            ⟨(some 96), .extract (.tmp 86) 0, none, 0⟩,
            ⟨(some 97), .extract (.tmp 86) 1, none, 0⟩,
            ⟨(some 19), .lbox (.const (.agg #[.int .i64 0, .int .i64 0, .int .i64 0, .int .i64 0, .bool false, .bool false])), none, 0⟩,
            ⟨(some 19), .lstore none 19 0 6 (.tmp 96), none, 0⟩,
            ⟨(some 20), .mov (.tmp 97), none, 0⟩])
          (.seq (.region [⟨(some 98), .mov (.tmp 17), none, 0⟩,
            ⟨(some 99), .mov (.tmp 98), none, 0⟩,
            ⟨(some 100), .laddr none 16 0, (some (99, true)), 0⟩,
            ⟨(some 101), .lload (some 100) 16 0 none, (some (99, true)), 0⟩,
            ⟨(some 102), .mov (.tmp 18), (some (99, true)), 0⟩,
            ⟨(some 103), .bin .eql (.tmp 101) (.tmp 102), (some (99, true)), 0⟩,
            ⟨(some 104), .pick (.tmp 99) (.tmp 103) (.const (.bool false)), none, 0⟩,
            ⟨(some 21), .mov (.tmp 104), none, 0⟩])
          (.seq (.region [⟨(some 105), .mov (.tmp 20), none, 0⟩,
            ⟨(some 106), .bin .neq (.tmp 105) (.const (.int .i64 0)), none, 0⟩,
            ⟨(some 107), .mov (.tmp 106), none, 0⟩,
            ⟨(some 108), .laddr none 19 4, (some (107, false)), 0⟩,
            ⟨(some 109), .lload (some 108) 19 4 none, (some (107, false)), 0⟩,
            ⟨(some 110), .mov (.tmp 21), (some (107, false)), 0⟩,
            ⟨(some 111), .eqv true .bool (.tmp 109) (.tmp 110), (some (107, false)), 0⟩,
            ⟨(some 112), .pick (.tmp 107) (.const (.bool true)) (.tmp 111), none, 0⟩,
            ⟨(some 113), .mov (.tmp 112), none, 0⟩,
            ⟨(some 114), .mov (.tmp 21), (some (113, false)), 0⟩,
            ⟨(some 115), .mov (.tmp 114), (some (113, false)), 0⟩,
            ⟨(some 116), .laddr none 19 0, (some (115, true)), 0⟩,
            ⟨(some 117), .lload (some 116) 19 0 none, (some (115, true)), 0⟩,
            ⟨(some 118), .laddr none 16 1, (some (115, true)), 0⟩,
            ⟨(some 119), .lload (some 118) 16 1 none, (some (115, true)), 0⟩,
            ⟨(some 120), .bin .neq (.tmp 117) (.tmp 119), (some (115, true)), 0⟩,
            ⟨(some 121), .pick (.tmp 115) (.tmp 120) (.const (.bool false)), (some (113, false)), 0⟩,
            ⟨(some 122), .pick (.tmp 113) (.const (.bool true)) (.tmp 121), none, 0⟩])
          (.cond (.tmp 122)
            (.seq (.region [⟨(some 6), .mov (.const (.bool false)), none, 0⟩])
            (.ret))
            (.skip))))))
          (.region [⟨(some 84), .mov (.tmp 18), none, 0⟩,
            ⟨(some 85), .bin .add (.tmp 84) (.const (.int .i64 1)), none, 0⟩,
            ⟨(some 18), .mov (.tmp 85), none, 0⟩]))))))
        (.seq (.region [⟨(some 123), .mov (.tmp 15), none, 0⟩])
        (.cond (.tmp 123)
          (.seq (.seq (.region [⟨(some 124), .mov (.tmp 10), none, 0⟩,
            ⟨(some 22), .mov (.tmp 124), none, 0⟩])
          (.block 4 (.loop [3, 7, 11, 22]
            (.seq (.seq (.region [⟨(some 125), .mov (.tmp 22), none, 0⟩,
              ⟨(some 126), .laddr none 3 0, none, 0⟩,
              ⟨(some 127), .lload (some 126) 3 0 none, none, 0⟩,
              ⟨(some 128), .bin .lss (.tmp 125) (.tmp 127), none, 0⟩])
            (.cond (.tmp 128)
              (.skip)
              (.exit 4)))
            (.seq (.block 5 (.seq (.region [⟨(some 131), .mov (.tmp 7), none, 0⟩,
              ⟨(some 132), .mov (.tmp 22), none, 0⟩,
              ⟨(some 133), .call Id.cells_Plain_Byte [.tmp 131, .tmp 132], none, 0⟩,
              ⟨(some 134), .mov (.tmp 11), none, 0⟩,
              ⟨(some 135), .mov (.tmp 22), none, 0⟩,
              ⟨(some 136), .call Id.cells_Plain_Byte [.tmp 134, .tmp 135], none, 0⟩,
              ⟨(some 137), .bin .neq (.tmp 133) (.tmp 136), none, 0⟩])
            (.cond (.tmp 137)
              (.seq (.region [⟨(some 6), .mov (.const (.bool false)), none, 0⟩])
              (.ret))
              (.skip))))
            (.region [⟨(some 129), .mov (.tmp 22), none, 0⟩,
              ⟨(some 130), .bin .add (.tmp 129) (.const (.int .i64 1)), none, 0⟩,
              ⟨(some 22), .mov (.tmp 130), none, 0⟩]))))))
          (.seq (.region [⟨(some 138), .call Id.sidingslaw18_live [], none, 0⟩,
            ⟨(some 6), .mov (.tmp 138), none, 0⟩])
          (.ret)))
          (.skip)))))))
        (.region [⟨(some 66), .mov (.tmp 13), none, 0⟩,
          ⟨(some 67), .bin .add (.tmp 66) (.const (.int .i64 1)), none, 0⟩,
          ⟨(some 13), .mov (.tmp 67), none, 0⟩]))))))
      (.seq (.region [⟨(some 6), .mov (.const (.bool false)), none, 0⟩])
      (.ret)))))))))) }

def F.sidingslaw18_start : IFunc :=
  { lb := [1], scr := false, nargs := 1, res := [.tmp 2],
    body := .seq (.region [⟨(some 1), .lbox (.tmp 0), none, 0⟩,
        ⟨(some 2), .mov (.const (.pointer none)), none, 0⟩])
      (.seq (.region [⟨(some 4), .lload none 1 0 (some 3), none, 0⟩,
        ⟨(some 5), .call Id.sidingsref06_Words [.tmp 4], none, 0⟩,
        ⟨(some 6), .laddr none 1 0, none, 0⟩,
        ⟨(some 7), .lload (some 6) 1 0 none, none, 0⟩,
        ⟨(some 8), .call Id.cells_New [.tmp 5, .tmp 7], none, 0⟩,
        ⟨(some 3), .mov (.tmp 8), none, 0⟩])
      (.seq (.seq (.region [⟨(some 9), .mov (.tmp 3), none, 0⟩,
        ⟨(some 10), .eqv false (.nil 0) (.tmp 9) (.const (.pointer none)), none, 0⟩,
        ⟨(some 11), .mov (.tmp 10), none, 0⟩,
        ⟨(some 12), .mov (.tmp 3), (some (11, false)), 0⟩,
        ⟨(some 13), .mkif 25 (.tmp 12), (some (11, false)), 0⟩,
        ⟨(some 14), .lload none 1 0 (some 3), (some (11, false)), 0⟩,
        ⟨(some 15), .call Id.layout_Start [.tmp 13, .tmp 14], (some (11, false)), 0⟩,
        ⟨(some 16), .bin .neq (.tmp 15) (.const (.int .i64 0)), (some (11, false)), 0⟩,
        ⟨(some 17), .pick (.tmp 11) (.const (.bool true)) (.tmp 16), none, 0⟩])
      (.cond (.tmp 17)
        (.seq (.region [⟨(some 2), .mov (.const (.pointer none)), none, 0⟩])
        (.ret))
        (.skip)))
      (.seq (.region [⟨(some 18), .mov (.tmp 3), none, 0⟩,
        ⟨(some 2), .mov (.tmp 18), none, 0⟩])
      (.ret)))) }

def F.sidingsref06_May : IFunc :=
  { lb := [1], scr := true, nargs := 1, res := [.tmp 2],
    body := .seq (.region [⟨(some 1), .lbox (.tmp 0), none, 0⟩,
        ⟨(some 2), .mov (.const (.bool false)), none, 0⟩])
      (.seq (.region [⟨(some 3), .laddr none 1 0, none, 0⟩,
        ⟨(some 4), .lload (some 3) 1 0 none, none, 0⟩,
        ⟨(some 5), .bin .geq (.tmp 4) (.const (.int .i64 8)), none, 0⟩,
        ⟨(some 6), .mov (.tmp 5), none, 0⟩,
        ⟨(some 7), .laddr none 1 0, (some (6, true)), 0⟩,
        ⟨(some 8), .lload (some 7) 1 0 none, (some (6, true)), 0⟩,
        ⟨(some 9), .bin .leq (.tmp 8) (.const (.int .i64 4096)), (some (6, true)), 0⟩,
        ⟨(some 10), .pick (.tmp 6) (.tmp 9) (.const (.bool false)), none, 0⟩,
        ⟨(some 11), .mov (.tmp 10), none, 0⟩,
        ⟨(some 12), .laddr none 1 0, (some (11, true)), 0⟩,
        ⟨(some 13), .lload (some 12) 1 0 none, (some (11, true)), 0⟩,
        ⟨(some 14), .bin .rem (.tmp 13) (.const (.int .i64 8)), (some (11, true)), 0⟩,
        ⟨(some 15), .bin .eql (.tmp 14) (.const (.int .i64 0)), (some (11, true)), 0⟩,
        ⟨(some 16), .pick (.tmp 11) (.tmp 15) (.const (.bool false)), none, 0⟩,
        ⟨(some 17), .mov (.tmp 16), none, 0⟩,
        ⟨(some 18), .laddr none 1 1, (some (17, true)), 0⟩,
        ⟨(some 19), .lload (some 18) 1 1 none, (some (17, true)), 0⟩,
        ⟨(some 20), .bin .geq (.tmp 19) (.const (.int .i64 1)), (some (17, true)), 0⟩,
        ⟨(some 21), .pick (.tmp 17) (.tmp 20) (.const (.bool false)), none, 0⟩,
        ⟨(some 22), .mov (.tmp 21), none, 0⟩,
        ⟨(some 23), .laddr none 1 1, (some (22, true)), 0⟩,
        ⟨(some 24), .lload (some 23) 1 1 none, (some (22, true)), 0⟩,
        ⟨(some 25), .bin .leq (.tmp 24) (.const (.int .i64 64)), (some (22, true)), 0⟩,
        ⟨(some 26), .pick (.tmp 22) (.tmp 25) (.const (.bool false)), none, 0⟩,
        ⟨(some 27), .mov (.tmp 26), none, 0⟩,
        ⟨(some 28), .laddr none 1 2, (some (27, true)), 0⟩,
        ⟨(some 29), .lload (some 28) 1 2 none, (some (27, true)), 0⟩,
        ⟨(some 30), .bin .geq (.tmp 29) (.const (.int .i64 1)), (some (27, true)), 0⟩,
        ⟨(some 31), .pick (.tmp 27) (.tmp 30) (.const (.bool false)), none, 0⟩,
        ⟨(some 32), .mov (.tmp 31), none, 0⟩,
        ⟨(some 33), .laddr none 1 2, (some (32, true)), 0⟩,
        ⟨(some 34), .lload (some 33) 1 2 none, (some (32, true)), 0⟩,
        ⟨(some 35), .bin .leq (.tmp 34) (.const (.int .i64 4)), (some (32, true)), 0⟩,
        ⟨(some 36), .pick (.tmp 32) (.tmp 35) (.const (.bool false)), none, 0⟩,
        ⟨(some 2), .mov (.tmp 36), none, 0⟩])
      (.ret)) }

def F.sidingslaw18_live : IFunc :=
  { lb := [1, 6, 9, 11], scr := true, nargs := 0, res := [.tmp 0],
    body := .seq (.region [⟨(some 0), .mov (.const (.bool false)), none, 0⟩])
      (.seq (.region [⟨(some 13), .build [.int .i64 0, .int .i64 0, .int .i64 0] [(0, 1, .const (.int .i64 32)), (1, 1, .const (.int .i64 2)), (2, 1, .const (.int .i64 1))], none, 0⟩,
        ⟨(some 1), .lbox (.const (.agg #[.int .i64 0, .int .i64 0, .int .i64 0])), none, 0⟩,
        ⟨(some 1), .lstore none 1 0 3 (.tmp 13), none, 0⟩])
      (.seq (.region [⟨(some 14), .lload none 1 0 (some 3), none, 0⟩,
        ⟨(some 15), .call Id.sidingslaw18_start [.tmp 14], none, 0⟩,
        ⟨(some 2), .mov (.tmp 15), none, 0⟩])
      (.seq (.seq (.region [⟨(some 16), .mov (.tmp 2), none, 0⟩,
        ⟨(some 17), .eqv false (.nil 0) (.tmp 16) (.const (.pointer none)), none, 0⟩])
      (.cond (.tmp 17)
        (.seq (.region [⟨(some 0), .mov (.const (.bool false)), none, 0⟩])
        (.ret))
        (.skip)))
      (.seq (.region [⟨(some 19), .build [.int .i64 0, .int .i64 0, .int .i64 0, .int .i64 0, .bool false, .bool false] [(0, 1, .const (.int .i64 8)), (1, 1, .const (.int .i64 3)), (5, 1, .const (.bool true))], none, 0⟩,
        ⟨(some 20), .call Id.sidingsref02_Pack [.tmp 19], none, 0⟩,
        ⟨(some 18), .mov (.tmp 20), none, 0⟩,
        ⟨(some 21), .extract (.tmp 18) 0, none, 0⟩,
        ⟨(some 22), .extract (.tmp 18) 1, none, 0⟩,
        ⟨(some 3), .mov (.tmp 21), none, 0⟩,
        ⟨(some 4), .mov (.tmp 22), none, 0⟩])
      (.seq (.region [⟨(some 23), .mov (.tmp 2), none, 0⟩,
        ⟨(some 24), .mov (.tmp 3), none, 0⟩,
        ⟨(some 25), .call Id.cells_Plain_Store [.tmp 23, .const (.int .i64 8), .tmp 24], none, 0⟩])
      (.seq (.region [⟨(some 26), .mov (.tmp 2), none, 0⟩,
        ⟨(some 27), .call Id.cells_Plain_Store [.tmp 26, .const (.int .i64 9), .const (.int .i64 5)], none, 0⟩])
      (.seq (.region [⟨(some 28), .mov (.tmp 2), none, 0⟩,
        ⟨(some 29), .call Id.cells_Plain_Store [.tmp 28, .const (.int .i64 0), .const (.int .i64 24)], none, 0⟩])
      (.seq (.region [⟨(some 30), .mov (.tmp 2), none, 0⟩,
        ⟨(some 31), .call Id.cells_Plain_SetByte [.tmp 30, .const (.int .i64 12), .const (.int .i64 77)], none, 0⟩])
      (.seq (.region [⟨(some 32), .lload none 1 0 (some 3), none, 0⟩,
        ⟨(some 33), .call Id.compact_New [.tmp 32], none, 0⟩,
        ⟨(some 5), .mov (.tmp 33), none, 0⟩])
      (.seq (.region [⟨(some 35), .mov (.tmp 2), none, 0⟩,
        ⟨(some 36), .mov (.tmp 5), none, 0⟩,
        ⟨(some 37), .call Id.sidingslaw18_run [.tmp 35, .tmp 36, .const (.int .i64 100)], none, 0⟩,
        ⟨(some 34), .mov (.tmp 37), none, 0⟩,
        ⟨(some 38), .extract (.tmp 34) 0, none, 0⟩,
        ⟨(some 39), .extract (.tmp 34) 1, none, 0⟩,
        ⟨(some 6), .lbox (.const (.agg #[.int .i64 0, .int .i64 0])), none, 0⟩,
        ⟨(some 6), .lstore none 6 0 2 (.tmp 38), none, 0⟩,
        ⟨(some 7), .mov (.tmp 39), none, 0⟩])
      (.seq (.region [⟨(some 40), .lload none 1 0 (some 3), none, 0⟩,
        ⟨(some 41), .call Id.compact_New [.tmp 40], none, 0⟩,
        ⟨(some 8), .mov (.tmp 41), none, 0⟩])
      (.seq (.region [⟨(some 43), .mov (.tmp 2), none, 0⟩,
        ⟨(some 44), .mov (.tmp 8), none, 0⟩,
        ⟨(some 45), .call Id.sidingslaw18_run [.tmp 43, .tmp 44, .const (.int .i64 100)], none, 0⟩,
        ⟨(some 42), .mov (.tmp 45), none, 0⟩,
        ⟨(some 46), .extract (.tmp 42) 0, none, 0⟩,
        ⟨(some 47), .extract (.tmp 42) 1, none, 0⟩,
        ⟨(some 9), .lbox (.const (.agg #[.int .i64 0, .int .i64 0])), none, 0⟩,
        ⟨(some 9), .lstore none 9 0 2 (.tmp 46), none, 0⟩,
        ⟨(some 10), .mov (.tmp 47), none, 0⟩])
      (.seq (.region [⟨(some 49), .mov (.tmp 2), none, 0⟩,
        ⟨(some 50), .build [.int .i64 0, .int .i64 0, .int .i64 0] [], none, 0⟩,
        ⟨(some 51), .call Id.compact_New [.tmp 50], none, 0⟩,
        ⟨(some 52), .call Id.sidingslaw18_run [.tmp 49, .tmp 51, .const (.int .i64 100)], none, 0⟩,
        ⟨(some 48), .mov (.tmp 52), none, 0⟩,
        ⟨(some 53), .extract (.tmp 48) 0, none, 0⟩,
        ⟨(some 54), .extract (.tmp 48) 1, none, 0⟩,
        ⟨(some 11), .lbox (.const (.agg #[.int .i64 0, .int .i64 0])), none, 0⟩,
        ⟨(some 11), .lstore none 11 0 2 (.tmp 53), none, 0⟩,
        ⟨(some 12), .mov (.tmp 54), none, 0⟩])
      (.seq (.region [⟨(some 55), .lload none 6 0 (some 2), none, 0⟩,
        ⟨(some 56), .build [.int .i64 0, .int .i64 0] [(1, 1, .const (.int .i64 1))], none, 0⟩,
        ⟨(some 57), .eqv false (.cells [(0, 0), (1, 0)]) (.tmp 55) (.tmp 56), none, 0⟩,
        ⟨(some 58), .mov (.tmp 57), none, 0⟩,
        ⟨(some 59), .mov (.tmp 7), (some (58, true)), 0⟩,
        ⟨(some 60), .bin .eql (.tmp 59) (.const (.int .i64 28)), (some (58, true)), 0⟩,
        ⟨(some 61), .pick (.tmp 58) (.tmp 60) (.const (.bool false)), none, 0⟩,
        ⟨(some 62), .mov (.tmp 61), none, 0⟩,
        ⟨(some 63), .mov (.tmp 5), (some (62, true)), 0⟩,
        ⟨(some 64), .call Id.compact_Machine_Lowered [.tmp 63], (some (62, true)), 0⟩,
        ⟨(some 65), .pick (.tmp 62) (.tmp 64) (.const (.bool false)), none, 0⟩,
        ⟨(some 66), .mov (.tmp 65), none, 0⟩,
        ⟨(some 67), .mov (.tmp 2), (some (66, true)), 0⟩,
        ⟨(some 68), .call Id.cells_Plain_Load [.tmp 67, .const (.int .i64 0)], (some (66, true)), 0⟩,
        ⟨(some 69), .bin .eql (.tmp 68) (.const (.int .i64 8)), (some (66, true)), 0⟩,
        ⟨(some 70), .pick (.tmp 66) (.tmp 69) (.const (.bool false)), none, 0⟩,
        ⟨(some 71), .mov (.tmp 70), none, 0⟩,
        ⟨(some 72), .mov (.tmp 2), (some (71, true)), 0⟩,
        ⟨(some 73), .call Id.cells_Plain_Load [.tmp 72, .const (.int .i64 8)], (some (71, true)), 0⟩,
        ⟨(some 74), .mov (.tmp 3), (some (71, true)), 0⟩,
        ⟨(some 75), .bin .sub (.tmp 74) (.const (.int .i64 8)), (some (71, true)), 0⟩,
        ⟨(some 76), .bin .eql (.tmp 73) (.tmp 75), (some (71, true)), 0⟩,
        ⟨(some 77), .pick (.tmp 71) (.tmp 76) (.const (.bool false)), none, 0⟩,
        ⟨(some 78), .mov (.tmp 77), none, 0⟩,
        ⟨(some 79), .mov (.tmp 2), (some (78, true)), 0⟩,
        ⟨(some 80), .call Id.cells_Plain_Byte [.tmp 79, .const (.int .i64 4)], (some (78, true)), 0⟩,
        ⟨(some 81), .bin .eql (.tmp 80) (.const (.int .i64 77)), (some (78, true)), 0⟩,
        ⟨(some 82), .pick (.tmp 78) (.tmp 81) (.const (.bool false)), none, 0⟩,
        ⟨(some 83), .mov (.tmp 82), none, 0⟩,
        ⟨(some 84), .lload none 9 0 (some 2), (some (83, true)), 0⟩,
        ⟨(some 85), .build [.int .i64 0, .int .i64 0] [], (some (83, true)), 0⟩,
        ⟨(some 86), .eqv false (.cells [(0, 0), (1, 0)]) (.tmp 84) (.tmp 85), (some (83, true)), 0⟩,
        ⟨(some 87), .pick (.tmp 83) (.tmp 86) (.const (.bool false)), none, 0⟩,
        ⟨(some 88), .mov (.tmp 87), none, 0⟩,
        ⟨(some 89), .mov (.tmp 10), (some (88, true)), 0⟩,
        ⟨(some 90), .bin .eql (.tmp 89) (.const (.int .i64 6)), (some (88, true)), 0⟩,
        ⟨(some 91), .pick (.tmp 88) (.tmp 90) (.const (.bool false)), none, 0⟩,
        ⟨(some 92), .mov (.tmp 91), none, 0⟩,
        ⟨(some 93), .mov (.tmp 8), (some (92, true)), 0⟩,
        ⟨(some 94), .call Id.compact_Machine_Lowered [.tmp 93], (some (92, true)), 0⟩,
        ⟨(some 95), .un .not (.tmp 94), (some (92, true)), 0⟩,
        ⟨(some 96), .pick (.tmp 92) (.tmp 95) (.const (.bool false)), none, 0⟩,
        ⟨(some 97), .mov (.tmp 96), none, 0⟩,
        ⟨(some 98), .lload none 11 0 (some 2), (some (97, true)), 0⟩,
        ⟨(some 99), .build [.int .i64 0, .int .i64 0] [(0, 1, .const (.int .i64 1))], (some (97, true)), 0⟩,
        ⟨(some 100), .eqv false (.cells [(0, 0), (1, 0)]) (.tmp 98) (.tmp 99), (some (97, true)), 0⟩,
        ⟨(some 101), .pick (.tmp 97) (.tmp 100) (.const (.bool false)), none, 0⟩,
        ⟨(some 0), .mov (.tmp 101), none, 0⟩])
      (.ret))))))))))))))) }

def F.sidingslaw18_lay : IFunc :=
  { lb := [5], scr := false, nargs := 4, res := [.tmp 8, .tmp 9],
    body := .seq (.region [⟨(some 5), .lbox (.tmp 1), none, 0⟩,
        ⟨(some 8), .mov (.const (.slice none 0 0)), none, 0⟩,
        ⟨(some 9), .mov (.const (.bool false)), none, 0⟩])
      (.seq (.region [⟨(some 10), .mov (.const (.slice none 0 0)), none, 0⟩])
      (.seq (.region [⟨(some 11), .mov (.const (.int .i64 0)), none, 0⟩])
      (.seq (.seq (.region [⟨(some 18), .mov (.tmp 2), none, 0⟩,
        ⟨(some 19), .len false (.tmp 18), none, 0⟩,
        ⟨(some 20), .laddr none 5 1, none, 0⟩,
        ⟨(some 21), .lload (some 20) 5 1 none, none, 0⟩,
        ⟨(some 22), .bin .gtr (.tmp 19) (.tmp 21), none, 0⟩,
        ⟨(some 23), .mov (.tmp 22), none, 0⟩,
        ⟨(some 24), .mov (.tmp 3), (some (23, false)), 0⟩,
        ⟨(some 25), .bin .lss (.tmp 24) (.const (.int .i64 0)), (some (23, false)), 0⟩,
        ⟨(some 26), .pick (.tmp 23) (.const (.bool true)) (.tmp 25), none, 0⟩,
        ⟨(some 27), .mov (.tmp 26), none, 0⟩,
        ⟨(some 28), .mov (.tmp 3), (some (27, false)), 0⟩,
        ⟨(some 29), .bin .gtr (.tmp 28) (.const (.int .i64 100)), (some (27, false)), 0⟩,
        ⟨(some 30), .pick (.tmp 27) (.const (.bool true)) (.tmp 29), none, 0⟩])
      (.cond (.tmp 30)
        (.seq (.region [⟨(some 8), .mov (.const (.slice none 0 0)), none, 0⟩,
          ⟨(some 9), .mov (.const (.bool false)), none, 0⟩])
        (.ret))
        (.skip)))
      (.seq (.seq (.region [⟨(some 12), .mov (.const (.int .i64 0)), none, 0⟩])
      (.block 0 (.loop [0, 2, 3, 5, 10, 11, 12]
        (.seq (.seq (.region [⟨(some 31), .mov (.tmp 12), none, 0⟩,
          ⟨(some 32), .mov (.tmp 2), none, 0⟩,
          ⟨(some 33), .len false (.tmp 32), none, 0⟩,
          ⟨(some 34), .bin .lss (.tmp 31) (.tmp 33), none, 0⟩])
        (.cond (.tmp 34)
          (.skip)
          (.exit 0)))
        (.seq (.block 1 (.seq (.region [⟨(some 38), .mov (.tmp 2), none, 0⟩,
          ⟨(some 39), .mov (.tmp 12), none, 0⟩,
          ⟨(some 40), .iaddr none 4 (.tmp 38) (.tmp 39), none, 0⟩,
          ⟨(some 41), .faddr 0 (.tmp 40), none, 0⟩,
          ⟨(some 42), .load none (.tmp 41), none, 0⟩,
          ⟨(some 43), .call Id.sidingsref03_Round [.tmp 42], none, 0⟩,
          ⟨(some 37), .mov (.tmp 43), none, 0⟩,
          ⟨(some 44), .extract (.tmp 37) 0, none, 0⟩,
          ⟨(some 45), .extract (.tmp 37) 1, none, 0⟩,
          ⟨(some 13), .mov (.tmp 44), none, 0⟩,
          ⟨(some 14), .mov (.tmp 45), none, 0⟩])
        (.seq (.seq (.region [⟨(some 46), .mov (.tmp 14), none, 0⟩,
          ⟨(some 47), .bin .neq (.tmp 46) (.const (.int .i64 0)), none, 0⟩,
          ⟨(some 48), .mov (.tmp 47), none, 0⟩,
          ⟨(some 49), .mov (.tmp 2), (some (48, false)), 0⟩,
          ⟨(some 50), .mov (.tmp 12), (some (48, false)), 0⟩,
          ⟨(some 51), .iaddr none 4 (.tmp 49) (.tmp 50), (some (48, false)), 0⟩,
          ⟨(some 52), .faddr 2 (.tmp 51), (some (48, false)), 0⟩,
          ⟨(some 53), .load none (.tmp 52), (some (48, false)), 0⟩,
          ⟨(some 54), .bin .lss (.tmp 53) (.const (.int .i64 0)), (some (48, false)), 0⟩,
          ⟨(some 55), .pick (.tmp 48) (.const (.bool true)) (.tmp 54), none, 0⟩,
          ⟨(some 56), .mov (.tmp 55), none, 0⟩,
          ⟨(some 57), .mov (.tmp 2), (some (56, false)), 0⟩,
          ⟨(some 58), .mov (.tmp 12), (some (56, false)), 0⟩,
          ⟨(some 59), .iaddr none 4 (.tmp 57) (.tmp 58), (some (56, false)), 0⟩,
          ⟨(some 60), .faddr 2 (.tmp 59), (some (56, false)), 0⟩,
          ⟨(some 61), .load none (.tmp 60), (some (56, false)), 0⟩,
          ⟨(some 62), .bin .gtr (.tmp 61) (.const (.int .i64 100)), (some (56, false)), 0⟩,
          ⟨(some 63), .pick (.tmp 56) (.const (.bool true)) (.tmp 62), none, 0⟩,
          ⟨(some 64), .mov (.tmp 63), none, 0⟩,
          ⟨(some 65), .mov (.tmp 2), (some (64, false)), 0⟩,
          ⟨(some 66), .mov (.tmp 12), (some (64, false)), 0⟩,
          ⟨(some 67), .iaddr none 4 (.tmp 65) (.tmp 66), (some (64, false)), 0⟩,
          ⟨(some 68), .faddr 3 (.tmp 67), (some (64, false)), 0⟩,
          ⟨(some 69), .load none (.tmp 68), (some (64, false)), 0⟩,
          ⟨(some 70), .bin .lss (.tmp 69) (.const (.int .i64 0)), (some (64, false)), 0⟩,
          ⟨(some 71), .pick (.tmp 64) (.const (.bool true)) (.tmp 70), none, 0⟩,
          ⟨(some 72), .mov (.tmp 71), none, 0⟩,
          ⟨(some 73), .mov (.tmp 2), (some (72, false)), 0⟩,
          ⟨(some 74), .mov (.tmp 12), (some (72, false)), 0⟩,
          ⟨(some 75), .iaddr none 4 (.tmp 73) (.tmp 74), (some (72, false)), 0⟩,
          ⟨(some 76), .faddr 3 (.tmp 75), (some (72, false)), 0⟩,
          ⟨(some 77), .load none (.tmp 76), (some (72, false)), 0⟩,
          ⟨(some 78), .bin .gtr (.tmp 77) (.const (.int .i64 7)), (some (72, false)), 0⟩,
          ⟨(some 79), .pick (.tmp 72) (.const (.bool true)) (.tmp 78), none, 0⟩])
        (.cond (.tmp 79)
          (.seq (.region [⟨(some 8), .mov (.const (.slice none 0 0)), none, 0⟩,
            ⟨(some 9), .mov (.const (.bool false)), none, 0⟩])
          (.ret))
          (.skip)))
        (.seq (.region [⟨(some 80), .mov (.tmp 11), none, 0⟩,
          ⟨(some 81), .mov (.tmp 2), none, 0⟩,
          ⟨(some 82), .mov (.tmp 12), none, 0⟩,
          ⟨(some 83), .iaddr none 4 (.tmp 81) (.tmp 82), none, 0⟩,
          ⟨(some 84), .faddr 2 (.tmp 83), none, 0⟩,
          ⟨(some 85), .load none (.tmp 84), none, 0⟩,
          ⟨(some 86), .bin .mul (.const (.int .i64 8)) (.tmp 85), none, 0⟩,
          ⟨(some 87), .bin .add (.tmp 80) (.tmp 86), none, 0⟩,
          ⟨(some 11), .mov (.tmp 87), none, 0⟩])
        (.seq (.seq (.region [⟨(some 88), .mov (.tmp 11), none, 0⟩,
          ⟨(some 89), .mov (.tmp 13), none, 0⟩,
          ⟨(some 90), .bin .add (.tmp 88) (.tmp 89), none, 0⟩,
          ⟨(some 91), .laddr none 5 0, none, 0⟩,
          ⟨(some 92), .lload (some 91) 5 0 none, none, 0⟩,
          ⟨(some 93), .bin .gtr (.tmp 90) (.tmp 92), none, 0⟩])
        (.cond (.tmp 93)
          (.seq (.region [⟨(some 8), .mov (.const (.slice none 0 0)), none, 0⟩,
            ⟨(some 9), .mov (.const (.bool false)), none, 0⟩])
          (.ret))
          (.skip)))
        (.seq (.region [⟨(some 95), .mov (.tmp 11), none, 0⟩,
          ⟨(some 96), .mov (.tmp 12), none, 0⟩,
          ⟨(some 97), .mov (.tmp 2), none, 0⟩,
          ⟨(some 98), .mov (.tmp 12), none, 0⟩,
          ⟨(some 99), .iaddr none 4 (.tmp 97) (.tmp 98), none, 0⟩,
          ⟨(some 100), .faddr 3 (.tmp 99), none, 0⟩,
          ⟨(some 101), .load none (.tmp 100), none, 0⟩,
          ⟨(some 102), .build [.int .i64 0, .int .i64 0, .int .i64 0, .int .i64 0, .bool false, .bool false] [(0, 1, .tmp 95), (1, 1, .tmp 96), (2, 1, .tmp 101), (5, 1, .const (.bool true))], none, 0⟩,
          ⟨(some 103), .call Id.sidingsref02_Pack [.tmp 102], none, 0⟩,
          ⟨(some 94), .mov (.tmp 103), none, 0⟩,
          ⟨(some 104), .extract (.tmp 94) 0, none, 0⟩,
          ⟨(some 105), .extract (.tmp 94) 1, none, 0⟩,
          ⟨(some 15), .mov (.tmp 104), none, 0⟩,
          ⟨(some 16), .mov (.tmp 105), none, 0⟩])
        (.seq (.region [⟨(some 106), .mov (.tmp 0), none, 0⟩,
          ⟨(some 107), .laddr none 5 2, none, 0⟩,
          ⟨(some 108), .lload (some 107) 5 2 none, none, 0⟩,
          ⟨(some 109), .bin .add (.const (.int .i64 4)) (.tmp 108), none, 0⟩,
          ⟨(some 110), .mov (.tmp 12), none, 0⟩,
          ⟨(some 111), .bin .mul (.const (.int .i64 3)) (.tmp 110), none, 0⟩,
          ⟨(some 112), .bin .add (.tmp 109) (.tmp 111), none, 0⟩,
          ⟨(some 113), .mov (.tmp 15), none, 0⟩,
          ⟨(some 114), .call Id.cells_Plain_Store [.tmp 106, .tmp 112, .tmp 113], none, 0⟩])
        (.seq (.region [⟨(some 115), .mov (.tmp 0), none, 0⟩,
          ⟨(some 116), .laddr none 5 2, none, 0⟩,
          ⟨(some 117), .lload (some 116) 5 2 none, none, 0⟩,
          ⟨(some 118), .bin .add (.const (.int .i64 5)) (.tmp 117), none, 0⟩,
          ⟨(some 119), .mov (.tmp 12), none, 0⟩,
          ⟨(some 120), .bin .mul (.const (.int .i64 3)) (.tmp 119), none, 0⟩,
          ⟨(some 121), .bin .add (.tmp 118) (.tmp 120), none, 0⟩,
          ⟨(some 122), .mov (.tmp 2), none, 0⟩,
          ⟨(some 123), .mov (.tmp 12), none, 0⟩,
          ⟨(some 124), .iaddr none 4 (.tmp 122) (.tmp 123), none, 0⟩,
          ⟨(some 125), .faddr 0 (.tmp 124), none, 0⟩,
          ⟨(some 126), .load none (.tmp 125), none, 0⟩,
          ⟨(some 127), .call Id.cells_Plain_Store [.tmp 115, .tmp 121, .tmp 126], none, 0⟩])
        (.seq (.seq (.region [⟨(some 17), .mov (.const (.int .i64 0)), none, 0⟩])
        (.block 2 (.loop [0, 2, 3, 5, 10, 11, 12, 13, 17]
          (.seq (.seq (.region [⟨(some 128), .mov (.tmp 17), none, 0⟩,
            ⟨(some 129), .mov (.tmp 13), none, 0⟩,
            ⟨(some 130), .bin .lss (.tmp 128) (.tmp 129), none, 0⟩])
          (.cond (.tmp 130)
            (.skip)
            (.exit 2)))
          (.seq (.block 3 (.region [⟨(some 133), .mov (.tmp 0), none, 0⟩,
            ⟨(some 134), .mov (.tmp 11), none, 0⟩,
            ⟨(some 135), .mov (.tmp 17), none, 0⟩,
            ⟨(some 136), .bin .add (.tmp 134) (.tmp 135), none, 0⟩,
            ⟨(some 137), .mov (.tmp 2), none, 0⟩,
            ⟨(some 138), .mov (.tmp 12), none, 0⟩,
            ⟨(some 139), .iaddr none 4 (.tmp 137) (.tmp 138), none, 0⟩,
            ⟨(some 140), .faddr 1 (.tmp 139), none, 0⟩,
            ⟨(some 141), .load none (.tmp 140), none, 0⟩,
            ⟨(some 142), .mov (.tmp 17), none, 0⟩,
            ⟨(some 143), .bin .add (.tmp 141) (.tmp 142), none, 0⟩,
            ⟨(some 144), .call Id.cells_Plain_SetByte [.tmp 133, .tmp 136, .tmp 143], none, 0⟩]))
          (.region [⟨(some 131), .mov (.tmp 17), none, 0⟩,
            ⟨(some 132), .bin .add (.tmp 131) (.const (.int .i64 1)), none, 0⟩,
            ⟨(some 17), .mov (.tmp 132), none, 0⟩]))))))
        (.seq (.region [⟨(some 145), .mov (.tmp 10), none, 0⟩,
          ⟨(some 146), .mov (.tmp 12), none, 0⟩,
          ⟨(some 147), .mov (.tmp 11), none, 0⟩,
          ⟨(some 148), .mov (.tmp 13), none, 0⟩,
          ⟨(some 149), .mov (.tmp 2), none, 0⟩,
          ⟨(some 150), .mov (.tmp 12), none, 0⟩,
          ⟨(some 151), .iaddr none 4 (.tmp 149) (.tmp 150), none, 0⟩,
          ⟨(some 152), .faddr 3 (.tmp 151), none, 0⟩,
          ⟨(some 153), .load none (.tmp 152), none, 0⟩,
          ⟨(some 154), .bin .gtr (.tmp 153) (.const (.int .i64 0)), none, 0⟩,
          ⟨(some 155), .build [.int .i64 0, .int .i64 0, .int .i64 0, .bool false] [(0, 1, .tmp 146), (1, 1, .tmp 147), (2, 1, .tmp 148), (3, 1, .tmp 154)], none, 0⟩,
          ⟨(some 156), .buildSlice 4 1 [.int .i64 0, .int .i64 0, .int .i64 0, .bool false] [(0, 4, .tmp 155)], none, 0⟩,
          ⟨(some 157), .append 4 32 (.tmp 145) (.tmp 156), none, 0⟩,
          ⟨(some 10), .mov (.tmp 157), none, 0⟩])
        (.region [⟨(some 158), .mov (.tmp 11), none, 0⟩,
          ⟨(some 159), .mov (.tmp 13), none, 0⟩,
          ⟨(some 160), .bin .add (.tmp 158) (.tmp 159), none, 0⟩,
          ⟨(some 11), .mov (.tmp 160), none, 0⟩])))))))))))
        (.region [⟨(some 35), .mov (.tmp 12), none, 0⟩,
          ⟨(some 36), .bin .add (.tmp 35) (.const (.int .i64 1)), none, 0⟩,
          ⟨(some 12), .mov (.tmp 36), none, 0⟩]))))))
      (.seq (.region [⟨(some 161), .mov (.tmp 0), none, 0⟩,
        ⟨(some 162), .mov (.tmp 11), none, 0⟩,
        ⟨(some 163), .mov (.tmp 3), none, 0⟩,
        ⟨(some 164), .bin .mul (.const (.int .i64 8)) (.tmp 163), none, 0⟩,
        ⟨(some 165), .bin .add (.tmp 162) (.tmp 164), none, 0⟩,
        ⟨(some 166), .laddr none 5 0, none, 0⟩,
        ⟨(some 167), .lload (some 166) 5 0 none, none, 0⟩,
        ⟨(some 168), .min [.tmp 165, .tmp 167], none, 0⟩,
        ⟨(some 169), .call Id.cells_Plain_Store [.tmp 161, .const (.int .i64 0), .tmp 168], none, 0⟩])
      (.seq (.region [⟨(some 170), .mov (.tmp 10), none, 0⟩,
        ⟨(some 8), .mov (.tmp 170), none, 0⟩,
        ⟨(some 9), .mov (.const (.bool true)), none, 0⟩])
      (.ret))))))) }

def F.sidingslaw18_run : IFunc :=
  { lb := [6, 9], scr := false, nargs := 3, res := [.lb 6 (some 2), .tmp 7],
    body := .seq (.region [⟨(some 6), .lbox (.const (.agg #[.int .i64 0, .int .i64 0])), none, 0⟩,
        ⟨(some 7), .mov (.const (.int .i64 0)), none, 0⟩])
      (.seq (.seq (.region [⟨(some 8), .mov (.const (.int .i64 1)), none, 0⟩])
      (.block 0 (.loop [0, 1, 2, 6, 8]
        (.seq (.seq (.region [⟨(some 11), .mov (.tmp 8), none, 0⟩,
          ⟨(some 12), .mov (.tmp 2), none, 0⟩,
          ⟨(some 13), .bin .leq (.tmp 11) (.tmp 12), none, 0⟩])
        (.cond (.tmp 13)
          (.skip)
          (.exit 0)))
        (.seq (.block 1 (.seq (.region [⟨(some 17), .mov (.tmp 1), none, 0⟩,
          ⟨(some 18), .mov (.tmp 0), none, 0⟩,
          ⟨(some 19), .mkif 25 (.tmp 18), none, 0⟩,
          ⟨(some 20), .call Id.compact_Machine_Step [.tmp 17, .tmp 19], none, 0⟩,
          ⟨(some 16), .mov (.tmp 20), none, 0⟩,
          ⟨(some 21), .extract (.tmp 16) 0, none, 0⟩,
          ⟨(some 22), .extract (.tmp 16) 1, none, 0⟩,
          ⟨(some 9), .lbox (.const (.agg #[.int .i64 0, .int .i64 0])), none, 0⟩,
          ⟨(some 9), .lstore none 9 0 2 (.tmp 21), none, 0⟩,
          ⟨(some 10), .mov (.tmp 22), none, 0⟩])
        (.seq (.region [⟨(some 23), .mov (.tmp 10), none, 0⟩])
        (.cond (.tmp 23)
          (.seq (.region [⟨(some 24), .lload none 9 0 (some 2), none, 0⟩,
            ⟨(some 25), .mov (.tmp 8), none, 0⟩,
            ⟨(some 6), .lstore none 6 0 2 (.tmp 24), none, 0⟩,
            ⟨(some 7), .mov (.tmp 25), none, 0⟩])
          (.ret))
          (.skip)))))
        (.region [⟨(some 14), .mov (.tmp 8), none, 0⟩,
          ⟨(some 15), .bin .add (.tmp 14) (.const (.int .i64 1)), none, 0⟩,
          ⟨(some 8), .mov (.tmp 15), none, 0⟩]))))))
      (.seq (.region [⟨(some 26), .build [.int .i64 0, .int .i64 0] [(0, 1, .const (.int .i64 (-1)))], none, 0⟩,
        ⟨(some 27), .mov (.tmp 2), none, 0⟩,
        ⟨(some 6), .lstore none 6 0 2 (.tmp 26), none, 0⟩,
        ⟨(some 7), .mov (.tmp 27), none, 0⟩])
      (.ret))) }

def F.compact_New : IFunc :=
  { lb := [1, 3], scr := false, nargs := 1, res := [.tmp 2],
    body := .seq (.region [⟨(some 1), .lbox (.tmp 0), none, 0⟩,
        ⟨(some 2), .mov (.const (.pointer none)), none, 0⟩])
      (.seq (.region [⟨(some 7), .lload none 1 0 (some 3), none, 0⟩,
        ⟨(some 8), .call Id.layout_Of [.tmp 7], none, 0⟩,
        ⟨(some 6), .mov (.tmp 8), none, 0⟩,
        ⟨(some 9), .extract (.tmp 6) 0, none, 0⟩,
        ⟨(some 10), .extract (.tmp 6) 1, none, 0⟩,
        ⟨(some 3), .lbox (.const (.agg #[.int .i64 0, .int .i64 0])), none, 0⟩,
        ⟨(some 3), .lstore none 3 0 2 (.tmp 9), none, 0⟩,
        ⟨(some 4), .mov (.tmp 10), none, 0⟩])
      (.seq (.region [⟨(some 11), .lload none 3 0 (some 2), none, 0⟩,
        ⟨(some 12), .lload none 1 0 (some 3), none, 0⟩,
        ⟨(some 13), .build [.int .i64 0, .int .i64 0, .int .i64 0, .int .i64 0, .int .i64 0, .int .i64 0, .int .i64 0, .int .i64 0, .int .i64 0, .int .i64 0, .int .i64 0, .int .i64 0, .bool false, .bool false, .slice none 0 0, .int .i64 0, .int .i64 0, .int .i64 0, .int .i64 0, .int .i64 0, .int .i64 0, .int .i64 0, .int .i64 0, .int .i64 0, .int .i64 0, .int .i64 0, .int .i64 0, .int .i64 0, .int .i64 0, .int .i64 0, .int .i64 0, .int .i64 0, .int .i64 0, .int .i64 0, .int .i64 0, .int .i64 0, .int .i64 0, .int .i64 0, .int .i64 0, .int .i64 0, .int .i64 0, .int .i64 0, .int .i64 0, .int .i64 0, .int .i64 0, .int .i64 0, .int .i64 0, .int .i64 0, .int .i64 0, .int .i64 0, .int .i64 0, .int .i64 0, .int .i64 0, .int .i64 0, .int .i64 0, .int .i64 0, .int .i64 0, .int .i64 0, .int .i64 0, .int .i64 0, .int .i64 0, .int .i64 0, .int .i64 0, .int .i64 0, .int .i64 0, .int .i64 0, .int .i64 0, .int .i64 0, .int .i64 0, .int .i64 0, .int .i64 0, .int .i64 0, .int .i64 0, .int .i64 0, .int .i64 0, .int .i64 0, .int .i64 0, .int .i64 0, .int .i64 0, .int .i64 0, .int .i64 0, .int .i64 0, .int .i64 0, .int .i64 0, .int .i64 0, .pointer none, .bool false] [(0, 2, .tmp 11), (2, 3, .tmp 12), (5, 1, .const (.int .i64 1))], none, 0⟩,
        ⟨(some 14), .box (.tmp 13), none, 0⟩,
        ⟨(some 5), .mov (.tmp 14), none, 0⟩])
      (.seq (.seq (.region [⟨(some 15), .mov (.tmp 4), none, 0⟩,
        ⟨(some 16), .bin .neq (.tmp 15) (.const (.int .i64 0)), none, 0⟩])
      (.cond (.tmp 16)
        (.region [⟨(some 17), .mov (.tmp 5), none, 0⟩,
          ⟨(some 18), .nilchk (.tmp 17), none, 0⟩,
          ⟨(some 19), .faddr 5 (.tmp 18), none, 0⟩,
          ⟨none, .store 1 (.tmp 19) (.const (.int .i64 0)), none, 0⟩])
        (.skip)))
      (.seq (.region [⟨(some 20), .mov (.tmp 5), none, 0⟩,
        ⟨(some 2), .mov (.tmp 20), none, 0⟩])
      (.ret))))) }

def F.cells_Plain_Load : IFunc :=
  { lb := [], scr := false, nargs := 2, res := [.tmp 4],
    body := .seq (.region [⟨(some 4), .mov (.const (.int .i64 0)), none, 0⟩])
      (.seq (.seq (.region [⟨(some 5), .mov (.tmp 0), none, 0⟩,
        ⟨(some 6), .mov (.tmp 1), none, 0⟩,
        ⟨(some 7), .call Id.cells_Plain_word [.tmp 5, .tmp 6], none, 0⟩,
        ⟨(some 8), .un .not (.tmp 7), none, 0⟩])
      (.cond (.tmp 8)
        (.seq (.region [⟨(some 4), .mov (.const (.int .i64 0)), none, 0⟩])
        (.ret))
        (.skip)))
      (.seq (.region [⟨(some 9), .mov (.tmp 0), none, 0⟩,
        ⟨(some 10), .nilchk (.tmp 9), none, 0⟩,
        ⟨(some 11), .faddr 0 (.tmp 10), none, 0⟩,
        ⟨(some 12), .load none (.tmp 11), none, 0⟩,
        ⟨(some 13), .mov (.tmp 1), none, 0⟩,
        ⟨(some 14), .iaddr none 1 (.tmp 12) (.tmp 13), none, 0⟩,
        ⟨(some 15), .load none (.tmp 14), none, 0⟩,
        ⟨(some 4), .mov (.tmp 15), none, 0⟩])
      (.ret))) }

def F.cells_Plain_Store : IFunc :=
  { lb := [], scr := false, nargs := 3, res := [],
    body := .seq (.region [⟨(some 6), .mov (.tmp 0), none, 0⟩,
        ⟨(some 7), .mov (.tmp 1), none, 0⟩,
        ⟨(some 8), .call Id.cells_Plain_word [.tmp 6, .tmp 7], none, 0⟩])
      (.cond (.tmp 8)
        (.region [⟨(some 9), .mov (.tmp 0), none, 0⟩,
          ⟨(some 10), .nilchk (.tmp 9), none, 0⟩,
          ⟨(some 11), .faddr 0 (.tmp 10), none, 0⟩,
          ⟨(some 12), .load none (.tmp 11), none, 0⟩,
          ⟨(some 13), .mov (.tmp 1), none, 0⟩,
          ⟨(some 14), .mov (.tmp 2), none, 0⟩,
          ⟨(some 15), .iaddr none 1 (.tmp 12) (.tmp 13), none, 0⟩,
          ⟨none, .store 1 (.tmp 15) (.tmp 14), none, 0⟩])
        (.skip)) }

def F.compact_Machine_Lowered : IFunc :=
  { lb := [], scr := false, nargs := 1, res := [.tmp 2],
    body := .seq (.region [⟨(some 2), .mov (.const (.bool false)), none, 0⟩])
      (.seq (.region [⟨(some 3), .mov (.tmp 0), none, 0⟩,
        ⟨(some 4), .eqv true (.nil 0) (.tmp 3) (.const (.pointer none)), none, 0⟩,
        ⟨(some 5), .mov (.tmp 4), none, 0⟩,
        ⟨(some 6), .mov (.tmp 0), (some (5, true)), 0⟩,
        ⟨(some 7), .nilchk (.tmp 6), (some (5, true)), 0⟩,
        ⟨(some 8), .faddr 86 (.tmp 7), (some (5, true)), 0⟩,
        ⟨(some 9), .load none (.tmp 8), (some (5, true)), 0⟩,
        ⟨(some 10), .pick (.tmp 5) (.tmp 9) (.const (.bool false)), none, 0⟩,
        ⟨(some 2), .mov (.tmp 10), none, 0⟩])
      (.ret)) }

def F.cells_Plain_Copy : IFunc :=
  { lb := [], scr := false, nargs := 1, res := [.tmp 2],
    body := .seq (.region [⟨(some 2), .mov (.const (.pointer none)), none, 0⟩])
      (.seq (.seq (.region [⟨(some 4), .mov (.tmp 0), none, 0⟩,
        ⟨(some 5), .eqv false (.nil 0) (.tmp 4) (.const (.pointer none)), none, 0⟩])
      (.cond (.tmp 5)
        (.seq (.region [⟨(some 2), .mov (.const (.pointer none)), none, 0⟩])
        (.ret))
        (.skip)))
      (.seq (.region [⟨(some 6), .mov (.tmp 0), none, 0⟩,
        ⟨(some 7), .nilchk (.tmp 6), none, 0⟩,
        ⟨(some 8), .faddr 0 (.tmp 7), none, 0⟩,
        ⟨(some 9), .load none (.tmp 8), none, 0⟩,
        ⟨(some 10), .len false (.tmp 9), none, 0⟩,
        ⟨(some 11), .mov (.tmp 0), none, 0⟩,
        ⟨(some 12), .nilchk (.tmp 11), none, 0⟩,
        ⟨(some 13), .faddr 1 (.tmp 12), none, 0⟩,
        ⟨(some 14), .load none (.tmp 13), none, 0⟩,
        ⟨(some 15), .len false (.tmp 14), none, 0⟩,
        ⟨(some 16), .call Id.cells_New [.tmp 10, .tmp 15], none, 0⟩,
        ⟨(some 3), .mov (.tmp 16), none, 0⟩])
      (.seq (.region [⟨(some 17), .mov (.tmp 3), none, 0⟩,
        ⟨(some 18), .nilchk (.tmp 17), none, 0⟩,
        ⟨(some 19), .faddr 0 (.tmp 18), none, 0⟩,
        ⟨(some 20), .load none (.tmp 19), none, 0⟩,
        ⟨(some 21), .mov (.tmp 0), none, 0⟩,
        ⟨(some 22), .nilchk (.tmp 21), none, 0⟩,
        ⟨(some 23), .faddr 0 (.tmp 22), none, 0⟩,
        ⟨(some 24), .load none (.tmp 23), none, 0⟩,
        ⟨(some 25), .copy 1 (.tmp 20) (.tmp 24), none, 0⟩])
      (.seq (.region [⟨(some 26), .mov (.tmp 3), none, 0⟩,
        ⟨(some 27), .nilchk (.tmp 26), none, 0⟩,
        ⟨(some 28), .faddr 1 (.tmp 27), none, 0⟩,
        ⟨(some 29), .load none (.tmp 28), none, 0⟩,
        ⟨(some 30), .mov (.tmp 0), none, 0⟩,
        ⟨(some 31), .nilchk (.tmp 30), none, 0⟩,
        ⟨(some 32), .faddr 1 (.tmp 31), none, 0⟩,
        ⟨(some 33), .load none (.tmp 32), none, 0⟩,
        ⟨(some 34), .copy 1 (.tmp 29) (.tmp 33), none, 0⟩])
      (.seq (.region [⟨(some 35), .mov (.tmp 3), none, 0⟩,
        ⟨(some 36), .mov (.tmp 0), none, 0⟩,
        ⟨(some 37), .nilchk (.tmp 36), none, 0⟩,
        ⟨(some 38), .faddr 2 (.tmp 37), none, 0⟩,
        ⟨(some 39), .load none (.tmp 38), none, 0⟩,
        ⟨(some 40), .nilchk (.tmp 35), none, 0⟩,
        ⟨(some 41), .faddr 2 (.tmp 40), none, 0⟩,
        ⟨none, .store 1 (.tmp 41) (.tmp 39), none, 0⟩])
      (.seq (.region [⟨(some 42), .mov (.tmp 3), none, 0⟩,
        ⟨(some 2), .mov (.tmp 42), none, 0⟩])
      (.ret))))))) }

def F.cells_Plain_Byte : IFunc :=
  { lb := [], scr := false, nargs := 2, res := [.tmp 4],
    body := .seq (.region [⟨(some 4), .mov (.const (.int .i64 0)), none, 0⟩])
      (.seq (.seq (.region [⟨(some 5), .mov (.tmp 0), none, 0⟩,
        ⟨(some 6), .mov (.tmp 1), none, 0⟩,
        ⟨(some 7), .call Id.cells_Plain_byte [.tmp 5, .tmp 6], none, 0⟩,
        ⟨(some 8), .un .not (.tmp 7), none, 0⟩])
      (.cond (.tmp 8)
        (.seq (.region [⟨(some 4), .mov (.const (.int .i64 0)), none, 0⟩])
        (.ret))
        (.skip)))
      (.seq (.region [⟨(some 9), .mov (.tmp 0), none, 0⟩,
        ⟨(some 10), .nilchk (.tmp 9), none, 0⟩,
        ⟨(some 11), .faddr 1 (.tmp 10), none, 0⟩,
        ⟨(some 12), .load none (.tmp 11), none, 0⟩,
        ⟨(some 13), .mov (.tmp 1), none, 0⟩,
        ⟨(some 14), .iaddr none 1 (.tmp 12) (.tmp 13), none, 0⟩,
        ⟨(some 15), .load none (.tmp 14), none, 0⟩,
        ⟨(some 16), .conv (.int .i64) (.tmp 15), none, 0⟩,
        ⟨(some 4), .mov (.tmp 16), none, 0⟩])
      (.ret))) }

def F.compact_Machine_Step : IFunc :=
  { lb := [4], scr := false, nargs := 2, res := [.lb 4 (some 2), .tmp 5],
    body := .seq (.region [⟨(some 4), .lbox (.const (.agg #[.int .i64 0, .int .i64 0])), none, 0⟩,
        ⟨(some 5), .mov (.const (.bool false)), none, 0⟩])
      (.seq (.seq (.region [⟨(some 6), .mov (.tmp 0), none, 0⟩,
        ⟨(some 7), .eqv false (.nil 0) (.tmp 6) (.const (.pointer none)), none, 0⟩,
        ⟨(some 8), .mov (.tmp 7), none, 0⟩,
        ⟨(some 9), .mov (.tmp 1), (some (8, false)), 0⟩,
        ⟨(some 10), .eqv false (.nil 4) (.tmp 9) (.const (.nilIface)), (some (8, false)), 0⟩,
        ⟨(some 11), .pick (.tmp 8) (.const (.bool true)) (.tmp 10), none, 0⟩,
        ⟨(some 12), .mov (.tmp 11), none, 0⟩,
        ⟨(some 13), .mov (.tmp 0), (some (12, false)), 0⟩,
        ⟨(some 14), .nilchk (.tmp 13), (some (12, false)), 0⟩,
        ⟨(some 15), .faddr 5 (.tmp 14), (some (12, false)), 0⟩,
        ⟨(some 16), .load none (.tmp 15), (some (12, false)), 0⟩,
        ⟨(some 17), .bin .eql (.tmp 16) (.const (.int .i64 0)), (some (12, false)), 0⟩,
        ⟨(some 18), .pick (.tmp 12) (.const (.bool true)) (.tmp 17), none, 0⟩])
      (.cond (.tmp 18)
        (.seq (.region [⟨(some 19), .build [.int .i64 0, .int .i64 0] [(0, 1, .const (.int .i64 1))], none, 0⟩,
          ⟨(some 4), .lstore none 4 0 2 (.tmp 19), none, 0⟩,
          ⟨(some 5), .mov (.const (.bool true)), none, 0⟩])
        (.ret))
        (.skip)))
      (.seq (.seq (.region [⟨(some 20), .mov (.tmp 0), none, 0⟩,
        ⟨(some 21), .nilchk (.tmp 20), none, 0⟩,
        ⟨(some 22), .faddr 5 (.tmp 21), none, 0⟩,
        ⟨(some 23), .load none (.tmp 22), none, 0⟩])
      (.block 0 (.seq (.region [⟨(some 25), .bin .eql (.tmp 23) (.const (.int .i64 1)), none, 0⟩,
        ⟨(some 24), .mov (.tmp 25), none, 0⟩])
      (.cond (.tmp 24)
        (.seq (.region [⟨(some 28), .mov (.tmp 0), none, 0⟩,
          ⟨(some 29), .nilchk (.tmp 28), none, 0⟩,
          ⟨(some 30), .faddr 0 (.tmp 29), none, 0⟩,
          ⟨(some 31), .load (some 2) (.tmp 30), none, 0⟩,
          ⟨(some 32), .call Id.layout_Layout_Frontier [.tmp 31], none, 0⟩,
          ⟨(some 27), .mov (.tmp 1), none, 0⟩,
          ⟨(some 33), .mkfn (.method "Load") [.tmp 27] [], none, 0⟩,
          ⟨(some 34), .nilchkm "Load" [(25, Id.cells_Plain_Load)] (.tmp 33), none, 0⟩,
          ⟨(some 35), .mov (.tmp 27), none, 0⟩,
          ⟨(some 36), .invoke [(25, Id.cells_Plain_Load)] (.tmp 35) [.tmp 32], none, 0⟩,
          ⟨(some 26), .mov (.tmp 0), none, 0⟩,
          ⟨(some 37), .nilchk (.tmp 26), none, 0⟩,
          ⟨(some 38), .faddr 6 (.tmp 37), none, 0⟩,
          ⟨none, .store 1 (.tmp 38) (.tmp 36), none, 0⟩])
        (.seq (.region [⟨(some 39), .mov (.tmp 0), none, 0⟩,
          ⟨(some 40), .call Id.compact_Machine_on [.tmp 39, .const (.int .i64 2)], none, 0⟩,
          ⟨(some 41), .extract (.tmp 40) 0, none, 0⟩,
          ⟨(some 42), .extract (.tmp 40) 1, none, 0⟩,
          ⟨(some 4), .lstore none 4 0 2 (.tmp 41), none, 0⟩,
          ⟨(some 5), .mov (.tmp 42), none, 0⟩])
        (.ret)))
        (.seq (.region [⟨(some 44), .bin .eql (.tmp 23) (.const (.int .i64 2)), none, 0⟩,
          ⟨(some 43), .mov (.tmp 44), none, 0⟩])
        (.cond (.tmp 43)
          (.seq (.seq (.region [⟨(some 46), .mov (.tmp 0), none, 0⟩,
            ⟨(some 47), .nilchk (.tmp 46), none, 0⟩,
            ⟨(some 48), .faddr 0 (.tmp 47), none, 0⟩,
            ⟨(some 49), .load (some 2) (.tmp 48), none, 0⟩,
            ⟨(some 50), .call Id.layout_Layout_Pending [.tmp 49], none, 0⟩,
            ⟨(some 45), .mov (.tmp 1), none, 0⟩,
            ⟨(some 51), .mkfn (.method "Load") [.tmp 45] [], none, 0⟩,
            ⟨(some 52), .nilchkm "Load" [(25, Id.cells_Plain_Load)] (.tmp 51), none, 0⟩,
            ⟨(some 53), .mov (.tmp 45), none, 0⟩,
            ⟨(some 54), .invoke [(25, Id.cells_Plain_Load)] (.tmp 53) [.tmp 50], none, 0⟩,
            ⟨(some 55), .bin .neq (.tmp 54) (.const (.int .i64 0)), none, 0⟩])
          (.cond (.tmp 55)
            (.seq (.region [⟨(some 56), .mov (.tmp 0), none, 0⟩,
              ⟨(some 57), .call Id.compact_Machine_end [.tmp 56], none, 0⟩,
              ⟨(some 58), .extract (.tmp 57) 0, none, 0⟩,
              ⟨(some 59), .extract (.tmp 57) 1, none, 0⟩,
              ⟨(some 4), .lstore none 4 0 2 (.tmp 58), none, 0⟩,
              ⟨(some 5), .mov (.tmp 59), none, 0⟩])
            (.ret))
            (.skip)))
          (.seq (.region [⟨(some 60), .mov (.tmp 0), none, 0⟩,
            ⟨(some 61), .call Id.compact_Machine_on [.tmp 60, .const (.int .i64 3)], none, 0⟩,
            ⟨(some 62), .extract (.tmp 61) 0, none, 0⟩,
            ⟨(some 63), .extract (.tmp 61) 1, none, 0⟩,
            ⟨(some 4), .lstore none 4 0 2 (.tmp 62), none, 0⟩,
            ⟨(some 5), .mov (.tmp 63), none, 0⟩])
          (.ret)))
          (.seq (.region [⟨(some 65), .bin .eql (.tmp 23) (.const (.int .i64 3)), none, 0⟩,
            ⟨(some 64), .mov (.tmp 65), none, 0⟩])
          (.cond (.tmp 64)
            (.seq (.region [⟨(some 66), .mov (.tmp 0), none, 0⟩,
              ⟨(some 67), .mov (.tmp 1), none, 0⟩,
              ⟨(some 68), .call Id.compact_Machine_scan [.tmp 66, .tmp 67], none, 0⟩,
              ⟨(some 69), .extract (.tmp 68) 0, none, 0⟩,
              ⟨(some 70), .extract (.tmp 68) 1, none, 0⟩,
              ⟨(some 4), .lstore none 4 0 2 (.tmp 69), none, 0⟩,
              ⟨(some 5), .mov (.tmp 70), none, 0⟩])
            (.ret))
            (.seq (.region [⟨(some 72), .bin .eql (.tmp 23) (.const (.int .i64 4)), none, 0⟩,
              ⟨(some 71), .mov (.tmp 72), none, 0⟩])
            (.cond (.tmp 71)
              (.seq (.region [⟨(some 73), .mov (.tmp 0), none, 0⟩,
                ⟨(some 74), .mov (.tmp 1), none, 0⟩,
                ⟨(some 75), .call Id.compact_Machine_measure [.tmp 73, .tmp 74], none, 0⟩,
                ⟨(some 76), .extract (.tmp 75) 0, none, 0⟩,
                ⟨(some 77), .extract (.tmp 75) 1, none, 0⟩,
                ⟨(some 4), .lstore none 4 0 2 (.tmp 76), none, 0⟩,
                ⟨(some 5), .mov (.tmp 77), none, 0⟩])
              (.ret))
              (.seq (.region [⟨(some 79), .bin .eql (.tmp 23) (.const (.int .i64 5)), none, 0⟩,
                ⟨(some 78), .mov (.tmp 79), none, 0⟩])
              (.cond (.tmp 78)
                (.seq (.region [⟨(some 80), .mov (.tmp 0), none, 0⟩,
                  ⟨(some 81), .mov (.tmp 1), none, 0⟩,
                  ⟨(some 82), .call Id.compact_Machine_look [.tmp 80, .tmp 81], none, 0⟩,
                  ⟨(some 83), .extract (.tmp 82) 0, none, 0⟩,
                  ⟨(some 84), .extract (.tmp 82) 1, none, 0⟩,
                  ⟨(some 4), .lstore none 4 0 2 (.tmp 83), none, 0⟩,
                  ⟨(some 5), .mov (.tmp 84), none, 0⟩])
                (.ret))
                (.seq (.region [⟨(some 86), .bin .eql (.tmp 23) (.const (.int .i64 6)), none, 0⟩,
                  ⟨(some 85), .mov (.tmp 86), none, 0⟩])
                (.cond (.tmp 85)
                  (.seq (.region [⟨(some 87), .mov (.tmp 0), none, 0⟩,
                    ⟨(some 88), .mov (.tmp 1), none, 0⟩,
                    ⟨(some 89), .call Id.compact_Machine_lock [.tmp 87, .tmp 88], none, 0⟩,
                    ⟨(some 90), .extract (.tmp 89) 0, none, 0⟩,
                    ⟨(some 91), .extract (.tmp 89) 1, none, 0⟩,
                    ⟨(some 4), .lstore none 4 0 2 (.tmp 90), none, 0⟩,
                    ⟨(some 5), .mov (.tmp 91), none, 0⟩])
                  (.ret))
                  (.seq (.region [⟨(some 93), .bin .eql (.tmp 23) (.const (.int .i64 7)), none, 0⟩,
                    ⟨(some 92), .mov (.tmp 93), none, 0⟩])
                  (.cond (.tmp 92)
                    (.seq (.region [⟨(some 96), .mov (.tmp 0), none, 0⟩,
                      ⟨(some 97), .call Id.compact_Machine_object [.tmp 96], none, 0⟩,
                      ⟨(some 95), .mov (.tmp 1), none, 0⟩,
                      ⟨(some 98), .field 1 none (.tmp 97), none, 0⟩,
                      ⟨(some 99), .mov (.tmp 0), none, 0⟩,
                      ⟨(some 100), .nilchk (.tmp 99), none, 0⟩,
                      ⟨(some 101), .faddr 82 (.tmp 100), none, 0⟩,
                      ⟨(some 102), .load none (.tmp 101), none, 1⟩,
                      ⟨(some 103), .bin .add (.tmp 98) (.tmp 102), none, 0⟩,
                      ⟨(some 104), .mkfn (.method "Byte") [.tmp 95] [], none, 0⟩,
                      ⟨(some 105), .nilchkm "Byte" [(25, Id.cells_Plain_Byte)] (.tmp 104), none, 0⟩,
                      ⟨(some 106), .mov (.tmp 95), none, 0⟩,
                      ⟨(some 107), .invoke [(25, Id.cells_Plain_Byte)] (.tmp 106) [.tmp 103], none, 0⟩,
                      ⟨(some 94), .mov (.tmp 0), none, 0⟩,
                      ⟨(some 108), .nilchk (.tmp 94), none, 0⟩,
                      ⟨(some 109), .faddr 83 (.tmp 108), none, 0⟩,
                      ⟨none, .store 1 (.tmp 109) (.tmp 107), none, 0⟩])
                    (.seq (.region [⟨(some 110), .mov (.tmp 0), none, 0⟩,
                      ⟨(some 111), .call Id.compact_Machine_on [.tmp 110, .const (.int .i64 8)], none, 0⟩,
                      ⟨(some 112), .extract (.tmp 111) 0, none, 0⟩,
                      ⟨(some 113), .extract (.tmp 111) 1, none, 0⟩,
                      ⟨(some 4), .lstore none 4 0 2 (.tmp 112), none, 0⟩,
                      ⟨(some 5), .mov (.tmp 113), none, 0⟩])
                    (.ret)))
                    (.seq (.region [⟨(some 115), .bin .eql (.tmp 23) (.const (.int .i64 8)), none, 0⟩,
                      ⟨(some 114), .mov (.tmp 115), none, 0⟩])
                    (.cond (.tmp 114)
                      (.seq (.region [⟨(some 116), .mov (.tmp 0), none, 0⟩,
                        ⟨(some 117), .mov (.tmp 1), none, 0⟩,
                        ⟨(some 118), .call Id.compact_Machine_lay [.tmp 116, .tmp 117], none, 0⟩,
                        ⟨(some 119), .extract (.tmp 118) 0, none, 0⟩,
                        ⟨(some 120), .extract (.tmp 118) 1, none, 0⟩,
                        ⟨(some 4), .lstore none 4 0 2 (.tmp 119), none, 0⟩,
                        ⟨(some 5), .mov (.tmp 120), none, 0⟩])
                      (.ret))
                      (.seq (.region [⟨(some 122), .bin .eql (.tmp 23) (.const (.int .i64 9)), none, 0⟩,
                        ⟨(some 121), .mov (.tmp 122), none, 0⟩])
                      (.cond (.tmp 121)
                        (.seq (.region [⟨(some 123), .mov (.tmp 0), none, 0⟩,
                          ⟨(some 124), .mov (.tmp 1), none, 0⟩,
                          ⟨(some 125), .call Id.compact_Machine_store [.tmp 123, .tmp 124], none, 0⟩,
                          ⟨(some 126), .extract (.tmp 125) 0, none, 0⟩,
                          ⟨(some 127), .extract (.tmp 125) 1, none, 0⟩,
                          ⟨(some 4), .lstore none 4 0 2 (.tmp 126), none, 0⟩,
                          ⟨(some 5), .mov (.tmp 127), none, 0⟩])
                        (.ret))
                        (.seq (.region [⟨(some 129), .bin .eql (.tmp 23) (.const (.int .i64 10)), none, 0⟩,
                          ⟨(some 128), .mov (.tmp 129), none, 0⟩])
                        (.cond (.tmp 128)
                          (.seq (.region [⟨(some 130), .mov (.tmp 0), none, 0⟩,
                            ⟨(some 131), .mov (.tmp 1), none, 0⟩,
                            ⟨(some 132), .call Id.compact_Machine_turn [.tmp 130, .tmp 131], none, 0⟩,
                            ⟨(some 133), .extract (.tmp 132) 0, none, 0⟩,
                            ⟨(some 134), .extract (.tmp 132) 1, none, 0⟩,
                            ⟨(some 4), .lstore none 4 0 2 (.tmp 133), none, 0⟩,
                            ⟨(some 5), .mov (.tmp 134), none, 0⟩])
                          (.ret))
                          (.skip)))))))))))))))))))))))
      (.seq (.region [⟨(some 137), .mov (.tmp 0), none, 0⟩,
        ⟨(some 138), .nilchk (.tmp 137), none, 0⟩,
        ⟨(some 139), .faddr 0 (.tmp 138), none, 0⟩,
        ⟨(some 140), .load (some 2) (.tmp 139), none, 0⟩,
        ⟨(some 141), .call Id.layout_Layout_Frontier [.tmp 140], none, 0⟩,
        ⟨(some 136), .mov (.tmp 1), none, 0⟩,
        ⟨(some 142), .mov (.tmp 0), none, 0⟩,
        ⟨(some 143), .nilchk (.tmp 142), none, 0⟩,
        ⟨(some 144), .faddr 6 (.tmp 143), none, 0⟩,
        ⟨(some 145), .load none (.tmp 144), none, 1⟩,
        ⟨(some 146), .mov (.tmp 0), none, 0⟩,
        ⟨(some 147), .nilchk (.tmp 146), none, 0⟩,
        ⟨(some 148), .faddr 80 (.tmp 147), none, 0⟩,
        ⟨(some 149), .load none (.tmp 148), none, 1⟩,
        ⟨(some 150), .mkfn (.method "Cas") [.tmp 136] [], none, 0⟩,
        ⟨(some 151), .nilchkm "Cas" [(25, Id.cells_Plain_Cas)] (.tmp 150), none, 0⟩,
        ⟨(some 152), .mov (.tmp 136), none, 0⟩,
        ⟨(some 153), .invoke [(25, Id.cells_Plain_Cas)] (.tmp 152) [.tmp 141, .tmp 145, .tmp 149], none, 0⟩,
        ⟨(some 135), .mov (.tmp 0), none, 0⟩,
        ⟨(some 154), .nilchk (.tmp 135), none, 0⟩,
        ⟨(some 155), .faddr 86 (.tmp 154), none, 0⟩,
        ⟨none, .store 1 (.tmp 155) (.tmp 153), none, 0⟩])
      (.seq (.region [⟨(some 156), .mov (.tmp 0), none, 0⟩,
        ⟨(some 157), .call Id.compact_Machine_end [.tmp 156], none, 0⟩,
        ⟨(some 158), .extract (.tmp 157) 0, none, 0⟩,
        ⟨(some 159), .extract (.tmp 157) 1, none, 0⟩,
        ⟨(some 4), .lstore none 4 0 2 (.tmp 158), none, 0⟩,
        ⟨(some 5), .mov (.tmp 159), none, 0⟩])
      (.ret))))) }

def F.compact_Machine_Moving : IFunc :=
  { lb := [2, 4], scr := false, nargs := 1, res := [.lb 2 (some 4), .tmp 3],
    body := .seq (.region [⟨(some 2), .lbox (.const (.agg #[.int .i64 0, .int .i64 0, .int .i64 0, .int .i64 0])), none, 0⟩,
        ⟨(some 3), .mov (.const (.bool false)), none, 0⟩])
      (.seq (.seq (.region [⟨(some 5), .mov (.tmp 0), none, 0⟩,
        ⟨(some 6), .eqv false (.nil 0) (.tmp 5) (.const (.pointer none)), none, 0⟩])
      (.cond (.tmp 6)
        (.seq (.region [⟨(some 7), .build [.int .i64 0, .int .i64 0, .int .i64 0, .int .i64 0] [], none, 0⟩,
          ⟨(some 2), .lstore none 2 0 4 (.tmp 7), none, 0⟩,
          ⟨(some 3), .mov (.const (.bool false)), none, 0⟩])
        (.ret))
        (.skip)))
      (.seq (.seq (.region [⟨(some 8), .mov (.tmp 0), none, 0⟩,
        ⟨(some 9), .nilchk (.tmp 8), none, 0⟩,
        ⟨(some 10), .faddr 5 (.tmp 9), none, 0⟩,
        ⟨(some 11), .load none (.tmp 10), none, 0⟩])
      (.block 0 (.seq (.seq (.region [⟨(some 13), .bin .eql (.tmp 11) (.const (.int .i64 7)), none, 0⟩,
        ⟨(some 12), .mov (.tmp 13), none, 0⟩])
      (.cond (.tmp 12)
        (.skip)
        (.seq (.region [⟨(some 14), .bin .eql (.tmp 11) (.const (.int .i64 8)), none, 0⟩,
          ⟨(some 12), .mov (.tmp 14), none, 0⟩])
        (.cond (.tmp 12)
          (.skip)
          (.region [⟨(some 15), .bin .eql (.tmp 11) (.const (.int .i64 9)), none, 0⟩,
            ⟨(some 12), .mov (.tmp 15), none, 0⟩])))))
      (.cond (.tmp 12)
        (.seq (.region [⟨(some 16), .mov (.tmp 0), none, 0⟩,
          ⟨(some 17), .call Id.compact_Machine_object [.tmp 16], none, 0⟩,
          ⟨(some 4), .lbox (.const (.agg #[.int .i64 0, .int .i64 0, .int .i64 0, .bool false])), none, 0⟩,
          ⟨(some 4), .lstore none 4 0 4 (.tmp 17), none, 0⟩])
        (.seq (.region [⟨(some 18), .laddr none 4 0, none, 0⟩,
          ⟨(some 19), .lload (some 18) 4 0 none, none, 0⟩,
          ⟨(some 20), .laddr none 4 1, none, 0⟩,
          ⟨(some 21), .lload (some 20) 4 1 none, none, 0⟩,
          ⟨(some 22), .mov (.tmp 0), none, 0⟩,
          ⟨(some 23), .nilchk (.tmp 22), none, 0⟩,
          ⟨(some 24), .faddr 80 (.tmp 23), none, 0⟩,
          ⟨(some 25), .load none (.tmp 24), none, 0⟩,
          ⟨(some 26), .laddr none 4 2, none, 0⟩,
          ⟨(some 27), .lload (some 26) 4 2 none, none, 0⟩,
          ⟨(some 28), .build [.int .i64 0, .int .i64 0, .int .i64 0, .int .i64 0] [(0, 1, .tmp 19), (1, 1, .tmp 21), (2, 1, .tmp 25), (3, 1, .tmp 27)], none, 0⟩,
          ⟨(some 2), .lstore none 2 0 4 (.tmp 28), none, 0⟩,
          ⟨(some 3), .mov (.const (.bool true)), none, 0⟩])
        (.ret)))
        (.skip)))))
      (.seq (.region [⟨(some 29), .build [.int .i64 0, .int .i64 0, .int .i64 0, .int .i64 0] [], none, 0⟩,
        ⟨(some 2), .lstore none 2 0 4 (.tmp 29), none, 0⟩,
        ⟨(some 3), .mov (.const (.bool false)), none, 0⟩])
      (.ret)))) }

def F.sidingsref02_Unpack : IFunc :=
  { lb := [2, 4], scr := true, nargs := 1, res := [.lb 2 (some 6), .tmp 3],
    body := .seq (.region [⟨(some 2), .lbox (.const (.agg #[.int .i64 0, .int .i64 0, .int .i64 0, .int .i64 0, .bool false, .bool false])), none, 0⟩,
        ⟨(some 3), .mov (.const (.int .i64 0)), none, 0⟩])
      (.seq (.seq (.region [⟨(some 5), .mov (.tmp 0), none, 0⟩,
        ⟨(some 6), .bin .lss (.tmp 5) (.const (.int .i64 0)), none, 0⟩,
        ⟨(some 7), .mov (.tmp 6), none, 0⟩,
        ⟨(some 8), .mov (.tmp 0), (some (7, false)), 0⟩,
        ⟨(some 9), .bin .geq (.tmp 8) (.const (.int .i64 1125899906842624)), (some (7, false)), 0⟩,
        ⟨(some 10), .pick (.tmp 7) (.const (.bool true)) (.tmp 9), none, 0⟩])
      (.cond (.tmp 10)
        (.seq (.region [⟨(some 11), .build [.int .i64 0, .int .i64 0, .int .i64 0, .int .i64 0, .bool false, .bool false] [], none, 0⟩,
          ⟨(some 2), .lstore none 2 0 6 (.tmp 11), none, 0⟩,
          ⟨(some 3), .mov (.const (.int .i64 2)), none, 0⟩])
        (.ret))
        (.skip)))
      (.seq (.region [⟨(some 12), .mov (.tmp 0), none, 0⟩,
        ⟨(some 13), .bin .rem (.tmp 12) (.const (.int .i64 1048576)), none, 0⟩,
        ⟨(some 14), .mov (.tmp 0), none, 0⟩,
        ⟨(some 15), .bin .shr (.tmp 14) (.const (.int .u64 20)), none, 0⟩,
        ⟨(some 16), .bin .rem (.tmp 15) (.const (.int .i64 1048576)), none, 0⟩,
        ⟨(some 17), .mov (.tmp 0), none, 0⟩,
        ⟨(some 18), .bin .shr (.tmp 17) (.const (.int .u64 40)), none, 0⟩,
        ⟨(some 19), .bin .rem (.tmp 18) (.const (.int .i64 16)), none, 0⟩,
        ⟨(some 20), .mov (.tmp 0), none, 0⟩,
        ⟨(some 21), .bin .shr (.tmp 20) (.const (.int .u64 44)), none, 0⟩,
        ⟨(some 22), .bin .rem (.tmp 21) (.const (.int .i64 16)), none, 0⟩,
        ⟨(some 23), .mov (.tmp 0), none, 0⟩,
        ⟨(some 24), .bin .shr (.tmp 23) (.const (.int .u64 48)), none, 0⟩,
        ⟨(some 25), .bin .rem (.tmp 24) (.const (.int .i64 2)), none, 0⟩,
        ⟨(some 26), .bin .eql (.tmp 25) (.const (.int .i64 1)), none, 0⟩,
        ⟨(some 27), .mov (.tmp 0), none, 0⟩,
        ⟨(some 28), .bin .shr (.tmp 27) (.const (.int .u64 49)), none, 0⟩,
        ⟨(some 29), .bin .eql (.tmp 28) (.const (.int .i64 1)), none, 0⟩,
        ⟨(some 30), .build [.int .i64 0, .int .i64 0, .int .i64 0, .int .i64 0, .bool false, .bool false] [(0, 1, .tmp 13), (1, 1, .tmp 16), (2, 1, .tmp 19), (3, 1, .tmp 22), (4, 1, .tmp 26), (5, 1, .tmp 29)], none, 0⟩,
        ⟨(some 4), .lbox (.const (.agg #[.int .i64 0, .int .i64 0, .int .i64 0, .int .i64 0, .bool false, .bool false])), none, 0⟩,
        ⟨(some 4), .lstore none 4 0 6 (.tmp 30), none, 0⟩])
      (.seq (.seq (.region [⟨(some 31), .lload none 4 0 (some 6), none, 0⟩,
        ⟨(some 32), .call Id.sidingsref02_May [.tmp 31], none, 0⟩,
        ⟨(some 33), .un .not (.tmp 32), none, 0⟩])
      (.cond (.tmp 33)
        (.seq (.region [⟨(some 34), .build [.int .i64 0, .int .i64 0, .int .i64 0, .int .i64 0, .bool false, .bool false] [], none, 0⟩,
          ⟨(some 2), .lstore none 2 0 6 (.tmp 34), none, 0⟩,
          ⟨(some 3), .mov (.const (.int .i64 2)), none, 0⟩])
        (.ret))
        (.skip)))
      (.seq (.region [⟨(some 35), .lload none 4 0 (some 6), none, 0⟩,
        ⟨(some 2), .lstore none 2 0 6 (.tmp 35), none, 0⟩,
        ⟨(some 3), .mov (.const (.int .i64 0)), none, 0⟩])
      (.ret))))) }

def F.cells_New : IFunc :=
  { lb := [], scr := false, nargs := 2, res := [.tmp 4],
    body := .seq (.region [⟨(some 4), .mov (.const (.pointer none)), none, 0⟩])
      (.seq (.seq (.region [⟨(some 5), .mov (.tmp 0), none, 0⟩,
        ⟨(some 6), .mov (.tmp 1), none, 0⟩,
        ⟨(some 7), .call Id.cells_may [.tmp 5, .tmp 6], none, 0⟩,
        ⟨(some 8), .un .not (.tmp 7), none, 0⟩])
      (.cond (.tmp 8)
        (.seq (.region [⟨(some 4), .mov (.const (.pointer none)), none, 0⟩])
        (.ret))
        (.skip)))
      (.seq (.region [⟨(some 9), .mov (.tmp 0), none, 0⟩,
        ⟨(some 10), .mkslice 1 8 [.int .i64 0] (.tmp 9) (.tmp 9), none, 0⟩,
        ⟨(some 11), .mov (.tmp 1), none, 0⟩,
        ⟨(some 12), .mkslice 1 1 [.int .u8 0] (.tmp 11) (.tmp 11), none, 0⟩,
        ⟨(some 13), .build [.slice none 0 0, .slice none 0 0, .int .i64 0] [(0, 1, .tmp 10), (1, 1, .tmp 12)], none, 0⟩,
        ⟨(some 14), .box (.tmp 13), none, 0⟩,
        ⟨(some 4), .mov (.tmp 14), none, 0⟩])
      (.ret))) }

def F.sidingsref06_Words : IFunc :=
  { lb := [1], scr := true, nargs := 1, res := [.tmp 2],
    body := .seq (.region [⟨(some 1), .lbox (.tmp 0), none, 0⟩,
        ⟨(some 2), .mov (.const (.int .i64 0)), none, 0⟩])
      (.seq (.seq (.region [⟨(some 3), .lload none 1 0 (some 3), none, 0⟩,
        ⟨(some 4), .call Id.sidingsref06_May [.tmp 3], none, 0⟩,
        ⟨(some 5), .un .not (.tmp 4), none, 0⟩])
      (.cond (.tmp 5)
        (.seq (.region [⟨(some 2), .mov (.const (.int .i64 0)), none, 0⟩])
        (.ret))
        (.skip)))
      (.seq (.region [⟨(some 6), .laddr none 1 2, none, 0⟩,
        ⟨(some 7), .lload (some 6) 1 2 none, none, 0⟩,
        ⟨(some 8), .bin .add (.const (.int .i64 4)) (.tmp 7), none, 0⟩,
        ⟨(some 9), .laddr none 1 1, none, 0⟩,
        ⟨(some 10), .lload (some 9) 1 1 none, none, 0⟩,
        ⟨(some 11), .bin .mul (.const (.int .i64 3)) (.tmp 10), none, 0⟩,
        ⟨(some 12), .bin .add (.tmp 8) (.tmp 11), none, 0⟩,
        ⟨(some 2), .mov (.tmp 12), none, 0⟩])
      (.ret))) }

def F.layout_Start : IFunc :=
  { lb := [3, 5], scr := false, nargs := 2, res := [.tmp 4],
    body := .seq (.region [⟨(some 3), .lbox (.tmp 1), none, 0⟩,
        ⟨(some 4), .mov (.const (.int .i64 0)), none, 0⟩])
      (.seq (.region [⟨(some 13), .lload none 3 0 (some 3), none, 0⟩,
        ⟨(some 14), .call Id.layout_Of [.tmp 13], none, 0⟩,
        ⟨(some 12), .mov (.tmp 14), none, 0⟩,
        ⟨(some 15), .extract (.tmp 12) 0, none, 0⟩,
        ⟨(some 16), .extract (.tmp 12) 1, none, 0⟩,
        ⟨(some 5), .lbox (.const (.agg #[.int .i64 0, .int .i64 0])), none, 0⟩,
        ⟨(some 5), .lstore none 5 0 2 (.tmp 15), none, 0⟩,
        ⟨(some 6), .mov (.tmp 16), none, 0⟩])
      (.seq (.seq (.region [⟨(some 17), .mov (.tmp 6), none, 0⟩,
        ⟨(some 18), .bin .neq (.tmp 17) (.const (.int .i64 0)), none, 0⟩,
        ⟨(some 19), .mov (.tmp 18), none, 0⟩,
        ⟨(some 20), .mov (.tmp 0), (some (19, false)), 0⟩,
        ⟨(some 21), .eqv false (.nil 4) (.tmp 20) (.const (.nilIface)), (some (19, false)), 0⟩,
        ⟨(some 22), .pick (.tmp 19) (.const (.bool true)) (.tmp 21), none, 0⟩,
        ⟨(some 23), .mov (.tmp 22), none, 0⟩,
        ⟨(some 24), .mov (.tmp 0), (some (23, false)), 0⟩,
        ⟨(some 25), .invoke [(25, Id.cells_Plain_Words), (67, Id.layout_Layout_Words)] (.tmp 24) [], (some (23, false)), 0⟩,
        ⟨(some 26), .lload none 5 0 (some 2), (some (23, false)), 0⟩,
        ⟨(some 27), .call Id.layout_Layout_Words [.tmp 26], (some (23, false)), 0⟩,
        ⟨(some 28), .bin .lss (.tmp 25) (.tmp 27), (some (23, false)), 0⟩,
        ⟨(some 29), .pick (.tmp 23) (.const (.bool true)) (.tmp 28), none, 0⟩,
        ⟨(some 30), .mov (.tmp 29), none, 0⟩,
        ⟨(some 31), .mov (.tmp 0), (some (30, false)), 0⟩,
        ⟨(some 32), .invoke [(25, Id.cells_Plain_Bytes)] (.tmp 31) [], (some (30, false)), 0⟩,
        ⟨(some 33), .laddr none 3 0, (some (30, false)), 0⟩,
        ⟨(some 34), .lload (some 33) 3 0 none, (some (30, false)), 0⟩,
        ⟨(some 35), .bin .lss (.tmp 32) (.tmp 34), (some (30, false)), 0⟩,
        ⟨(some 36), .pick (.tmp 30) (.const (.bool true)) (.tmp 35), none, 0⟩])
      (.cond (.tmp 36)
        (.seq (.region [⟨(some 4), .mov (.const (.int .i64 1)), none, 0⟩])
        (.ret))
        (.skip)))
      (.seq (.seq (.region [⟨(some 37), .lload none 5 0 (some 2), none, 0⟩,
        ⟨(some 38), .call Id.layout_Layout_Words [.tmp 37], none, 0⟩,
        ⟨(some 39), .mov (.const (.int .i64 0)), none, 0⟩])
      (.block 0 (.loop [0, 5, 38, 39]
        (.seq (.region [⟨(some 40), .bin .lss (.tmp 39) (.tmp 38), none, 0⟩])
        (.seq (.cond (.tmp 40)
          (.skip)
          (.exit 0))
        (.seq (.block 1 (.seq (.region [⟨(some 41), .mov (.tmp 39), none, 0⟩,
          ⟨(some 7), .mov (.tmp 41), none, 0⟩])
        (.region [⟨(some 42), .mov (.tmp 0), none, 0⟩,
          ⟨(some 43), .mov (.tmp 7), none, 0⟩,
          ⟨(some 44), .invoke [(25, Id.cells_Plain_Store)] (.tmp 42) [.tmp 43, .const (.int .i64 0)], none, 0⟩])))
        (.region [⟨(some 45), .bin .add (.tmp 39) (.const (.int .i64 1)), none, 0⟩,
          ⟨(some 39), .mov (.tmp 45), none, 0⟩])))))))
      (.seq (.region [⟨(some 8), .mov (.const (.int .i64 0)), none, 0⟩])
      (.seq (.seq (.region [⟨(some 46), .laddr none 5 1, none, 0⟩,
        ⟨(some 47), .lload (some 46) 5 1 none, none, 0⟩,
        ⟨(some 48), .bin .sub (.tmp 47) (.const (.int .i64 1)), none, 0⟩,
        ⟨(some 9), .mov (.tmp 48), none, 0⟩])
      (.block 2 (.loop [0, 5, 8, 9]
        (.seq (.seq (.region [⟨(some 49), .mov (.tmp 9), none, 0⟩,
          ⟨(some 50), .bin .geq (.tmp 49) (.const (.int .i64 0)), none, 0⟩])
        (.cond (.tmp 50)
          (.skip)
          (.exit 2)))
        (.seq (.block 3 (.seq (.region [⟨(some 54), .lload none 5 0 (some 2), none, 0⟩,
          ⟨(some 55), .mov (.tmp 9), none, 0⟩,
          ⟨(some 56), .call Id.layout_Layout_Link [.tmp 54, .tmp 55], none, 0⟩,
          ⟨(some 53), .mov (.tmp 0), none, 0⟩,
          ⟨(some 57), .mov (.tmp 8), none, 0⟩,
          ⟨(some 58), .mkfn (.method "Store") [.tmp 53] [], none, 0⟩,
          ⟨(some 59), .nilchkm "Store" [(25, Id.cells_Plain_Store)] (.tmp 58), none, 0⟩,
          ⟨(some 60), .mov (.tmp 53), none, 0⟩,
          ⟨(some 61), .invoke [(25, Id.cells_Plain_Store)] (.tmp 60) [.tmp 56, .tmp 57], none, 0⟩])
        (.region [⟨(some 62), .mov (.tmp 9), none, 0⟩,
          ⟨(some 63), .bin .add (.tmp 62) (.const (.int .i64 1)), none, 0⟩,
          ⟨(some 8), .mov (.tmp 63), none, 0⟩])))
        (.region [⟨(some 51), .mov (.tmp 9), none, 0⟩,
          ⟨(some 52), .bin .sub (.tmp 51) (.const (.int .i64 1)), none, 0⟩,
          ⟨(some 9), .mov (.tmp 52), none, 0⟩]))))))
      (.seq (.region [⟨(some 65), .mov (.tmp 8), none, 0⟩,
        ⟨(some 66), .call Id.head_Pack [.tmp 65, .const (.int .i64 0)], none, 0⟩,
        ⟨(some 64), .mov (.tmp 66), none, 0⟩,
        ⟨(some 67), .extract (.tmp 64) 0, none, 0⟩,
        ⟨(some 68), .extract (.tmp 64) 1, none, 0⟩,
        ⟨(some 10), .mov (.tmp 67), none, 0⟩,
        ⟨(some 11), .mov (.tmp 68), none, 0⟩])
      (.seq (.region [⟨(some 70), .lload none 5 0 (some 2), none, 0⟩,
        ⟨(some 71), .call Id.layout_Layout_Stack [.tmp 70], none, 0⟩,
        ⟨(some 69), .mov (.tmp 0), none, 0⟩,
        ⟨(some 72), .mov (.tmp 10), none, 0⟩,
        ⟨(some 73), .mkfn (.method "Store") [.tmp 69] [], none, 0⟩,
        ⟨(some 74), .nilchkm "Store" [(25, Id.cells_Plain_Store)] (.tmp 73), none, 0⟩,
        ⟨(some 75), .mov (.tmp 69), none, 0⟩,
        ⟨(some 76), .invoke [(25, Id.cells_Plain_Store)] (.tmp 75) [.tmp 71, .tmp 72], none, 0⟩])
      (.seq (.region [⟨(some 4), .mov (.const (.int .i64 0)), none, 0⟩])
      (.ret))))))))) }

def F.sidingsref02_Pack : IFunc :=
  { lb := [1], scr := true, nargs := 1, res := [.tmp 2, .tmp 3],
    body := .seq (.region [⟨(some 1), .lbox (.tmp 0), none, 0⟩,
        ⟨(some 2), .mov (.const (.int .i64 0)), none, 0⟩,
        ⟨(some 3), .mov (.const (.int .i64 0)), none, 0⟩])
      (.seq (.seq (.region [⟨(some 4), .lload none 1 0 (some 6), none, 0⟩,
        ⟨(some 5), .call Id.sidingsref02_May [.tmp 4], none, 0⟩,
        ⟨(some 6), .un .not (.tmp 5), none, 0⟩])
      (.cond (.tmp 6)
        (.seq (.region [⟨(some 2), .mov (.const (.int .i64 0)), none, 0⟩,
          ⟨(some 3), .mov (.const (.int .i64 1)), none, 0⟩])
        (.ret))
        (.skip)))
      (.seq (.region [⟨(some 21), .laddr none 1 4, none, 0⟩,
        ⟨(some 22), .lload (some 21) 1 4 none, none, 0⟩,
        ⟨(some 23), .call Id.sidingsref02_bit [.tmp 22], none, 0⟩,
        ⟨(some 26), .laddr none 1 5, none, 0⟩,
        ⟨(some 27), .lload (some 26) 1 5 none, none, 0⟩,
        ⟨(some 28), .call Id.sidingsref02_bit [.tmp 27], none, 0⟩,
        ⟨(some 7), .laddr none 1 0, none, 0⟩,
        ⟨(some 8), .lload (some 7) 1 0 none, none, 0⟩,
        ⟨(some 9), .laddr none 1 1, none, 0⟩,
        ⟨(some 10), .lload (some 9) 1 1 none, none, 0⟩,
        ⟨(some 11), .bin .shl (.tmp 10) (.const (.int .u64 20)), none, 0⟩,
        ⟨(some 12), .bin .add (.tmp 8) (.tmp 11), none, 0⟩,
        ⟨(some 13), .laddr none 1 2, none, 0⟩,
        ⟨(some 14), .lload (some 13) 1 2 none, none, 0⟩,
        ⟨(some 15), .bin .shl (.tmp 14) (.const (.int .u64 40)), none, 0⟩,
        ⟨(some 16), .bin .add (.tmp 12) (.tmp 15), none, 0⟩,
        ⟨(some 17), .laddr none 1 3, none, 0⟩,
        ⟨(some 18), .lload (some 17) 1 3 none, none, 0⟩,
        ⟨(some 19), .bin .shl (.tmp 18) (.const (.int .u64 44)), none, 0⟩,
        ⟨(some 20), .bin .add (.tmp 16) (.tmp 19), none, 0⟩,
        ⟨(some 24), .bin .shl (.tmp 23) (.const (.int .u64 48)), none, 0⟩,
        ⟨(some 25), .bin .add (.tmp 20) (.tmp 24), none, 0⟩,
        ⟨(some 29), .bin .shl (.tmp 28) (.const (.int .u64 49)), none, 0⟩,
        ⟨(some 30), .bin .add (.tmp 25) (.tmp 29), none, 0⟩,
        ⟨(some 2), .mov (.tmp 30), none, 0⟩,
        ⟨(some 3), .mov (.const (.int .i64 0)), none, 0⟩])
      (.ret))) }

def F.cells_Plain_SetByte : IFunc :=
  { lb := [], scr := false, nargs := 3, res := [],
    body := .seq (.region [⟨(some 6), .mov (.tmp 0), none, 0⟩,
        ⟨(some 7), .mov (.tmp 1), none, 0⟩,
        ⟨(some 8), .call Id.cells_Plain_byte [.tmp 6, .tmp 7], none, 0⟩])
      (.cond (.tmp 8)
        (.region [⟨(some 9), .mov (.tmp 0), none, 0⟩,
          ⟨(some 10), .nilchk (.tmp 9), none, 0⟩,
          ⟨(some 11), .faddr 1 (.tmp 10), none, 0⟩,
          ⟨(some 12), .load none (.tmp 11), none, 0⟩,
          ⟨(some 13), .mov (.tmp 1), none, 0⟩,
          ⟨(some 14), .mov (.tmp 2), none, 0⟩,
          ⟨(some 15), .conv (.int .u8) (.tmp 14), none, 0⟩,
          ⟨(some 16), .iaddr none 1 (.tmp 12) (.tmp 13), none, 0⟩,
          ⟨none, .store 1 (.tmp 16) (.tmp 15), none, 0⟩])
        (.skip)) }

def F.sidingsref03_Round : IFunc :=
  { lb := [], scr := true, nargs := 1, res := [.tmp 2, .tmp 3],
    body := .seq (.region [⟨(some 2), .mov (.const (.int .i64 0)), none, 0⟩,
        ⟨(some 3), .mov (.const (.int .i64 0)), none, 0⟩])
      (.seq (.seq (.region [⟨(some 4), .mov (.tmp 0), none, 0⟩,
        ⟨(some 5), .bin .lss (.tmp 4) (.const (.int .i64 1)), none, 0⟩,
        ⟨(some 6), .mov (.tmp 5), none, 0⟩,
        ⟨(some 7), .mov (.tmp 0), (some (6, false)), 0⟩,
        ⟨(some 8), .bin .gtr (.tmp 7) (.const (.int .i64 256)), (some (6, false)), 0⟩,
        ⟨(some 9), .pick (.tmp 6) (.const (.bool true)) (.tmp 8), none, 0⟩])
      (.cond (.tmp 9)
        (.seq (.region [⟨(some 2), .mov (.const (.int .i64 0)), none, 0⟩,
          ⟨(some 3), .mov (.const (.int .i64 9)), none, 0⟩])
        (.ret))
        (.skip)))
      (.seq (.block 0 (.loop [0]
        (.seq (.seq (.region [⟨(some 10), .mov (.tmp 0), none, 0⟩,
          ⟨(some 11), .bin .rem (.tmp 10) (.const (.int .i64 8)), none, 0⟩,
          ⟨(some 12), .bin .neq (.tmp 11) (.const (.int .i64 0)), none, 0⟩])
        (.cond (.tmp 12)
          (.skip)
          (.exit 0)))
        (.block 1 (.region [⟨(some 13), .mov (.tmp 0), none, 0⟩,
          ⟨(some 14), .bin .add (.tmp 13) (.const (.int .i64 1)), none, 0⟩,
          ⟨(some 0), .mov (.tmp 14), none, 0⟩])))))
      (.seq (.region [⟨(some 15), .mov (.tmp 0), none, 0⟩,
        ⟨(some 2), .mov (.tmp 15), none, 0⟩,
        ⟨(some 3), .mov (.const (.int .i64 0)), none, 0⟩])
      (.ret)))) }

def F.layout_Of : IFunc :=
  { lb := [1, 2], scr := true, nargs := 1, res := [.lb 2 (some 2), .tmp 3],
    body := .seq (.region [⟨(some 1), .lbox (.tmp 0), none, 0⟩,
        ⟨(some 2), .lbox (.const (.agg #[.int .i64 0, .int .i64 0])), none, 0⟩,
        ⟨(some 3), .mov (.const (.int .i64 0)), none, 0⟩])
      (.seq (.seq (.region [⟨(some 4), .laddr none 1 0, none, 0⟩,
        ⟨(some 5), .lload (some 4) 1 0 none, none, 0⟩,
        ⟨(some 6), .call Id.layout_in [.tmp 5, .const (.int .i64 8), .const (.int .i64 4096)], none, 0⟩,
        ⟨(some 7), .un .not (.tmp 6), none, 0⟩,
        ⟨(some 8), .mov (.tmp 7), none, 0⟩,
        ⟨(some 9), .laddr none 1 0, (some (8, false)), 0⟩,
        ⟨(some 10), .lload (some 9) 1 0 none, (some (8, false)), 0⟩,
        ⟨(some 11), .bin .rem (.tmp 10) (.const (.int .i64 8)), (some (8, false)), 0⟩,
        ⟨(some 12), .bin .neq (.tmp 11) (.const (.int .i64 0)), (some (8, false)), 0⟩,
        ⟨(some 13), .pick (.tmp 8) (.const (.bool true)) (.tmp 12), none, 0⟩,
        ⟨(some 14), .mov (.tmp 13), none, 0⟩,
        ⟨(some 15), .laddr none 1 1, (some (14, false)), 0⟩,
        ⟨(some 16), .lload (some 15) 1 1 none, (some (14, false)), 0⟩,
        ⟨(some 17), .call Id.layout_in [.tmp 16, .const (.int .i64 1), .const (.int .i64 64)], (some (14, false)), 0⟩,
        ⟨(some 18), .un .not (.tmp 17), (some (14, false)), 0⟩,
        ⟨(some 19), .pick (.tmp 14) (.const (.bool true)) (.tmp 18), none, 0⟩,
        ⟨(some 20), .mov (.tmp 19), none, 0⟩,
        ⟨(some 21), .laddr none 1 2, (some (20, false)), 0⟩,
        ⟨(some 22), .lload (some 21) 1 2 none, (some (20, false)), 0⟩,
        ⟨(some 23), .call Id.layout_in [.tmp 22, .const (.int .i64 1), .const (.int .i64 4)], (some (20, false)), 0⟩,
        ⟨(some 24), .un .not (.tmp 23), (some (20, false)), 0⟩,
        ⟨(some 25), .pick (.tmp 20) (.const (.bool true)) (.tmp 24), none, 0⟩])
      (.cond (.tmp 25)
        (.seq (.region [⟨(some 26), .build [.int .i64 0, .int .i64 0] [], none, 0⟩,
          ⟨(some 2), .lstore none 2 0 2 (.tmp 26), none, 0⟩,
          ⟨(some 3), .mov (.const (.int .i64 1)), none, 0⟩])
        (.ret))
        (.skip)))
      (.seq (.region [⟨(some 27), .laddr none 1 2, none, 0⟩,
        ⟨(some 28), .lload (some 27) 1 2 none, none, 0⟩,
        ⟨(some 29), .laddr none 1 1, none, 0⟩,
        ⟨(some 30), .lload (some 29) 1 1 none, none, 0⟩,
        ⟨(some 31), .build [.int .i64 0, .int .i64 0] [(0, 1, .tmp 28), (1, 1, .tmp 30)], none, 0⟩,
        ⟨(some 2), .lstore none 2 0 2 (.tmp 31), none, 0⟩,
        ⟨(some 3), .mov (.const (.int .i64 0)), none, 0⟩])
      (.ret))) }

def F.cells_Plain_word : IFunc :=
  { lb := [], scr := false, nargs := 2, res := [.tmp 4],
    body := .seq (.region [⟨(some 4), .mov (.const (.bool false)), none, 0⟩])
      (.seq (.seq (.region [⟨(some 5), .mov (.tmp 0), none, 0⟩,
        ⟨(some 6), .eqv false (.nil 0) (.tmp 5) (.const (.pointer none)), none, 0⟩])
      (.cond (.tmp 6)
        (.seq (.region [⟨(some 4), .mov (.const (.bool false)), none, 0⟩])
        (.ret))
        (.skip)))
      (.seq (.region [⟨(some 7), .mov (.tmp 0), none, 0⟩,
        ⟨(some 8), .nilchk (.tmp 7), none, 0⟩,
        ⟨(some 9), .faddr 2 (.tmp 8), none, 0⟩,
        ⟨(some 10), .load none (.tmp 9), none, 0⟩,
        ⟨(some 11), .bin .add (.tmp 10) (.const (.int .i64 1)), none, 0⟩,
        ⟨(some 12), .nilchk (.tmp 7), none, 0⟩,
        ⟨(some 13), .faddr 2 (.tmp 12), none, 0⟩,
        ⟨none, .store 1 (.tmp 13) (.tmp 11), none, 0⟩])
      (.seq (.region [⟨(some 14), .mov (.tmp 1), none, 0⟩,
        ⟨(some 15), .bin .geq (.tmp 14) (.const (.int .i64 0)), none, 0⟩,
        ⟨(some 16), .mov (.tmp 15), none, 0⟩,
        ⟨(some 17), .mov (.tmp 1), (some (16, true)), 0⟩,
        ⟨(some 18), .mov (.tmp 0), (some (16, true)), 0⟩,
        ⟨(some 19), .nilchk (.tmp 18), (some (16, true)), 0⟩,
        ⟨(some 20), .faddr 0 (.tmp 19), (some (16, true)), 0⟩,
        ⟨(some 21), .load none (.tmp 20), (some (16, true)), 0⟩,
        ⟨(some 22), .len false (.tmp 21), (some (16, true)), 0⟩,
        ⟨(some 23), .bin .lss (.tmp 17) (.tmp 22), (some (16, true)), 0⟩,
        ⟨(some 24), .pick (.tmp 16) (.tmp 23) (.const (.bool false)), none, 0⟩,
        ⟨(some 4), .mov (.tmp 24), none, 0⟩])
      (.ret)))) }

def F.cells_Plain_byte : IFunc :=
  { lb := [], scr := false, nargs := 2, res := [.tmp 4],
    body := .seq (.region [⟨(some 4), .mov (.const (.bool false)), none, 0⟩])
      (.seq (.seq (.region [⟨(some 5), .mov (.tmp 0), none, 0⟩,
        ⟨(some 6), .eqv false (.nil 0) (.tmp 5) (.const (.pointer none)), none, 0⟩])
      (.cond (.tmp 6)
        (.seq (.region [⟨(some 4), .mov (.const (.bool false)), none, 0⟩])
        (.ret))
        (.skip)))
      (.seq (.region [⟨(some 7), .mov (.tmp 0), none, 0⟩,
        ⟨(some 8), .nilchk (.tmp 7), none, 0⟩,
        ⟨(some 9), .faddr 2 (.tmp 8), none, 0⟩,
        ⟨(some 10), .load none (.tmp 9), none, 0⟩,
        ⟨(some 11), .bin .add (.tmp 10) (.const (.int .i64 1)), none, 0⟩,
        ⟨(some 12), .nilchk (.tmp 7), none, 0⟩,
        ⟨(some 13), .faddr 2 (.tmp 12), none, 0⟩,
        ⟨none, .store 1 (.tmp 13) (.tmp 11), none, 0⟩])
      (.seq (.region [⟨(some 14), .mov (.tmp 1), none, 0⟩,
        ⟨(some 15), .bin .geq (.tmp 14) (.const (.int .i64 0)), none, 0⟩,
        ⟨(some 16), .mov (.tmp 15), none, 0⟩,
        ⟨(some 17), .mov (.tmp 1), (some (16, true)), 0⟩,
        ⟨(some 18), .mov (.tmp 0), (some (16, true)), 0⟩,
        ⟨(some 19), .nilchk (.tmp 18), (some (16, true)), 0⟩,
        ⟨(some 20), .faddr 1 (.tmp 19), (some (16, true)), 0⟩,
        ⟨(some 21), .load none (.tmp 20), (some (16, true)), 0⟩,
        ⟨(some 22), .len false (.tmp 21), (some (16, true)), 0⟩,
        ⟨(some 23), .bin .lss (.tmp 17) (.tmp 22), (some (16, true)), 0⟩,
        ⟨(some 24), .pick (.tmp 16) (.tmp 23) (.const (.bool false)), none, 0⟩,
        ⟨(some 4), .mov (.tmp 24), none, 0⟩])
      (.ret)))) }

def F.layout_Layout_Frontier : IFunc :=
  { lb := [1], scr := true, nargs := 1, res := [.tmp 2],
    body := .seq (.region [⟨(some 1), .lbox (.tmp 0), none, 0⟩,
        ⟨(some 2), .mov (.const (.int .i64 0)), none, 0⟩])
      (.seq (.region [⟨(some 3), .lload none 1 0 (some 2), none, 0⟩,
        ⟨(some 4), .call Id.layout_Layout_once [.tmp 3, .const (.int .i64 0)], none, 0⟩,
        ⟨(some 2), .mov (.tmp 4), none, 0⟩])
      (.ret)) }

def F.compact_Machine_on : IFunc :=
  { lb := [4], scr := false, nargs := 2, res := [.lb 4 (some 2), .tmp 5],
    body := .seq (.region [⟨(some 4), .lbox (.const (.agg #[.int .i64 0, .int .i64 0])), none, 0⟩,
        ⟨(some 5), .mov (.const (.bool false)), none, 0⟩])
      (.seq (.region [⟨(some 6), .mov (.tmp 0), none, 0⟩,
        ⟨(some 7), .mov (.tmp 1), none, 0⟩,
        ⟨(some 8), .nilchk (.tmp 6), none, 0⟩,
        ⟨(some 9), .faddr 5 (.tmp 8), none, 0⟩,
        ⟨none, .store 1 (.tmp 9) (.tmp 7), none, 0⟩])
      (.seq (.region [⟨(some 10), .build [.int .i64 0, .int .i64 0] [], none, 0⟩,
        ⟨(some 4), .lstore none 4 0 2 (.tmp 10), none, 0⟩,
        ⟨(some 5), .mov (.const (.bool false)), none, 0⟩])
      (.ret))) }

def F.layout_Layout_Pending : IFunc :=
  { lb := [1], scr := true, nargs := 1, res := [.tmp 2],
    body := .seq (.region [⟨(some 1), .lbox (.tmp 0), none, 0⟩,
        ⟨(some 2), .mov (.const (.int .i64 0)), none, 0⟩])
      (.seq (.region [⟨(some 3), .lload none 1 0 (some 2), none, 0⟩,
        ⟨(some 4), .call Id.layout_Layout_once [.tmp 3, .const (.int .i64 2)], none, 0⟩,
        ⟨(some 2), .mov (.tmp 4), none, 0⟩])
      (.ret)) }

def F.compact_Machine_end : IFunc :=
  { lb := [2], scr := false, nargs := 1, res := [.lb 2 (some 2), .tmp 3],
    body := .seq (.region [⟨(some 2), .lbox (.const (.agg #[.int .i64 0, .int .i64 0])), none, 0⟩,
        ⟨(some 3), .mov (.const (.bool false)), none, 0⟩])
      (.seq (.region [⟨(some 4), .mov (.tmp 0), none, 0⟩,
        ⟨(some 5), .nilchk (.tmp 4), none, 0⟩,
        ⟨(some 6), .faddr 5 (.tmp 5), none, 0⟩,
        ⟨none, .store 1 (.tmp 6) (.const (.int .i64 0)), none, 0⟩])
      (.seq (.region [⟨(some 7), .mov (.tmp 0), none, 0⟩,
        ⟨(some 8), .nilchk (.tmp 7), none, 0⟩,
        ⟨(some 9), .faddr 84 (.tmp 8), none, 0⟩,
        ⟨(some 10), .load none (.tmp 9), none, 0⟩,
        ⟨(some 11), .build [.int .i64 0, .int .i64 0] [(1, 1, .tmp 10)], none, 0⟩,
        ⟨(some 2), .lstore none 2 0 2 (.tmp 11), none, 0⟩,
        ⟨(some 3), .mov (.const (.bool true)), none, 0⟩])
      (.ret))) }

def F.compact_Machine_scan : IFunc :=
  { lb := [4, 6], scr := false, nargs := 2, res := [.lb 4 (some 2), .tmp 5],
    body := .seq (.region [⟨(some 4), .lbox (.const (.agg #[.int .i64 0, .int .i64 0])), none, 0⟩,
        ⟨(some 5), .mov (.const (.bool false)), none, 0⟩])
      (.seq (.region [⟨(some 10), .mov (.tmp 0), none, 0⟩,
        ⟨(some 11), .nilchk (.tmp 10), none, 0⟩,
        ⟨(some 12), .faddr 0 (.tmp 11), none, 0⟩,
        ⟨(some 13), .load (some 2) (.tmp 12), none, 0⟩,
        ⟨(some 14), .mov (.tmp 0), none, 0⟩,
        ⟨(some 15), .nilchk (.tmp 14), none, 0⟩,
        ⟨(some 16), .faddr 7 (.tmp 15), none, 0⟩,
        ⟨(some 17), .load none (.tmp 16), none, 0⟩,
        ⟨(some 18), .call Id.layout_Layout_Entry [.tmp 13, .tmp 17], none, 0⟩,
        ⟨(some 9), .mov (.tmp 1), none, 0⟩,
        ⟨(some 19), .mkfn (.method "Load") [.tmp 9] [], none, 0⟩,
        ⟨(some 20), .nilchkm "Load" [(25, Id.cells_Plain_Load)] (.tmp 19), none, 0⟩,
        ⟨(some 21), .mov (.tmp 9), none, 0⟩,
        ⟨(some 22), .invoke [(25, Id.cells_Plain_Load)] (.tmp 21) [.tmp 18], none, 0⟩,
        ⟨(some 23), .call Id.entry_Unpack [.tmp 22], none, 0⟩,
        ⟨(some 8), .mov (.tmp 23), none, 0⟩,
        ⟨(some 24), .extract (.tmp 8) 0, none, 0⟩,
        ⟨(some 25), .extract (.tmp 8) 1, none, 0⟩,
        ⟨(some 6), .lbox (.const (.agg #[.int .i64 0, .int .i64 0, .int .i64 0, .int .i64 0, .bool false, .bool false])), none, 0⟩,
        ⟨(some 6), .lstore none 6 0 6 (.tmp 24), none, 0⟩,
        ⟨(some 7), .mov (.tmp 25), none, 0⟩])
      (.seq (.seq (.region [⟨(some 26), .mov (.tmp 0), none, 0⟩,
        ⟨(some 27), .lload none 6 0 (some 6), none, 0⟩,
        ⟨(some 28), .nilchk (.tmp 26), none, 0⟩,
        ⟨(some 29), .faddr 8 (.tmp 28), none, 0⟩,
        ⟨none, .store 6 (.tmp 29) (.tmp 27), none, 0⟩])
      (.seq (.region [⟨(some 30), .mov (.tmp 7), none, 0⟩,
        ⟨(some 31), .bin .eql (.tmp 30) (.const (.int .i64 0)), none, 0⟩,
        ⟨(some 32), .mov (.tmp 31), none, 0⟩,
        ⟨(some 33), .laddr none 6 5, (some (32, true)), 0⟩,
        ⟨(some 34), .lload (some 33) 6 5 none, (some (32, true)), 0⟩,
        ⟨(some 35), .pick (.tmp 32) (.tmp 34) (.const (.bool false)), none, 0⟩,
        ⟨(some 36), .mov (.tmp 35), none, 0⟩,
        ⟨(some 37), .laddr none 6 0, (some (36, true)), 0⟩,
        ⟨(some 38), .lload (some 37) 6 0 none, (some (36, true)), 0⟩,
        ⟨(some 39), .mov (.tmp 0), (some (36, true)), 0⟩,
        ⟨(some 40), .nilchk (.tmp 39), (some (36, true)), 0⟩,
        ⟨(some 41), .faddr 6 (.tmp 40), (some (36, true)), 0⟩,
        ⟨(some 42), .load none (.tmp 41), (some (36, true)), 0⟩,
        ⟨(some 43), .bin .lss (.tmp 38) (.tmp 42), (some (36, true)), 0⟩,
        ⟨(some 44), .pick (.tmp 36) (.tmp 43) (.const (.bool false)), none, 0⟩])
      (.cond (.tmp 44)
        (.seq (.region [⟨(some 45), .mov (.tmp 0), none, 0⟩,
          ⟨(some 46), .call Id.compact_Machine_on [.tmp 45, .const (.int .i64 4)], none, 0⟩,
          ⟨(some 47), .extract (.tmp 46) 0, none, 0⟩,
          ⟨(some 48), .extract (.tmp 46) 1, none, 0⟩,
          ⟨(some 4), .lstore none 4 0 2 (.tmp 47), none, 0⟩,
          ⟨(some 5), .mov (.tmp 48), none, 0⟩])
        (.ret))
        (.skip))))
      (.seq (.region [⟨(some 49), .mov (.tmp 0), none, 0⟩,
        ⟨(some 50), .call Id.compact_Machine_scanned [.tmp 49], none, 0⟩,
        ⟨(some 51), .extract (.tmp 50) 0, none, 0⟩,
        ⟨(some 52), .extract (.tmp 50) 1, none, 0⟩,
        ⟨(some 4), .lstore none 4 0 2 (.tmp 51), none, 0⟩,
        ⟨(some 5), .mov (.tmp 52), none, 0⟩])
      (.ret)))) }

def F.compact_Machine_measure : IFunc :=
  { lb := [4], scr := false, nargs := 2, res := [.lb 4 (some 2), .tmp 5],
    body := .seq (.region [⟨(some 4), .lbox (.const (.agg #[.int .i64 0, .int .i64 0])), none, 0⟩,
        ⟨(some 5), .mov (.const (.bool false)), none, 0⟩])
      (.seq (.seq (.region [⟨(some 10), .mov (.tmp 0), none, 0⟩,
        ⟨(some 11), .nilchk (.tmp 10), none, 0⟩,
        ⟨(some 12), .faddr 0 (.tmp 11), none, 0⟩,
        ⟨(some 13), .load (some 2) (.tmp 12), none, 0⟩,
        ⟨(some 14), .mov (.tmp 0), none, 0⟩,
        ⟨(some 15), .nilchk (.tmp 14), none, 0⟩,
        ⟨(some 16), .faddr 7 (.tmp 15), none, 0⟩,
        ⟨(some 17), .load none (.tmp 16), none, 0⟩,
        ⟨(some 18), .call Id.layout_Layout_Size [.tmp 13, .tmp 17], none, 0⟩,
        ⟨(some 9), .mov (.tmp 1), none, 0⟩,
        ⟨(some 19), .mkfn (.method "Load") [.tmp 9] [], none, 0⟩,
        ⟨(some 20), .nilchkm "Load" [(25, Id.cells_Plain_Load)] (.tmp 19), none, 0⟩,
        ⟨(some 21), .mov (.tmp 9), none, 0⟩,
        ⟨(some 22), .invoke [(25, Id.cells_Plain_Load)] (.tmp 21) [.tmp 18], none, 0⟩,
        ⟨(some 23), .call Id.handle_Round [.tmp 22], none, 0⟩,
        ⟨(some 8), .mov (.tmp 23), none, 0⟩,
        ⟨(some 24), .extract (.tmp 8) 0, none, 0⟩,
        ⟨(some 25), .extract (.tmp 8) 1, none, 0⟩,
        ⟨(some 6), .mov (.tmp 24), none, 0⟩,
        ⟨(some 7), .mov (.tmp 25), none, 0⟩])
      (.seq (.region [⟨(some 26), .mov (.tmp 7), none, 0⟩,
        ⟨(some 27), .bin .eql (.tmp 26) (.const (.int .i64 0)), none, 0⟩])
      (.cond (.tmp 27)
        (.seq (.region [⟨(some 29), .mov (.tmp 0), none, 0⟩,
          ⟨(some 30), .nilchk (.tmp 29), none, 0⟩,
          ⟨(some 31), .faddr 14 (.tmp 30), none, 0⟩,
          ⟨(some 32), .load none (.tmp 31), none, 0⟩,
          ⟨(some 33), .mov (.tmp 0), none, 0⟩,
          ⟨(some 34), .nilchk (.tmp 33), none, 0⟩,
          ⟨(some 35), .faddr 7 (.tmp 34), none, 0⟩,
          ⟨(some 36), .load none (.tmp 35), none, 0⟩,
          ⟨(some 37), .mov (.tmp 0), none, 0⟩,
          ⟨(some 38), .nilchk (.tmp 37), none, 0⟩,
          ⟨(some 39), .faddr 8 (.tmp 38), none, 0⟩,
          ⟨(some 40), .faddr 0 (.tmp 39), none, 0⟩,
          ⟨(some 41), .load none (.tmp 40), none, 0⟩,
          ⟨(some 42), .mov (.tmp 6), none, 0⟩,
          ⟨(some 43), .build [.int .i64 0, .int .i64 0, .int .i64 0, .bool false] [(0, 1, .tmp 36), (1, 1, .tmp 41), (2, 1, .tmp 42)], none, 0⟩,
          ⟨(some 44), .buildSlice 4 1 [.int .i64 0, .int .i64 0, .int .i64 0, .bool false] [(0, 4, .tmp 43)], none, 0⟩,
          ⟨(some 45), .append 4 32 (.tmp 32) (.tmp 44), none, 0⟩,
          ⟨(some 28), .mov (.tmp 0), none, 0⟩,
          ⟨(some 46), .nilchk (.tmp 28), none, 0⟩,
          ⟨(some 47), .faddr 14 (.tmp 46), none, 0⟩,
          ⟨none, .store 1 (.tmp 47) (.tmp 45), none, 0⟩])
        (.region [⟨(some 48), .mov (.tmp 0), none, 0⟩,
          ⟨(some 49), .mov (.tmp 0), none, 0⟩,
          ⟨(some 50), .nilchk (.tmp 49), none, 0⟩,
          ⟨(some 51), .faddr 7 (.tmp 50), none, 0⟩,
          ⟨(some 52), .load none (.tmp 51), none, 0⟩,
          ⟨(some 53), .mov (.tmp 0), none, 0⟩,
          ⟨(some 54), .nilchk (.tmp 53), none, 0⟩,
          ⟨(some 55), .faddr 8 (.tmp 54), none, 0⟩,
          ⟨(some 56), .faddr 1 (.tmp 55), none, 0⟩,
          ⟨(some 57), .load none (.tmp 56), none, 0⟩,
          ⟨(some 58), .nilchk (.tmp 48), none, 0⟩,
          ⟨(some 59), .faddr 15 (.tmp 58), none, 0⟩,
          ⟨(some 60), .iaddr (some 64) 1 (.tmp 59) (.tmp 52), none, 0⟩,
          ⟨none, .store 1 (.tmp 60) (.tmp 57), none, 0⟩]))
        (.skip))))
      (.seq (.region [⟨(some 61), .mov (.tmp 0), none, 0⟩,
        ⟨(some 62), .call Id.compact_Machine_scanned [.tmp 61], none, 0⟩,
        ⟨(some 63), .extract (.tmp 62) 0, none, 0⟩,
        ⟨(some 64), .extract (.tmp 62) 1, none, 0⟩,
        ⟨(some 4), .lstore none 4 0 2 (.tmp 63), none, 0⟩,
        ⟨(some 5), .mov (.tmp 64), none, 0⟩])
      (.ret))) }

def F.compact_Machine_look : IFunc :=
  { lb := [4, 6, 7], scr := false, nargs := 2, res := [.lb 4 (some 2), .tmp 5],
    body := .seq (.region [⟨(some 4), .lbox (.const (.agg #[.int .i64 0, .int .i64 0])), none, 0⟩,
        ⟨(some 5), .mov (.const (.bool false)), none, 0⟩])
      (.seq (.region [⟨(some 9), .mov (.tmp 0), none, 0⟩,
        ⟨(some 10), .call Id.compact_Machine_object [.tmp 9], none, 0⟩,
        ⟨(some 6), .lbox (.const (.agg #[.int .i64 0, .int .i64 0, .int .i64 0, .bool false])), none, 0⟩,
        ⟨(some 6), .lstore none 6 0 4 (.tmp 10), none, 0⟩])
      (.seq (.region [⟨(some 13), .mov (.tmp 0), none, 0⟩,
        ⟨(some 14), .nilchk (.tmp 13), none, 0⟩,
        ⟨(some 15), .faddr 0 (.tmp 14), none, 0⟩,
        ⟨(some 16), .load (some 2) (.tmp 15), none, 0⟩,
        ⟨(some 17), .laddr none 6 0, none, 0⟩,
        ⟨(some 18), .lload (some 17) 6 0 none, none, 0⟩,
        ⟨(some 19), .call Id.layout_Layout_Entry [.tmp 16, .tmp 18], none, 0⟩,
        ⟨(some 12), .mov (.tmp 1), none, 0⟩,
        ⟨(some 20), .mkfn (.method "Load") [.tmp 12] [], none, 0⟩,
        ⟨(some 21), .nilchkm "Load" [(25, Id.cells_Plain_Load)] (.tmp 20), none, 0⟩,
        ⟨(some 22), .mov (.tmp 12), none, 0⟩,
        ⟨(some 23), .invoke [(25, Id.cells_Plain_Load)] (.tmp 22) [.tmp 19], none, 0⟩,
        ⟨(some 11), .mov (.tmp 0), none, 0⟩,
        ⟨(some 24), .nilchk (.tmp 11), none, 0⟩,
        ⟨(some 25), .faddr 81 (.tmp 24), none, 0⟩,
        ⟨none, .store 1 (.tmp 25) (.tmp 23), none, 0⟩])
      (.seq (.region [⟨(some 27), .mov (.tmp 0), none, 0⟩,
        ⟨(some 28), .nilchk (.tmp 27), none, 0⟩,
        ⟨(some 29), .faddr 81 (.tmp 28), none, 0⟩,
        ⟨(some 30), .load none (.tmp 29), none, 0⟩,
        ⟨(some 31), .call Id.entry_Unpack [.tmp 30], none, 0⟩,
        ⟨(some 26), .mov (.tmp 31), none, 0⟩,
        ⟨(some 32), .extract (.tmp 26) 0, none, 0⟩,
        ⟨(some 33), .extract (.tmp 26) 1, none, 0⟩,
        ⟨(some 7), .lbox (.const (.agg #[.int .i64 0, .int .i64 0, .int .i64 0, .int .i64 0, .bool false, .bool false])), none, 0⟩,
        ⟨(some 7), .lstore none 7 0 6 (.tmp 32), none, 0⟩,
        ⟨(some 8), .mov (.tmp 33), none, 0⟩])
      (.seq (.block 0 (.seq (.region [⟨(some 35), .mov (.tmp 8), none, 0⟩,
        ⟨(some 36), .bin .neq (.tmp 35) (.const (.int .i64 0)), none, 0⟩,
        ⟨(some 37), .mov (.tmp 36), none, 0⟩,
        ⟨(some 38), .laddr none 7 5, (some (37, false)), 0⟩,
        ⟨(some 39), .lload (some 38) 7 5 none, (some (37, false)), 0⟩,
        ⟨(some 40), .un .not (.tmp 39), (some (37, false)), 0⟩,
        ⟨(some 41), .pick (.tmp 37) (.const (.bool true)) (.tmp 40), none, 0⟩,
        ⟨(some 42), .mov (.tmp 41), none, 0⟩,
        ⟨(some 43), .laddr none 7 1, (some (42, false)), 0⟩,
        ⟨(some 44), .lload (some 43) 7 1 none, (some (42, false)), 0⟩,
        ⟨(some 45), .mov (.tmp 0), (some (42, false)), 0⟩,
        ⟨(some 46), .laddr none 6 0, (some (42, false)), 0⟩,
        ⟨(some 47), .lload (some 46) 6 0 none, (some (42, false)), 0⟩,
        ⟨(some 48), .nilchk (.tmp 45), (some (42, false)), 0⟩,
        ⟨(some 49), .faddr 15 (.tmp 48), (some (42, false)), 0⟩,
        ⟨(some 50), .iaddr (some 64) 1 (.tmp 49) (.tmp 47), (some (42, false)), 0⟩,
        ⟨(some 51), .load none (.tmp 50), (some (42, false)), 0⟩,
        ⟨(some 52), .bin .neq (.tmp 44) (.tmp 51), (some (42, false)), 0⟩,
        ⟨(some 53), .pick (.tmp 42) (.const (.bool true)) (.tmp 52), none, 0⟩,
        ⟨(some 54), .mov (.tmp 53), none, 0⟩,
        ⟨(some 55), .laddr none 7 0, (some (54, false)), 0⟩,
        ⟨(some 56), .lload (some 55) 7 0 none, (some (54, false)), 0⟩,
        ⟨(some 57), .laddr none 6 1, (some (54, false)), 0⟩,
        ⟨(some 58), .lload (some 57) 6 1 none, (some (54, false)), 0⟩,
        ⟨(some 59), .bin .neq (.tmp 56) (.tmp 58), (some (54, false)), 0⟩,
        ⟨(some 60), .pick (.tmp 54) (.const (.bool true)) (.tmp 59), none, 0⟩,
        ⟨(some 34), .mov (.tmp 60), none, 0⟩])
      (.cond (.tmp 34)
        (.seq (.region [⟨(some 61), .mov (.tmp 0), none, 0⟩,
          ⟨(some 62), .call Id.compact_Machine_passed [.tmp 61], none, 0⟩,
          ⟨(some 63), .extract (.tmp 62) 0, none, 0⟩,
          ⟨(some 64), .extract (.tmp 62) 1, none, 0⟩,
          ⟨(some 4), .lstore none 4 0 2 (.tmp 63), none, 0⟩,
          ⟨(some 5), .mov (.tmp 64), none, 0⟩])
        (.ret))
        (.seq (.region [⟨(some 66), .laddr none 7 2, none, 0⟩,
          ⟨(some 67), .lload (some 66) 7 2 none, none, 0⟩,
          ⟨(some 68), .laddr none 7 3, none, 0⟩,
          ⟨(some 69), .lload (some 68) 7 3 none, none, 0⟩,
          ⟨(some 70), .bin .add (.tmp 67) (.tmp 69), none, 0⟩,
          ⟨(some 71), .bin .gtr (.tmp 70) (.const (.int .i64 0)), none, 0⟩,
          ⟨(some 72), .mov (.tmp 71), none, 0⟩,
          ⟨(some 73), .laddr none 7 4, (some (72, false)), 0⟩,
          ⟨(some 74), .lload (some 73) 7 4 none, (some (72, false)), 0⟩,
          ⟨(some 75), .pick (.tmp 72) (.const (.bool true)) (.tmp 74), none, 0⟩,
          ⟨(some 76), .mov (.tmp 75), none, 0⟩,
          ⟨(some 77), .laddr none 7 0, (some (76, false)), 0⟩,
          ⟨(some 78), .lload (some 77) 7 0 none, (some (76, false)), 0⟩,
          ⟨(some 79), .mov (.tmp 0), (some (76, false)), 0⟩,
          ⟨(some 80), .nilchk (.tmp 79), (some (76, false)), 0⟩,
          ⟨(some 81), .faddr 80 (.tmp 80), (some (76, false)), 0⟩,
          ⟨(some 82), .load none (.tmp 81), (some (76, false)), 0⟩,
          ⟨(some 83), .bin .leq (.tmp 78) (.tmp 82), (some (76, false)), 0⟩,
          ⟨(some 84), .pick (.tmp 76) (.const (.bool true)) (.tmp 83), none, 0⟩,
          ⟨(some 65), .mov (.tmp 84), none, 0⟩])
        (.cond (.tmp 65)
          (.seq (.region [⟨(some 85), .mov (.tmp 0), none, 0⟩,
            ⟨(some 86), .mov (.tmp 0), none, 0⟩,
            ⟨(some 87), .nilchk (.tmp 86), none, 0⟩,
            ⟨(some 88), .faddr 80 (.tmp 87), none, 0⟩,
            ⟨(some 89), .load none (.tmp 88), none, 0⟩,
            ⟨(some 90), .laddr none 6 1, none, 0⟩,
            ⟨(some 91), .lload (some 90) 6 1 none, none, 0⟩,
            ⟨(some 92), .laddr none 6 2, none, 0⟩,
            ⟨(some 93), .lload (some 92) 6 2 none, none, 0⟩,
            ⟨(some 94), .bin .add (.tmp 91) (.tmp 93), none, 0⟩,
            ⟨(some 95), .max [.tmp 89, .tmp 94], none, 0⟩,
            ⟨(some 96), .nilchk (.tmp 85), none, 0⟩,
            ⟨(some 97), .faddr 80 (.tmp 96), none, 0⟩,
            ⟨none, .store 1 (.tmp 97) (.tmp 95), none, 0⟩])
          (.seq (.region [⟨(some 98), .mov (.tmp 0), none, 0⟩,
            ⟨(some 99), .call Id.compact_Machine_passed [.tmp 98], none, 0⟩,
            ⟨(some 100), .extract (.tmp 99) 0, none, 0⟩,
            ⟨(some 101), .extract (.tmp 99) 1, none, 0⟩,
            ⟨(some 4), .lstore none 4 0 2 (.tmp 100), none, 0⟩,
            ⟨(some 5), .mov (.tmp 101), none, 0⟩])
          (.ret)))
          (.skip))))))
      (.seq (.region [⟨(some 102), .mov (.tmp 0), none, 0⟩,
        ⟨(some 103), .call Id.compact_Machine_on [.tmp 102, .const (.int .i64 6)], none, 0⟩,
        ⟨(some 104), .extract (.tmp 103) 0, none, 0⟩,
        ⟨(some 105), .extract (.tmp 103) 1, none, 0⟩,
        ⟨(some 4), .lstore none 4 0 2 (.tmp 104), none, 0⟩,
        ⟨(some 5), .mov (.tmp 105), none, 0⟩])
      (.ret)))))) }

def F.compact_Machine_lock : IFunc :=
  { lb := [4], scr := false, nargs := 2, res := [.lb 4 (some 2), .tmp 5],
    body := .seq (.region [⟨(some 4), .lbox (.const (.agg #[.int .i64 0, .int .i64 0])), none, 0⟩,
        ⟨(some 5), .mov (.const (.bool false)), none, 0⟩])
      (.seq (.region [⟨(some 9), .mov (.tmp 0), none, 0⟩,
        ⟨(some 10), .nilchk (.tmp 9), none, 0⟩,
        ⟨(some 11), .faddr 81 (.tmp 10), none, 0⟩,
        ⟨(some 12), .load none (.tmp 11), none, 0⟩,
        ⟨(some 13), .call Id.entry_Lock [.tmp 12, .const (.bool true)], none, 0⟩,
        ⟨(some 8), .mov (.tmp 13), none, 0⟩,
        ⟨(some 14), .extract (.tmp 8) 0, none, 0⟩,
        ⟨(some 15), .extract (.tmp 8) 1, none, 0⟩,
        ⟨(some 6), .mov (.tmp 14), none, 0⟩,
        ⟨(some 7), .mov (.tmp 15), none, 0⟩])
      (.seq (.seq (.region [⟨(some 21), .mov (.tmp 0), none, 0⟩,
        ⟨(some 22), .call Id.compact_Machine_object [.tmp 21], none, 0⟩,
        ⟨(some 17), .mov (.tmp 0), none, 0⟩,
        ⟨(some 18), .nilchk (.tmp 17), none, 0⟩,
        ⟨(some 19), .faddr 0 (.tmp 18), none, 0⟩,
        ⟨(some 20), .load (some 2) (.tmp 19), none, 1⟩,
        ⟨(some 23), .field 0 none (.tmp 22), none, 0⟩,
        ⟨(some 24), .call Id.layout_Layout_Entry [.tmp 20, .tmp 23], none, 0⟩,
        ⟨(some 16), .mov (.tmp 1), none, 0⟩,
        ⟨(some 25), .mov (.tmp 0), none, 0⟩,
        ⟨(some 26), .nilchk (.tmp 25), none, 0⟩,
        ⟨(some 27), .faddr 81 (.tmp 26), none, 0⟩,
        ⟨(some 28), .load none (.tmp 27), none, 2⟩,
        ⟨(some 29), .mov (.tmp 6), none, 0⟩,
        ⟨(some 30), .mkfn (.method "Cas") [.tmp 16] [], none, 0⟩,
        ⟨(some 31), .nilchkm "Cas" [(25, Id.cells_Plain_Cas)] (.tmp 30), none, 0⟩,
        ⟨(some 32), .mov (.tmp 16), none, 0⟩,
        ⟨(some 33), .invoke [(25, Id.cells_Plain_Cas)] (.tmp 32) [.tmp 24, .tmp 28, .tmp 29], none, 0⟩,
        ⟨(some 34), .un .not (.tmp 33), none, 0⟩])
      (.cond (.tmp 34)
        (.seq (.region [⟨(some 35), .mov (.tmp 0), none, 0⟩,
          ⟨(some 36), .call Id.compact_Machine_on [.tmp 35, .const (.int .i64 5)], none, 0⟩,
          ⟨(some 37), .extract (.tmp 36) 0, none, 0⟩,
          ⟨(some 38), .extract (.tmp 36) 1, none, 0⟩,
          ⟨(some 4), .lstore none 4 0 2 (.tmp 37), none, 0⟩,
          ⟨(some 5), .mov (.tmp 38), none, 0⟩])
        (.ret))
        (.skip)))
      (.seq (.region [⟨(some 39), .mov (.tmp 0), none, 0⟩,
        ⟨(some 40), .mov (.tmp 0), none, 0⟩,
        ⟨(some 41), .mov (.tmp 6), none, 0⟩,
        ⟨(some 42), .nilchk (.tmp 39), none, 0⟩,
        ⟨(some 43), .faddr 81 (.tmp 42), none, 0⟩,
        ⟨none, .store 1 (.tmp 43) (.tmp 41), none, 0⟩,
        ⟨(some 44), .nilchk (.tmp 40), none, 0⟩,
        ⟨(some 45), .faddr 82 (.tmp 44), none, 0⟩,
        ⟨none, .store 1 (.tmp 45) (.const (.int .i64 0)), none, 0⟩])
      (.seq (.region [⟨(some 46), .mov (.tmp 0), none, 0⟩,
        ⟨(some 47), .call Id.compact_Machine_on [.tmp 46, .const (.int .i64 7)], none, 0⟩,
        ⟨(some 48), .extract (.tmp 47) 0, none, 0⟩,
        ⟨(some 49), .extract (.tmp 47) 1, none, 0⟩,
        ⟨(some 4), .lstore none 4 0 2 (.tmp 48), none, 0⟩,
        ⟨(some 5), .mov (.tmp 49), none, 0⟩])
      (.ret))))) }

def F.compact_Machine_object : IFunc :=
  { lb := [2], scr := false, nargs := 1, res := [.lb 2 (some 4)],
    body := .seq (.region [⟨(some 2), .lbox (.const (.agg #[.int .i64 0, .int .i64 0, .int .i64 0, .bool false])), none, 0⟩])
      (.seq (.region [⟨(some 3), .mov (.tmp 0), none, 0⟩,
        ⟨(some 4), .nilchk (.tmp 3), none, 0⟩,
        ⟨(some 5), .faddr 14 (.tmp 4), none, 0⟩,
        ⟨(some 6), .load none (.tmp 5), none, 0⟩,
        ⟨(some 7), .mov (.tmp 0), none, 0⟩,
        ⟨(some 8), .nilchk (.tmp 7), none, 0⟩,
        ⟨(some 9), .faddr 79 (.tmp 8), none, 0⟩,
        ⟨(some 10), .load none (.tmp 9), none, 0⟩,
        ⟨(some 11), .iaddr none 4 (.tmp 6) (.tmp 10), none, 0⟩,
        ⟨(some 12), .load (some 4) (.tmp 11), none, 0⟩,
        ⟨(some 2), .lstore none 2 0 4 (.tmp 12), none, 0⟩])
      (.ret)) }

def F.compact_Machine_lay : IFunc :=
  { lb := [4], scr := false, nargs := 2, res := [.lb 4 (some 2), .tmp 5],
    body := .seq (.region [⟨(some 4), .lbox (.const (.agg #[.int .i64 0, .int .i64 0])), none, 0⟩,
        ⟨(some 5), .mov (.const (.bool false)), none, 0⟩])
      (.seq (.region [⟨(some 6), .mov (.tmp 1), none, 0⟩,
        ⟨(some 7), .mov (.tmp 0), none, 0⟩,
        ⟨(some 8), .nilchk (.tmp 7), none, 0⟩,
        ⟨(some 9), .faddr 80 (.tmp 8), none, 0⟩,
        ⟨(some 10), .load none (.tmp 9), none, 0⟩,
        ⟨(some 11), .mov (.tmp 0), none, 0⟩,
        ⟨(some 12), .nilchk (.tmp 11), none, 0⟩,
        ⟨(some 13), .faddr 82 (.tmp 12), none, 0⟩,
        ⟨(some 14), .load none (.tmp 13), none, 0⟩,
        ⟨(some 15), .bin .add (.tmp 10) (.tmp 14), none, 0⟩,
        ⟨(some 16), .mov (.tmp 0), none, 0⟩,
        ⟨(some 17), .nilchk (.tmp 16), none, 0⟩,
        ⟨(some 18), .faddr 83 (.tmp 17), none, 0⟩,
        ⟨(some 19), .load none (.tmp 18), none, 0⟩,
        ⟨(some 20), .mkfn (.method "SetByte") [.tmp 6] [], none, 0⟩,
        ⟨(some 21), .nilchkm "SetByte" [(25, Id.cells_Plain_SetByte)] (.tmp 20), none, 0⟩,
        ⟨(some 22), .mov (.tmp 6), none, 0⟩,
        ⟨(some 23), .invoke [(25, Id.cells_Plain_SetByte)] (.tmp 22) [.tmp 15, .tmp 19], none, 0⟩])
      (.seq (.seq (.region [⟨(some 24), .mov (.tmp 0), none, 0⟩,
        ⟨(some 25), .nilchk (.tmp 24), none, 0⟩,
        ⟨(some 26), .faddr 82 (.tmp 25), none, 0⟩,
        ⟨(some 27), .load none (.tmp 26), none, 0⟩,
        ⟨(some 28), .bin .add (.tmp 27) (.const (.int .i64 1)), none, 0⟩,
        ⟨(some 29), .nilchk (.tmp 24), none, 0⟩,
        ⟨(some 30), .faddr 82 (.tmp 29), none, 0⟩,
        ⟨none, .store 1 (.tmp 30) (.tmp 28), none, 0⟩])
      (.seq (.region [⟨(some 35), .mov (.tmp 0), none, 0⟩,
        ⟨(some 36), .call Id.compact_Machine_object [.tmp 35], none, 0⟩,
        ⟨(some 31), .mov (.tmp 0), none, 0⟩,
        ⟨(some 32), .nilchk (.tmp 31), none, 0⟩,
        ⟨(some 33), .faddr 82 (.tmp 32), none, 0⟩,
        ⟨(some 34), .load none (.tmp 33), none, 1⟩,
        ⟨(some 37), .field 2 none (.tmp 36), none, 0⟩,
        ⟨(some 38), .bin .lss (.tmp 34) (.tmp 37), none, 0⟩])
      (.cond (.tmp 38)
        (.seq (.region [⟨(some 39), .mov (.tmp 0), none, 0⟩,
          ⟨(some 40), .call Id.compact_Machine_on [.tmp 39, .const (.int .i64 7)], none, 0⟩,
          ⟨(some 41), .extract (.tmp 40) 0, none, 0⟩,
          ⟨(some 42), .extract (.tmp 40) 1, none, 0⟩,
          ⟨(some 4), .lstore none 4 0 2 (.tmp 41), none, 0⟩,
          ⟨(some 5), .mov (.tmp 42), none, 0⟩])
        (.ret))
        (.skip))))
      (.seq (.region [⟨(some 43), .mov (.tmp 0), none, 0⟩,
        ⟨(some 44), .call Id.compact_Machine_on [.tmp 43, .const (.int .i64 9)], none, 0⟩,
        ⟨(some 45), .extract (.tmp 44) 0, none, 0⟩,
        ⟨(some 46), .extract (.tmp 44) 1, none, 0⟩,
        ⟨(some 4), .lstore none 4 0 2 (.tmp 45), none, 0⟩,
        ⟨(some 5), .mov (.tmp 46), none, 0⟩])
      (.ret)))) }

def F.compact_Machine_store : IFunc :=
  { lb := [4], scr := false, nargs := 2, res := [.lb 4 (some 2), .tmp 5],
    body := .seq (.region [⟨(some 4), .lbox (.const (.agg #[.int .i64 0, .int .i64 0])), none, 0⟩,
        ⟨(some 5), .mov (.const (.bool false)), none, 0⟩])
      (.seq (.region [⟨(some 9), .mov (.tmp 0), none, 0⟩,
        ⟨(some 10), .nilchk (.tmp 9), none, 0⟩,
        ⟨(some 11), .faddr 81 (.tmp 10), none, 0⟩,
        ⟨(some 12), .load none (.tmp 11), none, 0⟩,
        ⟨(some 13), .mov (.tmp 0), none, 0⟩,
        ⟨(some 14), .nilchk (.tmp 13), none, 0⟩,
        ⟨(some 15), .faddr 80 (.tmp 14), none, 0⟩,
        ⟨(some 16), .load none (.tmp 15), none, 0⟩,
        ⟨(some 17), .call Id.entry_Move [.tmp 12, .tmp 16], none, 0⟩,
        ⟨(some 8), .mov (.tmp 17), none, 0⟩,
        ⟨(some 18), .extract (.tmp 8) 0, none, 0⟩,
        ⟨(some 19), .extract (.tmp 8) 1, none, 0⟩,
        ⟨(some 6), .mov (.tmp 18), none, 0⟩,
        ⟨(some 7), .mov (.tmp 19), none, 0⟩])
      (.seq (.region [⟨(some 25), .mov (.tmp 0), none, 0⟩,
        ⟨(some 26), .call Id.compact_Machine_object [.tmp 25], none, 0⟩,
        ⟨(some 21), .mov (.tmp 0), none, 0⟩,
        ⟨(some 22), .nilchk (.tmp 21), none, 0⟩,
        ⟨(some 23), .faddr 0 (.tmp 22), none, 0⟩,
        ⟨(some 24), .load (some 2) (.tmp 23), none, 1⟩,
        ⟨(some 27), .field 0 none (.tmp 26), none, 0⟩,
        ⟨(some 28), .call Id.layout_Layout_Entry [.tmp 24, .tmp 27], none, 0⟩,
        ⟨(some 20), .mov (.tmp 1), none, 0⟩,
        ⟨(some 29), .mov (.tmp 6), none, 0⟩,
        ⟨(some 30), .mkfn (.method "Store") [.tmp 20] [], none, 0⟩,
        ⟨(some 31), .nilchkm "Store" [(25, Id.cells_Plain_Store)] (.tmp 30), none, 0⟩,
        ⟨(some 32), .mov (.tmp 20), none, 0⟩,
        ⟨(some 33), .invoke [(25, Id.cells_Plain_Store)] (.tmp 32) [.tmp 28, .tmp 29], none, 0⟩])
      (.seq (.region [⟨(some 38), .mov (.tmp 0), none, 0⟩,
        ⟨(some 39), .call Id.compact_Machine_object [.tmp 38], none, 0⟩,
        ⟨(some 34), .mov (.tmp 0), none, 0⟩,
        ⟨(some 35), .nilchk (.tmp 34), none, 0⟩,
        ⟨(some 36), .faddr 80 (.tmp 35), none, 0⟩,
        ⟨(some 37), .load none (.tmp 36), none, 1⟩,
        ⟨(some 40), .field 2 none (.tmp 39), none, 0⟩,
        ⟨(some 41), .bin .add (.tmp 37) (.tmp 40), none, 0⟩,
        ⟨(some 42), .nilchk (.tmp 34), none, 0⟩,
        ⟨(some 43), .faddr 80 (.tmp 42), none, 0⟩,
        ⟨none, .store 1 (.tmp 43) (.tmp 41), none, 0⟩])
      (.seq (.region [⟨(some 44), .mov (.tmp 0), none, 0⟩,
        ⟨(some 45), .nilchk (.tmp 44), none, 0⟩,
        ⟨(some 46), .faddr 84 (.tmp 45), none, 0⟩,
        ⟨(some 47), .load none (.tmp 46), none, 0⟩,
        ⟨(some 48), .bin .add (.tmp 47) (.const (.int .i64 1)), none, 0⟩,
        ⟨(some 49), .nilchk (.tmp 44), none, 0⟩,
        ⟨(some 50), .faddr 84 (.tmp 49), none, 0⟩,
        ⟨none, .store 1 (.tmp 50) (.tmp 48), none, 0⟩])
      (.seq (.region [⟨(some 51), .mov (.tmp 0), none, 0⟩,
        ⟨(some 52), .call Id.compact_Machine_passed [.tmp 51], none, 0⟩,
        ⟨(some 53), .extract (.tmp 52) 0, none, 0⟩,
        ⟨(some 54), .extract (.tmp 52) 1, none, 0⟩,
        ⟨(some 4), .lstore none 4 0 2 (.tmp 53), none, 0⟩,
        ⟨(some 5), .mov (.tmp 54), none, 0⟩])
      (.ret)))))) }

def F.compact_Machine_turn : IFunc :=
  { lb := [4], scr := false, nargs := 2, res := [.lb 4 (some 2), .tmp 5],
    body := .seq (.region [⟨(some 4), .lbox (.const (.agg #[.int .i64 0, .int .i64 0])), none, 0⟩,
        ⟨(some 5), .mov (.const (.bool false)), none, 0⟩])
      (.seq (.region [⟨(some 9), .mov (.tmp 0), none, 0⟩,
        ⟨(some 10), .nilchk (.tmp 9), none, 0⟩,
        ⟨(some 11), .faddr 85 (.tmp 10), none, 0⟩,
        ⟨(some 12), .load none (.tmp 11), none, 0⟩,
        ⟨(some 13), .mov (.tmp 1), none, 0⟩,
        ⟨(some 14), .call Id.epoch_Turn_Step [.tmp 12, .tmp 13], none, 0⟩,
        ⟨(some 8), .mov (.tmp 14), none, 0⟩,
        ⟨(some 15), .extract (.tmp 8) 0, none, 0⟩,
        ⟨(some 16), .extract (.tmp 8) 1, none, 0⟩,
        ⟨(some 6), .mov (.tmp 15), none, 0⟩,
        ⟨(some 7), .mov (.tmp 16), none, 0⟩])
      (.seq (.block 0 (.seq (.region [⟨(some 18), .mov (.tmp 7), none, 0⟩,
        ⟨(some 19), .un .not (.tmp 18), none, 0⟩,
        ⟨(some 17), .mov (.tmp 19), none, 0⟩])
      (.cond (.tmp 17)
        (.seq (.region [⟨(some 20), .mov (.tmp 0), none, 0⟩,
          ⟨(some 21), .call Id.compact_Machine_on [.tmp 20, .const (.int .i64 10)], none, 0⟩,
          ⟨(some 22), .extract (.tmp 21) 0, none, 0⟩,
          ⟨(some 23), .extract (.tmp 21) 1, none, 0⟩,
          ⟨(some 4), .lstore none 4 0 2 (.tmp 22), none, 0⟩,
          ⟨(some 5), .mov (.tmp 23), none, 0⟩])
        (.ret))
        (.seq (.region [⟨(some 25), .mov (.tmp 6), none, 0⟩,
          ⟨(some 26), .un .not (.tmp 25), none, 0⟩,
          ⟨(some 24), .mov (.tmp 26), none, 0⟩])
        (.cond (.tmp 24)
          (.seq (.region [⟨(some 27), .mov (.tmp 0), none, 0⟩,
            ⟨(some 28), .call Id.compact_Machine_end [.tmp 27], none, 0⟩,
            ⟨(some 29), .extract (.tmp 28) 0, none, 0⟩,
            ⟨(some 30), .extract (.tmp 28) 1, none, 0⟩,
            ⟨(some 4), .lstore none 4 0 2 (.tmp 29), none, 0⟩,
            ⟨(some 5), .mov (.tmp 30), none, 0⟩])
          (.ret))
          (.skip))))))
      (.seq (.region [⟨(some 31), .mov (.tmp 0), none, 0⟩,
        ⟨(some 32), .call Id.compact_Machine_on [.tmp 31, .const (.int .i64 11)], none, 0⟩,
        ⟨(some 33), .extract (.tmp 32) 0, none, 0⟩,
        ⟨(some 34), .extract (.tmp 32) 1, none, 0⟩,
        ⟨(some 4), .lstore none 4 0 2 (.tmp 33), none, 0⟩,
        ⟨(some 5), .mov (.tmp 34), none, 0⟩])
      (.ret)))) }

def F.sidingsref02_May : IFunc :=
  { lb := [1], scr := true, nargs := 1, res := [.tmp 2],
    body := .seq (.region [⟨(some 1), .lbox (.tmp 0), none, 0⟩,
        ⟨(some 2), .mov (.const (.bool false)), none, 0⟩])
      (.seq (.seq (.region [⟨(some 3), .laddr none 1 0, none, 0⟩,
        ⟨(some 4), .lload (some 3) 1 0 none, none, 0⟩,
        ⟨(some 5), .bin .lss (.tmp 4) (.const (.int .i64 0)), none, 0⟩,
        ⟨(some 6), .mov (.tmp 5), none, 0⟩,
        ⟨(some 7), .laddr none 1 0, (some (6, false)), 0⟩,
        ⟨(some 8), .lload (some 7) 1 0 none, (some (6, false)), 0⟩,
        ⟨(some 9), .bin .gtr (.tmp 8) (.const (.int .i64 4096)), (some (6, false)), 0⟩,
        ⟨(some 10), .pick (.tmp 6) (.const (.bool true)) (.tmp 9), none, 0⟩,
        ⟨(some 11), .mov (.tmp 10), none, 0⟩,
        ⟨(some 12), .laddr none 1 1, (some (11, false)), 0⟩,
        ⟨(some 13), .lload (some 12) 1 1 none, (some (11, false)), 0⟩,
        ⟨(some 14), .bin .lss (.tmp 13) (.const (.int .i64 0)), (some (11, false)), 0⟩,
        ⟨(some 15), .pick (.tmp 11) (.const (.bool true)) (.tmp 14), none, 0⟩,
        ⟨(some 16), .mov (.tmp 15), none, 0⟩,
        ⟨(some 17), .laddr none 1 1, (some (16, false)), 0⟩,
        ⟨(some 18), .lload (some 17) 1 1 none, (some (16, false)), 0⟩,
        ⟨(some 19), .bin .gtr (.tmp 18) (.const (.int .i64 1000)), (some (16, false)), 0⟩,
        ⟨(some 20), .pick (.tmp 16) (.const (.bool true)) (.tmp 19), none, 0⟩,
        ⟨(some 21), .mov (.tmp 20), none, 0⟩,
        ⟨(some 22), .laddr none 1 2, (some (21, false)), 0⟩,
        ⟨(some 23), .lload (some 22) 1 2 none, (some (21, false)), 0⟩,
        ⟨(some 24), .bin .lss (.tmp 23) (.const (.int .i64 0)), (some (21, false)), 0⟩,
        ⟨(some 25), .pick (.tmp 21) (.const (.bool true)) (.tmp 24), none, 0⟩,
        ⟨(some 26), .mov (.tmp 25), none, 0⟩,
        ⟨(some 27), .laddr none 1 2, (some (26, false)), 0⟩,
        ⟨(some 28), .lload (some 27) 1 2 none, (some (26, false)), 0⟩,
        ⟨(some 29), .bin .gtr (.tmp 28) (.const (.int .i64 7)), (some (26, false)), 0⟩,
        ⟨(some 30), .pick (.tmp 26) (.const (.bool true)) (.tmp 29), none, 0⟩,
        ⟨(some 31), .mov (.tmp 30), none, 0⟩,
        ⟨(some 32), .laddr none 1 3, (some (31, false)), 0⟩,
        ⟨(some 33), .lload (some 32) 1 3 none, (some (31, false)), 0⟩,
        ⟨(some 34), .bin .lss (.tmp 33) (.const (.int .i64 0)), (some (31, false)), 0⟩,
        ⟨(some 35), .pick (.tmp 31) (.const (.bool true)) (.tmp 34), none, 0⟩,
        ⟨(some 36), .mov (.tmp 35), none, 0⟩,
        ⟨(some 37), .laddr none 1 3, (some (36, false)), 0⟩,
        ⟨(some 38), .lload (some 37) 1 3 none, (some (36, false)), 0⟩,
        ⟨(some 39), .bin .gtr (.tmp 38) (.const (.int .i64 15)), (some (36, false)), 0⟩,
        ⟨(some 40), .pick (.tmp 36) (.const (.bool true)) (.tmp 39), none, 0⟩])
      (.cond (.tmp 40)
        (.seq (.region [⟨(some 2), .mov (.const (.bool false)), none, 0⟩])
        (.ret))
        (.skip)))
      (.seq (.seq (.region [⟨(some 41), .laddr none 1 5, none, 0⟩,
        ⟨(some 42), .lload (some 41) 1 5 none, none, 0⟩,
        ⟨(some 43), .un .not (.tmp 42), none, 0⟩,
        ⟨(some 44), .mov (.tmp 43), none, 0⟩,
        ⟨(some 45), .laddr none 1 0, (some (44, true)), 0⟩,
        ⟨(some 46), .lload (some 45) 1 0 none, (some (44, true)), 0⟩,
        ⟨(some 47), .bin .neq (.tmp 46) (.const (.int .i64 0)), (some (44, true)), 0⟩,
        ⟨(some 48), .mov (.tmp 47), (some (44, true)), 0⟩,
        ⟨(some 49), .laddr none 1 2, (some (48, false)), 0⟩,
        ⟨(some 50), .lload (some 49) 1 2 none, (some (48, false)), 0⟩,
        ⟨(some 51), .bin .neq (.tmp 50) (.const (.int .i64 0)), (some (48, false)), 0⟩,
        ⟨(some 52), .pick (.tmp 48) (.const (.bool true)) (.tmp 51), (some (44, true)), 0⟩,
        ⟨(some 53), .mov (.tmp 52), (some (44, true)), 0⟩,
        ⟨(some 54), .laddr none 1 3, (some (53, false)), 0⟩,
        ⟨(some 55), .lload (some 54) 1 3 none, (some (53, false)), 0⟩,
        ⟨(some 56), .bin .neq (.tmp 55) (.const (.int .i64 0)), (some (53, false)), 0⟩,
        ⟨(some 57), .pick (.tmp 53) (.const (.bool true)) (.tmp 56), (some (44, true)), 0⟩,
        ⟨(some 58), .mov (.tmp 57), (some (44, true)), 0⟩,
        ⟨(some 59), .laddr none 1 4, (some (58, false)), 0⟩,
        ⟨(some 60), .lload (some 59) 1 4 none, (some (58, false)), 0⟩,
        ⟨(some 61), .pick (.tmp 58) (.const (.bool true)) (.tmp 60), (some (44, true)), 0⟩,
        ⟨(some 62), .pick (.tmp 44) (.tmp 61) (.const (.bool false)), none, 0⟩])
      (.cond (.tmp 62)
        (.seq (.region [⟨(some 2), .mov (.const (.bool false)), none, 0⟩])
        (.ret))
        (.skip)))
      (.seq (.region [⟨(some 63), .laddr none 1 4, none, 0⟩,
        ⟨(some 64), .lload (some 63) 1 4 none, none, 0⟩,
        ⟨(some 65), .un .not (.tmp 64), none, 0⟩,
        ⟨(some 66), .mov (.tmp 65), none, 0⟩,
        ⟨(some 67), .laddr none 1 2, (some (66, false)), 0⟩,
        ⟨(some 68), .lload (some 67) 1 2 none, (some (66, false)), 0⟩,
        ⟨(some 69), .bin .eql (.tmp 68) (.const (.int .i64 0)), (some (66, false)), 0⟩,
        ⟨(some 70), .mov (.tmp 69), (some (66, false)), 0⟩,
        ⟨(some 71), .laddr none 1 3, (some (70, true)), 0⟩,
        ⟨(some 72), .lload (some 71) 1 3 none, (some (70, true)), 0⟩,
        ⟨(some 73), .bin .eql (.tmp 72) (.const (.int .i64 0)), (some (70, true)), 0⟩,
        ⟨(some 74), .pick (.tmp 70) (.tmp 73) (.const (.bool false)), (some (66, false)), 0⟩,
        ⟨(some 75), .pick (.tmp 66) (.const (.bool true)) (.tmp 74), none, 0⟩,
        ⟨(some 2), .mov (.tmp 75), none, 0⟩])
      (.ret)))) }

def F.cells_may : IFunc :=
  { lb := [], scr := true, nargs := 2, res := [.tmp 4],
    body := .seq (.region [⟨(some 4), .mov (.const (.bool false)), none, 0⟩])
      (.seq (.region [⟨(some 5), .mov (.tmp 0), none, 0⟩,
        ⟨(some 6), .bin .geq (.tmp 5) (.const (.int .i64 1)), none, 0⟩,
        ⟨(some 7), .mov (.tmp 6), none, 0⟩,
        ⟨(some 8), .mov (.tmp 0), (some (7, true)), 0⟩,
        ⟨(some 9), .bin .leq (.tmp 8) (.const (.int .i64 4096)), (some (7, true)), 0⟩,
        ⟨(some 10), .pick (.tmp 7) (.tmp 9) (.const (.bool false)), none, 0⟩,
        ⟨(some 11), .mov (.tmp 10), none, 0⟩,
        ⟨(some 12), .mov (.tmp 1), (some (11, true)), 0⟩,
        ⟨(some 13), .bin .geq (.tmp 12) (.const (.int .i64 0)), (some (11, true)), 0⟩,
        ⟨(some 14), .pick (.tmp 11) (.tmp 13) (.const (.bool false)), none, 0⟩,
        ⟨(some 15), .mov (.tmp 14), none, 0⟩,
        ⟨(some 16), .mov (.tmp 1), (some (15, true)), 0⟩,
        ⟨(some 17), .bin .leq (.tmp 16) (.const (.int .i64 4096)), (some (15, true)), 0⟩,
        ⟨(some 18), .pick (.tmp 15) (.tmp 17) (.const (.bool false)), none, 0⟩,
        ⟨(some 4), .mov (.tmp 18), none, 0⟩])
      (.ret)) }

def F.layout_Layout_Words : IFunc :=
  { lb := [1], scr := true, nargs := 1, res := [.tmp 2],
    body := .seq (.region [⟨(some 1), .lbox (.tmp 0), none, 0⟩,
        ⟨(some 2), .mov (.const (.int .i64 0)), none, 0⟩])
      (.seq (.seq (.region [⟨(some 3), .lload none 1 0 (some 2), none, 0⟩,
        ⟨(some 4), .build [.int .i64 0, .int .i64 0] [], none, 0⟩,
        ⟨(some 5), .eqv false (.cells [(0, 0), (1, 0)]) (.tmp 3) (.tmp 4), none, 0⟩])
      (.cond (.tmp 5)
        (.seq (.region [⟨(some 2), .mov (.const (.int .i64 0)), none, 0⟩])
        (.ret))
        (.skip)))
      (.seq (.region [⟨(some 6), .laddr none 1 0, none, 0⟩,
        ⟨(some 7), .lload (some 6) 1 0 none, none, 0⟩,
        ⟨(some 8), .bin .add (.const (.int .i64 4)) (.tmp 7), none, 0⟩,
        ⟨(some 9), .laddr none 1 1, none, 0⟩,
        ⟨(some 10), .lload (some 9) 1 1 none, none, 0⟩,
        ⟨(some 11), .bin .mul (.const (.int .i64 3)) (.tmp 10), none, 0⟩,
        ⟨(some 12), .bin .add (.tmp 8) (.tmp 11), none, 0⟩,
        ⟨(some 2), .mov (.tmp 12), none, 0⟩])
      (.ret))) }

def F.layout_Layout_Link : IFunc :=
  { lb := [2], scr := true, nargs := 2, res := [.tmp 4],
    body := .seq (.region [⟨(some 2), .lbox (.tmp 0), none, 0⟩,
        ⟨(some 4), .mov (.const (.int .i64 0)), none, 0⟩])
      (.seq (.region [⟨(some 5), .lload none 2 0 (some 2), none, 0⟩,
        ⟨(some 6), .mov (.tmp 1), none, 0⟩,
        ⟨(some 7), .call Id.layout_Layout_of [.tmp 5, .tmp 6, .const (.int .i64 2)], none, 0⟩,
        ⟨(some 4), .mov (.tmp 7), none, 0⟩])
      (.ret)) }

def F.head_Pack : IFunc :=
  { lb := [], scr := true, nargs := 2, res := [.tmp 4, .tmp 5],
    body := .seq (.region [⟨(some 4), .mov (.const (.int .i64 0)), none, 0⟩,
        ⟨(some 5), .mov (.const (.int .i64 0)), none, 0⟩])
      (.seq (.seq (.region [⟨(some 6), .mov (.tmp 0), none, 0⟩,
        ⟨(some 7), .call Id.head_may [.tmp 6], none, 0⟩,
        ⟨(some 8), .un .not (.tmp 7), none, 0⟩,
        ⟨(some 9), .mov (.tmp 8), none, 0⟩,
        ⟨(some 10), .mov (.tmp 1), (some (9, false)), 0⟩,
        ⟨(some 11), .bin .lss (.tmp 10) (.const (.int .i64 0)), (some (9, false)), 0⟩,
        ⟨(some 12), .pick (.tmp 9) (.const (.bool true)) (.tmp 11), none, 0⟩,
        ⟨(some 13), .mov (.tmp 12), none, 0⟩,
        ⟨(some 14), .mov (.tmp 1), (some (13, false)), 0⟩,
        ⟨(some 15), .bin .gtr (.tmp 14) (.const (.int .i64 4294967295)), (some (13, false)), 0⟩,
        ⟨(some 16), .pick (.tmp 13) (.const (.bool true)) (.tmp 15), none, 0⟩])
      (.cond (.tmp 16)
        (.seq (.region [⟨(some 4), .mov (.const (.int .i64 0)), none, 0⟩,
          ⟨(some 5), .mov (.const (.int .i64 1)), none, 0⟩])
        (.ret))
        (.skip)))
      (.seq (.region [⟨(some 17), .mov (.tmp 0), none, 0⟩,
        ⟨(some 18), .mov (.tmp 1), none, 0⟩,
        ⟨(some 19), .call Id.head_of [.tmp 17, .tmp 18], none, 0⟩,
        ⟨(some 20), .call Id.head_front_word [.tmp 19], none, 0⟩,
        ⟨(some 4), .mov (.tmp 20), none, 0⟩,
        ⟨(some 5), .mov (.const (.int .i64 0)), none, 0⟩])
      (.ret))) }

def F.layout_Layout_Stack : IFunc :=
  { lb := [1], scr := true, nargs := 1, res := [.tmp 2],
    body := .seq (.region [⟨(some 1), .lbox (.tmp 0), none, 0⟩,
        ⟨(some 2), .mov (.const (.int .i64 0)), none, 0⟩])
      (.seq (.region [⟨(some 3), .lload none 1 0 (some 2), none, 0⟩,
        ⟨(some 4), .call Id.layout_Layout_once [.tmp 3, .const (.int .i64 1)], none, 0⟩,
        ⟨(some 2), .mov (.tmp 4), none, 0⟩])
      (.ret)) }

def F.sidingsref02_bit : IFunc :=
  { lb := [], scr := true, nargs := 1, res := [.tmp 2],
    body := .seq (.region [⟨(some 2), .mov (.const (.int .i64 0)), none, 0⟩])
      (.seq (.seq (.region [⟨(some 3), .mov (.tmp 0), none, 0⟩])
      (.cond (.tmp 3)
        (.seq (.region [⟨(some 2), .mov (.const (.int .i64 1)), none, 0⟩])
        (.ret))
        (.skip)))
      (.seq (.region [⟨(some 2), .mov (.const (.int .i64 0)), none, 0⟩])
      (.ret))) }

def F.layout_in : IFunc :=
  { lb := [], scr := true, nargs := 3, res := [.tmp 6],
    body := .seq (.region [⟨(some 6), .mov (.const (.bool false)), none, 0⟩])
      (.seq (.region [⟨(some 7), .mov (.tmp 0), none, 0⟩,
        ⟨(some 8), .mov (.tmp 1), none, 0⟩,
        ⟨(some 9), .bin .geq (.tmp 7) (.tmp 8), none, 0⟩,
        ⟨(some 10), .mov (.tmp 9), none, 0⟩,
        ⟨(some 11), .mov (.tmp 0), (some (10, true)), 0⟩,
        ⟨(some 12), .mov (.tmp 2), (some (10, true)), 0⟩,
        ⟨(some 13), .bin .leq (.tmp 11) (.tmp 12), (some (10, true)), 0⟩,
        ⟨(some 14), .pick (.tmp 10) (.tmp 13) (.const (.bool false)), none, 0⟩,
        ⟨(some 6), .mov (.tmp 14), none, 0⟩])
      (.ret)) }

def F.layout_Layout_once : IFunc :=
  { lb := [2], scr := true, nargs := 2, res := [.tmp 4],
    body := .seq (.region [⟨(some 2), .lbox (.tmp 0), none, 0⟩,
        ⟨(some 4), .mov (.const (.int .i64 0)), none, 0⟩])
      (.seq (.seq (.region [⟨(some 5), .lload none 2 0 (some 2), none, 0⟩,
        ⟨(some 6), .build [.int .i64 0, .int .i64 0] [], none, 0⟩,
        ⟨(some 7), .eqv false (.cells [(0, 0), (1, 0)]) (.tmp 5) (.tmp 6), none, 0⟩])
      (.cond (.tmp 7)
        (.seq (.region [⟨(some 4), .mov (.const (.int .i64 (-1))), none, 0⟩])
        (.ret))
        (.skip)))
      (.seq (.region [⟨(some 8), .mov (.tmp 1), none, 0⟩,
        ⟨(some 4), .mov (.tmp 8), none, 0⟩])
      (.ret))) }

def F.entry_Unpack : IFunc :=
  { lb := [2, 6, 7], scr := true, nargs := 1, res := [.lb 2 (some 6), .tmp 3],
    body := .seq (.region [⟨(some 2), .lbox (.const (.agg #[.int .i64 0, .int .i64 0, .int .i64 0, .int .i64 0, .bool false, .bool false])), none, 0⟩,
        ⟨(some 3), .mov (.const (.int .i64 0)), none, 0⟩])
      (.seq (.seq (.region [⟨(some 8), .mov (.tmp 0), none, 0⟩,
        ⟨(some 9), .bin .lss (.tmp 8) (.const (.int .i64 0)), none, 0⟩,
        ⟨(some 10), .mov (.tmp 9), none, 0⟩,
        ⟨(some 11), .mov (.tmp 0), (some (10, false)), 0⟩,
        ⟨(some 12), .bin .geq (.tmp 11) (.const (.int .i64 1125899906842624)), (some (10, false)), 0⟩,
        ⟨(some 13), .pick (.tmp 10) (.const (.bool true)) (.tmp 12), none, 0⟩])
      (.cond (.tmp 13)
        (.seq (.region [⟨(some 14), .build [.int .i64 0, .int .i64 0, .int .i64 0, .int .i64 0, .bool false, .bool false] [], none, 0⟩,
          ⟨(some 2), .lstore none 2 0 6 (.tmp 14), none, 0⟩,
          ⟨(some 3), .mov (.const (.int .i64 2)), none, 0⟩])
        (.ret))
        (.skip)))
      (.seq (.region [⟨(some 4), .box (.const (.agg #[.int .i64 0, .int .i64 0, .int .i64 0, .int .i64 0, .int .i64 0, .int .i64 0])), none, 0⟩])
      (.seq (.seq (.region [⟨(some 15), .call Id.entry_fields [], none, 0⟩,
        ⟨(some 16), .mov (.const (.int .i64 0)), none, 0⟩])
      (.block 0 (.loop [0, 2, 4, 15, 16]
        (.seq (.region [⟨(some 17), .bin .lss (.tmp 16) (.const (.int .i64 6)), none, 0⟩])
        (.seq (.cond (.tmp 17)
          (.skip)
          (.exit 0))
        (.seq (.block 1 (.seq (.region [⟨(some 18), .mov (.tmp 16), none, 0⟩,
          ⟨(some 19), .index 6 2 (some 2) (.tmp 15) (.tmp 16), none, 0⟩,
          ⟨(some 6), .lbox (.const (.agg #[.int .i64 0, .int .i64 0])), none, 0⟩,
          ⟨(some 5), .mov (.tmp 18), none, 0⟩,
          ⟨(some 6), .lstore none 6 0 2 (.tmp 19), none, 0⟩])
        (.region [⟨(some 20), .mov (.tmp 5), none, 0⟩,
          ⟨(some 21), .mov (.tmp 0), none, 0⟩,
          ⟨(some 22), .lload none 6 0 (some 2), none, 0⟩,
          ⟨(some 23), .call Id.field_Get [.tmp 21, .tmp 22], none, 0⟩,
          ⟨(some 24), .iaddr (some 6) 1 (.tmp 4) (.tmp 20), none, 0⟩,
          ⟨none, .store 1 (.tmp 24) (.tmp 23), none, 0⟩])))
        (.region [⟨(some 25), .bin .add (.tmp 16) (.const (.int .i64 1)), none, 0⟩,
          ⟨(some 16), .mov (.tmp 25), none, 0⟩])))))))
      (.seq (.region [⟨(some 26), .iaddr (some 6) 1 (.tmp 4) (.const (.int .i64 0)), none, 0⟩,
        ⟨(some 27), .load none (.tmp 26), none, 0⟩,
        ⟨(some 28), .iaddr (some 6) 1 (.tmp 4) (.const (.int .i64 1)), none, 0⟩,
        ⟨(some 29), .load none (.tmp 28), none, 0⟩,
        ⟨(some 30), .iaddr (some 6) 1 (.tmp 4) (.const (.int .i64 2)), none, 0⟩,
        ⟨(some 31), .load none (.tmp 30), none, 0⟩,
        ⟨(some 32), .iaddr (some 6) 1 (.tmp 4) (.const (.int .i64 3)), none, 0⟩,
        ⟨(some 33), .load none (.tmp 32), none, 0⟩,
        ⟨(some 34), .iaddr (some 6) 1 (.tmp 4) (.const (.int .i64 4)), none, 0⟩,
        ⟨(some 35), .load none (.tmp 34), none, 0⟩,
        ⟨(some 36), .bin .eql (.tmp 35) (.const (.int .i64 1)), none, 0⟩,
        ⟨(some 37), .iaddr (some 6) 1 (.tmp 4) (.const (.int .i64 5)), none, 0⟩,
        ⟨(some 38), .load none (.tmp 37), none, 0⟩,
        ⟨(some 39), .bin .eql (.tmp 38) (.const (.int .i64 1)), none, 0⟩,
        ⟨(some 40), .build [.int .i64 0, .int .i64 0, .int .i64 0, .int .i64 0, .bool false, .bool false] [(0, 1, .tmp 27), (1, 1, .tmp 29), (2, 1, .tmp 31), (3, 1, .tmp 33), (4, 1, .tmp 36), (5, 1, .tmp 39)], none, 0⟩,
        ⟨(some 7), .lbox (.const (.agg #[.int .i64 0, .int .i64 0, .int .i64 0, .int .i64 0, .bool false, .bool false])), none, 0⟩,
        ⟨(some 7), .lstore none 7 0 6 (.tmp 40), none, 0⟩])
      (.seq (.seq (.region [⟨(some 41), .lload none 7 0 (some 6), none, 0⟩,
        ⟨(some 42), .call Id.entry_Entry_may [.tmp 41], none, 0⟩,
        ⟨(some 43), .un .not (.tmp 42), none, 0⟩])
      (.cond (.tmp 43)
        (.seq (.region [⟨(some 44), .build [.int .i64 0, .int .i64 0, .int .i64 0, .int .i64 0, .bool false, .bool false] [], none, 0⟩,
          ⟨(some 2), .lstore none 2 0 6 (.tmp 44), none, 0⟩,
          ⟨(some 3), .mov (.const (.int .i64 2)), none, 0⟩])
        (.ret))
        (.skip)))
      (.seq (.region [⟨(some 45), .lload none 7 0 (some 6), none, 0⟩,
        ⟨(some 2), .lstore none 2 0 6 (.tmp 45), none, 0⟩,
        ⟨(some 3), .mov (.const (.int .i64 0)), none, 0⟩])
      (.ret))))))) }

def F.layout_Layout_Entry : IFunc :=
  { lb := [2], scr := true, nargs := 2, res := [.tmp 4],
    body := .seq (.region [⟨(some 2), .lbox (.tmp 0), none, 0⟩,
        ⟨(some 4), .mov (.const (.int .i64 0)), none, 0⟩])
      (.seq (.region [⟨(some 5), .lload none 2 0 (some 2), none, 0⟩,
        ⟨(some 6), .mov (.tmp 1), none, 0⟩,
        ⟨(some 7), .call Id.layout_Layout_of [.tmp 5, .tmp 6, .const (.int .i64 0)], none, 0⟩,
        ⟨(some 4), .mov (.tmp 7), none, 0⟩])
      (.ret)) }

def F.compact_Machine_scanned : IFunc :=
  { lb := [2], scr := false, nargs := 1, res := [.lb 2 (some 2), .tmp 3],
    body := .seq (.region [⟨(some 2), .lbox (.const (.agg #[.int .i64 0, .int .i64 0])), none, 0⟩,
        ⟨(some 3), .mov (.const (.bool false)), none, 0⟩])
      (.seq (.seq (.region [⟨(some 4), .mov (.tmp 0), none, 0⟩,
        ⟨(some 5), .nilchk (.tmp 4), none, 0⟩,
        ⟨(some 6), .faddr 7 (.tmp 5), none, 0⟩,
        ⟨(some 7), .load none (.tmp 6), none, 0⟩,
        ⟨(some 8), .bin .add (.tmp 7) (.const (.int .i64 1)), none, 0⟩,
        ⟨(some 9), .nilchk (.tmp 4), none, 0⟩,
        ⟨(some 10), .faddr 7 (.tmp 9), none, 0⟩,
        ⟨none, .store 1 (.tmp 10) (.tmp 8), none, 0⟩])
      (.seq (.region [⟨(some 11), .mov (.tmp 0), none, 0⟩,
        ⟨(some 12), .nilchk (.tmp 11), none, 0⟩,
        ⟨(some 13), .faddr 7 (.tmp 12), none, 0⟩,
        ⟨(some 14), .load none (.tmp 13), none, 0⟩,
        ⟨(some 15), .mov (.tmp 0), none, 0⟩,
        ⟨(some 16), .nilchk (.tmp 15), none, 0⟩,
        ⟨(some 17), .faddr 2 (.tmp 16), none, 0⟩,
        ⟨(some 18), .faddr 1 (.tmp 17), none, 0⟩,
        ⟨(some 19), .load none (.tmp 18), none, 0⟩,
        ⟨(some 20), .bin .lss (.tmp 14) (.tmp 19), none, 0⟩])
      (.cond (.tmp 20)
        (.seq (.region [⟨(some 21), .mov (.tmp 0), none, 0⟩,
          ⟨(some 22), .call Id.compact_Machine_on [.tmp 21, .const (.int .i64 3)], none, 0⟩,
          ⟨(some 23), .extract (.tmp 22) 0, none, 0⟩,
          ⟨(some 24), .extract (.tmp 22) 1, none, 0⟩,
          ⟨(some 2), .lstore none 2 0 2 (.tmp 23), none, 0⟩,
          ⟨(some 3), .mov (.tmp 24), none, 0⟩])
        (.ret))
        (.skip))))
      (.seq (.region [⟨(some 25), .mov (.tmp 0), none, 0⟩,
        ⟨(some 26), .mov (.tmp 0), none, 0⟩,
        ⟨(some 27), .nilchk (.tmp 26), none, 0⟩,
        ⟨(some 28), .faddr 14 (.tmp 27), none, 0⟩,
        ⟨(some 29), .load none (.tmp 28), none, 0⟩,
        ⟨(some 30), .call Id.plan_Sort [.tmp 29], none, 0⟩,
        ⟨(some 31), .nilchk (.tmp 25), none, 0⟩,
        ⟨(some 32), .faddr 14 (.tmp 31), none, 0⟩,
        ⟨none, .store 1 (.tmp 32) (.tmp 30), none, 0⟩])
      (.seq (.region [⟨(some 33), .mov (.tmp 0), none, 0⟩,
        ⟨(some 34), .call Id.compact_Machine_behind [.tmp 33], none, 0⟩,
        ⟨(some 35), .extract (.tmp 34) 0, none, 0⟩,
        ⟨(some 36), .extract (.tmp 34) 1, none, 0⟩,
        ⟨(some 2), .lstore none 2 0 2 (.tmp 35), none, 0⟩,
        ⟨(some 3), .mov (.tmp 36), none, 0⟩])
      (.ret)))) }

def F.handle_Round : IFunc :=
  { lb := [], scr := true, nargs := 1, res := [.tmp 2, .tmp 3],
    body := .seq (.region [⟨(some 2), .mov (.const (.int .i64 0)), none, 0⟩,
        ⟨(some 3), .mov (.const (.int .i64 0)), none, 0⟩])
      (.scope (.seq (.seq (.region [⟨(some 4), .mov (.tmp 0), none, 0⟩,
        ⟨(some 5), .bin .lss (.tmp 4) (.const (.int .i64 1)), none, 0⟩,
        ⟨(some 6), .mov (.tmp 5), none, 0⟩,
        ⟨(some 7), .mov (.tmp 0), (some (6, false)), 0⟩,
        ⟨(some 8), .bin .gtr (.tmp 7) (.const (.int .i64 256)), (some (6, false)), 0⟩,
        ⟨(some 9), .pick (.tmp 6) (.const (.bool true)) (.tmp 8), none, 0⟩])
      (.cond (.tmp 9)
        (.seq (.region [⟨(some 2), .mov (.const (.int .i64 0)), none, 0⟩,
          ⟨(some 3), .mov (.const (.int .i64 9)), none, 0⟩])
        (.ret))
        (.skip)))
      (.seq (.label 0)
      (.seq (.seq (.region [⟨(some 10), .mov (.tmp 0), none, 0⟩,
        ⟨(some 11), .bin .rem (.tmp 10) (.const (.int .i64 8)), none, 0⟩,
        ⟨(some 12), .bin .eql (.tmp 11) (.const (.int .i64 0)), none, 0⟩])
      (.cond (.tmp 12)
        (.seq (.region [⟨(some 13), .mov (.tmp 0), none, 0⟩,
          ⟨(some 2), .mov (.tmp 13), none, 0⟩,
          ⟨(some 3), .mov (.const (.int .i64 0)), none, 0⟩])
        (.ret))
        (.skip)))
      (.seq (.region [⟨(some 14), .mov (.tmp 0), none, 0⟩,
        ⟨(some 15), .bin .add (.tmp 14) (.const (.int .i64 1)), none, 0⟩,
        ⟨(some 0), .mov (.tmp 15), none, 0⟩])
      (.goto 0 [0])))))) }

def F.layout_Layout_Size : IFunc :=
  { lb := [2], scr := true, nargs := 2, res := [.tmp 4],
    body := .seq (.region [⟨(some 2), .lbox (.tmp 0), none, 0⟩,
        ⟨(some 4), .mov (.const (.int .i64 0)), none, 0⟩])
      (.seq (.region [⟨(some 5), .lload none 2 0 (some 2), none, 0⟩,
        ⟨(some 6), .mov (.tmp 1), none, 0⟩,
        ⟨(some 7), .call Id.layout_Layout_of [.tmp 5, .tmp 6, .const (.int .i64 1)], none, 0⟩,
        ⟨(some 4), .mov (.tmp 7), none, 0⟩])
      (.ret)) }

def F.compact_Machine_passed : IFunc :=
  { lb := [2], scr := false, nargs := 1, res := [.lb 2 (some 2), .tmp 3],
    body := .seq (.region [⟨(some 2), .lbox (.const (.agg #[.int .i64 0, .int .i64 0])), none, 0⟩,
        ⟨(some 3), .mov (.const (.bool false)), none, 0⟩])
      (.seq (.region [⟨(some 4), .mov (.tmp 0), none, 0⟩,
        ⟨(some 5), .nilchk (.tmp 4), none, 0⟩,
        ⟨(some 6), .faddr 79 (.tmp 5), none, 0⟩,
        ⟨(some 7), .load none (.tmp 6), none, 0⟩,
        ⟨(some 8), .bin .add (.tmp 7) (.const (.int .i64 1)), none, 0⟩,
        ⟨(some 9), .nilchk (.tmp 4), none, 0⟩,
        ⟨(some 10), .faddr 79 (.tmp 9), none, 0⟩,
        ⟨none, .store 1 (.tmp 10) (.tmp 8), none, 0⟩])
      (.seq (.region [⟨(some 11), .mov (.tmp 0), none, 0⟩,
        ⟨(some 12), .call Id.compact_Machine_behind [.tmp 11], none, 0⟩,
        ⟨(some 13), .extract (.tmp 12) 0, none, 0⟩,
        ⟨(some 14), .extract (.tmp 12) 1, none, 0⟩,
        ⟨(some 2), .lstore none 2 0 2 (.tmp 13), none, 0⟩,
        ⟨(some 3), .mov (.tmp 14), none, 0⟩])
      (.ret))) }

def F.entry_Lock : IFunc :=
  { lb := [], scr := true, nargs := 2, res := [.tmp 4, .tmp 5],
    body := .seq (.region [⟨(some 3), .box (.tmp 1), none, 0⟩,
        ⟨(some 4), .mov (.const (.int .i64 0)), none, 0⟩,
        ⟨(some 5), .mov (.const (.int .i64 0)), none, 0⟩])
      (.seq (.region [⟨(some 6), .mov (.tmp 0), none, 0⟩,
        ⟨(some 7), .mkfn (.func Id.entry_Lock_1) [] [.tmp 3], none, 0⟩,
        ⟨(some 8), .call Id.entry_changed [.tmp 6, .tmp 7], none, 0⟩,
        ⟨(some 9), .extract (.tmp 8) 0, none, 0⟩,
        ⟨(some 10), .extract (.tmp 8) 1, none, 0⟩,
        ⟨(some 4), .mov (.tmp 9), none, 0⟩,
        ⟨(some 5), .mov (.tmp 10), none, 0⟩])
      (.ret)) }

def F.entry_Move : IFunc :=
  { lb := [], scr := true, nargs := 2, res := [.tmp 4, .tmp 5],
    body := .seq (.region [⟨(some 3), .box (.tmp 1), none, 0⟩,
        ⟨(some 4), .mov (.const (.int .i64 0)), none, 0⟩,
        ⟨(some 5), .mov (.const (.int .i64 0)), none, 0⟩])
      (.seq (.region [⟨(some 6), .mov (.tmp 0), none, 0⟩,
        ⟨(some 7), .mkfn (.func Id.entry_Move_1) [] [.tmp 3], none, 0⟩,
        ⟨(some 8), .call Id.entry_changed [.tmp 6, .tmp 7], none, 0⟩,
        ⟨(some 9), .extract (.tmp 8) 0, none, 0⟩,
        ⟨(some 10), .extract (.tmp 8) 1, none, 0⟩,
        ⟨(some 4), .mov (.tmp 9), none, 0⟩,
        ⟨(some 5), .mov (.tmp 10), none, 0⟩])
      (.ret)) }

def F.epoch_Turn_Step : IFunc :=
  { lb := [], scr := false, nargs := 2, res := [.tmp 4, .tmp 5],
    body := .seq (.region [⟨(some 4), .mov (.const (.bool false)), none, 0⟩,
        ⟨(some 5), .mov (.const (.bool false)), none, 0⟩])
      (.seq (.seq (.region [⟨(some 7), .mov (.tmp 0), none, 0⟩,
        ⟨(some 8), .eqv false (.nil 0) (.tmp 7) (.const (.pointer none)), none, 0⟩,
        ⟨(some 9), .mov (.tmp 8), none, 0⟩,
        ⟨(some 10), .mov (.tmp 1), (some (9, false)), 0⟩,
        ⟨(some 11), .eqv false (.nil 4) (.tmp 10) (.const (.nilIface)), (some (9, false)), 0⟩,
        ⟨(some 12), .pick (.tmp 9) (.const (.bool true)) (.tmp 11), none, 0⟩])
      (.cond (.tmp 12)
        (.seq (.region [⟨(some 4), .mov (.const (.bool false)), none, 0⟩,
          ⟨(some 5), .mov (.const (.bool true)), none, 0⟩])
        (.ret))
        (.skip)))
      (.seq (.seq (.region [⟨(some 13), .mov (.tmp 0), none, 0⟩,
        ⟨(some 14), .nilchk (.tmp 13), none, 0⟩,
        ⟨(some 15), .faddr 3 (.tmp 14), none, 0⟩,
        ⟨(some 16), .load none (.tmp 15), none, 0⟩])
      (.block 0 (.seq (.region [⟨(some 18), .bin .eql (.tmp 16) (.const (.int .i64 0)), none, 0⟩,
        ⟨(some 17), .mov (.tmp 18), none, 0⟩])
      (.cond (.tmp 17)
        (.seq (.region [⟨(some 4), .mov (.const (.bool false)), none, 0⟩,
          ⟨(some 5), .mov (.const (.bool true)), none, 0⟩])
        (.ret))
        (.seq (.region [⟨(some 20), .bin .eql (.tmp 16) (.const (.int .i64 1)), none, 0⟩,
          ⟨(some 19), .mov (.tmp 20), none, 0⟩])
        (.cond (.tmp 19)
          (.region [⟨(some 24), .mov (.tmp 0), none, 0⟩,
            ⟨(some 25), .nilchk (.tmp 24), none, 0⟩,
            ⟨(some 26), .faddr 0 (.tmp 25), none, 0⟩,
            ⟨(some 27), .load (some 2) (.tmp 26), none, 0⟩,
            ⟨(some 28), .call Id.layout_Layout_Epoch [.tmp 27], none, 0⟩,
            ⟨(some 23), .mov (.tmp 1), none, 0⟩,
            ⟨(some 29), .mkfn (.method "Load") [.tmp 23] [], none, 0⟩,
            ⟨(some 30), .nilchkm "Load" [(25, Id.cells_Plain_Load)] (.tmp 29), none, 0⟩,
            ⟨(some 31), .mov (.tmp 23), none, 0⟩,
            ⟨(some 32), .invoke [(25, Id.cells_Plain_Load)] (.tmp 31) [.tmp 28], none, 0⟩,
            ⟨(some 21), .mov (.tmp 0), none, 0⟩,
            ⟨(some 33), .nilchk (.tmp 21), none, 0⟩,
            ⟨(some 34), .faddr 4 (.tmp 33), none, 0⟩,
            ⟨none, .store 1 (.tmp 34) (.tmp 32), none, 0⟩,
            ⟨(some 22), .mov (.tmp 0), none, 0⟩,
            ⟨(some 35), .nilchk (.tmp 22), none, 0⟩,
            ⟨(some 36), .faddr 3 (.tmp 35), none, 0⟩,
            ⟨none, .store 1 (.tmp 36) (.const (.int .i64 2)), none, 0⟩])
          (.seq (.region [⟨(some 38), .bin .eql (.tmp 16) (.const (.int .i64 2)), none, 0⟩,
            ⟨(some 37), .mov (.tmp 38), none, 0⟩])
          (.cond (.tmp 37)
            (.seq (.region [⟨(some 39), .mov (.tmp 0), none, 0⟩,
              ⟨(some 40), .nilchk (.tmp 39), none, 0⟩,
              ⟨(some 41), .faddr 3 (.tmp 40), none, 0⟩,
              ⟨none, .store 1 (.tmp 41) (.const (.int .i64 1)), none, 0⟩])
            (.seq (.region [⟨(some 43), .mov (.tmp 0), none, 0⟩,
              ⟨(some 44), .nilchk (.tmp 43), none, 0⟩,
              ⟨(some 45), .faddr 0 (.tmp 44), none, 0⟩,
              ⟨(some 46), .load (some 2) (.tmp 45), none, 0⟩,
              ⟨(some 47), .call Id.layout_Layout_Epoch [.tmp 46], none, 0⟩,
              ⟨(some 42), .mov (.tmp 1), none, 0⟩,
              ⟨(some 48), .mov (.tmp 0), none, 0⟩,
              ⟨(some 49), .nilchk (.tmp 48), none, 0⟩,
              ⟨(some 50), .faddr 4 (.tmp 49), none, 0⟩,
              ⟨(some 51), .load none (.tmp 50), none, 1⟩,
              ⟨(some 52), .mov (.tmp 0), none, 0⟩,
              ⟨(some 53), .nilchk (.tmp 52), none, 0⟩,
              ⟨(some 54), .faddr 4 (.tmp 53), none, 0⟩,
              ⟨(some 55), .load none (.tmp 54), none, 1⟩,
              ⟨(some 56), .bin .add (.tmp 55) (.const (.int .i64 1)), none, 0⟩,
              ⟨(some 57), .mkfn (.method "Cas") [.tmp 42] [], none, 0⟩,
              ⟨(some 58), .nilchkm "Cas" [(25, Id.cells_Plain_Cas)] (.tmp 57), none, 0⟩,
              ⟨(some 59), .mov (.tmp 42), none, 0⟩,
              ⟨(some 60), .invoke [(25, Id.cells_Plain_Cas)] (.tmp 59) [.tmp 47, .tmp 51, .tmp 56], none, 0⟩])
            (.cond (.tmp 60)
              (.region [⟨(some 61), .mov (.tmp 0), none, 0⟩,
                ⟨(some 62), .nilchk (.tmp 61), none, 0⟩,
                ⟨(some 63), .faddr 3 (.tmp 62), none, 0⟩,
                ⟨none, .store 1 (.tmp 63) (.const (.int .i64 3)), none, 0⟩])
              (.skip))))
            (.seq (.region [⟨(some 65), .bin .eql (.tmp 16) (.const (.int .i64 3)), none, 0⟩,
              ⟨(some 64), .mov (.tmp 65), none, 0⟩])
            (.cond (.tmp 64)
              (.seq (.region [⟨(some 67), .mov (.tmp 0), none, 0⟩,
                ⟨(some 68), .nilchk (.tmp 67), none, 0⟩,
                ⟨(some 69), .faddr 0 (.tmp 68), none, 0⟩,
                ⟨(some 70), .load (some 2) (.tmp 69), none, 0⟩,
                ⟨(some 71), .mov (.tmp 0), none, 0⟩,
                ⟨(some 72), .nilchk (.tmp 71), none, 0⟩,
                ⟨(some 73), .faddr 5 (.tmp 72), none, 0⟩,
                ⟨(some 74), .load none (.tmp 73), none, 0⟩,
                ⟨(some 75), .call Id.layout_Layout_Note [.tmp 70, .tmp 74], none, 0⟩,
                ⟨(some 66), .mov (.tmp 1), none, 0⟩,
                ⟨(some 76), .mkfn (.method "Load") [.tmp 66] [], none, 0⟩,
                ⟨(some 77), .nilchkm "Load" [(25, Id.cells_Plain_Load)] (.tmp 76), none, 0⟩,
                ⟨(some 78), .mov (.tmp 66), none, 0⟩,
                ⟨(some 79), .invoke [(25, Id.cells_Plain_Load)] (.tmp 78) [.tmp 75], none, 0⟩,
                ⟨(some 80), .mov (.tmp 0), none, 0⟩,
                ⟨(some 81), .nilchk (.tmp 80), none, 0⟩,
                ⟨(some 82), .faddr 4 (.tmp 81), none, 0⟩,
                ⟨(some 83), .load none (.tmp 82), none, 2⟩,
                ⟨(some 84), .bin .add (.tmp 83) (.const (.int .i64 1)), none, 0⟩,
                ⟨(some 85), .call Id.head_Older [.tmp 79, .tmp 84], none, 0⟩,
                ⟨(some 6), .mov (.tmp 85), none, 0⟩])
              (.seq (.region [⟨(some 86), .mov (.tmp 0), none, 0⟩,
                ⟨(some 87), .nilchk (.tmp 86), none, 0⟩,
                ⟨(some 88), .faddr 5 (.tmp 87), none, 0⟩,
                ⟨(some 89), .load none (.tmp 88), none, 0⟩,
                ⟨(some 90), .bin .add (.tmp 89) (.const (.int .i64 1)), none, 0⟩,
                ⟨(some 91), .nilchk (.tmp 86), none, 0⟩,
                ⟨(some 92), .faddr 5 (.tmp 91), none, 0⟩,
                ⟨none, .store 1 (.tmp 92) (.tmp 90), none, 0⟩])
              (.seq (.region [⟨(some 93), .mov (.tmp 6), none, 0⟩,
                ⟨(some 94), .mov (.tmp 93), none, 0⟩,
                ⟨(some 95), .mov (.tmp 0), (some (94, false)), 0⟩,
                ⟨(some 96), .nilchk (.tmp 95), (some (94, false)), 0⟩,
                ⟨(some 97), .faddr 5 (.tmp 96), (some (94, false)), 0⟩,
                ⟨(some 98), .load none (.tmp 97), (some (94, false)), 0⟩,
                ⟨(some 99), .mov (.tmp 0), (some (94, false)), 0⟩,
                ⟨(some 100), .nilchk (.tmp 99), (some (94, false)), 0⟩,
                ⟨(some 101), .faddr 2 (.tmp 100), (some (94, false)), 0⟩,
                ⟨(some 102), .load none (.tmp 101), (some (94, false)), 0⟩,
                ⟨(some 103), .bin .eql (.tmp 98) (.tmp 102), (some (94, false)), 0⟩,
                ⟨(some 104), .pick (.tmp 94) (.const (.bool true)) (.tmp 103), none, 0⟩])
              (.cond (.tmp 104)
                (.seq (.region [⟨(some 105), .mov (.tmp 0), none, 0⟩,
                  ⟨(some 106), .nilchk (.tmp 105), none, 0⟩,
                  ⟨(some 107), .faddr 3 (.tmp 106), none, 0⟩,
                  ⟨none, .store 1 (.tmp 107) (.const (.int .i64 0)), none, 0⟩])
                (.seq (.region [⟨(some 108), .mov (.tmp 6), none, 0⟩,
                  ⟨(some 109), .un .not (.tmp 108), none, 0⟩,
                  ⟨(some 4), .mov (.tmp 109), none, 0⟩,
                  ⟨(some 5), .mov (.const (.bool true)), none, 0⟩])
                (.ret)))
                (.skip)))))
              (.skip)))))))))))
      (.seq (.region [⟨(some 4), .mov (.const (.bool false)), none, 0⟩,
        ⟨(some 5), .mov (.const (.bool false)), none, 0⟩])
      (.ret)))) }

def F.layout_Layout_of : IFunc :=
  { lb := [3], scr := true, nargs := 3, res := [.tmp 6],
    body := .seq (.region [⟨(some 3), .lbox (.tmp 0), none, 0⟩,
        ⟨(some 6), .mov (.const (.int .i64 0)), none, 0⟩])
      (.seq (.seq (.region [⟨(some 7), .mov (.tmp 1), none, 0⟩,
        ⟨(some 8), .laddr none 3 1, none, 0⟩,
        ⟨(some 9), .lload (some 8) 3 1 none, none, 0⟩,
        ⟨(some 10), .bin .sub (.tmp 9) (.const (.int .i64 1)), none, 0⟩,
        ⟨(some 11), .call Id.layout_in [.tmp 7, .const (.int .i64 0), .tmp 10], none, 0⟩,
        ⟨(some 12), .un .not (.tmp 11), none, 0⟩])
      (.cond (.tmp 12)
        (.seq (.region [⟨(some 6), .mov (.const (.int .i64 (-1))), none, 0⟩])
        (.ret))
        (.skip)))
      (.seq (.region [⟨(some 13), .laddr none 3 0, none, 0⟩,
        ⟨(some 14), .lload (some 13) 3 0 none, none, 0⟩,
        ⟨(some 15), .bin .add (.const (.int .i64 4)) (.tmp 14), none, 0⟩,
        ⟨(some 16), .mov (.tmp 1), none, 0⟩,
        ⟨(some 17), .bin .mul (.const (.int .i64 3)) (.tmp 16), none, 0⟩,
        ⟨(some 18), .bin .add (.tmp 15) (.tmp 17), none, 0⟩,
        ⟨(some 19), .mov (.tmp 2), none, 0⟩,
        ⟨(some 20), .bin .add (.tmp 18) (.tmp 19), none, 0⟩,
        ⟨(some 6), .mov (.tmp 20), none, 0⟩])
      (.ret))) }

def F.head_may : IFunc :=
  { lb := [], scr := true, nargs := 1, res := [.tmp 2],
    body := .seq (.region [⟨(some 2), .mov (.const (.bool false)), none, 0⟩])
      (.seq (.region [⟨(some 3), .mov (.tmp 0), none, 0⟩,
        ⟨(some 4), .bin .geq (.tmp 3) (.const (.int .i64 0)), none, 0⟩,
        ⟨(some 5), .mov (.tmp 4), none, 0⟩,
        ⟨(some 6), .mov (.tmp 0), (some (5, true)), 0⟩,
        ⟨(some 7), .bin .leq (.tmp 6) (.const (.int .i64 64)), (some (5, true)), 0⟩,
        ⟨(some 8), .pick (.tmp 5) (.tmp 7) (.const (.bool false)), none, 0⟩,
        ⟨(some 2), .mov (.tmp 8), none, 0⟩])
      (.ret)) }

def F.head_of : IFunc :=
  { lb := [], scr := true, nargs := 2, res := [.tmp 4],
    body := .seq (.region [⟨(some 4), .mov (.const (.complex .f64 0 0)), none, 0⟩])
      (.seq (.region [⟨(some 5), .mov (.tmp 0), none, 0⟩,
        ⟨(some 6), .conv (.float .f64) (.tmp 5), none, 0⟩,
        ⟨(some 7), .mov (.tmp 1), none, 0⟩,
        ⟨(some 8), .conv (.float .f64) (.tmp 7), none, 0⟩,
        ⟨(some 9), .cplx (.tmp 6) (.tmp 8), none, 0⟩,
        ⟨(some 4), .mov (.tmp 9), none, 0⟩])
      (.ret)) }

def F.head_front_word : IFunc :=
  { lb := [], scr := true, nargs := 1, res := [.tmp 2],
    body := .seq (.region [⟨(some 2), .mov (.const (.int .i64 0)), none, 0⟩])
      (.seq (.region [⟨(some 6), .call Id.head_topField [], none, 0⟩,
        ⟨(some 7), .mov (.tmp 0), none, 0⟩,
        ⟨(some 8), .call Id.head_front_top [.tmp 7], none, 0⟩,
        ⟨(some 9), .call Id.field_Put [.const (.int .i64 0), .tmp 6, .tmp 8], none, 0⟩,
        ⟨(some 5), .mov (.tmp 9), none, 0⟩,
        ⟨(some 10), .extract (.tmp 5) 0, none, 0⟩,
        ⟨(some 11), .extract (.tmp 5) 1, none, 0⟩,
        ⟨(some 3), .mov (.tmp 10), none, 0⟩,
        ⟨(some 4), .mov (.tmp 11), none, 0⟩])
      (.seq (.region [⟨(some 13), .mov (.tmp 3), none, 0⟩,
        ⟨(some 14), .call Id.head_tagField [], none, 0⟩,
        ⟨(some 15), .mov (.tmp 0), none, 0⟩,
        ⟨(some 16), .call Id.head_front_tag [.tmp 15], none, 0⟩,
        ⟨(some 17), .call Id.field_Put [.tmp 13, .tmp 14, .tmp 16], none, 0⟩,
        ⟨(some 12), .mov (.tmp 17), none, 0⟩,
        ⟨(some 18), .extract (.tmp 12) 0, none, 0⟩,
        ⟨(some 19), .extract (.tmp 12) 1, none, 0⟩,
        ⟨(some 3), .mov (.tmp 18), none, 0⟩])
      (.seq (.region [⟨(some 20), .mov (.tmp 3), none, 0⟩,
        ⟨(some 2), .mov (.tmp 20), none, 0⟩])
      (.ret)))) }

def F.entry_fields : IFunc :=
  { lb := [0], scr := true, nargs := 0, res := [.lb 0 (some 12)],
    body := .seq (.region [⟨(some 0), .lbox (.const (.agg #[.int .i64 0, .int .i64 0, .int .i64 0, .int .i64 0, .int .i64 0, .int .i64 0, .int .i64 0, .int .i64 0, .int .i64 0, .int .i64 0, .int .i64 0, .int .i64 0])), none, 0⟩])
      (.seq (.region [⟨(some 1), .build [.int .i64 0, .int .i64 0] [(0, 1, .const (.int .i64 0)), (1, 1, .const (.int .i64 20))], none, 0⟩,
        ⟨(some 2), .build [.int .i64 0, .int .i64 0] [(0, 1, .const (.int .i64 20)), (1, 1, .const (.int .i64 20))], none, 0⟩,
        ⟨(some 3), .build [.int .i64 0, .int .i64 0] [(0, 1, .const (.int .i64 40)), (1, 1, .const (.int .i64 4))], none, 0⟩,
        ⟨(some 4), .build [.int .i64 0, .int .i64 0] [(0, 1, .const (.int .i64 44)), (1, 1, .const (.int .i64 4))], none, 0⟩,
        ⟨(some 5), .build [.int .i64 0, .int .i64 0] [(0, 1, .const (.int .i64 48)), (1, 1, .const (.int .i64 1))], none, 0⟩,
        ⟨(some 6), .build [.int .i64 0, .int .i64 0] [(0, 1, .const (.int .i64 49)), (1, 1, .const (.int .i64 1))], none, 0⟩,
        ⟨(some 7), .build [.int .i64 0, .int .i64 0, .int .i64 0, .int .i64 0, .int .i64 0, .int .i64 0, .int .i64 0, .int .i64 0, .int .i64 0, .int .i64 0, .int .i64 0, .int .i64 0] [(0, 2, .tmp 1), (2, 2, .tmp 2), (4, 2, .tmp 3), (6, 2, .tmp 4), (8, 2, .tmp 5), (10, 2, .tmp 6)], none, 0⟩,
        ⟨(some 0), .lstore none 0 0 12 (.tmp 7), none, 0⟩])
      (.ret)) }

def F.field_Get : IFunc :=
  { lb := [3], scr := true, nargs := 2, res := [.tmp 4],
    body := .seq (.region [⟨(some 3), .lbox (.tmp 1), none, 0⟩,
        ⟨(some 4), .mov (.const (.int .i64 0)), none, 0⟩])
      (.seq (.seq (.region [⟨(some 5), .mov (.tmp 0), none, 0⟩,
        ⟨(some 6), .call Id.field_word [.tmp 5], none, 0⟩,
        ⟨(some 7), .un .not (.tmp 6), none, 0⟩])
      (.cond (.tmp 7)
        (.seq (.region [⟨(some 4), .mov (.const (.int .i64 0)), none, 0⟩])
        (.ret))
        (.skip)))
      (.seq (.region [⟨(some 9), .lload none 3 0 (some 2), none, 0⟩,
        ⟨(some 10), .call Id.field_told [.tmp 9, .func Id.field_Field_mask, .const (.int .i64 0)], none, 0⟩,
        ⟨(some 8), .mov (.tmp 0), none, 0⟩,
        ⟨(some 11), .bin .and (.tmp 8) (.tmp 10), none, 0⟩,
        ⟨(some 12), .laddr none 3 0, none, 0⟩,
        ⟨(some 13), .lload (some 12) 3 0 none, none, 0⟩,
        ⟨(some 14), .max [.tmp 13, .const (.int .i64 0)], none, 0⟩,
        ⟨(some 15), .bin .shr (.tmp 11) (.tmp 14), none, 0⟩,
        ⟨(some 4), .mov (.tmp 15), none, 0⟩])
      (.ret))) }

def F.entry_Entry_may : IFunc :=
  { lb := [1], scr := true, nargs := 1, res := [.tmp 2],
    body := .seq (.region [⟨(some 1), .lbox (.tmp 0), none, 0⟩,
        ⟨(some 2), .mov (.const (.bool false)), none, 0⟩])
      (.seq (.block 0 (.seq (.region [⟨(some 4), .laddr none 1 0, none, 0⟩,
        ⟨(some 5), .lload (some 4) 1 0 none, none, 0⟩,
        ⟨(some 6), .call Id.entry_in [.tmp 5, .const (.int .i64 4096)], none, 0⟩,
        ⟨(some 7), .un .not (.tmp 6), none, 0⟩,
        ⟨(some 8), .mov (.tmp 7), none, 0⟩,
        ⟨(some 9), .laddr none 1 1, (some (8, false)), 0⟩,
        ⟨(some 10), .lload (some 9) 1 1 none, (some (8, false)), 0⟩,
        ⟨(some 11), .call Id.entry_in [.tmp 10, .const (.int .i64 1000)], (some (8, false)), 0⟩,
        ⟨(some 12), .un .not (.tmp 11), (some (8, false)), 0⟩,
        ⟨(some 13), .pick (.tmp 8) (.const (.bool true)) (.tmp 12), none, 0⟩,
        ⟨(some 14), .mov (.tmp 13), none, 0⟩,
        ⟨(some 15), .laddr none 1 2, (some (14, false)), 0⟩,
        ⟨(some 16), .lload (some 15) 1 2 none, (some (14, false)), 0⟩,
        ⟨(some 17), .call Id.entry_in [.tmp 16, .const (.int .i64 7)], (some (14, false)), 0⟩,
        ⟨(some 18), .un .not (.tmp 17), (some (14, false)), 0⟩,
        ⟨(some 19), .pick (.tmp 14) (.const (.bool true)) (.tmp 18), none, 0⟩,
        ⟨(some 20), .mov (.tmp 19), none, 0⟩,
        ⟨(some 21), .laddr none 1 3, (some (20, false)), 0⟩,
        ⟨(some 22), .lload (some 21) 1 3 none, (some (20, false)), 0⟩,
        ⟨(some 23), .call Id.entry_in [.tmp 22, .const (.int .i64 15)], (some (20, false)), 0⟩,
        ⟨(some 24), .un .not (.tmp 23), (some (20, false)), 0⟩,
        ⟨(some 25), .pick (.tmp 20) (.const (.bool true)) (.tmp 24), none, 0⟩,
        ⟨(some 3), .mov (.tmp 25), none, 0⟩])
      (.cond (.tmp 3)
        (.seq (.region [⟨(some 2), .mov (.const (.bool false)), none, 0⟩])
        (.ret))
        (.seq (.region [⟨(some 27), .laddr none 1 4, none, 0⟩,
          ⟨(some 28), .lload (some 27) 1 4 none, none, 0⟩,
          ⟨(some 29), .mov (.tmp 28), none, 0⟩,
          ⟨(some 30), .laddr none 1 2, (some (29, true)), 0⟩,
          ⟨(some 31), .lload (some 30) 1 2 none, (some (29, true)), 0⟩,
          ⟨(some 32), .laddr none 1 3, (some (29, true)), 0⟩,
          ⟨(some 33), .lload (some 32) 1 3 none, (some (29, true)), 0⟩,
          ⟨(some 34), .bin .add (.tmp 31) (.tmp 33), (some (29, true)), 0⟩,
          ⟨(some 35), .bin .gtr (.tmp 34) (.const (.int .i64 0)), (some (29, true)), 0⟩,
          ⟨(some 36), .pick (.tmp 29) (.tmp 35) (.const (.bool false)), none, 0⟩,
          ⟨(some 26), .mov (.tmp 36), none, 0⟩])
        (.cond (.tmp 26)
          (.seq (.region [⟨(some 2), .mov (.const (.bool false)), none, 0⟩])
          (.ret))
          (.skip))))))
      (.seq (.region [⟨(some 37), .laddr none 1 5, none, 0⟩,
        ⟨(some 38), .lload (some 37) 1 5 none, none, 0⟩,
        ⟨(some 39), .mov (.tmp 38), none, 0⟩,
        ⟨(some 40), .lload none 1 0 (some 6), (some (39, false)), 0⟩,
        ⟨(some 41), .laddr none 1 1, (some (39, false)), 0⟩,
        ⟨(some 42), .lload (some 41) 1 1 none, (some (39, false)), 0⟩,
        ⟨(some 43), .build [.int .i64 0, .int .i64 0, .int .i64 0, .int .i64 0, .bool false, .bool false] [(1, 1, .tmp 42)], (some (39, false)), 0⟩,
        ⟨(some 44), .eqv false (.cells [(0, 0), (1, 0), (2, 0), (3, 0), (4, 1), (5, 1)]) (.tmp 40) (.tmp 43), (some (39, false)), 0⟩,
        ⟨(some 45), .pick (.tmp 39) (.const (.bool true)) (.tmp 44), none, 0⟩,
        ⟨(some 2), .mov (.tmp 45), none, 0⟩])
      (.ret))) }

def F.plan_Sort : IFunc :=
  { lb := [], scr := true, nargs := 1, res := [.tmp 2],
    body := .seq (.region [⟨(some 2), .mov (.const (.slice none 0 0)), none, 0⟩])
      (.seq (.region [⟨(some 4), .mov (.tmp 0), none, 0⟩,
        ⟨(some 5), .call Id.slices_Clone_Lplan_Object [.tmp 4], none, 0⟩,
        ⟨(some 3), .mov (.tmp 5), none, 0⟩])
      (.seq (.region [⟨(some 6), .mov (.tmp 3), none, 0⟩,
        ⟨(some 7), .call Id.slices_SortStableFunc_Lplan_Object [.tmp 6, .func Id.plan_byPlace], none, 0⟩])
      (.seq (.region [⟨(some 8), .mov (.tmp 3), none, 0⟩,
        ⟨(some 2), .mov (.tmp 8), none, 0⟩])
      (.ret)))) }

def F.compact_Machine_behind : IFunc :=
  { lb := [2], scr := false, nargs := 1, res := [.lb 2 (some 2), .tmp 3],
    body := .seq (.region [⟨(some 2), .lbox (.const (.agg #[.int .i64 0, .int .i64 0])), none, 0⟩,
        ⟨(some 3), .mov (.const (.bool false)), none, 0⟩])
      (.seq (.block 0 (.seq (.region [⟨(some 5), .mov (.tmp 0), none, 0⟩,
        ⟨(some 6), .nilchk (.tmp 5), none, 0⟩,
        ⟨(some 7), .faddr 79 (.tmp 6), none, 0⟩,
        ⟨(some 8), .load none (.tmp 7), none, 0⟩,
        ⟨(some 9), .mov (.tmp 0), none, 0⟩,
        ⟨(some 10), .nilchk (.tmp 9), none, 0⟩,
        ⟨(some 11), .faddr 14 (.tmp 10), none, 0⟩,
        ⟨(some 12), .load none (.tmp 11), none, 0⟩,
        ⟨(some 13), .len false (.tmp 12), none, 0⟩,
        ⟨(some 14), .bin .lss (.tmp 8) (.tmp 13), none, 0⟩,
        ⟨(some 4), .mov (.tmp 14), none, 0⟩])
      (.cond (.tmp 4)
        (.seq (.region [⟨(some 15), .mov (.tmp 0), none, 0⟩,
          ⟨(some 16), .call Id.compact_Machine_on [.tmp 15, .const (.int .i64 5)], none, 0⟩,
          ⟨(some 17), .extract (.tmp 16) 0, none, 0⟩,
          ⟨(some 18), .extract (.tmp 16) 1, none, 0⟩,
          ⟨(some 2), .lstore none 2 0 2 (.tmp 17), none, 0⟩,
          ⟨(some 3), .mov (.tmp 18), none, 0⟩])
        (.ret))
        (.seq (.region [⟨(some 20), .mov (.tmp 0), none, 0⟩,
          ⟨(some 21), .nilchk (.tmp 20), none, 0⟩,
          ⟨(some 22), .faddr 80 (.tmp 21), none, 0⟩,
          ⟨(some 23), .load none (.tmp 22), none, 0⟩,
          ⟨(some 24), .mov (.tmp 0), none, 0⟩,
          ⟨(some 25), .nilchk (.tmp 24), none, 0⟩,
          ⟨(some 26), .faddr 6 (.tmp 25), none, 0⟩,
          ⟨(some 27), .load none (.tmp 26), none, 0⟩,
          ⟨(some 28), .bin .geq (.tmp 23) (.tmp 27), none, 0⟩,
          ⟨(some 19), .mov (.tmp 28), none, 0⟩])
        (.cond (.tmp 19)
          (.seq (.region [⟨(some 29), .mov (.tmp 0), none, 0⟩,
            ⟨(some 30), .call Id.compact_Machine_end [.tmp 29], none, 0⟩,
            ⟨(some 31), .extract (.tmp 30) 0, none, 0⟩,
            ⟨(some 32), .extract (.tmp 30) 1, none, 0⟩,
            ⟨(some 2), .lstore none 2 0 2 (.tmp 31), none, 0⟩,
            ⟨(some 3), .mov (.tmp 32), none, 0⟩])
          (.ret))
          (.skip))))))
      (.seq (.region [⟨(some 33), .mov (.tmp 0), none, 0⟩,
        ⟨(some 34), .mov (.tmp 0), none, 0⟩,
        ⟨(some 35), .nilchk (.tmp 34), none, 0⟩,
        ⟨(some 36), .faddr 2 (.tmp 35), none, 0⟩,
        ⟨(some 37), .load (some 3) (.tmp 36), none, 0⟩,
        ⟨(some 38), .call Id.epoch_NewTurn [.tmp 37], none, 0⟩,
        ⟨(some 39), .nilchk (.tmp 33), none, 0⟩,
        ⟨(some 40), .faddr 85 (.tmp 39), none, 0⟩,
        ⟨none, .store 1 (.tmp 40) (.tmp 38), none, 0⟩])
      (.seq (.region [⟨(some 41), .mov (.tmp 0), none, 0⟩,
        ⟨(some 42), .call Id.compact_Machine_on [.tmp 41, .const (.int .i64 10)], none, 0⟩,
        ⟨(some 43), .extract (.tmp 42) 0, none, 0⟩,
        ⟨(some 44), .extract (.tmp 42) 1, none, 0⟩,
        ⟨(some 2), .lstore none 2 0 2 (.tmp 43), none, 0⟩,
        ⟨(some 3), .mov (.tmp 44), none, 0⟩])
      (.ret)))) }

def F.entry_changed : IFunc :=
  { lb := [], scr := true, nargs := 2, res := [.tmp 4, .tmp 5],
    body := .seq (.region [⟨(some 4), .mov (.const (.int .i64 0)), none, 0⟩,
        ⟨(some 5), .mov (.const (.int .i64 0)), none, 0⟩])
      (.seq (.region [⟨(some 9), .mov (.tmp 0), none, 0⟩,
        ⟨(some 10), .call Id.entry_Unpack [.tmp 9], none, 0⟩,
        ⟨(some 8), .mov (.tmp 10), none, 0⟩,
        ⟨(some 11), .extract (.tmp 8) 0, none, 0⟩,
        ⟨(some 12), .extract (.tmp 8) 1, none, 0⟩,
        ⟨(some 6), .box (.const (.agg #[.int .i64 0, .int .i64 0, .int .i64 0, .int .i64 0, .bool false, .bool false])), none, 0⟩,
        ⟨none, .store 6 (.tmp 6) (.tmp 11), none, 0⟩,
        ⟨(some 7), .mov (.tmp 12), none, 0⟩])
      (.seq (.block 0 (.seq (.region [⟨(some 14), .mov (.tmp 7), none, 0⟩,
        ⟨(some 15), .bin .neq (.tmp 14) (.const (.int .i64 0)), none, 0⟩,
        ⟨(some 13), .mov (.tmp 15), none, 0⟩])
      (.cond (.tmp 13)
        (.seq (.region [⟨(some 16), .mov (.tmp 7), none, 0⟩,
          ⟨(some 4), .mov (.const (.int .i64 0)), none, 0⟩,
          ⟨(some 5), .mov (.tmp 16), none, 0⟩])
        (.ret))
        (.seq (.region [⟨(some 18), .faddr 5 (.tmp 6), none, 0⟩,
          ⟨(some 19), .load none (.tmp 18), none, 0⟩,
          ⟨(some 20), .un .not (.tmp 19), none, 0⟩,
          ⟨(some 17), .mov (.tmp 20), none, 0⟩])
        (.cond (.tmp 17)
          (.seq (.region [⟨(some 4), .mov (.const (.int .i64 0)), none, 0⟩,
            ⟨(some 5), .mov (.const (.int .i64 1)), none, 0⟩])
          (.ret))
          (.skip))))))
      (.seq (.seq (.region [⟨(some 21), .mov (.tmp 1), none, 0⟩,
        ⟨(some 22), .callv (.tmp 21) [.tmp 6], none, 0⟩,
        ⟨(some 7), .mov (.tmp 22), none, 0⟩])
      (.seq (.region [⟨(some 23), .mov (.tmp 7), none, 0⟩,
        ⟨(some 24), .bin .neq (.tmp 23) (.const (.int .i64 0)), none, 0⟩])
      (.cond (.tmp 24)
        (.seq (.region [⟨(some 25), .mov (.tmp 7), none, 0⟩,
          ⟨(some 4), .mov (.const (.int .i64 0)), none, 0⟩,
          ⟨(some 5), .mov (.tmp 25), none, 0⟩])
        (.ret))
        (.skip))))
      (.seq (.region [⟨(some 26), .load (some 6) (.tmp 6), none, 0⟩,
        ⟨(some 27), .call Id.entry_Pack [.tmp 26], none, 0⟩,
        ⟨(some 28), .extract (.tmp 27) 0, none, 0⟩,
        ⟨(some 29), .extract (.tmp 27) 1, none, 0⟩,
        ⟨(some 4), .mov (.tmp 28), none, 0⟩,
        ⟨(some 5), .mov (.tmp 29), none, 0⟩])
      (.ret))))) }

def F.entry_Lock_1 : IFunc :=
  { lb := [], scr := false, nargs := 2, res := [.tmp 3],
    body := .seq (.region [⟨(some 3), .mov (.const (.int .i64 0)), none, 0⟩])
      (.seq (.region [⟨(some 4), .mov (.tmp 0), none, 0⟩,
        ⟨(some 5), .load none (.tmp 1), none, 0⟩,
        ⟨(some 6), .nilchk (.tmp 4), none, 0⟩,
        ⟨(some 7), .faddr 4 (.tmp 6), none, 0⟩,
        ⟨none, .store 1 (.tmp 7) (.tmp 5), none, 0⟩])
      (.seq (.region [⟨(some 3), .mov (.const (.int .i64 0)), none, 0⟩])
      (.ret))) }

def F.entry_Move_1 : IFunc :=
  { lb := [], scr := false, nargs := 2, res := [.tmp 3],
    body := .seq (.region [⟨(some 3), .mov (.const (.int .i64 0)), none, 0⟩])
      (.seq (.region [⟨(some 4), .mov (.tmp 0), none, 0⟩,
        ⟨(some 5), .mov (.tmp 0), none, 0⟩,
        ⟨(some 6), .load none (.tmp 1), none, 0⟩,
        ⟨(some 7), .nilchk (.tmp 4), none, 0⟩,
        ⟨(some 8), .faddr 0 (.tmp 7), none, 0⟩,
        ⟨none, .store 1 (.tmp 8) (.tmp 6), none, 0⟩,
        ⟨(some 9), .nilchk (.tmp 5), none, 0⟩,
        ⟨(some 10), .faddr 4 (.tmp 9), none, 0⟩,
        ⟨none, .store 1 (.tmp 10) (.const (.bool false)), none, 0⟩])
      (.seq (.region [⟨(some 3), .mov (.const (.int .i64 0)), none, 0⟩])
      (.ret))) }

def F.layout_Layout_Epoch : IFunc :=
  { lb := [1], scr := true, nargs := 1, res := [.tmp 2],
    body := .seq (.region [⟨(some 1), .lbox (.tmp 0), none, 0⟩,
        ⟨(some 2), .mov (.const (.int .i64 0)), none, 0⟩])
      (.seq (.region [⟨(some 3), .lload none 1 0 (some 2), none, 0⟩,
        ⟨(some 4), .call Id.layout_Layout_once [.tmp 3, .const (.int .i64 3)], none, 0⟩,
        ⟨(some 2), .mov (.tmp 4), none, 0⟩])
      (.ret)) }

def F.head_Older : IFunc :=
  { lb := [], scr := true, nargs := 2, res := [.tmp 4],
    body := .seq (.region [⟨(some 4), .mov (.const (.bool false)), none, 0⟩])
      (.seq (.region [⟨(some 8), .mov (.tmp 0), none, 0⟩,
        ⟨(some 9), .call Id.head_Inside [.tmp 8], none, 0⟩,
        ⟨(some 7), .mov (.tmp 9), none, 0⟩,
        ⟨(some 10), .extract (.tmp 7) 0, none, 0⟩,
        ⟨(some 11), .extract (.tmp 7) 1, none, 0⟩,
        ⟨(some 5), .mov (.tmp 10), none, 0⟩,
        ⟨(some 6), .mov (.tmp 11), none, 0⟩])
      (.seq (.region [⟨(some 12), .mov (.tmp 6), none, 0⟩,
        ⟨(some 13), .mov (.tmp 12), none, 0⟩,
        ⟨(some 14), .mov (.tmp 5), (some (13, true)), 0⟩,
        ⟨(some 15), .mov (.tmp 1), (some (13, true)), 0⟩,
        ⟨(some 16), .bin .lss (.tmp 14) (.tmp 15), (some (13, true)), 0⟩,
        ⟨(some 17), .pick (.tmp 13) (.tmp 16) (.const (.bool false)), none, 0⟩,
        ⟨(some 4), .mov (.tmp 17), none, 0⟩])
      (.ret))) }

def F.layout_Layout_Note : IFunc :=
  { lb := [2], scr := true, nargs := 2, res := [.tmp 4],
    body := .seq (.region [⟨(some 2), .lbox (.tmp 0), none, 0⟩,
        ⟨(some 4), .mov (.const (.int .i64 0)), none, 0⟩])
      (.seq (.seq (.region [⟨(some 5), .mov (.tmp 1), none, 0⟩,
        ⟨(some 6), .laddr none 2 0, none, 0⟩,
        ⟨(some 7), .lload (some 6) 2 0 none, none, 0⟩,
        ⟨(some 8), .bin .sub (.tmp 7) (.const (.int .i64 1)), none, 0⟩,
        ⟨(some 9), .call Id.layout_in [.tmp 5, .const (.int .i64 0), .tmp 8], none, 0⟩,
        ⟨(some 10), .un .not (.tmp 9), none, 0⟩])
      (.cond (.tmp 10)
        (.seq (.region [⟨(some 4), .mov (.const (.int .i64 (-1))), none, 0⟩])
        (.ret))
        (.skip)))
      (.seq (.region [⟨(some 11), .mov (.tmp 1), none, 0⟩,
        ⟨(some 12), .bin .add (.const (.int .i64 4)) (.tmp 11), none, 0⟩,
        ⟨(some 4), .mov (.tmp 12), none, 0⟩])
      (.ret))) }

def F.field_Put : IFunc :=
  { lb := [4], scr := true, nargs := 3, res := [.tmp 6, .tmp 7],
    body := .seq (.region [⟨(some 4), .lbox (.tmp 1), none, 0⟩,
        ⟨(some 6), .mov (.const (.int .i64 0)), none, 0⟩,
        ⟨(some 7), .mov (.const (.int .i64 0)), none, 0⟩])
      (.seq (.block 0 (.seq (.region [⟨(some 9), .mov (.tmp 0), none, 0⟩,
        ⟨(some 10), .call Id.field_word [.tmp 9], none, 0⟩,
        ⟨(some 11), .un .not (.tmp 10), none, 0⟩,
        ⟨(some 12), .mov (.tmp 11), none, 0⟩,
        ⟨(some 13), .lload none 4 0 (some 2), (some (12, false)), 0⟩,
        ⟨(some 14), .call Id.field_Field_may [.tmp 13], (some (12, false)), 0⟩,
        ⟨(some 15), .un .not (.tmp 14), (some (12, false)), 0⟩,
        ⟨(some 16), .pick (.tmp 12) (.const (.bool true)) (.tmp 15), none, 0⟩,
        ⟨(some 17), .mov (.tmp 16), none, 0⟩,
        ⟨(some 18), .mov (.tmp 2), (some (17, false)), 0⟩,
        ⟨(some 19), .bin .lss (.tmp 18) (.const (.int .i64 0)), (some (17, false)), 0⟩,
        ⟨(some 20), .pick (.tmp 17) (.const (.bool true)) (.tmp 19), none, 0⟩,
        ⟨(some 8), .mov (.tmp 20), none, 0⟩])
      (.cond (.tmp 8)
        (.seq (.region [⟨(some 6), .mov (.const (.int .i64 0)), none, 0⟩,
          ⟨(some 7), .mov (.const (.int .i64 1)), none, 0⟩])
        (.ret))
        (.seq (.region [⟨(some 22), .mov (.tmp 2), none, 0⟩,
          ⟨(some 23), .lload none 4 0 (some 2), none, 0⟩,
          ⟨(some 24), .call Id.field_Field_most [.tmp 23], none, 0⟩,
          ⟨(some 25), .bin .gtr (.tmp 22) (.tmp 24), none, 0⟩,
          ⟨(some 21), .mov (.tmp 25), none, 0⟩])
        (.cond (.tmp 21)
          (.seq (.region [⟨(some 6), .mov (.const (.int .i64 0)), none, 0⟩,
            ⟨(some 7), .mov (.const (.int .i64 3)), none, 0⟩])
          (.ret))
          (.skip))))))
      (.seq (.region [⟨(some 27), .lload none 4 0 (some 2), none, 0⟩,
        ⟨(some 28), .call Id.field_Field_mask [.tmp 27], none, 0⟩,
        ⟨(some 26), .mov (.tmp 0), none, 0⟩,
        ⟨(some 29), .bin .andNot (.tmp 26) (.tmp 28), none, 0⟩,
        ⟨(some 30), .mov (.tmp 2), none, 0⟩,
        ⟨(some 31), .laddr none 4 0, none, 0⟩,
        ⟨(some 32), .lload (some 31) 4 0 none, none, 0⟩,
        ⟨(some 33), .bin .shl (.tmp 30) (.tmp 32), none, 0⟩,
        ⟨(some 34), .bin .or (.tmp 29) (.tmp 33), none, 0⟩,
        ⟨(some 6), .mov (.tmp 34), none, 0⟩,
        ⟨(some 7), .mov (.const (.int .i64 0)), none, 0⟩])
      (.ret))) }

def F.head_topField : IFunc :=
  { lb := [0], scr := true, nargs := 0, res := [.lb 0 (some 2)],
    body := .seq (.region [⟨(some 0), .lbox (.const (.agg #[.int .i64 0, .int .i64 0])), none, 0⟩])
      (.seq (.region [⟨(some 1), .build [.int .i64 0, .int .i64 0] [(0, 1, .const (.int .i64 0)), (1, 1, .const (.int .i64 20))], none, 0⟩,
        ⟨(some 0), .lstore none 0 0 2 (.tmp 1), none, 0⟩])
      (.ret)) }

def F.head_front_top : IFunc :=
  { lb := [], scr := true, nargs := 1, res := [.tmp 2],
    body := .seq (.region [⟨(some 2), .mov (.const (.int .i64 0)), none, 0⟩])
      (.seq (.region [⟨(some 3), .mov (.tmp 0), none, 0⟩,
        ⟨(some 4), .re (.tmp 3), none, 0⟩,
        ⟨(some 5), .conv (.int .i64) (.tmp 4), none, 0⟩,
        ⟨(some 2), .mov (.tmp 5), none, 0⟩])
      (.ret)) }

def F.head_tagField : IFunc :=
  { lb := [0], scr := true, nargs := 0, res := [.lb 0 (some 2)],
    body := .seq (.region [⟨(some 0), .lbox (.const (.agg #[.int .i64 0, .int .i64 0])), none, 0⟩])
      (.seq (.region [⟨(some 1), .build [.int .i64 0, .int .i64 0] [(0, 1, .const (.int .i64 20)), (1, 1, .const (.int .i64 32))], none, 0⟩,
        ⟨(some 0), .lstore none 0 0 2 (.tmp 1), none, 0⟩])
      (.ret)) }

def F.head_front_tag : IFunc :=
  { lb := [], scr := true, nargs := 1, res := [.tmp 2],
    body := .seq (.region [⟨(some 2), .mov (.const (.int .i64 0)), none, 0⟩])
      (.seq (.region [⟨(some 3), .mov (.tmp 0), none, 0⟩,
        ⟨(some 4), .im (.tmp 3), none, 0⟩,
        ⟨(some 5), .conv (.int .i64) (.tmp 4), none, 0⟩,
        ⟨(some 2), .mov (.tmp 5), none, 0⟩])
      (.ret)) }

def F.field_word : IFunc :=
  { lb := [], scr := true, nargs := 1, res := [.tmp 2],
    body := .seq (.region [⟨(some 2), .mov (.const (.bool false)), none, 0⟩])
      (.seq (.region [⟨(some 3), .mov (.tmp 0), none, 0⟩,
        ⟨(some 4), .bin .geq (.tmp 3) (.const (.int .i64 0)), none, 0⟩,
        ⟨(some 5), .mov (.tmp 4), none, 0⟩,
        ⟨(some 6), .mov (.tmp 0), (some (5, true)), 0⟩,
        ⟨(some 7), .bin .lss (.tmp 6) (.const (.int .i64 4611686018427387904)), (some (5, true)), 0⟩,
        ⟨(some 8), .pick (.tmp 5) (.tmp 7) (.const (.bool false)), none, 0⟩,
        ⟨(some 2), .mov (.tmp 8), none, 0⟩])
      (.ret)) }

def F.field_told : IFunc :=
  { lb := [3], scr := true, nargs := 3, res := [.tmp 6],
    body := .seq (.region [⟨(some 3), .lbox (.tmp 0), none, 0⟩,
        ⟨(some 6), .mov (.const (.int .i64 0)), none, 0⟩])
      (.seq (.seq (.region [⟨(some 7), .lload none 3 0 (some 2), none, 0⟩,
        ⟨(some 8), .call Id.field_Field_may [.tmp 7], none, 0⟩,
        ⟨(some 9), .un .not (.tmp 8), none, 0⟩])
      (.cond (.tmp 9)
        (.seq (.region [⟨(some 10), .mov (.tmp 2), none, 0⟩,
          ⟨(some 6), .mov (.tmp 10), none, 0⟩])
        (.ret))
        (.skip)))
      (.seq (.region [⟨(some 11), .mov (.tmp 1), none, 0⟩,
        ⟨(some 12), .lload none 3 0 (some 2), none, 0⟩,
        ⟨(some 13), .callv (.tmp 11) [.tmp 12], none, 0⟩,
        ⟨(some 6), .mov (.tmp 13), none, 0⟩])
      (.ret))) }

def F.field_Field_mask : IFunc :=
  { lb := [1], scr := true, nargs := 1, res := [.tmp 2],
    body := .seq (.region [⟨(some 1), .lbox (.tmp 0), none, 0⟩,
        ⟨(some 2), .mov (.const (.int .i64 0)), none, 0⟩])
      (.seq (.region [⟨(some 3), .lload none 1 0 (some 2), none, 0⟩,
        ⟨(some 4), .call Id.field_Field_most [.tmp 3], none, 0⟩,
        ⟨(some 5), .laddr none 1 0, none, 0⟩,
        ⟨(some 6), .lload (some 5) 1 0 none, none, 0⟩,
        ⟨(some 7), .bin .shl (.tmp 4) (.tmp 6), none, 0⟩,
        ⟨(some 2), .mov (.tmp 7), none, 0⟩])
      (.ret)) }

def F.entry_in : IFunc :=
  { lb := [], scr := true, nargs := 2, res := [.tmp 4],
    body := .seq (.region [⟨(some 4), .mov (.const (.bool false)), none, 0⟩])
      (.seq (.region [⟨(some 5), .mov (.tmp 0), none, 0⟩,
        ⟨(some 6), .bin .geq (.tmp 5) (.const (.int .i64 0)), none, 0⟩,
        ⟨(some 7), .mov (.tmp 6), none, 0⟩,
        ⟨(some 8), .mov (.tmp 0), (some (7, true)), 0⟩,
        ⟨(some 9), .mov (.tmp 1), (some (7, true)), 0⟩,
        ⟨(some 10), .bin .leq (.tmp 8) (.tmp 9), (some (7, true)), 0⟩,
        ⟨(some 11), .pick (.tmp 7) (.tmp 10) (.const (.bool false)), none, 0⟩,
        ⟨(some 4), .mov (.tmp 11), none, 0⟩])
      (.ret)) }

def F.slices_Clone_Lplan_Object : IFunc :=
  { lb := [], scr := true, nargs := 1, res := [.tmp 2],
    body := .seq (.region [⟨(some 2), .mov (.const (.slice none 0 0)), none, 0⟩])
      (.seq (.seq (.region [⟨(some 3), .mov (.tmp 0), none, 0⟩,
        ⟨(some 4), .eqv false (.nil 1) (.tmp 3) (.const (.slice none 0 0)), none, 0⟩])
      (.cond (.tmp 4)
        (.seq (.region [⟨(some 2), .mov (.const (.slice none 0 0)), none, 0⟩])
        (.ret))
        (.skip)))
      (.seq (.region [⟨(some 5), .buildSlice 4 0 [] [], none, 0⟩,
        ⟨(some 6), .mov (.tmp 0), none, 0⟩,
        ⟨(some 7), .append 4 32 (.tmp 5) (.tmp 6), none, 0⟩,
        ⟨(some 2), .mov (.tmp 7), none, 0⟩])
      (.ret))) }

def F.slices_SortStableFunc_Lplan_Object : IFunc :=
  { lb := [], scr := false, nargs := 2, res := [],
    body := .region [⟨(some 4), .mov (.tmp 0), none, 0⟩,
        ⟨(some 5), .mov (.tmp 0), none, 0⟩,
        ⟨(some 6), .len false (.tmp 5), none, 0⟩,
        ⟨(some 7), .mov (.tmp 1), none, 0⟩,
        ⟨(some 8), .call Id.slices_stableCmpFunc_plan_Object [.tmp 4, .tmp 6, .tmp 7], none, 0⟩] }

def F.plan_byPlace : IFunc :=
  { lb := [2, 3], scr := true, nargs := 2, res := [.tmp 4],
    body := .seq (.region [⟨(some 2), .lbox (.tmp 0), none, 0⟩,
        ⟨(some 3), .lbox (.tmp 1), none, 0⟩,
        ⟨(some 4), .mov (.const (.int .i64 0)), none, 0⟩])
      (.seq (.region [⟨(some 5), .laddr none 2 1, none, 0⟩,
        ⟨(some 6), .lload (some 5) 2 1 none, none, 0⟩,
        ⟨(some 7), .laddr none 3 1, none, 0⟩,
        ⟨(some 8), .lload (some 7) 3 1 none, none, 0⟩,
        ⟨(some 9), .call Id.cmp_Compare_int [.tmp 6, .tmp 8], none, 0⟩,
        ⟨(some 10), .laddr none 2 0, none, 0⟩,
        ⟨(some 11), .lload (some 10) 2 0 none, none, 0⟩,
        ⟨(some 12), .laddr none 3 0, none, 0⟩,
        ⟨(some 13), .lload (some 12) 3 0 none, none, 0⟩,
        ⟨(some 14), .call Id.cmp_Compare_int [.tmp 11, .tmp 13], none, 0⟩,
        ⟨(some 15), .laddr none 2 2, none, 0⟩,
        ⟨(some 16), .lload (some 15) 2 2 none, none, 0⟩,
        ⟨(some 17), .laddr none 3 2, none, 0⟩,
        ⟨(some 18), .lload (some 17) 3 2 none, none, 0⟩,
        ⟨(some 19), .call Id.cmp_Compare_int [.tmp 16, .tmp 18], none, 0⟩,
        ⟨(some 20), .laddr none 2 3, none, 0⟩,
        ⟨(some 21), .lload (some 20) 2 3 none, none, 0⟩,
        ⟨(some 22), .call Id.plan_bit [.tmp 21], none, 0⟩,
        ⟨(some 23), .laddr none 3 3, none, 0⟩,
        ⟨(some 24), .lload (some 23) 3 3 none, none, 0⟩,
        ⟨(some 25), .call Id.plan_bit [.tmp 24], none, 0⟩,
        ⟨(some 26), .bin .sub (.tmp 22) (.tmp 25), none, 0⟩,
        ⟨(some 27), .buildSlice 1 4 [.int .i64 0, .int .i64 0, .int .i64 0, .int .i64 0] [(0, 1, .tmp 9), (1, 1, .tmp 14), (2, 1, .tmp 19), (3, 1, .tmp 26)], none, 0⟩,
        ⟨(some 28), .call Id.cmp_Or_int [.tmp 27], none, 0⟩,
        ⟨(some 4), .mov (.tmp 28), none, 0⟩])
      (.ret)) }

def F.epoch_NewTurn : IFunc :=
  { lb := [1, 3], scr := false, nargs := 1, res := [.tmp 2],
    body := .seq (.region [⟨(some 1), .lbox (.tmp 0), none, 0⟩,
        ⟨(some 2), .mov (.const (.pointer none)), none, 0⟩])
      (.seq (.region [⟨(some 7), .lload none 1 0 (some 3), none, 0⟩,
        ⟨(some 8), .call Id.layout_Of [.tmp 7], none, 0⟩,
        ⟨(some 6), .mov (.tmp 8), none, 0⟩,
        ⟨(some 9), .extract (.tmp 6) 0, none, 0⟩,
        ⟨(some 10), .extract (.tmp 6) 1, none, 0⟩,
        ⟨(some 3), .lbox (.const (.agg #[.int .i64 0, .int .i64 0])), none, 0⟩,
        ⟨(some 3), .lstore none 3 0 2 (.tmp 9), none, 0⟩,
        ⟨(some 4), .mov (.tmp 10), none, 0⟩])
      (.seq (.region [⟨(some 11), .lload none 3 0 (some 2), none, 0⟩,
        ⟨(some 12), .laddr none 1 2, none, 0⟩,
        ⟨(some 13), .lload (some 12) 1 2 none, none, 0⟩,
        ⟨(some 14), .build [.int .i64 0, .int .i64 0, .int .i64 0, .int .i64 0, .int .i64 0, .int .i64 0] [(0, 2, .tmp 11), (2, 1, .tmp 13), (3, 1, .const (.int .i64 1))], none, 0⟩,
        ⟨(some 15), .box (.tmp 14), none, 0⟩,
        ⟨(some 5), .mov (.tmp 15), none, 0⟩])
      (.seq (.seq (.region [⟨(some 16), .mov (.tmp 4), none, 0⟩,
        ⟨(some 17), .bin .neq (.tmp 16) (.const (.int .i64 0)), none, 0⟩])
      (.cond (.tmp 17)
        (.region [⟨(some 18), .mov (.tmp 5), none, 0⟩,
          ⟨(some 19), .nilchk (.tmp 18), none, 0⟩,
          ⟨(some 20), .faddr 3 (.tmp 19), none, 0⟩,
          ⟨none, .store 1 (.tmp 20) (.const (.int .i64 0)), none, 0⟩])
        (.skip)))
      (.seq (.region [⟨(some 21), .mov (.tmp 5), none, 0⟩,
        ⟨(some 2), .mov (.tmp 21), none, 0⟩])
      (.ret))))) }

def F.entry_Pack : IFunc :=
  { lb := [1], scr := true, nargs := 1, res := [.tmp 2, .tmp 3],
    body := .seq (.region [⟨(some 1), .lbox (.tmp 0), none, 0⟩,
        ⟨(some 2), .mov (.const (.int .i64 0)), none, 0⟩,
        ⟨(some 3), .mov (.const (.int .i64 0)), none, 0⟩])
      (.seq (.seq (.region [⟨(some 7), .lload none 1 0 (some 6), none, 0⟩,
        ⟨(some 8), .call Id.entry_Entry_may [.tmp 7], none, 0⟩,
        ⟨(some 9), .un .not (.tmp 8), none, 0⟩])
      (.cond (.tmp 9)
        (.seq (.region [⟨(some 2), .mov (.const (.int .i64 0)), none, 0⟩,
          ⟨(some 3), .mov (.const (.int .i64 1)), none, 0⟩])
        (.ret))
        (.skip)))
      (.seq (.region [⟨(some 4), .mov (.const (.int .i64 0)), none, 0⟩])
      (.seq (.seq (.region [⟨(some 18), .laddr none 1 4, none, 0⟩,
        ⟨(some 19), .lload (some 18) 1 4 none, none, 0⟩,
        ⟨(some 20), .call Id.entry_bit [.tmp 19], none, 0⟩,
        ⟨(some 21), .laddr none 1 5, none, 0⟩,
        ⟨(some 22), .lload (some 21) 1 5 none, none, 0⟩,
        ⟨(some 23), .call Id.entry_bit [.tmp 22], none, 0⟩,
        ⟨(some 10), .laddr none 1 0, none, 0⟩,
        ⟨(some 11), .lload (some 10) 1 0 none, none, 0⟩,
        ⟨(some 12), .laddr none 1 1, none, 0⟩,
        ⟨(some 13), .lload (some 12) 1 1 none, none, 0⟩,
        ⟨(some 14), .laddr none 1 2, none, 0⟩,
        ⟨(some 15), .lload (some 14) 1 2 none, none, 0⟩,
        ⟨(some 16), .laddr none 1 3, none, 0⟩,
        ⟨(some 17), .lload (some 16) 1 3 none, none, 0⟩,
        ⟨(some 24), .build [.int .i64 0, .int .i64 0, .int .i64 0, .int .i64 0, .int .i64 0, .int .i64 0] [(0, 1, .tmp 11), (1, 1, .tmp 13), (2, 1, .tmp 15), (3, 1, .tmp 17), (4, 1, .tmp 20), (5, 1, .tmp 23)], none, 0⟩,
        ⟨(some 25), .mov (.const (.int .i64 0)), none, 0⟩])
      (.block 0 (.loop [4, 24, 25]
        (.seq (.region [⟨(some 26), .bin .lss (.tmp 25) (.const (.int .i64 6)), none, 0⟩])
        (.seq (.cond (.tmp 26)
          (.skip)
          (.exit 0))
        (.seq (.block 1 (.seq (.region [⟨(some 27), .mov (.tmp 25), none, 0⟩,
          ⟨(some 28), .index 6 1 none (.tmp 24) (.tmp 25), none, 0⟩,
          ⟨(some 5), .mov (.tmp 27), none, 0⟩,
          ⟨(some 6), .mov (.tmp 28), none, 0⟩])
        (.region [⟨(some 30), .mov (.tmp 4), none, 0⟩,
          ⟨(some 31), .call Id.entry_fields [], none, 0⟩,
          ⟨(some 32), .mov (.tmp 5), none, 0⟩,
          ⟨(some 33), .index 6 2 (some 2) (.tmp 31) (.tmp 32), none, 0⟩,
          ⟨(some 34), .mov (.tmp 6), none, 0⟩,
          ⟨(some 35), .call Id.field_Put [.tmp 30, .tmp 33, .tmp 34], none, 0⟩,
          ⟨(some 29), .mov (.tmp 35), none, 0⟩,
          ⟨(some 36), .extract (.tmp 29) 0, none, 0⟩,
          ⟨(some 37), .extract (.tmp 29) 1, none, 0⟩,
          ⟨(some 4), .mov (.tmp 36), none, 0⟩])))
        (.region [⟨(some 38), .bin .add (.tmp 25) (.const (.int .i64 1)), none, 0⟩,
          ⟨(some 25), .mov (.tmp 38), none, 0⟩])))))))
      (.seq (.region [⟨(some 39), .mov (.tmp 4), none, 0⟩,
        ⟨(some 2), .mov (.tmp 39), none, 0⟩,
        ⟨(some 3), .mov (.const (.int .i64 0)), none, 0⟩])
      (.ret))))) }

def F.head_Inside : IFunc :=
  { lb := [], scr := true, nargs := 1, res := [.tmp 2, .tmp 3],
    body := .seq (.region [⟨(some 2), .mov (.const (.int .i64 0)), none, 0⟩,
        ⟨(some 3), .mov (.const (.bool false)), none, 0⟩])
      (.seq (.seq (.region [⟨(some 4), .mov (.tmp 0), none, 0⟩,
        ⟨(some 5), .bin .leq (.tmp 4) (.const (.int .i64 0)), none, 0⟩])
      (.cond (.tmp 5)
        (.seq (.region [⟨(some 2), .mov (.const (.int .i64 0)), none, 0⟩,
          ⟨(some 3), .mov (.const (.bool false)), none, 0⟩])
        (.ret))
        (.skip)))
      (.seq (.region [⟨(some 6), .mov (.tmp 0), none, 0⟩,
        ⟨(some 7), .bin .sub (.tmp 6) (.const (.int .i64 1)), none, 0⟩,
        ⟨(some 2), .mov (.tmp 7), none, 0⟩,
        ⟨(some 3), .mov (.const (.bool true)), none, 0⟩])
      (.ret))) }

def F.field_Field_may : IFunc :=
  { lb := [1], scr := true, nargs := 1, res := [.tmp 2],
    body := .seq (.region [⟨(some 1), .lbox (.tmp 0), none, 0⟩,
        ⟨(some 2), .mov (.const (.bool false)), none, 0⟩])
      (.seq (.region [⟨(some 3), .laddr none 1 0, none, 0⟩,
        ⟨(some 4), .lload (some 3) 1 0 none, none, 0⟩,
        ⟨(some 5), .bin .geq (.tmp 4) (.const (.int .i64 0)), none, 0⟩,
        ⟨(some 6), .mov (.tmp 5), none, 0⟩,
        ⟨(some 7), .laddr none 1 1, (some (6, true)), 0⟩,
        ⟨(some 8), .lload (some 7) 1 1 none, (some (6, true)), 0⟩,
        ⟨(some 9), .bin .geq (.tmp 8) (.const (.int .i64 1)), (some (6, true)), 0⟩,
        ⟨(some 10), .pick (.tmp 6) (.tmp 9) (.const (.bool false)), none, 0⟩,
        ⟨(some 11), .mov (.tmp 10), none, 0⟩,
        ⟨(some 12), .laddr none 1 1, (some (11, true)), 0⟩,
        ⟨(some 13), .lload (some 12) 1 1 none, (some (11, true)), 0⟩,
        ⟨(some 14), .bin .leq (.tmp 13) (.const (.int .i64 32)), (some (11, true)), 0⟩,
        ⟨(some 15), .pick (.tmp 11) (.tmp 14) (.const (.bool false)), none, 0⟩,
        ⟨(some 16), .mov (.tmp 15), none, 0⟩,
        ⟨(some 17), .laddr none 1 0, (some (16, true)), 0⟩,
        ⟨(some 18), .lload (some 17) 1 0 none, (some (16, true)), 0⟩,
        ⟨(some 19), .laddr none 1 1, (some (16, true)), 0⟩,
        ⟨(some 20), .lload (some 19) 1 1 none, (some (16, true)), 0⟩,
        ⟨(some 21), .bin .sub (.const (.int .i64 62)) (.tmp 20), (some (16, true)), 0⟩,
        ⟨(some 22), .bin .leq (.tmp 18) (.tmp 21), (some (16, true)), 0⟩,
        ⟨(some 23), .pick (.tmp 16) (.tmp 22) (.const (.bool false)), none, 0⟩,
        ⟨(some 2), .mov (.tmp 23), none, 0⟩])
      (.ret)) }

def F.field_Field_most : IFunc :=
  { lb := [1], scr := true, nargs := 1, res := [.tmp 2],
    body := .seq (.region [⟨(some 1), .lbox (.tmp 0), none, 0⟩,
        ⟨(some 2), .mov (.const (.int .i64 0)), none, 0⟩])
      (.seq (.region [⟨(some 3), .laddr none 1 1, none, 0⟩,
        ⟨(some 4), .lload (some 3) 1 1 none, none, 0⟩,
        ⟨(some 5), .bin .shl (.const (.int .i64 1)) (.tmp 4), none, 0⟩,
        ⟨(some 6), .bin .sub (.tmp 5) (.const (.int .i64 1)), none, 0⟩,
        ⟨(some 2), .mov (.tmp 6), none, 0⟩])
      (.ret)) }

def F.slices_stableCmpFunc_plan_Object : IFunc :=
  { lb := [], scr := false, nargs := 3, res := [],
    body := .seq (.region [⟨(some 6), .mov (.const (.int .i64 20)), none, 0⟩])
      (.seq (.region [⟨(some 10), .mov (.tmp 6), none, 0⟩,
        ⟨(some 7), .mov (.const (.int .i64 0)), none, 0⟩,
        ⟨(some 8), .mov (.tmp 10), none, 0⟩])
      (.seq (.block 0 (.loop [0, 1, 2, 6, 7, 8]
        (.seq (.seq (.region [⟨(some 11), .mov (.tmp 8), none, 0⟩,
          ⟨(some 12), .mov (.tmp 1), none, 0⟩,
          ⟨(some 13), .bin .leq (.tmp 11) (.tmp 12), none, 0⟩])
        (.cond (.tmp 13)
          (.skip)
          (.exit 0)))
        (.block 1 (.seq (.region [⟨(some 14), .mov (.tmp 0), none, 0⟩,
          ⟨(some 15), .mov (.tmp 7), none, 0⟩,
          ⟨(some 16), .mov (.tmp 8), none, 0⟩,
          ⟨(some 17), .mov (.tmp 2), none, 0⟩,
          ⟨(some 18), .call Id.slices_insertionSortCmpFunc_plan_Object [.tmp 14, .tmp 15, .tmp 16, .tmp 17], none, 0⟩])
        (.seq (.region [⟨(some 19), .mov (.tmp 8), none, 0⟩,
          ⟨(some 7), .mov (.tmp 19), none, 0⟩])
        (.region [⟨(some 20), .mov (.tmp 8), none, 0⟩,
          ⟨(some 21), .mov (.tmp 6), none, 0⟩,
          ⟨(some 22), .bin .add (.tmp 20) (.tmp 21), none, 0⟩,
          ⟨(some 8), .mov (.tmp 22), none, 0⟩])))))))
      (.seq (.region [⟨(some 23), .mov (.tmp 0), none, 0⟩,
        ⟨(some 24), .mov (.tmp 7), none, 0⟩,
        ⟨(some 25), .mov (.tmp 1), none, 0⟩,
        ⟨(some 26), .mov (.tmp 2), none, 0⟩,
        ⟨(some 27), .call Id.slices_insertionSortCmpFunc_plan_Object [.tmp 23, .tmp 24, .tmp 25, .tmp 26], none, 0⟩])
      (.block 2 (.loop [0, 1, 2, 6]
        (.seq (.seq (.region [⟨(some 28), .mov (.tmp 6), none, 0⟩,
          ⟨(some 29), .mov (.tmp 1), none, 0⟩,
          ⟨(some 30), .bin .lss (.tmp 28) (.tmp 29), none, 0⟩])
        (.cond (.tmp 30)
          (.skip)
          (.exit 2)))
        (.block 3 (.seq (.region [⟨(some 31), .mov (.tmp 6), none, 0⟩,
          ⟨(some 32), .bin .mul (.const (.int .i64 2)) (.tmp 31), none, 0⟩,
          ⟨(some 7), .mov (.const (.int .i64 0)), none, 0⟩,
          ⟨(some 8), .mov (.tmp 32), none, 0⟩])
        (.seq (.block 4 (.loop [0, 1, 2, 6, 7, 8]
          (.seq (.seq (.region [⟨(some 33), .mov (.tmp 8), none, 0⟩,
            ⟨(some 34), .mov (.tmp 1), none, 0⟩,
            ⟨(some 35), .bin .leq (.tmp 33) (.tmp 34), none, 0⟩])
          (.cond (.tmp 35)
            (.skip)
            (.exit 4)))
          (.block 5 (.seq (.region [⟨(some 36), .mov (.tmp 0), none, 0⟩,
            ⟨(some 37), .mov (.tmp 7), none, 0⟩,
            ⟨(some 38), .mov (.tmp 7), none, 0⟩,
            ⟨(some 39), .mov (.tmp 6), none, 0⟩,
            ⟨(some 40), .bin .add (.tmp 38) (.tmp 39), none, 0⟩,
            ⟨(some 41), .mov (.tmp 8), none, 0⟩,
            ⟨(some 42), .mov (.tmp 2), none, 0⟩,
            ⟨(some 43), .call Id.slices_symMergeCmpFunc_plan_Object [.tmp 36, .tmp 37, .tmp 40, .tmp 41, .tmp 42], none, 0⟩])
          (.seq (.region [⟨(some 44), .mov (.tmp 8), none, 0⟩,
            ⟨(some 7), .mov (.tmp 44), none, 0⟩])
          (.region [⟨(some 45), .mov (.tmp 8), none, 0⟩,
            ⟨(some 46), .mov (.tmp 6), none, 0⟩,
            ⟨(some 47), .bin .mul (.const (.int .i64 2)) (.tmp 46), none, 0⟩,
            ⟨(some 48), .bin .add (.tmp 45) (.tmp 47), none, 0⟩,
            ⟨(some 8), .mov (.tmp 48), none, 0⟩])))))))
        (.seq (.seq (.region [⟨(some 49), .mov (.tmp 7), none, 0⟩,
          ⟨(some 50), .mov (.tmp 6), none, 0⟩,
          ⟨(some 51), .bin .add (.tmp 49) (.tmp 50), none, 0⟩,
          ⟨(some 9), .mov (.tmp 51), none, 0⟩])
        (.seq (.region [⟨(some 52), .mov (.tmp 9), none, 0⟩,
          ⟨(some 53), .mov (.tmp 1), none, 0⟩,
          ⟨(some 54), .bin .lss (.tmp 52) (.tmp 53), none, 0⟩])
        (.cond (.tmp 54)
          (.region [⟨(some 55), .mov (.tmp 0), none, 0⟩,
            ⟨(some 56), .mov (.tmp 7), none, 0⟩,
            ⟨(some 57), .mov (.tmp 9), none, 0⟩,
            ⟨(some 58), .mov (.tmp 1), none, 0⟩,
            ⟨(some 59), .mov (.tmp 2), none, 0⟩,
            ⟨(some 60), .call Id.slices_symMergeCmpFunc_plan_Object [.tmp 55, .tmp 56, .tmp 57, .tmp 58, .tmp 59], none, 0⟩])
          (.skip))))
        (.region [⟨(some 61), .mov (.tmp 6), none, 0⟩,
          ⟨(some 62), .bin .mul (.tmp 61) (.const (.int .i64 2)), none, 0⟩,
          ⟨(some 6), .mov (.tmp 62), none, 0⟩]))))))))))) }

def F.cmp_Or_int : IFunc :=
  { lb := [], scr := true, nargs := 1, res := [.tmp 2],
    body := .seq (.region [⟨(some 2), .mov (.const (.int .i64 0)), none, 0⟩])
      (.seq (.region [⟨(some 3), .mov (.const (.int .i64 0)), none, 0⟩])
      (.seq (.seq (.region [⟨(some 6), .mov (.tmp 0), none, 0⟩,
        ⟨(some 7), .len false (.tmp 6), none, 0⟩,
        ⟨(some 8), .mov (.const (.int .i64 0)), none, 0⟩])
      (.block 0 (.loop [3, 6, 7, 8]
        (.seq (.region [⟨(some 9), .bin .lss (.tmp 8) (.tmp 7), none, 0⟩])
        (.seq (.cond (.tmp 9)
          (.skip)
          (.exit 0))
        (.seq (.block 1 (.seq (.region [⟨(some 10), .iaddr none 1 (.tmp 6) (.tmp 8), none, 0⟩,
          ⟨(some 11), .load none (.tmp 10), none, 0⟩,
          ⟨(some 5), .mov (.tmp 11), none, 0⟩])
        (.seq (.region [⟨(some 12), .mov (.tmp 5), none, 0⟩,
          ⟨(some 13), .mov (.tmp 3), none, 0⟩,
          ⟨(some 14), .bin .neq (.tmp 12) (.tmp 13), none, 0⟩])
        (.cond (.tmp 14)
          (.seq (.region [⟨(some 15), .mov (.tmp 5), none, 0⟩,
            ⟨(some 2), .mov (.tmp 15), none, 0⟩])
          (.ret))
          (.skip)))))
        (.region [⟨(some 16), .bin .add (.tmp 8) (.const (.int .i64 1)), none, 0⟩,
          ⟨(some 8), .mov (.tmp 16), none, 0⟩])))))))
      (.seq (.region [⟨(some 17), .mov (.tmp 3), none, 0⟩,
        ⟨(some 2), .mov (.tmp 17), none, 0⟩])
      (.ret)))) }

def F.cmp_Compare_int : IFunc :=
  { lb := [], scr := true, nargs := 2, res := [.tmp 4],
    body := .seq (.region [⟨(some 4), .mov (.const (.int .i64 0)), none, 0⟩])
      (.seq (.region [⟨(some 7), .mov (.tmp 0), none, 0⟩,
        ⟨(some 8), .call Id.cmp_isNaN_int [.tmp 7], none, 0⟩,
        ⟨(some 5), .mov (.tmp 8), none, 0⟩])
      (.seq (.region [⟨(some 9), .mov (.tmp 1), none, 0⟩,
        ⟨(some 10), .call Id.cmp_isNaN_int [.tmp 9], none, 0⟩,
        ⟨(some 6), .mov (.tmp 10), none, 0⟩])
      (.seq (.seq (.region [⟨(some 11), .mov (.tmp 5), none, 0⟩])
      (.cond (.tmp 11)
        (.seq (.seq (.region [⟨(some 12), .mov (.tmp 6), none, 0⟩])
        (.cond (.tmp 12)
          (.seq (.region [⟨(some 4), .mov (.const (.int .i64 0)), none, 0⟩])
          (.ret))
          (.skip)))
        (.seq (.region [⟨(some 4), .mov (.const (.int .i64 (-1))), none, 0⟩])
        (.ret)))
        (.skip)))
      (.seq (.seq (.region [⟨(some 13), .mov (.tmp 6), none, 0⟩])
      (.cond (.tmp 13)
        (.seq (.region [⟨(some 4), .mov (.const (.int .i64 1)), none, 0⟩])
        (.ret))
        (.skip)))
      (.seq (.seq (.region [⟨(some 14), .mov (.tmp 0), none, 0⟩,
        ⟨(some 15), .mov (.tmp 1), none, 0⟩,
        ⟨(some 16), .bin .lss (.tmp 14) (.tmp 15), none, 0⟩])
      (.cond (.tmp 16)
        (.seq (.region [⟨(some 4), .mov (.const (.int .i64 (-1))), none, 0⟩])
        (.ret))
        (.skip)))
      (.seq (.seq (.region [⟨(some 17), .mov (.tmp 0), none, 0⟩,
        ⟨(some 18), .mov (.tmp 1), none, 0⟩,
        ⟨(some 19), .bin .gtr (.tmp 17) (.tmp 18), none, 0⟩])
      (.cond (.tmp 19)
        (.seq (.region [⟨(some 4), .mov (.const (.int .i64 1)), none, 0⟩])
        (.ret))
        (.skip)))
      (.seq (.region [⟨(some 4), .mov (.const (.int .i64 0)), none, 0⟩])
      (.ret)))))))) }

def F.plan_bit : IFunc :=
  { lb := [], scr := true, nargs := 1, res := [.tmp 2],
    body := .seq (.region [⟨(some 2), .mov (.const (.int .i64 0)), none, 0⟩])
      (.seq (.seq (.region [⟨(some 3), .mov (.tmp 0), none, 0⟩])
      (.cond (.tmp 3)
        (.seq (.region [⟨(some 2), .mov (.const (.int .i64 1)), none, 0⟩])
        (.ret))
        (.skip)))
      (.seq (.region [⟨(some 2), .mov (.const (.int .i64 0)), none, 0⟩])
      (.ret))) }

def F.entry_bit : IFunc :=
  { lb := [], scr := true, nargs := 1, res := [.tmp 2],
    body := .seq (.region [⟨(some 2), .mov (.const (.int .i64 0)), none, 0⟩])
      (.seq (.seq (.region [⟨(some 3), .mov (.tmp 0), none, 0⟩])
      (.cond (.tmp 3)
        (.seq (.region [⟨(some 2), .mov (.const (.int .i64 1)), none, 0⟩])
        (.ret))
        (.skip)))
      (.seq (.region [⟨(some 2), .mov (.const (.int .i64 0)), none, 0⟩])
      (.ret))) }

def F.slices_insertionSortCmpFunc_plan_Object : IFunc :=
  { lb := [], scr := false, nargs := 4, res := [],
    body := .seq (.region [⟨(some 10), .mov (.tmp 1), none, 0⟩,
        ⟨(some 11), .bin .add (.tmp 10) (.const (.int .i64 1)), none, 0⟩,
        ⟨(some 8), .mov (.tmp 11), none, 0⟩])
      (.block 0 (.loop [0, 1, 2, 3, 8]
        (.seq (.seq (.region [⟨(some 12), .mov (.tmp 8), none, 0⟩,
          ⟨(some 13), .mov (.tmp 2), none, 0⟩,
          ⟨(some 14), .bin .lss (.tmp 12) (.tmp 13), none, 0⟩])
        (.cond (.tmp 14)
          (.skip)
          (.exit 0)))
        (.seq (.block 1 (.seq (.region [⟨(some 17), .mov (.tmp 8), none, 0⟩,
          ⟨(some 9), .mov (.tmp 17), none, 0⟩])
        (.block 2 (.loop [0, 1, 2, 3, 8, 9]
          (.seq (.seq (.region [⟨(some 18), .mov (.tmp 9), none, 0⟩,
            ⟨(some 19), .mov (.tmp 1), none, 0⟩,
            ⟨(some 20), .bin .gtr (.tmp 18) (.tmp 19), none, 0⟩,
            ⟨(some 21), .mov (.tmp 20), none, 0⟩,
            ⟨(some 22), .mov (.tmp 3), (some (21, true)), 0⟩,
            ⟨(some 23), .mov (.tmp 0), (some (21, true)), 0⟩,
            ⟨(some 24), .mov (.tmp 9), (some (21, true)), 0⟩,
            ⟨(some 25), .iaddr none 4 (.tmp 23) (.tmp 24), (some (21, true)), 0⟩,
            ⟨(some 26), .load (some 4) (.tmp 25), (some (21, true)), 0⟩,
            ⟨(some 27), .mov (.tmp 0), (some (21, true)), 0⟩,
            ⟨(some 28), .mov (.tmp 9), (some (21, true)), 0⟩,
            ⟨(some 29), .bin .sub (.tmp 28) (.const (.int .i64 1)), (some (21, true)), 0⟩,
            ⟨(some 30), .iaddr none 4 (.tmp 27) (.tmp 29), (some (21, true)), 0⟩,
            ⟨(some 31), .load (some 4) (.tmp 30), (some (21, true)), 0⟩,
            ⟨(some 32), .callv (.tmp 22) [.tmp 26, .tmp 31], (some (21, true)), 0⟩,
            ⟨(some 33), .bin .lss (.tmp 32) (.const (.int .i64 0)), (some (21, true)), 0⟩,
            ⟨(some 34), .pick (.tmp 21) (.tmp 33) (.const (.bool false)), none, 0⟩])
          (.cond (.tmp 34)
            (.skip)
            (.exit 2)))
          (.seq (.block 3 (.region [⟨(some 37), .mov (.tmp 0), none, 0⟩,
            ⟨(some 38), .mov (.tmp 9), none, 0⟩,
            ⟨(some 42), .mov (.tmp 0), none, 0⟩,
            ⟨(some 43), .mov (.tmp 9), none, 0⟩,
            ⟨(some 44), .bin .sub (.tmp 43) (.const (.int .i64 1)), none, 0⟩,
            ⟨(some 45), .iaddr none 4 (.tmp 42) (.tmp 44), none, 0⟩,
            ⟨(some 46), .load (some 4) (.tmp 45), none, 0⟩,
            ⟨(some 47), .mov (.tmp 0), none, 0⟩,
            ⟨(some 48), .mov (.tmp 9), none, 0⟩,
            ⟨(some 49), .iaddr none 4 (.tmp 47) (.tmp 48), none, 0⟩,
            ⟨(some 50), .load (some 4) (.tmp 49), none, 0⟩,
            ⟨(some 51), .iaddr none 4 (.tmp 37) (.tmp 38), none, 0⟩,
            ⟨none, .store 4 (.tmp 51) (.tmp 46), none, 0⟩,
            ⟨(some 39), .mov (.tmp 0), none, 0⟩,
            ⟨(some 40), .mov (.tmp 9), none, 0⟩,
            ⟨(some 41), .bin .sub (.tmp 40) (.const (.int .i64 1)), none, 0⟩,
            ⟨(some 52), .iaddr none 4 (.tmp 39) (.tmp 41), none, 0⟩,
            ⟨none, .store 4 (.tmp 52) (.tmp 50), none, 0⟩]))
          (.region [⟨(some 35), .mov (.tmp 9), none, 0⟩,
            ⟨(some 36), .bin .sub (.tmp 35) (.const (.int .i64 1)), none, 0⟩,
            ⟨(some 9), .mov (.tmp 36), none, 0⟩])))))))
        (.region [⟨(some 15), .mov (.tmp 8), none, 0⟩,
          ⟨(some 16), .bin .add (.tmp 15) (.const (.int .i64 1)), none, 0⟩,
          ⟨(some 8), .mov (.tmp 16), none, 0⟩]))))) }
end Go.Proofs.Ytfpfknafcgkcjaa
