/- The functions of this seat in the small language: printed by a program. -/
import Derived.Test.YtclgilndihagiaaIrD

namespace Go.Proofs.Ytclgilndihagiaa
open Go Go.Ir

def Id.sidingslaw17_PlanSlides : Nat := 3
def Id.sidingslaw17_PlanOrder : Nat := 4
def Id.sidingslaw17_PlanTight : Nat := 5
def Id.sidingslaw17_PlanFixed : Nat := 6
def Id.sidingslaw17_live : Nat := 7
def Id.plan_Slide : Nat := 8
def Id.sidingslaw17_own : Nat := 9
def Id.sidingsref17_Slide : Nat := 10
def Id.sidingsref17_Moves : Nat := 11
def Id.sidingslaw17_moves : Nat := 12
def Id.sidingsref17_Sort : Nat := 13
def Id.sidingsref17_Apart : Nat := 14
def Id.sidingslaw17_moved : Nat := 15
def Id.plan_Gaps : Nat := 16
def Id.plan_Sort : Nat := 17
def Id.sidingsref17_Same : Nat := 18
def Id.sidingslaw17_told : Nat := 19
def Id.plan_Apart : Nat := 20
def Id.plan_Check : Nat := 21
def Id.sidingsref17_Check : Nat := 22
def Id.sidingsref17_ahead : Nat := 23
def Id.sidingsref17_share : Nat := 24
def Id.plan_spanOf : Nat := 25
def Id.plan_span_end : Nat := 26
def Id.slices_Clone_Lplan_Object : Nat := 27
def Id.slices_SortStableFunc_Lplan_Object : Nat := 28
def Id.plan_byPlace : Nat := 29
def Id.slices_DeleteFunc_Lplan_Object : Nat := 30
def Id.plan_Apart_1 : Nat := 31
def Id.slices_ContainsFunc_Lplan_Object : Nat := 32
def Id.plan_Apart_2 : Nat := 33
def Id.plan_begins : Nat := 34
def Id.plan_Check_1 : Nat := 35
def Id.sidingsref17_has : Nat := 36
def Id.slices_stableCmpFunc_plan_Object : Nat := 37
def Id.cmp_Or_int : Nat := 38
def Id.cmp_Compare_int : Nat := 39
def Id.plan_bit : Nat := 40
def Id.slices_IndexFunc_Lplan_Object : Nat := 41
def Id.slices_insertionSortCmpFunc_plan_Object : Nat := 42
def Id.slices_symMergeCmpFunc_plan_Object : Nat := 43
def Id.cmp_isNaN_int : Nat := 44
def Id.slices_rotateCmpFunc_plan_Object : Nat := 45
def Id.slices_swapRangeCmpFunc_plan_Object : Nat := 46

def F.sidingslaw17_PlanSlides : IFunc :=
  { lb := [], scr := false, nargs := 2, res := [.tmp 4],
    body := .seq (.region [⟨(some 4), .mov (.const (.bool false)), none, 0⟩])
      (.seq (.seq (.region [⟨(some 11), .mov (.tmp 0), none, 0⟩,
        ⟨(some 12), .len false (.tmp 11), none, 0⟩,
        ⟨(some 13), .bin .gtr (.tmp 12) (.const (.int .i64 64)), none, 0⟩])
      (.cond (.tmp 13)
        (.seq (.region [⟨(some 14), .call Id.sidingslaw17_live [], none, 0⟩,
          ⟨(some 4), .mov (.tmp 14), none, 0⟩])
        (.ret))
        (.skip)))
      (.seq (.region [⟨(some 16), .mov (.tmp 0), none, 0⟩,
        ⟨(some 17), .call Id.sidingslaw17_own [.tmp 16], none, 0⟩,
        ⟨(some 18), .mov (.tmp 1), none, 0⟩,
        ⟨(some 19), .call Id.plan_Slide [.tmp 17, .tmp 18], none, 0⟩,
        ⟨(some 15), .mov (.tmp 19), none, 0⟩,
        ⟨(some 20), .extract (.tmp 15) 0, none, 0⟩,
        ⟨(some 21), .extract (.tmp 15) 1, none, 0⟩,
        ⟨(some 22), .extract (.tmp 15) 2, none, 0⟩,
        ⟨(some 5), .mov (.tmp 20), none, 0⟩,
        ⟨(some 6), .mov (.tmp 21), none, 0⟩,
        ⟨(some 7), .mov (.tmp 22), none, 0⟩])
      (.seq (.region [⟨(some 24), .mov (.tmp 0), none, 0⟩,
        ⟨(some 25), .mov (.tmp 1), none, 0⟩,
        ⟨(some 26), .call Id.sidingsref17_Slide [.tmp 24, .tmp 25], none, 0⟩,
        ⟨(some 23), .mov (.tmp 26), none, 0⟩,
        ⟨(some 27), .extract (.tmp 23) 0, none, 0⟩,
        ⟨(some 28), .extract (.tmp 23) 1, none, 0⟩,
        ⟨(some 29), .extract (.tmp 23) 2, none, 0⟩,
        ⟨(some 8), .mov (.tmp 27), none, 0⟩,
        ⟨(some 9), .mov (.tmp 28), none, 0⟩,
        ⟨(some 10), .mov (.tmp 29), none, 0⟩])
      (.seq (.region [⟨(some 30), .mov (.tmp 5), none, 0⟩,
        ⟨(some 31), .call Id.sidingslaw17_moves [.tmp 30], none, 0⟩,
        ⟨(some 32), .mov (.tmp 8), none, 0⟩,
        ⟨(some 33), .call Id.sidingsref17_Moves [.tmp 31, .tmp 32], none, 0⟩,
        ⟨(some 34), .mov (.tmp 33), none, 0⟩,
        ⟨(some 35), .mov (.tmp 6), (some (34, true)), 0⟩,
        ⟨(some 36), .mov (.tmp 9), (some (34, true)), 0⟩,
        ⟨(some 37), .bin .eql (.tmp 35) (.tmp 36), (some (34, true)), 0⟩,
        ⟨(some 38), .pick (.tmp 34) (.tmp 37) (.const (.bool false)), none, 0⟩,
        ⟨(some 39), .mov (.tmp 38), none, 0⟩,
        ⟨(some 40), .mov (.tmp 7), (some (39, true)), 0⟩,
        ⟨(some 41), .mov (.tmp 10), (some (39, true)), 0⟩,
        ⟨(some 42), .bin .eql (.tmp 40) (.tmp 41), (some (39, true)), 0⟩,
        ⟨(some 43), .pick (.tmp 39) (.tmp 42) (.const (.bool false)), none, 0⟩,
        ⟨(some 44), .mov (.tmp 43), none, 0⟩,
        ⟨(some 45), .call Id.sidingslaw17_live [], (some (44, true)), 0⟩,
        ⟨(some 46), .pick (.tmp 44) (.tmp 45) (.const (.bool false)), none, 0⟩,
        ⟨(some 4), .mov (.tmp 46), none, 0⟩])
      (.ret))))) }

def F.sidingslaw17_PlanOrder : IFunc :=
  { lb := [], scr := false, nargs := 2, res := [.tmp 4],
    body := .seq (.region [⟨(some 4), .mov (.const (.bool false)), none, 0⟩])
      (.seq (.seq (.region [⟨(some 12), .mov (.tmp 0), none, 0⟩,
        ⟨(some 13), .len false (.tmp 12), none, 0⟩,
        ⟨(some 14), .bin .gtr (.tmp 13) (.const (.int .i64 30)), none, 0⟩])
      (.cond (.tmp 14)
        (.seq (.region [⟨(some 15), .call Id.sidingslaw17_live [], none, 0⟩,
          ⟨(some 4), .mov (.tmp 15), none, 0⟩])
        (.ret))
        (.skip)))
      (.seq (.region [⟨(some 17), .mov (.tmp 0), none, 0⟩,
        ⟨(some 18), .call Id.sidingslaw17_own [.tmp 17], none, 0⟩,
        ⟨(some 19), .mov (.tmp 1), none, 0⟩,
        ⟨(some 20), .call Id.plan_Slide [.tmp 18, .tmp 19], none, 0⟩,
        ⟨(some 16), .mov (.tmp 20), none, 0⟩,
        ⟨(some 21), .extract (.tmp 16) 0, none, 0⟩,
        ⟨(some 22), .extract (.tmp 16) 1, none, 0⟩,
        ⟨(some 23), .extract (.tmp 16) 2, none, 0⟩,
        ⟨(some 5), .mov (.tmp 21), none, 0⟩,
        ⟨(some 6), .mov (.tmp 22), none, 0⟩,
        ⟨(some 7), .mov (.tmp 23), none, 0⟩])
      (.seq (.seq (.region [⟨(some 24), .mov (.tmp 7), none, 0⟩,
        ⟨(some 25), .bin .neq (.tmp 24) (.const (.int .i64 0)), none, 0⟩])
      (.cond (.tmp 25)
        (.seq (.region [⟨(some 26), .mov (.tmp 5), none, 0⟩,
          ⟨(some 27), .len false (.tmp 26), none, 0⟩,
          ⟨(some 28), .bin .eql (.tmp 27) (.const (.int .i64 0)), none, 0⟩,
          ⟨(some 29), .mov (.tmp 28), none, 0⟩,
          ⟨(some 30), .mov (.tmp 6), (some (29, true)), 0⟩,
          ⟨(some 31), .bin .eql (.tmp 30) (.const (.int .i64 0)), (some (29, true)), 0⟩,
          ⟨(some 32), .pick (.tmp 29) (.tmp 31) (.const (.bool false)), none, 0⟩,
          ⟨(some 33), .mov (.tmp 32), none, 0⟩,
          ⟨(some 34), .call Id.sidingslaw17_live [], (some (33, true)), 0⟩,
          ⟨(some 35), .pick (.tmp 33) (.tmp 34) (.const (.bool false)), none, 0⟩,
          ⟨(some 4), .mov (.tmp 35), none, 0⟩])
        (.ret))
        (.skip)))
      (.seq (.region [⟨(some 36), .mov (.tmp 0), none, 0⟩,
        ⟨(some 37), .call Id.sidingsref17_Sort [.tmp 36], none, 0⟩,
        ⟨(some 8), .mov (.tmp 37), none, 0⟩])
      (.seq (.seq (.region [⟨(some 9), .mov (.const (.int .i64 0)), none, 0⟩])
      (.block 0 (.loop [1, 5, 6, 8, 9]
        (.seq (.seq (.region [⟨(some 38), .mov (.tmp 9), none, 0⟩,
          ⟨(some 39), .mov (.tmp 5), none, 0⟩,
          ⟨(some 40), .len false (.tmp 39), none, 0⟩,
          ⟨(some 41), .bin .leq (.tmp 38) (.tmp 40), none, 0⟩])
        (.cond (.tmp 41)
          (.skip)
          (.exit 0)))
        (.seq (.block 1 (.seq (.region [⟨(some 44), .mov (.tmp 8), none, 0⟩,
          ⟨(some 45), .mov (.tmp 5), none, 0⟩,
          ⟨(some 46), .mov (.tmp 9), none, 0⟩,
          ⟨(some 47), .slice 4 (.tmp 45) none (some (.tmp 46)) none, none, 0⟩,
          ⟨(some 48), .call Id.sidingslaw17_moved [.tmp 44, .tmp 47], none, 0⟩,
          ⟨(some 49), .call Id.sidingsref17_Apart [.tmp 48], none, 0⟩,
          ⟨(some 50), .un .not (.tmp 49), none, 0⟩])
        (.cond (.tmp 50)
          (.seq (.region [⟨(some 4), .mov (.const (.bool false)), none, 0⟩])
          (.ret))
          (.skip))))
        (.region [⟨(some 42), .mov (.tmp 9), none, 0⟩,
          ⟨(some 43), .bin .add (.tmp 42) (.const (.int .i64 1)), none, 0⟩,
          ⟨(some 9), .mov (.tmp 43), none, 0⟩]))))))
      (.seq (.region [⟨(some 51), .mov (.tmp 8), none, 0⟩,
        ⟨(some 52), .mov (.tmp 5), none, 0⟩,
        ⟨(some 53), .call Id.sidingslaw17_moved [.tmp 51, .tmp 52], none, 0⟩,
        ⟨(some 10), .mov (.tmp 53), none, 0⟩])
      (.seq (.seq (.region [⟨(some 11), .mov (.const (.int .i64 0)), none, 0⟩])
      (.block 2 (.loop [1, 6, 8, 10, 11]
        (.seq (.seq (.region [⟨(some 54), .mov (.tmp 11), none, 0⟩,
          ⟨(some 55), .mov (.tmp 10), none, 0⟩,
          ⟨(some 56), .len false (.tmp 55), none, 0⟩,
          ⟨(some 57), .bin .lss (.tmp 54) (.tmp 56), none, 0⟩])
        (.cond (.tmp 57)
          (.skip)
          (.exit 2)))
        (.seq (.block 3 (.seq (.seq (.region [⟨(some 60), .mov (.tmp 10), none, 0⟩,
          ⟨(some 61), .mov (.tmp 11), none, 0⟩,
          ⟨(some 62), .iaddr none 4 (.tmp 60) (.tmp 61), none, 0⟩,
          ⟨(some 63), .faddr 1 (.tmp 62), none, 0⟩,
          ⟨(some 64), .load none (.tmp 63), none, 0⟩,
          ⟨(some 65), .mov (.tmp 8), none, 0⟩,
          ⟨(some 66), .mov (.tmp 11), none, 0⟩,
          ⟨(some 67), .iaddr none 4 (.tmp 65) (.tmp 66), none, 0⟩,
          ⟨(some 68), .faddr 1 (.tmp 67), none, 0⟩,
          ⟨(some 69), .load none (.tmp 68), none, 0⟩,
          ⟨(some 70), .bin .gtr (.tmp 64) (.tmp 69), none, 0⟩,
          ⟨(some 71), .mov (.tmp 70), none, 0⟩,
          ⟨(some 72), .mov (.tmp 10), (some (71, false)), 0⟩,
          ⟨(some 73), .mov (.tmp 11), (some (71, false)), 0⟩,
          ⟨(some 74), .iaddr none 4 (.tmp 72) (.tmp 73), (some (71, false)), 0⟩,
          ⟨(some 75), .faddr 1 (.tmp 74), (some (71, false)), 0⟩,
          ⟨(some 76), .load none (.tmp 75), (some (71, false)), 0⟩,
          ⟨(some 77), .bin .lss (.tmp 76) (.const (.int .i64 0)), (some (71, false)), 0⟩,
          ⟨(some 78), .pick (.tmp 71) (.const (.bool true)) (.tmp 77), none, 0⟩,
          ⟨(some 79), .mov (.tmp 78), none, 0⟩,
          ⟨(some 80), .mov (.tmp 10), (some (79, false)), 0⟩,
          ⟨(some 81), .mov (.tmp 11), (some (79, false)), 0⟩,
          ⟨(some 82), .iaddr none 4 (.tmp 80) (.tmp 81), (some (79, false)), 0⟩,
          ⟨(some 83), .faddr 1 (.tmp 82), (some (79, false)), 0⟩,
          ⟨(some 84), .load none (.tmp 83), (some (79, false)), 0⟩,
          ⟨(some 85), .mov (.tmp 10), (some (79, false)), 0⟩,
          ⟨(some 86), .mov (.tmp 11), (some (79, false)), 0⟩,
          ⟨(some 87), .iaddr none 4 (.tmp 85) (.tmp 86), (some (79, false)), 0⟩,
          ⟨(some 88), .faddr 2 (.tmp 87), (some (79, false)), 0⟩,
          ⟨(some 89), .load none (.tmp 88), (some (79, false)), 0⟩,
          ⟨(some 90), .bin .add (.tmp 84) (.tmp 89), (some (79, false)), 0⟩,
          ⟨(some 91), .mov (.tmp 6), (some (79, false)), 0⟩,
          ⟨(some 92), .bin .gtr (.tmp 90) (.tmp 91), (some (79, false)), 0⟩,
          ⟨(some 93), .pick (.tmp 79) (.const (.bool true)) (.tmp 92), none, 0⟩,
          ⟨(some 94), .mov (.tmp 93), none, 0⟩,
          ⟨(some 95), .mov (.tmp 8), (some (94, false)), 0⟩,
          ⟨(some 96), .mov (.tmp 11), (some (94, false)), 0⟩,
          ⟨(some 97), .iaddr none 4 (.tmp 95) (.tmp 96), (some (94, false)), 0⟩,
          ⟨(some 98), .faddr 3 (.tmp 97), (some (94, false)), 0⟩,
          ⟨(some 99), .load none (.tmp 98), (some (94, false)), 0⟩,
          ⟨(some 100), .mov (.tmp 99), (some (94, false)), 0⟩,
          ⟨(some 101), .mov (.tmp 10), (some (100, true)), 0⟩,
          ⟨(some 102), .mov (.tmp 11), (some (100, true)), 0⟩,
          ⟨(some 103), .iaddr none 4 (.tmp 101) (.tmp 102), (some (100, true)), 0⟩,
          ⟨(some 104), .faddr 1 (.tmp 103), (some (100, true)), 0⟩,
          ⟨(some 105), .load none (.tmp 104), (some (100, true)), 0⟩,
          ⟨(some 106), .mov (.tmp 8), (some (100, true)), 0⟩,
          ⟨(some 107), .mov (.tmp 11), (some (100, true)), 0⟩,
          ⟨(some 108), .iaddr none 4 (.tmp 106) (.tmp 107), (some (100, true)), 0⟩,
          ⟨(some 109), .faddr 1 (.tmp 108), (some (100, true)), 0⟩,
          ⟨(some 110), .load none (.tmp 109), (some (100, true)), 0⟩,
          ⟨(some 111), .bin .neq (.tmp 105) (.tmp 110), (some (100, true)), 0⟩,
          ⟨(some 112), .pick (.tmp 100) (.tmp 111) (.const (.bool false)), (some (94, false)), 0⟩,
          ⟨(some 113), .pick (.tmp 94) (.const (.bool true)) (.tmp 112), none, 0⟩])
        (.cond (.tmp 113)
          (.seq (.region [⟨(some 4), .mov (.const (.bool false)), none, 0⟩])
          (.ret))
          (.skip)))
        (.seq (.region [⟨(some 114), .mov (.tmp 11), none, 0⟩,
          ⟨(some 115), .bin .gtr (.tmp 114) (.const (.int .i64 0)), none, 0⟩,
          ⟨(some 116), .mov (.tmp 115), none, 0⟩,
          ⟨(some 117), .mov (.tmp 10), (some (116, true)), 0⟩,
          ⟨(some 118), .mov (.tmp 11), (some (116, true)), 0⟩,
          ⟨(some 119), .bin .sub (.tmp 118) (.const (.int .i64 1)), (some (116, true)), 0⟩,
          ⟨(some 120), .iaddr none 4 (.tmp 117) (.tmp 119), (some (116, true)), 0⟩,
          ⟨(some 121), .faddr 1 (.tmp 120), (some (116, true)), 0⟩,
          ⟨(some 122), .load none (.tmp 121), (some (116, true)), 0⟩,
          ⟨(some 123), .mov (.tmp 10), (some (116, true)), 0⟩,
          ⟨(some 124), .mov (.tmp 11), (some (116, true)), 0⟩,
          ⟨(some 125), .iaddr none 4 (.tmp 123) (.tmp 124), (some (116, true)), 0⟩,
          ⟨(some 126), .faddr 1 (.tmp 125), (some (116, true)), 0⟩,
          ⟨(some 127), .load none (.tmp 126), (some (116, true)), 0⟩,
          ⟨(some 128), .bin .geq (.tmp 122) (.tmp 127), (some (116, true)), 0⟩,
          ⟨(some 129), .pick (.tmp 116) (.tmp 128) (.const (.bool false)), none, 0⟩])
        (.cond (.tmp 129)
          (.seq (.region [⟨(some 4), .mov (.const (.bool false)), none, 0⟩])
          (.ret))
          (.skip)))))
        (.region [⟨(some 58), .mov (.tmp 11), none, 0⟩,
          ⟨(some 59), .bin .add (.tmp 58) (.const (.int .i64 1)), none, 0⟩,
          ⟨(some 11), .mov (.tmp 59), none, 0⟩]))))))
      (.seq (.region [⟨(some 130), .mov (.tmp 6), none, 0⟩,
        ⟨(some 131), .mov (.tmp 1), none, 0⟩,
        ⟨(some 132), .bin .leq (.tmp 130) (.tmp 131), none, 0⟩,
        ⟨(some 133), .mov (.tmp 132), none, 0⟩,
        ⟨(some 134), .call Id.sidingslaw17_live [], (some (133, true)), 0⟩,
        ⟨(some 135), .pick (.tmp 133) (.tmp 134) (.const (.bool false)), none, 0⟩,
        ⟨(some 4), .mov (.tmp 135), none, 0⟩])
      (.ret))))))))) }

def F.sidingslaw17_PlanTight : IFunc :=
  { lb := [], scr := false, nargs := 2, res := [.tmp 4],
    body := .seq (.region [⟨(some 4), .mov (.const (.bool false)), none, 0⟩])
      (.seq (.seq (.region [⟨(some 15), .mov (.tmp 0), none, 0⟩,
        ⟨(some 16), .len false (.tmp 15), none, 0⟩,
        ⟨(some 17), .bin .gtr (.tmp 16) (.const (.int .i64 30)), none, 0⟩])
      (.cond (.tmp 17)
        (.seq (.region [⟨(some 18), .call Id.sidingslaw17_live [], none, 0⟩,
          ⟨(some 4), .mov (.tmp 18), none, 0⟩])
        (.ret))
        (.skip)))
      (.seq (.region [⟨(some 20), .mov (.tmp 0), none, 0⟩,
        ⟨(some 21), .call Id.sidingslaw17_own [.tmp 20], none, 0⟩,
        ⟨(some 22), .mov (.tmp 1), none, 0⟩,
        ⟨(some 23), .call Id.plan_Slide [.tmp 21, .tmp 22], none, 0⟩,
        ⟨(some 19), .mov (.tmp 23), none, 0⟩,
        ⟨(some 24), .extract (.tmp 19) 0, none, 0⟩,
        ⟨(some 25), .extract (.tmp 19) 1, none, 0⟩,
        ⟨(some 26), .extract (.tmp 19) 2, none, 0⟩,
        ⟨(some 5), .mov (.tmp 24), none, 0⟩,
        ⟨(some 6), .mov (.tmp 25), none, 0⟩,
        ⟨(some 7), .mov (.tmp 26), none, 0⟩])
      (.seq (.seq (.region [⟨(some 27), .mov (.tmp 7), none, 0⟩,
        ⟨(some 28), .bin .neq (.tmp 27) (.const (.int .i64 0)), none, 0⟩])
      (.cond (.tmp 28)
        (.seq (.region [⟨(some 29), .call Id.sidingslaw17_live [], none, 0⟩,
          ⟨(some 4), .mov (.tmp 29), none, 0⟩])
        (.ret))
        (.skip)))
      (.seq (.region [⟨(some 30), .mov (.tmp 0), none, 0⟩,
        ⟨(some 31), .mov (.tmp 5), none, 0⟩,
        ⟨(some 32), .call Id.sidingslaw17_moved [.tmp 30, .tmp 31], none, 0⟩,
        ⟨(some 8), .mov (.tmp 32), none, 0⟩])
      (.seq (.region [⟨(some 34), .mov (.tmp 8), none, 0⟩,
        ⟨(some 35), .call Id.sidingslaw17_own [.tmp 34], none, 0⟩,
        ⟨(some 36), .mov (.tmp 1), none, 0⟩,
        ⟨(some 37), .call Id.plan_Slide [.tmp 35, .tmp 36], none, 0⟩,
        ⟨(some 33), .mov (.tmp 37), none, 0⟩,
        ⟨(some 38), .extract (.tmp 33) 0, none, 0⟩,
        ⟨(some 39), .extract (.tmp 33) 1, none, 0⟩,
        ⟨(some 40), .extract (.tmp 33) 2, none, 0⟩,
        ⟨(some 9), .mov (.tmp 38), none, 0⟩,
        ⟨(some 10), .mov (.tmp 39), none, 0⟩,
        ⟨(some 11), .mov (.tmp 40), none, 0⟩])
      (.seq (.region [⟨(some 12), .mov (.const (.int .i64 0)), none, 0⟩])
      (.seq (.region [⟨(some 13), .mov (.const (.bool false)), none, 0⟩])
      (.seq (.seq (.region [⟨(some 14), .mov (.const (.int .i64 0)), none, 0⟩])
      (.block 0 (.loop [0, 6, 8, 9, 10, 11, 12, 13, 14]
        (.seq (.seq (.region [⟨(some 41), .mov (.tmp 14), none, 0⟩,
          ⟨(some 42), .mov (.tmp 0), none, 0⟩,
          ⟨(some 43), .len false (.tmp 42), none, 0⟩,
          ⟨(some 44), .bin .lss (.tmp 41) (.tmp 43), none, 0⟩])
        (.cond (.tmp 44)
          (.skip)
          (.exit 0)))
        (.seq (.block 1 (.seq (.region [⟨(some 47), .mov (.tmp 12), none, 0⟩,
          ⟨(some 48), .mov (.tmp 0), none, 0⟩,
          ⟨(some 49), .mov (.tmp 14), none, 0⟩,
          ⟨(some 50), .iaddr none 4 (.tmp 48) (.tmp 49), none, 0⟩,
          ⟨(some 51), .faddr 2 (.tmp 50), none, 0⟩,
          ⟨(some 52), .load none (.tmp 51), none, 0⟩,
          ⟨(some 53), .bin .add (.tmp 47) (.tmp 52), none, 0⟩,
          ⟨(some 12), .mov (.tmp 53), none, 0⟩])
        (.region [⟨(some 54), .mov (.tmp 13), none, 0⟩,
          ⟨(some 55), .mov (.tmp 54), none, 0⟩,
          ⟨(some 56), .mov (.tmp 0), (some (55, false)), 0⟩,
          ⟨(some 57), .mov (.tmp 14), (some (55, false)), 0⟩,
          ⟨(some 58), .iaddr none 4 (.tmp 56) (.tmp 57), (some (55, false)), 0⟩,
          ⟨(some 59), .faddr 3 (.tmp 58), (some (55, false)), 0⟩,
          ⟨(some 60), .load none (.tmp 59), (some (55, false)), 0⟩,
          ⟨(some 61), .pick (.tmp 55) (.const (.bool true)) (.tmp 60), none, 0⟩,
          ⟨(some 13), .mov (.tmp 61), none, 0⟩])))
        (.region [⟨(some 45), .mov (.tmp 14), none, 0⟩,
          ⟨(some 46), .bin .add (.tmp 45) (.const (.int .i64 1)), none, 0⟩,
          ⟨(some 14), .mov (.tmp 46), none, 0⟩]))))))
      (.seq (.seq (.region [⟨(some 62), .mov (.tmp 9), none, 0⟩,
        ⟨(some 63), .len false (.tmp 62), none, 0⟩,
        ⟨(some 64), .bin .neq (.tmp 63) (.const (.int .i64 0)), none, 0⟩,
        ⟨(some 65), .mov (.tmp 64), none, 0⟩,
        ⟨(some 66), .mov (.tmp 10), (some (65, false)), 0⟩,
        ⟨(some 67), .mov (.tmp 6), (some (65, false)), 0⟩,
        ⟨(some 68), .bin .neq (.tmp 66) (.tmp 67), (some (65, false)), 0⟩,
        ⟨(some 69), .pick (.tmp 65) (.const (.bool true)) (.tmp 68), none, 0⟩,
        ⟨(some 70), .mov (.tmp 69), none, 0⟩,
        ⟨(some 71), .mov (.tmp 11), (some (70, false)), 0⟩,
        ⟨(some 72), .bin .neq (.tmp 71) (.const (.int .i64 0)), (some (70, false)), 0⟩,
        ⟨(some 73), .pick (.tmp 70) (.const (.bool true)) (.tmp 72), none, 0⟩])
      (.cond (.tmp 73)
        (.seq (.region [⟨(some 4), .mov (.const (.bool false)), none, 0⟩])
        (.ret))
        (.skip)))
      (.seq (.region [⟨(some 74), .mov (.tmp 13), none, 0⟩,
        ⟨(some 75), .mov (.tmp 74), none, 0⟩,
        ⟨(some 76), .mov (.tmp 6), (some (75, false)), 0⟩,
        ⟨(some 77), .mov (.tmp 12), (some (75, false)), 0⟩,
        ⟨(some 78), .bin .eql (.tmp 76) (.tmp 77), (some (75, false)), 0⟩,
        ⟨(some 79), .mov (.tmp 78), (some (75, false)), 0⟩,
        ⟨(some 80), .mov (.tmp 8), (some (79, true)), 0⟩,
        ⟨(some 81), .call Id.sidingslaw17_own [.tmp 80], (some (79, true)), 0⟩,
        ⟨(some 82), .mov (.tmp 6), (some (79, true)), 0⟩,
        ⟨(some 83), .call Id.plan_Gaps [.tmp 81, .tmp 82], (some (79, true)), 0⟩,
        ⟨(some 84), .len false (.tmp 83), (some (79, true)), 0⟩,
        ⟨(some 85), .bin .eql (.tmp 84) (.const (.int .i64 0)), (some (79, true)), 0⟩,
        ⟨(some 86), .pick (.tmp 79) (.tmp 85) (.const (.bool false)), (some (75, false)), 0⟩,
        ⟨(some 87), .pick (.tmp 75) (.const (.bool true)) (.tmp 86), none, 0⟩,
        ⟨(some 88), .mov (.tmp 87), none, 0⟩,
        ⟨(some 89), .call Id.sidingslaw17_live [], (some (88, true)), 0⟩,
        ⟨(some 90), .pick (.tmp 88) (.tmp 89) (.const (.bool false)), none, 0⟩,
        ⟨(some 4), .mov (.tmp 90), none, 0⟩])
      (.ret))))))))))) }

def F.sidingslaw17_PlanFixed : IFunc :=
  { lb := [7], scr := false, nargs := 2, res := [.tmp 4],
    body := .seq (.region [⟨(some 4), .mov (.const (.bool false)), none, 0⟩])
      (.seq (.seq (.region [⟨(some 16), .mov (.tmp 0), none, 0⟩,
        ⟨(some 17), .len false (.tmp 16), none, 0⟩,
        ⟨(some 18), .bin .gtr (.tmp 17) (.const (.int .i64 30)), none, 0⟩])
      (.cond (.tmp 18)
        (.seq (.region [⟨(some 19), .call Id.sidingslaw17_live [], none, 0⟩,
          ⟨(some 4), .mov (.tmp 19), none, 0⟩])
        (.ret))
        (.skip)))
      (.seq (.region [⟨(some 5), .mov (.const (.slice none 0 0)), none, 0⟩])
      (.seq (.seq (.region [⟨(some 6), .mov (.const (.int .i64 0)), none, 0⟩])
      (.block 0 (.loop [0, 1, 5, 6]
        (.seq (.seq (.region [⟨(some 20), .mov (.tmp 6), none, 0⟩,
          ⟨(some 21), .mov (.tmp 0), none, 0⟩,
          ⟨(some 22), .len false (.tmp 21), none, 0⟩,
          ⟨(some 23), .bin .lss (.tmp 20) (.tmp 22), none, 0⟩])
        (.cond (.tmp 23)
          (.skip)
          (.exit 0)))
        (.seq (.block 1 (.seq (.region [⟨(some 26), .mov (.tmp 0), none, 0⟩,
          ⟨(some 27), .mov (.tmp 6), none, 0⟩,
          ⟨(some 28), .iaddr none 4 (.tmp 26) (.tmp 27), none, 0⟩,
          ⟨(some 29), .load (some 4) (.tmp 28), none, 0⟩,
          ⟨(some 7), .lbox (.const (.agg #[.int .i64 0, .int .i64 0, .int .i64 0, .bool false])), none, 0⟩,
          ⟨(some 7), .lstore none 7 0 4 (.tmp 29), none, 0⟩])
        (.seq (.region [⟨(some 30), .laddr none 7 3, none, 0⟩,
          ⟨(some 7), .lstore (some 30) 7 3 1 (.const (.bool true)), none, 0⟩])
        (.region [⟨(some 31), .mov (.tmp 5), none, 0⟩,
          ⟨(some 32), .lload none 7 0 (some 4), none, 0⟩,
          ⟨(some 33), .buildSlice 4 1 [.int .i64 0, .int .i64 0, .int .i64 0, .bool false] [(0, 4, .tmp 32)], none, 0⟩,
          ⟨(some 34), .append 4 32 (.tmp 31) (.tmp 33), none, 0⟩,
          ⟨(some 5), .mov (.tmp 34), none, 0⟩]))))
        (.region [⟨(some 24), .mov (.tmp 6), none, 0⟩,
          ⟨(some 25), .bin .add (.tmp 24) (.const (.int .i64 1)), none, 0⟩,
          ⟨(some 6), .mov (.tmp 25), none, 0⟩]))))))
      (.seq (.region [⟨(some 36), .mov (.tmp 5), none, 0⟩,
        ⟨(some 37), .call Id.sidingslaw17_own [.tmp 36], none, 0⟩,
        ⟨(some 38), .mov (.tmp 1), none, 0⟩,
        ⟨(some 39), .call Id.plan_Slide [.tmp 37, .tmp 38], none, 0⟩,
        ⟨(some 35), .mov (.tmp 39), none, 0⟩,
        ⟨(some 40), .extract (.tmp 35) 0, none, 0⟩,
        ⟨(some 41), .extract (.tmp 35) 1, none, 0⟩,
        ⟨(some 42), .extract (.tmp 35) 2, none, 0⟩,
        ⟨(some 8), .mov (.tmp 40), none, 0⟩,
        ⟨(some 9), .mov (.tmp 41), none, 0⟩,
        ⟨(some 10), .mov (.tmp 42), none, 0⟩])
      (.seq (.region [⟨(some 44), .mov (.tmp 0), none, 0⟩,
        ⟨(some 45), .call Id.sidingslaw17_own [.tmp 44], none, 0⟩,
        ⟨(some 46), .mov (.tmp 1), none, 0⟩,
        ⟨(some 47), .call Id.plan_Slide [.tmp 45, .tmp 46], none, 0⟩,
        ⟨(some 43), .mov (.tmp 47), none, 0⟩,
        ⟨(some 48), .extract (.tmp 43) 0, none, 0⟩,
        ⟨(some 49), .extract (.tmp 43) 1, none, 0⟩,
        ⟨(some 50), .extract (.tmp 43) 2, none, 0⟩,
        ⟨(some 11), .mov (.tmp 48), none, 0⟩,
        ⟨(some 12), .mov (.tmp 49), none, 0⟩,
        ⟨(some 13), .mov (.tmp 50), none, 0⟩])
      (.seq (.seq (.region [⟨(some 51), .mov (.tmp 10), none, 0⟩,
        ⟨(some 52), .mov (.tmp 13), none, 0⟩,
        ⟨(some 53), .bin .neq (.tmp 51) (.tmp 52), none, 0⟩,
        ⟨(some 54), .mov (.tmp 53), none, 0⟩,
        ⟨(some 55), .mov (.tmp 8), (some (54, false)), 0⟩,
        ⟨(some 56), .len false (.tmp 55), (some (54, false)), 0⟩,
        ⟨(some 57), .bin .neq (.tmp 56) (.const (.int .i64 0)), (some (54, false)), 0⟩,
        ⟨(some 58), .pick (.tmp 54) (.const (.bool true)) (.tmp 57), none, 0⟩])
      (.cond (.tmp 58)
        (.seq (.region [⟨(some 4), .mov (.const (.bool false)), none, 0⟩])
        (.ret))
        (.skip)))
      (.seq (.seq (.region [⟨(some 14), .mov (.const (.int .i64 0)), none, 0⟩])
      (.block 2 (.loop [0, 11, 14]
        (.seq (.seq (.region [⟨(some 59), .mov (.tmp 14), none, 0⟩,
          ⟨(some 60), .mov (.tmp 11), none, 0⟩,
          ⟨(some 61), .len false (.tmp 60), none, 0⟩,
          ⟨(some 62), .bin .lss (.tmp 59) (.tmp 61), none, 0⟩])
        (.cond (.tmp 62)
          (.skip)
          (.exit 2)))
        (.seq (.block 3 (.seq (.region [⟨(some 15), .mov (.const (.int .i64 0)), none, 0⟩])
        (.block 4 (.loop [0, 11, 14, 15]
          (.seq (.seq (.region [⟨(some 65), .mov (.tmp 15), none, 0⟩,
            ⟨(some 66), .mov (.tmp 0), none, 0⟩,
            ⟨(some 67), .len false (.tmp 66), none, 0⟩,
            ⟨(some 68), .bin .lss (.tmp 65) (.tmp 67), none, 0⟩])
          (.cond (.tmp 68)
            (.skip)
            (.exit 4)))
          (.seq (.block 5 (.seq (.region [⟨(some 71), .mov (.tmp 0), none, 0⟩,
            ⟨(some 72), .mov (.tmp 15), none, 0⟩,
            ⟨(some 73), .iaddr none 4 (.tmp 71) (.tmp 72), none, 0⟩,
            ⟨(some 74), .faddr 3 (.tmp 73), none, 0⟩,
            ⟨(some 75), .load none (.tmp 74), none, 0⟩,
            ⟨(some 76), .mov (.tmp 75), none, 0⟩,
            ⟨(some 77), .mov (.tmp 0), (some (76, true)), 0⟩,
            ⟨(some 78), .mov (.tmp 15), (some (76, true)), 0⟩,
            ⟨(some 79), .iaddr none 4 (.tmp 77) (.tmp 78), (some (76, true)), 0⟩,
            ⟨(some 80), .faddr 1 (.tmp 79), (some (76, true)), 0⟩,
            ⟨(some 81), .load none (.tmp 80), (some (76, true)), 0⟩,
            ⟨(some 82), .mov (.tmp 11), (some (76, true)), 0⟩,
            ⟨(some 83), .mov (.tmp 14), (some (76, true)), 0⟩,
            ⟨(some 84), .iaddr none 4 (.tmp 82) (.tmp 83), (some (76, true)), 0⟩,
            ⟨(some 85), .faddr 1 (.tmp 84), (some (76, true)), 0⟩,
            ⟨(some 86), .load none (.tmp 85), (some (76, true)), 0⟩,
            ⟨(some 87), .bin .lss (.tmp 81) (.tmp 86), (some (76, true)), 0⟩,
            ⟨(some 88), .pick (.tmp 76) (.tmp 87) (.const (.bool false)), none, 0⟩,
            ⟨(some 89), .mov (.tmp 88), none, 0⟩,
            ⟨(some 90), .mov (.tmp 11), (some (89, true)), 0⟩,
            ⟨(some 91), .mov (.tmp 14), (some (89, true)), 0⟩,
            ⟨(some 92), .iaddr none 4 (.tmp 90) (.tmp 91), (some (89, true)), 0⟩,
            ⟨(some 93), .faddr 2 (.tmp 92), (some (89, true)), 0⟩,
            ⟨(some 94), .load none (.tmp 93), (some (89, true)), 0⟩,
            ⟨(some 95), .mov (.tmp 0), (some (89, true)), 0⟩,
            ⟨(some 96), .mov (.tmp 15), (some (89, true)), 0⟩,
            ⟨(some 97), .iaddr none 4 (.tmp 95) (.tmp 96), (some (89, true)), 0⟩,
            ⟨(some 98), .faddr 1 (.tmp 97), (some (89, true)), 0⟩,
            ⟨(some 99), .load none (.tmp 98), (some (89, true)), 0⟩,
            ⟨(some 100), .mov (.tmp 0), (some (89, true)), 0⟩,
            ⟨(some 101), .mov (.tmp 15), (some (89, true)), 0⟩,
            ⟨(some 102), .iaddr none 4 (.tmp 100) (.tmp 101), (some (89, true)), 0⟩,
            ⟨(some 103), .faddr 2 (.tmp 102), (some (89, true)), 0⟩,
            ⟨(some 104), .load none (.tmp 103), (some (89, true)), 0⟩,
            ⟨(some 105), .bin .add (.tmp 99) (.tmp 104), (some (89, true)), 0⟩,
            ⟨(some 106), .bin .lss (.tmp 94) (.tmp 105), (some (89, true)), 0⟩,
            ⟨(some 107), .pick (.tmp 89) (.tmp 106) (.const (.bool false)), none, 0⟩])
          (.cond (.tmp 107)
            (.seq (.region [⟨(some 4), .mov (.const (.bool false)), none, 0⟩])
            (.ret))
            (.skip))))
          (.region [⟨(some 69), .mov (.tmp 15), none, 0⟩,
            ⟨(some 70), .bin .add (.tmp 69) (.const (.int .i64 1)), none, 0⟩,
            ⟨(some 15), .mov (.tmp 70), none, 0⟩])))))))
        (.region [⟨(some 63), .mov (.tmp 14), none, 0⟩,
          ⟨(some 64), .bin .add (.tmp 63) (.const (.int .i64 1)), none, 0⟩,
          ⟨(some 14), .mov (.tmp 64), none, 0⟩]))))))
      (.seq (.region [⟨(some 108), .call Id.sidingslaw17_live [], none, 0⟩,
        ⟨(some 4), .mov (.tmp 108), none, 0⟩])
      (.ret))))))))) }

def F.sidingslaw17_live : IFunc :=
  { lb := [], scr := true, nargs := 0, res := [.tmp 0],
    body := .seq (.region [⟨(some 0), .mov (.const (.bool false)), none, 0⟩])
      (.seq (.region [⟨(some 10), .build [.int .i64 0, .int .i64 0, .int .i64 0, .bool false] [(0, 1, .const (.int .i64 1)), (1, 1, .const (.int .i64 24)), (2, 1, .const (.int .i64 8))], none, 0⟩,
        ⟨(some 11), .build [.int .i64 0, .int .i64 0, .int .i64 0, .bool false] [(0, 1, .const (.int .i64 2)), (1, 1, .const (.int .i64 8)), (2, 1, .const (.int .i64 8))], none, 0⟩,
        ⟨(some 12), .build [.int .i64 0, .int .i64 0, .int .i64 0, .bool false] [(0, 1, .const (.int .i64 3)), (1, 1, .const (.int .i64 40)), (2, 1, .const (.int .i64 8)), (3, 1, .const (.bool true))], none, 0⟩,
        ⟨(some 13), .buildSlice 4 3 [.int .i64 0, .int .i64 0, .int .i64 0, .bool false, .int .i64 0, .int .i64 0, .int .i64 0, .bool false, .int .i64 0, .int .i64 0, .int .i64 0, .bool false] [(0, 4, .tmp 10), (4, 4, .tmp 11), (8, 4, .tmp 12)], none, 0⟩,
        ⟨(some 1), .mov (.tmp 13), none, 0⟩])
      (.seq (.region [⟨(some 15), .mov (.tmp 1), none, 0⟩,
        ⟨(some 16), .call Id.plan_Slide [.tmp 15, .const (.int .i64 64)], none, 0⟩,
        ⟨(some 14), .mov (.tmp 16), none, 0⟩,
        ⟨(some 17), .extract (.tmp 14) 0, none, 0⟩,
        ⟨(some 18), .extract (.tmp 14) 1, none, 0⟩,
        ⟨(some 19), .extract (.tmp 14) 2, none, 0⟩,
        ⟨(some 2), .mov (.tmp 17), none, 0⟩,
        ⟨(some 3), .mov (.tmp 18), none, 0⟩,
        ⟨(some 4), .mov (.tmp 19), none, 0⟩])
      (.seq (.region [⟨(some 21), .mov (.tmp 1), none, 0⟩,
        ⟨(some 22), .call Id.plan_Slide [.tmp 21, .const (.int .i64 47)], none, 0⟩,
        ⟨(some 20), .mov (.tmp 22), none, 0⟩,
        ⟨(some 23), .extract (.tmp 20) 0, none, 0⟩,
        ⟨(some 24), .extract (.tmp 20) 1, none, 0⟩,
        ⟨(some 25), .extract (.tmp 20) 2, none, 0⟩,
        ⟨(some 5), .mov (.tmp 23), none, 0⟩,
        ⟨(some 6), .mov (.tmp 24), none, 0⟩,
        ⟨(some 7), .mov (.tmp 25), none, 0⟩])
      (.seq (.region [⟨(some 26), .mov (.tmp 1), none, 0⟩,
        ⟨(some 27), .call Id.plan_Gaps [.tmp 26, .const (.int .i64 48)], none, 0⟩,
        ⟨(some 8), .mov (.tmp 27), none, 0⟩])
      (.seq (.region [⟨(some 28), .mov (.tmp 1), none, 0⟩,
        ⟨(some 29), .call Id.plan_Sort [.tmp 28], none, 0⟩,
        ⟨(some 9), .mov (.tmp 29), none, 0⟩])
      (.seq (.region [⟨(some 30), .mov (.tmp 2), none, 0⟩,
        ⟨(some 31), .call Id.sidingslaw17_moves [.tmp 30], none, 0⟩,
        ⟨(some 32), .build [.int .i64 0, .int .i64 0, .int .i64 0, .int .i64 0] [(0, 1, .const (.int .i64 2)), (1, 1, .const (.int .i64 8)), (2, 1, .const (.int .i64 0)), (3, 1, .const (.int .i64 8))], none, 0⟩,
        ⟨(some 33), .build [.int .i64 0, .int .i64 0, .int .i64 0, .int .i64 0] [(0, 1, .const (.int .i64 1)), (1, 1, .const (.int .i64 24)), (2, 1, .const (.int .i64 8)), (3, 1, .const (.int .i64 8))], none, 0⟩,
        ⟨(some 34), .buildSlice 4 2 [.int .i64 0, .int .i64 0, .int .i64 0, .int .i64 0, .int .i64 0, .int .i64 0, .int .i64 0, .int .i64 0] [(0, 4, .tmp 32), (4, 4, .tmp 33)], none, 0⟩,
        ⟨(some 35), .call Id.sidingsref17_Moves [.tmp 31, .tmp 34], none, 0⟩,
        ⟨(some 36), .mov (.tmp 35), none, 0⟩,
        ⟨(some 37), .mov (.tmp 3), (some (36, true)), 0⟩,
        ⟨(some 38), .bin .eql (.tmp 37) (.const (.int .i64 48)), (some (36, true)), 0⟩,
        ⟨(some 39), .pick (.tmp 36) (.tmp 38) (.const (.bool false)), none, 0⟩,
        ⟨(some 40), .mov (.tmp 39), none, 0⟩,
        ⟨(some 41), .mov (.tmp 4), (some (40, true)), 0⟩,
        ⟨(some 42), .bin .eql (.tmp 41) (.const (.int .i64 0)), (some (40, true)), 0⟩,
        ⟨(some 43), .pick (.tmp 40) (.tmp 42) (.const (.bool false)), none, 0⟩,
        ⟨(some 44), .mov (.tmp 43), none, 0⟩,
        ⟨(some 45), .mov (.tmp 7), (some (44, true)), 0⟩,
        ⟨(some 46), .bin .eql (.tmp 45) (.const (.int .i64 1)), (some (44, true)), 0⟩,
        ⟨(some 47), .pick (.tmp 44) (.tmp 46) (.const (.bool false)), none, 0⟩,
        ⟨(some 48), .mov (.tmp 47), none, 0⟩,
        ⟨(some 49), .mov (.tmp 8), (some (48, true)), 0⟩,
        ⟨(some 50), .call Id.sidingslaw17_told [.tmp 49], (some (48, true)), 0⟩,
        ⟨(some 51), .build [.int .i64 0, .int .i64 0, .int .i64 0, .bool false] [(0, 1, .const (.int .i64 (-1))), (1, 1, .const (.int .i64 0)), (2, 1, .const (.int .i64 8))], (some (48, true)), 0⟩,
        ⟨(some 52), .build [.int .i64 0, .int .i64 0, .int .i64 0, .bool false] [(0, 1, .const (.int .i64 (-1))), (1, 1, .const (.int .i64 16)), (2, 1, .const (.int .i64 8))], (some (48, true)), 0⟩,
        ⟨(some 53), .build [.int .i64 0, .int .i64 0, .int .i64 0, .bool false] [(0, 1, .const (.int .i64 (-1))), (1, 1, .const (.int .i64 32)), (2, 1, .const (.int .i64 8))], (some (48, true)), 0⟩,
        ⟨(some 54), .buildSlice 4 3 [.int .i64 0, .int .i64 0, .int .i64 0, .bool false, .int .i64 0, .int .i64 0, .int .i64 0, .bool false, .int .i64 0, .int .i64 0, .int .i64 0, .bool false] [(0, 4, .tmp 51), (4, 4, .tmp 52), (8, 4, .tmp 53)], (some (48, true)), 0⟩,
        ⟨(some 55), .call Id.sidingsref17_Same [.tmp 50, .tmp 54], (some (48, true)), 0⟩,
        ⟨(some 56), .pick (.tmp 48) (.tmp 55) (.const (.bool false)), none, 0⟩,
        ⟨(some 57), .mov (.tmp 56), none, 0⟩,
        ⟨(some 58), .mov (.tmp 9), (some (57, true)), 0⟩,
        ⟨(some 59), .len false (.tmp 58), (some (57, true)), 0⟩,
        ⟨(some 60), .bin .eql (.tmp 59) (.const (.int .i64 3)), (some (57, true)), 0⟩,
        ⟨(some 61), .pick (.tmp 57) (.tmp 60) (.const (.bool false)), none, 0⟩,
        ⟨(some 62), .mov (.tmp 61), none, 0⟩,
        ⟨(some 63), .mov (.tmp 9), (some (62, true)), 0⟩,
        ⟨(some 64), .iaddr none 4 (.tmp 63) (.const (.int .i64 0)), (some (62, true)), 0⟩,
        ⟨(some 65), .faddr 0 (.tmp 64), (some (62, true)), 0⟩,
        ⟨(some 66), .load none (.tmp 65), (some (62, true)), 0⟩,
        ⟨(some 67), .bin .eql (.tmp 66) (.const (.int .i64 2)), (some (62, true)), 0⟩,
        ⟨(some 68), .pick (.tmp 62) (.tmp 67) (.const (.bool false)), none, 0⟩,
        ⟨(some 69), .mov (.tmp 68), none, 0⟩,
        ⟨(some 70), .mov (.tmp 1), (some (69, true)), 0⟩,
        ⟨(some 71), .call Id.plan_Apart [.tmp 70], (some (69, true)), 0⟩,
        ⟨(some 72), .pick (.tmp 69) (.tmp 71) (.const (.bool false)), none, 0⟩,
        ⟨(some 73), .mov (.tmp 72), none, 0⟩,
        ⟨(some 74), .mov (.tmp 1), (some (73, true)), 0⟩,
        ⟨(some 75), .iaddr none 4 (.tmp 74) (.const (.int .i64 0)), (some (73, true)), 0⟩,
        ⟨(some 76), .load (some 4) (.tmp 75), (some (73, true)), 0⟩,
        ⟨(some 77), .mov (.tmp 1), (some (73, true)), 0⟩,
        ⟨(some 78), .iaddr none 4 (.tmp 77) (.const (.int .i64 0)), (some (73, true)), 0⟩,
        ⟨(some 79), .load (some 4) (.tmp 78), (some (73, true)), 0⟩,
        ⟨(some 80), .buildSlice 4 2 [.int .i64 0, .int .i64 0, .int .i64 0, .bool false, .int .i64 0, .int .i64 0, .int .i64 0, .bool false] [(0, 4, .tmp 76), (4, 4, .tmp 79)], (some (73, true)), 0⟩,
        ⟨(some 81), .call Id.plan_Apart [.tmp 80], (some (73, true)), 0⟩,
        ⟨(some 82), .un .not (.tmp 81), (some (73, true)), 0⟩,
        ⟨(some 83), .pick (.tmp 73) (.tmp 82) (.const (.bool false)), none, 0⟩,
        ⟨(some 0), .mov (.tmp 83), none, 0⟩])
      (.ret))))))) }

def F.plan_Slide : IFunc :=
  { lb := [11], scr := true, nargs := 2, res := [.tmp 4, .tmp 5, .tmp 6],
    body := .seq (.region [⟨(some 4), .mov (.const (.slice none 0 0)), none, 0⟩,
        ⟨(some 5), .mov (.const (.int .i64 0)), none, 0⟩,
        ⟨(some 6), .mov (.const (.int .i64 0)), none, 0⟩])
      (.seq (.seq (.region [⟨(some 13), .mov (.tmp 0), none, 0⟩,
        ⟨(some 14), .mov (.tmp 1), none, 0⟩,
        ⟨(some 15), .call Id.plan_Check [.tmp 13, .tmp 14], none, 0⟩,
        ⟨(some 7), .mov (.tmp 15), none, 0⟩])
      (.seq (.region [⟨(some 16), .mov (.tmp 7), none, 0⟩,
        ⟨(some 17), .bin .neq (.tmp 16) (.const (.int .i64 0)), none, 0⟩])
      (.cond (.tmp 17)
        (.seq (.region [⟨(some 18), .mov (.tmp 7), none, 0⟩,
          ⟨(some 4), .mov (.const (.slice none 0 0)), none, 0⟩,
          ⟨(some 5), .mov (.const (.int .i64 0)), none, 0⟩,
          ⟨(some 6), .mov (.tmp 18), none, 0⟩])
        (.ret))
        (.skip))))
      (.seq (.region [⟨(some 8), .mov (.const (.slice none 0 0)), none, 0⟩])
      (.seq (.region [⟨(some 9), .mov (.const (.int .i64 0)), none, 0⟩])
      (.seq (.seq (.region [⟨(some 19), .mov (.tmp 0), none, 0⟩,
        ⟨(some 20), .call Id.plan_Sort [.tmp 19], none, 0⟩,
        ⟨(some 21), .len false (.tmp 20), none, 0⟩,
        ⟨(some 22), .mov (.const (.int .i64 0)), none, 0⟩])
      (.block 0 (.loop [8, 9, 20, 21, 22]
        (.seq (.region [⟨(some 23), .bin .lss (.tmp 22) (.tmp 21), none, 0⟩])
        (.seq (.cond (.tmp 23)
          (.skip)
          (.exit 0))
        (.seq (.block 1 (.seq (.region [⟨(some 24), .iaddr none 4 (.tmp 20) (.tmp 22), none, 0⟩,
          ⟨(some 25), .load (some 4) (.tmp 24), none, 0⟩,
          ⟨(some 11), .lbox (.const (.agg #[.int .i64 0, .int .i64 0, .int .i64 0, .bool false])), none, 0⟩,
          ⟨(some 11), .lstore none 11 0 4 (.tmp 25), none, 0⟩])
        (.seq (.region [⟨(some 26), .mov (.tmp 9), none, 0⟩,
          ⟨(some 12), .mov (.tmp 26), none, 0⟩])
        (.seq (.seq (.region [⟨(some 27), .laddr none 11 3, none, 0⟩,
          ⟨(some 28), .lload (some 27) 11 3 none, none, 0⟩])
        (.cond (.tmp 28)
          (.region [⟨(some 29), .laddr none 11 1, none, 0⟩,
            ⟨(some 30), .lload (some 29) 11 1 none, none, 0⟩,
            ⟨(some 12), .mov (.tmp 30), none, 0⟩])
          (.skip)))
        (.seq (.seq (.region [⟨(some 31), .mov (.tmp 12), none, 0⟩,
          ⟨(some 32), .laddr none 11 1, none, 0⟩,
          ⟨(some 33), .lload (some 32) 11 1 none, none, 0⟩,
          ⟨(some 34), .bin .neq (.tmp 31) (.tmp 33), none, 0⟩])
        (.cond (.tmp 34)
          (.region [⟨(some 35), .mov (.tmp 8), none, 0⟩,
            ⟨(some 36), .laddr none 11 0, none, 0⟩,
            ⟨(some 37), .lload (some 36) 11 0 none, none, 0⟩,
            ⟨(some 38), .laddr none 11 1, none, 0⟩,
            ⟨(some 39), .lload (some 38) 11 1 none, none, 0⟩,
            ⟨(some 40), .mov (.tmp 12), none, 0⟩,
            ⟨(some 41), .laddr none 11 2, none, 0⟩,
            ⟨(some 42), .lload (some 41) 11 2 none, none, 0⟩,
            ⟨(some 43), .build [.int .i64 0, .int .i64 0, .int .i64 0, .int .i64 0] [(0, 1, .tmp 37), (1, 1, .tmp 39), (2, 1, .tmp 40), (3, 1, .tmp 42)], none, 0⟩,
            ⟨(some 44), .buildSlice 4 1 [.int .i64 0, .int .i64 0, .int .i64 0, .int .i64 0] [(0, 4, .tmp 43)], none, 0⟩,
            ⟨(some 45), .append 4 32 (.tmp 35) (.tmp 44), none, 0⟩,
            ⟨(some 8), .mov (.tmp 45), none, 0⟩])
          (.skip)))
        (.region [⟨(some 46), .mov (.tmp 12), none, 0⟩,
          ⟨(some 47), .laddr none 11 2, none, 0⟩,
          ⟨(some 48), .lload (some 47) 11 2 none, none, 0⟩,
          ⟨(some 49), .bin .add (.tmp 46) (.tmp 48), none, 0⟩,
          ⟨(some 9), .mov (.tmp 49), none, 0⟩]))))))
        (.region [⟨(some 50), .bin .add (.tmp 22) (.const (.int .i64 1)), none, 0⟩,
          ⟨(some 22), .mov (.tmp 50), none, 0⟩])))))))
      (.seq (.region [⟨(some 51), .mov (.tmp 8), none, 0⟩,
        ⟨(some 52), .mov (.tmp 9), none, 0⟩,
        ⟨(some 4), .mov (.tmp 51), none, 0⟩,
        ⟨(some 5), .mov (.tmp 52), none, 0⟩,
        ⟨(some 6), .mov (.const (.int .i64 0)), none, 0⟩])
      (.ret)))))) }

def F.sidingslaw17_own : IFunc :=
  { lb := [], scr := true, nargs := 1, res := [.tmp 2],
    body := .seq (.region [⟨(some 2), .mov (.const (.slice none 0 0)), none, 0⟩])
      (.seq (.region [⟨(some 3), .mov (.const (.slice none 0 0)), none, 0⟩])
      (.seq (.seq (.region [⟨(some 4), .mov (.const (.int .i64 0)), none, 0⟩])
      (.block 0 (.loop [0, 3, 4]
        (.seq (.seq (.region [⟨(some 5), .mov (.tmp 4), none, 0⟩,
          ⟨(some 6), .mov (.tmp 0), none, 0⟩,
          ⟨(some 7), .len false (.tmp 6), none, 0⟩,
          ⟨(some 8), .bin .lss (.tmp 5) (.tmp 7), none, 0⟩])
        (.cond (.tmp 8)
          (.skip)
          (.exit 0)))
        (.seq (.block 1 (.region [⟨(some 11), .mov (.tmp 3), none, 0⟩,
          ⟨(some 12), .mov (.tmp 0), none, 0⟩,
          ⟨(some 13), .mov (.tmp 4), none, 0⟩,
          ⟨(some 14), .iaddr none 4 (.tmp 12) (.tmp 13), none, 0⟩,
          ⟨(some 15), .faddr 0 (.tmp 14), none, 0⟩,
          ⟨(some 16), .load none (.tmp 15), none, 0⟩,
          ⟨(some 17), .mov (.tmp 0), none, 0⟩,
          ⟨(some 18), .mov (.tmp 4), none, 0⟩,
          ⟨(some 19), .iaddr none 4 (.tmp 17) (.tmp 18), none, 0⟩,
          ⟨(some 20), .faddr 1 (.tmp 19), none, 0⟩,
          ⟨(some 21), .load none (.tmp 20), none, 0⟩,
          ⟨(some 22), .mov (.tmp 0), none, 0⟩,
          ⟨(some 23), .mov (.tmp 4), none, 0⟩,
          ⟨(some 24), .iaddr none 4 (.tmp 22) (.tmp 23), none, 0⟩,
          ⟨(some 25), .faddr 2 (.tmp 24), none, 0⟩,
          ⟨(some 26), .load none (.tmp 25), none, 0⟩,
          ⟨(some 27), .mov (.tmp 0), none, 0⟩,
          ⟨(some 28), .mov (.tmp 4), none, 0⟩,
          ⟨(some 29), .iaddr none 4 (.tmp 27) (.tmp 28), none, 0⟩,
          ⟨(some 30), .faddr 3 (.tmp 29), none, 0⟩,
          ⟨(some 31), .load none (.tmp 30), none, 0⟩,
          ⟨(some 32), .build [.int .i64 0, .int .i64 0, .int .i64 0, .bool false] [(0, 1, .tmp 16), (1, 1, .tmp 21), (2, 1, .tmp 26), (3, 1, .tmp 31)], none, 0⟩,
          ⟨(some 33), .buildSlice 4 1 [.int .i64 0, .int .i64 0, .int .i64 0, .bool false] [(0, 4, .tmp 32)], none, 0⟩,
          ⟨(some 34), .append 4 32 (.tmp 11) (.tmp 33), none, 0⟩,
          ⟨(some 3), .mov (.tmp 34), none, 0⟩]))
        (.region [⟨(some 9), .mov (.tmp 4), none, 0⟩,
          ⟨(some 10), .bin .add (.tmp 9) (.const (.int .i64 1)), none, 0⟩,
          ⟨(some 4), .mov (.tmp 10), none, 0⟩]))))))
      (.seq (.region [⟨(some 35), .mov (.tmp 3), none, 0⟩,
        ⟨(some 2), .mov (.tmp 35), none, 0⟩])
      (.ret)))) }

def F.sidingsref17_Slide : IFunc :=
  { lb := [], scr := true, nargs := 2, res := [.tmp 4, .tmp 5, .tmp 6],
    body := .seq (.region [⟨(some 4), .mov (.const (.slice none 0 0)), none, 0⟩,
        ⟨(some 5), .mov (.const (.int .i64 0)), none, 0⟩,
        ⟨(some 6), .mov (.const (.int .i64 0)), none, 0⟩])
      (.seq (.seq (.region [⟨(some 11), .mov (.tmp 0), none, 0⟩,
        ⟨(some 12), .mov (.tmp 1), none, 0⟩,
        ⟨(some 13), .call Id.sidingsref17_Check [.tmp 11, .tmp 12], none, 0⟩,
        ⟨(some 14), .bin .neq (.tmp 13) (.const (.int .i64 0)), none, 0⟩])
      (.cond (.tmp 14)
        (.seq (.region [⟨(some 4), .mov (.const (.slice none 0 0)), none, 0⟩,
          ⟨(some 5), .mov (.const (.int .i64 0)), none, 0⟩,
          ⟨(some 6), .mov (.const (.int .i64 1)), none, 0⟩])
        (.ret))
        (.skip)))
      (.seq (.region [⟨(some 7), .mov (.const (.slice none 0 0)), none, 0⟩])
      (.seq (.region [⟨(some 8), .mov (.const (.int .i64 0)), none, 0⟩])
      (.seq (.region [⟨(some 15), .mov (.tmp 0), none, 0⟩,
        ⟨(some 16), .call Id.sidingsref17_Sort [.tmp 15], none, 0⟩,
        ⟨(some 9), .mov (.tmp 16), none, 0⟩])
      (.seq (.seq (.region [⟨(some 10), .mov (.const (.int .i64 0)), none, 0⟩])
      (.block 0 (.loop [7, 8, 9, 10]
        (.seq (.seq (.region [⟨(some 17), .mov (.tmp 10), none, 0⟩,
          ⟨(some 18), .mov (.tmp 9), none, 0⟩,
          ⟨(some 19), .len false (.tmp 18), none, 0⟩,
          ⟨(some 20), .bin .lss (.tmp 17) (.tmp 19), none, 0⟩])
        (.cond (.tmp 20)
          (.skip)
          (.exit 0)))
        (.seq (.block 1 (.seq (.seq (.region [⟨(some 23), .mov (.tmp 9), none, 0⟩,
          ⟨(some 24), .mov (.tmp 10), none, 0⟩,
          ⟨(some 25), .iaddr none 4 (.tmp 23) (.tmp 24), none, 0⟩,
          ⟨(some 26), .faddr 3 (.tmp 25), none, 0⟩,
          ⟨(some 27), .load none (.tmp 26), none, 0⟩])
        (.cond (.tmp 27)
          (.seq (.region [⟨(some 28), .mov (.tmp 9), none, 0⟩,
            ⟨(some 29), .mov (.tmp 10), none, 0⟩,
            ⟨(some 30), .iaddr none 4 (.tmp 28) (.tmp 29), none, 0⟩,
            ⟨(some 31), .faddr 1 (.tmp 30), none, 0⟩,
            ⟨(some 32), .load none (.tmp 31), none, 0⟩,
            ⟨(some 33), .mov (.tmp 9), none, 0⟩,
            ⟨(some 34), .mov (.tmp 10), none, 0⟩,
            ⟨(some 35), .iaddr none 4 (.tmp 33) (.tmp 34), none, 0⟩,
            ⟨(some 36), .faddr 2 (.tmp 35), none, 0⟩,
            ⟨(some 37), .load none (.tmp 36), none, 0⟩,
            ⟨(some 38), .bin .add (.tmp 32) (.tmp 37), none, 0⟩,
            ⟨(some 8), .mov (.tmp 38), none, 0⟩])
          (.exit 1))
          (.skip)))
        (.seq (.seq (.region [⟨(some 39), .mov (.tmp 9), none, 0⟩,
          ⟨(some 40), .mov (.tmp 10), none, 0⟩,
          ⟨(some 41), .iaddr none 4 (.tmp 39) (.tmp 40), none, 0⟩,
          ⟨(some 42), .faddr 1 (.tmp 41), none, 0⟩,
          ⟨(some 43), .load none (.tmp 42), none, 0⟩,
          ⟨(some 44), .mov (.tmp 8), none, 0⟩,
          ⟨(some 45), .bin .neq (.tmp 43) (.tmp 44), none, 0⟩])
        (.cond (.tmp 45)
          (.region [⟨(some 46), .mov (.tmp 7), none, 0⟩,
            ⟨(some 47), .mov (.tmp 9), none, 0⟩,
            ⟨(some 48), .mov (.tmp 10), none, 0⟩,
            ⟨(some 49), .iaddr none 4 (.tmp 47) (.tmp 48), none, 0⟩,
            ⟨(some 50), .faddr 0 (.tmp 49), none, 0⟩,
            ⟨(some 51), .load none (.tmp 50), none, 0⟩,
            ⟨(some 52), .mov (.tmp 9), none, 0⟩,
            ⟨(some 53), .mov (.tmp 10), none, 0⟩,
            ⟨(some 54), .iaddr none 4 (.tmp 52) (.tmp 53), none, 0⟩,
            ⟨(some 55), .faddr 1 (.tmp 54), none, 0⟩,
            ⟨(some 56), .load none (.tmp 55), none, 0⟩,
            ⟨(some 57), .mov (.tmp 8), none, 0⟩,
            ⟨(some 58), .mov (.tmp 9), none, 0⟩,
            ⟨(some 59), .mov (.tmp 10), none, 0⟩,
            ⟨(some 60), .iaddr none 4 (.tmp 58) (.tmp 59), none, 0⟩,
            ⟨(some 61), .faddr 2 (.tmp 60), none, 0⟩,
            ⟨(some 62), .load none (.tmp 61), none, 0⟩,
            ⟨(some 63), .build [.int .i64 0, .int .i64 0, .int .i64 0, .int .i64 0] [(0, 1, .tmp 51), (1, 1, .tmp 56), (2, 1, .tmp 57), (3, 1, .tmp 62)], none, 0⟩,
            ⟨(some 64), .buildSlice 4 1 [.int .i64 0, .int .i64 0, .int .i64 0, .int .i64 0] [(0, 4, .tmp 63)], none, 0⟩,
            ⟨(some 65), .append 4 32 (.tmp 46) (.tmp 64), none, 0⟩,
            ⟨(some 7), .mov (.tmp 65), none, 0⟩])
          (.skip)))
        (.region [⟨(some 66), .mov (.tmp 8), none, 0⟩,
          ⟨(some 67), .mov (.tmp 9), none, 0⟩,
          ⟨(some 68), .mov (.tmp 10), none, 0⟩,
          ⟨(some 69), .iaddr none 4 (.tmp 67) (.tmp 68), none, 0⟩,
          ⟨(some 70), .faddr 2 (.tmp 69), none, 0⟩,
          ⟨(some 71), .load none (.tmp 70), none, 0⟩,
          ⟨(some 72), .bin .add (.tmp 66) (.tmp 71), none, 0⟩,
          ⟨(some 8), .mov (.tmp 72), none, 0⟩]))))
        (.region [⟨(some 21), .mov (.tmp 10), none, 0⟩,
          ⟨(some 22), .bin .add (.tmp 21) (.const (.int .i64 1)), none, 0⟩,
          ⟨(some 10), .mov (.tmp 22), none, 0⟩]))))))
      (.seq (.region [⟨(some 73), .mov (.tmp 7), none, 0⟩,
        ⟨(some 74), .mov (.tmp 8), none, 0⟩,
        ⟨(some 4), .mov (.tmp 73), none, 0⟩,
        ⟨(some 5), .mov (.tmp 74), none, 0⟩,
        ⟨(some 6), .mov (.const (.int .i64 0)), none, 0⟩])
      (.ret))))))) }

def F.sidingsref17_Moves : IFunc :=
  { lb := [], scr := true, nargs := 2, res := [.tmp 4],
    body := .seq (.region [⟨(some 4), .mov (.const (.bool false)), none, 0⟩])
      (.seq (.seq (.region [⟨(some 6), .mov (.tmp 0), none, 0⟩,
        ⟨(some 7), .len false (.tmp 6), none, 0⟩,
        ⟨(some 8), .mov (.tmp 1), none, 0⟩,
        ⟨(some 9), .len false (.tmp 8), none, 0⟩,
        ⟨(some 10), .bin .neq (.tmp 7) (.tmp 9), none, 0⟩])
      (.cond (.tmp 10)
        (.seq (.region [⟨(some 4), .mov (.const (.bool false)), none, 0⟩])
        (.ret))
        (.skip)))
      (.seq (.seq (.region [⟨(some 5), .mov (.const (.int .i64 0)), none, 0⟩])
      (.block 0 (.loop [0, 1, 5]
        (.seq (.seq (.region [⟨(some 11), .mov (.tmp 5), none, 0⟩,
          ⟨(some 12), .mov (.tmp 0), none, 0⟩,
          ⟨(some 13), .len false (.tmp 12), none, 0⟩,
          ⟨(some 14), .bin .lss (.tmp 11) (.tmp 13), none, 0⟩])
        (.cond (.tmp 14)
          (.skip)
          (.exit 0)))
        (.seq (.block 1 (.seq (.region [⟨(some 17), .mov (.tmp 0), none, 0⟩,
          ⟨(some 18), .mov (.tmp 5), none, 0⟩,
          ⟨(some 19), .iaddr none 4 (.tmp 17) (.tmp 18), none, 0⟩,
          ⟨(some 20), .load (some 4) (.tmp 19), none, 0⟩,
          ⟨(some 21), .mov (.tmp 1), none, 0⟩,
          ⟨(some 22), .mov (.tmp 5), none, 0⟩,
          ⟨(some 23), .iaddr none 4 (.tmp 21) (.tmp 22), none, 0⟩,
          ⟨(some 24), .load (some 4) (.tmp 23), none, 0⟩,
          ⟨(some 25), .eqv true (.cells [(0, 0), (1, 0), (2, 0), (3, 0)]) (.tmp 20) (.tmp 24), none, 0⟩])
        (.cond (.tmp 25)
          (.seq (.region [⟨(some 4), .mov (.const (.bool false)), none, 0⟩])
          (.ret))
          (.skip))))
        (.region [⟨(some 15), .mov (.tmp 5), none, 0⟩,
          ⟨(some 16), .bin .add (.tmp 15) (.const (.int .i64 1)), none, 0⟩,
          ⟨(some 5), .mov (.tmp 16), none, 0⟩]))))))
      (.seq (.region [⟨(some 4), .mov (.const (.bool true)), none, 0⟩])
      (.ret)))) }

def F.sidingslaw17_moves : IFunc :=
  { lb := [], scr := true, nargs := 1, res := [.tmp 2],
    body := .seq (.region [⟨(some 2), .mov (.const (.slice none 0 0)), none, 0⟩])
      (.seq (.region [⟨(some 3), .mov (.const (.slice none 0 0)), none, 0⟩])
      (.seq (.seq (.region [⟨(some 4), .mov (.const (.int .i64 0)), none, 0⟩])
      (.block 0 (.loop [0, 3, 4]
        (.seq (.seq (.region [⟨(some 5), .mov (.tmp 4), none, 0⟩,
          ⟨(some 6), .mov (.tmp 0), none, 0⟩,
          ⟨(some 7), .len false (.tmp 6), none, 0⟩,
          ⟨(some 8), .bin .lss (.tmp 5) (.tmp 7), none, 0⟩])
        (.cond (.tmp 8)
          (.skip)
          (.exit 0)))
        (.seq (.block 1 (.region [⟨(some 11), .mov (.tmp 3), none, 0⟩,
          ⟨(some 12), .mov (.tmp 0), none, 0⟩,
          ⟨(some 13), .mov (.tmp 4), none, 0⟩,
          ⟨(some 14), .iaddr none 4 (.tmp 12) (.tmp 13), none, 0⟩,
          ⟨(some 15), .faddr 0 (.tmp 14), none, 0⟩,
          ⟨(some 16), .load none (.tmp 15), none, 0⟩,
          ⟨(some 17), .mov (.tmp 0), none, 0⟩,
          ⟨(some 18), .mov (.tmp 4), none, 0⟩,
          ⟨(some 19), .iaddr none 4 (.tmp 17) (.tmp 18), none, 0⟩,
          ⟨(some 20), .faddr 1 (.tmp 19), none, 0⟩,
          ⟨(some 21), .load none (.tmp 20), none, 0⟩,
          ⟨(some 22), .mov (.tmp 0), none, 0⟩,
          ⟨(some 23), .mov (.tmp 4), none, 0⟩,
          ⟨(some 24), .iaddr none 4 (.tmp 22) (.tmp 23), none, 0⟩,
          ⟨(some 25), .faddr 2 (.tmp 24), none, 0⟩,
          ⟨(some 26), .load none (.tmp 25), none, 0⟩,
          ⟨(some 27), .mov (.tmp 0), none, 0⟩,
          ⟨(some 28), .mov (.tmp 4), none, 0⟩,
          ⟨(some 29), .iaddr none 4 (.tmp 27) (.tmp 28), none, 0⟩,
          ⟨(some 30), .faddr 3 (.tmp 29), none, 0⟩,
          ⟨(some 31), .load none (.tmp 30), none, 0⟩,
          ⟨(some 32), .build [.int .i64 0, .int .i64 0, .int .i64 0, .int .i64 0] [(0, 1, .tmp 16), (1, 1, .tmp 21), (2, 1, .tmp 26), (3, 1, .tmp 31)], none, 0⟩,
          ⟨(some 33), .buildSlice 4 1 [.int .i64 0, .int .i64 0, .int .i64 0, .int .i64 0] [(0, 4, .tmp 32)], none, 0⟩,
          ⟨(some 34), .append 4 32 (.tmp 11) (.tmp 33), none, 0⟩,
          ⟨(some 3), .mov (.tmp 34), none, 0⟩]))
        (.region [⟨(some 9), .mov (.tmp 4), none, 0⟩,
          ⟨(some 10), .bin .add (.tmp 9) (.const (.int .i64 1)), none, 0⟩,
          ⟨(some 4), .mov (.tmp 10), none, 0⟩]))))))
      (.seq (.region [⟨(some 35), .mov (.tmp 3), none, 0⟩,
        ⟨(some 2), .mov (.tmp 35), none, 0⟩])
      (.ret)))) }

def F.sidingsref17_Sort : IFunc :=
  { lb := [], scr := true, nargs := 1, res := [.tmp 2],
    body := .seq (.region [⟨(some 2), .mov (.const (.slice none 0 0)), none, 0⟩])
      (.seq (.region [⟨(some 3), .mov (.const (.slice none 0 0)), none, 0⟩])
      (.seq (.seq (.region [⟨(some 4), .mov (.const (.int .i64 0)), none, 0⟩])
      (.block 0 (.loop [0, 3, 4]
        (.seq (.seq (.region [⟨(some 8), .mov (.tmp 4), none, 0⟩,
          ⟨(some 9), .mov (.tmp 0), none, 0⟩,
          ⟨(some 10), .len false (.tmp 9), none, 0⟩,
          ⟨(some 11), .bin .lss (.tmp 8) (.tmp 10), none, 0⟩])
        (.cond (.tmp 11)
          (.skip)
          (.exit 0)))
        (.seq (.block 1 (.seq (.region [⟨(some 5), .mov (.const (.slice none 0 0)), none, 0⟩])
        (.seq (.region [⟨(some 6), .mov (.const (.bool false)), none, 0⟩])
        (.seq (.seq (.region [⟨(some 7), .mov (.const (.int .i64 0)), none, 0⟩])
        (.block 2 (.loop [0, 3, 4, 5, 6, 7]
          (.seq (.seq (.region [⟨(some 14), .mov (.tmp 7), none, 0⟩,
            ⟨(some 15), .mov (.tmp 3), none, 0⟩,
            ⟨(some 16), .len false (.tmp 15), none, 0⟩,
            ⟨(some 17), .bin .lss (.tmp 14) (.tmp 16), none, 0⟩])
          (.cond (.tmp 17)
            (.skip)
            (.exit 2)))
          (.seq (.block 3 (.seq (.seq (.region [⟨(some 20), .mov (.tmp 6), none, 0⟩,
            ⟨(some 21), .un .not (.tmp 20), none, 0⟩,
            ⟨(some 22), .mov (.tmp 21), none, 0⟩,
            ⟨(some 23), .mov (.tmp 0), (some (22, true)), 0⟩,
            ⟨(some 24), .mov (.tmp 4), (some (22, true)), 0⟩,
            ⟨(some 25), .iaddr none 4 (.tmp 23) (.tmp 24), (some (22, true)), 0⟩,
            ⟨(some 26), .load (some 4) (.tmp 25), (some (22, true)), 0⟩,
            ⟨(some 27), .mov (.tmp 3), (some (22, true)), 0⟩,
            ⟨(some 28), .mov (.tmp 7), (some (22, true)), 0⟩,
            ⟨(some 29), .iaddr none 4 (.tmp 27) (.tmp 28), (some (22, true)), 0⟩,
            ⟨(some 30), .load (some 4) (.tmp 29), (some (22, true)), 0⟩,
            ⟨(some 31), .call Id.sidingsref17_ahead [.tmp 26, .tmp 30], (some (22, true)), 0⟩,
            ⟨(some 32), .pick (.tmp 22) (.tmp 31) (.const (.bool false)), none, 0⟩])
          (.cond (.tmp 32)
            (.seq (.region [⟨(some 33), .mov (.tmp 5), none, 0⟩,
              ⟨(some 34), .mov (.tmp 0), none, 0⟩,
              ⟨(some 35), .mov (.tmp 4), none, 0⟩,
              ⟨(some 36), .iaddr none 4 (.tmp 34) (.tmp 35), none, 0⟩,
              ⟨(some 37), .load (some 4) (.tmp 36), none, 0⟩,
              ⟨(some 38), .buildSlice 4 1 [.int .i64 0, .int .i64 0, .int .i64 0, .bool false] [(0, 4, .tmp 37)], none, 0⟩,
              ⟨(some 39), .append 4 32 (.tmp 33) (.tmp 38), none, 0⟩,
              ⟨(some 5), .mov (.tmp 39), none, 0⟩])
            (.region [⟨(some 6), .mov (.const (.bool true)), none, 0⟩]))
            (.skip)))
          (.region [⟨(some 40), .mov (.tmp 5), none, 0⟩,
            ⟨(some 41), .mov (.tmp 3), none, 0⟩,
            ⟨(some 42), .mov (.tmp 7), none, 0⟩,
            ⟨(some 43), .iaddr none 4 (.tmp 41) (.tmp 42), none, 0⟩,
            ⟨(some 44), .load (some 4) (.tmp 43), none, 0⟩,
            ⟨(some 45), .buildSlice 4 1 [.int .i64 0, .int .i64 0, .int .i64 0, .bool false] [(0, 4, .tmp 44)], none, 0⟩,
            ⟨(some 46), .append 4 32 (.tmp 40) (.tmp 45), none, 0⟩,
            ⟨(some 5), .mov (.tmp 46), none, 0⟩])))
          (.region [⟨(some 18), .mov (.tmp 7), none, 0⟩,
            ⟨(some 19), .bin .add (.tmp 18) (.const (.int .i64 1)), none, 0⟩,
            ⟨(some 7), .mov (.tmp 19), none, 0⟩]))))))
        (.seq (.seq (.region [⟨(some 47), .mov (.tmp 6), none, 0⟩,
          ⟨(some 48), .un .not (.tmp 47), none, 0⟩])
        (.cond (.tmp 48)
          (.region [⟨(some 49), .mov (.tmp 5), none, 0⟩,
            ⟨(some 50), .mov (.tmp 0), none, 0⟩,
            ⟨(some 51), .mov (.tmp 4), none, 0⟩,
            ⟨(some 52), .iaddr none 4 (.tmp 50) (.tmp 51), none, 0⟩,
            ⟨(some 53), .load (some 4) (.tmp 52), none, 0⟩,
            ⟨(some 54), .buildSlice 4 1 [.int .i64 0, .int .i64 0, .int .i64 0, .bool false] [(0, 4, .tmp 53)], none, 0⟩,
            ⟨(some 55), .append 4 32 (.tmp 49) (.tmp 54), none, 0⟩,
            ⟨(some 5), .mov (.tmp 55), none, 0⟩])
          (.skip)))
        (.region [⟨(some 56), .mov (.tmp 5), none, 0⟩,
          ⟨(some 3), .mov (.tmp 56), none, 0⟩]))))))
        (.region [⟨(some 12), .mov (.tmp 4), none, 0⟩,
          ⟨(some 13), .bin .add (.tmp 12) (.const (.int .i64 1)), none, 0⟩,
          ⟨(some 4), .mov (.tmp 13), none, 0⟩]))))))
      (.seq (.region [⟨(some 57), .mov (.tmp 3), none, 0⟩,
        ⟨(some 2), .mov (.tmp 57), none, 0⟩])
      (.ret)))) }

def F.sidingsref17_Apart : IFunc :=
  { lb := [], scr := true, nargs := 1, res := [.tmp 2],
    body := .seq (.region [⟨(some 2), .mov (.const (.bool false)), none, 0⟩])
      (.seq (.seq (.region [⟨(some 3), .mov (.const (.int .i64 0)), none, 0⟩])
      (.block 0 (.loop [0, 3]
        (.seq (.seq (.region [⟨(some 5), .mov (.tmp 3), none, 0⟩,
          ⟨(some 6), .mov (.tmp 0), none, 0⟩,
          ⟨(some 7), .len false (.tmp 6), none, 0⟩,
          ⟨(some 8), .bin .lss (.tmp 5) (.tmp 7), none, 0⟩])
        (.cond (.tmp 8)
          (.skip)
          (.exit 0)))
        (.seq (.block 1 (.seq (.region [⟨(some 4), .mov (.const (.int .i64 0)), none, 0⟩])
        (.block 2 (.loop [0, 3, 4]
          (.seq (.seq (.region [⟨(some 11), .mov (.tmp 4), none, 0⟩,
            ⟨(some 12), .mov (.tmp 3), none, 0⟩,
            ⟨(some 13), .bin .lss (.tmp 11) (.tmp 12), none, 0⟩])
          (.cond (.tmp 13)
            (.skip)
            (.exit 2)))
          (.seq (.block 3 (.seq (.region [⟨(some 16), .mov (.tmp 0), none, 0⟩,
            ⟨(some 17), .mov (.tmp 3), none, 0⟩,
            ⟨(some 18), .iaddr none 4 (.tmp 16) (.tmp 17), none, 0⟩,
            ⟨(some 19), .load (some 4) (.tmp 18), none, 0⟩,
            ⟨(some 20), .mov (.tmp 0), none, 0⟩,
            ⟨(some 21), .mov (.tmp 4), none, 0⟩,
            ⟨(some 22), .iaddr none 4 (.tmp 20) (.tmp 21), none, 0⟩,
            ⟨(some 23), .load (some 4) (.tmp 22), none, 0⟩,
            ⟨(some 24), .call Id.sidingsref17_share [.tmp 19, .tmp 23], none, 0⟩])
          (.cond (.tmp 24)
            (.seq (.region [⟨(some 2), .mov (.const (.bool false)), none, 0⟩])
            (.ret))
            (.skip))))
          (.region [⟨(some 14), .mov (.tmp 4), none, 0⟩,
            ⟨(some 15), .bin .add (.tmp 14) (.const (.int .i64 1)), none, 0⟩,
            ⟨(some 4), .mov (.tmp 15), none, 0⟩])))))))
        (.region [⟨(some 9), .mov (.tmp 3), none, 0⟩,
          ⟨(some 10), .bin .add (.tmp 9) (.const (.int .i64 1)), none, 0⟩,
          ⟨(some 3), .mov (.tmp 10), none, 0⟩]))))))
      (.seq (.region [⟨(some 2), .mov (.const (.bool true)), none, 0⟩])
      (.ret))) }

def F.sidingslaw17_moved : IFunc :=
  { lb := [7], scr := true, nargs := 2, res := [.tmp 4],
    body := .seq (.region [⟨(some 4), .mov (.const (.slice none 0 0)), none, 0⟩])
      (.seq (.region [⟨(some 5), .mov (.const (.slice none 0 0)), none, 0⟩])
      (.seq (.seq (.region [⟨(some 6), .mov (.const (.int .i64 0)), none, 0⟩])
      (.block 0 (.loop [0, 1, 5, 6]
        (.seq (.seq (.region [⟨(some 9), .mov (.tmp 6), none, 0⟩,
          ⟨(some 10), .mov (.tmp 0), none, 0⟩,
          ⟨(some 11), .len false (.tmp 10), none, 0⟩,
          ⟨(some 12), .bin .lss (.tmp 9) (.tmp 11), none, 0⟩])
        (.cond (.tmp 12)
          (.skip)
          (.exit 0)))
        (.seq (.block 1 (.seq (.region [⟨(some 15), .mov (.tmp 0), none, 0⟩,
          ⟨(some 16), .mov (.tmp 6), none, 0⟩,
          ⟨(some 17), .iaddr none 4 (.tmp 15) (.tmp 16), none, 0⟩,
          ⟨(some 18), .load (some 4) (.tmp 17), none, 0⟩,
          ⟨(some 7), .lbox (.const (.agg #[.int .i64 0, .int .i64 0, .int .i64 0, .bool false])), none, 0⟩,
          ⟨(some 7), .lstore none 7 0 4 (.tmp 18), none, 0⟩])
        (.seq (.seq (.region [⟨(some 8), .mov (.const (.int .i64 0)), none, 0⟩])
        (.block 2 (.loop [0, 1, 5, 6, 7, 8]
          (.seq (.seq (.region [⟨(some 19), .mov (.tmp 8), none, 0⟩,
            ⟨(some 20), .mov (.tmp 1), none, 0⟩,
            ⟨(some 21), .len false (.tmp 20), none, 0⟩,
            ⟨(some 22), .bin .lss (.tmp 19) (.tmp 21), none, 0⟩])
          (.cond (.tmp 22)
            (.skip)
            (.exit 2)))
          (.seq (.block 3 (.seq (.region [⟨(some 25), .mov (.tmp 1), none, 0⟩,
            ⟨(some 26), .mov (.tmp 8), none, 0⟩,
            ⟨(some 27), .iaddr none 4 (.tmp 25) (.tmp 26), none, 0⟩,
            ⟨(some 28), .faddr 1 (.tmp 27), none, 0⟩,
            ⟨(some 29), .load none (.tmp 28), none, 0⟩,
            ⟨(some 30), .mov (.tmp 0), none, 0⟩,
            ⟨(some 31), .mov (.tmp 6), none, 0⟩,
            ⟨(some 32), .iaddr none 4 (.tmp 30) (.tmp 31), none, 0⟩,
            ⟨(some 33), .faddr 1 (.tmp 32), none, 0⟩,
            ⟨(some 34), .load none (.tmp 33), none, 0⟩,
            ⟨(some 35), .bin .eql (.tmp 29) (.tmp 34), none, 0⟩])
          (.cond (.tmp 35)
            (.region [⟨(some 36), .mov (.tmp 1), none, 0⟩,
              ⟨(some 37), .mov (.tmp 8), none, 0⟩,
              ⟨(some 38), .iaddr none 4 (.tmp 36) (.tmp 37), none, 0⟩,
              ⟨(some 39), .faddr 2 (.tmp 38), none, 0⟩,
              ⟨(some 40), .load none (.tmp 39), none, 0⟩,
              ⟨(some 41), .laddr none 7 1, none, 0⟩,
              ⟨(some 7), .lstore (some 41) 7 1 1 (.tmp 40), none, 0⟩])
            (.skip))))
          (.region [⟨(some 23), .mov (.tmp 8), none, 0⟩,
            ⟨(some 24), .bin .add (.tmp 23) (.const (.int .i64 1)), none, 0⟩,
            ⟨(some 8), .mov (.tmp 24), none, 0⟩]))))))
        (.region [⟨(some 42), .mov (.tmp 5), none, 0⟩,
          ⟨(some 43), .lload none 7 0 (some 4), none, 0⟩,
          ⟨(some 44), .buildSlice 4 1 [.int .i64 0, .int .i64 0, .int .i64 0, .bool false] [(0, 4, .tmp 43)], none, 0⟩,
          ⟨(some 45), .append 4 32 (.tmp 42) (.tmp 44), none, 0⟩,
          ⟨(some 5), .mov (.tmp 45), none, 0⟩]))))
        (.region [⟨(some 13), .mov (.tmp 6), none, 0⟩,
          ⟨(some 14), .bin .add (.tmp 13) (.const (.int .i64 1)), none, 0⟩,
          ⟨(some 6), .mov (.tmp 14), none, 0⟩]))))))
      (.seq (.region [⟨(some 46), .mov (.tmp 5), none, 0⟩,
        ⟨(some 4), .mov (.tmp 46), none, 0⟩])
      (.ret)))) }

def F.plan_Gaps : IFunc :=
  { lb := [8], scr := true, nargs := 2, res := [.tmp 4],
    body := .seq (.region [⟨(some 4), .mov (.const (.slice none 0 0)), none, 0⟩])
      (.seq (.seq (.region [⟨(some 10), .mov (.tmp 1), none, 0⟩,
        ⟨(some 11), .bin .lss (.tmp 10) (.const (.int .i64 1)), none, 0⟩,
        ⟨(some 12), .mov (.tmp 11), none, 0⟩,
        ⟨(some 13), .mov (.tmp 1), (some (12, false)), 0⟩,
        ⟨(some 14), .bin .gtr (.tmp 13) (.const (.int .i64 4096)), (some (12, false)), 0⟩,
        ⟨(some 15), .pick (.tmp 12) (.const (.bool true)) (.tmp 14), none, 0⟩,
        ⟨(some 16), .mov (.tmp 15), none, 0⟩,
        ⟨(some 17), .mov (.tmp 0), (some (16, false)), 0⟩,
        ⟨(some 18), .call Id.plan_Check [.tmp 17, .const (.int .i64 4096)], (some (16, false)), 0⟩,
        ⟨(some 19), .bin .neq (.tmp 18) (.const (.int .i64 0)), (some (16, false)), 0⟩,
        ⟨(some 20), .pick (.tmp 16) (.const (.bool true)) (.tmp 19), none, 0⟩])
      (.cond (.tmp 20)
        (.seq (.region [⟨(some 4), .mov (.const (.slice none 0 0)), none, 0⟩])
        (.ret))
        (.skip)))
      (.seq (.region [⟨(some 5), .mov (.const (.slice none 0 0)), none, 0⟩])
      (.seq (.region [⟨(some 21), .call Id.plan_spanOf [.const (.int .i64 0), .const (.int .i64 0)], none, 0⟩,
        ⟨(some 6), .mov (.tmp 21), none, 0⟩])
      (.seq (.seq (.region [⟨(some 22), .mov (.tmp 0), none, 0⟩,
        ⟨(some 23), .call Id.plan_Sort [.tmp 22], none, 0⟩,
        ⟨(some 24), .mov (.tmp 1), none, 0⟩,
        ⟨(some 25), .build [.int .i64 0, .int .i64 0, .int .i64 0, .bool false] [(1, 1, .tmp 24), (2, 1, .const (.int .i64 1))], none, 0⟩,
        ⟨(some 26), .buildSlice 4 1 [.int .i64 0, .int .i64 0, .int .i64 0, .bool false] [(0, 4, .tmp 25)], none, 0⟩,
        ⟨(some 27), .append 4 32 (.tmp 23) (.tmp 26), none, 0⟩,
        ⟨(some 28), .len false (.tmp 27), none, 0⟩,
        ⟨(some 29), .mov (.const (.int .i64 0)), none, 0⟩])
      (.block 0 (.loop [1, 5, 6, 27, 28, 29]
        (.seq (.region [⟨(some 30), .bin .lss (.tmp 29) (.tmp 28), none, 0⟩])
        (.seq (.cond (.tmp 30)
          (.skip)
          (.exit 0))
        (.seq (.block 1 (.seq (.region [⟨(some 31), .iaddr none 4 (.tmp 27) (.tmp 29), none, 0⟩,
          ⟨(some 32), .load (some 4) (.tmp 31), none, 0⟩,
          ⟨(some 8), .lbox (.const (.agg #[.int .i64 0, .int .i64 0, .int .i64 0, .bool false])), none, 0⟩,
          ⟨(some 8), .lstore none 8 0 4 (.tmp 32), none, 0⟩])
        (.seq (.seq (.region [⟨(some 37), .mov (.tmp 6), none, 0⟩,
          ⟨(some 38), .call Id.plan_span_end [.tmp 37], none, 0⟩,
          ⟨(some 33), .laddr none 8 1, none, 0⟩,
          ⟨(some 34), .lload (some 33) 8 1 none, none, 0⟩,
          ⟨(some 35), .mov (.tmp 1), none, 0⟩,
          ⟨(some 36), .min [.tmp 34, .tmp 35], none, 0⟩,
          ⟨(some 39), .bin .sub (.tmp 36) (.tmp 38), none, 0⟩,
          ⟨(some 9), .mov (.tmp 39), none, 0⟩])
        (.seq (.region [⟨(some 40), .mov (.tmp 9), none, 0⟩,
          ⟨(some 41), .bin .gtr (.tmp 40) (.const (.int .i64 0)), none, 0⟩])
        (.cond (.tmp 41)
          (.region [⟨(some 42), .mov (.tmp 5), none, 0⟩,
            ⟨(some 43), .mov (.tmp 6), none, 0⟩,
            ⟨(some 44), .call Id.plan_span_end [.tmp 43], none, 0⟩,
            ⟨(some 45), .mov (.tmp 9), none, 0⟩,
            ⟨(some 46), .build [.int .i64 0, .int .i64 0, .int .i64 0, .bool false] [(0, 1, .const (.int .i64 (-1))), (1, 1, .tmp 44), (2, 1, .tmp 45)], none, 0⟩,
            ⟨(some 47), .buildSlice 4 1 [.int .i64 0, .int .i64 0, .int .i64 0, .bool false] [(0, 4, .tmp 46)], none, 0⟩,
            ⟨(some 48), .append 4 32 (.tmp 42) (.tmp 47), none, 0⟩,
            ⟨(some 5), .mov (.tmp 48), none, 0⟩])
          (.skip))))
        (.region [⟨(some 49), .laddr none 8 1, none, 0⟩,
          ⟨(some 50), .lload (some 49) 8 1 none, none, 0⟩,
          ⟨(some 51), .laddr none 8 2, none, 0⟩,
          ⟨(some 52), .lload (some 51) 8 2 none, none, 0⟩,
          ⟨(some 53), .call Id.plan_spanOf [.tmp 50, .tmp 52], none, 0⟩,
          ⟨(some 6), .mov (.tmp 53), none, 0⟩]))))
        (.region [⟨(some 54), .bin .add (.tmp 29) (.const (.int .i64 1)), none, 0⟩,
          ⟨(some 29), .mov (.tmp 54), none, 0⟩])))))))
      (.seq (.region [⟨(some 55), .mov (.tmp 5), none, 0⟩,
        ⟨(some 4), .mov (.tmp 55), none, 0⟩])
      (.ret)))))) }

def F.plan_Sort : IFunc :=
  { lb := [], scr := true, nargs := 1, res := [.tmp 2],
    body := .seq (.region [⟨(some 2), .mov (.const (.slice none 0 0)), none, 0⟩])
      (.seq (.region [⟨(some 4), .mov (.tmp 0), none, 0⟩,
        ⟨(some 5), .call Id.slices_Clone_Lplan_Object [.tmp 4], none, 0⟩,
        ⟨(some 3), .mov (.tmp 5), none, 0⟩])
      (.seq (.region [⟨(some 6), .mov (.tmp 3), none, 0⟩,
        ⟨(some 7), .call Id.slices_SortStableFunc_Lplan_Object [.tmp 6, .func Id.plan_byPlace], none, 0⟩])
      (.seq (.region [⟨(some 8), .mov (.tmp 3), none, 0⟩,
        ⟨(some 2), .mov (.tmp 8), none, 0⟩])
      (.ret)))) }

def F.sidingsref17_Same : IFunc :=
  { lb := [], scr := true, nargs := 2, res := [.tmp 4],
    body := .seq (.region [⟨(some 4), .mov (.const (.bool false)), none, 0⟩])
      (.seq (.seq (.region [⟨(some 6), .mov (.tmp 0), none, 0⟩,
        ⟨(some 7), .len false (.tmp 6), none, 0⟩,
        ⟨(some 8), .mov (.tmp 1), none, 0⟩,
        ⟨(some 9), .len false (.tmp 8), none, 0⟩,
        ⟨(some 10), .bin .neq (.tmp 7) (.tmp 9), none, 0⟩])
      (.cond (.tmp 10)
        (.seq (.region [⟨(some 4), .mov (.const (.bool false)), none, 0⟩])
        (.ret))
        (.skip)))
      (.seq (.seq (.region [⟨(some 5), .mov (.const (.int .i64 0)), none, 0⟩])
      (.block 0 (.loop [0, 1, 5]
        (.seq (.seq (.region [⟨(some 11), .mov (.tmp 5), none, 0⟩,
          ⟨(some 12), .mov (.tmp 0), none, 0⟩,
          ⟨(some 13), .len false (.tmp 12), none, 0⟩,
          ⟨(some 14), .bin .lss (.tmp 11) (.tmp 13), none, 0⟩])
        (.cond (.tmp 14)
          (.skip)
          (.exit 0)))
        (.seq (.block 1 (.seq (.region [⟨(some 17), .mov (.tmp 0), none, 0⟩,
          ⟨(some 18), .mov (.tmp 5), none, 0⟩,
          ⟨(some 19), .iaddr none 4 (.tmp 17) (.tmp 18), none, 0⟩,
          ⟨(some 20), .load (some 4) (.tmp 19), none, 0⟩,
          ⟨(some 21), .mov (.tmp 1), none, 0⟩,
          ⟨(some 22), .mov (.tmp 5), none, 0⟩,
          ⟨(some 23), .iaddr none 4 (.tmp 21) (.tmp 22), none, 0⟩,
          ⟨(some 24), .load (some 4) (.tmp 23), none, 0⟩,
          ⟨(some 25), .eqv true (.cells [(0, 0), (1, 0), (2, 0), (3, 1)]) (.tmp 20) (.tmp 24), none, 0⟩])
        (.cond (.tmp 25)
          (.seq (.region [⟨(some 4), .mov (.const (.bool false)), none, 0⟩])
          (.ret))
          (.skip))))
        (.region [⟨(some 15), .mov (.tmp 5), none, 0⟩,
          ⟨(some 16), .bin .add (.tmp 15) (.const (.int .i64 1)), none, 0⟩,
          ⟨(some 5), .mov (.tmp 16), none, 0⟩]))))))
      (.seq (.region [⟨(some 4), .mov (.const (.bool true)), none, 0⟩])
      (.ret)))) }

def F.sidingslaw17_told : IFunc :=
  { lb := [], scr := true, nargs := 1, res := [.tmp 2],
    body := .seq (.region [⟨(some 2), .mov (.const (.slice none 0 0)), none, 0⟩])
      (.seq (.region [⟨(some 3), .mov (.const (.slice none 0 0)), none, 0⟩])
      (.seq (.seq (.region [⟨(some 4), .mov (.const (.int .i64 0)), none, 0⟩])
      (.block 0 (.loop [0, 3, 4]
        (.seq (.seq (.region [⟨(some 5), .mov (.tmp 4), none, 0⟩,
          ⟨(some 6), .mov (.tmp 0), none, 0⟩,
          ⟨(some 7), .len false (.tmp 6), none, 0⟩,
          ⟨(some 8), .bin .lss (.tmp 5) (.tmp 7), none, 0⟩])
        (.cond (.tmp 8)
          (.skip)
          (.exit 0)))
        (.seq (.block 1 (.region [⟨(some 11), .mov (.tmp 3), none, 0⟩,
          ⟨(some 12), .mov (.tmp 0), none, 0⟩,
          ⟨(some 13), .mov (.tmp 4), none, 0⟩,
          ⟨(some 14), .iaddr none 4 (.tmp 12) (.tmp 13), none, 0⟩,
          ⟨(some 15), .faddr 0 (.tmp 14), none, 0⟩,
          ⟨(some 16), .load none (.tmp 15), none, 0⟩,
          ⟨(some 17), .mov (.tmp 0), none, 0⟩,
          ⟨(some 18), .mov (.tmp 4), none, 0⟩,
          ⟨(some 19), .iaddr none 4 (.tmp 17) (.tmp 18), none, 0⟩,
          ⟨(some 20), .faddr 1 (.tmp 19), none, 0⟩,
          ⟨(some 21), .load none (.tmp 20), none, 0⟩,
          ⟨(some 22), .mov (.tmp 0), none, 0⟩,
          ⟨(some 23), .mov (.tmp 4), none, 0⟩,
          ⟨(some 24), .iaddr none 4 (.tmp 22) (.tmp 23), none, 0⟩,
          ⟨(some 25), .faddr 2 (.tmp 24), none, 0⟩,
          ⟨(some 26), .load none (.tmp 25), none, 0⟩,
          ⟨(some 27), .mov (.tmp 0), none, 0⟩,
          ⟨(some 28), .mov (.tmp 4), none, 0⟩,
          ⟨(some 29), .iaddr none 4 (.tmp 27) (.tmp 28), none, 0⟩,
          ⟨(some 30), .faddr 3 (.tmp 29), none, 0⟩,
          ⟨(some 31), .load none (.tmp 30), none, 0⟩,
          ⟨(some 32), .build [.int .i64 0, .int .i64 0, .int .i64 0, .bool false] [(0, 1, .tmp 16), (1, 1, .tmp 21), (2, 1, .tmp 26), (3, 1, .tmp 31)], none, 0⟩,
          ⟨(some 33), .buildSlice 4 1 [.int .i64 0, .int .i64 0, .int .i64 0, .bool false] [(0, 4, .tmp 32)], none, 0⟩,
          ⟨(some 34), .append 4 32 (.tmp 11) (.tmp 33), none, 0⟩,
          ⟨(some 3), .mov (.tmp 34), none, 0⟩]))
        (.region [⟨(some 9), .mov (.tmp 4), none, 0⟩,
          ⟨(some 10), .bin .add (.tmp 9) (.const (.int .i64 1)), none, 0⟩,
          ⟨(some 4), .mov (.tmp 10), none, 0⟩]))))))
      (.seq (.region [⟨(some 35), .mov (.tmp 3), none, 0⟩,
        ⟨(some 2), .mov (.tmp 35), none, 0⟩])
      (.ret)))) }

def F.plan_Apart : IFunc :=
  { lb := [], scr := true, nargs := 1, res := [.tmp 2],
    body := .seq (.region [⟨(some 2), .mov (.const (.bool false)), none, 0⟩])
      (.seq (.region [⟨(some 6), .mov (.tmp 0), none, 0⟩,
        ⟨(some 7), .call Id.plan_Sort [.tmp 6], none, 0⟩,
        ⟨(some 8), .call Id.slices_DeleteFunc_Lplan_Object [.tmp 7, .func Id.plan_Apart_1], none, 0⟩,
        ⟨(some 3), .mov (.tmp 8), none, 0⟩])
      (.seq (.seq (.region [⟨(some 9), .mov (.tmp 3), none, 0⟩,
        ⟨(some 10), .len false (.tmp 9), none, 0⟩,
        ⟨(some 11), .mov (.const (.int .i64 0)), none, 0⟩])
      (.block 0 (.loop [3, 9, 10, 11]
        (.seq (.region [⟨(some 12), .bin .lss (.tmp 11) (.tmp 10), none, 0⟩])
        (.seq (.cond (.tmp 12)
          (.skip)
          (.exit 0))
        (.seq (.block 1 (.seq (.region [⟨(some 13), .mov (.tmp 11), none, 0⟩,
          ⟨(some 14), .iaddr none 4 (.tmp 9) (.tmp 11), none, 0⟩,
          ⟨(some 15), .load (some 4) (.tmp 14), none, 0⟩,
          ⟨(some 5), .box (.const (.agg #[.int .i64 0, .int .i64 0, .int .i64 0, .bool false])), none, 0⟩,
          ⟨(some 4), .mov (.tmp 13), none, 0⟩,
          ⟨none, .store 4 (.tmp 5) (.tmp 15), none, 0⟩])
        (.seq (.region [⟨(some 16), .mov (.tmp 3), none, 0⟩,
          ⟨(some 17), .mov (.tmp 4), none, 0⟩,
          ⟨(some 18), .slice 4 (.tmp 16) none (some (.tmp 17)) none, none, 0⟩,
          ⟨(some 19), .mkfn (.func Id.plan_Apart_2) [] [.tmp 5], none, 0⟩,
          ⟨(some 20), .call Id.slices_ContainsFunc_Lplan_Object [.tmp 18, .tmp 19], none, 0⟩])
        (.cond (.tmp 20)
          (.seq (.region [⟨(some 2), .mov (.const (.bool false)), none, 0⟩])
          (.ret))
          (.skip)))))
        (.region [⟨(some 21), .bin .add (.tmp 11) (.const (.int .i64 1)), none, 0⟩,
          ⟨(some 11), .mov (.tmp 21), none, 0⟩])))))))
      (.seq (.region [⟨(some 2), .mov (.const (.bool true)), none, 0⟩])
      (.ret)))) }

def F.plan_Check : IFunc :=
  { lb := [], scr := true, nargs := 2, res := [.tmp 4],
    body := .seq (.region [⟨(some 3), .box (.tmp 1), none, 0⟩,
        ⟨(some 4), .mov (.const (.int .i64 0)), none, 0⟩])
      (.seq (.region [⟨(some 6), .mkfn (.func Id.plan_Check_1) [] [.tmp 3], none, 0⟩,
        ⟨(some 5), .mov (.tmp 6), none, 0⟩])
      (.seq (.seq (.region [⟨(some 7), .load none (.tmp 3), none, 0⟩,
        ⟨(some 8), .bin .lss (.tmp 7) (.const (.int .i64 0)), none, 0⟩,
        ⟨(some 9), .mov (.tmp 8), none, 0⟩,
        ⟨(some 10), .load none (.tmp 3), (some (9, false)), 0⟩,
        ⟨(some 11), .bin .gtr (.tmp 10) (.const (.int .i64 4096)), (some (9, false)), 0⟩,
        ⟨(some 12), .pick (.tmp 9) (.const (.bool true)) (.tmp 11), none, 0⟩,
        ⟨(some 13), .mov (.tmp 12), none, 0⟩,
        ⟨(some 14), .mov (.tmp 0), (some (13, false)), 0⟩,
        ⟨(some 15), .mov (.tmp 5), (some (13, false)), 0⟩,
        ⟨(some 16), .call Id.slices_ContainsFunc_Lplan_Object [.tmp 14, .tmp 15], (some (13, false)), 0⟩,
        ⟨(some 17), .pick (.tmp 13) (.const (.bool true)) (.tmp 16), none, 0⟩,
        ⟨(some 18), .mov (.tmp 17), none, 0⟩,
        ⟨(some 19), .mov (.tmp 0), (some (18, false)), 0⟩,
        ⟨(some 20), .call Id.plan_Apart [.tmp 19], (some (18, false)), 0⟩,
        ⟨(some 21), .un .not (.tmp 20), (some (18, false)), 0⟩,
        ⟨(some 22), .pick (.tmp 18) (.const (.bool true)) (.tmp 21), none, 0⟩])
      (.cond (.tmp 22)
        (.seq (.region [⟨(some 4), .mov (.const (.int .i64 1)), none, 0⟩])
        (.ret))
        (.skip)))
      (.seq (.region [⟨(some 4), .mov (.const (.int .i64 0)), none, 0⟩])
      (.ret)))) }

def F.sidingsref17_Check : IFunc :=
  { lb := [], scr := true, nargs := 2, res := [.tmp 4],
    body := .seq (.region [⟨(some 4), .mov (.const (.int .i64 0)), none, 0⟩])
      (.seq (.seq (.region [⟨(some 6), .mov (.tmp 1), none, 0⟩,
        ⟨(some 7), .bin .lss (.tmp 6) (.const (.int .i64 0)), none, 0⟩,
        ⟨(some 8), .mov (.tmp 7), none, 0⟩,
        ⟨(some 9), .mov (.tmp 1), (some (8, false)), 0⟩,
        ⟨(some 10), .bin .gtr (.tmp 9) (.const (.int .i64 4096)), (some (8, false)), 0⟩,
        ⟨(some 11), .pick (.tmp 8) (.const (.bool true)) (.tmp 10), none, 0⟩,
        ⟨(some 12), .mov (.tmp 11), none, 0⟩,
        ⟨(some 13), .mov (.tmp 0), (some (12, false)), 0⟩,
        ⟨(some 14), .call Id.sidingsref17_Apart [.tmp 13], (some (12, false)), 0⟩,
        ⟨(some 15), .un .not (.tmp 14), (some (12, false)), 0⟩,
        ⟨(some 16), .pick (.tmp 12) (.const (.bool true)) (.tmp 15), none, 0⟩])
      (.cond (.tmp 16)
        (.seq (.region [⟨(some 4), .mov (.const (.int .i64 1)), none, 0⟩])
        (.ret))
        (.skip)))
      (.seq (.seq (.region [⟨(some 5), .mov (.const (.int .i64 0)), none, 0⟩])
      (.block 0 (.loop [0, 1, 5]
        (.seq (.seq (.region [⟨(some 17), .mov (.tmp 5), none, 0⟩,
          ⟨(some 18), .mov (.tmp 0), none, 0⟩,
          ⟨(some 19), .len false (.tmp 18), none, 0⟩,
          ⟨(some 20), .bin .lss (.tmp 17) (.tmp 19), none, 0⟩])
        (.cond (.tmp 20)
          (.skip)
          (.exit 0)))
        (.seq (.block 1 (.seq (.region [⟨(some 23), .mov (.tmp 0), none, 0⟩,
          ⟨(some 24), .mov (.tmp 5), none, 0⟩,
          ⟨(some 25), .iaddr none 4 (.tmp 23) (.tmp 24), none, 0⟩,
          ⟨(some 26), .faddr 1 (.tmp 25), none, 0⟩,
          ⟨(some 27), .load none (.tmp 26), none, 0⟩,
          ⟨(some 28), .bin .lss (.tmp 27) (.const (.int .i64 0)), none, 0⟩,
          ⟨(some 29), .mov (.tmp 28), none, 0⟩,
          ⟨(some 30), .mov (.tmp 0), (some (29, false)), 0⟩,
          ⟨(some 31), .mov (.tmp 5), (some (29, false)), 0⟩,
          ⟨(some 32), .iaddr none 4 (.tmp 30) (.tmp 31), (some (29, false)), 0⟩,
          ⟨(some 33), .faddr 2 (.tmp 32), (some (29, false)), 0⟩,
          ⟨(some 34), .load none (.tmp 33), (some (29, false)), 0⟩,
          ⟨(some 35), .bin .lss (.tmp 34) (.const (.int .i64 1)), (some (29, false)), 0⟩,
          ⟨(some 36), .pick (.tmp 29) (.const (.bool true)) (.tmp 35), none, 0⟩,
          ⟨(some 37), .mov (.tmp 36), none, 0⟩,
          ⟨(some 38), .mov (.tmp 0), (some (37, false)), 0⟩,
          ⟨(some 39), .mov (.tmp 5), (some (37, false)), 0⟩,
          ⟨(some 40), .iaddr none 4 (.tmp 38) (.tmp 39), (some (37, false)), 0⟩,
          ⟨(some 41), .faddr 2 (.tmp 40), (some (37, false)), 0⟩,
          ⟨(some 42), .load none (.tmp 41), (some (37, false)), 0⟩,
          ⟨(some 43), .bin .gtr (.tmp 42) (.const (.int .i64 4096)), (some (37, false)), 0⟩,
          ⟨(some 44), .pick (.tmp 37) (.const (.bool true)) (.tmp 43), none, 0⟩,
          ⟨(some 45), .mov (.tmp 44), none, 0⟩,
          ⟨(some 46), .mov (.tmp 0), (some (45, false)), 0⟩,
          ⟨(some 47), .mov (.tmp 5), (some (45, false)), 0⟩,
          ⟨(some 48), .iaddr none 4 (.tmp 46) (.tmp 47), (some (45, false)), 0⟩,
          ⟨(some 49), .faddr 1 (.tmp 48), (some (45, false)), 0⟩,
          ⟨(some 50), .load none (.tmp 49), (some (45, false)), 0⟩,
          ⟨(some 51), .mov (.tmp 1), (some (45, false)), 0⟩,
          ⟨(some 52), .mov (.tmp 0), (some (45, false)), 0⟩,
          ⟨(some 53), .mov (.tmp 5), (some (45, false)), 0⟩,
          ⟨(some 54), .iaddr none 4 (.tmp 52) (.tmp 53), (some (45, false)), 0⟩,
          ⟨(some 55), .faddr 2 (.tmp 54), (some (45, false)), 0⟩,
          ⟨(some 56), .load none (.tmp 55), (some (45, false)), 0⟩,
          ⟨(some 57), .bin .sub (.tmp 51) (.tmp 56), (some (45, false)), 0⟩,
          ⟨(some 58), .bin .gtr (.tmp 50) (.tmp 57), (some (45, false)), 0⟩,
          ⟨(some 59), .pick (.tmp 45) (.const (.bool true)) (.tmp 58), none, 0⟩])
        (.cond (.tmp 59)
          (.seq (.region [⟨(some 4), .mov (.const (.int .i64 1)), none, 0⟩])
          (.ret))
          (.skip))))
        (.region [⟨(some 21), .mov (.tmp 5), none, 0⟩,
          ⟨(some 22), .bin .add (.tmp 21) (.const (.int .i64 1)), none, 0⟩,
          ⟨(some 5), .mov (.tmp 22), none, 0⟩]))))))
      (.seq (.region [⟨(some 4), .mov (.const (.int .i64 0)), none, 0⟩])
      (.ret)))) }

def F.sidingsref17_ahead : IFunc :=
  { lb := [2, 3], scr := true, nargs := 2, res := [.tmp 4],
    body := .seq (.region [⟨(some 2), .lbox (.tmp 0), none, 0⟩,
        ⟨(some 3), .lbox (.tmp 1), none, 0⟩,
        ⟨(some 4), .mov (.const (.bool false)), none, 0⟩])
      (.seq (.seq (.region [⟨(some 5), .laddr none 2 1, none, 0⟩,
        ⟨(some 6), .lload (some 5) 2 1 none, none, 0⟩,
        ⟨(some 7), .laddr none 3 1, none, 0⟩,
        ⟨(some 8), .lload (some 7) 3 1 none, none, 0⟩,
        ⟨(some 9), .bin .neq (.tmp 6) (.tmp 8), none, 0⟩])
      (.cond (.tmp 9)
        (.seq (.region [⟨(some 10), .laddr none 2 1, none, 0⟩,
          ⟨(some 11), .lload (some 10) 2 1 none, none, 0⟩,
          ⟨(some 12), .laddr none 3 1, none, 0⟩,
          ⟨(some 13), .lload (some 12) 3 1 none, none, 0⟩,
          ⟨(some 14), .bin .lss (.tmp 11) (.tmp 13), none, 0⟩,
          ⟨(some 4), .mov (.tmp 14), none, 0⟩])
        (.ret))
        (.skip)))
      (.seq (.seq (.region [⟨(some 15), .laddr none 2 0, none, 0⟩,
        ⟨(some 16), .lload (some 15) 2 0 none, none, 0⟩,
        ⟨(some 17), .laddr none 3 0, none, 0⟩,
        ⟨(some 18), .lload (some 17) 3 0 none, none, 0⟩,
        ⟨(some 19), .bin .neq (.tmp 16) (.tmp 18), none, 0⟩])
      (.cond (.tmp 19)
        (.seq (.region [⟨(some 20), .laddr none 2 0, none, 0⟩,
          ⟨(some 21), .lload (some 20) 2 0 none, none, 0⟩,
          ⟨(some 22), .laddr none 3 0, none, 0⟩,
          ⟨(some 23), .lload (some 22) 3 0 none, none, 0⟩,
          ⟨(some 24), .bin .lss (.tmp 21) (.tmp 23), none, 0⟩,
          ⟨(some 4), .mov (.tmp 24), none, 0⟩])
        (.ret))
        (.skip)))
      (.seq (.seq (.region [⟨(some 25), .laddr none 2 2, none, 0⟩,
        ⟨(some 26), .lload (some 25) 2 2 none, none, 0⟩,
        ⟨(some 27), .laddr none 3 2, none, 0⟩,
        ⟨(some 28), .lload (some 27) 3 2 none, none, 0⟩,
        ⟨(some 29), .bin .neq (.tmp 26) (.tmp 28), none, 0⟩])
      (.cond (.tmp 29)
        (.seq (.region [⟨(some 30), .laddr none 2 2, none, 0⟩,
          ⟨(some 31), .lload (some 30) 2 2 none, none, 0⟩,
          ⟨(some 32), .laddr none 3 2, none, 0⟩,
          ⟨(some 33), .lload (some 32) 3 2 none, none, 0⟩,
          ⟨(some 34), .bin .lss (.tmp 31) (.tmp 33), none, 0⟩,
          ⟨(some 4), .mov (.tmp 34), none, 0⟩])
        (.ret))
        (.skip)))
      (.seq (.region [⟨(some 35), .laddr none 2 3, none, 0⟩,
        ⟨(some 36), .lload (some 35) 2 3 none, none, 0⟩,
        ⟨(some 37), .un .not (.tmp 36), none, 0⟩,
        ⟨(some 38), .mov (.tmp 37), none, 0⟩,
        ⟨(some 39), .laddr none 3 3, (some (38, true)), 0⟩,
        ⟨(some 40), .lload (some 39) 3 3 none, (some (38, true)), 0⟩,
        ⟨(some 41), .pick (.tmp 38) (.tmp 40) (.const (.bool false)), none, 0⟩,
        ⟨(some 4), .mov (.tmp 41), none, 0⟩])
      (.ret))))) }

def F.sidingsref17_share : IFunc :=
  { lb := [2, 3], scr := true, nargs := 2, res := [.tmp 4],
    body := .seq (.region [⟨(some 2), .lbox (.tmp 0), none, 0⟩,
        ⟨(some 3), .lbox (.tmp 1), none, 0⟩,
        ⟨(some 4), .mov (.const (.bool false)), none, 0⟩])
      (.seq (.region [⟨(some 5), .laddr none 2 2, none, 0⟩,
        ⟨(some 6), .lload (some 5) 2 2 none, none, 0⟩,
        ⟨(some 7), .bin .gtr (.tmp 6) (.const (.int .i64 0)), none, 0⟩,
        ⟨(some 8), .mov (.tmp 7), none, 0⟩,
        ⟨(some 9), .laddr none 3 2, (some (8, true)), 0⟩,
        ⟨(some 10), .lload (some 9) 3 2 none, (some (8, true)), 0⟩,
        ⟨(some 11), .bin .gtr (.tmp 10) (.const (.int .i64 0)), (some (8, true)), 0⟩,
        ⟨(some 12), .pick (.tmp 8) (.tmp 11) (.const (.bool false)), none, 0⟩,
        ⟨(some 13), .mov (.tmp 12), none, 0⟩,
        ⟨(some 14), .lload none 2 0 (some 4), (some (13, true)), 0⟩,
        ⟨(some 15), .laddr none 3 1, (some (13, true)), 0⟩,
        ⟨(some 16), .lload (some 15) 3 1 none, (some (13, true)), 0⟩,
        ⟨(some 17), .call Id.sidingsref17_has [.tmp 14, .tmp 16], (some (13, true)), 0⟩,
        ⟨(some 18), .mov (.tmp 17), (some (13, true)), 0⟩,
        ⟨(some 19), .lload none 3 0 (some 4), (some (18, false)), 0⟩,
        ⟨(some 20), .laddr none 2 1, (some (18, false)), 0⟩,
        ⟨(some 21), .lload (some 20) 2 1 none, (some (18, false)), 0⟩,
        ⟨(some 22), .call Id.sidingsref17_has [.tmp 19, .tmp 21], (some (18, false)), 0⟩,
        ⟨(some 23), .pick (.tmp 18) (.const (.bool true)) (.tmp 22), (some (13, true)), 0⟩,
        ⟨(some 24), .pick (.tmp 13) (.tmp 23) (.const (.bool false)), none, 0⟩,
        ⟨(some 4), .mov (.tmp 24), none, 0⟩])
      (.ret)) }

def F.plan_spanOf : IFunc :=
  { lb := [], scr := true, nargs := 2, res := [.tmp 4],
    body := .seq (.region [⟨(some 4), .mov (.const (.complex .f64 0 0)), none, 0⟩])
      (.seq (.region [⟨(some 5), .mov (.tmp 0), none, 0⟩,
        ⟨(some 6), .conv (.float .f64) (.tmp 5), none, 0⟩,
        ⟨(some 7), .mov (.tmp 1), none, 0⟩,
        ⟨(some 8), .conv (.float .f64) (.tmp 7), none, 0⟩,
        ⟨(some 9), .cplx (.tmp 6) (.tmp 8), none, 0⟩,
        ⟨(some 4), .mov (.tmp 9), none, 0⟩])
      (.ret)) }

def F.plan_span_end : IFunc :=
  { lb := [], scr := true, nargs := 1, res := [.tmp 2],
    body := .seq (.region [⟨(some 2), .mov (.const (.int .i64 0)), none, 0⟩])
      (.seq (.region [⟨(some 3), .mov (.tmp 0), none, 0⟩,
        ⟨(some 4), .re (.tmp 3), none, 0⟩,
        ⟨(some 5), .mov (.tmp 0), none, 0⟩,
        ⟨(some 6), .im (.tmp 5), none, 0⟩,
        ⟨(some 7), .bin .add (.tmp 4) (.tmp 6), none, 0⟩,
        ⟨(some 8), .conv (.int .i64) (.tmp 7), none, 0⟩,
        ⟨(some 2), .mov (.tmp 8), none, 0⟩])
      (.ret)) }

def F.slices_Clone_Lplan_Object : IFunc :=
  { lb := [], scr := true, nargs := 1, res := [.tmp 2],
    body := .seq (.region [⟨(some 2), .mov (.const (.slice none 0 0)), none, 0⟩])
      (.seq (.seq (.region [⟨(some 3), .mov (.tmp 0), none, 0⟩,
        ⟨(some 4), .eqv false (.nil 1) (.tmp 3) (.const (.slice none 0 0)), none, 0⟩])
      (.cond (.tmp 4)
        (.seq (.region [⟨(some 2), .mov (.const (.slice none 0 0)), none, 0⟩])
        (.ret))
        (.skip)))
      (.seq (.region [⟨(some 5), .buildSlice 4 0 [] [], none, 0⟩,
        ⟨(some 6), .mov (.tmp 0), none, 0⟩,
        ⟨(some 7), .append 4 32 (.tmp 5) (.tmp 6), none, 0⟩,
        ⟨(some 2), .mov (.tmp 7), none, 0⟩])
      (.ret))) }

def F.slices_SortStableFunc_Lplan_Object : IFunc :=
  { lb := [], scr := false, nargs := 2, res := [],
    body := .region [⟨(some 4), .mov (.tmp 0), none, 0⟩,
        ⟨(some 5), .mov (.tmp 0), none, 0⟩,
        ⟨(some 6), .len false (.tmp 5), none, 0⟩,
        ⟨(some 7), .mov (.tmp 1), none, 0⟩,
        ⟨(some 8), .call Id.slices_stableCmpFunc_plan_Object [.tmp 4, .tmp 6, .tmp 7], none, 0⟩] }

def F.plan_byPlace : IFunc :=
  { lb := [2, 3], scr := true, nargs := 2, res := [.tmp 4],
    body := .seq (.region [⟨(some 2), .lbox (.tmp 0), none, 0⟩,
        ⟨(some 3), .lbox (.tmp 1), none, 0⟩,
        ⟨(some 4), .mov (.const (.int .i64 0)), none, 0⟩])
      (.seq (.region [⟨(some 5), .laddr none 2 1, none, 0⟩,
        ⟨(some 6), .lload (some 5) 2 1 none, none, 0⟩,
        ⟨(some 7), .laddr none 3 1, none, 0⟩,
        ⟨(some 8), .lload (some 7) 3 1 none, none, 0⟩,
        ⟨(some 9), .call Id.cmp_Compare_int [.tmp 6, .tmp 8], none, 0⟩,
        ⟨(some 10), .laddr none 2 0, none, 0⟩,
        ⟨(some 11), .lload (some 10) 2 0 none, none, 0⟩,
        ⟨(some 12), .laddr none 3 0, none, 0⟩,
        ⟨(some 13), .lload (some 12) 3 0 none, none, 0⟩,
        ⟨(some 14), .call Id.cmp_Compare_int [.tmp 11, .tmp 13], none, 0⟩,
        ⟨(some 15), .laddr none 2 2, none, 0⟩,
        ⟨(some 16), .lload (some 15) 2 2 none, none, 0⟩,
        ⟨(some 17), .laddr none 3 2, none, 0⟩,
        ⟨(some 18), .lload (some 17) 3 2 none, none, 0⟩,
        ⟨(some 19), .call Id.cmp_Compare_int [.tmp 16, .tmp 18], none, 0⟩,
        ⟨(some 20), .laddr none 2 3, none, 0⟩,
        ⟨(some 21), .lload (some 20) 2 3 none, none, 0⟩,
        ⟨(some 22), .call Id.plan_bit [.tmp 21], none, 0⟩,
        ⟨(some 23), .laddr none 3 3, none, 0⟩,
        ⟨(some 24), .lload (some 23) 3 3 none, none, 0⟩,
        ⟨(some 25), .call Id.plan_bit [.tmp 24], none, 0⟩,
        ⟨(some 26), .bin .sub (.tmp 22) (.tmp 25), none, 0⟩,
        ⟨(some 27), .buildSlice 1 4 [.int .i64 0, .int .i64 0, .int .i64 0, .int .i64 0] [(0, 1, .tmp 9), (1, 1, .tmp 14), (2, 1, .tmp 19), (3, 1, .tmp 26)], none, 0⟩,
        ⟨(some 28), .call Id.cmp_Or_int [.tmp 27], none, 0⟩,
        ⟨(some 4), .mov (.tmp 28), none, 0⟩])
      (.ret)) }

def F.slices_DeleteFunc_Lplan_Object : IFunc :=
  { lb := [7], scr := false, nargs := 2, res := [.tmp 4],
    body := .seq (.region [⟨(some 4), .mov (.const (.slice none 0 0)), none, 0⟩])
      (.seq (.region [⟨(some 8), .mov (.tmp 0), none, 0⟩,
        ⟨(some 9), .mov (.tmp 1), none, 0⟩,
        ⟨(some 10), .call Id.slices_IndexFunc_Lplan_Object [.tmp 8, .tmp 9], none, 0⟩,
        ⟨(some 5), .mov (.tmp 10), none, 0⟩])
      (.seq (.seq (.region [⟨(some 11), .mov (.tmp 5), none, 0⟩,
        ⟨(some 12), .bin .eql (.tmp 11) (.const (.int .i64 (-1))), none, 0⟩])
      (.cond (.tmp 12)
        (.seq (.region [⟨(some 13), .mov (.tmp 0), none, 0⟩,
          ⟨(some 4), .mov (.tmp 13), none, 0⟩])
        (.ret))
        (.skip)))
      (.seq (.seq (.region [⟨(some 14), .mov (.tmp 5), none, 0⟩,
        ⟨(some 15), .bin .add (.tmp 14) (.const (.int .i64 1)), none, 0⟩,
        ⟨(some 6), .mov (.tmp 15), none, 0⟩])
      (.block 0 (.loop [0, 1, 5, 6]
        (.seq (.seq (.region [⟨(some 16), .mov (.tmp 6), none, 0⟩,
          ⟨(some 17), .mov (.tmp 0), none, 0⟩,
          ⟨(some 18), .len false (.tmp 17), none, 0⟩,
          ⟨(some 19), .bin .lss (.tmp 16) (.tmp 18), none, 0⟩])
        (.cond (.tmp 19)
          (.skip)
          (.exit 0)))
        (.seq (.block 1 (.seq (.region [⟨(some 22), .mov (.tmp 0), none, 0⟩,
          ⟨(some 23), .mov (.tmp 6), none, 0⟩,
          ⟨(some 24), .iaddr none 4 (.tmp 22) (.tmp 23), none, 0⟩,
          ⟨(some 25), .load (some 4) (.tmp 24), none, 0⟩,
          ⟨(some 7), .lbox (.const (.agg #[.int .i64 0, .int .i64 0, .int .i64 0, .bool false])), none, 0⟩,
          ⟨(some 7), .lstore none 7 0 4 (.tmp 25), none, 0⟩])
        (.seq (.region [⟨(some 26), .mov (.tmp 1), none, 0⟩,
          ⟨(some 27), .lload none 7 0 (some 4), none, 0⟩,
          ⟨(some 28), .callv (.tmp 26) [.tmp 27], none, 0⟩,
          ⟨(some 29), .un .not (.tmp 28), none, 0⟩])
        (.cond (.tmp 29)
          (.seq (.region [⟨(some 30), .mov (.tmp 0), none, 0⟩,
            ⟨(some 31), .mov (.tmp 5), none, 0⟩,
            ⟨(some 32), .lload none 7 0 (some 4), none, 0⟩,
            ⟨(some 33), .iaddr none 4 (.tmp 30) (.tmp 31), none, 0⟩,
            ⟨none, .store 4 (.tmp 33) (.tmp 32), none, 0⟩])
          (.region [⟨(some 34), .mov (.tmp 5), none, 0⟩,
            ⟨(some 35), .bin .add (.tmp 34) (.const (.int .i64 1)), none, 0⟩,
            ⟨(some 5), .mov (.tmp 35), none, 0⟩]))
          (.skip)))))
        (.region [⟨(some 20), .mov (.tmp 6), none, 0⟩,
          ⟨(some 21), .bin .add (.tmp 20) (.const (.int .i64 1)), none, 0⟩,
          ⟨(some 6), .mov (.tmp 21), none, 0⟩]))))))
      (.seq (.region [⟨(some 36), .mov (.tmp 0), none, 0⟩,
        ⟨(some 37), .mov (.tmp 5), none, 0⟩,
        ⟨(some 38), .slice 4 (.tmp 36) (some (.tmp 37)) none none, none, 0⟩,
        ⟨none, .clear 4 [.int .i64 0, .int .i64 0, .int .i64 0, .bool false] (.tmp 38), none, 0⟩])
      (.seq (.region [⟨(some 39), .mov (.tmp 0), none, 0⟩,
        ⟨(some 40), .mov (.tmp 5), none, 0⟩,
        ⟨(some 41), .slice 4 (.tmp 39) none (some (.tmp 40)) none, none, 0⟩,
        ⟨(some 4), .mov (.tmp 41), none, 0⟩])
      (.ret)))))) }

def F.plan_Apart_1 : IFunc :=
  { lb := [1], scr := true, nargs := 1, res := [.tmp 2],
    body := .seq (.region [⟨(some 1), .lbox (.tmp 0), none, 0⟩,
        ⟨(some 2), .mov (.const (.bool false)), none, 0⟩])
      (.seq (.region [⟨(some 3), .laddr none 1 2, none, 0⟩,
        ⟨(some 4), .lload (some 3) 1 2 none, none, 0⟩,
        ⟨(some 5), .bin .lss (.tmp 4) (.const (.int .i64 1)), none, 0⟩,
        ⟨(some 2), .mov (.tmp 5), none, 0⟩])
      (.ret)) }

def F.slices_ContainsFunc_Lplan_Object : IFunc :=
  { lb := [], scr := true, nargs := 2, res := [.tmp 4],
    body := .seq (.region [⟨(some 4), .mov (.const (.bool false)), none, 0⟩])
      (.seq (.region [⟨(some 5), .mov (.tmp 0), none, 0⟩,
        ⟨(some 6), .mov (.tmp 1), none, 0⟩,
        ⟨(some 7), .call Id.slices_IndexFunc_Lplan_Object [.tmp 5, .tmp 6], none, 0⟩,
        ⟨(some 8), .bin .geq (.tmp 7) (.const (.int .i64 0)), none, 0⟩,
        ⟨(some 4), .mov (.tmp 8), none, 0⟩])
      (.ret)) }

def F.plan_Apart_2 : IFunc :=
  { lb := [2], scr := true, nargs := 2, res := [.tmp 3],
    body := .seq (.region [⟨(some 2), .lbox (.tmp 0), none, 0⟩,
        ⟨(some 3), .mov (.const (.bool false)), none, 0⟩])
      (.seq (.region [⟨(some 4), .load (some 4) (.tmp 1), none, 0⟩,
        ⟨(some 5), .lload none 2 0 (some 4), none, 0⟩,
        ⟨(some 6), .call Id.plan_begins [.tmp 4, .tmp 5], none, 0⟩,
        ⟨(some 7), .mov (.tmp 6), none, 0⟩,
        ⟨(some 8), .lload none 2 0 (some 4), (some (7, false)), 0⟩,
        ⟨(some 9), .load (some 4) (.tmp 1), (some (7, false)), 0⟩,
        ⟨(some 10), .call Id.plan_begins [.tmp 8, .tmp 9], (some (7, false)), 0⟩,
        ⟨(some 11), .pick (.tmp 7) (.const (.bool true)) (.tmp 10), none, 0⟩,
        ⟨(some 3), .mov (.tmp 11), none, 0⟩])
      (.ret)) }

def F.plan_begins : IFunc :=
  { lb := [2, 3], scr := true, nargs := 2, res := [.tmp 4],
    body := .seq (.region [⟨(some 2), .lbox (.tmp 0), none, 0⟩,
        ⟨(some 3), .lbox (.tmp 1), none, 0⟩,
        ⟨(some 4), .mov (.const (.bool false)), none, 0⟩])
      (.seq (.region [⟨(some 6), .laddr none 2 1, none, 0⟩,
        ⟨(some 7), .lload (some 6) 2 1 none, none, 0⟩,
        ⟨(some 8), .laddr none 3 1, none, 0⟩,
        ⟨(some 9), .lload (some 8) 3 1 none, none, 0⟩,
        ⟨(some 10), .bin .sub (.tmp 7) (.tmp 9), none, 0⟩,
        ⟨(some 5), .mov (.tmp 10), none, 0⟩])
      (.seq (.region [⟨(some 11), .laddr none 2 1, none, 0⟩,
        ⟨(some 12), .lload (some 11) 2 1 none, none, 0⟩,
        ⟨(some 13), .laddr none 3 1, none, 0⟩,
        ⟨(some 14), .lload (some 13) 3 1 none, none, 0⟩,
        ⟨(some 15), .bin .geq (.tmp 12) (.tmp 14), none, 0⟩,
        ⟨(some 16), .mov (.tmp 15), none, 0⟩,
        ⟨(some 17), .mov (.tmp 5), (some (16, true)), 0⟩,
        ⟨(some 18), .bin .geq (.tmp 17) (.const (.int .i64 0)), (some (16, true)), 0⟩,
        ⟨(some 19), .pick (.tmp 16) (.tmp 18) (.const (.bool false)), none, 0⟩,
        ⟨(some 20), .mov (.tmp 19), none, 0⟩,
        ⟨(some 21), .mov (.tmp 5), (some (20, true)), 0⟩,
        ⟨(some 22), .laddr none 3 2, (some (20, true)), 0⟩,
        ⟨(some 23), .lload (some 22) 3 2 none, (some (20, true)), 0⟩,
        ⟨(some 24), .bin .lss (.tmp 21) (.tmp 23), (some (20, true)), 0⟩,
        ⟨(some 25), .pick (.tmp 20) (.tmp 24) (.const (.bool false)), none, 0⟩,
        ⟨(some 4), .mov (.tmp 25), none, 0⟩])
      (.ret))) }

def F.plan_Check_1 : IFunc :=
  { lb := [2], scr := true, nargs := 2, res := [.tmp 3],
    body := .seq (.region [⟨(some 2), .lbox (.tmp 0), none, 0⟩,
        ⟨(some 3), .mov (.const (.bool false)), none, 0⟩])
      (.seq (.region [⟨(some 4), .laddr none 2 1, none, 0⟩,
        ⟨(some 5), .lload (some 4) 2 1 none, none, 0⟩,
        ⟨(some 6), .bin .lss (.tmp 5) (.const (.int .i64 0)), none, 0⟩,
        ⟨(some 7), .mov (.tmp 6), none, 0⟩,
        ⟨(some 8), .laddr none 2 2, (some (7, false)), 0⟩,
        ⟨(some 9), .lload (some 8) 2 2 none, (some (7, false)), 0⟩,
        ⟨(some 10), .bin .lss (.tmp 9) (.const (.int .i64 1)), (some (7, false)), 0⟩,
        ⟨(some 11), .pick (.tmp 7) (.const (.bool true)) (.tmp 10), none, 0⟩,
        ⟨(some 12), .mov (.tmp 11), none, 0⟩,
        ⟨(some 13), .laddr none 2 2, (some (12, false)), 0⟩,
        ⟨(some 14), .lload (some 13) 2 2 none, (some (12, false)), 0⟩,
        ⟨(some 15), .bin .gtr (.tmp 14) (.const (.int .i64 4096)), (some (12, false)), 0⟩,
        ⟨(some 16), .pick (.tmp 12) (.const (.bool true)) (.tmp 15), none, 0⟩,
        ⟨(some 17), .mov (.tmp 16), none, 0⟩,
        ⟨(some 18), .laddr none 2 1, (some (17, false)), 0⟩,
        ⟨(some 19), .lload (some 18) 2 1 none, (some (17, false)), 0⟩,
        ⟨(some 20), .load none (.tmp 1), (some (17, false)), 0⟩,
        ⟨(some 21), .laddr none 2 2, (some (17, false)), 0⟩,
        ⟨(some 22), .lload (some 21) 2 2 none, (some (17, false)), 0⟩,
        ⟨(some 23), .bin .sub (.tmp 20) (.tmp 22), (some (17, false)), 0⟩,
        ⟨(some 24), .bin .gtr (.tmp 19) (.tmp 23), (some (17, false)), 0⟩,
        ⟨(some 25), .pick (.tmp 17) (.const (.bool true)) (.tmp 24), none, 0⟩,
        ⟨(some 3), .mov (.tmp 25), none, 0⟩])
      (.ret)) }

def F.sidingsref17_has : IFunc :=
  { lb := [2], scr := true, nargs := 2, res := [.tmp 4],
    body := .seq (.region [⟨(some 2), .lbox (.tmp 0), none, 0⟩,
        ⟨(some 4), .mov (.const (.bool false)), none, 0⟩])
      (.seq (.region [⟨(some 5), .mov (.tmp 1), none, 0⟩,
        ⟨(some 6), .laddr none 2 1, none, 0⟩,
        ⟨(some 7), .lload (some 6) 2 1 none, none, 0⟩,
        ⟨(some 8), .bin .geq (.tmp 5) (.tmp 7), none, 0⟩,
        ⟨(some 9), .mov (.tmp 8), none, 0⟩,
        ⟨(some 10), .mov (.tmp 1), (some (9, true)), 0⟩,
        ⟨(some 11), .laddr none 2 1, (some (9, true)), 0⟩,
        ⟨(some 12), .lload (some 11) 2 1 none, (some (9, true)), 0⟩,
        ⟨(some 13), .bin .sub (.tmp 10) (.tmp 12), (some (9, true)), 0⟩,
        ⟨(some 14), .bin .geq (.tmp 13) (.const (.int .i64 0)), (some (9, true)), 0⟩,
        ⟨(some 15), .pick (.tmp 9) (.tmp 14) (.const (.bool false)), none, 0⟩,
        ⟨(some 16), .mov (.tmp 15), none, 0⟩,
        ⟨(some 17), .mov (.tmp 1), (some (16, true)), 0⟩,
        ⟨(some 18), .laddr none 2 1, (some (16, true)), 0⟩,
        ⟨(some 19), .lload (some 18) 2 1 none, (some (16, true)), 0⟩,
        ⟨(some 20), .bin .sub (.tmp 17) (.tmp 19), (some (16, true)), 0⟩,
        ⟨(some 21), .laddr none 2 2, (some (16, true)), 0⟩,
        ⟨(some 22), .lload (some 21) 2 2 none, (some (16, true)), 0⟩,
        ⟨(some 23), .bin .lss (.tmp 20) (.tmp 22), (some (16, true)), 0⟩,
        ⟨(some 24), .pick (.tmp 16) (.tmp 23) (.const (.bool false)), none, 0⟩,
        ⟨(some 4), .mov (.tmp 24), none, 0⟩])
      (.ret)) }

def F.slices_stableCmpFunc_plan_Object : IFunc :=
  { lb := [], scr := false, nargs := 3, res := [],
    body := .seq (.region [⟨(some 6), .mov (.const (.int .i64 20)), none, 0⟩])
      (.seq (.region [⟨(some 10), .mov (.tmp 6), none, 0⟩,
        ⟨(some 7), .mov (.const (.int .i64 0)), none, 0⟩,
        ⟨(some 8), .mov (.tmp 10), none, 0⟩])
      (.seq (.block 0 (.loop [0, 1, 2, 6, 7, 8]
        (.seq (.seq (.region [⟨(some 11), .mov (.tmp 8), none, 0⟩,
          ⟨(some 12), .mov (.tmp 1), none, 0⟩,
          ⟨(some 13), .bin .leq (.tmp 11) (.tmp 12), none, 0⟩])
        (.cond (.tmp 13)
          (.skip)
          (.exit 0)))
        (.block 1 (.seq (.region [⟨(some 14), .mov (.tmp 0), none, 0⟩,
          ⟨(some 15), .mov (.tmp 7), none, 0⟩,
          ⟨(some 16), .mov (.tmp 8), none, 0⟩,
          ⟨(some 17), .mov (.tmp 2), none, 0⟩,
          ⟨(some 18), .call Id.slices_insertionSortCmpFunc_plan_Object [.tmp 14, .tmp 15, .tmp 16, .tmp 17], none, 0⟩])
        (.seq (.region [⟨(some 19), .mov (.tmp 8), none, 0⟩,
          ⟨(some 7), .mov (.tmp 19), none, 0⟩])
        (.region [⟨(some 20), .mov (.tmp 8), none, 0⟩,
          ⟨(some 21), .mov (.tmp 6), none, 0⟩,
          ⟨(some 22), .bin .add (.tmp 20) (.tmp 21), none, 0⟩,
          ⟨(some 8), .mov (.tmp 22), none, 0⟩])))))))
      (.seq (.region [⟨(some 23), .mov (.tmp 0), none, 0⟩,
        ⟨(some 24), .mov (.tmp 7), none, 0⟩,
        ⟨(some 25), .mov (.tmp 1), none, 0⟩,
        ⟨(some 26), .mov (.tmp 2), none, 0⟩,
        ⟨(some 27), .call Id.slices_insertionSortCmpFunc_plan_Object [.tmp 23, .tmp 24, .tmp 25, .tmp 26], none, 0⟩])
      (.block 2 (.loop [0, 1, 2, 6]
        (.seq (.seq (.region [⟨(some 28), .mov (.tmp 6), none, 0⟩,
          ⟨(some 29), .mov (.tmp 1), none, 0⟩,
          ⟨(some 30), .bin .lss (.tmp 28) (.tmp 29), none, 0⟩])
        (.cond (.tmp 30)
          (.skip)
          (.exit 2)))
        (.block 3 (.seq (.region [⟨(some 31), .mov (.tmp 6), none, 0⟩,
          ⟨(some 32), .bin .mul (.const (.int .i64 2)) (.tmp 31), none, 0⟩,
          ⟨(some 7), .mov (.const (.int .i64 0)), none, 0⟩,
          ⟨(some 8), .mov (.tmp 32), none, 0⟩])
        (.seq (.block 4 (.loop [0, 1, 2, 6, 7, 8]
          (.seq (.seq (.region [⟨(some 33), .mov (.tmp 8), none, 0⟩,
            ⟨(some 34), .mov (.tmp 1), none, 0⟩,
            ⟨(some 35), .bin .leq (.tmp 33) (.tmp 34), none, 0⟩])
          (.cond (.tmp 35)
            (.skip)
            (.exit 4)))
          (.block 5 (.seq (.region [⟨(some 36), .mov (.tmp 0), none, 0⟩,
            ⟨(some 37), .mov (.tmp 7), none, 0⟩,
            ⟨(some 38), .mov (.tmp 7), none, 0⟩,
            ⟨(some 39), .mov (.tmp 6), none, 0⟩,
            ⟨(some 40), .bin .add (.tmp 38) (.tmp 39), none, 0⟩,
            ⟨(some 41), .mov (.tmp 8), none, 0⟩,
            ⟨(some 42), .mov (.tmp 2), none, 0⟩,
            ⟨(some 43), .call Id.slices_symMergeCmpFunc_plan_Object [.tmp 36, .tmp 37, .tmp 40, .tmp 41, .tmp 42], none, 0⟩])
          (.seq (.region [⟨(some 44), .mov (.tmp 8), none, 0⟩,
            ⟨(some 7), .mov (.tmp 44), none, 0⟩])
          (.region [⟨(some 45), .mov (.tmp 8), none, 0⟩,
            ⟨(some 46), .mov (.tmp 6), none, 0⟩,
            ⟨(some 47), .bin .mul (.const (.int .i64 2)) (.tmp 46), none, 0⟩,
            ⟨(some 48), .bin .add (.tmp 45) (.tmp 47), none, 0⟩,
            ⟨(some 8), .mov (.tmp 48), none, 0⟩])))))))
        (.seq (.seq (.region [⟨(some 49), .mov (.tmp 7), none, 0⟩,
          ⟨(some 50), .mov (.tmp 6), none, 0⟩,
          ⟨(some 51), .bin .add (.tmp 49) (.tmp 50), none, 0⟩,
          ⟨(some 9), .mov (.tmp 51), none, 0⟩])
        (.seq (.region [⟨(some 52), .mov (.tmp 9), none, 0⟩,
          ⟨(some 53), .mov (.tmp 1), none, 0⟩,
          ⟨(some 54), .bin .lss (.tmp 52) (.tmp 53), none, 0⟩])
        (.cond (.tmp 54)
          (.region [⟨(some 55), .mov (.tmp 0), none, 0⟩,
            ⟨(some 56), .mov (.tmp 7), none, 0⟩,
            ⟨(some 57), .mov (.tmp 9), none, 0⟩,
            ⟨(some 58), .mov (.tmp 1), none, 0⟩,
            ⟨(some 59), .mov (.tmp 2), none, 0⟩,
            ⟨(some 60), .call Id.slices_symMergeCmpFunc_plan_Object [.tmp 55, .tmp 56, .tmp 57, .tmp 58, .tmp 59], none, 0⟩])
          (.skip))))
        (.region [⟨(some 61), .mov (.tmp 6), none, 0⟩,
          ⟨(some 62), .bin .mul (.tmp 61) (.const (.int .i64 2)), none, 0⟩,
          ⟨(some 6), .mov (.tmp 62), none, 0⟩]))))))))))) }

def F.cmp_Or_int : IFunc :=
  { lb := [], scr := true, nargs := 1, res := [.tmp 2],
    body := .seq (.region [⟨(some 2), .mov (.const (.int .i64 0)), none, 0⟩])
      (.seq (.region [⟨(some 3), .mov (.const (.int .i64 0)), none, 0⟩])
      (.seq (.seq (.region [⟨(some 6), .mov (.tmp 0), none, 0⟩,
        ⟨(some 7), .len false (.tmp 6), none, 0⟩,
        ⟨(some 8), .mov (.const (.int .i64 0)), none, 0⟩])
      (.block 0 (.loop [3, 6, 7, 8]
        (.seq (.region [⟨(some 9), .bin .lss (.tmp 8) (.tmp 7), none, 0⟩])
        (.seq (.cond (.tmp 9)
          (.skip)
          (.exit 0))
        (.seq (.block 1 (.seq (.region [⟨(some 10), .iaddr none 1 (.tmp 6) (.tmp 8), none, 0⟩,
          ⟨(some 11), .load none (.tmp 10), none, 0⟩,
          ⟨(some 5), .mov (.tmp 11), none, 0⟩])
        (.seq (.region [⟨(some 12), .mov (.tmp 5), none, 0⟩,
          ⟨(some 13), .mov (.tmp 3), none, 0⟩,
          ⟨(some 14), .bin .neq (.tmp 12) (.tmp 13), none, 0⟩])
        (.cond (.tmp 14)
          (.seq (.region [⟨(some 15), .mov (.tmp 5), none, 0⟩,
            ⟨(some 2), .mov (.tmp 15), none, 0⟩])
          (.ret))
          (.skip)))))
        (.region [⟨(some 16), .bin .add (.tmp 8) (.const (.int .i64 1)), none, 0⟩,
          ⟨(some 8), .mov (.tmp 16), none, 0⟩])))))))
      (.seq (.region [⟨(some 17), .mov (.tmp 3), none, 0⟩,
        ⟨(some 2), .mov (.tmp 17), none, 0⟩])
      (.ret)))) }

def F.cmp_Compare_int : IFunc :=
  { lb := [], scr := true, nargs := 2, res := [.tmp 4],
    body := .seq (.region [⟨(some 4), .mov (.const (.int .i64 0)), none, 0⟩])
      (.seq (.region [⟨(some 7), .mov (.tmp 0), none, 0⟩,
        ⟨(some 8), .call Id.cmp_isNaN_int [.tmp 7], none, 0⟩,
        ⟨(some 5), .mov (.tmp 8), none, 0⟩])
      (.seq (.region [⟨(some 9), .mov (.tmp 1), none, 0⟩,
        ⟨(some 10), .call Id.cmp_isNaN_int [.tmp 9], none, 0⟩,
        ⟨(some 6), .mov (.tmp 10), none, 0⟩])
      (.seq (.seq (.region [⟨(some 11), .mov (.tmp 5), none, 0⟩])
      (.cond (.tmp 11)
        (.seq (.seq (.region [⟨(some 12), .mov (.tmp 6), none, 0⟩])
        (.cond (.tmp 12)
          (.seq (.region [⟨(some 4), .mov (.const (.int .i64 0)), none, 0⟩])
          (.ret))
          (.skip)))
        (.seq (.region [⟨(some 4), .mov (.const (.int .i64 (-1))), none, 0⟩])
        (.ret)))
        (.skip)))
      (.seq (.seq (.region [⟨(some 13), .mov (.tmp 6), none, 0⟩])
      (.cond (.tmp 13)
        (.seq (.region [⟨(some 4), .mov (.const (.int .i64 1)), none, 0⟩])
        (.ret))
        (.skip)))
      (.seq (.seq (.region [⟨(some 14), .mov (.tmp 0), none, 0⟩,
        ⟨(some 15), .mov (.tmp 1), none, 0⟩,
        ⟨(some 16), .bin .lss (.tmp 14) (.tmp 15), none, 0⟩])
      (.cond (.tmp 16)
        (.seq (.region [⟨(some 4), .mov (.const (.int .i64 (-1))), none, 0⟩])
        (.ret))
        (.skip)))
      (.seq (.seq (.region [⟨(some 17), .mov (.tmp 0), none, 0⟩,
        ⟨(some 18), .mov (.tmp 1), none, 0⟩,
        ⟨(some 19), .bin .gtr (.tmp 17) (.tmp 18), none, 0⟩])
      (.cond (.tmp 19)
        (.seq (.region [⟨(some 4), .mov (.const (.int .i64 1)), none, 0⟩])
        (.ret))
        (.skip)))
      (.seq (.region [⟨(some 4), .mov (.const (.int .i64 0)), none, 0⟩])
      (.ret)))))))) }

def F.plan_bit : IFunc :=
  { lb := [], scr := true, nargs := 1, res := [.tmp 2],
    body := .seq (.region [⟨(some 2), .mov (.const (.int .i64 0)), none, 0⟩])
      (.seq (.seq (.region [⟨(some 3), .mov (.tmp 0), none, 0⟩])
      (.cond (.tmp 3)
        (.seq (.region [⟨(some 2), .mov (.const (.int .i64 1)), none, 0⟩])
        (.ret))
        (.skip)))
      (.seq (.region [⟨(some 2), .mov (.const (.int .i64 0)), none, 0⟩])
      (.ret))) }

def F.slices_IndexFunc_Lplan_Object : IFunc :=
  { lb := [], scr := true, nargs := 2, res := [.tmp 4],
    body := .seq (.region [⟨(some 4), .mov (.const (.int .i64 0)), none, 0⟩])
      (.seq (.seq (.region [⟨(some 6), .mov (.tmp 0), none, 0⟩,
        ⟨(some 7), .len false (.tmp 6), none, 0⟩,
        ⟨(some 8), .mov (.const (.int .i64 0)), none, 0⟩])
      (.block 0 (.loop [0, 1, 7, 8]
        (.seq (.region [⟨(some 9), .bin .lss (.tmp 8) (.tmp 7), none, 0⟩])
        (.seq (.cond (.tmp 9)
          (.skip)
          (.exit 0))
        (.seq (.block 1 (.seq (.region [⟨(some 10), .mov (.tmp 8), none, 0⟩,
          ⟨(some 5), .mov (.tmp 10), none, 0⟩])
        (.seq (.region [⟨(some 11), .mov (.tmp 1), none, 0⟩,
          ⟨(some 12), .mov (.tmp 0), none, 0⟩,
          ⟨(some 13), .mov (.tmp 5), none, 0⟩,
          ⟨(some 14), .iaddr none 4 (.tmp 12) (.tmp 13), none, 0⟩,
          ⟨(some 15), .load (some 4) (.tmp 14), none, 0⟩,
          ⟨(some 16), .callv (.tmp 11) [.tmp 15], none, 0⟩])
        (.cond (.tmp 16)
          (.seq (.region [⟨(some 17), .mov (.tmp 5), none, 0⟩,
            ⟨(some 4), .mov (.tmp 17), none, 0⟩])
          (.ret))
          (.skip)))))
        (.region [⟨(some 18), .bin .add (.tmp 8) (.const (.int .i64 1)), none, 0⟩,
          ⟨(some 8), .mov (.tmp 18), none, 0⟩])))))))
      (.seq (.region [⟨(some 4), .mov (.const (.int .i64 (-1))), none, 0⟩])
      (.ret))) }

def F.slices_insertionSortCmpFunc_plan_Object : IFunc :=
  { lb := [], scr := false, nargs := 4, res := [],
    body := .seq (.region [⟨(some 10), .mov (.tmp 1), none, 0⟩,
        ⟨(some 11), .bin .add (.tmp 10) (.const (.int .i64 1)), none, 0⟩,
        ⟨(some 8), .mov (.tmp 11), none, 0⟩])
      (.block 0 (.loop [0, 1, 2, 3, 8]
        (.seq (.seq (.region [⟨(some 12), .mov (.tmp 8), none, 0⟩,
          ⟨(some 13), .mov (.tmp 2), none, 0⟩,
          ⟨(some 14), .bin .lss (.tmp 12) (.tmp 13), none, 0⟩])
        (.cond (.tmp 14)
          (.skip)
          (.exit 0)))
        (.seq (.block 1 (.seq (.region [⟨(some 17), .mov (.tmp 8), none, 0⟩,
          ⟨(some 9), .mov (.tmp 17), none, 0⟩])
        (.block 2 (.loop [0, 1, 2, 3, 8, 9]
          (.seq (.seq (.region [⟨(some 18), .mov (.tmp 9), none, 0⟩,
            ⟨(some 19), .mov (.tmp 1), none, 0⟩,
            ⟨(some 20), .bin .gtr (.tmp 18) (.tmp 19), none, 0⟩,
            ⟨(some 21), .mov (.tmp 20), none, 0⟩,
            ⟨(some 22), .mov (.tmp 3), (some (21, true)), 0⟩,
            ⟨(some 23), .mov (.tmp 0), (some (21, true)), 0⟩,
            ⟨(some 24), .mov (.tmp 9), (some (21, true)), 0⟩,
            ⟨(some 25), .iaddr none 4 (.tmp 23) (.tmp 24), (some (21, true)), 0⟩,
            ⟨(some 26), .load (some 4) (.tmp 25), (some (21, true)), 0⟩,
            ⟨(some 27), .mov (.tmp 0), (some (21, true)), 0⟩,
            ⟨(some 28), .mov (.tmp 9), (some (21, true)), 0⟩,
            ⟨(some 29), .bin .sub (.tmp 28) (.const (.int .i64 1)), (some (21, true)), 0⟩,
            ⟨(some 30), .iaddr none 4 (.tmp 27) (.tmp 29), (some (21, true)), 0⟩,
            ⟨(some 31), .load (some 4) (.tmp 30), (some (21, true)), 0⟩,
            ⟨(some 32), .callv (.tmp 22) [.tmp 26, .tmp 31], (some (21, true)), 0⟩,
            ⟨(some 33), .bin .lss (.tmp 32) (.const (.int .i64 0)), (some (21, true)), 0⟩,
            ⟨(some 34), .pick (.tmp 21) (.tmp 33) (.const (.bool false)), none, 0⟩])
          (.cond (.tmp 34)
            (.skip)
            (.exit 2)))
          (.seq (.block 3 (.region [⟨(some 37), .mov (.tmp 0), none, 0⟩,
            ⟨(some 38), .mov (.tmp 9), none, 0⟩,
            ⟨(some 42), .mov (.tmp 0), none, 0⟩,
            ⟨(some 43), .mov (.tmp 9), none, 0⟩,
            ⟨(some 44), .bin .sub (.tmp 43) (.const (.int .i64 1)), none, 0⟩,
            ⟨(some 45), .iaddr none 4 (.tmp 42) (.tmp 44), none, 0⟩,
            ⟨(some 46), .load (some 4) (.tmp 45), none, 0⟩,
            ⟨(some 47), .mov (.tmp 0), none, 0⟩,
            ⟨(some 48), .mov (.tmp 9), none, 0⟩,
            ⟨(some 49), .iaddr none 4 (.tmp 47) (.tmp 48), none, 0⟩,
            ⟨(some 50), .load (some 4) (.tmp 49), none, 0⟩,
            ⟨(some 51), .iaddr none 4 (.tmp 37) (.tmp 38), none, 0⟩,
            ⟨none, .store 4 (.tmp 51) (.tmp 46), none, 0⟩,
            ⟨(some 39), .mov (.tmp 0), none, 0⟩,
            ⟨(some 40), .mov (.tmp 9), none, 0⟩,
            ⟨(some 41), .bin .sub (.tmp 40) (.const (.int .i64 1)), none, 0⟩,
            ⟨(some 52), .iaddr none 4 (.tmp 39) (.tmp 41), none, 0⟩,
            ⟨none, .store 4 (.tmp 52) (.tmp 50), none, 0⟩]))
          (.region [⟨(some 35), .mov (.tmp 9), none, 0⟩,
            ⟨(some 36), .bin .sub (.tmp 35) (.const (.int .i64 1)), none, 0⟩,
            ⟨(some 9), .mov (.tmp 36), none, 0⟩])))))))
        (.region [⟨(some 15), .mov (.tmp 8), none, 0⟩,
          ⟨(some 16), .bin .add (.tmp 15) (.const (.int .i64 1)), none, 0⟩,
          ⟨(some 8), .mov (.tmp 16), none, 0⟩]))))) }

def F.slices_symMergeCmpFunc_plan_Object : IFunc :=
  { lb := [], scr := false, nargs := 5, res := [],
    body := .seq (.seq (.region [⟨(some 25), .mov (.tmp 2), none, 0⟩,
        ⟨(some 26), .mov (.tmp 1), none, 0⟩,
        ⟨(some 27), .bin .sub (.tmp 25) (.tmp 26), none, 0⟩,
        ⟨(some 28), .bin .eql (.tmp 27) (.const (.int .i64 1)), none, 0⟩])
      (.cond (.tmp 28)
        (.seq (.region [⟨(some 29), .mov (.tmp 2), none, 0⟩,
          ⟨(some 10), .mov (.tmp 29), none, 0⟩])
        (.seq (.region [⟨(some 30), .mov (.tmp 3), none, 0⟩,
          ⟨(some 11), .mov (.tmp 30), none, 0⟩])
        (.seq (.block 0 (.loop [0, 1, 4, 10, 11]
          (.seq (.seq (.region [⟨(some 31), .mov (.tmp 10), none, 0⟩,
            ⟨(some 32), .mov (.tmp 11), none, 0⟩,
            ⟨(some 33), .bin .lss (.tmp 31) (.tmp 32), none, 0⟩])
          (.cond (.tmp 33)
            (.skip)
            (.exit 0)))
          (.block 1 (.seq (.region [⟨(some 34), .mov (.tmp 10), none, 0⟩,
            ⟨(some 35), .mov (.tmp 11), none, 0⟩,
            ⟨(some 36), .bin .add (.tmp 34) (.tmp 35), none, 0⟩,
            ⟨(some 37), .conv (.int .u64) (.tmp 36), none, 0⟩,
            ⟨(some 38), .bin .shr (.tmp 37) (.const (.int .u64 1)), none, 0⟩,
            ⟨(some 39), .conv (.int .i64) (.tmp 38), none, 0⟩,
            ⟨(some 12), .mov (.tmp 39), none, 0⟩])
          (.seq (.region [⟨(some 40), .mov (.tmp 4), none, 0⟩,
            ⟨(some 41), .mov (.tmp 0), none, 0⟩,
            ⟨(some 42), .mov (.tmp 12), none, 0⟩,
            ⟨(some 43), .iaddr none 4 (.tmp 41) (.tmp 42), none, 0⟩,
            ⟨(some 44), .load (some 4) (.tmp 43), none, 0⟩,
            ⟨(some 45), .mov (.tmp 0), none, 0⟩,
            ⟨(some 46), .mov (.tmp 1), none, 0⟩,
            ⟨(some 47), .iaddr none 4 (.tmp 45) (.tmp 46), none, 0⟩,
            ⟨(some 48), .load (some 4) (.tmp 47), none, 0⟩,
            ⟨(some 49), .callv (.tmp 40) [.tmp 44, .tmp 48], none, 0⟩,
            ⟨(some 50), .bin .lss (.tmp 49) (.const (.int .i64 0)), none, 0⟩])
          (.cond (.tmp 50)
            (.region [⟨(some 51), .mov (.tmp 12), none, 0⟩,
              ⟨(some 52), .bin .add (.tmp 51) (.const (.int .i64 1)), none, 0⟩,
              ⟨(some 10), .mov (.tmp 52), none, 0⟩])
            (.region [⟨(some 53), .mov (.tmp 12), none, 0⟩,
              ⟨(some 11), .mov (.tmp 53), none, 0⟩]))))))))
        (.seq (.seq (.region [⟨(some 54), .mov (.tmp 1), none, 0⟩,
          ⟨(some 13), .mov (.tmp 54), none, 0⟩])
        (.block 2 (.loop [0, 10, 13]
          (.seq (.seq (.region [⟨(some 55), .mov (.tmp 13), none, 0⟩,
            ⟨(some 56), .mov (.tmp 10), none, 0⟩,
            ⟨(some 57), .bin .sub (.tmp 56) (.const (.int .i64 1)), none, 0⟩,
            ⟨(some 58), .bin .lss (.tmp 55) (.tmp 57), none, 0⟩])
          (.cond (.tmp 58)
            (.skip)
            (.exit 2)))
          (.seq (.block 3 (.region [⟨(some 61), .mov (.tmp 0), none, 0⟩,
            ⟨(some 62), .mov (.tmp 13), none, 0⟩,
            ⟨(some 66), .mov (.tmp 0), none, 0⟩,
            ⟨(some 67), .mov (.tmp 13), none, 0⟩,
            ⟨(some 68), .bin .add (.tmp 67) (.const (.int .i64 1)), none, 0⟩,
            ⟨(some 69), .iaddr none 4 (.tmp 66) (.tmp 68), none, 0⟩,
            ⟨(some 70), .load (some 4) (.tmp 69), none, 0⟩,
            ⟨(some 71), .mov (.tmp 0), none, 0⟩,
            ⟨(some 72), .mov (.tmp 13), none, 0⟩,
            ⟨(some 73), .iaddr none 4 (.tmp 71) (.tmp 72), none, 0⟩,
            ⟨(some 74), .load (some 4) (.tmp 73), none, 0⟩,
            ⟨(some 75), .iaddr none 4 (.tmp 61) (.tmp 62), none, 0⟩,
            ⟨none, .store 4 (.tmp 75) (.tmp 70), none, 0⟩,
            ⟨(some 63), .mov (.tmp 0), none, 0⟩,
            ⟨(some 64), .mov (.tmp 13), none, 0⟩,
            ⟨(some 65), .bin .add (.tmp 64) (.const (.int .i64 1)), none, 0⟩,
            ⟨(some 76), .iaddr none 4 (.tmp 63) (.tmp 65), none, 0⟩,
            ⟨none, .store 4 (.tmp 76) (.tmp 74), none, 0⟩]))
          (.region [⟨(some 59), .mov (.tmp 13), none, 0⟩,
            ⟨(some 60), .bin .add (.tmp 59) (.const (.int .i64 1)), none, 0⟩,
            ⟨(some 13), .mov (.tmp 60), none, 0⟩]))))))
        (.ret)))))
        (.skip)))
      (.seq (.seq (.region [⟨(some 77), .mov (.tmp 3), none, 0⟩,
        ⟨(some 78), .mov (.tmp 2), none, 0⟩,
        ⟨(some 79), .bin .sub (.tmp 77) (.tmp 78), none, 0⟩,
        ⟨(some 80), .bin .eql (.tmp 79) (.const (.int .i64 1)), none, 0⟩])
      (.cond (.tmp 80)
        (.seq (.region [⟨(some 81), .mov (.tmp 1), none, 0⟩,
          ⟨(some 14), .mov (.tmp 81), none, 0⟩])
        (.seq (.region [⟨(some 82), .mov (.tmp 2), none, 0⟩,
          ⟨(some 15), .mov (.tmp 82), none, 0⟩])
        (.seq (.block 4 (.loop [0, 2, 4, 14, 15]
          (.seq (.seq (.region [⟨(some 83), .mov (.tmp 14), none, 0⟩,
            ⟨(some 84), .mov (.tmp 15), none, 0⟩,
            ⟨(some 85), .bin .lss (.tmp 83) (.tmp 84), none, 0⟩])
          (.cond (.tmp 85)
            (.skip)
            (.exit 4)))
          (.block 5 (.seq (.region [⟨(some 86), .mov (.tmp 14), none, 0⟩,
            ⟨(some 87), .mov (.tmp 15), none, 0⟩,
            ⟨(some 88), .bin .add (.tmp 86) (.tmp 87), none, 0⟩,
            ⟨(some 89), .conv (.int .u64) (.tmp 88), none, 0⟩,
            ⟨(some 90), .bin .shr (.tmp 89) (.const (.int .u64 1)), none, 0⟩,
            ⟨(some 91), .conv (.int .i64) (.tmp 90), none, 0⟩,
            ⟨(some 16), .mov (.tmp 91), none, 0⟩])
          (.seq (.region [⟨(some 92), .mov (.tmp 4), none, 0⟩,
            ⟨(some 93), .mov (.tmp 0), none, 0⟩,
            ⟨(some 94), .mov (.tmp 2), none, 0⟩,
            ⟨(some 95), .iaddr none 4 (.tmp 93) (.tmp 94), none, 0⟩,
            ⟨(some 96), .load (some 4) (.tmp 95), none, 0⟩,
            ⟨(some 97), .mov (.tmp 0), none, 0⟩,
            ⟨(some 98), .mov (.tmp 16), none, 0⟩,
            ⟨(some 99), .iaddr none 4 (.tmp 97) (.tmp 98), none, 0⟩,
            ⟨(some 100), .load (some 4) (.tmp 99), none, 0⟩,
            ⟨(some 101), .callv (.tmp 92) [.tmp 96, .tmp 100], none, 0⟩,
            ⟨(some 102), .bin .lss (.tmp 101) (.const (.int .i64 0)), none, 0⟩,
            ⟨(some 103), .un .not (.tmp 102), none, 0⟩])
          (.cond (.tmp 103)
            (.region [⟨(some 104), .mov (.tmp 16), none, 0⟩,
              ⟨(some 105), .bin .add (.tmp 104) (.const (.int .i64 1)), none, 0⟩,
              ⟨(some 14), .mov (.tmp 105), none, 0⟩])
            (.region [⟨(some 106), .mov (.tmp 16), none, 0⟩,
              ⟨(some 15), .mov (.tmp 106), none, 0⟩]))))))))
        (.seq (.seq (.region [⟨(some 107), .mov (.tmp 2), none, 0⟩,
          ⟨(some 17), .mov (.tmp 107), none, 0⟩])
        (.block 6 (.loop [0, 14, 17]
          (.seq (.seq (.region [⟨(some 108), .mov (.tmp 17), none, 0⟩,
            ⟨(some 109), .mov (.tmp 14), none, 0⟩,
            ⟨(some 110), .bin .gtr (.tmp 108) (.tmp 109), none, 0⟩])
          (.cond (.tmp 110)
            (.skip)
            (.exit 6)))
          (.seq (.block 7 (.region [⟨(some 113), .mov (.tmp 0), none, 0⟩,
            ⟨(some 114), .mov (.tmp 17), none, 0⟩,
            ⟨(some 118), .mov (.tmp 0), none, 0⟩,
            ⟨(some 119), .mov (.tmp 17), none, 0⟩,
            ⟨(some 120), .bin .sub (.tmp 119) (.const (.int .i64 1)), none, 0⟩,
            ⟨(some 121), .iaddr none 4 (.tmp 118) (.tmp 120), none, 0⟩,
            ⟨(some 122), .load (some 4) (.tmp 121), none, 0⟩,
            ⟨(some 123), .mov (.tmp 0), none, 0⟩,
            ⟨(some 124), .mov (.tmp 17), none, 0⟩,
            ⟨(some 125), .iaddr none 4 (.tmp 123) (.tmp 124), none, 0⟩,
            ⟨(some 126), .load (some 4) (.tmp 125), none, 0⟩,
            ⟨(some 127), .iaddr none 4 (.tmp 113) (.tmp 114), none, 0⟩,
            ⟨none, .store 4 (.tmp 127) (.tmp 122), none, 0⟩,
            ⟨(some 115), .mov (.tmp 0), none, 0⟩,
            ⟨(some 116), .mov (.tmp 17), none, 0⟩,
            ⟨(some 117), .bin .sub (.tmp 116) (.const (.int .i64 1)), none, 0⟩,
            ⟨(some 128), .iaddr none 4 (.tmp 115) (.tmp 117), none, 0⟩,
            ⟨none, .store 4 (.tmp 128) (.tmp 126), none, 0⟩]))
          (.region [⟨(some 111), .mov (.tmp 17), none, 0⟩,
            ⟨(some 112), .bin .sub (.tmp 111) (.const (.int .i64 1)), none, 0⟩,
            ⟨(some 17), .mov (.tmp 112), none, 0⟩]))))))
        (.ret)))))
        (.skip)))
      (.seq (.region [⟨(some 129), .mov (.tmp 1), none, 0⟩,
        ⟨(some 130), .mov (.tmp 3), none, 0⟩,
        ⟨(some 131), .bin .add (.tmp 129) (.tmp 130), none, 0⟩,
        ⟨(some 132), .conv (.int .u64) (.tmp 131), none, 0⟩,
        ⟨(some 133), .bin .shr (.tmp 132) (.const (.int .u64 1)), none, 0⟩,
        ⟨(some 134), .conv (.int .i64) (.tmp 133), none, 0⟩,
        ⟨(some 18), .mov (.tmp 134), none, 0⟩])
      (.seq (.region [⟨(some 135), .mov (.tmp 18), none, 0⟩,
        ⟨(some 136), .mov (.tmp 2), none, 0⟩,
        ⟨(some 137), .bin .add (.tmp 135) (.tmp 136), none, 0⟩,
        ⟨(some 19), .mov (.tmp 137), none, 0⟩])
      (.seq (.region [⟨(some 20), .mov (.const (.int .i64 0)), none, 0⟩,
        ⟨(some 21), .mov (.const (.int .i64 0)), none, 0⟩])
      (.seq (.seq (.region [⟨(some 138), .mov (.tmp 2), none, 0⟩,
        ⟨(some 139), .mov (.tmp 18), none, 0⟩,
        ⟨(some 140), .bin .gtr (.tmp 138) (.tmp 139), none, 0⟩])
      (.cond (.tmp 140)
        (.seq (.region [⟨(some 141), .mov (.tmp 19), none, 0⟩,
          ⟨(some 142), .mov (.tmp 3), none, 0⟩,
          ⟨(some 143), .bin .sub (.tmp 141) (.tmp 142), none, 0⟩,
          ⟨(some 20), .mov (.tmp 143), none, 0⟩])
        (.region [⟨(some 144), .mov (.tmp 18), none, 0⟩,
          ⟨(some 21), .mov (.tmp 144), none, 0⟩]))
        (.seq (.region [⟨(some 145), .mov (.tmp 1), none, 0⟩,
          ⟨(some 20), .mov (.tmp 145), none, 0⟩])
        (.region [⟨(some 146), .mov (.tmp 2), none, 0⟩,
          ⟨(some 21), .mov (.tmp 146), none, 0⟩]))))
      (.seq (.region [⟨(some 147), .mov (.tmp 19), none, 0⟩,
        ⟨(some 148), .bin .sub (.tmp 147) (.const (.int .i64 1)), none, 0⟩,
        ⟨(some 22), .mov (.tmp 148), none, 0⟩])
      (.seq (.block 8 (.loop [0, 1, 2, 3, 4, 18, 19, 20, 21, 22]
        (.seq (.seq (.region [⟨(some 149), .mov (.tmp 20), none, 0⟩,
          ⟨(some 150), .mov (.tmp 21), none, 0⟩,
          ⟨(some 151), .bin .lss (.tmp 149) (.tmp 150), none, 0⟩])
        (.cond (.tmp 151)
          (.skip)
          (.exit 8)))
        (.block 9 (.seq (.region [⟨(some 152), .mov (.tmp 20), none, 0⟩,
          ⟨(some 153), .mov (.tmp 21), none, 0⟩,
          ⟨(some 154), .bin .add (.tmp 152) (.tmp 153), none, 0⟩,
          ⟨(some 155), .conv (.int .u64) (.tmp 154), none, 0⟩,
          ⟨(some 156), .bin .shr (.tmp 155) (.const (.int .u64 1)), none, 0⟩,
          ⟨(some 157), .conv (.int .i64) (.tmp 156), none, 0⟩,
          ⟨(some 23), .mov (.tmp 157), none, 0⟩])
        (.seq (.region [⟨(some 158), .mov (.tmp 4), none, 0⟩,
          ⟨(some 159), .mov (.tmp 0), none, 0⟩,
          ⟨(some 160), .mov (.tmp 22), none, 0⟩,
          ⟨(some 161), .mov (.tmp 23), none, 0⟩,
          ⟨(some 162), .bin .sub (.tmp 160) (.tmp 161), none, 0⟩,
          ⟨(some 163), .iaddr none 4 (.tmp 159) (.tmp 162), none, 0⟩,
          ⟨(some 164), .load (some 4) (.tmp 163), none, 0⟩,
          ⟨(some 165), .mov (.tmp 0), none, 0⟩,
          ⟨(some 166), .mov (.tmp 23), none, 0⟩,
          ⟨(some 167), .iaddr none 4 (.tmp 165) (.tmp 166), none, 0⟩,
          ⟨(some 168), .load (some 4) (.tmp 167), none, 0⟩,
          ⟨(some 169), .callv (.tmp 158) [.tmp 164, .tmp 168], none, 0⟩,
          ⟨(some 170), .bin .lss (.tmp 169) (.const (.int .i64 0)), none, 0⟩,
          ⟨(some 171), .un .not (.tmp 170), none, 0⟩])
        (.cond (.tmp 171)
          (.region [⟨(some 172), .mov (.tmp 23), none, 0⟩,
            ⟨(some 173), .bin .add (.tmp 172) (.const (.int .i64 1)), none, 0⟩,
            ⟨(some 20), .mov (.tmp 173), none, 0⟩])
          (.region [⟨(some 174), .mov (.tmp 23), none, 0⟩,
            ⟨(some 21), .mov (.tmp 174), none, 0⟩]))))))))
      (.seq (.region [⟨(some 175), .mov (.tmp 19), none, 0⟩,
        ⟨(some 176), .mov (.tmp 20), none, 0⟩,
        ⟨(some 177), .bin .sub (.tmp 175) (.tmp 176), none, 0⟩,
        ⟨(some 24), .mov (.tmp 177), none, 0⟩])
      (.seq (.seq (.region [⟨(some 178), .mov (.tmp 20), none, 0⟩,
        ⟨(some 179), .mov (.tmp 2), none, 0⟩,
        ⟨(some 180), .bin .lss (.tmp 178) (.tmp 179), none, 0⟩,
        ⟨(some 181), .mov (.tmp 180), none, 0⟩,
        ⟨(some 182), .mov (.tmp 2), (some (181, true)), 0⟩,
        ⟨(some 183), .mov (.tmp 24), (some (181, true)), 0⟩,
        ⟨(some 184), .bin .lss (.tmp 182) (.tmp 183), (some (181, true)), 0⟩,
        ⟨(some 185), .pick (.tmp 181) (.tmp 184) (.const (.bool false)), none, 0⟩])
      (.cond (.tmp 185)
        (.region [⟨(some 186), .mov (.tmp 0), none, 0⟩,
          ⟨(some 187), .mov (.tmp 20), none, 0⟩,
          ⟨(some 188), .mov (.tmp 2), none, 0⟩,
          ⟨(some 189), .mov (.tmp 24), none, 0⟩,
          ⟨(some 190), .mov (.tmp 4), none, 0⟩,
          ⟨(some 191), .call Id.slices_rotateCmpFunc_plan_Object [.tmp 186, .tmp 187, .tmp 188, .tmp 189, .tmp 190], none, 0⟩])
        (.skip)))
      (.seq (.seq (.region [⟨(some 192), .mov (.tmp 1), none, 0⟩,
        ⟨(some 193), .mov (.tmp 20), none, 0⟩,
        ⟨(some 194), .bin .lss (.tmp 192) (.tmp 193), none, 0⟩,
        ⟨(some 195), .mov (.tmp 194), none, 0⟩,
        ⟨(some 196), .mov (.tmp 20), (some (195, true)), 0⟩,
        ⟨(some 197), .mov (.tmp 18), (some (195, true)), 0⟩,
        ⟨(some 198), .bin .lss (.tmp 196) (.tmp 197), (some (195, true)), 0⟩,
        ⟨(some 199), .pick (.tmp 195) (.tmp 198) (.const (.bool false)), none, 0⟩])
      (.cond (.tmp 199)
        (.region [⟨(some 200), .mov (.tmp 0), none, 0⟩,
          ⟨(some 201), .mov (.tmp 1), none, 0⟩,
          ⟨(some 202), .mov (.tmp 20), none, 0⟩,
          ⟨(some 203), .mov (.tmp 18), none, 0⟩,
          ⟨(some 204), .mov (.tmp 4), none, 0⟩,
          ⟨(some 205), .call Id.slices_symMergeCmpFunc_plan_Object [.tmp 200, .tmp 201, .tmp 202, .tmp 203, .tmp 204], none, 0⟩])
        (.skip)))
      (.seq (.region [⟨(some 206), .mov (.tmp 18), none, 0⟩,
        ⟨(some 207), .mov (.tmp 24), none, 0⟩,
        ⟨(some 208), .bin .lss (.tmp 206) (.tmp 207), none, 0⟩,
        ⟨(some 209), .mov (.tmp 208), none, 0⟩,
        ⟨(some 210), .mov (.tmp 24), (some (209, true)), 0⟩,
        ⟨(some 211), .mov (.tmp 3), (some (209, true)), 0⟩,
        ⟨(some 212), .bin .lss (.tmp 210) (.tmp 211), (some (209, true)), 0⟩,
        ⟨(some 213), .pick (.tmp 209) (.tmp 212) (.const (.bool false)), none, 0⟩])
      (.cond (.tmp 213)
        (.region [⟨(some 214), .mov (.tmp 0), none, 0⟩,
          ⟨(some 215), .mov (.tmp 18), none, 0⟩,
          ⟨(some 216), .mov (.tmp 24), none, 0⟩,
          ⟨(some 217), .mov (.tmp 3), none, 0⟩,
          ⟨(some 218), .mov (.tmp 4), none, 0⟩,
          ⟨(some 219), .call Id.slices_symMergeCmpFunc_plan_Object [.tmp 214, .tmp 215, .tmp 216, .tmp 217, .tmp 218], none, 0⟩])
        (.skip))))))))))))) }

def F.cmp_isNaN_int : IFunc :=
  { lb := [], scr := true, nargs := 1, res := [.tmp 2],
    body := .seq (.region [⟨(some 2), .mov (.const (.bool false)), none, 0⟩])
      (.seq (.region [⟨(some 3), .mov (.tmp 0), none, 0⟩,
        ⟨(some 4), .mov (.tmp 0), none, 0⟩,
        ⟨(some 5), .bin .neq (.tmp 3) (.tmp 4), none, 0⟩,
        ⟨(some 2), .mov (.tmp 5), none, 0⟩])
      (.ret)) }

def F.slices_rotateCmpFunc_plan_Object : IFunc :=
  { lb := [], scr := false, nargs := 5, res := [],
    body := .seq (.region [⟨(some 12), .mov (.tmp 2), none, 0⟩,
        ⟨(some 13), .mov (.tmp 1), none, 0⟩,
        ⟨(some 14), .bin .sub (.tmp 12) (.tmp 13), none, 0⟩,
        ⟨(some 10), .mov (.tmp 14), none, 0⟩])
      (.seq (.region [⟨(some 15), .mov (.tmp 3), none, 0⟩,
        ⟨(some 16), .mov (.tmp 2), none, 0⟩,
        ⟨(some 17), .bin .sub (.tmp 15) (.tmp 16), none, 0⟩,
        ⟨(some 11), .mov (.tmp 17), none, 0⟩])
      (.seq (.block 0 (.loop [0, 2, 4, 10, 11]
        (.seq (.seq (.region [⟨(some 18), .mov (.tmp 10), none, 0⟩,
          ⟨(some 19), .mov (.tmp 11), none, 0⟩,
          ⟨(some 20), .bin .neq (.tmp 18) (.tmp 19), none, 0⟩])
        (.cond (.tmp 20)
          (.skip)
          (.exit 0)))
        (.block 1 (.seq (.region [⟨(some 21), .mov (.tmp 10), none, 0⟩,
          ⟨(some 22), .mov (.tmp 11), none, 0⟩,
          ⟨(some 23), .bin .gtr (.tmp 21) (.tmp 22), none, 0⟩])
        (.cond (.tmp 23)
          (.seq (.region [⟨(some 24), .mov (.tmp 0), none, 0⟩,
            ⟨(some 25), .mov (.tmp 2), none, 0⟩,
            ⟨(some 26), .mov (.tmp 10), none, 0⟩,
            ⟨(some 27), .bin .sub (.tmp 25) (.tmp 26), none, 0⟩,
            ⟨(some 28), .mov (.tmp 2), none, 0⟩,
            ⟨(some 29), .mov (.tmp 11), none, 0⟩,
            ⟨(some 30), .mov (.tmp 4), none, 0⟩,
            ⟨(some 31), .call Id.slices_swapRangeCmpFunc_plan_Object [.tmp 24, .tmp 27, .tmp 28, .tmp 29, .tmp 30], none, 0⟩])
          (.region [⟨(some 32), .mov (.tmp 10), none, 0⟩,
            ⟨(some 33), .mov (.tmp 11), none, 0⟩,
            ⟨(some 34), .bin .sub (.tmp 32) (.tmp 33), none, 0⟩,
            ⟨(some 10), .mov (.tmp 34), none, 0⟩]))
          (.seq (.region [⟨(some 35), .mov (.tmp 0), none, 0⟩,
            ⟨(some 36), .mov (.tmp 2), none, 0⟩,
            ⟨(some 37), .mov (.tmp 10), none, 0⟩,
            ⟨(some 38), .bin .sub (.tmp 36) (.tmp 37), none, 0⟩,
            ⟨(some 39), .mov (.tmp 2), none, 0⟩,
            ⟨(some 40), .mov (.tmp 11), none, 0⟩,
            ⟨(some 41), .bin .add (.tmp 39) (.tmp 40), none, 0⟩,
            ⟨(some 42), .mov (.tmp 10), none, 0⟩,
            ⟨(some 43), .bin .sub (.tmp 41) (.tmp 42), none, 0⟩,
            ⟨(some 44), .mov (.tmp 10), none, 0⟩,
            ⟨(some 45), .mov (.tmp 4), none, 0⟩,
            ⟨(some 46), .call Id.slices_swapRangeCmpFunc_plan_Object [.tmp 35, .tmp 38, .tmp 43, .tmp 44, .tmp 45], none, 0⟩])
          (.region [⟨(some 47), .mov (.tmp 11), none, 0⟩,
            ⟨(some 48), .mov (.tmp 10), none, 0⟩,
            ⟨(some 49), .bin .sub (.tmp 47) (.tmp 48), none, 0⟩,
            ⟨(some 11), .mov (.tmp 49), none, 0⟩]))))))))
      (.region [⟨(some 50), .mov (.tmp 0), none, 0⟩,
        ⟨(some 51), .mov (.tmp 2), none, 0⟩,
        ⟨(some 52), .mov (.tmp 10), none, 0⟩,
        ⟨(some 53), .bin .sub (.tmp 51) (.tmp 52), none, 0⟩,
        ⟨(some 54), .mov (.tmp 2), none, 0⟩,
        ⟨(some 55), .mov (.tmp 10), none, 0⟩,
        ⟨(some 56), .mov (.tmp 4), none, 0⟩,
        ⟨(some 57), .call Id.slices_swapRangeCmpFunc_plan_Object [.tmp 50, .tmp 53, .tmp 54, .tmp 55, .tmp 56], none, 0⟩]))) }

def F.slices_swapRangeCmpFunc_plan_Object : IFunc :=
  { lb := [], scr := false, nargs := 5, res := [],
    body := .seq (.region [⟨(some 10), .mov (.const (.int .i64 0)), none, 0⟩])
      (.block 0 (.loop [0, 1, 2, 3, 10]
        (.seq (.seq (.region [⟨(some 11), .mov (.tmp 10), none, 0⟩,
          ⟨(some 12), .mov (.tmp 3), none, 0⟩,
          ⟨(some 13), .bin .lss (.tmp 11) (.tmp 12), none, 0⟩])
        (.cond (.tmp 13)
          (.skip)
          (.exit 0)))
        (.seq (.block 1 (.region [⟨(some 16), .mov (.tmp 0), none, 0⟩,
          ⟨(some 17), .mov (.tmp 1), none, 0⟩,
          ⟨(some 18), .mov (.tmp 10), none, 0⟩,
          ⟨(some 19), .bin .add (.tmp 17) (.tmp 18), none, 0⟩,
          ⟨(some 24), .mov (.tmp 0), none, 0⟩,
          ⟨(some 25), .mov (.tmp 2), none, 0⟩,
          ⟨(some 26), .mov (.tmp 10), none, 0⟩,
          ⟨(some 27), .bin .add (.tmp 25) (.tmp 26), none, 0⟩,
          ⟨(some 28), .iaddr none 4 (.tmp 24) (.tmp 27), none, 0⟩,
          ⟨(some 29), .load (some 4) (.tmp 28), none, 0⟩,
          ⟨(some 30), .mov (.tmp 0), none, 0⟩,
          ⟨(some 31), .mov (.tmp 1), none, 0⟩,
          ⟨(some 32), .mov (.tmp 10), none, 0⟩,
          ⟨(some 33), .bin .add (.tmp 31) (.tmp 32), none, 0⟩,
          ⟨(some 34), .iaddr none 4 (.tmp 30) (.tmp 33), none, 0⟩,
          ⟨(some 35), .load (some 4) (.tmp 34), none, 0⟩,
          ⟨(some 36), .iaddr none 4 (.tmp 16) (.tmp 19), none, 0⟩,
          ⟨none, .store 4 (.tmp 36) (.tmp 29), none, 0⟩,
          ⟨(some 20), .mov (.tmp 0), none, 0⟩,
          ⟨(some 21), .mov (.tmp 2), none, 0⟩,
          ⟨(some 22), .mov (.tmp 10), none, 0⟩,
          ⟨(some 23), .bin .add (.tmp 21) (.tmp 22), none, 0⟩,
          ⟨(some 37), .iaddr none 4 (.tmp 20) (.tmp 23), none, 0⟩,
          ⟨none, .store 4 (.tmp 37) (.tmp 35), none, 0⟩]))
        (.region [⟨(some 14), .mov (.tmp 10), none, 0⟩,
          ⟨(some 15), .bin .add (.tmp 14) (.const (.int .i64 1)), none, 0⟩,
          ⟨(some 10), .mov (.tmp 15), none, 0⟩]))))) }

def tbl : List (Nat × IFunc) := [(Id.sidingslaw17_PlanSlides, F.sidingslaw17_PlanSlides),
  (Id.sidingslaw17_PlanOrder, F.sidingslaw17_PlanOrder),
  (Id.sidingslaw17_PlanTight, F.sidingslaw17_PlanTight),
  (Id.sidingslaw17_PlanFixed, F.sidingslaw17_PlanFixed),
  (Id.sidingslaw17_live, F.sidingslaw17_live),
  (Id.plan_Slide, F.plan_Slide),
  (Id.sidingslaw17_own, F.sidingslaw17_own),
  (Id.sidingsref17_Slide, F.sidingsref17_Slide),
  (Id.sidingsref17_Moves, F.sidingsref17_Moves),
  (Id.sidingslaw17_moves, F.sidingslaw17_moves),
  (Id.sidingsref17_Sort, F.sidingsref17_Sort),
  (Id.sidingsref17_Apart, F.sidingsref17_Apart),
  (Id.sidingslaw17_moved, F.sidingslaw17_moved),
  (Id.plan_Gaps, F.plan_Gaps),
  (Id.plan_Sort, F.plan_Sort),
  (Id.sidingsref17_Same, F.sidingsref17_Same),
  (Id.sidingslaw17_told, F.sidingslaw17_told),
  (Id.plan_Apart, F.plan_Apart),
  (Id.plan_Check, F.plan_Check),
  (Id.sidingsref17_Check, F.sidingsref17_Check),
  (Id.sidingsref17_ahead, F.sidingsref17_ahead),
  (Id.sidingsref17_share, F.sidingsref17_share),
  (Id.plan_spanOf, F.plan_spanOf),
  (Id.plan_span_end, F.plan_span_end),
  (Id.slices_Clone_Lplan_Object, F.slices_Clone_Lplan_Object),
  (Id.slices_SortStableFunc_Lplan_Object, F.slices_SortStableFunc_Lplan_Object),
  (Id.plan_byPlace, F.plan_byPlace),
  (Id.slices_DeleteFunc_Lplan_Object, F.slices_DeleteFunc_Lplan_Object),
  (Id.plan_Apart_1, F.plan_Apart_1),
  (Id.slices_ContainsFunc_Lplan_Object, F.slices_ContainsFunc_Lplan_Object),
  (Id.plan_Apart_2, F.plan_Apart_2),
  (Id.plan_begins, F.plan_begins),
  (Id.plan_Check_1, F.plan_Check_1),
  (Id.sidingsref17_has, F.sidingsref17_has),
  (Id.slices_stableCmpFunc_plan_Object, F.slices_stableCmpFunc_plan_Object),
  (Id.cmp_Or_int, F.cmp_Or_int),
  (Id.cmp_Compare_int, F.cmp_Compare_int),
  (Id.plan_bit, F.plan_bit),
  (Id.slices_IndexFunc_Lplan_Object, F.slices_IndexFunc_Lplan_Object),
  (Id.slices_insertionSortCmpFunc_plan_Object, F.slices_insertionSortCmpFunc_plan_Object),
  (Id.slices_symMergeCmpFunc_plan_Object, F.slices_symMergeCmpFunc_plan_Object),
  (Id.cmp_isNaN_int, F.cmp_isNaN_int),
  (Id.slices_rotateCmpFunc_plan_Object, F.slices_rotateCmpFunc_plan_Object),
  (Id.slices_swapRangeCmpFunc_plan_Object, F.slices_swapRangeCmpFunc_plan_Object)]
def env0 : Env := { fn := fun g => tbl.lookup g, prim := fun _ => none }
end Go.Proofs.Ytclgilndihagiaa
