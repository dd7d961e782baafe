/- The functions of this seat in the small language: printed by a program. -/
import Derived.Test.YtgdlplhglpinaaaIrD

namespace Go.Proofs.Ytgdlplhglpinaaa
open Go Go.Ir

def Id.sidingslaw08_EventCalls : Nat := 3
def Id.sidingslaw08_EventBefore : Nat := 4
def Id.sidingslaw08_EventTurns : Nat := 5
def Id.sidingslaw08_EventCut : Nat := 6
def Id.sidingslaw08_EventApart : Nat := 7
def Id.sidingslaw08_EventHandles : Nat := 8
def Id.sidingslaw08_live : Nat := 9
def Id.event_Calls : Nat := 10
def Id.sidingsref08_Calls : Nat := 11
def Id.sidingsref08_Same : Nat := 12
def Id.sidingslaw08_all : Nat := 13
def Id.event_Check : Nat := 14
def Id.sidingsref08_Check : Nat := 15
def Id.sidingsref01_Same : Nat := 16
def Id.event_Handles : Nat := 17
def Id.sidingsref08_Handles : Nat := 18
def Id.event_Before : Nat := 19
def Id.sidingslaw08_own : Nat := 20
def Id.sidingsref08_Before : Nat := 21
def Id.sidingsref08_answer : Nat := 22
def Id.sidingslaw08_told : Nat := 23
def Id.sidingsref08_turn : Nat := 24
def Id.slices_Sort_Lint : Nat := 25
def Id.slices_Compact_Lint : Nat := 26
def Id.slices_pdqsortOrdered_int : Nat := 27
def Id.math_bits_Len : Nat := 28
def Id.slices_insertionSortOrdered_int : Nat := 29
def Id.slices_heapSortOrdered_int : Nat := 30
def Id.slices_breakPatternsOrdered_int : Nat := 31
def Id.slices_choosePivotOrdered_int : Nat := 32
def Id.slices_reverseRangeOrdered_int : Nat := 33
def Id.slices_partialInsertionSortOrdered_int : Nat := 34
def Id.cmp_Less_int : Nat := 35
def Id.slices_partitionEqualOrdered_int : Nat := 36
def Id.slices_partitionOrdered_int : Nat := 37
def Id.math_bits_Len32 : Nat := 38
def Id.math_bits_Len64 : Nat := 39
def Id.slices_siftDownOrdered_int : Nat := 40
def Id.slices_nextPowerOfTwo : Nat := 41
def Id.slices_xorshift_Next : Nat := 42
def Id.slices_medianAdjacentOrdered_int : Nat := 43
def Id.slices_medianOrdered_int : Nat := 44
def Id.cmp_isNaN_int : Nat := 45
def Id.slices_order2Ordered_int : Nat := 46

def F.sidingslaw08_EventCalls : IFunc :=
  { lb := [], scr := false, nargs := 1, res := [.tmp 2],
    body := .seq (.region [⟨(some 2), .mov (.const (.bool false)), none, 0⟩])
      (.seq (.seq (.region [⟨(some 7), .mov (.tmp 0), none, 0⟩,
        ⟨(some 8), .len false (.tmp 7), none, 0⟩,
        ⟨(some 9), .bin .gtr (.tmp 8) (.const (.int .i64 60)), none, 0⟩])
      (.cond (.tmp 9)
        (.seq (.region [⟨(some 10), .call Id.sidingslaw08_live [], none, 0⟩,
          ⟨(some 2), .mov (.tmp 10), none, 0⟩])
        (.ret))
        (.skip)))
      (.seq (.region [⟨(some 12), .mov (.tmp 0), none, 0⟩,
        ⟨(some 13), .call Id.event_Calls [.tmp 12], none, 0⟩,
        ⟨(some 11), .mov (.tmp 13), none, 0⟩,
        ⟨(some 14), .extract (.tmp 11) 0, none, 0⟩,
        ⟨(some 15), .extract (.tmp 11) 1, none, 0⟩,
        ⟨(some 3), .mov (.tmp 14), none, 0⟩,
        ⟨(some 4), .mov (.tmp 15), none, 0⟩])
      (.seq (.region [⟨(some 17), .mov (.tmp 0), none, 0⟩,
        ⟨(some 18), .call Id.sidingsref08_Calls [.tmp 17], none, 0⟩,
        ⟨(some 16), .mov (.tmp 18), none, 0⟩,
        ⟨(some 19), .extract (.tmp 16) 0, none, 0⟩,
        ⟨(some 20), .extract (.tmp 16) 1, none, 0⟩,
        ⟨(some 5), .mov (.tmp 19), none, 0⟩,
        ⟨(some 6), .mov (.tmp 20), none, 0⟩])
      (.seq (.region [⟨(some 21), .mov (.tmp 3), none, 0⟩,
        ⟨(some 22), .call Id.sidingslaw08_all [.tmp 21], none, 0⟩,
        ⟨(some 23), .mov (.tmp 5), none, 0⟩,
        ⟨(some 24), .call Id.sidingsref08_Same [.tmp 22, .tmp 23], none, 0⟩,
        ⟨(some 25), .mov (.tmp 24), none, 0⟩,
        ⟨(some 26), .mov (.tmp 4), (some (25, true)), 0⟩,
        ⟨(some 27), .mov (.tmp 6), (some (25, true)), 0⟩,
        ⟨(some 28), .bin .eql (.tmp 26) (.tmp 27), (some (25, true)), 0⟩,
        ⟨(some 29), .pick (.tmp 25) (.tmp 28) (.const (.bool false)), none, 0⟩,
        ⟨(some 30), .mov (.tmp 29), none, 0⟩,
        ⟨(some 31), .mov (.tmp 0), (some (30, true)), 0⟩,
        ⟨(some 32), .call Id.event_Check [.tmp 31], (some (30, true)), 0⟩,
        ⟨(some 33), .mov (.tmp 0), (some (30, true)), 0⟩,
        ⟨(some 34), .call Id.sidingsref08_Check [.tmp 33], (some (30, true)), 0⟩,
        ⟨(some 35), .bin .eql (.tmp 32) (.tmp 34), (some (30, true)), 0⟩,
        ⟨(some 36), .pick (.tmp 30) (.tmp 35) (.const (.bool false)), none, 0⟩,
        ⟨(some 37), .mov (.tmp 36), none, 0⟩,
        ⟨(some 38), .mov (.tmp 0), (some (37, true)), 0⟩,
        ⟨(some 39), .call Id.event_Handles [.tmp 38], (some (37, true)), 0⟩,
        ⟨(some 40), .mov (.tmp 0), (some (37, true)), 0⟩,
        ⟨(some 41), .call Id.sidingsref08_Handles [.tmp 40], (some (37, true)), 0⟩,
        ⟨(some 42), .call Id.sidingsref01_Same [.tmp 39, .tmp 41], (some (37, true)), 0⟩,
        ⟨(some 43), .pick (.tmp 37) (.tmp 42) (.const (.bool false)), none, 0⟩,
        ⟨(some 44), .mov (.tmp 43), none, 0⟩,
        ⟨(some 45), .call Id.sidingslaw08_live [], (some (44, true)), 0⟩,
        ⟨(some 46), .pick (.tmp 44) (.tmp 45) (.const (.bool false)), none, 0⟩,
        ⟨(some 2), .mov (.tmp 46), none, 0⟩])
      (.ret))))) }

def F.sidingslaw08_EventBefore : IFunc :=
  { lb := [2, 3], scr := false, nargs := 2, res := [.tmp 4],
    body := .seq (.region [⟨(some 2), .lbox (.tmp 0), none, 0⟩,
        ⟨(some 3), .lbox (.tmp 1), none, 0⟩,
        ⟨(some 4), .mov (.const (.bool false)), none, 0⟩])
      (.seq (.region [⟨(some 5), .lload none 2 0 (some 10), none, 0⟩,
        ⟨(some 6), .call Id.sidingslaw08_own [.tmp 5], none, 0⟩,
        ⟨(some 7), .lload none 3 0 (some 10), none, 0⟩,
        ⟨(some 8), .call Id.sidingslaw08_own [.tmp 7], none, 0⟩,
        ⟨(some 9), .call Id.event_Before [.tmp 6, .tmp 8], none, 0⟩,
        ⟨(some 10), .lload none 2 0 (some 10), none, 0⟩,
        ⟨(some 11), .lload none 3 0 (some 10), none, 0⟩,
        ⟨(some 12), .call Id.sidingsref08_Before [.tmp 10, .tmp 11], none, 0⟩,
        ⟨(some 13), .eqv false .bool (.tmp 9) (.tmp 12), none, 0⟩,
        ⟨(some 14), .mov (.tmp 13), none, 0⟩,
        ⟨(some 15), .call Id.sidingslaw08_live [], (some (14, true)), 0⟩,
        ⟨(some 16), .pick (.tmp 14) (.tmp 15) (.const (.bool false)), none, 0⟩,
        ⟨(some 4), .mov (.tmp 16), none, 0⟩])
      (.ret)) }

def F.sidingslaw08_EventTurns : IFunc :=
  { lb := [], scr := false, nargs := 1, res := [.tmp 2],
    body := .seq (.region [⟨(some 2), .mov (.const (.bool false)), none, 0⟩])
      (.seq (.seq (.region [⟨(some 8), .mov (.tmp 0), none, 0⟩,
        ⟨(some 9), .len false (.tmp 8), none, 0⟩,
        ⟨(some 10), .bin .gtr (.tmp 9) (.const (.int .i64 60)), none, 0⟩])
      (.cond (.tmp 10)
        (.seq (.region [⟨(some 11), .call Id.sidingslaw08_live [], none, 0⟩,
          ⟨(some 2), .mov (.tmp 11), none, 0⟩])
        (.ret))
        (.skip)))
      (.seq (.region [⟨(some 13), .mov (.tmp 0), none, 0⟩,
        ⟨(some 14), .call Id.event_Calls [.tmp 13], none, 0⟩,
        ⟨(some 12), .mov (.tmp 14), none, 0⟩,
        ⟨(some 15), .extract (.tmp 12) 0, none, 0⟩,
        ⟨(some 16), .extract (.tmp 12) 1, none, 0⟩,
        ⟨(some 3), .mov (.tmp 15), none, 0⟩,
        ⟨(some 4), .mov (.tmp 16), none, 0⟩])
      (.seq (.seq (.region [⟨(some 17), .mov (.tmp 4), none, 0⟩,
        ⟨(some 18), .bin .neq (.tmp 17) (.const (.int .i64 0)), none, 0⟩])
      (.cond (.tmp 18)
        (.seq (.region [⟨(some 19), .mov (.tmp 3), none, 0⟩,
          ⟨(some 20), .len false (.tmp 19), none, 0⟩,
          ⟨(some 21), .bin .eql (.tmp 20) (.const (.int .i64 0)), none, 0⟩,
          ⟨(some 22), .mov (.tmp 21), none, 0⟩,
          ⟨(some 23), .mov (.tmp 0), (some (22, true)), 0⟩,
          ⟨(some 24), .call Id.event_Check [.tmp 23], (some (22, true)), 0⟩,
          ⟨(some 25), .bin .eql (.tmp 24) (.const (.int .i64 2)), (some (22, true)), 0⟩,
          ⟨(some 26), .pick (.tmp 22) (.tmp 25) (.const (.bool false)), none, 0⟩,
          ⟨(some 27), .mov (.tmp 26), none, 0⟩,
          ⟨(some 28), .call Id.sidingslaw08_live [], (some (27, true)), 0⟩,
          ⟨(some 29), .pick (.tmp 27) (.tmp 28) (.const (.bool false)), none, 0⟩,
          ⟨(some 2), .mov (.tmp 29), none, 0⟩])
        (.ret))
        (.skip)))
      (.seq (.region [⟨(some 5), .mov (.const (.int .i64 0)), none, 0⟩])
      (.seq (.seq (.region [⟨(some 6), .mov (.const (.int .i64 0)), none, 0⟩])
      (.block 0 (.loop [0, 3, 5, 6]
        (.seq (.seq (.region [⟨(some 30), .mov (.tmp 6), none, 0⟩,
          ⟨(some 31), .mov (.tmp 3), none, 0⟩,
          ⟨(some 32), .len false (.tmp 31), none, 0⟩,
          ⟨(some 33), .bin .lss (.tmp 30) (.tmp 32), none, 0⟩])
        (.cond (.tmp 33)
          (.skip)
          (.exit 0)))
        (.seq (.block 1 (.seq (.region [⟨(some 36), .mov (.tmp 5), none, 0⟩,
          ⟨(some 37), .bin .add (.tmp 36) (.const (.int .i64 1)), none, 0⟩,
          ⟨(some 5), .mov (.tmp 37), none, 0⟩])
        (.seq (.seq (.region [⟨(some 38), .mov (.tmp 3), none, 0⟩,
          ⟨(some 39), .mov (.tmp 6), none, 0⟩,
          ⟨(some 40), .iaddr none 10 (.tmp 38) (.tmp 39), none, 0⟩,
          ⟨(some 41), .faddr 7 (.tmp 40), none, 0⟩,
          ⟨(some 42), .load none (.tmp 41), none, 0⟩])
        (.cond (.tmp 42)
          (.region [⟨(some 43), .mov (.tmp 5), none, 0⟩,
            ⟨(some 44), .bin .add (.tmp 43) (.const (.int .i64 1)), none, 0⟩,
            ⟨(some 5), .mov (.tmp 44), none, 0⟩])
          (.skip)))
        (.seq (.region [⟨(some 7), .mov (.const (.int .i64 0)), none, 0⟩])
        (.block 2 (.loop [0, 3, 5, 6, 7]
          (.seq (.seq (.region [⟨(some 45), .mov (.tmp 7), none, 0⟩,
            ⟨(some 46), .mov (.tmp 6), none, 0⟩,
            ⟨(some 47), .bin .lss (.tmp 45) (.tmp 46), none, 0⟩])
          (.cond (.tmp 47)
            (.skip)
            (.exit 2)))
          (.seq (.block 3 (.seq (.seq (.region [⟨(some 50), .mov (.tmp 3), none, 0⟩,
            ⟨(some 51), .mov (.tmp 7), none, 0⟩,
            ⟨(some 52), .iaddr none 10 (.tmp 50) (.tmp 51), none, 0⟩,
            ⟨(some 53), .faddr 0 (.tmp 52), none, 0⟩,
            ⟨(some 54), .load none (.tmp 53), none, 0⟩,
            ⟨(some 55), .mov (.tmp 3), none, 0⟩,
            ⟨(some 56), .mov (.tmp 6), none, 0⟩,
            ⟨(some 57), .iaddr none 10 (.tmp 55) (.tmp 56), none, 0⟩,
            ⟨(some 58), .faddr 0 (.tmp 57), none, 0⟩,
            ⟨(some 59), .load none (.tmp 58), none, 0⟩,
            ⟨(some 60), .bin .eql (.tmp 54) (.tmp 59), none, 0⟩,
            ⟨(some 61), .mov (.tmp 60), none, 0⟩,
            ⟨(some 62), .mov (.tmp 3), (some (61, true)), 0⟩,
            ⟨(some 63), .mov (.tmp 7), (some (61, true)), 0⟩,
            ⟨(some 64), .iaddr none 10 (.tmp 62) (.tmp 63), (some (61, true)), 0⟩,
            ⟨(some 65), .faddr 7 (.tmp 64), (some (61, true)), 0⟩,
            ⟨(some 66), .load none (.tmp 65), (some (61, true)), 0⟩,
            ⟨(some 67), .un .not (.tmp 66), (some (61, true)), 0⟩,
            ⟨(some 68), .mov (.tmp 67), (some (61, true)), 0⟩,
            ⟨(some 69), .mov (.tmp 3), (some (68, false)), 0⟩,
            ⟨(some 70), .mov (.tmp 7), (some (68, false)), 0⟩,
            ⟨(some 71), .iaddr none 10 (.tmp 69) (.tmp 70), (some (68, false)), 0⟩,
            ⟨(some 72), .load (some 10) (.tmp 71), (some (68, false)), 0⟩,
            ⟨(some 73), .mov (.tmp 3), (some (68, false)), 0⟩,
            ⟨(some 74), .mov (.tmp 6), (some (68, false)), 0⟩,
            ⟨(some 75), .iaddr none 10 (.tmp 73) (.tmp 74), (some (68, false)), 0⟩,
            ⟨(some 76), .load (some 10) (.tmp 75), (some (68, false)), 0⟩,
            ⟨(some 77), .call Id.event_Before [.tmp 72, .tmp 76], (some (68, false)), 0⟩,
            ⟨(some 78), .un .not (.tmp 77), (some (68, false)), 0⟩,
            ⟨(some 79), .pick (.tmp 68) (.const (.bool true)) (.tmp 78), (some (61, true)), 0⟩,
            ⟨(some 80), .pick (.tmp 61) (.tmp 79) (.const (.bool false)), none, 0⟩])
          (.cond (.tmp 80)
            (.seq (.region [⟨(some 2), .mov (.const (.bool false)), none, 0⟩])
            (.ret))
            (.skip)))
          (.seq (.region [⟨(some 81), .mov (.tmp 3), none, 0⟩,
            ⟨(some 82), .mov (.tmp 7), none, 0⟩,
            ⟨(some 83), .iaddr none 10 (.tmp 81) (.tmp 82), none, 0⟩,
            ⟨(some 84), .faddr 8 (.tmp 83), none, 0⟩,
            ⟨(some 85), .load none (.tmp 84), none, 0⟩,
            ⟨(some 86), .mov (.tmp 3), none, 0⟩,
            ⟨(some 87), .mov (.tmp 6), none, 0⟩,
            ⟨(some 88), .iaddr none 10 (.tmp 86) (.tmp 87), none, 0⟩,
            ⟨(some 89), .faddr 8 (.tmp 88), none, 0⟩,
            ⟨(some 90), .load none (.tmp 89), none, 0⟩,
            ⟨(some 91), .bin .geq (.tmp 85) (.tmp 90), none, 0⟩])
          (.cond (.tmp 91)
            (.seq (.region [⟨(some 2), .mov (.const (.bool false)), none, 0⟩])
            (.ret))
            (.skip)))))
          (.region [⟨(some 48), .mov (.tmp 7), none, 0⟩,
            ⟨(some 49), .bin .add (.tmp 48) (.const (.int .i64 1)), none, 0⟩,
            ⟨(some 7), .mov (.tmp 49), none, 0⟩])))))))))
        (.region [⟨(some 34), .mov (.tmp 6), none, 0⟩,
          ⟨(some 35), .bin .add (.tmp 34) (.const (.int .i64 1)), none, 0⟩,
          ⟨(some 6), .mov (.tmp 35), none, 0⟩]))))))
      (.seq (.region [⟨(some 92), .mov (.tmp 5), none, 0⟩,
        ⟨(some 93), .mov (.tmp 0), none, 0⟩,
        ⟨(some 94), .len false (.tmp 93), none, 0⟩,
        ⟨(some 95), .bin .eql (.tmp 92) (.tmp 94), none, 0⟩,
        ⟨(some 96), .mov (.tmp 95), none, 0⟩,
        ⟨(some 97), .call Id.sidingslaw08_live [], (some (96, true)), 0⟩,
        ⟨(some 98), .pick (.tmp 96) (.tmp 97) (.const (.bool false)), none, 0⟩,
        ⟨(some 2), .mov (.tmp 98), none, 0⟩])
      (.ret))))))) }

def F.sidingslaw08_EventCut : IFunc :=
  { lb := [], scr := false, nargs := 2, res := [.tmp 4],
    body := .seq (.region [⟨(some 4), .mov (.const (.bool false)), none, 0⟩])
      (.seq (.seq (.region [⟨(some 10), .mov (.tmp 0), none, 0⟩,
        ⟨(some 11), .len false (.tmp 10), none, 0⟩,
        ⟨(some 12), .bin .gtr (.tmp 11) (.const (.int .i64 60)), none, 0⟩,
        ⟨(some 13), .mov (.tmp 12), none, 0⟩,
        ⟨(some 14), .mov (.tmp 1), (some (13, false)), 0⟩,
        ⟨(some 15), .bin .lss (.tmp 14) (.const (.int .i64 0)), (some (13, false)), 0⟩,
        ⟨(some 16), .pick (.tmp 13) (.const (.bool true)) (.tmp 15), none, 0⟩,
        ⟨(some 17), .mov (.tmp 16), none, 0⟩,
        ⟨(some 18), .mov (.tmp 1), (some (17, false)), 0⟩,
        ⟨(some 19), .mov (.tmp 0), (some (17, false)), 0⟩,
        ⟨(some 20), .len false (.tmp 19), (some (17, false)), 0⟩,
        ⟨(some 21), .bin .gtr (.tmp 18) (.tmp 20), (some (17, false)), 0⟩,
        ⟨(some 22), .pick (.tmp 17) (.const (.bool true)) (.tmp 21), none, 0⟩,
        ⟨(some 23), .mov (.tmp 22), none, 0⟩,
        ⟨(some 24), .mov (.tmp 0), (some (23, false)), 0⟩,
        ⟨(some 25), .call Id.event_Check [.tmp 24], (some (23, false)), 0⟩,
        ⟨(some 26), .bin .neq (.tmp 25) (.const (.int .i64 0)), (some (23, false)), 0⟩,
        ⟨(some 27), .pick (.tmp 23) (.const (.bool true)) (.tmp 26), none, 0⟩])
      (.cond (.tmp 27)
        (.seq (.region [⟨(some 28), .call Id.sidingslaw08_live [], none, 0⟩,
          ⟨(some 4), .mov (.tmp 28), none, 0⟩])
        (.ret))
        (.skip)))
      (.seq (.region [⟨(some 30), .mov (.tmp 0), none, 0⟩,
        ⟨(some 31), .call Id.event_Calls [.tmp 30], none, 0⟩,
        ⟨(some 29), .mov (.tmp 31), none, 0⟩,
        ⟨(some 32), .extract (.tmp 29) 0, none, 0⟩,
        ⟨(some 33), .extract (.tmp 29) 1, none, 0⟩,
        ⟨(some 5), .mov (.tmp 32), none, 0⟩,
        ⟨(some 6), .mov (.tmp 33), none, 0⟩])
      (.seq (.region [⟨(some 35), .mov (.tmp 0), none, 0⟩,
        ⟨(some 36), .mov (.tmp 1), none, 0⟩,
        ⟨(some 37), .slice 8 (.tmp 35) none (some (.tmp 36)) none, none, 0⟩,
        ⟨(some 38), .call Id.event_Calls [.tmp 37], none, 0⟩,
        ⟨(some 34), .mov (.tmp 38), none, 0⟩,
        ⟨(some 39), .extract (.tmp 34) 0, none, 0⟩,
        ⟨(some 40), .extract (.tmp 34) 1, none, 0⟩,
        ⟨(some 7), .mov (.tmp 39), none, 0⟩,
        ⟨(some 8), .mov (.tmp 40), none, 0⟩])
      (.seq (.seq (.region [⟨(some 41), .mov (.tmp 6), none, 0⟩,
        ⟨(some 42), .bin .neq (.tmp 41) (.const (.int .i64 0)), none, 0⟩,
        ⟨(some 43), .mov (.tmp 42), none, 0⟩,
        ⟨(some 44), .mov (.tmp 8), (some (43, false)), 0⟩,
        ⟨(some 45), .bin .neq (.tmp 44) (.const (.int .i64 0)), (some (43, false)), 0⟩,
        ⟨(some 46), .pick (.tmp 43) (.const (.bool true)) (.tmp 45), none, 0⟩,
        ⟨(some 47), .mov (.tmp 46), none, 0⟩,
        ⟨(some 48), .mov (.tmp 7), (some (47, false)), 0⟩,
        ⟨(some 49), .len false (.tmp 48), (some (47, false)), 0⟩,
        ⟨(some 50), .mov (.tmp 5), (some (47, false)), 0⟩,
        ⟨(some 51), .len false (.tmp 50), (some (47, false)), 0⟩,
        ⟨(some 52), .bin .gtr (.tmp 49) (.tmp 51), (some (47, false)), 0⟩,
        ⟨(some 53), .pick (.tmp 47) (.const (.bool true)) (.tmp 52), none, 0⟩])
      (.cond (.tmp 53)
        (.seq (.region [⟨(some 4), .mov (.const (.bool false)), none, 0⟩])
        (.ret))
        (.skip)))
      (.seq (.seq (.region [⟨(some 9), .mov (.const (.int .i64 0)), none, 0⟩])
      (.block 0 (.loop [1, 5, 7, 9]
        (.seq (.seq (.region [⟨(some 54), .mov (.tmp 9), none, 0⟩,
          ⟨(some 55), .mov (.tmp 5), none, 0⟩,
          ⟨(some 56), .len false (.tmp 55), none, 0⟩,
          ⟨(some 57), .bin .lss (.tmp 54) (.tmp 56), none, 0⟩])
        (.cond (.tmp 57)
          (.skip)
          (.exit 0)))
        (.seq (.block 1 (.seq (.seq (.region [⟨(some 60), .mov (.tmp 5), none, 0⟩,
          ⟨(some 61), .mov (.tmp 9), none, 0⟩,
          ⟨(some 62), .iaddr none 10 (.tmp 60) (.tmp 61), none, 0⟩,
          ⟨(some 63), .faddr 8 (.tmp 62), none, 0⟩,
          ⟨(some 64), .load none (.tmp 63), none, 0⟩,
          ⟨(some 65), .mov (.tmp 1), none, 0⟩,
          ⟨(some 66), .bin .lss (.tmp 64) (.tmp 65), none, 0⟩,
          ⟨(some 67), .mov (.tmp 9), none, 0⟩,
          ⟨(some 68), .mov (.tmp 7), none, 0⟩,
          ⟨(some 69), .len false (.tmp 68), none, 0⟩,
          ⟨(some 70), .bin .lss (.tmp 67) (.tmp 69), none, 0⟩,
          ⟨(some 71), .eqv true .bool (.tmp 66) (.tmp 70), none, 0⟩])
        (.cond (.tmp 71)
          (.seq (.region [⟨(some 4), .mov (.const (.bool false)), none, 0⟩])
          (.ret))
          (.skip)))
        (.seq (.seq (.region [⟨(some 72), .mov (.tmp 9), none, 0⟩,
          ⟨(some 73), .mov (.tmp 7), none, 0⟩,
          ⟨(some 74), .len false (.tmp 73), none, 0⟩,
          ⟨(some 75), .bin .geq (.tmp 72) (.tmp 74), none, 0⟩])
        (.cond (.tmp 75)
          (.exit 1)
          (.skip)))
        (.seq (.region [⟨(some 76), .mov (.tmp 7), none, 0⟩,
          ⟨(some 77), .mov (.tmp 9), none, 0⟩,
          ⟨(some 78), .iaddr none 10 (.tmp 76) (.tmp 77), none, 0⟩,
          ⟨(some 79), .faddr 1 (.tmp 78), none, 0⟩,
          ⟨(some 80), .load (some 4) (.tmp 79), none, 0⟩,
          ⟨(some 81), .mov (.tmp 5), none, 0⟩,
          ⟨(some 82), .mov (.tmp 9), none, 0⟩,
          ⟨(some 83), .iaddr none 10 (.tmp 81) (.tmp 82), none, 0⟩,
          ⟨(some 84), .faddr 1 (.tmp 83), none, 0⟩,
          ⟨(some 85), .load (some 4) (.tmp 84), none, 0⟩,
          ⟨(some 86), .eqv true (.cells [(0, 0), (1, 0), (2, 0), (3, 0)]) (.tmp 80) (.tmp 85), none, 0⟩,
          ⟨(some 87), .mov (.tmp 86), none, 0⟩,
          ⟨(some 88), .mov (.tmp 7), (some (87, false)), 0⟩,
          ⟨(some 89), .mov (.tmp 9), (some (87, false)), 0⟩,
          ⟨(some 90), .iaddr none 10 (.tmp 88) (.tmp 89), (some (87, false)), 0⟩,
          ⟨(some 91), .faddr 8 (.tmp 90), (some (87, false)), 0⟩,
          ⟨(some 92), .load none (.tmp 91), (some (87, false)), 0⟩,
          ⟨(some 93), .mov (.tmp 5), (some (87, false)), 0⟩,
          ⟨(some 94), .mov (.tmp 9), (some (87, false)), 0⟩,
          ⟨(some 95), .iaddr none 10 (.tmp 93) (.tmp 94), (some (87, false)), 0⟩,
          ⟨(some 96), .faddr 8 (.tmp 95), (some (87, false)), 0⟩,
          ⟨(some 97), .load none (.tmp 96), (some (87, false)), 0⟩,
          ⟨(some 98), .bin .neq (.tmp 92) (.tmp 97), (some (87, false)), 0⟩,
          ⟨(some 99), .pick (.tmp 87) (.const (.bool true)) (.tmp 98), none, 0⟩,
          ⟨(some 100), .mov (.tmp 99), none, 0⟩,
          ⟨(some 101), .mov (.tmp 7), (some (100, false)), 0⟩,
          ⟨(some 102), .mov (.tmp 9), (some (100, false)), 0⟩,
          ⟨(some 103), .iaddr none 10 (.tmp 101) (.tmp 102), (some (100, false)), 0⟩,
          ⟨(some 104), .faddr 7 (.tmp 103), (some (100, false)), 0⟩,
          ⟨(some 105), .load none (.tmp 104), (some (100, false)), 0⟩,
          ⟨(some 106), .mov (.tmp 5), (some (100, false)), 0⟩,
          ⟨(some 107), .mov (.tmp 9), (some (100, false)), 0⟩,
          ⟨(some 108), .iaddr none 10 (.tmp 106) (.tmp 107), (some (100, false)), 0⟩,
          ⟨(some 109), .faddr 7 (.tmp 108), (some (100, false)), 0⟩,
          ⟨(some 110), .load none (.tmp 109), (some (100, false)), 0⟩,
          ⟨(some 111), .mov (.tmp 110), (some (100, false)), 0⟩,
          ⟨(some 112), .mov (.tmp 5), (some (111, true)), 0⟩,
          ⟨(some 113), .mov (.tmp 9), (some (111, true)), 0⟩,
          ⟨(some 114), .iaddr none 10 (.tmp 112) (.tmp 113), (some (111, true)), 0⟩,
          ⟨(some 115), .faddr 9 (.tmp 114), (some (111, true)), 0⟩,
          ⟨(some 116), .load none (.tmp 115), (some (111, true)), 0⟩,
          ⟨(some 117), .mov (.tmp 1), (some (111, true)), 0⟩,
          ⟨(some 118), .bin .lss (.tmp 116) (.tmp 117), (some (111, true)), 0⟩,
          ⟨(some 119), .pick (.tmp 111) (.tmp 118) (.const (.bool false)), (some (100, false)), 0⟩,
          ⟨(some 120), .eqv true .bool (.tmp 105) (.tmp 119), (some (100, false)), 0⟩,
          ⟨(some 121), .pick (.tmp 100) (.const (.bool true)) (.tmp 120), none, 0⟩])
        (.cond (.tmp 121)
          (.seq (.region [⟨(some 4), .mov (.const (.bool false)), none, 0⟩])
          (.ret))
          (.skip))))))
        (.region [⟨(some 58), .mov (.tmp 9), none, 0⟩,
          ⟨(some 59), .bin .add (.tmp 58) (.const (.int .i64 1)), none, 0⟩,
          ⟨(some 9), .mov (.tmp 59), none, 0⟩]))))))
      (.seq (.region [⟨(some 122), .call Id.sidingslaw08_live [], none, 0⟩,
        ⟨(some 4), .mov (.tmp 122), none, 0⟩])
      (.ret))))))) }

def F.sidingslaw08_EventApart : IFunc :=
  { lb := [], scr := false, nargs := 2, res := [.tmp 4],
    body := .seq (.region [⟨(some 4), .mov (.const (.bool false)), none, 0⟩])
      (.seq (.seq (.region [⟨(some 12), .mov (.tmp 0), none, 0⟩,
        ⟨(some 13), .len false (.tmp 12), none, 0⟩,
        ⟨(some 14), .bin .gtr (.tmp 13) (.const (.int .i64 20)), none, 0⟩,
        ⟨(some 15), .mov (.tmp 14), none, 0⟩,
        ⟨(some 16), .mov (.tmp 1), (some (15, false)), 0⟩,
        ⟨(some 17), .len false (.tmp 16), (some (15, false)), 0⟩,
        ⟨(some 18), .bin .gtr (.tmp 17) (.const (.int .i64 20)), (some (15, false)), 0⟩,
        ⟨(some 19), .pick (.tmp 15) (.const (.bool true)) (.tmp 18), none, 0⟩,
        ⟨(some 20), .mov (.tmp 19), none, 0⟩,
        ⟨(some 21), .mov (.tmp 0), (some (20, false)), 0⟩,
        ⟨(some 22), .call Id.event_Check [.tmp 21], (some (20, false)), 0⟩,
        ⟨(some 23), .bin .neq (.tmp 22) (.const (.int .i64 0)), (some (20, false)), 0⟩,
        ⟨(some 24), .pick (.tmp 20) (.const (.bool true)) (.tmp 23), none, 0⟩,
        ⟨(some 25), .mov (.tmp 24), none, 0⟩,
        ⟨(some 26), .mov (.tmp 1), (some (25, false)), 0⟩,
        ⟨(some 27), .call Id.event_Check [.tmp 26], (some (25, false)), 0⟩,
        ⟨(some 28), .bin .neq (.tmp 27) (.const (.int .i64 0)), (some (25, false)), 0⟩,
        ⟨(some 29), .pick (.tmp 25) (.const (.bool true)) (.tmp 28), none, 0⟩])
      (.cond (.tmp 29)
        (.seq (.region [⟨(some 30), .call Id.sidingslaw08_live [], none, 0⟩,
          ⟨(some 4), .mov (.tmp 30), none, 0⟩])
        (.ret))
        (.skip)))
      (.seq (.seq (.region [⟨(some 5), .mov (.const (.int .i64 0)), none, 0⟩])
      (.block 0 (.loop [0, 1, 5]
        (.seq (.seq (.region [⟨(some 31), .mov (.tmp 5), none, 0⟩,
          ⟨(some 32), .mov (.tmp 0), none, 0⟩,
          ⟨(some 33), .len false (.tmp 32), none, 0⟩,
          ⟨(some 34), .bin .lss (.tmp 31) (.tmp 33), none, 0⟩])
        (.cond (.tmp 34)
          (.skip)
          (.exit 0)))
        (.seq (.block 1 (.seq (.region [⟨(some 37), .mov (.tmp 0), none, 0⟩,
          ⟨(some 38), .mov (.tmp 5), none, 0⟩,
          ⟨(some 39), .iaddr none 8 (.tmp 37) (.tmp 38), none, 0⟩,
          ⟨(some 40), .faddr 0 (.tmp 39), none, 0⟩,
          ⟨(some 41), .load none (.tmp 40), none, 0⟩,
          ⟨(some 42), .bin .gtr (.tmp 41) (.const (.int .i64 1)), none, 0⟩])
        (.cond (.tmp 42)
          (.seq (.region [⟨(some 43), .call Id.sidingslaw08_live [], none, 0⟩,
            ⟨(some 4), .mov (.tmp 43), none, 0⟩])
          (.ret))
          (.skip))))
        (.region [⟨(some 35), .mov (.tmp 5), none, 0⟩,
          ⟨(some 36), .bin .add (.tmp 35) (.const (.int .i64 1)), none, 0⟩,
          ⟨(some 5), .mov (.tmp 36), none, 0⟩]))))))
      (.seq (.region [⟨(some 6), .mov (.const (.slice none 0 0)), none, 0⟩])
      (.seq (.region [⟨(some 44), .mov (.tmp 6), none, 0⟩,
        ⟨(some 45), .mov (.tmp 0), none, 0⟩,
        ⟨(some 46), .append 8 64 (.tmp 44) (.tmp 45), none, 0⟩,
        ⟨(some 6), .mov (.tmp 46), none, 0⟩])
      (.seq (.seq (.region [⟨(some 7), .mov (.const (.int .i64 0)), none, 0⟩])
      (.block 2 (.loop [1, 6, 7]
        (.seq (.seq (.region [⟨(some 47), .mov (.tmp 7), none, 0⟩,
          ⟨(some 48), .mov (.tmp 1), none, 0⟩,
          ⟨(some 49), .len false (.tmp 48), none, 0⟩,
          ⟨(some 50), .bin .lss (.tmp 47) (.tmp 49), none, 0⟩])
        (.cond (.tmp 50)
          (.skip)
          (.exit 2)))
        (.seq (.block 3 (.seq (.seq (.region [⟨(some 53), .mov (.tmp 1), none, 0⟩,
          ⟨(some 54), .mov (.tmp 7), none, 0⟩,
          ⟨(some 55), .iaddr none 8 (.tmp 53) (.tmp 54), none, 0⟩,
          ⟨(some 56), .faddr 0 (.tmp 55), none, 0⟩,
          ⟨(some 57), .load none (.tmp 56), none, 0⟩,
          ⟨(some 58), .bin .lss (.tmp 57) (.const (.int .i64 2)), none, 0⟩])
        (.cond (.tmp 58)
          (.seq (.region [⟨(some 59), .call Id.sidingslaw08_live [], none, 0⟩,
            ⟨(some 4), .mov (.tmp 59), none, 0⟩])
          (.ret))
          (.skip)))
        (.region [⟨(some 60), .mov (.tmp 6), none, 0⟩,
          ⟨(some 61), .mov (.tmp 1), none, 0⟩,
          ⟨(some 62), .mov (.tmp 7), none, 0⟩,
          ⟨(some 63), .iaddr none 8 (.tmp 61) (.tmp 62), none, 0⟩,
          ⟨(some 64), .load (some 8) (.tmp 63), none, 0⟩,
          ⟨(some 65), .buildSlice 8 1 [.int .i64 0, .bool false, .int .i64 0, .int .i64 0, .int .i64 0, .int .i64 0, .int .i64 0, .int .i64 0] [(0, 8, .tmp 64)], none, 0⟩,
          ⟨(some 66), .append 8 64 (.tmp 60) (.tmp 65), none, 0⟩,
          ⟨(some 6), .mov (.tmp 66), none, 0⟩])))
        (.region [⟨(some 51), .mov (.tmp 7), none, 0⟩,
          ⟨(some 52), .bin .add (.tmp 51) (.const (.int .i64 1)), none, 0⟩,
          ⟨(some 7), .mov (.tmp 52), none, 0⟩]))))))
      (.seq (.region [⟨(some 68), .mov (.tmp 6), none, 0⟩,
        ⟨(some 69), .call Id.event_Calls [.tmp 68], none, 0⟩,
        ⟨(some 67), .mov (.tmp 69), none, 0⟩,
        ⟨(some 70), .extract (.tmp 67) 0, none, 0⟩,
        ⟨(some 71), .extract (.tmp 67) 1, none, 0⟩,
        ⟨(some 8), .mov (.tmp 70), none, 0⟩,
        ⟨(some 9), .mov (.tmp 71), none, 0⟩])
      (.seq (.seq (.region [⟨(some 10), .mov (.const (.int .i64 0)), none, 0⟩])
      (.block 4 (.loop [8, 9, 10]
        (.seq (.seq (.region [⟨(some 72), .mov (.tmp 10), none, 0⟩,
          ⟨(some 73), .mov (.tmp 8), none, 0⟩,
          ⟨(some 74), .len false (.tmp 73), none, 0⟩,
          ⟨(some 75), .bin .lss (.tmp 72) (.tmp 74), none, 0⟩])
        (.cond (.tmp 75)
          (.skip)
          (.exit 4)))
        (.seq (.block 5 (.seq (.region [⟨(some 11), .mov (.const (.int .i64 0)), none, 0⟩])
        (.block 6 (.loop [8, 9, 10, 11]
          (.seq (.seq (.region [⟨(some 78), .mov (.tmp 11), none, 0⟩,
            ⟨(some 79), .mov (.tmp 8), none, 0⟩,
            ⟨(some 80), .len false (.tmp 79), none, 0⟩,
            ⟨(some 81), .bin .lss (.tmp 78) (.tmp 80), none, 0⟩])
          (.cond (.tmp 81)
            (.skip)
            (.exit 6)))
          (.seq (.block 7 (.seq (.region [⟨(some 84), .mov (.tmp 8), none, 0⟩,
            ⟨(some 85), .mov (.tmp 10), none, 0⟩,
            ⟨(some 86), .iaddr none 10 (.tmp 84) (.tmp 85), none, 0⟩,
            ⟨(some 87), .faddr 0 (.tmp 86), none, 0⟩,
            ⟨(some 88), .load none (.tmp 87), none, 0⟩,
            ⟨(some 89), .bin .lss (.tmp 88) (.const (.int .i64 2)), none, 0⟩,
            ⟨(some 90), .mov (.tmp 89), none, 0⟩,
            ⟨(some 91), .mov (.tmp 8), (some (90, true)), 0⟩,
            ⟨(some 92), .mov (.tmp 11), (some (90, true)), 0⟩,
            ⟨(some 93), .iaddr none 10 (.tmp 91) (.tmp 92), (some (90, true)), 0⟩,
            ⟨(some 94), .faddr 0 (.tmp 93), (some (90, true)), 0⟩,
            ⟨(some 95), .load none (.tmp 94), (some (90, true)), 0⟩,
            ⟨(some 96), .bin .geq (.tmp 95) (.const (.int .i64 2)), (some (90, true)), 0⟩,
            ⟨(some 97), .pick (.tmp 90) (.tmp 96) (.const (.bool false)), none, 0⟩,
            ⟨(some 98), .mov (.tmp 97), none, 0⟩,
            ⟨(some 99), .mov (.tmp 8), (some (98, true)), 0⟩,
            ⟨(some 100), .mov (.tmp 10), (some (98, true)), 0⟩,
            ⟨(some 101), .iaddr none 10 (.tmp 99) (.tmp 100), (some (98, true)), 0⟩,
            ⟨(some 102), .load (some 10) (.tmp 101), (some (98, true)), 0⟩,
            ⟨(some 103), .mov (.tmp 8), (some (98, true)), 0⟩,
            ⟨(some 104), .mov (.tmp 11), (some (98, true)), 0⟩,
            ⟨(some 105), .iaddr none 10 (.tmp 103) (.tmp 104), (some (98, true)), 0⟩,
            ⟨(some 106), .load (some 10) (.tmp 105), (some (98, true)), 0⟩,
            ⟨(some 107), .call Id.event_Before [.tmp 102, .tmp 106], (some (98, true)), 0⟩,
            ⟨(some 108), .mov (.tmp 8), (some (98, true)), 0⟩,
            ⟨(some 109), .mov (.tmp 10), (some (98, true)), 0⟩,
            ⟨(some 110), .iaddr none 10 (.tmp 108) (.tmp 109), (some (98, true)), 0⟩,
            ⟨(some 111), .faddr 7 (.tmp 110), (some (98, true)), 0⟩,
            ⟨(some 112), .load none (.tmp 111), (some (98, true)), 1⟩,
            ⟨(some 113), .eqv true .bool (.tmp 107) (.tmp 112), (some (98, true)), 0⟩,
            ⟨(some 114), .pick (.tmp 98) (.tmp 113) (.const (.bool false)), none, 0⟩])
          (.cond (.tmp 114)
            (.seq (.region [⟨(some 4), .mov (.const (.bool false)), none, 0⟩])
            (.ret))
            (.skip))))
          (.region [⟨(some 82), .mov (.tmp 11), none, 0⟩,
            ⟨(some 83), .bin .add (.tmp 82) (.const (.int .i64 1)), none, 0⟩,
            ⟨(some 11), .mov (.tmp 83), none, 0⟩])))))))
        (.region [⟨(some 76), .mov (.tmp 10), none, 0⟩,
          ⟨(some 77), .bin .add (.tmp 76) (.const (.int .i64 1)), none, 0⟩,
          ⟨(some 10), .mov (.tmp 77), none, 0⟩]))))))
      (.seq (.region [⟨(some 115), .mov (.tmp 9), none, 0⟩,
        ⟨(some 116), .bin .eql (.tmp 115) (.const (.int .i64 0)), none, 0⟩,
        ⟨(some 117), .mov (.tmp 116), none, 0⟩,
        ⟨(some 118), .call Id.sidingslaw08_live [], (some (117, true)), 0⟩,
        ⟨(some 119), .pick (.tmp 117) (.tmp 118) (.const (.bool false)), none, 0⟩,
        ⟨(some 4), .mov (.tmp 119), none, 0⟩])
      (.ret))))))))) }

def F.sidingslaw08_EventHandles : IFunc :=
  { lb := [], scr := false, nargs := 2, res := [.tmp 4],
    body := .seq (.region [⟨(some 4), .mov (.const (.bool false)), none, 0⟩])
      (.seq (.seq (.region [⟨(some 12), .mov (.tmp 0), none, 0⟩,
        ⟨(some 13), .len false (.tmp 12), none, 0⟩,
        ⟨(some 14), .bin .gtr (.tmp 13) (.const (.int .i64 30)), none, 0⟩,
        ⟨(some 15), .mov (.tmp 14), none, 0⟩,
        ⟨(some 16), .mov (.tmp 1), (some (15, false)), 0⟩,
        ⟨(some 17), .len false (.tmp 16), (some (15, false)), 0⟩,
        ⟨(some 18), .bin .gtr (.tmp 17) (.const (.int .i64 30)), (some (15, false)), 0⟩,
        ⟨(some 19), .pick (.tmp 15) (.const (.bool true)) (.tmp 18), none, 0⟩])
      (.cond (.tmp 19)
        (.seq (.region [⟨(some 20), .call Id.sidingslaw08_live [], none, 0⟩,
          ⟨(some 4), .mov (.tmp 20), none, 0⟩])
        (.ret))
        (.skip)))
      (.seq (.region [⟨(some 5), .mov (.const (.slice none 0 0)), none, 0⟩])
      (.seq (.region [⟨(some 21), .mov (.tmp 5), none, 0⟩,
        ⟨(some 22), .mov (.tmp 0), none, 0⟩,
        ⟨(some 23), .append 8 64 (.tmp 21) (.tmp 22), none, 0⟩,
        ⟨(some 5), .mov (.tmp 23), none, 0⟩])
      (.seq (.region [⟨(some 24), .mov (.tmp 5), none, 0⟩,
        ⟨(some 25), .mov (.tmp 1), none, 0⟩,
        ⟨(some 26), .append 8 64 (.tmp 24) (.tmp 25), none, 0⟩,
        ⟨(some 5), .mov (.tmp 26), none, 0⟩])
      (.seq (.region [⟨(some 27), .mov (.tmp 5), none, 0⟩,
        ⟨(some 28), .call Id.event_Handles [.tmp 27], none, 0⟩,
        ⟨(some 6), .mov (.tmp 28), none, 0⟩])
      (.seq (.seq (.region [⟨(some 7), .mov (.const (.int .i64 1)), none, 0⟩])
      (.block 0 (.loop [0, 1, 6, 7]
        (.seq (.seq (.region [⟨(some 29), .mov (.tmp 7), none, 0⟩,
          ⟨(some 30), .mov (.tmp 6), none, 0⟩,
          ⟨(some 31), .len false (.tmp 30), none, 0⟩,
          ⟨(some 32), .bin .lss (.tmp 29) (.tmp 31), none, 0⟩])
        (.cond (.tmp 32)
          (.skip)
          (.exit 0)))
        (.seq (.block 1 (.seq (.region [⟨(some 35), .mov (.tmp 6), none, 0⟩,
          ⟨(some 36), .mov (.tmp 7), none, 0⟩,
          ⟨(some 37), .bin .sub (.tmp 36) (.const (.int .i64 1)), none, 0⟩,
          ⟨(some 38), .iaddr none 1 (.tmp 35) (.tmp 37), none, 0⟩,
          ⟨(some 39), .load none (.tmp 38), none, 0⟩,
          ⟨(some 40), .mov (.tmp 6), none, 0⟩,
          ⟨(some 41), .mov (.tmp 7), none, 0⟩,
          ⟨(some 42), .iaddr none 1 (.tmp 40) (.tmp 41), none, 0⟩,
          ⟨(some 43), .load none (.tmp 42), none, 0⟩,
          ⟨(some 44), .bin .geq (.tmp 39) (.tmp 43), none, 0⟩])
        (.cond (.tmp 44)
          (.seq (.region [⟨(some 4), .mov (.const (.bool false)), none, 0⟩])
          (.ret))
          (.skip))))
        (.region [⟨(some 33), .mov (.tmp 7), none, 0⟩,
          ⟨(some 34), .bin .add (.tmp 33) (.const (.int .i64 1)), none, 0⟩,
          ⟨(some 7), .mov (.tmp 34), none, 0⟩]))))))
      (.seq (.region [⟨(some 8), .mov (.const (.slice none 0 0)), none, 0⟩])
      (.seq (.region [⟨(some 45), .mov (.tmp 8), none, 0⟩,
        ⟨(some 46), .mov (.tmp 0), none, 0⟩,
        ⟨(some 47), .call Id.event_Handles [.tmp 46], none, 0⟩,
        ⟨(some 48), .append 1 8 (.tmp 45) (.tmp 47), none, 0⟩,
        ⟨(some 8), .mov (.tmp 48), none, 0⟩])
      (.seq (.region [⟨(some 49), .mov (.tmp 8), none, 0⟩,
        ⟨(some 50), .mov (.tmp 1), none, 0⟩,
        ⟨(some 51), .call Id.event_Handles [.tmp 50], none, 0⟩,
        ⟨(some 52), .append 1 8 (.tmp 49) (.tmp 51), none, 0⟩,
        ⟨(some 8), .mov (.tmp 52), none, 0⟩])
      (.seq (.seq (.region [⟨(some 9), .mov (.const (.int .i64 0)), none, 0⟩])
      (.block 2 (.loop [6, 8, 9]
        (.seq (.seq (.region [⟨(some 53), .mov (.tmp 9), none, 0⟩,
          ⟨(some 54), .mov (.tmp 8), none, 0⟩,
          ⟨(some 55), .len false (.tmp 54), none, 0⟩,
          ⟨(some 56), .bin .lss (.tmp 53) (.tmp 55), none, 0⟩])
        (.cond (.tmp 56)
          (.skip)
          (.exit 2)))
        (.seq (.block 3 (.seq (.region [⟨(some 10), .mov (.const (.bool false)), none, 0⟩])
        (.seq (.seq (.region [⟨(some 11), .mov (.const (.int .i64 0)), none, 0⟩])
        (.block 4 (.loop [6, 8, 9, 10, 11]
          (.seq (.seq (.region [⟨(some 59), .mov (.tmp 11), none, 0⟩,
            ⟨(some 60), .mov (.tmp 6), none, 0⟩,
            ⟨(some 61), .len false (.tmp 60), none, 0⟩,
            ⟨(some 62), .bin .lss (.tmp 59) (.tmp 61), none, 0⟩])
          (.cond (.tmp 62)
            (.skip)
            (.exit 4)))
          (.seq (.block 5 (.region [⟨(some 65), .mov (.tmp 10), none, 0⟩,
            ⟨(some 66), .mov (.tmp 65), none, 0⟩,
            ⟨(some 67), .mov (.tmp 6), (some (66, false)), 0⟩,
            ⟨(some 68), .mov (.tmp 11), (some (66, false)), 0⟩,
            ⟨(some 69), .iaddr none 1 (.tmp 67) (.tmp 68), (some (66, false)), 0⟩,
            ⟨(some 70), .load none (.tmp 69), (some (66, false)), 0⟩,
            ⟨(some 71), .mov (.tmp 8), (some (66, false)), 0⟩,
            ⟨(some 72), .mov (.tmp 9), (some (66, false)), 0⟩,
            ⟨(some 73), .iaddr none 1 (.tmp 71) (.tmp 72), (some (66, false)), 0⟩,
            ⟨(some 74), .load none (.tmp 73), (some (66, false)), 0⟩,
            ⟨(some 75), .bin .eql (.tmp 70) (.tmp 74), (some (66, false)), 0⟩,
            ⟨(some 76), .pick (.tmp 66) (.const (.bool true)) (.tmp 75), none, 0⟩,
            ⟨(some 10), .mov (.tmp 76), none, 0⟩]))
          (.region [⟨(some 63), .mov (.tmp 11), none, 0⟩,
            ⟨(some 64), .bin .add (.tmp 63) (.const (.int .i64 1)), none, 0⟩,
            ⟨(some 11), .mov (.tmp 64), none, 0⟩]))))))
        (.seq (.region [⟨(some 77), .mov (.tmp 10), none, 0⟩,
          ⟨(some 78), .un .not (.tmp 77), none, 0⟩])
        (.cond (.tmp 78)
          (.seq (.region [⟨(some 4), .mov (.const (.bool false)), none, 0⟩])
          (.ret))
          (.skip))))))
        (.region [⟨(some 57), .mov (.tmp 9), none, 0⟩,
          ⟨(some 58), .bin .add (.tmp 57) (.const (.int .i64 1)), none, 0⟩,
          ⟨(some 9), .mov (.tmp 58), none, 0⟩]))))))
      (.seq (.region [⟨(some 79), .mov (.tmp 6), none, 0⟩,
        ⟨(some 80), .len false (.tmp 79), none, 0⟩,
        ⟨(some 81), .mov (.tmp 8), none, 0⟩,
        ⟨(some 82), .len false (.tmp 81), none, 0⟩,
        ⟨(some 83), .bin .leq (.tmp 80) (.tmp 82), none, 0⟩,
        ⟨(some 84), .mov (.tmp 83), none, 0⟩,
        ⟨(some 85), .call Id.sidingslaw08_live [], (some (84, true)), 0⟩,
        ⟨(some 86), .pick (.tmp 84) (.tmp 85) (.const (.bool false)), none, 0⟩,
        ⟨(some 4), .mov (.tmp 86), none, 0⟩])
      (.ret)))))))))))) }

def F.sidingslaw08_live : IFunc :=
  { lb := [], scr := true, nargs := 0, res := [.tmp 0],
    body := .seq (.region [⟨(some 0), .mov (.const (.bool false)), none, 0⟩])
      (.seq (.region [⟨(some 6), .build [.int .i64 0, .int .i64 0, .int .i64 0, .int .i64 0] [(0, 1, .const (.int .i64 2)), (1, 1, .const (.int .i64 7))], none, 0⟩,
        ⟨(some 7), .build [.int .i64 0, .bool false, .int .i64 0, .int .i64 0, .int .i64 0, .int .i64 0, .int .i64 0, .int .i64 0] [(0, 1, .const (.int .i64 1)), (2, 4, .tmp 6)], none, 0⟩,
        ⟨(some 8), .build [.int .i64 0, .int .i64 0, .int .i64 0, .int .i64 0] [(0, 1, .const (.int .i64 1)), (1, 1, .const (.int .i64 5))], none, 0⟩,
        ⟨(some 9), .build [.int .i64 0, .bool false, .int .i64 0, .int .i64 0, .int .i64 0, .int .i64 0, .int .i64 0, .int .i64 0] [(0, 1, .const (.int .i64 0)), (2, 4, .tmp 8)], none, 0⟩,
        ⟨(some 10), .build [.int .i64 0, .int .i64 0] [(1, 1, .const (.int .i64 9))], none, 0⟩,
        ⟨(some 11), .build [.int .i64 0, .bool false, .int .i64 0, .int .i64 0, .int .i64 0, .int .i64 0, .int .i64 0, .int .i64 0] [(0, 1, .const (.int .i64 1)), (1, 1, .const (.bool true)), (6, 2, .tmp 10)], none, 0⟩,
        ⟨(some 12), .build [.int .i64 0, .int .i64 0, .int .i64 0, .int .i64 0] [(0, 1, .const (.int .i64 2)), (1, 1, .const (.int .i64 7))], none, 0⟩,
        ⟨(some 13), .build [.int .i64 0, .bool false, .int .i64 0, .int .i64 0, .int .i64 0, .int .i64 0, .int .i64 0, .int .i64 0] [(0, 1, .const (.int .i64 1)), (2, 4, .tmp 12)], none, 0⟩,
        ⟨(some 14), .buildSlice 8 4 [.int .i64 0, .bool false, .int .i64 0, .int .i64 0, .int .i64 0, .int .i64 0, .int .i64 0, .int .i64 0, .int .i64 0, .bool false, .int .i64 0, .int .i64 0, .int .i64 0, .int .i64 0, .int .i64 0, .int .i64 0, .int .i64 0, .bool false, .int .i64 0, .int .i64 0, .int .i64 0, .int .i64 0, .int .i64 0, .int .i64 0, .int .i64 0, .bool false, .int .i64 0, .int .i64 0, .int .i64 0, .int .i64 0, .int .i64 0, .int .i64 0] [(0, 8, .tmp 7), (8, 8, .tmp 9), (16, 8, .tmp 11), (24, 8, .tmp 13)], none, 0⟩,
        ⟨(some 1), .mov (.tmp 14), none, 0⟩])
      (.seq (.region [⟨(some 16), .mov (.tmp 1), none, 0⟩,
        ⟨(some 17), .call Id.event_Calls [.tmp 16], none, 0⟩,
        ⟨(some 15), .mov (.tmp 17), none, 0⟩,
        ⟨(some 18), .extract (.tmp 15) 0, none, 0⟩,
        ⟨(some 19), .extract (.tmp 15) 1, none, 0⟩,
        ⟨(some 2), .mov (.tmp 18), none, 0⟩,
        ⟨(some 3), .mov (.tmp 19), none, 0⟩])
      (.seq (.region [⟨(some 21), .build [.int .i64 0, .bool false, .int .i64 0, .int .i64 0, .int .i64 0, .int .i64 0, .int .i64 0, .int .i64 0] [(1, 1, .const (.bool true))], none, 0⟩,
        ⟨(some 22), .buildSlice 8 1 [.int .i64 0, .bool false, .int .i64 0, .int .i64 0, .int .i64 0, .int .i64 0, .int .i64 0, .int .i64 0] [(0, 8, .tmp 21)], none, 0⟩,
        ⟨(some 23), .call Id.event_Calls [.tmp 22], none, 0⟩,
        ⟨(some 20), .mov (.tmp 23), none, 0⟩,
        ⟨(some 24), .extract (.tmp 20) 0, none, 0⟩,
        ⟨(some 25), .extract (.tmp 20) 1, none, 0⟩,
        ⟨(some 4), .mov (.tmp 24), none, 0⟩,
        ⟨(some 5), .mov (.tmp 25), none, 0⟩])
      (.seq (.seq (.region [⟨(some 26), .mov (.tmp 2), none, 0⟩,
        ⟨(some 27), .len false (.tmp 26), none, 0⟩,
        ⟨(some 28), .bin .neq (.tmp 27) (.const (.int .i64 3)), none, 0⟩])
      (.cond (.tmp 28)
        (.seq (.region [⟨(some 0), .mov (.const (.bool false)), none, 0⟩])
        (.ret))
        (.skip)))
      (.seq (.region [⟨(some 29), .mov (.tmp 3), none, 0⟩,
        ⟨(some 30), .bin .eql (.tmp 29) (.const (.int .i64 0)), none, 0⟩,
        ⟨(some 31), .mov (.tmp 30), none, 0⟩,
        ⟨(some 32), .mov (.tmp 5), (some (31, true)), 0⟩,
        ⟨(some 33), .bin .eql (.tmp 32) (.const (.int .i64 2)), (some (31, true)), 0⟩,
        ⟨(some 34), .pick (.tmp 31) (.tmp 33) (.const (.bool false)), none, 0⟩,
        ⟨(some 35), .mov (.tmp 34), none, 0⟩,
        ⟨(some 36), .mov (.tmp 2), (some (35, true)), 0⟩,
        ⟨(some 37), .iaddr none 10 (.tmp 36) (.const (.int .i64 0)), (some (35, true)), 0⟩,
        ⟨(some 38), .faddr 7 (.tmp 37), (some (35, true)), 0⟩,
        ⟨(some 39), .load none (.tmp 38), (some (35, true)), 0⟩,
        ⟨(some 40), .pick (.tmp 35) (.tmp 39) (.const (.bool false)), none, 0⟩,
        ⟨(some 41), .mov (.tmp 40), none, 0⟩,
        ⟨(some 42), .mov (.tmp 2), (some (41, true)), 0⟩,
        ⟨(some 43), .iaddr none 10 (.tmp 42) (.const (.int .i64 0)), (some (41, true)), 0⟩,
        ⟨(some 44), .faddr 9 (.tmp 43), (some (41, true)), 0⟩,
        ⟨(some 45), .load none (.tmp 44), (some (41, true)), 0⟩,
        ⟨(some 46), .bin .eql (.tmp 45) (.const (.int .i64 2)), (some (41, true)), 0⟩,
        ⟨(some 47), .pick (.tmp 41) (.tmp 46) (.const (.bool false)), none, 0⟩,
        ⟨(some 48), .mov (.tmp 47), none, 0⟩,
        ⟨(some 49), .mov (.tmp 2), (some (48, true)), 0⟩,
        ⟨(some 50), .iaddr none 10 (.tmp 49) (.const (.int .i64 0)), (some (48, true)), 0⟩,
        ⟨(some 51), .faddr 5 (.tmp 50), (some (48, true)), 0⟩,
        ⟨(some 52), .load (some 2) (.tmp 51), (some (48, true)), 0⟩,
        ⟨(some 53), .build [.int .i64 0, .int .i64 0] [(1, 1, .const (.int .i64 9))], (some (48, true)), 0⟩,
        ⟨(some 54), .eqv false (.cells [(0, 0), (1, 0)]) (.tmp 52) (.tmp 53), (some (48, true)), 0⟩,
        ⟨(some 55), .pick (.tmp 48) (.tmp 54) (.const (.bool false)), none, 0⟩,
        ⟨(some 56), .mov (.tmp 55), none, 0⟩,
        ⟨(some 57), .mov (.tmp 2), (some (56, true)), 0⟩,
        ⟨(some 58), .iaddr none 10 (.tmp 57) (.const (.int .i64 1)), (some (56, true)), 0⟩,
        ⟨(some 59), .faddr 7 (.tmp 58), (some (56, true)), 0⟩,
        ⟨(some 60), .load none (.tmp 59), (some (56, true)), 0⟩,
        ⟨(some 61), .un .not (.tmp 60), (some (56, true)), 0⟩,
        ⟨(some 62), .pick (.tmp 56) (.tmp 61) (.const (.bool false)), none, 0⟩,
        ⟨(some 63), .mov (.tmp 62), none, 0⟩,
        ⟨(some 64), .mov (.tmp 2), (some (63, true)), 0⟩,
        ⟨(some 65), .iaddr none 10 (.tmp 64) (.const (.int .i64 1)), (some (63, true)), 0⟩,
        ⟨(some 66), .faddr 9 (.tmp 65), (some (63, true)), 0⟩,
        ⟨(some 67), .load none (.tmp 66), (some (63, true)), 0⟩,
        ⟨(some 68), .bin .eql (.tmp 67) (.const (.int .i64 4)), (some (63, true)), 0⟩,
        ⟨(some 69), .pick (.tmp 63) (.tmp 68) (.const (.bool false)), none, 0⟩,
        ⟨(some 70), .mov (.tmp 69), none, 0⟩,
        ⟨(some 71), .mov (.tmp 2), (some (70, true)), 0⟩,
        ⟨(some 72), .iaddr none 10 (.tmp 71) (.const (.int .i64 2)), (some (70, true)), 0⟩,
        ⟨(some 73), .faddr 8 (.tmp 72), (some (70, true)), 0⟩,
        ⟨(some 74), .load none (.tmp 73), (some (70, true)), 0⟩,
        ⟨(some 75), .bin .eql (.tmp 74) (.const (.int .i64 3)), (some (70, true)), 0⟩,
        ⟨(some 76), .pick (.tmp 70) (.tmp 75) (.const (.bool false)), none, 0⟩,
        ⟨(some 77), .mov (.tmp 76), none, 0⟩,
        ⟨(some 78), .mov (.tmp 2), (some (77, true)), 0⟩,
        ⟨(some 79), .iaddr none 10 (.tmp 78) (.const (.int .i64 0)), (some (77, true)), 0⟩,
        ⟨(some 80), .load (some 10) (.tmp 79), (some (77, true)), 0⟩,
        ⟨(some 81), .mov (.tmp 2), (some (77, true)), 0⟩,
        ⟨(some 82), .iaddr none 10 (.tmp 81) (.const (.int .i64 2)), (some (77, true)), 0⟩,
        ⟨(some 83), .load (some 10) (.tmp 82), (some (77, true)), 0⟩,
        ⟨(some 84), .call Id.event_Before [.tmp 80, .tmp 83], (some (77, true)), 0⟩,
        ⟨(some 85), .pick (.tmp 77) (.tmp 84) (.const (.bool false)), none, 0⟩,
        ⟨(some 86), .mov (.tmp 85), none, 0⟩,
        ⟨(some 87), .mov (.tmp 2), (some (86, true)), 0⟩,
        ⟨(some 88), .iaddr none 10 (.tmp 87) (.const (.int .i64 0)), (some (86, true)), 0⟩,
        ⟨(some 89), .load (some 10) (.tmp 88), (some (86, true)), 0⟩,
        ⟨(some 90), .mov (.tmp 2), (some (86, true)), 0⟩,
        ⟨(some 91), .iaddr none 10 (.tmp 90) (.const (.int .i64 1)), (some (86, true)), 0⟩,
        ⟨(some 92), .load (some 10) (.tmp 91), (some (86, true)), 0⟩,
        ⟨(some 93), .call Id.event_Before [.tmp 89, .tmp 92], (some (86, true)), 0⟩,
        ⟨(some 94), .un .not (.tmp 93), (some (86, true)), 0⟩,
        ⟨(some 95), .pick (.tmp 86) (.tmp 94) (.const (.bool false)), none, 0⟩,
        ⟨(some 96), .mov (.tmp 95), none, 0⟩,
        ⟨(some 97), .mov (.tmp 2), (some (96, true)), 0⟩,
        ⟨(some 98), .iaddr none 10 (.tmp 97) (.const (.int .i64 1)), (some (96, true)), 0⟩,
        ⟨(some 99), .load (some 10) (.tmp 98), (some (96, true)), 0⟩,
        ⟨(some 100), .mov (.tmp 2), (some (96, true)), 0⟩,
        ⟨(some 101), .iaddr none 10 (.tmp 100) (.const (.int .i64 2)), (some (96, true)), 0⟩,
        ⟨(some 102), .load (some 10) (.tmp 101), (some (96, true)), 0⟩,
        ⟨(some 103), .call Id.event_Before [.tmp 99, .tmp 102], (some (96, true)), 0⟩,
        ⟨(some 104), .un .not (.tmp 103), (some (96, true)), 0⟩,
        ⟨(some 105), .pick (.tmp 96) (.tmp 104) (.const (.bool false)), none, 0⟩,
        ⟨(some 106), .mov (.tmp 105), none, 0⟩,
        ⟨(some 107), .mov (.tmp 1), (some (106, true)), 0⟩,
        ⟨(some 108), .call Id.event_Handles [.tmp 107], (some (106, true)), 0⟩,
        ⟨(some 109), .buildSlice 1 3 [.int .i64 0, .int .i64 0, .int .i64 0] [(0, 1, .const (.int .i64 5)), (1, 1, .const (.int .i64 7)), (2, 1, .const (.int .i64 9))], (some (106, true)), 0⟩,
        ⟨(some 110), .call Id.sidingsref01_Same [.tmp 108, .tmp 109], (some (106, true)), 0⟩,
        ⟨(some 111), .pick (.tmp 106) (.tmp 110) (.const (.bool false)), none, 0⟩,
        ⟨(some 112), .mov (.tmp 111), none, 0⟩,
        ⟨(some 113), .mov (.tmp 1), (some (112, true)), 0⟩,
        ⟨(some 114), .call Id.event_Check [.tmp 113], (some (112, true)), 0⟩,
        ⟨(some 115), .bin .eql (.tmp 114) (.const (.int .i64 0)), (some (112, true)), 0⟩,
        ⟨(some 116), .pick (.tmp 112) (.tmp 115) (.const (.bool false)), none, 0⟩,
        ⟨(some 0), .mov (.tmp 116), none, 0⟩])
      (.ret)))))) }

def F.event_Calls : IFunc :=
  { lb := [7], scr := true, nargs := 1, res := [.tmp 2, .tmp 3],
    body := .seq (.region [⟨(some 2), .mov (.const (.slice none 0 0)), none, 0⟩,
        ⟨(some 3), .mov (.const (.int .i64 0)), none, 0⟩])
      (.seq (.region [⟨(some 4), .mov (.const (.slice none 0 0)), none, 0⟩])
      (.seq (.region [⟨(some 5), .box (.const (.agg #[.int .i64 0, .int .i64 0, .int .i64 0, .int .i64 0])), none, 0⟩])
      (.seq (.seq (.region [⟨(some 10), .mov (.tmp 0), none, 0⟩,
        ⟨(some 11), .len false (.tmp 10), none, 0⟩,
        ⟨(some 12), .mov (.const (.int .i64 0)), none, 0⟩])
      (.block 0 (.loop [0, 4, 5, 10, 11, 12]
        (.seq (.region [⟨(some 13), .bin .lss (.tmp 12) (.tmp 11), none, 0⟩])
        (.seq (.cond (.tmp 13)
          (.skip)
          (.exit 0))
        (.seq (.block 1 (.seq (.region [⟨(some 14), .mov (.tmp 12), none, 0⟩,
          ⟨(some 15), .iaddr none 8 (.tmp 10) (.tmp 12), none, 0⟩,
          ⟨(some 16), .load (some 8) (.tmp 15), none, 0⟩,
          ⟨(some 7), .lbox (.const (.agg #[.int .i64 0, .bool false, .int .i64 0, .int .i64 0, .int .i64 0, .int .i64 0, .int .i64 0, .int .i64 0])), none, 0⟩,
          ⟨(some 6), .mov (.tmp 14), none, 0⟩,
          ⟨(some 7), .lstore none 7 0 8 (.tmp 16), none, 0⟩])
        (.seq (.seq (.region [⟨(some 17), .laddr none 7 0, none, 0⟩,
          ⟨(some 18), .lload (some 17) 7 0 none, none, 0⟩,
          ⟨(some 19), .bin .lss (.tmp 18) (.const (.int .i64 0)), none, 0⟩,
          ⟨(some 20), .mov (.tmp 19), none, 0⟩,
          ⟨(some 21), .laddr none 7 0, (some (20, false)), 0⟩,
          ⟨(some 22), .lload (some 21) 7 0 none, (some (20, false)), 0⟩,
          ⟨(some 23), .bin .geq (.tmp 22) (.const (.int .i64 4)), (some (20, false)), 0⟩,
          ⟨(some 24), .pick (.tmp 20) (.const (.bool true)) (.tmp 23), none, 0⟩])
        (.cond (.tmp 24)
          (.seq (.region [⟨(some 2), .mov (.const (.slice none 0 0)), none, 0⟩,
            ⟨(some 3), .mov (.const (.int .i64 2)), none, 0⟩])
          (.ret))
          (.skip)))
        (.seq (.region [⟨(some 25), .laddr none 7 0, none, 0⟩,
          ⟨(some 26), .lload (some 25) 7 0 none, none, 0⟩,
          ⟨(some 27), .iaddr (some 4) 1 (.tmp 5) (.tmp 26), none, 0⟩,
          ⟨(some 28), .load none (.tmp 27), none, 0⟩,
          ⟨(some 29), .bin .sub (.tmp 28) (.const (.int .i64 1)), none, 0⟩,
          ⟨(some 8), .mov (.tmp 29), none, 0⟩])
        (.block 2 (.seq (.region [⟨(some 47), .laddr none 7 1, none, 0⟩,
          ⟨(some 48), .lload (some 47) 7 1 none, none, 0⟩,
          ⟨(some 49), .mov (.tmp 8), none, 0⟩,
          ⟨(some 50), .bin .gtr (.tmp 49) (.const (.int .i64 (-1))), none, 0⟩,
          ⟨(some 51), .eqv true .bool (.tmp 48) (.tmp 50), none, 0⟩,
          ⟨(some 46), .mov (.tmp 51), none, 0⟩])
        (.cond (.tmp 46)
          (.seq (.region [⟨(some 2), .mov (.const (.slice none 0 0)), none, 0⟩,
            ⟨(some 3), .mov (.const (.int .i64 2)), none, 0⟩])
          (.ret))
          (.seq (.region [⟨(some 53), .laddr none 7 1, none, 0⟩,
            ⟨(some 54), .lload (some 53) 7 1 none, none, 0⟩,
            ⟨(some 55), .mov (.tmp 54), none, 0⟩,
            ⟨(some 56), .laddr none 7 2, (some (55, true)), 0⟩,
            ⟨(some 57), .lload (some 56) 7 2 (some 4), (some (55, true)), 0⟩,
            ⟨(some 58), .build [.int .i64 0, .int .i64 0, .int .i64 0, .int .i64 0] [], (some (55, true)), 0⟩,
            ⟨(some 59), .eqv true (.cells [(0, 0), (1, 0), (2, 0), (3, 0)]) (.tmp 57) (.tmp 58), (some (55, true)), 0⟩,
            ⟨(some 60), .pick (.tmp 55) (.tmp 59) (.const (.bool false)), none, 0⟩,
            ⟨(some 61), .mov (.tmp 60), none, 0⟩,
            ⟨(some 62), .laddr none 7 1, (some (61, false)), 0⟩,
            ⟨(some 63), .lload (some 62) 7 1 none, (some (61, false)), 0⟩,
            ⟨(some 64), .un .not (.tmp 63), (some (61, false)), 0⟩,
            ⟨(some 65), .mov (.tmp 64), (some (61, false)), 0⟩,
            ⟨(some 66), .laddr none 7 6, (some (65, true)), 0⟩,
            ⟨(some 67), .lload (some 66) 7 6 (some 2), (some (65, true)), 0⟩,
            ⟨(some 68), .build [.int .i64 0, .int .i64 0] [], (some (65, true)), 0⟩,
            ⟨(some 69), .eqv true (.cells [(0, 0), (1, 0)]) (.tmp 67) (.tmp 68), (some (65, true)), 0⟩,
            ⟨(some 70), .pick (.tmp 65) (.tmp 69) (.const (.bool false)), (some (61, false)), 0⟩,
            ⟨(some 71), .pick (.tmp 61) (.const (.bool true)) (.tmp 70), none, 0⟩,
            ⟨(some 52), .mov (.tmp 71), none, 0⟩])
          (.cond (.tmp 52)
            (.seq (.region [⟨(some 2), .mov (.const (.slice none 0 0)), none, 0⟩,
              ⟨(some 3), .mov (.const (.int .i64 2)), none, 0⟩])
            (.ret))
            (.seq (.region [⟨(some 73), .laddr none 7 1, none, 0⟩,
              ⟨(some 74), .lload (some 73) 7 1 none, none, 0⟩,
              ⟨(some 72), .mov (.tmp 74), none, 0⟩])
            (.cond (.tmp 72)
              (.seq (.region [⟨(some 75), .mov (.tmp 4), none, 0⟩,
                ⟨(some 76), .mov (.tmp 8), none, 0⟩,
                ⟨(some 77), .iaddr none 10 (.tmp 75) (.tmp 76), none, 0⟩,
                ⟨(some 9), .mov (.tmp 77), none, 0⟩])
              (.seq (.region [⟨(some 78), .mov (.tmp 9), none, 0⟩,
                ⟨(some 79), .mov (.tmp 9), none, 0⟩,
                ⟨(some 80), .mov (.tmp 9), none, 0⟩,
                ⟨(some 81), .laddr none 7 6, none, 0⟩,
                ⟨(some 82), .lload (some 81) 7 6 (some 2), none, 0⟩,
                ⟨(some 83), .mov (.tmp 6), none, 0⟩,
                ⟨(some 84), .nilchk (.tmp 78), none, 0⟩,
                ⟨(some 85), .faddr 5 (.tmp 84), none, 0⟩,
                ⟨none, .store 2 (.tmp 85) (.tmp 82), none, 0⟩,
                ⟨(some 86), .nilchk (.tmp 79), none, 0⟩,
                ⟨(some 87), .faddr 7 (.tmp 86), none, 0⟩,
                ⟨none, .store 1 (.tmp 87) (.const (.bool true)), none, 0⟩,
                ⟨(some 88), .nilchk (.tmp 80), none, 0⟩,
                ⟨(some 89), .faddr 9 (.tmp 88), none, 0⟩,
                ⟨none, .store 1 (.tmp 89) (.tmp 83), none, 0⟩])
              (.region [⟨(some 90), .laddr none 7 0, none, 0⟩,
                ⟨(some 91), .lload (some 90) 7 0 none, none, 0⟩,
                ⟨(some 92), .iaddr (some 4) 1 (.tmp 5) (.tmp 91), none, 0⟩,
                ⟨none, .store 1 (.tmp 92) (.const (.int .i64 0)), none, 0⟩])))
              (.seq (.region [⟨(some 30), .mov (.tmp 4), none, 0⟩,
                ⟨(some 31), .laddr none 7 0, none, 0⟩,
                ⟨(some 32), .lload (some 31) 7 0 none, none, 0⟩,
                ⟨(some 33), .laddr none 7 2, none, 0⟩,
                ⟨(some 34), .lload (some 33) 7 2 (some 4), none, 0⟩,
                ⟨(some 35), .mov (.tmp 6), none, 0⟩,
                ⟨(some 36), .mov (.tmp 0), none, 0⟩,
                ⟨(some 37), .len false (.tmp 36), none, 0⟩,
                ⟨(some 38), .build [.int .i64 0, .int .i64 0, .int .i64 0, .int .i64 0, .int .i64 0, .int .i64 0, .int .i64 0, .bool false, .int .i64 0, .int .i64 0] [(0, 1, .tmp 32), (1, 4, .tmp 34), (8, 1, .tmp 35), (9, 1, .tmp 37)], none, 0⟩,
                ⟨(some 39), .buildSlice 10 1 [.int .i64 0, .int .i64 0, .int .i64 0, .int .i64 0, .int .i64 0, .int .i64 0, .int .i64 0, .bool false, .int .i64 0, .int .i64 0] [(0, 10, .tmp 38)], none, 0⟩,
                ⟨(some 40), .append 10 80 (.tmp 30) (.tmp 39), none, 0⟩,
                ⟨(some 4), .mov (.tmp 40), none, 0⟩])
              (.region [⟨(some 41), .laddr none 7 0, none, 0⟩,
                ⟨(some 42), .lload (some 41) 7 0 none, none, 0⟩,
                ⟨(some 43), .mov (.tmp 4), none, 0⟩,
                ⟨(some 44), .len false (.tmp 43), none, 0⟩,
                ⟨(some 45), .iaddr (some 4) 1 (.tmp 5) (.tmp 42), none, 0⟩,
                ⟨none, .store 1 (.tmp 45) (.tmp 44), none, 0⟩])))))))))))))
        (.region [⟨(some 93), .bin .add (.tmp 12) (.const (.int .i64 1)), none, 0⟩,
          ⟨(some 12), .mov (.tmp 93), none, 0⟩])))))))
      (.seq (.region [⟨(some 94), .mov (.tmp 4), none, 0⟩,
        ⟨(some 2), .mov (.tmp 94), none, 0⟩,
        ⟨(some 3), .mov (.const (.int .i64 0)), none, 0⟩])
      (.ret))))) }

def F.sidingsref08_Calls : IFunc :=
  { lb := [6], scr := true, nargs := 1, res := [.tmp 2, .tmp 3],
    body := .seq (.region [⟨(some 2), .mov (.const (.slice none 0 0)), none, 0⟩,
        ⟨(some 3), .mov (.const (.int .i64 0)), none, 0⟩])
      (.seq (.seq (.region [⟨(some 7), .mov (.tmp 0), none, 0⟩,
        ⟨(some 8), .call Id.sidingsref08_Check [.tmp 7], none, 0⟩,
        ⟨(some 9), .bin .neq (.tmp 8) (.const (.int .i64 0)), none, 0⟩])
      (.cond (.tmp 9)
        (.seq (.region [⟨(some 2), .mov (.const (.slice none 0 0)), none, 0⟩,
          ⟨(some 3), .mov (.const (.int .i64 2)), none, 0⟩])
        (.ret))
        (.skip)))
      (.seq (.region [⟨(some 4), .mov (.const (.slice none 0 0)), none, 0⟩])
      (.seq (.seq (.region [⟨(some 5), .mov (.const (.int .i64 0)), none, 0⟩])
      (.block 0 (.loop [0, 4, 5]
        (.seq (.seq (.region [⟨(some 10), .mov (.tmp 5), none, 0⟩,
          ⟨(some 11), .mov (.tmp 0), none, 0⟩,
          ⟨(some 12), .len false (.tmp 11), none, 0⟩,
          ⟨(some 13), .bin .lss (.tmp 10) (.tmp 12), none, 0⟩])
        (.cond (.tmp 13)
          (.skip)
          (.exit 0)))
        (.seq (.block 1 (.seq (.seq (.region [⟨(some 16), .mov (.tmp 0), none, 0⟩,
          ⟨(some 17), .mov (.tmp 5), none, 0⟩,
          ⟨(some 18), .iaddr none 8 (.tmp 16) (.tmp 17), none, 0⟩,
          ⟨(some 19), .faddr 1 (.tmp 18), none, 0⟩,
          ⟨(some 20), .load none (.tmp 19), none, 0⟩])
        (.cond (.tmp 20)
          (.exit 1)
          (.skip)))
        (.seq (.region [⟨(some 32), .mov (.tmp 0), none, 0⟩,
          ⟨(some 33), .mov (.tmp 5), none, 0⟩,
          ⟨(some 34), .call Id.sidingsref08_answer [.tmp 32, .tmp 33], none, 0⟩,
          ⟨(some 21), .mov (.tmp 0), none, 0⟩,
          ⟨(some 22), .mov (.tmp 5), none, 0⟩,
          ⟨(some 23), .iaddr none 8 (.tmp 21) (.tmp 22), none, 0⟩,
          ⟨(some 24), .faddr 0 (.tmp 23), none, 0⟩,
          ⟨(some 25), .load none (.tmp 24), none, 1⟩,
          ⟨(some 26), .mov (.tmp 0), none, 0⟩,
          ⟨(some 27), .mov (.tmp 5), none, 0⟩,
          ⟨(some 28), .iaddr none 8 (.tmp 26) (.tmp 27), none, 0⟩,
          ⟨(some 29), .faddr 2 (.tmp 28), none, 0⟩,
          ⟨(some 30), .load (some 4) (.tmp 29), none, 1⟩,
          ⟨(some 31), .mov (.tmp 5), none, 0⟩,
          ⟨(some 35), .build [.int .i64 0, .int .i64 0, .int .i64 0, .int .i64 0, .int .i64 0, .int .i64 0, .int .i64 0, .bool false, .int .i64 0, .int .i64 0] [(0, 1, .tmp 25), (1, 4, .tmp 30), (8, 1, .tmp 31), (9, 1, .tmp 34)], none, 0⟩,
          ⟨(some 6), .lbox (.const (.agg #[.int .i64 0, .int .i64 0, .int .i64 0, .int .i64 0, .int .i64 0, .int .i64 0, .int .i64 0, .bool false, .int .i64 0, .int .i64 0])), none, 0⟩,
          ⟨(some 6), .lstore none 6 0 10 (.tmp 35), none, 0⟩])
        (.seq (.seq (.region [⟨(some 36), .laddr none 6 9, none, 0⟩,
          ⟨(some 37), .lload (some 36) 6 9 none, none, 0⟩,
          ⟨(some 38), .mov (.tmp 0), none, 0⟩,
          ⟨(some 39), .len false (.tmp 38), none, 0⟩,
          ⟨(some 40), .bin .lss (.tmp 37) (.tmp 39), none, 0⟩])
        (.cond (.tmp 40)
          (.seq (.region [⟨(some 41), .laddr none 6 7, none, 0⟩,
            ⟨(some 6), .lstore (some 41) 6 7 1 (.const (.bool true)), none, 0⟩])
          (.region [⟨(some 42), .mov (.tmp 0), none, 0⟩,
            ⟨(some 43), .laddr none 6 9, none, 0⟩,
            ⟨(some 44), .lload (some 43) 6 9 none, none, 0⟩,
            ⟨(some 45), .iaddr none 8 (.tmp 42) (.tmp 44), none, 0⟩,
            ⟨(some 46), .faddr 6 (.tmp 45), none, 0⟩,
            ⟨(some 47), .load (some 2) (.tmp 46), none, 0⟩,
            ⟨(some 48), .laddr none 6 5, none, 0⟩,
            ⟨(some 6), .lstore (some 48) 6 5 2 (.tmp 47), none, 0⟩]))
          (.skip)))
        (.region [⟨(some 49), .mov (.tmp 4), none, 0⟩,
          ⟨(some 50), .lload none 6 0 (some 10), none, 0⟩,
          ⟨(some 51), .buildSlice 10 1 [.int .i64 0, .int .i64 0, .int .i64 0, .int .i64 0, .int .i64 0, .int .i64 0, .int .i64 0, .bool false, .int .i64 0, .int .i64 0] [(0, 10, .tmp 50)], none, 0⟩,
          ⟨(some 52), .append 10 80 (.tmp 49) (.tmp 51), none, 0⟩,
          ⟨(some 4), .mov (.tmp 52), none, 0⟩])))))
        (.region [⟨(some 14), .mov (.tmp 5), none, 0⟩,
          ⟨(some 15), .bin .add (.tmp 14) (.const (.int .i64 1)), none, 0⟩,
          ⟨(some 5), .mov (.tmp 15), none, 0⟩]))))))
      (.seq (.region [⟨(some 53), .mov (.tmp 4), none, 0⟩,
        ⟨(some 2), .mov (.tmp 53), none, 0⟩,
        ⟨(some 3), .mov (.const (.int .i64 0)), none, 0⟩])
      (.ret))))) }

def F.sidingsref08_Same : IFunc :=
  { lb := [], scr := true, nargs := 2, res := [.tmp 4],
    body := .seq (.region [⟨(some 4), .mov (.const (.bool false)), none, 0⟩])
      (.seq (.seq (.region [⟨(some 6), .mov (.tmp 0), none, 0⟩,
        ⟨(some 7), .len false (.tmp 6), none, 0⟩,
        ⟨(some 8), .mov (.tmp 1), none, 0⟩,
        ⟨(some 9), .len false (.tmp 8), none, 0⟩,
        ⟨(some 10), .bin .neq (.tmp 7) (.tmp 9), none, 0⟩])
      (.cond (.tmp 10)
        (.seq (.region [⟨(some 4), .mov (.const (.bool false)), none, 0⟩])
        (.ret))
        (.skip)))
      (.seq (.seq (.region [⟨(some 5), .mov (.const (.int .i64 0)), none, 0⟩])
      (.block 0 (.loop [0, 1, 5]
        (.seq (.seq (.region [⟨(some 11), .mov (.tmp 5), none, 0⟩,
          ⟨(some 12), .mov (.tmp 0), none, 0⟩,
          ⟨(some 13), .len false (.tmp 12), none, 0⟩,
          ⟨(some 14), .bin .lss (.tmp 11) (.tmp 13), none, 0⟩])
        (.cond (.tmp 14)
          (.skip)
          (.exit 0)))
        (.seq (.block 1 (.seq (.region [⟨(some 17), .mov (.tmp 0), none, 0⟩,
          ⟨(some 18), .mov (.tmp 5), none, 0⟩,
          ⟨(some 19), .iaddr none 10 (.tmp 17) (.tmp 18), none, 0⟩,
          ⟨(some 20), .load (some 10) (.tmp 19), none, 0⟩,
          ⟨(some 21), .mov (.tmp 1), none, 0⟩,
          ⟨(some 22), .mov (.tmp 5), none, 0⟩,
          ⟨(some 23), .iaddr none 10 (.tmp 21) (.tmp 22), none, 0⟩,
          ⟨(some 24), .load (some 10) (.tmp 23), none, 0⟩,
          ⟨(some 25), .eqv true (.cells [(0, 0), (1, 0), (2, 0), (3, 0), (4, 0), (5, 0), (6, 0), (7, 1), (8, 0), (9, 0)]) (.tmp 20) (.tmp 24), none, 0⟩])
        (.cond (.tmp 25)
          (.seq (.region [⟨(some 4), .mov (.const (.bool false)), none, 0⟩])
          (.ret))
          (.skip))))
        (.region [⟨(some 15), .mov (.tmp 5), none, 0⟩,
          ⟨(some 16), .bin .add (.tmp 15) (.const (.int .i64 1)), none, 0⟩,
          ⟨(some 5), .mov (.tmp 16), none, 0⟩]))))))
      (.seq (.region [⟨(some 4), .mov (.const (.bool true)), none, 0⟩])
      (.ret)))) }

def F.sidingslaw08_all : IFunc :=
  { lb := [], scr := true, nargs := 1, res := [.tmp 2],
    body := .seq (.region [⟨(some 2), .mov (.const (.slice none 0 0)), none, 0⟩])
      (.seq (.region [⟨(some 3), .mov (.const (.slice none 0 0)), none, 0⟩])
      (.seq (.seq (.region [⟨(some 4), .mov (.const (.int .i64 0)), none, 0⟩])
      (.block 0 (.loop [0, 3, 4]
        (.seq (.seq (.region [⟨(some 5), .mov (.tmp 4), none, 0⟩,
          ⟨(some 6), .mov (.tmp 0), none, 0⟩,
          ⟨(some 7), .len false (.tmp 6), none, 0⟩,
          ⟨(some 8), .bin .lss (.tmp 5) (.tmp 7), none, 0⟩])
        (.cond (.tmp 8)
          (.skip)
          (.exit 0)))
        (.seq (.block 1 (.region [⟨(some 11), .mov (.tmp 3), none, 0⟩,
          ⟨(some 12), .mov (.tmp 0), none, 0⟩,
          ⟨(some 13), .mov (.tmp 4), none, 0⟩,
          ⟨(some 14), .iaddr none 10 (.tmp 12) (.tmp 13), none, 0⟩,
          ⟨(some 15), .load (some 10) (.tmp 14), none, 0⟩,
          ⟨(some 16), .call Id.sidingslaw08_told [.tmp 15], none, 0⟩,
          ⟨(some 17), .buildSlice 10 1 [.int .i64 0, .int .i64 0, .int .i64 0, .int .i64 0, .int .i64 0, .int .i64 0, .int .i64 0, .bool false, .int .i64 0, .int .i64 0] [(0, 10, .tmp 16)], none, 0⟩,
          ⟨(some 18), .append 10 80 (.tmp 11) (.tmp 17), none, 0⟩,
          ⟨(some 3), .mov (.tmp 18), none, 0⟩]))
        (.region [⟨(some 9), .mov (.tmp 4), none, 0⟩,
          ⟨(some 10), .bin .add (.tmp 9) (.const (.int .i64 1)), none, 0⟩,
          ⟨(some 4), .mov (.tmp 10), none, 0⟩]))))))
      (.seq (.region [⟨(some 19), .mov (.tmp 3), none, 0⟩,
        ⟨(some 2), .mov (.tmp 19), none, 0⟩])
      (.ret)))) }

def F.event_Check : IFunc :=
  { lb := [], scr := true, nargs := 1, res := [.tmp 2],
    body := .seq (.region [⟨(some 2), .mov (.const (.int .i64 0)), none, 0⟩])
      (.seq (.region [⟨(some 6), .mov (.tmp 0), none, 0⟩,
        ⟨(some 7), .call Id.event_Calls [.tmp 6], none, 0⟩,
        ⟨(some 5), .mov (.tmp 7), none, 0⟩,
        ⟨(some 8), .extract (.tmp 5) 0, none, 0⟩,
        ⟨(some 9), .extract (.tmp 5) 1, none, 0⟩,
        ⟨(some 3), .mov (.tmp 8), none, 0⟩,
        ⟨(some 4), .mov (.tmp 9), none, 0⟩])
      (.seq (.region [⟨(some 10), .mov (.tmp 4), none, 0⟩,
        ⟨(some 2), .mov (.tmp 10), none, 0⟩])
      (.ret))) }

def F.sidingsref08_Check : IFunc :=
  { lb := [], scr := true, nargs := 1, res := [.tmp 2],
    body := .seq (.region [⟨(some 2), .mov (.const (.int .i64 0)), none, 0⟩])
      (.seq (.seq (.region [⟨(some 3), .mov (.const (.int .i64 0)), none, 0⟩])
      (.block 0 (.loop [0, 3]
        (.seq (.seq (.region [⟨(some 4), .mov (.tmp 3), none, 0⟩,
          ⟨(some 5), .mov (.tmp 0), none, 0⟩,
          ⟨(some 6), .len false (.tmp 5), none, 0⟩,
          ⟨(some 7), .bin .lss (.tmp 4) (.tmp 6), none, 0⟩])
        (.cond (.tmp 7)
          (.skip)
          (.exit 0)))
        (.seq (.block 1 (.seq (.seq (.region [⟨(some 10), .mov (.tmp 0), none, 0⟩,
          ⟨(some 11), .mov (.tmp 3), none, 0⟩,
          ⟨(some 12), .iaddr none 8 (.tmp 10) (.tmp 11), none, 0⟩,
          ⟨(some 13), .faddr 0 (.tmp 12), none, 0⟩,
          ⟨(some 14), .load none (.tmp 13), none, 0⟩,
          ⟨(some 15), .bin .lss (.tmp 14) (.const (.int .i64 0)), none, 0⟩,
          ⟨(some 16), .mov (.tmp 15), none, 0⟩,
          ⟨(some 17), .mov (.tmp 0), (some (16, false)), 0⟩,
          ⟨(some 18), .mov (.tmp 3), (some (16, false)), 0⟩,
          ⟨(some 19), .iaddr none 8 (.tmp 17) (.tmp 18), (some (16, false)), 0⟩,
          ⟨(some 20), .faddr 0 (.tmp 19), (some (16, false)), 0⟩,
          ⟨(some 21), .load none (.tmp 20), (some (16, false)), 0⟩,
          ⟨(some 22), .bin .gtr (.tmp 21) (.const (.int .i64 3)), (some (16, false)), 0⟩,
          ⟨(some 23), .pick (.tmp 16) (.const (.bool true)) (.tmp 22), none, 0⟩,
          ⟨(some 24), .mov (.tmp 23), none, 0⟩,
          ⟨(some 30), .mov (.tmp 0), (some (24, false)), 0⟩,
          ⟨(some 31), .mov (.tmp 3), (some (24, false)), 0⟩,
          ⟨(some 32), .call Id.sidingsref08_turn [.tmp 30, .tmp 31], (some (24, false)), 0⟩,
          ⟨(some 25), .mov (.tmp 0), (some (24, false)), 0⟩,
          ⟨(some 26), .mov (.tmp 3), (some (24, false)), 0⟩,
          ⟨(some 27), .iaddr none 8 (.tmp 25) (.tmp 26), (some (24, false)), 0⟩,
          ⟨(some 28), .faddr 1 (.tmp 27), (some (24, false)), 0⟩,
          ⟨(some 29), .load none (.tmp 28), (some (24, false)), 1⟩,
          ⟨(some 33), .bin .rem (.tmp 32) (.const (.int .i64 2)), (some (24, false)), 0⟩,
          ⟨(some 34), .bin .eql (.tmp 33) (.const (.int .i64 1)), (some (24, false)), 0⟩,
          ⟨(some 35), .eqv true .bool (.tmp 29) (.tmp 34), (some (24, false)), 0⟩,
          ⟨(some 36), .pick (.tmp 24) (.const (.bool true)) (.tmp 35), none, 0⟩])
        (.cond (.tmp 36)
          (.seq (.region [⟨(some 2), .mov (.const (.int .i64 2)), none, 0⟩])
          (.ret))
          (.skip)))
        (.seq (.seq (.region [⟨(some 37), .mov (.tmp 0), none, 0⟩,
          ⟨(some 38), .mov (.tmp 3), none, 0⟩,
          ⟨(some 39), .iaddr none 8 (.tmp 37) (.tmp 38), none, 0⟩,
          ⟨(some 40), .faddr 1 (.tmp 39), none, 0⟩,
          ⟨(some 41), .load none (.tmp 40), none, 0⟩,
          ⟨(some 42), .mov (.tmp 41), none, 0⟩,
          ⟨(some 43), .mov (.tmp 0), (some (42, true)), 0⟩,
          ⟨(some 44), .mov (.tmp 3), (some (42, true)), 0⟩,
          ⟨(some 45), .iaddr none 8 (.tmp 43) (.tmp 44), (some (42, true)), 0⟩,
          ⟨(some 46), .faddr 2 (.tmp 45), (some (42, true)), 0⟩,
          ⟨(some 47), .load (some 4) (.tmp 46), (some (42, true)), 0⟩,
          ⟨(some 48), .build [.int .i64 0, .int .i64 0, .int .i64 0, .int .i64 0] [], (some (42, true)), 0⟩,
          ⟨(some 49), .eqv true (.cells [(0, 0), (1, 0), (2, 0), (3, 0)]) (.tmp 47) (.tmp 48), (some (42, true)), 0⟩,
          ⟨(some 50), .pick (.tmp 42) (.tmp 49) (.const (.bool false)), none, 0⟩])
        (.cond (.tmp 50)
          (.seq (.region [⟨(some 2), .mov (.const (.int .i64 2)), none, 0⟩])
          (.ret))
          (.skip)))
        (.seq (.region [⟨(some 51), .mov (.tmp 0), none, 0⟩,
          ⟨(some 52), .mov (.tmp 3), none, 0⟩,
          ⟨(some 53), .iaddr none 8 (.tmp 51) (.tmp 52), none, 0⟩,
          ⟨(some 54), .faddr 1 (.tmp 53), none, 0⟩,
          ⟨(some 55), .load none (.tmp 54), none, 0⟩,
          ⟨(some 56), .un .not (.tmp 55), none, 0⟩,
          ⟨(some 57), .mov (.tmp 56), none, 0⟩,
          ⟨(some 58), .mov (.tmp 0), (some (57, true)), 0⟩,
          ⟨(some 59), .mov (.tmp 3), (some (57, true)), 0⟩,
          ⟨(some 60), .iaddr none 8 (.tmp 58) (.tmp 59), (some (57, true)), 0⟩,
          ⟨(some 61), .faddr 6 (.tmp 60), (some (57, true)), 0⟩,
          ⟨(some 62), .load (some 2) (.tmp 61), (some (57, true)), 0⟩,
          ⟨(some 63), .build [.int .i64 0, .int .i64 0] [], (some (57, true)), 0⟩,
          ⟨(some 64), .eqv true (.cells [(0, 0), (1, 0)]) (.tmp 62) (.tmp 63), (some (57, true)), 0⟩,
          ⟨(some 65), .pick (.tmp 57) (.tmp 64) (.const (.bool false)), none, 0⟩])
        (.cond (.tmp 65)
          (.seq (.region [⟨(some 2), .mov (.const (.int .i64 2)), none, 0⟩])
          (.ret))
          (.skip))))))
        (.region [⟨(some 8), .mov (.tmp 3), none, 0⟩,
          ⟨(some 9), .bin .add (.tmp 8) (.const (.int .i64 1)), none, 0⟩,
          ⟨(some 3), .mov (.tmp 9), none, 0⟩]))))))
      (.seq (.region [⟨(some 2), .mov (.const (.int .i64 0)), none, 0⟩])
      (.ret))) }

def F.sidingsref01_Same : IFunc :=
  { lb := [], scr := true, nargs := 2, res := [.tmp 4],
    body := .seq (.region [⟨(some 4), .mov (.const (.bool false)), none, 0⟩])
      (.seq (.seq (.region [⟨(some 6), .mov (.tmp 0), none, 0⟩,
        ⟨(some 7), .len false (.tmp 6), none, 0⟩,
        ⟨(some 8), .mov (.tmp 1), none, 0⟩,
        ⟨(some 9), .len false (.tmp 8), none, 0⟩,
        ⟨(some 10), .bin .neq (.tmp 7) (.tmp 9), none, 0⟩])
      (.cond (.tmp 10)
        (.seq (.region [⟨(some 4), .mov (.const (.bool false)), none, 0⟩])
        (.ret))
        (.skip)))
      (.seq (.seq (.region [⟨(some 5), .mov (.const (.int .i64 0)), none, 0⟩])
      (.block 0 (.loop [0, 1, 5]
        (.seq (.seq (.region [⟨(some 11), .mov (.tmp 5), none, 0⟩,
          ⟨(some 12), .mov (.tmp 0), none, 0⟩,
          ⟨(some 13), .len false (.tmp 12), none, 0⟩,
          ⟨(some 14), .bin .lss (.tmp 11) (.tmp 13), none, 0⟩])
        (.cond (.tmp 14)
          (.skip)
          (.exit 0)))
        (.seq (.block 1 (.seq (.region [⟨(some 17), .mov (.tmp 0), none, 0⟩,
          ⟨(some 18), .mov (.tmp 5), none, 0⟩,
          ⟨(some 19), .iaddr none 1 (.tmp 17) (.tmp 18), none, 0⟩,
          ⟨(some 20), .load none (.tmp 19), none, 0⟩,
          ⟨(some 21), .mov (.tmp 1), none, 0⟩,
          ⟨(some 22), .mov (.tmp 5), none, 0⟩,
          ⟨(some 23), .iaddr none 1 (.tmp 21) (.tmp 22), none, 0⟩,
          ⟨(some 24), .load none (.tmp 23), none, 0⟩,
          ⟨(some 25), .bin .neq (.tmp 20) (.tmp 24), none, 0⟩])
        (.cond (.tmp 25)
          (.seq (.region [⟨(some 4), .mov (.const (.bool false)), none, 0⟩])
          (.ret))
          (.skip))))
        (.region [⟨(some 15), .mov (.tmp 5), none, 0⟩,
          ⟨(some 16), .bin .add (.tmp 15) (.const (.int .i64 1)), none, 0⟩,
          ⟨(some 5), .mov (.tmp 16), none, 0⟩]))))))
      (.seq (.region [⟨(some 4), .mov (.const (.bool true)), none, 0⟩])
      (.ret)))) }

def F.event_Handles : IFunc :=
  { lb := [5], scr := true, nargs := 1, res := [.tmp 2],
    body := .seq (.region [⟨(some 2), .mov (.const (.slice none 0 0)), none, 0⟩])
      (.seq (.region [⟨(some 3), .mov (.const (.slice none 0 0)), none, 0⟩])
      (.seq (.seq (.region [⟨(some 6), .mov (.tmp 0), none, 0⟩,
        ⟨(some 7), .len false (.tmp 6), none, 0⟩,
        ⟨(some 8), .mov (.const (.int .i64 0)), none, 0⟩])
      (.block 0 (.loop [3, 6, 7, 8]
        (.seq (.region [⟨(some 9), .bin .lss (.tmp 8) (.tmp 7), none, 0⟩])
        (.seq (.cond (.tmp 9)
          (.skip)
          (.exit 0))
        (.seq (.block 1 (.seq (.region [⟨(some 10), .iaddr none 8 (.tmp 6) (.tmp 8), none, 0⟩,
          ⟨(some 11), .load (some 8) (.tmp 10), none, 0⟩,
          ⟨(some 5), .lbox (.const (.agg #[.int .i64 0, .bool false, .int .i64 0, .int .i64 0, .int .i64 0, .int .i64 0, .int .i64 0, .int .i64 0])), none, 0⟩,
          ⟨(some 5), .lstore none 5 0 8 (.tmp 11), none, 0⟩])
        (.seq (.region [⟨(some 12), .laddr none 5 1, none, 0⟩,
          ⟨(some 13), .lload (some 12) 5 1 none, none, 0⟩])
        (.cond (.tmp 13)
          (.region [⟨(some 14), .mov (.tmp 3), none, 0⟩,
            ⟨(some 15), .laddr none 5 6, none, 0⟩,
            ⟨(some 16), .laddr (some 15) 5 7, none, 0⟩,
            ⟨(some 17), .lload (some 16) 5 7 none, none, 0⟩,
            ⟨(some 18), .buildSlice 1 1 [.int .i64 0] [(0, 1, .tmp 17)], none, 0⟩,
            ⟨(some 19), .append 1 8 (.tmp 14) (.tmp 18), none, 0⟩,
            ⟨(some 3), .mov (.tmp 19), none, 0⟩])
          (.region [⟨(some 20), .mov (.tmp 3), none, 0⟩,
            ⟨(some 21), .laddr none 5 2, none, 0⟩,
            ⟨(some 22), .laddr (some 21) 5 3, none, 0⟩,
            ⟨(some 23), .lload (some 22) 5 3 none, none, 0⟩,
            ⟨(some 24), .buildSlice 1 1 [.int .i64 0] [(0, 1, .tmp 23)], none, 0⟩,
            ⟨(some 25), .append 1 8 (.tmp 20) (.tmp 24), none, 0⟩,
            ⟨(some 3), .mov (.tmp 25), none, 0⟩])))))
        (.region [⟨(some 26), .bin .add (.tmp 8) (.const (.int .i64 1)), none, 0⟩,
          ⟨(some 8), .mov (.tmp 26), none, 0⟩])))))))
      (.seq (.region [⟨(some 27), .mov (.tmp 3), none, 0⟩,
        ⟨(some 28), .call Id.slices_Sort_Lint [.tmp 27], none, 0⟩])
      (.seq (.region [⟨(some 29), .mov (.tmp 3), none, 0⟩,
        ⟨(some 30), .call Id.slices_Compact_Lint [.tmp 29], none, 0⟩,
        ⟨(some 2), .mov (.tmp 30), none, 0⟩])
      (.ret))))) }

def F.sidingsref08_Handles : IFunc :=
  { lb := [], scr := true, nargs := 1, res := [.tmp 2],
    body := .seq (.region [⟨(some 2), .mov (.const (.slice none 0 0)), none, 0⟩])
      (.seq (.region [⟨(some 3), .mov (.const (.slice none 0 0)), none, 0⟩])
      (.seq (.seq (.region [⟨(some 4), .mov (.const (.int .i64 0)), none, 0⟩])
      (.block 0 (.loop [0, 3, 4]
        (.seq (.seq (.region [⟨(some 9), .mov (.tmp 4), none, 0⟩,
          ⟨(some 10), .mov (.tmp 0), none, 0⟩,
          ⟨(some 11), .len false (.tmp 10), none, 0⟩,
          ⟨(some 12), .bin .lss (.tmp 9) (.tmp 11), none, 0⟩])
        (.cond (.tmp 12)
          (.skip)
          (.exit 0)))
        (.seq (.block 1 (.seq (.region [⟨(some 15), .mov (.tmp 0), none, 0⟩,
          ⟨(some 16), .mov (.tmp 4), none, 0⟩,
          ⟨(some 17), .iaddr none 8 (.tmp 15) (.tmp 16), none, 0⟩,
          ⟨(some 18), .faddr 2 (.tmp 17), none, 0⟩,
          ⟨(some 19), .faddr 1 (.tmp 18), none, 0⟩,
          ⟨(some 20), .load none (.tmp 19), none, 0⟩,
          ⟨(some 5), .mov (.tmp 20), none, 0⟩])
        (.seq (.seq (.region [⟨(some 21), .mov (.tmp 0), none, 0⟩,
          ⟨(some 22), .mov (.tmp 4), none, 0⟩,
          ⟨(some 23), .iaddr none 8 (.tmp 21) (.tmp 22), none, 0⟩,
          ⟨(some 24), .faddr 1 (.tmp 23), none, 0⟩,
          ⟨(some 25), .load none (.tmp 24), none, 0⟩])
        (.cond (.tmp 25)
          (.region [⟨(some 26), .mov (.tmp 0), none, 0⟩,
            ⟨(some 27), .mov (.tmp 4), none, 0⟩,
            ⟨(some 28), .iaddr none 8 (.tmp 26) (.tmp 27), none, 0⟩,
            ⟨(some 29), .faddr 6 (.tmp 28), none, 0⟩,
            ⟨(some 30), .faddr 1 (.tmp 29), none, 0⟩,
            ⟨(some 31), .load none (.tmp 30), none, 0⟩,
            ⟨(some 5), .mov (.tmp 31), none, 0⟩])
          (.skip)))
        (.seq (.region [⟨(some 6), .mov (.const (.slice none 0 0)), none, 0⟩])
        (.seq (.region [⟨(some 7), .mov (.const (.bool false)), none, 0⟩])
        (.seq (.seq (.region [⟨(some 8), .mov (.const (.int .i64 0)), none, 0⟩])
        (.block 2 (.loop [0, 3, 4, 5, 6, 7, 8]
          (.seq (.seq (.region [⟨(some 32), .mov (.tmp 8), none, 0⟩,
            ⟨(some 33), .mov (.tmp 3), none, 0⟩,
            ⟨(some 34), .len false (.tmp 33), none, 0⟩,
            ⟨(some 35), .bin .lss (.tmp 32) (.tmp 34), none, 0⟩])
          (.cond (.tmp 35)
            (.skip)
            (.exit 2)))
          (.seq (.block 3 (.seq (.seq (.region [⟨(some 38), .mov (.tmp 7), none, 0⟩,
            ⟨(some 39), .un .not (.tmp 38), none, 0⟩,
            ⟨(some 40), .mov (.tmp 39), none, 0⟩,
            ⟨(some 41), .mov (.tmp 3), (some (40, true)), 0⟩,
            ⟨(some 42), .mov (.tmp 8), (some (40, true)), 0⟩,
            ⟨(some 43), .iaddr none 1 (.tmp 41) (.tmp 42), (some (40, true)), 0⟩,
            ⟨(some 44), .load none (.tmp 43), (some (40, true)), 0⟩,
            ⟨(some 45), .mov (.tmp 5), (some (40, true)), 0⟩,
            ⟨(some 46), .bin .geq (.tmp 44) (.tmp 45), (some (40, true)), 0⟩,
            ⟨(some 47), .pick (.tmp 40) (.tmp 46) (.const (.bool false)), none, 0⟩])
          (.cond (.tmp 47)
            (.seq (.region [⟨(some 48), .mov (.tmp 6), none, 0⟩,
              ⟨(some 49), .mov (.tmp 5), none, 0⟩,
              ⟨(some 50), .buildSlice 1 1 [.int .i64 0] [(0, 1, .tmp 49)], none, 0⟩,
              ⟨(some 51), .append 1 8 (.tmp 48) (.tmp 50), none, 0⟩,
              ⟨(some 6), .mov (.tmp 51), none, 0⟩])
            (.region [⟨(some 7), .mov (.const (.bool true)), none, 0⟩]))
            (.skip)))
          (.seq (.region [⟨(some 52), .mov (.tmp 3), none, 0⟩,
            ⟨(some 53), .mov (.tmp 8), none, 0⟩,
            ⟨(some 54), .iaddr none 1 (.tmp 52) (.tmp 53), none, 0⟩,
            ⟨(some 55), .load none (.tmp 54), none, 0⟩,
            ⟨(some 56), .mov (.tmp 5), none, 0⟩,
            ⟨(some 57), .bin .neq (.tmp 55) (.tmp 56), none, 0⟩])
          (.cond (.tmp 57)
            (.region [⟨(some 58), .mov (.tmp 6), none, 0⟩,
              ⟨(some 59), .mov (.tmp 3), none, 0⟩,
              ⟨(some 60), .mov (.tmp 8), none, 0⟩,
              ⟨(some 61), .iaddr none 1 (.tmp 59) (.tmp 60), none, 0⟩,
              ⟨(some 62), .load none (.tmp 61), none, 0⟩,
              ⟨(some 63), .buildSlice 1 1 [.int .i64 0] [(0, 1, .tmp 62)], none, 0⟩,
              ⟨(some 64), .append 1 8 (.tmp 58) (.tmp 63), none, 0⟩,
              ⟨(some 6), .mov (.tmp 64), none, 0⟩])
            (.skip)))))
          (.region [⟨(some 36), .mov (.tmp 8), none, 0⟩,
            ⟨(some 37), .bin .add (.tmp 36) (.const (.int .i64 1)), none, 0⟩,
            ⟨(some 8), .mov (.tmp 37), none, 0⟩]))))))
        (.seq (.seq (.region [⟨(some 65), .mov (.tmp 7), none, 0⟩,
          ⟨(some 66), .un .not (.tmp 65), none, 0⟩])
        (.cond (.tmp 66)
          (.region [⟨(some 67), .mov (.tmp 6), none, 0⟩,
            ⟨(some 68), .mov (.tmp 5), none, 0⟩,
            ⟨(some 69), .buildSlice 1 1 [.int .i64 0] [(0, 1, .tmp 68)], none, 0⟩,
            ⟨(some 70), .append 1 8 (.tmp 67) (.tmp 69), none, 0⟩,
            ⟨(some 6), .mov (.tmp 70), none, 0⟩])
          (.skip)))
        (.region [⟨(some 71), .mov (.tmp 6), none, 0⟩,
          ⟨(some 3), .mov (.tmp 71), none, 0⟩]))))))))
        (.region [⟨(some 13), .mov (.tmp 4), none, 0⟩,
          ⟨(some 14), .bin .add (.tmp 13) (.const (.int .i64 1)), none, 0⟩,
          ⟨(some 4), .mov (.tmp 14), none, 0⟩]))))))
      (.seq (.region [⟨(some 72), .mov (.tmp 3), none, 0⟩,
        ⟨(some 2), .mov (.tmp 72), none, 0⟩])
      (.ret)))) }

def F.event_Before : IFunc :=
  { lb := [2, 3], scr := true, nargs := 2, res := [.tmp 4],
    body := .seq (.region [⟨(some 2), .lbox (.tmp 0), none, 0⟩,
        ⟨(some 3), .lbox (.tmp 1), none, 0⟩,
        ⟨(some 4), .mov (.const (.bool false)), none, 0⟩])
      (.seq (.region [⟨(some 5), .laddr none 2 7, none, 0⟩,
        ⟨(some 6), .lload (some 5) 2 7 none, none, 0⟩,
        ⟨(some 7), .mov (.tmp 6), none, 0⟩,
        ⟨(some 8), .laddr none 2 9, (some (7, true)), 0⟩,
        ⟨(some 9), .lload (some 8) 2 9 none, (some (7, true)), 0⟩,
        ⟨(some 10), .laddr none 3 8, (some (7, true)), 0⟩,
        ⟨(some 11), .lload (some 10) 3 8 none, (some (7, true)), 0⟩,
        ⟨(some 12), .bin .lss (.tmp 9) (.tmp 11), (some (7, true)), 0⟩,
        ⟨(some 13), .pick (.tmp 7) (.tmp 12) (.const (.bool false)), none, 0⟩,
        ⟨(some 4), .mov (.tmp 13), none, 0⟩])
      (.ret)) }

def F.sidingslaw08_own : IFunc :=
  { lb := [1, 2], scr := true, nargs := 1, res := [.lb 2 (some 10)],
    body := .seq (.region [⟨(some 1), .lbox (.tmp 0), none, 0⟩,
        ⟨(some 2), .lbox (.const (.agg #[.int .i64 0, .int .i64 0, .int .i64 0, .int .i64 0, .int .i64 0, .int .i64 0, .int .i64 0, .bool false, .int .i64 0, .int .i64 0])), none, 0⟩])
      (.seq (.region [⟨(some 3), .laddr none 1 0, none, 0⟩,
        ⟨(some 4), .lload (some 3) 1 0 none, none, 0⟩,
        ⟨(some 5), .laddr none 1 1, none, 0⟩,
        ⟨(some 6), .lload (some 5) 1 1 (some 4), none, 0⟩,
        ⟨(some 7), .laddr none 1 5, none, 0⟩,
        ⟨(some 8), .lload (some 7) 1 5 (some 2), none, 0⟩,
        ⟨(some 9), .laddr none 1 7, none, 0⟩,
        ⟨(some 10), .lload (some 9) 1 7 none, none, 0⟩,
        ⟨(some 11), .laddr none 1 8, none, 0⟩,
        ⟨(some 12), .lload (some 11) 1 8 none, none, 0⟩,
        ⟨(some 13), .laddr none 1 9, none, 0⟩,
        ⟨(some 14), .lload (some 13) 1 9 none, none, 0⟩,
        ⟨(some 15), .build [.int .i64 0, .int .i64 0, .int .i64 0, .int .i64 0, .int .i64 0, .int .i64 0, .int .i64 0, .bool false, .int .i64 0, .int .i64 0] [(0, 1, .tmp 4), (1, 4, .tmp 6), (5, 2, .tmp 8), (7, 1, .tmp 10), (8, 1, .tmp 12), (9, 1, .tmp 14)], none, 0⟩,
        ⟨(some 2), .lstore none 2 0 10 (.tmp 15), none, 0⟩])
      (.ret)) }

def F.sidingsref08_Before : IFunc :=
  { lb := [2, 3], scr := true, nargs := 2, res := [.tmp 4],
    body := .seq (.region [⟨(some 2), .lbox (.tmp 0), none, 0⟩,
        ⟨(some 3), .lbox (.tmp 1), none, 0⟩,
        ⟨(some 4), .mov (.const (.bool false)), none, 0⟩])
      (.seq (.region [⟨(some 5), .laddr none 2 7, none, 0⟩,
        ⟨(some 6), .lload (some 5) 2 7 none, none, 0⟩,
        ⟨(some 7), .mov (.tmp 6), none, 0⟩,
        ⟨(some 8), .laddr none 2 9, (some (7, true)), 0⟩,
        ⟨(some 9), .lload (some 8) 2 9 none, (some (7, true)), 0⟩,
        ⟨(some 10), .laddr none 3 8, (some (7, true)), 0⟩,
        ⟨(some 11), .lload (some 10) 3 8 none, (some (7, true)), 0⟩,
        ⟨(some 12), .bin .lss (.tmp 9) (.tmp 11), (some (7, true)), 0⟩,
        ⟨(some 13), .pick (.tmp 7) (.tmp 12) (.const (.bool false)), none, 0⟩,
        ⟨(some 4), .mov (.tmp 13), none, 0⟩])
      (.ret)) }

def F.sidingsref08_answer : IFunc :=
  { lb := [], scr := true, nargs := 2, res := [.tmp 4],
    body := .seq (.region [⟨(some 4), .mov (.const (.int .i64 0)), none, 0⟩])
      (.seq (.seq (.region [⟨(some 6), .mov (.tmp 1), none, 0⟩,
        ⟨(some 7), .bin .add (.tmp 6) (.const (.int .i64 1)), none, 0⟩,
        ⟨(some 5), .mov (.tmp 7), none, 0⟩])
      (.block 0 (.loop [0, 1, 5]
        (.seq (.seq (.region [⟨(some 8), .mov (.tmp 5), none, 0⟩,
          ⟨(some 9), .mov (.tmp 0), none, 0⟩,
          ⟨(some 10), .len false (.tmp 9), none, 0⟩,
          ⟨(some 11), .bin .lss (.tmp 8) (.tmp 10), none, 0⟩])
        (.cond (.tmp 11)
          (.skip)
          (.exit 0)))
        (.seq (.block 1 (.seq (.region [⟨(some 14), .mov (.tmp 0), none, 0⟩,
          ⟨(some 15), .mov (.tmp 5), none, 0⟩,
          ⟨(some 16), .iaddr none 8 (.tmp 14) (.tmp 15), none, 0⟩,
          ⟨(some 17), .faddr 0 (.tmp 16), none, 0⟩,
          ⟨(some 18), .load none (.tmp 17), none, 0⟩,
          ⟨(some 19), .mov (.tmp 0), none, 0⟩,
          ⟨(some 20), .mov (.tmp 1), none, 0⟩,
          ⟨(some 21), .iaddr none 8 (.tmp 19) (.tmp 20), none, 0⟩,
          ⟨(some 22), .faddr 0 (.tmp 21), none, 0⟩,
          ⟨(some 23), .load none (.tmp 22), none, 0⟩,
          ⟨(some 24), .bin .eql (.tmp 18) (.tmp 23), none, 0⟩])
        (.cond (.tmp 24)
          (.seq (.region [⟨(some 25), .mov (.tmp 5), none, 0⟩,
            ⟨(some 4), .mov (.tmp 25), none, 0⟩])
          (.ret))
          (.skip))))
        (.region [⟨(some 12), .mov (.tmp 5), none, 0⟩,
          ⟨(some 13), .bin .add (.tmp 12) (.const (.int .i64 1)), none, 0⟩,
          ⟨(some 5), .mov (.tmp 13), none, 0⟩]))))))
      (.seq (.region [⟨(some 26), .mov (.tmp 0), none, 0⟩,
        ⟨(some 27), .len false (.tmp 26), none, 0⟩,
        ⟨(some 4), .mov (.tmp 27), none, 0⟩])
      (.ret))) }

def F.sidingslaw08_told : IFunc :=
  { lb := [1, 2], scr := true, nargs := 1, res := [.lb 2 (some 10)],
    body := .seq (.region [⟨(some 1), .lbox (.tmp 0), none, 0⟩,
        ⟨(some 2), .lbox (.const (.agg #[.int .i64 0, .int .i64 0, .int .i64 0, .int .i64 0, .int .i64 0, .int .i64 0, .int .i64 0, .bool false, .int .i64 0, .int .i64 0])), none, 0⟩])
      (.seq (.region [⟨(some 3), .laddr none 1 0, none, 0⟩,
        ⟨(some 4), .lload (some 3) 1 0 none, none, 0⟩,
        ⟨(some 5), .laddr none 1 1, none, 0⟩,
        ⟨(some 6), .lload (some 5) 1 1 (some 4), none, 0⟩,
        ⟨(some 7), .laddr none 1 5, none, 0⟩,
        ⟨(some 8), .lload (some 7) 1 5 (some 2), none, 0⟩,
        ⟨(some 9), .laddr none 1 7, none, 0⟩,
        ⟨(some 10), .lload (some 9) 1 7 none, none, 0⟩,
        ⟨(some 11), .laddr none 1 8, none, 0⟩,
        ⟨(some 12), .lload (some 11) 1 8 none, none, 0⟩,
        ⟨(some 13), .laddr none 1 9, none, 0⟩,
        ⟨(some 14), .lload (some 13) 1 9 none, none, 0⟩,
        ⟨(some 15), .build [.int .i64 0, .int .i64 0, .int .i64 0, .int .i64 0, .int .i64 0, .int .i64 0, .int .i64 0, .bool false, .int .i64 0, .int .i64 0] [(0, 1, .tmp 4), (1, 4, .tmp 6), (5, 2, .tmp 8), (7, 1, .tmp 10), (8, 1, .tmp 12), (9, 1, .tmp 14)], none, 0⟩,
        ⟨(some 2), .lstore none 2 0 10 (.tmp 15), none, 0⟩])
      (.ret)) }

def F.sidingsref08_turn : IFunc :=
  { lb := [], scr := true, nargs := 2, res := [.tmp 4],
    body := .seq (.region [⟨(some 4), .mov (.const (.int .i64 0)), none, 0⟩])
      (.seq (.region [⟨(some 5), .mov (.const (.int .i64 0)), none, 0⟩])
      (.seq (.seq (.region [⟨(some 6), .mov (.const (.int .i64 0)), none, 0⟩])
      (.block 0 (.loop [0, 1, 5, 6]
        (.seq (.seq (.region [⟨(some 7), .mov (.tmp 6), none, 0⟩,
          ⟨(some 8), .mov (.tmp 1), none, 0⟩,
          ⟨(some 9), .bin .lss (.tmp 7) (.tmp 8), none, 0⟩])
        (.cond (.tmp 9)
          (.skip)
          (.exit 0)))
        (.seq (.block 1 (.seq (.region [⟨(some 12), .mov (.tmp 0), none, 0⟩,
          ⟨(some 13), .mov (.tmp 6), none, 0⟩,
          ⟨(some 14), .iaddr none 8 (.tmp 12) (.tmp 13), none, 0⟩,
          ⟨(some 15), .faddr 0 (.tmp 14), none, 0⟩,
          ⟨(some 16), .load none (.tmp 15), none, 0⟩,
          ⟨(some 17), .mov (.tmp 0), none, 0⟩,
          ⟨(some 18), .mov (.tmp 1), none, 0⟩,
          ⟨(some 19), .iaddr none 8 (.tmp 17) (.tmp 18), none, 0⟩,
          ⟨(some 20), .faddr 0 (.tmp 19), none, 0⟩,
          ⟨(some 21), .load none (.tmp 20), none, 0⟩,
          ⟨(some 22), .bin .eql (.tmp 16) (.tmp 21), none, 0⟩])
        (.cond (.tmp 22)
          (.region [⟨(some 23), .mov (.tmp 5), none, 0⟩,
            ⟨(some 24), .bin .add (.tmp 23) (.const (.int .i64 1)), none, 0⟩,
            ⟨(some 5), .mov (.tmp 24), none, 0⟩])
          (.skip))))
        (.region [⟨(some 10), .mov (.tmp 6), none, 0⟩,
          ⟨(some 11), .bin .add (.tmp 10) (.const (.int .i64 1)), none, 0⟩,
          ⟨(some 6), .mov (.tmp 11), none, 0⟩]))))))
      (.seq (.region [⟨(some 25), .mov (.tmp 5), none, 0⟩,
        ⟨(some 4), .mov (.tmp 25), none, 0⟩])
      (.ret)))) }

def F.slices_Sort_Lint : IFunc :=
  { lb := [], scr := false, nargs := 1, res := [],
    body := .seq (.region [⟨(some 3), .mov (.tmp 0), none, 0⟩,
        ⟨(some 4), .len false (.tmp 3), none, 0⟩,
        ⟨(some 2), .mov (.tmp 4), none, 0⟩])
      (.region [⟨(some 5), .mov (.tmp 0), none, 0⟩,
        ⟨(some 6), .mov (.tmp 2), none, 0⟩,
        ⟨(some 7), .mov (.tmp 2), none, 0⟩,
        ⟨(some 8), .conv (.int .u64) (.tmp 7), none, 0⟩,
        ⟨(some 9), .call Id.math_bits_Len [.tmp 8], none, 0⟩,
        ⟨(some 10), .call Id.slices_pdqsortOrdered_int [.tmp 5, .const (.int .i64 0), .tmp 6, .tmp 9], none, 0⟩]) }

def F.slices_Compact_Lint : IFunc :=
  { lb := [], scr := false, nargs := 1, res := [.tmp 2],
    body := .seq (.region [⟨(some 2), .mov (.const (.slice none 0 0)), none, 0⟩])
      (.seq (.seq (.region [⟨(some 6), .mov (.tmp 0), none, 0⟩,
        ⟨(some 7), .len false (.tmp 6), none, 0⟩,
        ⟨(some 8), .bin .lss (.tmp 7) (.const (.int .i64 2)), none, 0⟩])
      (.cond (.tmp 8)
        (.seq (.region [⟨(some 9), .mov (.tmp 0), none, 0⟩,
          ⟨(some 2), .mov (.tmp 9), none, 0⟩])
        (.ret))
        (.skip)))
      (.seq (.seq (.region [⟨(some 3), .mov (.const (.int .i64 1)), none, 0⟩])
      (.block 0 (.loop [0, 3]
        (.seq (.seq (.region [⟨(some 10), .mov (.tmp 3), none, 0⟩,
          ⟨(some 11), .mov (.tmp 0), none, 0⟩,
          ⟨(some 12), .len false (.tmp 11), none, 0⟩,
          ⟨(some 13), .bin .lss (.tmp 10) (.tmp 12), none, 0⟩])
        (.cond (.tmp 13)
          (.skip)
          (.exit 0)))
        (.seq (.block 1 (.seq (.region [⟨(some 16), .mov (.tmp 0), none, 0⟩,
          ⟨(some 17), .mov (.tmp 3), none, 0⟩,
          ⟨(some 18), .iaddr none 1 (.tmp 16) (.tmp 17), none, 0⟩,
          ⟨(some 19), .load none (.tmp 18), none, 0⟩,
          ⟨(some 20), .mov (.tmp 0), none, 0⟩,
          ⟨(some 21), .mov (.tmp 3), none, 0⟩,
          ⟨(some 22), .bin .sub (.tmp 21) (.const (.int .i64 1)), none, 0⟩,
          ⟨(some 23), .iaddr none 1 (.tmp 20) (.tmp 22), none, 0⟩,
          ⟨(some 24), .load none (.tmp 23), none, 0⟩,
          ⟨(some 25), .bin .eql (.tmp 19) (.tmp 24), none, 0⟩])
        (.cond (.tmp 25)
          (.seq (.region [⟨(some 26), .mov (.tmp 0), none, 0⟩,
            ⟨(some 27), .mov (.tmp 3), none, 0⟩,
            ⟨(some 28), .slice 1 (.tmp 26) (some (.tmp 27)) none none, none, 0⟩,
            ⟨(some 4), .mov (.tmp 28), none, 0⟩])
          (.seq (.seq (.region [⟨(some 5), .mov (.const (.int .i64 1)), none, 0⟩])
          (.block 2 (.loop [0, 3, 4, 5]
            (.seq (.seq (.region [⟨(some 29), .mov (.tmp 5), none, 0⟩,
              ⟨(some 30), .mov (.tmp 4), none, 0⟩,
              ⟨(some 31), .len false (.tmp 30), none, 0⟩,
              ⟨(some 32), .bin .lss (.tmp 29) (.tmp 31), none, 0⟩])
            (.cond (.tmp 32)
              (.skip)
              (.exit 2)))
            (.seq (.block 3 (.seq (.region [⟨(some 35), .mov (.tmp 4), none, 0⟩,
              ⟨(some 36), .mov (.tmp 5), none, 0⟩,
              ⟨(some 37), .iaddr none 1 (.tmp 35) (.tmp 36), none, 0⟩,
              ⟨(some 38), .load none (.tmp 37), none, 0⟩,
              ⟨(some 39), .mov (.tmp 4), none, 0⟩,
              ⟨(some 40), .mov (.tmp 5), none, 0⟩,
              ⟨(some 41), .bin .sub (.tmp 40) (.const (.int .i64 1)), none, 0⟩,
              ⟨(some 42), .iaddr none 1 (.tmp 39) (.tmp 41), none, 0⟩,
              ⟨(some 43), .load none (.tmp 42), none, 0⟩,
              ⟨(some 44), .bin .neq (.tmp 38) (.tmp 43), none, 0⟩])
            (.cond (.tmp 44)
              (.seq (.region [⟨(some 45), .mov (.tmp 0), none, 0⟩,
                ⟨(some 46), .mov (.tmp 3), none, 0⟩,
                ⟨(some 47), .mov (.tmp 4), none, 0⟩,
                ⟨(some 48), .mov (.tmp 5), none, 0⟩,
                ⟨(some 49), .iaddr none 1 (.tmp 47) (.tmp 48), none, 0⟩,
                ⟨(some 50), .load none (.tmp 49), none, 0⟩,
                ⟨(some 51), .iaddr none 1 (.tmp 45) (.tmp 46), none, 0⟩,
                ⟨none, .store 1 (.tmp 51) (.tmp 50), none, 0⟩])
              (.region [⟨(some 52), .mov (.tmp 3), none, 0⟩,
                ⟨(some 53), .bin .add (.tmp 52) (.const (.int .i64 1)), none, 0⟩,
                ⟨(some 3), .mov (.tmp 53), none, 0⟩]))
              (.skip))))
            (.region [⟨(some 33), .mov (.tmp 5), none, 0⟩,
              ⟨(some 34), .bin .add (.tmp 33) (.const (.int .i64 1)), none, 0⟩,
              ⟨(some 5), .mov (.tmp 34), none, 0⟩]))))))
          (.seq (.region [⟨(some 54), .mov (.tmp 0), none, 0⟩,
            ⟨(some 55), .mov (.tmp 3), none, 0⟩,
            ⟨(some 56), .slice 1 (.tmp 54) (some (.tmp 55)) none none, none, 0⟩,
            ⟨none, .clear 1 [.int .i64 0] (.tmp 56), none, 0⟩])
          (.seq (.region [⟨(some 57), .mov (.tmp 0), none, 0⟩,
            ⟨(some 58), .mov (.tmp 3), none, 0⟩,
            ⟨(some 59), .slice 1 (.tmp 57) none (some (.tmp 58)) none, none, 0⟩,
            ⟨(some 2), .mov (.tmp 59), none, 0⟩])
          (.ret)))))
          (.skip))))
        (.region [⟨(some 14), .mov (.tmp 3), none, 0⟩,
          ⟨(some 15), .bin .add (.tmp 14) (.const (.int .i64 1)), none, 0⟩,
          ⟨(some 3), .mov (.tmp 15), none, 0⟩]))))))
      (.seq (.region [⟨(some 60), .mov (.tmp 0), none, 0⟩,
        ⟨(some 2), .mov (.tmp 60), none, 0⟩])
      (.ret)))) }

def F.slices_pdqsortOrdered_int : IFunc :=
  { lb := [], scr := false, nargs := 4, res := [],
    body := .seq (.region [⟨(some 8), .mov (.const (.bool true)), none, 0⟩])
      (.seq (.region [⟨(some 9), .mov (.const (.bool true)), none, 0⟩])
      (.block 0 (.loop [0, 1, 2, 3, 8, 9]
        (.block 1 (.seq (.region [⟨(some 19), .mov (.tmp 2), none, 0⟩,
          ⟨(some 20), .mov (.tmp 1), none, 0⟩,
          ⟨(some 21), .bin .sub (.tmp 19) (.tmp 20), none, 0⟩,
          ⟨(some 10), .mov (.tmp 21), none, 0⟩])
        (.seq (.seq (.region [⟨(some 22), .mov (.tmp 10), none, 0⟩,
          ⟨(some 23), .bin .leq (.tmp 22) (.const (.int .i64 12)), none, 0⟩])
        (.cond (.tmp 23)
          (.seq (.region [⟨(some 24), .mov (.tmp 0), none, 0⟩,
            ⟨(some 25), .mov (.tmp 1), none, 0⟩,
            ⟨(some 26), .mov (.tmp 2), none, 0⟩,
            ⟨(some 27), .call Id.slices_insertionSortOrdered_int [.tmp 24, .tmp 25, .tmp 26], none, 0⟩])
          (.ret))
          (.skip)))
        (.seq (.seq (.region [⟨(some 28), .mov (.tmp 3), none, 0⟩,
          ⟨(some 29), .bin .eql (.tmp 28) (.const (.int .i64 0)), none, 0⟩])
        (.cond (.tmp 29)
          (.seq (.region [⟨(some 30), .mov (.tmp 0), none, 0⟩,
            ⟨(some 31), .mov (.tmp 1), none, 0⟩,
            ⟨(some 32), .mov (.tmp 2), none, 0⟩,
            ⟨(some 33), .call Id.slices_heapSortOrdered_int [.tmp 30, .tmp 31, .tmp 32], none, 0⟩])
          (.ret))
          (.skip)))
        (.seq (.seq (.region [⟨(some 34), .mov (.tmp 8), none, 0⟩,
          ⟨(some 35), .un .not (.tmp 34), none, 0⟩])
        (.cond (.tmp 35)
          (.seq (.region [⟨(some 36), .mov (.tmp 0), none, 0⟩,
            ⟨(some 37), .mov (.tmp 1), none, 0⟩,
            ⟨(some 38), .mov (.tmp 2), none, 0⟩,
            ⟨(some 39), .call Id.slices_breakPatternsOrdered_int [.tmp 36, .tmp 37, .tmp 38], none, 0⟩])
          (.region [⟨(some 40), .mov (.tmp 3), none, 0⟩,
            ⟨(some 41), .bin .sub (.tmp 40) (.const (.int .i64 1)), none, 0⟩,
            ⟨(some 3), .mov (.tmp 41), none, 0⟩]))
          (.skip)))
        (.seq (.region [⟨(some 43), .mov (.tmp 0), none, 0⟩,
          ⟨(some 44), .mov (.tmp 1), none, 0⟩,
          ⟨(some 45), .mov (.tmp 2), none, 0⟩,
          ⟨(some 46), .call Id.slices_choosePivotOrdered_int [.tmp 43, .tmp 44, .tmp 45], none, 0⟩,
          ⟨(some 42), .mov (.tmp 46), none, 0⟩,
          ⟨(some 47), .extract (.tmp 42) 0, none, 0⟩,
          ⟨(some 48), .extract (.tmp 42) 1, none, 0⟩,
          ⟨(some 11), .mov (.tmp 47), none, 0⟩,
          ⟨(some 12), .mov (.tmp 48), none, 0⟩])
        (.seq (.seq (.region [⟨(some 49), .mov (.tmp 12), none, 0⟩,
          ⟨(some 50), .bin .eql (.tmp 49) (.const (.int .i64 2)), none, 0⟩])
        (.cond (.tmp 50)
          (.seq (.region [⟨(some 51), .mov (.tmp 0), none, 0⟩,
            ⟨(some 52), .mov (.tmp 1), none, 0⟩,
            ⟨(some 53), .mov (.tmp 2), none, 0⟩,
            ⟨(some 54), .call Id.slices_reverseRangeOrdered_int [.tmp 51, .tmp 52, .tmp 53], none, 0⟩])
          (.seq (.region [⟨(some 55), .mov (.tmp 2), none, 0⟩,
            ⟨(some 56), .bin .sub (.tmp 55) (.const (.int .i64 1)), none, 0⟩,
            ⟨(some 57), .mov (.tmp 11), none, 0⟩,
            ⟨(some 58), .mov (.tmp 1), none, 0⟩,
            ⟨(some 59), .bin .sub (.tmp 57) (.tmp 58), none, 0⟩,
            ⟨(some 60), .bin .sub (.tmp 56) (.tmp 59), none, 0⟩,
            ⟨(some 11), .mov (.tmp 60), none, 0⟩])
          (.region [⟨(some 12), .mov (.const (.int .i64 1)), none, 0⟩])))
          (.skip)))
        (.seq (.seq (.region [⟨(some 61), .mov (.tmp 8), none, 0⟩,
          ⟨(some 62), .mov (.tmp 61), none, 0⟩,
          ⟨(some 63), .mov (.tmp 9), (some (62, true)), 0⟩,
          ⟨(some 64), .pick (.tmp 62) (.tmp 63) (.const (.bool false)), none, 0⟩,
          ⟨(some 65), .mov (.tmp 64), none, 0⟩,
          ⟨(some 66), .mov (.tmp 12), (some (65, true)), 0⟩,
          ⟨(some 67), .bin .eql (.tmp 66) (.const (.int .i64 1)), (some (65, true)), 0⟩,
          ⟨(some 68), .pick (.tmp 65) (.tmp 67) (.const (.bool false)), none, 0⟩])
        (.cond (.tmp 68)
          (.seq (.region [⟨(some 69), .mov (.tmp 0), none, 0⟩,
            ⟨(some 70), .mov (.tmp 1), none, 0⟩,
            ⟨(some 71), .mov (.tmp 2), none, 0⟩,
            ⟨(some 72), .call Id.slices_partialInsertionSortOrdered_int [.tmp 69, .tmp 70, .tmp 71], none, 0⟩])
          (.cond (.tmp 72)
            (.ret)
            (.skip)))
          (.skip)))
        (.seq (.seq (.region [⟨(some 73), .mov (.tmp 1), none, 0⟩,
          ⟨(some 74), .bin .gtr (.tmp 73) (.const (.int .i64 0)), none, 0⟩,
          ⟨(some 75), .mov (.tmp 74), none, 0⟩,
          ⟨(some 76), .mov (.tmp 0), (some (75, true)), 0⟩,
          ⟨(some 77), .mov (.tmp 1), (some (75, true)), 0⟩,
          ⟨(some 78), .bin .sub (.tmp 77) (.const (.int .i64 1)), (some (75, true)), 0⟩,
          ⟨(some 79), .iaddr none 1 (.tmp 76) (.tmp 78), (some (75, true)), 0⟩,
          ⟨(some 80), .load none (.tmp 79), (some (75, true)), 0⟩,
          ⟨(some 81), .mov (.tmp 0), (some (75, true)), 0⟩,
          ⟨(some 82), .mov (.tmp 11), (some (75, true)), 0⟩,
          ⟨(some 83), .iaddr none 1 (.tmp 81) (.tmp 82), (some (75, true)), 0⟩,
          ⟨(some 84), .load none (.tmp 83), (some (75, true)), 0⟩,
          ⟨(some 85), .call Id.cmp_Less_int [.tmp 80, .tmp 84], (some (75, true)), 0⟩,
          ⟨(some 86), .un .not (.tmp 85), (some (75, true)), 0⟩,
          ⟨(some 87), .pick (.tmp 75) (.tmp 86) (.const (.bool false)), none, 0⟩])
        (.cond (.tmp 87)
          (.seq (.region [⟨(some 88), .mov (.tmp 0), none, 0⟩,
            ⟨(some 89), .mov (.tmp 1), none, 0⟩,
            ⟨(some 90), .mov (.tmp 2), none, 0⟩,
            ⟨(some 91), .mov (.tmp 11), none, 0⟩,
            ⟨(some 92), .call Id.slices_partitionEqualOrdered_int [.tmp 88, .tmp 89, .tmp 90, .tmp 91], none, 0⟩,
            ⟨(some 13), .mov (.tmp 92), none, 0⟩])
          (.seq (.region [⟨(some 93), .mov (.tmp 13), none, 0⟩,
            ⟨(some 1), .mov (.tmp 93), none, 0⟩])
          (.exit 1)))
          (.skip)))
        (.seq (.region [⟨(some 95), .mov (.tmp 0), none, 0⟩,
          ⟨(some 96), .mov (.tmp 1), none, 0⟩,
          ⟨(some 97), .mov (.tmp 2), none, 0⟩,
          ⟨(some 98), .mov (.tmp 11), none, 0⟩,
          ⟨(some 99), .call Id.slices_partitionOrdered_int [.tmp 95, .tmp 96, .tmp 97, .tmp 98], none, 0⟩,
          ⟨(some 94), .mov (.tmp 99), none, 0⟩,
          ⟨(some 100), .extract (.tmp 94) 0, none, 0⟩,
          ⟨(some 101), .extract (.tmp 94) 1, none, 0⟩,
          ⟨(some 14), .mov (.tmp 100), none, 0⟩,
          ⟨(some 15), .mov (.tmp 101), none, 0⟩])
        (.seq (.region [⟨(some 102), .mov (.tmp 15), none, 0⟩,
          ⟨(some 9), .mov (.tmp 102), none, 0⟩])
        (.seq (.region [⟨(some 103), .mov (.tmp 14), none, 0⟩,
          ⟨(some 104), .mov (.tmp 1), none, 0⟩,
          ⟨(some 105), .bin .sub (.tmp 103) (.tmp 104), none, 0⟩,
          ⟨(some 106), .mov (.tmp 2), none, 0⟩,
          ⟨(some 107), .mov (.tmp 14), none, 0⟩,
          ⟨(some 108), .bin .sub (.tmp 106) (.tmp 107), none, 0⟩,
          ⟨(some 16), .mov (.tmp 105), none, 0⟩,
          ⟨(some 17), .mov (.tmp 108), none, 0⟩])
        (.seq (.region [⟨(some 109), .mov (.tmp 10), none, 0⟩,
          ⟨(some 110), .bin .quo (.tmp 109) (.const (.int .i64 8)), none, 0⟩,
          ⟨(some 18), .mov (.tmp 110), none, 0⟩])
        (.seq (.region [⟨(some 111), .mov (.tmp 16), none, 0⟩,
          ⟨(some 112), .mov (.tmp 17), none, 0⟩,
          ⟨(some 113), .bin .lss (.tmp 111) (.tmp 112), none, 0⟩])
        (.cond (.tmp 113)
          (.seq (.region [⟨(some 114), .mov (.tmp 16), none, 0⟩,
            ⟨(some 115), .mov (.tmp 18), none, 0⟩,
            ⟨(some 116), .bin .geq (.tmp 114) (.tmp 115), none, 0⟩,
            ⟨(some 8), .mov (.tmp 116), none, 0⟩])
          (.seq (.region [⟨(some 117), .mov (.tmp 0), none, 0⟩,
            ⟨(some 118), .mov (.tmp 1), none, 0⟩,
            ⟨(some 119), .mov (.tmp 14), none, 0⟩,
            ⟨(some 120), .mov (.tmp 3), none, 0⟩,
            ⟨(some 121), .call Id.slices_pdqsortOrdered_int [.tmp 117, .tmp 118, .tmp 119, .tmp 120], none, 0⟩])
          (.region [⟨(some 122), .mov (.tmp 14), none, 0⟩,
            ⟨(some 123), .bin .add (.tmp 122) (.const (.int .i64 1)), none, 0⟩,
            ⟨(some 1), .mov (.tmp 123), none, 0⟩])))
          (.seq (.region [⟨(some 124), .mov (.tmp 17), none, 0⟩,
            ⟨(some 125), .mov (.tmp 18), none, 0⟩,
            ⟨(some 126), .bin .geq (.tmp 124) (.tmp 125), none, 0⟩,
            ⟨(some 8), .mov (.tmp 126), none, 0⟩])
          (.seq (.region [⟨(some 127), .mov (.tmp 0), none, 0⟩,
            ⟨(some 128), .mov (.tmp 14), none, 0⟩,
            ⟨(some 129), .bin .add (.tmp 128) (.const (.int .i64 1)), none, 0⟩,
            ⟨(some 130), .mov (.tmp 2), none, 0⟩,
            ⟨(some 131), .mov (.tmp 3), none, 0⟩,
            ⟨(some 132), .call Id.slices_pdqsortOrdered_int [.tmp 127, .tmp 129, .tmp 130, .tmp 131], none, 0⟩])
          (.region [⟨(some 133), .mov (.tmp 14), none, 0⟩,
            ⟨(some 2), .mov (.tmp 133), none, 0⟩]))))))))))))))))))))) }

def F.math_bits_Len : IFunc :=
  { lb := [], scr := true, nargs := 1, res := [.tmp 2],
    body := .seq (.region [⟨(some 2), .mov (.const (.int .i64 0)), none, 0⟩])
      (.seq (.cond (.const (.bool false))
        (.seq (.region [⟨(some 3), .mov (.tmp 0), none, 0⟩,
          ⟨(some 4), .conv (.int .u32) (.tmp 3), none, 0⟩,
          ⟨(some 5), .call Id.math_bits_Len32 [.tmp 4], none, 0⟩,
          ⟨(some 2), .mov (.tmp 5), none, 0⟩])
        (.ret))
        (.skip))
      (.seq (.region [⟨(some 6), .mov (.tmp 0), none, 0⟩,
        ⟨(some 7), .call Id.math_bits_Len64 [.tmp 6], none, 0⟩,
        ⟨(some 2), .mov (.tmp 7), none, 0⟩])
      (.ret))) }

def F.slices_insertionSortOrdered_int : IFunc :=
  { lb := [], scr := false, nargs := 3, res := [],
    body := .seq (.region [⟨(some 8), .mov (.tmp 1), none, 0⟩,
        ⟨(some 9), .bin .add (.tmp 8) (.const (.int .i64 1)), none, 0⟩,
        ⟨(some 6), .mov (.tmp 9), none, 0⟩])
      (.block 0 (.loop [0, 1, 2, 6]
        (.seq (.seq (.region [⟨(some 10), .mov (.tmp 6), none, 0⟩,
          ⟨(some 11), .mov (.tmp 2), none, 0⟩,
          ⟨(some 12), .bin .lss (.tmp 10) (.tmp 11), none, 0⟩])
        (.cond (.tmp 12)
          (.skip)
          (.exit 0)))
        (.seq (.block 1 (.seq (.region [⟨(some 15), .mov (.tmp 6), none, 0⟩,
          ⟨(some 7), .mov (.tmp 15), none, 0⟩])
        (.block 2 (.loop [0, 1, 2, 6, 7]
          (.seq (.seq (.region [⟨(some 16), .mov (.tmp 7), none, 0⟩,
            ⟨(some 17), .mov (.tmp 1), none, 0⟩,
            ⟨(some 18), .bin .gtr (.tmp 16) (.tmp 17), none, 0⟩,
            ⟨(some 19), .mov (.tmp 18), none, 0⟩,
            ⟨(some 20), .mov (.tmp 0), (some (19, true)), 0⟩,
            ⟨(some 21), .mov (.tmp 7), (some (19, true)), 0⟩,
            ⟨(some 22), .iaddr none 1 (.tmp 20) (.tmp 21), (some (19, true)), 0⟩,
            ⟨(some 23), .load none (.tmp 22), (some (19, true)), 0⟩,
            ⟨(some 24), .mov (.tmp 0), (some (19, true)), 0⟩,
            ⟨(some 25), .mov (.tmp 7), (some (19, true)), 0⟩,
            ⟨(some 26), .bin .sub (.tmp 25) (.const (.int .i64 1)), (some (19, true)), 0⟩,
            ⟨(some 27), .iaddr none 1 (.tmp 24) (.tmp 26), (some (19, true)), 0⟩,
            ⟨(some 28), .load none (.tmp 27), (some (19, true)), 0⟩,
            ⟨(some 29), .call Id.cmp_Less_int [.tmp 23, .tmp 28], (some (19, true)), 0⟩,
            ⟨(some 30), .pick (.tmp 19) (.tmp 29) (.const (.bool false)), none, 0⟩])
          (.cond (.tmp 30)
            (.skip)
            (.exit 2)))
          (.seq (.block 3 (.region [⟨(some 33), .mov (.tmp 0), none, 0⟩,
            ⟨(some 34), .mov (.tmp 7), none, 0⟩,
            ⟨(some 38), .mov (.tmp 0), none, 0⟩,
            ⟨(some 39), .mov (.tmp 7), none, 0⟩,
            ⟨(some 40), .bin .sub (.tmp 39) (.const (.int .i64 1)), none, 0⟩,
            ⟨(some 41), .iaddr none 1 (.tmp 38) (.tmp 40), none, 0⟩,
            ⟨(some 42), .load none (.tmp 41), none, 0⟩,
            ⟨(some 43), .mov (.tmp 0), none, 0⟩,
            ⟨(some 44), .mov (.tmp 7), none, 0⟩,
            ⟨(some 45), .iaddr none 1 (.tmp 43) (.tmp 44), none, 0⟩,
            ⟨(some 46), .load none (.tmp 45), none, 0⟩,
            ⟨(some 47), .iaddr none 1 (.tmp 33) (.tmp 34), none, 0⟩,
            ⟨none, .store 1 (.tmp 47) (.tmp 42), none, 0⟩,
            ⟨(some 35), .mov (.tmp 0), none, 0⟩,
            ⟨(some 36), .mov (.tmp 7), none, 0⟩,
            ⟨(some 37), .bin .sub (.tmp 36) (.const (.int .i64 1)), none, 0⟩,
            ⟨(some 48), .iaddr none 1 (.tmp 35) (.tmp 37), none, 0⟩,
            ⟨none, .store 1 (.tmp 48) (.tmp 46), none, 0⟩]))
          (.region [⟨(some 31), .mov (.tmp 7), none, 0⟩,
            ⟨(some 32), .bin .sub (.tmp 31) (.const (.int .i64 1)), none, 0⟩,
            ⟨(some 7), .mov (.tmp 32), none, 0⟩])))))))
        (.region [⟨(some 13), .mov (.tmp 6), none, 0⟩,
          ⟨(some 14), .bin .add (.tmp 13) (.const (.int .i64 1)), none, 0⟩,
          ⟨(some 6), .mov (.tmp 14), none, 0⟩]))))) }

def F.slices_heapSortOrdered_int : IFunc :=
  { lb := [], scr := false, nargs := 3, res := [],
    body := .seq (.region [⟨(some 11), .mov (.tmp 1), none, 0⟩,
        ⟨(some 6), .mov (.tmp 11), none, 0⟩])
      (.seq (.region [⟨(some 7), .mov (.const (.int .i64 0)), none, 0⟩])
      (.seq (.region [⟨(some 12), .mov (.tmp 2), none, 0⟩,
        ⟨(some 13), .mov (.tmp 1), none, 0⟩,
        ⟨(some 14), .bin .sub (.tmp 12) (.tmp 13), none, 0⟩,
        ⟨(some 8), .mov (.tmp 14), none, 0⟩])
      (.seq (.seq (.region [⟨(some 15), .mov (.tmp 8), none, 0⟩,
        ⟨(some 16), .bin .sub (.tmp 15) (.const (.int .i64 1)), none, 0⟩,
        ⟨(some 17), .bin .quo (.tmp 16) (.const (.int .i64 2)), none, 0⟩,
        ⟨(some 9), .mov (.tmp 17), none, 0⟩])
      (.block 0 (.loop [0, 6, 7, 8, 9]
        (.seq (.seq (.region [⟨(some 18), .mov (.tmp 9), none, 0⟩,
          ⟨(some 19), .bin .geq (.tmp 18) (.const (.int .i64 0)), none, 0⟩])
        (.cond (.tmp 19)
          (.skip)
          (.exit 0)))
        (.seq (.block 1 (.region [⟨(some 22), .mov (.tmp 0), none, 0⟩,
          ⟨(some 23), .mov (.tmp 9), none, 0⟩,
          ⟨(some 24), .mov (.tmp 8), none, 0⟩,
          ⟨(some 25), .mov (.tmp 6), none, 0⟩,
          ⟨(some 26), .call Id.slices_siftDownOrdered_int [.tmp 22, .tmp 23, .tmp 24, .tmp 25], none, 0⟩]))
        (.region [⟨(some 20), .mov (.tmp 9), none, 0⟩,
          ⟨(some 21), .bin .sub (.tmp 20) (.const (.int .i64 1)), none, 0⟩,
          ⟨(some 9), .mov (.tmp 21), none, 0⟩]))))))
      (.seq (.region [⟨(some 27), .mov (.tmp 8), none, 0⟩,
        ⟨(some 28), .bin .sub (.tmp 27) (.const (.int .i64 1)), none, 0⟩,
        ⟨(some 10), .mov (.tmp 28), none, 0⟩])
      (.block 2 (.loop [0, 6, 7, 10]
        (.seq (.seq (.region [⟨(some 29), .mov (.tmp 10), none, 0⟩,
          ⟨(some 30), .bin .geq (.tmp 29) (.const (.int .i64 0)), none, 0⟩])
        (.cond (.tmp 30)
          (.skip)
          (.exit 2)))
        (.seq (.block 3 (.seq (.region [⟨(some 33), .mov (.tmp 0), none, 0⟩,
          ⟨(some 34), .mov (.tmp 6), none, 0⟩,
          ⟨(some 39), .mov (.tmp 0), none, 0⟩,
          ⟨(some 40), .mov (.tmp 6), none, 0⟩,
          ⟨(some 41), .mov (.tmp 10), none, 0⟩,
          ⟨(some 42), .bin .add (.tmp 40) (.tmp 41), none, 0⟩,
          ⟨(some 43), .iaddr none 1 (.tmp 39) (.tmp 42), none, 0⟩,
          ⟨(some 44), .load none (.tmp 43), none, 0⟩,
          ⟨(some 45), .mov (.tmp 0), none, 0⟩,
          ⟨(some 46), .mov (.tmp 6), none, 0⟩,
          ⟨(some 47), .iaddr none 1 (.tmp 45) (.tmp 46), none, 0⟩,
          ⟨(some 48), .load none (.tmp 47), none, 0⟩,
          ⟨(some 49), .iaddr none 1 (.tmp 33) (.tmp 34), none, 0⟩,
          ⟨none, .store 1 (.tmp 49) (.tmp 44), none, 0⟩,
          ⟨(some 35), .mov (.tmp 0), none, 0⟩,
          ⟨(some 36), .mov (.tmp 6), none, 0⟩,
          ⟨(some 37), .mov (.tmp 10), none, 0⟩,
          ⟨(some 38), .bin .add (.tmp 36) (.tmp 37), none, 0⟩,
          ⟨(some 50), .iaddr none 1 (.tmp 35) (.tmp 38), none, 0⟩,
          ⟨none, .store 1 (.tmp 50) (.tmp 48), none, 0⟩])
        (.region [⟨(some 51), .mov (.tmp 0), none, 0⟩,
          ⟨(some 52), .mov (.tmp 7), none, 0⟩,
          ⟨(some 53), .mov (.tmp 10), none, 0⟩,
          ⟨(some 54), .mov (.tmp 6), none, 0⟩,
          ⟨(some 55), .call Id.slices_siftDownOrdered_int [.tmp 51, .tmp 52, .tmp 53, .tmp 54], none, 0⟩])))
        (.region [⟨(some 31), .mov (.tmp 10), none, 0⟩,
          ⟨(some 32), .bin .sub (.tmp 31) (.const (.int .i64 1)), none, 0⟩,
          ⟨(some 10), .mov (.tmp 32), none, 0⟩]))))))))) }

def F.slices_breakPatternsOrdered_int : IFunc :=
  { lb := [], scr := false, nargs := 3, res := [],
    body := .seq (.region [⟨(some 11), .mov (.tmp 2), none, 0⟩,
        ⟨(some 12), .mov (.tmp 1), none, 0⟩,
        ⟨(some 13), .bin .sub (.tmp 11) (.tmp 12), none, 0⟩,
        ⟨(some 6), .mov (.tmp 13), none, 0⟩])
      (.seq (.region [⟨(some 14), .mov (.tmp 6), none, 0⟩,
        ⟨(some 15), .bin .geq (.tmp 14) (.const (.int .i64 8)), none, 0⟩])
      (.cond (.tmp 15)
        (.seq (.region [⟨(some 16), .mov (.tmp 6), none, 0⟩,
          ⟨(some 17), .conv (.int .u64) (.tmp 16), none, 0⟩,
          ⟨(some 7), .box (.const (.int .u64 0)), none, 0⟩,
          ⟨none, .store 1 (.tmp 7) (.tmp 17), none, 0⟩])
        (.seq (.region [⟨(some 18), .mov (.tmp 6), none, 0⟩,
          ⟨(some 19), .call Id.slices_nextPowerOfTwo [.tmp 18], none, 0⟩,
          ⟨(some 8), .mov (.tmp 19), none, 0⟩])
        (.seq (.region [⟨(some 20), .mov (.tmp 1), none, 0⟩,
          ⟨(some 21), .mov (.tmp 6), none, 0⟩,
          ⟨(some 22), .bin .quo (.tmp 21) (.const (.int .i64 4)), none, 0⟩,
          ⟨(some 23), .bin .mul (.tmp 22) (.const (.int .i64 2)), none, 0⟩,
          ⟨(some 24), .bin .add (.tmp 20) (.tmp 23), none, 0⟩,
          ⟨(some 25), .bin .sub (.tmp 24) (.const (.int .i64 1)), none, 0⟩,
          ⟨(some 9), .mov (.tmp 25), none, 0⟩])
        (.block 0 (.loop [0, 1, 6, 7, 8, 9]
          (.seq (.seq (.region [⟨(some 26), .mov (.tmp 9), none, 0⟩,
            ⟨(some 27), .mov (.tmp 1), none, 0⟩,
            ⟨(some 28), .mov (.tmp 6), none, 0⟩,
            ⟨(some 29), .bin .quo (.tmp 28) (.const (.int .i64 4)), none, 0⟩,
            ⟨(some 30), .bin .mul (.tmp 29) (.const (.int .i64 2)), none, 0⟩,
            ⟨(some 31), .bin .add (.tmp 27) (.tmp 30), none, 0⟩,
            ⟨(some 32), .bin .add (.tmp 31) (.const (.int .i64 1)), none, 0⟩,
            ⟨(some 33), .bin .leq (.tmp 26) (.tmp 32), none, 0⟩])
          (.cond (.tmp 33)
            (.skip)
            (.exit 0)))
          (.seq (.block 1 (.seq (.region [⟨(some 36), .call Id.slices_xorshift_Next [.tmp 7], none, 0⟩,
            ⟨(some 37), .mov (.tmp 8), none, 0⟩,
            ⟨(some 38), .bin .sub (.tmp 37) (.const (.int .u64 1)), none, 0⟩,
            ⟨(some 39), .bin .and (.tmp 36) (.tmp 38), none, 0⟩,
            ⟨(some 40), .conv (.int .i64) (.tmp 39), none, 0⟩,
            ⟨(some 10), .mov (.tmp 40), none, 0⟩])
          (.seq (.seq (.region [⟨(some 41), .mov (.tmp 10), none, 0⟩,
            ⟨(some 42), .mov (.tmp 6), none, 0⟩,
            ⟨(some 43), .bin .geq (.tmp 41) (.tmp 42), none, 0⟩])
          (.cond (.tmp 43)
            (.region [⟨(some 44), .mov (.tmp 10), none, 0⟩,
              ⟨(some 45), .mov (.tmp 6), none, 0⟩,
              ⟨(some 46), .bin .sub (.tmp 44) (.tmp 45), none, 0⟩,
              ⟨(some 10), .mov (.tmp 46), none, 0⟩])
            (.skip)))
          (.region [⟨(some 47), .mov (.tmp 0), none, 0⟩,
            ⟨(some 48), .mov (.tmp 9), none, 0⟩,
            ⟨(some 53), .mov (.tmp 0), none, 0⟩,
            ⟨(some 54), .mov (.tmp 1), none, 0⟩,
            ⟨(some 55), .mov (.tmp 10), none, 0⟩,
            ⟨(some 56), .bin .add (.tmp 54) (.tmp 55), none, 0⟩,
            ⟨(some 57), .iaddr none 1 (.tmp 53) (.tmp 56), none, 0⟩,
            ⟨(some 58), .load none (.tmp 57), none, 0⟩,
            ⟨(some 59), .mov (.tmp 0), none, 0⟩,
            ⟨(some 60), .mov (.tmp 9), none, 0⟩,
            ⟨(some 61), .iaddr none 1 (.tmp 59) (.tmp 60), none, 0⟩,
            ⟨(some 62), .load none (.tmp 61), none, 0⟩,
            ⟨(some 63), .iaddr none 1 (.tmp 47) (.tmp 48), none, 0⟩,
            ⟨none, .store 1 (.tmp 63) (.tmp 58), none, 0⟩,
            ⟨(some 49), .mov (.tmp 0), none, 0⟩,
            ⟨(some 50), .mov (.tmp 1), none, 0⟩,
            ⟨(some 51), .mov (.tmp 10), none, 0⟩,
            ⟨(some 52), .bin .add (.tmp 50) (.tmp 51), none, 0⟩,
            ⟨(some 64), .iaddr none 1 (.tmp 49) (.tmp 52), none, 0⟩,
            ⟨none, .store 1 (.tmp 64) (.tmp 62), none, 0⟩]))))
          (.region [⟨(some 34), .mov (.tmp 9), none, 0⟩,
            ⟨(some 35), .bin .add (.tmp 34) (.const (.int .i64 1)), none, 0⟩,
            ⟨(some 9), .mov (.tmp 35), none, 0⟩]))))))))
        (.skip))) }

def F.slices_choosePivotOrdered_int : IFunc :=
  { lb := [], scr := false, nargs := 3, res := [.tmp 6, .tmp 7],
    body := .seq (.region [⟨(some 6), .mov (.const (.int .i64 0)), none, 0⟩,
        ⟨(some 7), .mov (.const (.int .i64 0)), none, 0⟩])
      (.seq (.region [⟨(some 13), .mov (.tmp 2), none, 0⟩,
        ⟨(some 14), .mov (.tmp 1), none, 0⟩,
        ⟨(some 15), .bin .sub (.tmp 13) (.tmp 14), none, 0⟩,
        ⟨(some 8), .mov (.tmp 15), none, 0⟩])
      (.seq (.region [⟨(some 9), .box (.const (.int .i64 0)), none, 0⟩])
      (.seq (.region [⟨(some 16), .mov (.tmp 1), none, 0⟩,
        ⟨(some 17), .mov (.tmp 8), none, 0⟩,
        ⟨(some 18), .bin .quo (.tmp 17) (.const (.int .i64 4)), none, 0⟩,
        ⟨(some 19), .bin .mul (.tmp 18) (.const (.int .i64 1)), none, 0⟩,
        ⟨(some 20), .bin .add (.tmp 16) (.tmp 19), none, 0⟩,
        ⟨(some 10), .mov (.tmp 20), none, 0⟩])
      (.seq (.region [⟨(some 21), .mov (.tmp 1), none, 0⟩,
        ⟨(some 22), .mov (.tmp 8), none, 0⟩,
        ⟨(some 23), .bin .quo (.tmp 22) (.const (.int .i64 4)), none, 0⟩,
        ⟨(some 24), .bin .mul (.tmp 23) (.const (.int .i64 2)), none, 0⟩,
        ⟨(some 25), .bin .add (.tmp 21) (.tmp 24), none, 0⟩,
        ⟨(some 11), .mov (.tmp 25), none, 0⟩])
      (.seq (.region [⟨(some 26), .mov (.tmp 1), none, 0⟩,
        ⟨(some 27), .mov (.tmp 8), none, 0⟩,
        ⟨(some 28), .bin .quo (.tmp 27) (.const (.int .i64 4)), none, 0⟩,
        ⟨(some 29), .bin .mul (.tmp 28) (.const (.int .i64 3)), none, 0⟩,
        ⟨(some 30), .bin .add (.tmp 26) (.tmp 29), none, 0⟩,
        ⟨(some 12), .mov (.tmp 30), none, 0⟩])
      (.seq (.seq (.region [⟨(some 31), .mov (.tmp 8), none, 0⟩,
        ⟨(some 32), .bin .geq (.tmp 31) (.const (.int .i64 8)), none, 0⟩])
      (.cond (.tmp 32)
        (.seq (.seq (.region [⟨(some 33), .mov (.tmp 8), none, 0⟩,
          ⟨(some 34), .bin .geq (.tmp 33) (.const (.int .i64 50)), none, 0⟩])
        (.cond (.tmp 34)
          (.seq (.region [⟨(some 35), .mov (.tmp 0), none, 0⟩,
            ⟨(some 36), .mov (.tmp 10), none, 0⟩,
            ⟨(some 37), .call Id.slices_medianAdjacentOrdered_int [.tmp 35, .tmp 36, .tmp 9], none, 0⟩,
            ⟨(some 10), .mov (.tmp 37), none, 0⟩])
          (.seq (.region [⟨(some 38), .mov (.tmp 0), none, 0⟩,
            ⟨(some 39), .mov (.tmp 11), none, 0⟩,
            ⟨(some 40), .call Id.slices_medianAdjacentOrdered_int [.tmp 38, .tmp 39, .tmp 9], none, 0⟩,
            ⟨(some 11), .mov (.tmp 40), none, 0⟩])
          (.region [⟨(some 41), .mov (.tmp 0), none, 0⟩,
            ⟨(some 42), .mov (.tmp 12), none, 0⟩,
            ⟨(some 43), .call Id.slices_medianAdjacentOrdered_int [.tmp 41, .tmp 42, .tmp 9], none, 0⟩,
            ⟨(some 12), .mov (.tmp 43), none, 0⟩])))
          (.skip)))
        (.region [⟨(some 44), .mov (.tmp 0), none, 0⟩,
          ⟨(some 45), .mov (.tmp 10), none, 0⟩,
          ⟨(some 46), .mov (.tmp 11), none, 0⟩,
          ⟨(some 47), .mov (.tmp 12), none, 0⟩,
          ⟨(some 48), .call Id.slices_medianOrdered_int [.tmp 44, .tmp 45, .tmp 46, .tmp 47, .tmp 9], none, 0⟩,
          ⟨(some 11), .mov (.tmp 48), none, 0⟩]))
        (.skip)))
      (.seq (.region [⟨(some 49), .load none (.tmp 9), none, 0⟩])
      (.block 0 (.seq (.region [⟨(some 52), .bin .eql (.tmp 49) (.const (.int .i64 0)), none, 0⟩,
        ⟨(some 51), .mov (.tmp 52), none, 0⟩])
      (.cond (.tmp 51)
        (.seq (.region [⟨(some 53), .mov (.tmp 11), none, 0⟩,
          ⟨(some 6), .mov (.tmp 53), none, 0⟩,
          ⟨(some 7), .mov (.const (.int .i64 1)), none, 0⟩])
        (.ret))
        (.seq (.region [⟨(some 55), .bin .eql (.tmp 49) (.const (.int .i64 12)), none, 0⟩,
          ⟨(some 54), .mov (.tmp 55), none, 0⟩])
        (.cond (.tmp 54)
          (.seq (.region [⟨(some 56), .mov (.tmp 11), none, 0⟩,
            ⟨(some 6), .mov (.tmp 56), none, 0⟩,
            ⟨(some 7), .mov (.const (.int .i64 2)), none, 0⟩])
          (.ret))
          (.seq (.region [⟨(some 50), .mov (.tmp 11), none, 0⟩,
            ⟨(some 6), .mov (.tmp 50), none, 0⟩,
            ⟨(some 7), .mov (.const (.int .i64 0)), none, 0⟩])
          (.ret)))))))))))))) }

def F.slices_reverseRangeOrdered_int : IFunc :=
  { lb := [], scr := false, nargs := 3, res := [],
    body := .seq (.region [⟨(some 8), .mov (.tmp 1), none, 0⟩,
        ⟨(some 6), .mov (.tmp 8), none, 0⟩])
      (.seq (.region [⟨(some 9), .mov (.tmp 2), none, 0⟩,
        ⟨(some 10), .bin .sub (.tmp 9) (.const (.int .i64 1)), none, 0⟩,
        ⟨(some 7), .mov (.tmp 10), none, 0⟩])
      (.block 0 (.loop [0, 6, 7]
        (.seq (.seq (.region [⟨(some 11), .mov (.tmp 6), none, 0⟩,
          ⟨(some 12), .mov (.tmp 7), none, 0⟩,
          ⟨(some 13), .bin .lss (.tmp 11) (.tmp 12), none, 0⟩])
        (.cond (.tmp 13)
          (.skip)
          (.exit 0)))
        (.block 1 (.seq (.region [⟨(some 14), .mov (.tmp 0), none, 0⟩,
          ⟨(some 15), .mov (.tmp 6), none, 0⟩,
          ⟨(some 18), .mov (.tmp 0), none, 0⟩,
          ⟨(some 19), .mov (.tmp 7), none, 0⟩,
          ⟨(some 20), .iaddr none 1 (.tmp 18) (.tmp 19), none, 0⟩,
          ⟨(some 21), .load none (.tmp 20), none, 0⟩,
          ⟨(some 22), .mov (.tmp 0), none, 0⟩,
          ⟨(some 23), .mov (.tmp 6), none, 0⟩,
          ⟨(some 24), .iaddr none 1 (.tmp 22) (.tmp 23), none, 0⟩,
          ⟨(some 25), .load none (.tmp 24), none, 0⟩,
          ⟨(some 26), .iaddr none 1 (.tmp 14) (.tmp 15), none, 0⟩,
          ⟨none, .store 1 (.tmp 26) (.tmp 21), none, 0⟩,
          ⟨(some 16), .mov (.tmp 0), none, 0⟩,
          ⟨(some 17), .mov (.tmp 7), none, 0⟩,
          ⟨(some 27), .iaddr none 1 (.tmp 16) (.tmp 17), none, 0⟩,
          ⟨none, .store 1 (.tmp 27) (.tmp 25), none, 0⟩])
        (.seq (.region [⟨(some 28), .mov (.tmp 6), none, 0⟩,
          ⟨(some 29), .bin .add (.tmp 28) (.const (.int .i64 1)), none, 0⟩,
          ⟨(some 6), .mov (.tmp 29), none, 0⟩])
        (.region [⟨(some 30), .mov (.tmp 7), none, 0⟩,
          ⟨(some 31), .bin .sub (.tmp 30) (.const (.int .i64 1)), none, 0⟩,
          ⟨(some 7), .mov (.tmp 31), none, 0⟩])))))))) }

def F.slices_partialInsertionSortOrdered_int : IFunc :=
  { lb := [], scr := false, nargs := 3, res := [.tmp 6],
    body := .seq (.region [⟨(some 6), .mov (.const (.bool false)), none, 0⟩])
      (.seq (.region [⟨(some 11), .mov (.tmp 1), none, 0⟩,
        ⟨(some 12), .bin .add (.tmp 11) (.const (.int .i64 1)), none, 0⟩,
        ⟨(some 7), .mov (.tmp 12), none, 0⟩])
      (.seq (.seq (.region [⟨(some 8), .mov (.const (.int .i64 0)), none, 0⟩])
      (.block 0 (.loop [0, 1, 2, 7, 8]
        (.seq (.seq (.region [⟨(some 13), .mov (.tmp 8), none, 0⟩,
          ⟨(some 14), .bin .lss (.tmp 13) (.const (.int .i64 5)), none, 0⟩])
        (.cond (.tmp 14)
          (.skip)
          (.exit 0)))
        (.seq (.block 1 (.seq (.block 2 (.loop [0, 1, 2, 7, 8]
          (.seq (.seq (.region [⟨(some 17), .mov (.tmp 7), none, 0⟩,
            ⟨(some 18), .mov (.tmp 2), none, 0⟩,
            ⟨(some 19), .bin .lss (.tmp 17) (.tmp 18), none, 0⟩,
            ⟨(some 20), .mov (.tmp 19), none, 0⟩,
            ⟨(some 21), .mov (.tmp 0), (some (20, true)), 0⟩,
            ⟨(some 22), .mov (.tmp 7), (some (20, true)), 0⟩,
            ⟨(some 23), .iaddr none 1 (.tmp 21) (.tmp 22), (some (20, true)), 0⟩,
            ⟨(some 24), .load none (.tmp 23), (some (20, true)), 0⟩,
            ⟨(some 25), .mov (.tmp 0), (some (20, true)), 0⟩,
            ⟨(some 26), .mov (.tmp 7), (some (20, true)), 0⟩,
            ⟨(some 27), .bin .sub (.tmp 26) (.const (.int .i64 1)), (some (20, true)), 0⟩,
            ⟨(some 28), .iaddr none 1 (.tmp 25) (.tmp 27), (some (20, true)), 0⟩,
            ⟨(some 29), .load none (.tmp 28), (some (20, true)), 0⟩,
            ⟨(some 30), .call Id.cmp_Less_int [.tmp 24, .tmp 29], (some (20, true)), 0⟩,
            ⟨(some 31), .un .not (.tmp 30), (some (20, true)), 0⟩,
            ⟨(some 32), .pick (.tmp 20) (.tmp 31) (.const (.bool false)), none, 0⟩])
          (.cond (.tmp 32)
            (.skip)
            (.exit 2)))
          (.block 3 (.region [⟨(some 33), .mov (.tmp 7), none, 0⟩,
            ⟨(some 34), .bin .add (.tmp 33) (.const (.int .i64 1)), none, 0⟩,
            ⟨(some 7), .mov (.tmp 34), none, 0⟩])))))
        (.seq (.seq (.region [⟨(some 35), .mov (.tmp 7), none, 0⟩,
          ⟨(some 36), .mov (.tmp 2), none, 0⟩,
          ⟨(some 37), .bin .eql (.tmp 35) (.tmp 36), none, 0⟩])
        (.cond (.tmp 37)
          (.seq (.region [⟨(some 6), .mov (.const (.bool true)), none, 0⟩])
          (.ret))
          (.skip)))
        (.seq (.seq (.region [⟨(some 38), .mov (.tmp 2), none, 0⟩,
          ⟨(some 39), .mov (.tmp 1), none, 0⟩,
          ⟨(some 40), .bin .sub (.tmp 38) (.tmp 39), none, 0⟩,
          ⟨(some 41), .bin .lss (.tmp 40) (.const (.int .i64 50)), none, 0⟩])
        (.cond (.tmp 41)
          (.seq (.region [⟨(some 6), .mov (.const (.bool false)), none, 0⟩])
          (.ret))
          (.skip)))
        (.seq (.region [⟨(some 42), .mov (.tmp 0), none, 0⟩,
          ⟨(some 43), .mov (.tmp 7), none, 0⟩,
          ⟨(some 47), .mov (.tmp 0), none, 0⟩,
          ⟨(some 48), .mov (.tmp 7), none, 0⟩,
          ⟨(some 49), .bin .sub (.tmp 48) (.const (.int .i64 1)), none, 0⟩,
          ⟨(some 50), .iaddr none 1 (.tmp 47) (.tmp 49), none, 0⟩,
          ⟨(some 51), .load none (.tmp 50), none, 0⟩,
          ⟨(some 52), .mov (.tmp 0), none, 0⟩,
          ⟨(some 53), .mov (.tmp 7), none, 0⟩,
          ⟨(some 54), .iaddr none 1 (.tmp 52) (.tmp 53), none, 0⟩,
          ⟨(some 55), .load none (.tmp 54), none, 0⟩,
          ⟨(some 56), .iaddr none 1 (.tmp 42) (.tmp 43), none, 0⟩,
          ⟨none, .store 1 (.tmp 56) (.tmp 51), none, 0⟩,
          ⟨(some 44), .mov (.tmp 0), none, 0⟩,
          ⟨(some 45), .mov (.tmp 7), none, 0⟩,
          ⟨(some 46), .bin .sub (.tmp 45) (.const (.int .i64 1)), none, 0⟩,
          ⟨(some 57), .iaddr none 1 (.tmp 44) (.tmp 46), none, 0⟩,
          ⟨none, .store 1 (.tmp 57) (.tmp 55), none, 0⟩])
        (.seq (.seq (.region [⟨(some 58), .mov (.tmp 7), none, 0⟩,
          ⟨(some 59), .mov (.tmp 1), none, 0⟩,
          ⟨(some 60), .bin .sub (.tmp 58) (.tmp 59), none, 0⟩,
          ⟨(some 61), .bin .geq (.tmp 60) (.const (.int .i64 2)), none, 0⟩])
        (.cond (.tmp 61)
          (.seq (.region [⟨(some 62), .mov (.tmp 7), none, 0⟩,
            ⟨(some 63), .bin .sub (.tmp 62) (.const (.int .i64 1)), none, 0⟩,
            ⟨(some 9), .mov (.tmp 63), none, 0⟩])
          (.block 4 (.loop [0, 1, 2, 7, 8, 9]
            (.seq (.seq (.region [⟨(some 64), .mov (.tmp 9), none, 0⟩,
              ⟨(some 65), .bin .geq (.tmp 64) (.const (.int .i64 1)), none, 0⟩])
            (.cond (.tmp 65)
              (.skip)
              (.exit 4)))
            (.seq (.block 5 (.seq (.seq (.region [⟨(some 68), .mov (.tmp 0), none, 0⟩,
              ⟨(some 69), .mov (.tmp 9), none, 0⟩,
              ⟨(some 70), .iaddr none 1 (.tmp 68) (.tmp 69), none, 0⟩,
              ⟨(some 71), .load none (.tmp 70), none, 0⟩,
              ⟨(some 72), .mov (.tmp 0), none, 0⟩,
              ⟨(some 73), .mov (.tmp 9), none, 0⟩,
              ⟨(some 74), .bin .sub (.tmp 73) (.const (.int .i64 1)), none, 0⟩,
              ⟨(some 75), .iaddr none 1 (.tmp 72) (.tmp 74), none, 0⟩,
              ⟨(some 76), .load none (.tmp 75), none, 0⟩,
              ⟨(some 77), .call Id.cmp_Less_int [.tmp 71, .tmp 76], none, 0⟩,
              ⟨(some 78), .un .not (.tmp 77), none, 0⟩])
            (.cond (.tmp 78)
              (.exit 4)
              (.skip)))
            (.region [⟨(some 79), .mov (.tmp 0), none, 0⟩,
              ⟨(some 80), .mov (.tmp 9), none, 0⟩,
              ⟨(some 84), .mov (.tmp 0), none, 0⟩,
              ⟨(some 85), .mov (.tmp 9), none, 0⟩,
              ⟨(some 86), .bin .sub (.tmp 85) (.const (.int .i64 1)), none, 0⟩,
              ⟨(some 87), .iaddr none 1 (.tmp 84) (.tmp 86), none, 0⟩,
              ⟨(some 88), .load none (.tmp 87), none, 0⟩,
              ⟨(some 89), .mov (.tmp 0), none, 0⟩,
              ⟨(some 90), .mov (.tmp 9), none, 0⟩,
              ⟨(some 91), .iaddr none 1 (.tmp 89) (.tmp 90), none, 0⟩,
              ⟨(some 92), .load none (.tmp 91), none, 0⟩,
              ⟨(some 93), .iaddr none 1 (.tmp 79) (.tmp 80), none, 0⟩,
              ⟨none, .store 1 (.tmp 93) (.tmp 88), none, 0⟩,
              ⟨(some 81), .mov (.tmp 0), none, 0⟩,
              ⟨(some 82), .mov (.tmp 9), none, 0⟩,
              ⟨(some 83), .bin .sub (.tmp 82) (.const (.int .i64 1)), none, 0⟩,
              ⟨(some 94), .iaddr none 1 (.tmp 81) (.tmp 83), none, 0⟩,
              ⟨none, .store 1 (.tmp 94) (.tmp 92), none, 0⟩])))
            (.region [⟨(some 66), .mov (.tmp 9), none, 0⟩,
              ⟨(some 67), .bin .sub (.tmp 66) (.const (.int .i64 1)), none, 0⟩,
              ⟨(some 9), .mov (.tmp 67), none, 0⟩]))))))
          (.skip)))
        (.seq (.region [⟨(some 95), .mov (.tmp 2), none, 0⟩,
          ⟨(some 96), .mov (.tmp 7), none, 0⟩,
          ⟨(some 97), .bin .sub (.tmp 95) (.tmp 96), none, 0⟩,
          ⟨(some 98), .bin .geq (.tmp 97) (.const (.int .i64 2)), none, 0⟩])
        (.cond (.tmp 98)
          (.seq (.region [⟨(some 99), .mov (.tmp 7), none, 0⟩,
            ⟨(some 100), .bin .add (.tmp 99) (.const (.int .i64 1)), none, 0⟩,
            ⟨(some 10), .mov (.tmp 100), none, 0⟩])
          (.block 6 (.loop [0, 1, 2, 7, 8, 10]
            (.seq (.seq (.region [⟨(some 101), .mov (.tmp 10), none, 0⟩,
              ⟨(some 102), .mov (.tmp 2), none, 0⟩,
              ⟨(some 103), .bin .lss (.tmp 101) (.tmp 102), none, 0⟩])
            (.cond (.tmp 103)
              (.skip)
              (.exit 6)))
            (.seq (.block 7 (.seq (.seq (.region [⟨(some 106), .mov (.tmp 0), none, 0⟩,
              ⟨(some 107), .mov (.tmp 10), none, 0⟩,
              ⟨(some 108), .iaddr none 1 (.tmp 106) (.tmp 107), none, 0⟩,
              ⟨(some 109), .load none (.tmp 108), none, 0⟩,
              ⟨(some 110), .mov (.tmp 0), none, 0⟩,
              ⟨(some 111), .mov (.tmp 10), none, 0⟩,
              ⟨(some 112), .bin .sub (.tmp 111) (.const (.int .i64 1)), none, 0⟩,
              ⟨(some 113), .iaddr none 1 (.tmp 110) (.tmp 112), none, 0⟩,
              ⟨(some 114), .load none (.tmp 113), none, 0⟩,
              ⟨(some 115), .call Id.cmp_Less_int [.tmp 109, .tmp 114], none, 0⟩,
              ⟨(some 116), .un .not (.tmp 115), none, 0⟩])
            (.cond (.tmp 116)
              (.exit 6)
              (.skip)))
            (.region [⟨(some 117), .mov (.tmp 0), none, 0⟩,
              ⟨(some 118), .mov (.tmp 10), none, 0⟩,
              ⟨(some 122), .mov (.tmp 0), none, 0⟩,
              ⟨(some 123), .mov (.tmp 10), none, 0⟩,
              ⟨(some 124), .bin .sub (.tmp 123) (.const (.int .i64 1)), none, 0⟩,
              ⟨(some 125), .iaddr none 1 (.tmp 122) (.tmp 124), none, 0⟩,
              ⟨(some 126), .load none (.tmp 125), none, 0⟩,
              ⟨(some 127), .mov (.tmp 0), none, 0⟩,
              ⟨(some 128), .mov (.tmp 10), none, 0⟩,
              ⟨(some 129), .iaddr none 1 (.tmp 127) (.tmp 128), none, 0⟩,
              ⟨(some 130), .load none (.tmp 129), none, 0⟩,
              ⟨(some 131), .iaddr none 1 (.tmp 117) (.tmp 118), none, 0⟩,
              ⟨none, .store 1 (.tmp 131) (.tmp 126), none, 0⟩,
              ⟨(some 119), .mov (.tmp 0), none, 0⟩,
              ⟨(some 120), .mov (.tmp 10), none, 0⟩,
              ⟨(some 121), .bin .sub (.tmp 120) (.const (.int .i64 1)), none, 0⟩,
              ⟨(some 132), .iaddr none 1 (.tmp 119) (.tmp 121), none, 0⟩,
              ⟨none, .store 1 (.tmp 132) (.tmp 130), none, 0⟩])))
            (.region [⟨(some 104), .mov (.tmp 10), none, 0⟩,
              ⟨(some 105), .bin .add (.tmp 104) (.const (.int .i64 1)), none, 0⟩,
              ⟨(some 10), .mov (.tmp 105), none, 0⟩]))))))
          (.skip)))))))))
        (.region [⟨(some 15), .mov (.tmp 8), none, 0⟩,
          ⟨(some 16), .bin .add (.tmp 15) (.const (.int .i64 1)), none, 0⟩,
          ⟨(some 8), .mov (.tmp 16), none, 0⟩]))))))
      (.seq (.region [⟨(some 6), .mov (.const (.bool false)), none, 0⟩])
      (.ret)))) }

def F.cmp_Less_int : IFunc :=
  { lb := [], scr := true, nargs := 2, res := [.tmp 4],
    body := .seq (.region [⟨(some 4), .mov (.const (.bool false)), none, 0⟩])
      (.seq (.region [⟨(some 5), .mov (.tmp 0), none, 0⟩,
        ⟨(some 6), .call Id.cmp_isNaN_int [.tmp 5], none, 0⟩,
        ⟨(some 7), .mov (.tmp 6), none, 0⟩,
        ⟨(some 8), .mov (.tmp 1), (some (7, true)), 0⟩,
        ⟨(some 9), .call Id.cmp_isNaN_int [.tmp 8], (some (7, true)), 0⟩,
        ⟨(some 10), .un .not (.tmp 9), (some (7, true)), 0⟩,
        ⟨(some 11), .pick (.tmp 7) (.tmp 10) (.const (.bool false)), none, 0⟩,
        ⟨(some 12), .mov (.tmp 11), none, 0⟩,
        ⟨(some 13), .mov (.tmp 0), (some (12, false)), 0⟩,
        ⟨(some 14), .mov (.tmp 1), (some (12, false)), 0⟩,
        ⟨(some 15), .bin .lss (.tmp 13) (.tmp 14), (some (12, false)), 0⟩,
        ⟨(some 16), .pick (.tmp 12) (.const (.bool true)) (.tmp 15), none, 0⟩,
        ⟨(some 4), .mov (.tmp 16), none, 0⟩])
      (.ret)) }

def F.slices_partitionEqualOrdered_int : IFunc :=
  { lb := [], scr := false, nargs := 4, res := [.tmp 8],
    body := .seq (.region [⟨(some 8), .mov (.const (.int .i64 0)), none, 0⟩])
      (.seq (.region [⟨(some 11), .mov (.tmp 0), none, 0⟩,
        ⟨(some 12), .mov (.tmp 1), none, 0⟩,
        ⟨(some 15), .mov (.tmp 0), none, 0⟩,
        ⟨(some 16), .mov (.tmp 3), none, 0⟩,
        ⟨(some 17), .iaddr none 1 (.tmp 15) (.tmp 16), none, 0⟩,
        ⟨(some 18), .load none (.tmp 17), none, 0⟩,
        ⟨(some 19), .mov (.tmp 0), none, 0⟩,
        ⟨(some 20), .mov (.tmp 1), none, 0⟩,
        ⟨(some 21), .iaddr none 1 (.tmp 19) (.tmp 20), none, 0⟩,
        ⟨(some 22), .load none (.tmp 21), none, 0⟩,
        ⟨(some 23), .iaddr none 1 (.tmp 11) (.tmp 12), none, 0⟩,
        ⟨none, .store 1 (.tmp 23) (.tmp 18), none, 0⟩,
        ⟨(some 13), .mov (.tmp 0), none, 0⟩,
        ⟨(some 14), .mov (.tmp 3), none, 0⟩,
        ⟨(some 24), .iaddr none 1 (.tmp 13) (.tmp 14), none, 0⟩,
        ⟨none, .store 1 (.tmp 24) (.tmp 22), none, 0⟩])
      (.seq (.region [⟨(some 25), .mov (.tmp 1), none, 0⟩,
        ⟨(some 26), .bin .add (.tmp 25) (.const (.int .i64 1)), none, 0⟩,
        ⟨(some 27), .mov (.tmp 2), none, 0⟩,
        ⟨(some 28), .bin .sub (.tmp 27) (.const (.int .i64 1)), none, 0⟩,
        ⟨(some 9), .mov (.tmp 26), none, 0⟩,
        ⟨(some 10), .mov (.tmp 28), none, 0⟩])
      (.seq (.block 0 (.loop [0, 1, 9, 10]
        (.block 1 (.seq (.block 2 (.loop [0, 1, 9, 10]
          (.seq (.seq (.region [⟨(some 29), .mov (.tmp 9), none, 0⟩,
            ⟨(some 30), .mov (.tmp 10), none, 0⟩,
            ⟨(some 31), .bin .leq (.tmp 29) (.tmp 30), none, 0⟩,
            ⟨(some 32), .mov (.tmp 31), none, 0⟩,
            ⟨(some 33), .mov (.tmp 0), (some (32, true)), 0⟩,
            ⟨(some 34), .mov (.tmp 1), (some (32, true)), 0⟩,
            ⟨(some 35), .iaddr none 1 (.tmp 33) (.tmp 34), (some (32, true)), 0⟩,
            ⟨(some 36), .load none (.tmp 35), (some (32, true)), 0⟩,
            ⟨(some 37), .mov (.tmp 0), (some (32, true)), 0⟩,
            ⟨(some 38), .mov (.tmp 9), (some (32, true)), 0⟩,
            ⟨(some 39), .iaddr none 1 (.tmp 37) (.tmp 38), (some (32, true)), 0⟩,
            ⟨(some 40), .load none (.tmp 39), (some (32, true)), 0⟩,
            ⟨(some 41), .call Id.cmp_Less_int [.tmp 36, .tmp 40], (some (32, true)), 0⟩,
            ⟨(some 42), .un .not (.tmp 41), (some (32, true)), 0⟩,
            ⟨(some 43), .pick (.tmp 32) (.tmp 42) (.const (.bool false)), none, 0⟩])
          (.cond (.tmp 43)
            (.skip)
            (.exit 2)))
          (.block 3 (.region [⟨(some 44), .mov (.tmp 9), none, 0⟩,
            ⟨(some 45), .bin .add (.tmp 44) (.const (.int .i64 1)), none, 0⟩,
            ⟨(some 9), .mov (.tmp 45), none, 0⟩])))))
        (.seq (.block 4 (.loop [0, 1, 9, 10]
          (.seq (.seq (.region [⟨(some 46), .mov (.tmp 9), none, 0⟩,
            ⟨(some 47), .mov (.tmp 10), none, 0⟩,
            ⟨(some 48), .bin .leq (.tmp 46) (.tmp 47), none, 0⟩,
            ⟨(some 49), .mov (.tmp 48), none, 0⟩,
            ⟨(some 50), .mov (.tmp 0), (some (49, true)), 0⟩,
            ⟨(some 51), .mov (.tmp 1), (some (49, true)), 0⟩,
            ⟨(some 52), .iaddr none 1 (.tmp 50) (.tmp 51), (some (49, true)), 0⟩,
            ⟨(some 53), .load none (.tmp 52), (some (49, true)), 0⟩,
            ⟨(some 54), .mov (.tmp 0), (some (49, true)), 0⟩,
            ⟨(some 55), .mov (.tmp 10), (some (49, true)), 0⟩,
            ⟨(some 56), .iaddr none 1 (.tmp 54) (.tmp 55), (some (49, true)), 0⟩,
            ⟨(some 57), .load none (.tmp 56), (some (49, true)), 0⟩,
            ⟨(some 58), .call Id.cmp_Less_int [.tmp 53, .tmp 57], (some (49, true)), 0⟩,
            ⟨(some 59), .pick (.tmp 49) (.tmp 58) (.const (.bool false)), none, 0⟩])
          (.cond (.tmp 59)
            (.skip)
            (.exit 4)))
          (.block 5 (.region [⟨(some 60), .mov (.tmp 10), none, 0⟩,
            ⟨(some 61), .bin .sub (.tmp 60) (.const (.int .i64 1)), none, 0⟩,
            ⟨(some 10), .mov (.tmp 61), none, 0⟩])))))
        (.seq (.seq (.region [⟨(some 62), .mov (.tmp 9), none, 0⟩,
          ⟨(some 63), .mov (.tmp 10), none, 0⟩,
          ⟨(some 64), .bin .gtr (.tmp 62) (.tmp 63), none, 0⟩])
        (.cond (.tmp 64)
          (.exit 0)
          (.skip)))
        (.seq (.region [⟨(some 65), .mov (.tmp 0), none, 0⟩,
          ⟨(some 66), .mov (.tmp 9), none, 0⟩,
          ⟨(some 69), .mov (.tmp 0), none, 0⟩,
          ⟨(some 70), .mov (.tmp 10), none, 0⟩,
          ⟨(some 71), .iaddr none 1 (.tmp 69) (.tmp 70), none, 0⟩,
          ⟨(some 72), .load none (.tmp 71), none, 0⟩,
          ⟨(some 73), .mov (.tmp 0), none, 0⟩,
          ⟨(some 74), .mov (.tmp 9), none, 0⟩,
          ⟨(some 75), .iaddr none 1 (.tmp 73) (.tmp 74), none, 0⟩,
          ⟨(some 76), .load none (.tmp 75), none, 0⟩,
          ⟨(some 77), .iaddr none 1 (.tmp 65) (.tmp 66), none, 0⟩,
          ⟨none, .store 1 (.tmp 77) (.tmp 72), none, 0⟩,
          ⟨(some 67), .mov (.tmp 0), none, 0⟩,
          ⟨(some 68), .mov (.tmp 10), none, 0⟩,
          ⟨(some 78), .iaddr none 1 (.tmp 67) (.tmp 68), none, 0⟩,
          ⟨none, .store 1 (.tmp 78) (.tmp 76), none, 0⟩])
        (.seq (.region [⟨(some 79), .mov (.tmp 9), none, 0⟩,
          ⟨(some 80), .bin .add (.tmp 79) (.const (.int .i64 1)), none, 0⟩,
          ⟨(some 9), .mov (.tmp 80), none, 0⟩])
        (.region [⟨(some 81), .mov (.tmp 10), none, 0⟩,
          ⟨(some 82), .bin .sub (.tmp 81) (.const (.int .i64 1)), none, 0⟩,
          ⟨(some 10), .mov (.tmp 82), none, 0⟩])))))))))
      (.seq (.region [⟨(some 83), .mov (.tmp 9), none, 0⟩,
        ⟨(some 8), .mov (.tmp 83), none, 0⟩])
      (.ret))))) }

def F.slices_partitionOrdered_int : IFunc :=
  { lb := [], scr := false, nargs := 4, res := [.tmp 8, .tmp 9],
    body := .seq (.region [⟨(some 8), .mov (.const (.int .i64 0)), none, 0⟩,
        ⟨(some 9), .mov (.const (.bool false)), none, 0⟩])
      (.seq (.region [⟨(some 12), .mov (.tmp 0), none, 0⟩,
        ⟨(some 13), .mov (.tmp 1), none, 0⟩,
        ⟨(some 16), .mov (.tmp 0), none, 0⟩,
        ⟨(some 17), .mov (.tmp 3), none, 0⟩,
        ⟨(some 18), .iaddr none 1 (.tmp 16) (.tmp 17), none, 0⟩,
        ⟨(some 19), .load none (.tmp 18), none, 0⟩,
        ⟨(some 20), .mov (.tmp 0), none, 0⟩,
        ⟨(some 21), .mov (.tmp 1), none, 0⟩,
        ⟨(some 22), .iaddr none 1 (.tmp 20) (.tmp 21), none, 0⟩,
        ⟨(some 23), .load none (.tmp 22), none, 0⟩,
        ⟨(some 24), .iaddr none 1 (.tmp 12) (.tmp 13), none, 0⟩,
        ⟨none, .store 1 (.tmp 24) (.tmp 19), none, 0⟩,
        ⟨(some 14), .mov (.tmp 0), none, 0⟩,
        ⟨(some 15), .mov (.tmp 3), none, 0⟩,
        ⟨(some 25), .iaddr none 1 (.tmp 14) (.tmp 15), none, 0⟩,
        ⟨none, .store 1 (.tmp 25) (.tmp 23), none, 0⟩])
      (.seq (.region [⟨(some 26), .mov (.tmp 1), none, 0⟩,
        ⟨(some 27), .bin .add (.tmp 26) (.const (.int .i64 1)), none, 0⟩,
        ⟨(some 28), .mov (.tmp 2), none, 0⟩,
        ⟨(some 29), .bin .sub (.tmp 28) (.const (.int .i64 1)), none, 0⟩,
        ⟨(some 10), .mov (.tmp 27), none, 0⟩,
        ⟨(some 11), .mov (.tmp 29), none, 0⟩])
      (.seq (.block 0 (.loop [0, 1, 10, 11]
        (.seq (.seq (.region [⟨(some 30), .mov (.tmp 10), none, 0⟩,
          ⟨(some 31), .mov (.tmp 11), none, 0⟩,
          ⟨(some 32), .bin .leq (.tmp 30) (.tmp 31), none, 0⟩,
          ⟨(some 33), .mov (.tmp 32), none, 0⟩,
          ⟨(some 34), .mov (.tmp 0), (some (33, true)), 0⟩,
          ⟨(some 35), .mov (.tmp 10), (some (33, true)), 0⟩,
          ⟨(some 36), .iaddr none 1 (.tmp 34) (.tmp 35), (some (33, true)), 0⟩,
          ⟨(some 37), .load none (.tmp 36), (some (33, true)), 0⟩,
          ⟨(some 38), .mov (.tmp 0), (some (33, true)), 0⟩,
          ⟨(some 39), .mov (.tmp 1), (some (33, true)), 0⟩,
          ⟨(some 40), .iaddr none 1 (.tmp 38) (.tmp 39), (some (33, true)), 0⟩,
          ⟨(some 41), .load none (.tmp 40), (some (33, true)), 0⟩,
          ⟨(some 42), .call Id.cmp_Less_int [.tmp 37, .tmp 41], (some (33, true)), 0⟩,
          ⟨(some 43), .pick (.tmp 33) (.tmp 42) (.const (.bool false)), none, 0⟩])
        (.cond (.tmp 43)
          (.skip)
          (.exit 0)))
        (.block 1 (.region [⟨(some 44), .mov (.tmp 10), none, 0⟩,
          ⟨(some 45), .bin .add (.tmp 44) (.const (.int .i64 1)), none, 0⟩,
          ⟨(some 10), .mov (.tmp 45), none, 0⟩])))))
      (.seq (.block 2 (.loop [0, 1, 10, 11]
        (.seq (.seq (.region [⟨(some 46), .mov (.tmp 10), none, 0⟩,
          ⟨(some 47), .mov (.tmp 11), none, 0⟩,
          ⟨(some 48), .bin .leq (.tmp 46) (.tmp 47), none, 0⟩,
          ⟨(some 49), .mov (.tmp 48), none, 0⟩,
          ⟨(some 50), .mov (.tmp 0), (some (49, true)), 0⟩,
          ⟨(some 51), .mov (.tmp 11), (some (49, true)), 0⟩,
          ⟨(some 52), .iaddr none 1 (.tmp 50) (.tmp 51), (some (49, true)), 0⟩,
          ⟨(some 53), .load none (.tmp 52), (some (49, true)), 0⟩,
          ⟨(some 54), .mov (.tmp 0), (some (49, true)), 0⟩,
          ⟨(some 55), .mov (.tmp 1), (some (49, true)), 0⟩,
          ⟨(some 56), .iaddr none 1 (.tmp 54) (.tmp 55), (some (49, true)), 0⟩,
          ⟨(some 57), .load none (.tmp 56), (some (49, true)), 0⟩,
          ⟨(some 58), .call Id.cmp_Less_int [.tmp 53, .tmp 57], (some (49, true)), 0⟩,
          ⟨(some 59), .un .not (.tmp 58), (some (49, true)), 0⟩,
          ⟨(some 60), .pick (.tmp 49) (.tmp 59) (.const (.bool false)), none, 0⟩])
        (.cond (.tmp 60)
          (.skip)
          (.exit 2)))
        (.block 3 (.region [⟨(some 61), .mov (.tmp 11), none, 0⟩,
          ⟨(some 62), .bin .sub (.tmp 61) (.const (.int .i64 1)), none, 0⟩,
          ⟨(some 11), .mov (.tmp 62), none, 0⟩])))))
      (.seq (.seq (.region [⟨(some 63), .mov (.tmp 10), none, 0⟩,
        ⟨(some 64), .mov (.tmp 11), none, 0⟩,
        ⟨(some 65), .bin .gtr (.tmp 63) (.tmp 64), none, 0⟩])
      (.cond (.tmp 65)
        (.seq (.region [⟨(some 66), .mov (.tmp 0), none, 0⟩,
          ⟨(some 67), .mov (.tmp 11), none, 0⟩,
          ⟨(some 70), .mov (.tmp 0), none, 0⟩,
          ⟨(some 71), .mov (.tmp 1), none, 0⟩,
          ⟨(some 72), .iaddr none 1 (.tmp 70) (.tmp 71), none, 0⟩,
          ⟨(some 73), .load none (.tmp 72), none, 0⟩,
          ⟨(some 74), .mov (.tmp 0), none, 0⟩,
          ⟨(some 75), .mov (.tmp 11), none, 0⟩,
          ⟨(some 76), .iaddr none 1 (.tmp 74) (.tmp 75), none, 0⟩,
          ⟨(some 77), .load none (.tmp 76), none, 0⟩,
          ⟨(some 78), .iaddr none 1 (.tmp 66) (.tmp 67), none, 0⟩,
          ⟨none, .store 1 (.tmp 78) (.tmp 73), none, 0⟩,
          ⟨(some 68), .mov (.tmp 0), none, 0⟩,
          ⟨(some 69), .mov (.tmp 1), none, 0⟩,
          ⟨(some 79), .iaddr none 1 (.tmp 68) (.tmp 69), none, 0⟩,
          ⟨none, .store 1 (.tmp 79) (.tmp 77), none, 0⟩])
        (.seq (.region [⟨(some 80), .mov (.tmp 11), none, 0⟩,
          ⟨(some 8), .mov (.tmp 80), none, 0⟩,
          ⟨(some 9), .mov (.const (.bool true)), none, 0⟩])
        (.ret)))
        (.skip)))
      (.seq (.region [⟨(some 81), .mov (.tmp 0), none, 0⟩,
        ⟨(some 82), .mov (.tmp 10), none, 0⟩,
        ⟨(some 85), .mov (.tmp 0), none, 0⟩,
        ⟨(some 86), .mov (.tmp 11), none, 0⟩,
        ⟨(some 87), .iaddr none 1 (.tmp 85) (.tmp 86), none, 0⟩,
        ⟨(some 88), .load none (.tmp 87), none, 0⟩,
        ⟨(some 89), .mov (.tmp 0), none, 0⟩,
        ⟨(some 90), .mov (.tmp 10), none, 0⟩,
        ⟨(some 91), .iaddr none 1 (.tmp 89) (.tmp 90), none, 0⟩,
        ⟨(some 92), .load none (.tmp 91), none, 0⟩,
        ⟨(some 93), .iaddr none 1 (.tmp 81) (.tmp 82), none, 0⟩,
        ⟨none, .store 1 (.tmp 93) (.tmp 88), none, 0⟩,
        ⟨(some 83), .mov (.tmp 0), none, 0⟩,
        ⟨(some 84), .mov (.tmp 11), none, 0⟩,
        ⟨(some 94), .iaddr none 1 (.tmp 83) (.tmp 84), none, 0⟩,
        ⟨none, .store 1 (.tmp 94) (.tmp 92), none, 0⟩])
      (.seq (.region [⟨(some 95), .mov (.tmp 10), none, 0⟩,
        ⟨(some 96), .bin .add (.tmp 95) (.const (.int .i64 1)), none, 0⟩,
        ⟨(some 10), .mov (.tmp 96), none, 0⟩])
      (.seq (.region [⟨(some 97), .mov (.tmp 11), none, 0⟩,
        ⟨(some 98), .bin .sub (.tmp 97) (.const (.int .i64 1)), none, 0⟩,
        ⟨(some 11), .mov (.tmp 98), none, 0⟩])
      (.seq (.block 4 (.loop [0, 1, 10, 11]
        (.block 5 (.seq (.block 6 (.loop [0, 1, 10, 11]
          (.seq (.seq (.region [⟨(some 99), .mov (.tmp 10), none, 0⟩,
            ⟨(some 100), .mov (.tmp 11), none, 0⟩,
            ⟨(some 101), .bin .leq (.tmp 99) (.tmp 100), none, 0⟩,
            ⟨(some 102), .mov (.tmp 101), none, 0⟩,
            ⟨(some 103), .mov (.tmp 0), (some (102, true)), 0⟩,
            ⟨(some 104), .mov (.tmp 10), (some (102, true)), 0⟩,
            ⟨(some 105), .iaddr none 1 (.tmp 103) (.tmp 104), (some (102, true)), 0⟩,
            ⟨(some 106), .load none (.tmp 105), (some (102, true)), 0⟩,
            ⟨(some 107), .mov (.tmp 0), (some (102, true)), 0⟩,
            ⟨(some 108), .mov (.tmp 1), (some (102, true)), 0⟩,
            ⟨(some 109), .iaddr none 1 (.tmp 107) (.tmp 108), (some (102, true)), 0⟩,
            ⟨(some 110), .load none (.tmp 109), (some (102, true)), 0⟩,
            ⟨(some 111), .call Id.cmp_Less_int [.tmp 106, .tmp 110], (some (102, true)), 0⟩,
            ⟨(some 112), .pick (.tmp 102) (.tmp 111) (.const (.bool false)), none, 0⟩])
          (.cond (.tmp 112)
            (.skip)
            (.exit 6)))
          (.block 7 (.region [⟨(some 113), .mov (.tmp 10), none, 0⟩,
            ⟨(some 114), .bin .add (.tmp 113) (.const (.int .i64 1)), none, 0⟩,
            ⟨(some 10), .mov (.tmp 114), none, 0⟩])))))
        (.seq (.block 8 (.loop [0, 1, 10, 11]
          (.seq (.seq (.region [⟨(some 115), .mov (.tmp 10), none, 0⟩,
            ⟨(some 116), .mov (.tmp 11), none, 0⟩,
            ⟨(some 117), .bin .leq (.tmp 115) (.tmp 116), none, 0⟩,
            ⟨(some 118), .mov (.tmp 117), none, 0⟩,
            ⟨(some 119), .mov (.tmp 0), (some (118, true)), 0⟩,
            ⟨(some 120), .mov (.tmp 11), (some (118, true)), 0⟩,
            ⟨(some 121), .iaddr none 1 (.tmp 119) (.tmp 120), (some (118, true)), 0⟩,
            ⟨(some 122), .load none (.tmp 121), (some (118, true)), 0⟩,
            ⟨(some 123), .mov (.tmp 0), (some (118, true)), 0⟩,
            ⟨(some 124), .mov (.tmp 1), (some (118, true)), 0⟩,
            ⟨(some 125), .iaddr none 1 (.tmp 123) (.tmp 124), (some (118, true)), 0⟩,
            ⟨(some 126), .load none (.tmp 125), (some (118, true)), 0⟩,
            ⟨(some 127), .call Id.cmp_Less_int [.tmp 122, .tmp 126], (some (118, true)), 0⟩,
            ⟨(some 128), .un .not (.tmp 127), (some (118, true)), 0⟩,
            ⟨(some 129), .pick (.tmp 118) (.tmp 128) (.const (.bool false)), none, 0⟩])
          (.cond (.tmp 129)
            (.skip)
            (.exit 8)))
          (.block 9 (.region [⟨(some 130), .mov (.tmp 11), none, 0⟩,
            ⟨(some 131), .bin .sub (.tmp 130) (.const (.int .i64 1)), none, 0⟩,
            ⟨(some 11), .mov (.tmp 131), none, 0⟩])))))
        (.seq (.seq (.region [⟨(some 132), .mov (.tmp 10), none, 0⟩,
          ⟨(some 133), .mov (.tmp 11), none, 0⟩,
          ⟨(some 134), .bin .gtr (.tmp 132) (.tmp 133), none, 0⟩])
        (.cond (.tmp 134)
          (.exit 4)
          (.skip)))
        (.seq (.region [⟨(some 135), .mov (.tmp 0), none, 0⟩,
          ⟨(some 136), .mov (.tmp 10), none, 0⟩,
          ⟨(some 139), .mov (.tmp 0), none, 0⟩,
          ⟨(some 140), .mov (.tmp 11), none, 0⟩,
          ⟨(some 141), .iaddr none 1 (.tmp 139) (.tmp 140), none, 0⟩,
          ⟨(some 142), .load none (.tmp 141), none, 0⟩,
          ⟨(some 143), .mov (.tmp 0), none, 0⟩,
          ⟨(some 144), .mov (.tmp 10), none, 0⟩,
          ⟨(some 145), .iaddr none 1 (.tmp 143) (.tmp 144), none, 0⟩,
          ⟨(some 146), .load none (.tmp 145), none, 0⟩,
          ⟨(some 147), .iaddr none 1 (.tmp 135) (.tmp 136), none, 0⟩,
          ⟨none, .store 1 (.tmp 147) (.tmp 142), none, 0⟩,
          ⟨(some 137), .mov (.tmp 0), none, 0⟩,
          ⟨(some 138), .mov (.tmp 11), none, 0⟩,
          ⟨(some 148), .iaddr none 1 (.tmp 137) (.tmp 138), none, 0⟩,
          ⟨none, .store 1 (.tmp 148) (.tmp 146), none, 0⟩])
        (.seq (.region [⟨(some 149), .mov (.tmp 10), none, 0⟩,
          ⟨(some 150), .bin .add (.tmp 149) (.const (.int .i64 1)), none, 0⟩,
          ⟨(some 10), .mov (.tmp 150), none, 0⟩])
        (.region [⟨(some 151), .mov (.tmp 11), none, 0⟩,
          ⟨(some 152), .bin .sub (.tmp 151) (.const (.int .i64 1)), none, 0⟩,
          ⟨(some 11), .mov (.tmp 152), none, 0⟩])))))))))
      (.seq (.region [⟨(some 153), .mov (.tmp 0), none, 0⟩,
        ⟨(some 154), .mov (.tmp 11), none, 0⟩,
        ⟨(some 157), .mov (.tmp 0), none, 0⟩,
        ⟨(some 158), .mov (.tmp 1), none, 0⟩,
        ⟨(some 159), .iaddr none 1 (.tmp 157) (.tmp 158), none, 0⟩,
        ⟨(some 160), .load none (.tmp 159), none, 0⟩,
        ⟨(some 161), .mov (.tmp 0), none, 0⟩,
        ⟨(some 162), .mov (.tmp 11), none, 0⟩,
        ⟨(some 163), .iaddr none 1 (.tmp 161) (.tmp 162), none, 0⟩,
        ⟨(some 164), .load none (.tmp 163), none, 0⟩,
        ⟨(some 165), .iaddr none 1 (.tmp 153) (.tmp 154), none, 0⟩,
        ⟨none, .store 1 (.tmp 165) (.tmp 160), none, 0⟩,
        ⟨(some 155), .mov (.tmp 0), none, 0⟩,
        ⟨(some 156), .mov (.tmp 1), none, 0⟩,
        ⟨(some 166), .iaddr none 1 (.tmp 155) (.tmp 156), none, 0⟩,
        ⟨none, .store 1 (.tmp 166) (.tmp 164), none, 0⟩])
      (.seq (.region [⟨(some 167), .mov (.tmp 11), none, 0⟩,
        ⟨(some 8), .mov (.tmp 167), none, 0⟩,
        ⟨(some 9), .mov (.const (.bool false)), none, 0⟩])
      (.ret)))))))))))) }

def F.math_bits_Len32 : IFunc :=
  { lb := [], scr := true, nargs := 1, res := [.tmp 2],
    body := .seq (.region [⟨(some 2), .mov (.const (.int .i64 0)), none, 0⟩])
      (.seq (.seq (.region [⟨(some 3), .mov (.tmp 0), none, 0⟩,
        ⟨(some 4), .bin .geq (.tmp 3) (.const (.int .u32 65536)), none, 0⟩])
      (.cond (.tmp 4)
        (.seq (.region [⟨(some 5), .mov (.tmp 0), none, 0⟩,
          ⟨(some 6), .bin .shr (.tmp 5) (.const (.int .u64 16)), none, 0⟩,
          ⟨(some 0), .mov (.tmp 6), none, 0⟩])
        (.region [⟨(some 2), .mov (.const (.int .i64 16)), none, 0⟩]))
        (.skip)))
      (.seq (.seq (.region [⟨(some 7), .mov (.tmp 0), none, 0⟩,
        ⟨(some 8), .bin .geq (.tmp 7) (.const (.int .u32 256)), none, 0⟩])
      (.cond (.tmp 8)
        (.seq (.region [⟨(some 9), .mov (.tmp 0), none, 0⟩,
          ⟨(some 10), .bin .shr (.tmp 9) (.const (.int .u64 8)), none, 0⟩,
          ⟨(some 0), .mov (.tmp 10), none, 0⟩])
        (.region [⟨(some 11), .mov (.tmp 2), none, 0⟩,
          ⟨(some 12), .bin .add (.tmp 11) (.const (.int .i64 8)), none, 0⟩,
          ⟨(some 2), .mov (.tmp 12), none, 0⟩]))
        (.skip)))
      (.seq (.region [⟨(some 13), .mov (.tmp 2), none, 0⟩,
        ⟨(some 14), .mov (.tmp 0), none, 0⟩,
        ⟨(some 15), .conv (.int .u8) (.tmp 14), none, 0⟩,
        ⟨(some 16), .indexS (.const (.string ⟨#[0, 1, 2, 2, 3, 3, 3, 3, 4, 4, 4, 4, 4, 4, 4, 4, 5, 5, 5, 5, 5, 5, 5, 5, 5, 5, 5, 5, 5, 5, 5, 5, 6, 6, 6, 6, 6, 6, 6, 6, 6, 6, 6, 6, 6, 6, 6, 6, 6, 6, 6, 6, 6, 6, 6, 6, 6, 6, 6, 6, 6, 6, 6, 6, 7, 7, 7, 7, 7, 7, 7, 7, 7, 7, 7, 7, 7, 7, 7, 7, 7, 7, 7, 7, 7, 7, 7, 7, 7, 7, 7, 7, 7, 7, 7, 7, 7, 7, 7, 7, 7, 7, 7, 7, 7, 7, 7, 7, 7, 7, 7, 7, 7, 7, 7, 7, 7, 7, 7, 7, 7, 7, 7, 7, 7, 7, 7, 7, 8, 8, 8, 8, 8, 8, 8, 8, 8, 8, 8, 8, 8, 8, 8, 8, 8, 8, 8, 8, 8, 8, 8, 8, 8, 8, 8, 8, 8, 8, 8, 8, 8, 8, 8, 8, 8, 8, 8, 8, 8, 8, 8, 8, 8, 8, 8, 8, 8, 8, 8, 8, 8, 8, 8, 8, 8, 8, 8, 8, 8, 8, 8, 8, 8, 8, 8, 8, 8, 8, 8, 8, 8, 8, 8, 8, 8, 8, 8, 8, 8, 8, 8, 8, 8, 8, 8, 8, 8, 8, 8, 8, 8, 8, 8, 8, 8, 8, 8, 8, 8, 8, 8, 8, 8, 8, 8, 8, 8, 8, 8, 8, 8, 8, 8, 8, 8, 8, 8, 8, 8, 8, 8, 8, 8, 8, 8, 8]⟩)) (.tmp 15), none, 0⟩,
        ⟨(some 17), .conv (.int .i64) (.tmp 16), none, 0⟩,
        ⟨(some 18), .bin .add (.tmp 13) (.tmp 17), none, 0⟩,
        ⟨(some 2), .mov (.tmp 18), none, 0⟩])
      (.ret)))) }

def F.math_bits_Len64 : IFunc :=
  { lb := [], scr := true, nargs := 1, res := [.tmp 2],
    body := .seq (.region [⟨(some 2), .mov (.const (.int .i64 0)), none, 0⟩])
      (.seq (.seq (.region [⟨(some 3), .mov (.tmp 0), none, 0⟩,
        ⟨(some 4), .bin .geq (.tmp 3) (.const (.int .u64 4294967296)), none, 0⟩])
      (.cond (.tmp 4)
        (.seq (.region [⟨(some 5), .mov (.tmp 0), none, 0⟩,
          ⟨(some 6), .bin .shr (.tmp 5) (.const (.int .u64 32)), none, 0⟩,
          ⟨(some 0), .mov (.tmp 6), none, 0⟩])
        (.region [⟨(some 2), .mov (.const (.int .i64 32)), none, 0⟩]))
        (.skip)))
      (.seq (.seq (.region [⟨(some 7), .mov (.tmp 0), none, 0⟩,
        ⟨(some 8), .bin .geq (.tmp 7) (.const (.int .u64 65536)), none, 0⟩])
      (.cond (.tmp 8)
        (.seq (.region [⟨(some 9), .mov (.tmp 0), none, 0⟩,
          ⟨(some 10), .bin .shr (.tmp 9) (.const (.int .u64 16)), none, 0⟩,
          ⟨(some 0), .mov (.tmp 10), none, 0⟩])
        (.region [⟨(some 11), .mov (.tmp 2), none, 0⟩,
          ⟨(some 12), .bin .add (.tmp 11) (.const (.int .i64 16)), none, 0⟩,
          ⟨(some 2), .mov (.tmp 12), none, 0⟩]))
        (.skip)))
      (.seq (.seq (.region [⟨(some 13), .mov (.tmp 0), none, 0⟩,
        ⟨(some 14), .bin .geq (.tmp 13) (.const (.int .u64 256)), none, 0⟩])
      (.cond (.tmp 14)
        (.seq (.region [⟨(some 15), .mov (.tmp 0), none, 0⟩,
          ⟨(some 16), .bin .shr (.tmp 15) (.const (.int .u64 8)), none, 0⟩,
          ⟨(some 0), .mov (.tmp 16), none, 0⟩])
        (.region [⟨(some 17), .mov (.tmp 2), none, 0⟩,
          ⟨(some 18), .bin .add (.tmp 17) (.const (.int .i64 8)), none, 0⟩,
          ⟨(some 2), .mov (.tmp 18), none, 0⟩]))
        (.skip)))
      (.seq (.region [⟨(some 19), .mov (.tmp 2), none, 0⟩,
        ⟨(some 20), .mov (.tmp 0), none, 0⟩,
        ⟨(some 21), .conv (.int .u8) (.tmp 20), none, 0⟩,
        ⟨(some 22), .indexS (.const (.string ⟨#[0, 1, 2, 2, 3, 3, 3, 3, 4, 4, 4, 4, 4, 4, 4, 4, 5, 5, 5, 5, 5, 5, 5, 5, 5, 5, 5, 5, 5, 5, 5, 5, 6, 6, 6, 6, 6, 6, 6, 6, 6, 6, 6, 6, 6, 6, 6, 6, 6, 6, 6, 6, 6, 6, 6, 6, 6, 6, 6, 6, 6, 6, 6, 6, 7, 7, 7, 7, 7, 7, 7, 7, 7, 7, 7, 7, 7, 7, 7, 7, 7, 7, 7, 7, 7, 7, 7, 7, 7, 7, 7, 7, 7, 7, 7, 7, 7, 7, 7, 7, 7, 7, 7, 7, 7, 7, 7, 7, 7, 7, 7, 7, 7, 7, 7, 7, 7, 7, 7, 7, 7, 7, 7, 7, 7, 7, 7, 7, 8, 8, 8, 8, 8, 8, 8, 8, 8, 8, 8, 8, 8, 8, 8, 8, 8, 8, 8, 8, 8, 8, 8, 8, 8, 8, 8, 8, 8, 8, 8, 8, 8, 8, 8, 8, 8, 8, 8, 8, 8, 8, 8, 8, 8, 8, 8, 8, 8, 8, 8, 8, 8, 8, 8, 8, 8, 8, 8, 8, 8, 8, 8, 8, 8, 8, 8, 8, 8, 8, 8, 8, 8, 8, 8, 8, 8, 8, 8, 8, 8, 8, 8, 8, 8, 8, 8, 8, 8, 8, 8, 8, 8, 8, 8, 8, 8, 8, 8, 8, 8, 8, 8, 8, 8, 8, 8, 8, 8, 8, 8, 8, 8, 8, 8, 8, 8, 8, 8, 8, 8, 8, 8, 8, 8, 8, 8, 8]⟩)) (.tmp 21), none, 0⟩,
        ⟨(some 23), .conv (.int .i64) (.tmp 22), none, 0⟩,
        ⟨(some 24), .bin .add (.tmp 19) (.tmp 23), none, 0⟩,
        ⟨(some 2), .mov (.tmp 24), none, 0⟩])
      (.ret))))) }

def F.slices_siftDownOrdered_int : IFunc :=
  { lb := [], scr := false, nargs := 4, res := [],
    body := .seq (.region [⟨(some 10), .mov (.tmp 1), none, 0⟩,
        ⟨(some 8), .mov (.tmp 10), none, 0⟩])
      (.block 0 (.loop [0, 2, 3, 8]
        (.block 1 (.seq (.region [⟨(some 11), .mov (.tmp 8), none, 0⟩,
          ⟨(some 12), .bin .mul (.const (.int .i64 2)) (.tmp 11), none, 0⟩,
          ⟨(some 13), .bin .add (.tmp 12) (.const (.int .i64 1)), none, 0⟩,
          ⟨(some 9), .mov (.tmp 13), none, 0⟩])
        (.seq (.seq (.region [⟨(some 14), .mov (.tmp 9), none, 0⟩,
          ⟨(some 15), .mov (.tmp 2), none, 0⟩,
          ⟨(some 16), .bin .geq (.tmp 14) (.tmp 15), none, 0⟩])
        (.cond (.tmp 16)
          (.exit 0)
          (.skip)))
        (.seq (.seq (.region [⟨(some 17), .mov (.tmp 9), none, 0⟩,
          ⟨(some 18), .bin .add (.tmp 17) (.const (.int .i64 1)), none, 0⟩,
          ⟨(some 19), .mov (.tmp 2), none, 0⟩,
          ⟨(some 20), .bin .lss (.tmp 18) (.tmp 19), none, 0⟩,
          ⟨(some 21), .mov (.tmp 20), none, 0⟩,
          ⟨(some 22), .mov (.tmp 0), (some (21, true)), 0⟩,
          ⟨(some 23), .mov (.tmp 3), (some (21, true)), 0⟩,
          ⟨(some 24), .mov (.tmp 9), (some (21, true)), 0⟩,
          ⟨(some 25), .bin .add (.tmp 23) (.tmp 24), (some (21, true)), 0⟩,
          ⟨(some 26), .iaddr none 1 (.tmp 22) (.tmp 25), (some (21, true)), 0⟩,
          ⟨(some 27), .load none (.tmp 26), (some (21, true)), 0⟩,
          ⟨(some 28), .mov (.tmp 0), (some (21, true)), 0⟩,
          ⟨(some 29), .mov (.tmp 3), (some (21, true)), 0⟩,
          ⟨(some 30), .mov (.tmp 9), (some (21, true)), 0⟩,
          ⟨(some 31), .bin .add (.tmp 29) (.tmp 30), (some (21, true)), 0⟩,
          ⟨(some 32), .bin .add (.tmp 31) (.const (.int .i64 1)), (some (21, true)), 0⟩,
          ⟨(some 33), .iaddr none 1 (.tmp 28) (.tmp 32), (some (21, true)), 0⟩,
          ⟨(some 34), .load none (.tmp 33), (some (21, true)), 0⟩,
          ⟨(some 35), .call Id.cmp_Less_int [.tmp 27, .tmp 34], (some (21, true)), 0⟩,
          ⟨(some 36), .pick (.tmp 21) (.tmp 35) (.const (.bool false)), none, 0⟩])
        (.cond (.tmp 36)
          (.region [⟨(some 37), .mov (.tmp 9), none, 0⟩,
            ⟨(some 38), .bin .add (.tmp 37) (.const (.int .i64 1)), none, 0⟩,
            ⟨(some 9), .mov (.tmp 38), none, 0⟩])
          (.skip)))
        (.seq (.seq (.region [⟨(some 39), .mov (.tmp 0), none, 0⟩,
          ⟨(some 40), .mov (.tmp 3), none, 0⟩,
          ⟨(some 41), .mov (.tmp 8), none, 0⟩,
          ⟨(some 42), .bin .add (.tmp 40) (.tmp 41), none, 0⟩,
          ⟨(some 43), .iaddr none 1 (.tmp 39) (.tmp 42), none, 0⟩,
          ⟨(some 44), .load none (.tmp 43), none, 0⟩,
          ⟨(some 45), .mov (.tmp 0), none, 0⟩,
          ⟨(some 46), .mov (.tmp 3), none, 0⟩,
          ⟨(some 47), .mov (.tmp 9), none, 0⟩,
          ⟨(some 48), .bin .add (.tmp 46) (.tmp 47), none, 0⟩,
          ⟨(some 49), .iaddr none 1 (.tmp 45) (.tmp 48), none, 0⟩,
          ⟨(some 50), .load none (.tmp 49), none, 0⟩,
          ⟨(some 51), .call Id.cmp_Less_int [.tmp 44, .tmp 50], none, 0⟩,
          ⟨(some 52), .un .not (.tmp 51), none, 0⟩])
        (.cond (.tmp 52)
          (.ret)
          (.skip)))
        (.seq (.region [⟨(some 53), .mov (.tmp 0), none, 0⟩,
          ⟨(some 54), .mov (.tmp 3), none, 0⟩,
          ⟨(some 55), .mov (.tmp 8), none, 0⟩,
          ⟨(some 56), .bin .add (.tmp 54) (.tmp 55), none, 0⟩,
          ⟨(some 61), .mov (.tmp 0), none, 0⟩,
          ⟨(some 62), .mov (.tmp 3), none, 0⟩,
          ⟨(some 63), .mov (.tmp 9), none, 0⟩,
          ⟨(some 64), .bin .add (.tmp 62) (.tmp 63), none, 0⟩,
          ⟨(some 65), .iaddr none 1 (.tmp 61) (.tmp 64), none, 0⟩,
          ⟨(some 66), .load none (.tmp 65), none, 0⟩,
          ⟨(some 67), .mov (.tmp 0), none, 0⟩,
          ⟨(some 68), .mov (.tmp 3), none, 0⟩,
          ⟨(some 69), .mov (.tmp 8), none, 0⟩,
          ⟨(some 70), .bin .add (.tmp 68) (.tmp 69), none, 0⟩,
          ⟨(some 71), .iaddr none 1 (.tmp 67) (.tmp 70), none, 0⟩,
          ⟨(some 72), .load none (.tmp 71), none, 0⟩,
          ⟨(some 73), .iaddr none 1 (.tmp 53) (.tmp 56), none, 0⟩,
          ⟨none, .store 1 (.tmp 73) (.tmp 66), none, 0⟩,
          ⟨(some 57), .mov (.tmp 0), none, 0⟩,
          ⟨(some 58), .mov (.tmp 3), none, 0⟩,
          ⟨(some 59), .mov (.tmp 9), none, 0⟩,
          ⟨(some 60), .bin .add (.tmp 58) (.tmp 59), none, 0⟩,
          ⟨(some 74), .iaddr none 1 (.tmp 57) (.tmp 60), none, 0⟩,
          ⟨none, .store 1 (.tmp 74) (.tmp 72), none, 0⟩])
        (.region [⟨(some 75), .mov (.tmp 9), none, 0⟩,
          ⟨(some 8), .mov (.tmp 75), none, 0⟩]))))))))) }

def F.slices_nextPowerOfTwo : IFunc :=
  { lb := [], scr := true, nargs := 1, res := [.tmp 2],
    body := .seq (.region [⟨(some 2), .mov (.const (.int .u64 0)), none, 0⟩])
      (.seq (.region [⟨(some 3), .mov (.tmp 0), none, 0⟩,
        ⟨(some 4), .conv (.int .u64) (.tmp 3), none, 0⟩,
        ⟨(some 5), .call Id.math_bits_Len [.tmp 4], none, 0⟩,
        ⟨(some 6), .bin .shl (.const (.int .u64 1)) (.tmp 5), none, 0⟩,
        ⟨(some 2), .mov (.tmp 6), none, 0⟩])
      (.ret)) }

def F.slices_xorshift_Next : IFunc :=
  { lb := [], scr := false, nargs := 1, res := [.tmp 2],
    body := .seq (.region [⟨(some 2), .mov (.const (.int .u64 0)), none, 0⟩])
      (.seq (.region [⟨(some 3), .mov (.tmp 0), none, 0⟩,
        ⟨(some 4), .nilchk (.tmp 3), none, 0⟩,
        ⟨(some 5), .load none (.tmp 4), none, 0⟩,
        ⟨(some 6), .mov (.tmp 0), none, 0⟩,
        ⟨(some 7), .nilchk (.tmp 6), none, 0⟩,
        ⟨(some 8), .load none (.tmp 7), none, 0⟩,
        ⟨(some 9), .bin .shl (.tmp 8) (.const (.int .u64 13)), none, 0⟩,
        ⟨(some 10), .bin .xor (.tmp 5) (.tmp 9), none, 0⟩,
        ⟨(some 11), .nilchk (.tmp 3), none, 0⟩,
        ⟨none, .store 1 (.tmp 11) (.tmp 10), none, 0⟩])
      (.seq (.region [⟨(some 12), .mov (.tmp 0), none, 0⟩,
        ⟨(some 13), .nilchk (.tmp 12), none, 0⟩,
        ⟨(some 14), .load none (.tmp 13), none, 0⟩,
        ⟨(some 15), .mov (.tmp 0), none, 0⟩,
        ⟨(some 16), .nilchk (.tmp 15), none, 0⟩,
        ⟨(some 17), .load none (.tmp 16), none, 0⟩,
        ⟨(some 18), .bin .shr (.tmp 17) (.const (.int .u64 7)), none, 0⟩,
        ⟨(some 19), .bin .xor (.tmp 14) (.tmp 18), none, 0⟩,
        ⟨(some 20), .nilchk (.tmp 12), none, 0⟩,
        ⟨none, .store 1 (.tmp 20) (.tmp 19), none, 0⟩])
      (.seq (.region [⟨(some 21), .mov (.tmp 0), none, 0⟩,
        ⟨(some 22), .nilchk (.tmp 21), none, 0⟩,
        ⟨(some 23), .load none (.tmp 22), none, 0⟩,
        ⟨(some 24), .mov (.tmp 0), none, 0⟩,
        ⟨(some 25), .nilchk (.tmp 24), none, 0⟩,
        ⟨(some 26), .load none (.tmp 25), none, 0⟩,
        ⟨(some 27), .bin .shl (.tmp 26) (.const (.int .u64 17)), none, 0⟩,
        ⟨(some 28), .bin .xor (.tmp 23) (.tmp 27), none, 0⟩,
        ⟨(some 29), .nilchk (.tmp 21), none, 0⟩,
        ⟨none, .store 1 (.tmp 29) (.tmp 28), none, 0⟩])
      (.seq (.region [⟨(some 30), .mov (.tmp 0), none, 0⟩,
        ⟨(some 31), .nilchk (.tmp 30), none, 0⟩,
        ⟨(some 32), .load none (.tmp 31), none, 0⟩,
        ⟨(some 2), .mov (.tmp 32), none, 0⟩])
      (.ret))))) }

def F.slices_medianAdjacentOrdered_int : IFunc :=
  { lb := [], scr := false, nargs := 3, res := [.tmp 6],
    body := .seq (.region [⟨(some 6), .mov (.const (.int .i64 0)), none, 0⟩])
      (.seq (.region [⟨(some 7), .mov (.tmp 0), none, 0⟩,
        ⟨(some 8), .mov (.tmp 1), none, 0⟩,
        ⟨(some 9), .bin .sub (.tmp 8) (.const (.int .i64 1)), none, 0⟩,
        ⟨(some 10), .mov (.tmp 1), none, 0⟩,
        ⟨(some 11), .mov (.tmp 1), none, 0⟩,
        ⟨(some 12), .bin .add (.tmp 11) (.const (.int .i64 1)), none, 0⟩,
        ⟨(some 13), .mov (.tmp 2), none, 0⟩,
        ⟨(some 14), .call Id.slices_medianOrdered_int [.tmp 7, .tmp 9, .tmp 10, .tmp 12, .tmp 13], none, 0⟩,
        ⟨(some 6), .mov (.tmp 14), none, 0⟩])
      (.ret)) }

def F.slices_medianOrdered_int : IFunc :=
  { lb := [], scr := false, nargs := 5, res := [.tmp 10],
    body := .seq (.region [⟨(some 10), .mov (.const (.int .i64 0)), none, 0⟩])
      (.seq (.region [⟨(some 12), .mov (.tmp 0), none, 0⟩,
        ⟨(some 13), .mov (.tmp 1), none, 0⟩,
        ⟨(some 14), .mov (.tmp 2), none, 0⟩,
        ⟨(some 15), .mov (.tmp 4), none, 0⟩,
        ⟨(some 16), .call Id.slices_order2Ordered_int [.tmp 12, .tmp 13, .tmp 14, .tmp 15], none, 0⟩,
        ⟨(some 11), .mov (.tmp 16), none, 0⟩,
        ⟨(some 17), .extract (.tmp 11) 0, none, 0⟩,
        ⟨(some 18), .extract (.tmp 11) 1, none, 0⟩,
        ⟨(some 1), .mov (.tmp 17), none, 0⟩,
        ⟨(some 2), .mov (.tmp 18), none, 0⟩])
      (.seq (.region [⟨(some 20), .mov (.tmp 0), none, 0⟩,
        ⟨(some 21), .mov (.tmp 2), none, 0⟩,
        ⟨(some 22), .mov (.tmp 3), none, 0⟩,
        ⟨(some 23), .mov (.tmp 4), none, 0⟩,
        ⟨(some 24), .call Id.slices_order2Ordered_int [.tmp 20, .tmp 21, .tmp 22, .tmp 23], none, 0⟩,
        ⟨(some 19), .mov (.tmp 24), none, 0⟩,
        ⟨(some 25), .extract (.tmp 19) 0, none, 0⟩,
        ⟨(some 26), .extract (.tmp 19) 1, none, 0⟩,
        ⟨(some 2), .mov (.tmp 25), none, 0⟩,
        ⟨(some 3), .mov (.tmp 26), none, 0⟩])
      (.seq (.region [⟨(some 28), .mov (.tmp 0), none, 0⟩,
        ⟨(some 29), .mov (.tmp 1), none, 0⟩,
        ⟨(some 30), .mov (.tmp 2), none, 0⟩,
        ⟨(some 31), .mov (.tmp 4), none, 0⟩,
        ⟨(some 32), .call Id.slices_order2Ordered_int [.tmp 28, .tmp 29, .tmp 30, .tmp 31], none, 0⟩,
        ⟨(some 27), .mov (.tmp 32), none, 0⟩,
        ⟨(some 33), .extract (.tmp 27) 0, none, 0⟩,
        ⟨(some 34), .extract (.tmp 27) 1, none, 0⟩,
        ⟨(some 1), .mov (.tmp 33), none, 0⟩,
        ⟨(some 2), .mov (.tmp 34), none, 0⟩])
      (.seq (.region [⟨(some 35), .mov (.tmp 2), none, 0⟩,
        ⟨(some 10), .mov (.tmp 35), none, 0⟩])
      (.ret))))) }

def F.cmp_isNaN_int : IFunc :=
  { lb := [], scr := true, nargs := 1, res := [.tmp 2],
    body := .seq (.region [⟨(some 2), .mov (.const (.bool false)), none, 0⟩])
      (.seq (.region [⟨(some 3), .mov (.tmp 0), none, 0⟩,
        ⟨(some 4), .mov (.tmp 0), none, 0⟩,
        ⟨(some 5), .bin .neq (.tmp 3) (.tmp 4), none, 0⟩,
        ⟨(some 2), .mov (.tmp 5), none, 0⟩])
      (.ret)) }

def F.slices_order2Ordered_int : IFunc :=
  { lb := [], scr := false, nargs := 4, res := [.tmp 8, .tmp 9],
    body := .seq (.region [⟨(some 8), .mov (.const (.int .i64 0)), none, 0⟩,
        ⟨(some 9), .mov (.const (.int .i64 0)), none, 0⟩])
      (.seq (.seq (.region [⟨(some 10), .mov (.tmp 0), none, 0⟩,
        ⟨(some 11), .mov (.tmp 2), none, 0⟩,
        ⟨(some 12), .iaddr none 1 (.tmp 10) (.tmp 11), none, 0⟩,
        ⟨(some 13), .load none (.tmp 12), none, 0⟩,
        ⟨(some 14), .mov (.tmp 0), none, 0⟩,
        ⟨(some 15), .mov (.tmp 1), none, 0⟩,
        ⟨(some 16), .iaddr none 1 (.tmp 14) (.tmp 15), none, 0⟩,
        ⟨(some 17), .load none (.tmp 16), none, 0⟩,
        ⟨(some 18), .call Id.cmp_Less_int [.tmp 13, .tmp 17], none, 0⟩])
      (.cond (.tmp 18)
        (.seq (.region [⟨(some 19), .mov (.tmp 3), none, 0⟩,
          ⟨(some 20), .nilchk (.tmp 19), none, 0⟩,
          ⟨(some 21), .load none (.tmp 20), none, 0⟩,
          ⟨(some 22), .bin .add (.tmp 21) (.const (.int .i64 1)), none, 0⟩,
          ⟨(some 23), .nilchk (.tmp 19), none, 0⟩,
          ⟨none, .store 1 (.tmp 23) (.tmp 22), none, 0⟩])
        (.seq (.region [⟨(some 24), .mov (.tmp 2), none, 0⟩,
          ⟨(some 25), .mov (.tmp 1), none, 0⟩,
          ⟨(some 8), .mov (.tmp 24), none, 0⟩,
          ⟨(some 9), .mov (.tmp 25), none, 0⟩])
        (.ret)))
        (.skip)))
      (.seq (.region [⟨(some 26), .mov (.tmp 1), none, 0⟩,
        ⟨(some 27), .mov (.tmp 2), none, 0⟩,
        ⟨(some 8), .mov (.tmp 26), none, 0⟩,
        ⟨(some 9), .mov (.tmp 27), none, 0⟩])
      (.ret))) }

def tbl : List (Nat × IFunc) := [(Id.sidingslaw08_EventCalls, F.sidingslaw08_EventCalls),
  (Id.sidingslaw08_EventBefore, F.sidingslaw08_EventBefore),
  (Id.sidingslaw08_EventTurns, F.sidingslaw08_EventTurns),
  (Id.sidingslaw08_EventCut, F.sidingslaw08_EventCut),
  (Id.sidingslaw08_EventApart, F.sidingslaw08_EventApart),
  (Id.sidingslaw08_EventHandles, F.sidingslaw08_EventHandles),
  (Id.sidingslaw08_live, F.sidingslaw08_live),
  (Id.event_Calls, F.event_Calls),
  (Id.sidingsref08_Calls, F.sidingsref08_Calls),
  (Id.sidingsref08_Same, F.sidingsref08_Same),
  (Id.sidingslaw08_all, F.sidingslaw08_all),
  (Id.event_Check, F.event_Check),
  (Id.sidingsref08_Check, F.sidingsref08_Check),
  (Id.sidingsref01_Same, F.sidingsref01_Same),
  (Id.event_Handles, F.event_Handles),
  (Id.sidingsref08_Handles, F.sidingsref08_Handles),
  (Id.event_Before, F.event_Before),
  (Id.sidingslaw08_own, F.sidingslaw08_own),
  (Id.sidingsref08_Before, F.sidingsref08_Before),
  (Id.sidingsref08_answer, F.sidingsref08_answer),
  (Id.sidingslaw08_told, F.sidingslaw08_told),
  (Id.sidingsref08_turn, F.sidingsref08_turn),
  (Id.slices_Sort_Lint, F.slices_Sort_Lint),
  (Id.slices_Compact_Lint, F.slices_Compact_Lint),
  (Id.slices_pdqsortOrdered_int, F.slices_pdqsortOrdered_int),
  (Id.math_bits_Len, F.math_bits_Len),
  (Id.slices_insertionSortOrdered_int, F.slices_insertionSortOrdered_int),
  (Id.slices_heapSortOrdered_int, F.slices_heapSortOrdered_int),
  (Id.slices_breakPatternsOrdered_int, F.slices_breakPatternsOrdered_int),
  (Id.slices_choosePivotOrdered_int, F.slices_choosePivotOrdered_int),
  (Id.slices_reverseRangeOrdered_int, F.slices_reverseRangeOrdered_int),
  (Id.slices_partialInsertionSortOrdered_int, F.slices_partialInsertionSortOrdered_int),
  (Id.cmp_Less_int, F.cmp_Less_int),
  (Id.slices_partitionEqualOrdered_int, F.slices_partitionEqualOrdered_int),
  (Id.slices_partitionOrdered_int, F.slices_partitionOrdered_int),
  (Id.math_bits_Len32, F.math_bits_Len32),
  (Id.math_bits_Len64, F.math_bits_Len64),
  (Id.slices_siftDownOrdered_int, F.slices_siftDownOrdered_int),
  (Id.slices_nextPowerOfTwo, F.slices_nextPowerOfTwo),
  (Id.slices_xorshift_Next, F.slices_xorshift_Next),
  (Id.slices_medianAdjacentOrdered_int, F.slices_medianAdjacentOrdered_int),
  (Id.slices_medianOrdered_int, F.slices_medianOrdered_int),
  (Id.cmp_isNaN_int, F.cmp_isNaN_int),
  (Id.slices_order2Ordered_int, F.slices_order2Ordered_int)]
def env0 : Env := { fn := fun g => tbl.lookup g, prim := fun _ => none }
end Go.Proofs.Ytgdlplhglpinaaa
