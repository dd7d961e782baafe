/- The functions of this seat in the small language: printed by a program. -/
import Derived.Test.YtbkdahiplcbppaaGreatSoloIra
namespace Go.Proofs.YtbkdahiplcbppaaGreat
open Go Go.Ir

def F.handle_Split : IFunc :=
  { lb := [], scr := false, nargs := 1, res := [.tmp 2, .tmp 3, .tmp 4],
    body := .seq (.region [⟨(some 2), .mov (.const (.int .i64 0)), none, 0⟩,
        ⟨(some 3), .mov (.const (.int .i64 0)), none, 0⟩,
        ⟨(some 4), .mov (.const (.bool false)), none, 0⟩])
      (.seq (.region [⟨(some 10), .mov (.tmp 0), none, 0⟩,
        ⟨(some 11), .bin .sub (.tmp 10) (.const (.int .i64 1099511627776)), none, 0⟩,
        ⟨(some 5), .mov (.tmp 11), none, 0⟩])
      (.seq (.seq (.region [⟨(some 12), .mov (.tmp 5), none, 0⟩,
        ⟨(some 13), .bin .lss (.tmp 12) (.const (.int .i64 0)), none, 0⟩])
      (.cond (.tmp 13)
        (.seq (.region [⟨(some 2), .mov (.const (.int .i64 0)), none, 0⟩,
          ⟨(some 3), .mov (.const (.int .i64 0)), none, 0⟩,
          ⟨(some 4), .mov (.const (.bool false)), none, 0⟩])
        (.ret))
        (.skip)))
      (.seq (.region [⟨(some 14), .mov (.tmp 5), none, 0⟩,
        ⟨(some 15), .bin .rem (.tmp 14) (.const (.int .i64 1048576)), none, 0⟩,
        ⟨(some 16), .mov (.tmp 5), none, 0⟩,
        ⟨(some 17), .bin .shr (.tmp 16) (.const (.int .u64 20)), none, 0⟩,
        ⟨(some 6), .mov (.tmp 15), none, 0⟩,
        ⟨(some 7), .mov (.tmp 17), none, 0⟩])
      (.seq (.seq (.region [⟨(some 19), .mov (.tmp 6), none, 0⟩,
        ⟨(some 20), .mov (.tmp 7), none, 0⟩,
        ⟨(some 21), .call Id.handle_Make [.tmp 19, .tmp 20], none, 0⟩,
        ⟨(some 18), .mov (.tmp 21), none, 0⟩,
        ⟨(some 22), .extract (.tmp 18) 0, none, 0⟩,
        ⟨(some 23), .extract (.tmp 18) 1, none, 0⟩,
        ⟨(some 8), .mov (.tmp 22), none, 0⟩,
        ⟨(some 9), .mov (.tmp 23), none, 0⟩])
      (.seq (.region [⟨(some 24), .mov (.tmp 9), none, 0⟩,
        ⟨(some 25), .bin .neq (.tmp 24) (.const (.int .i64 0)), none, 0⟩])
      (.cond (.tmp 25)
        (.seq (.region [⟨(some 2), .mov (.const (.int .i64 0)), none, 0⟩,
          ⟨(some 3), .mov (.const (.int .i64 0)), none, 0⟩,
          ⟨(some 4), .mov (.const (.bool false)), none, 0⟩])
        (.ret))
        (.skip))))
      (.seq (.region [⟨(some 26), .mov (.tmp 6), none, 0⟩,
        ⟨(some 27), .mov (.tmp 7), none, 0⟩,
        ⟨(some 2), .mov (.tmp 26), none, 0⟩,
        ⟨(some 3), .mov (.tmp 27), none, 0⟩,
        ⟨(some 4), .mov (.const (.bool true)), none, 0⟩])
      (.ret)))))) }

def F.entry_Pin_1 : IFunc :=
  { lb := [], scr := false, nargs := 1, res := [.tmp 2],
    body := .seq (.region [⟨(some 2), .mov (.const (.int .i64 0)), none, 0⟩])
      (.seq (.block 0 (.seq (.region [⟨(some 4), .mov (.tmp 0), none, 0⟩,
        ⟨(some 5), .nilchk (.tmp 4), none, 0⟩,
        ⟨(some 6), .faddr 4 (.tmp 5), none, 0⟩,
        ⟨(some 7), .load none (.tmp 6), none, 0⟩,
        ⟨(some 3), .mov (.tmp 7), none, 0⟩])
      (.cond (.tmp 3)
        (.seq (.region [⟨(some 2), .mov (.const (.int .i64 1)), none, 0⟩])
        (.ret))
        (.seq (.region [⟨(some 9), .mov (.tmp 0), none, 0⟩,
          ⟨(some 10), .nilchk (.tmp 9), none, 0⟩,
          ⟨(some 11), .faddr 2 (.tmp 10), none, 0⟩,
          ⟨(some 12), .load none (.tmp 11), none, 0⟩,
          ⟨(some 13), .bin .eql (.tmp 12) (.const (.int .i64 7)), none, 0⟩,
          ⟨(some 8), .mov (.tmp 13), none, 0⟩])
        (.cond (.tmp 8)
          (.seq (.region [⟨(some 2), .mov (.const (.int .i64 7)), none, 0⟩])
          (.ret))
          (.skip))))))
      (.seq (.region [⟨(some 14), .mov (.tmp 0), none, 0⟩,
        ⟨(some 15), .nilchk (.tmp 14), none, 0⟩,
        ⟨(some 16), .faddr 2 (.tmp 15), none, 0⟩,
        ⟨(some 17), .load none (.tmp 16), none, 0⟩,
        ⟨(some 18), .bin .add (.tmp 17) (.const (.int .i64 1)), none, 0⟩,
        ⟨(some 19), .nilchk (.tmp 14), none, 0⟩,
        ⟨(some 20), .faddr 2 (.tmp 19), none, 0⟩,
        ⟨none, .store 1 (.tmp 20) (.tmp 18), none, 0⟩])
      (.seq (.region [⟨(some 2), .mov (.const (.int .i64 0)), none, 0⟩])
      (.ret)))) }

def F.entry_Unpin_1 : IFunc :=
  { lb := [], scr := false, nargs := 1, res := [.tmp 2],
    body := .seq (.region [⟨(some 2), .mov (.const (.int .i64 0)), none, 0⟩])
      (.seq (.seq (.region [⟨(some 3), .mov (.tmp 0), none, 0⟩,
        ⟨(some 4), .nilchk (.tmp 3), none, 0⟩,
        ⟨(some 5), .faddr 2 (.tmp 4), none, 0⟩,
        ⟨(some 6), .load none (.tmp 5), none, 0⟩,
        ⟨(some 7), .bin .eql (.tmp 6) (.const (.int .i64 0)), none, 0⟩])
      (.cond (.tmp 7)
        (.seq (.region [⟨(some 2), .mov (.const (.int .i64 8)), none, 0⟩])
        (.ret))
        (.skip)))
      (.seq (.region [⟨(some 8), .mov (.tmp 0), none, 0⟩,
        ⟨(some 9), .nilchk (.tmp 8), none, 0⟩,
        ⟨(some 10), .faddr 2 (.tmp 9), none, 0⟩,
        ⟨(some 11), .load none (.tmp 10), none, 0⟩,
        ⟨(some 12), .bin .sub (.tmp 11) (.const (.int .i64 1)), none, 0⟩,
        ⟨(some 13), .nilchk (.tmp 8), none, 0⟩,
        ⟨(some 14), .faddr 2 (.tmp 13), none, 0⟩,
        ⟨none, .store 1 (.tmp 14) (.tmp 12), none, 0⟩])
      (.seq (.region [⟨(some 2), .mov (.const (.int .i64 0)), none, 0⟩])
      (.ret)))) }

def F.field_Field_may : IFunc :=
  { lb := [1], scr := false, nargs := 1, res := [.tmp 2],
    body := .seq (.region [⟨(some 1), .lbox (.tmp 0), none, 0⟩,
        ⟨(some 2), .mov (.const (.bool false)), none, 0⟩])
      (.seq (.region [⟨(some 3), .laddr none 1 0, none, 0⟩,
        ⟨(some 4), .lload (some 3) 1 0 none, none, 0⟩,
        ⟨(some 5), .bin .geq (.tmp 4) (.const (.int .i64 0)), none, 0⟩,
        ⟨(some 6), .mov (.tmp 5), none, 0⟩,
        ⟨(some 7), .laddr none 1 1, (some (6, true)), 0⟩,
        ⟨(some 8), .lload (some 7) 1 1 none, (some (6, true)), 0⟩,
        ⟨(some 9), .bin .geq (.tmp 8) (.const (.int .i64 1)), (some (6, true)), 0⟩,
        ⟨(some 10), .pick (.tmp 6) (.tmp 9) (.const (.bool false)), none, 0⟩,
        ⟨(some 11), .mov (.tmp 10), none, 0⟩,
        ⟨(some 12), .laddr none 1 1, (some (11, true)), 0⟩,
        ⟨(some 13), .lload (some 12) 1 1 none, (some (11, true)), 0⟩,
        ⟨(some 14), .bin .leq (.tmp 13) (.const (.int .i64 32)), (some (11, true)), 0⟩,
        ⟨(some 15), .pick (.tmp 11) (.tmp 14) (.const (.bool false)), none, 0⟩,
        ⟨(some 16), .mov (.tmp 15), none, 0⟩,
        ⟨(some 17), .laddr none 1 0, (some (16, true)), 0⟩,
        ⟨(some 18), .lload (some 17) 1 0 none, (some (16, true)), 0⟩,
        ⟨(some 19), .laddr none 1 1, (some (16, true)), 0⟩,
        ⟨(some 20), .lload (some 19) 1 1 none, (some (16, true)), 0⟩,
        ⟨(some 21), .bin .sub (.const (.int .i64 62)) (.tmp 20), (some (16, true)), 0⟩,
        ⟨(some 22), .bin .leq (.tmp 18) (.tmp 21), (some (16, true)), 0⟩,
        ⟨(some 23), .pick (.tmp 16) (.tmp 22) (.const (.bool false)), none, 0⟩,
        ⟨(some 2), .mov (.tmp 23), none, 0⟩])
      (.ret)) }

def F.field_Field_most : IFunc :=
  { lb := [1], scr := false, nargs := 1, res := [.tmp 2],
    body := .seq (.region [⟨(some 1), .lbox (.tmp 0), none, 0⟩,
        ⟨(some 2), .mov (.const (.int .i64 0)), none, 0⟩])
      (.seq (.region [⟨(some 3), .laddr none 1 1, none, 0⟩,
        ⟨(some 4), .lload (some 3) 1 1 none, none, 0⟩,
        ⟨(some 5), .bin .shl (.const (.int .i64 1)) (.tmp 4), none, 0⟩,
        ⟨(some 6), .bin .sub (.tmp 5) (.const (.int .i64 1)), none, 0⟩,
        ⟨(some 2), .mov (.tmp 6), none, 0⟩])
      (.ret)) }

def F.slices_Clone_Lplan_Object : IFunc :=
  { lb := [], scr := false, nargs := 1, res := [.tmp 2],
    body := .seq (.region [⟨(some 2), .mov (.const (.slice none 0 0)), none, 0⟩])
      (.seq (.seq (.region [⟨(some 3), .mov (.tmp 0), none, 0⟩,
        ⟨(some 4), .eqv false (.nil 1) (.tmp 3) (.const (.slice none 0 0)), none, 0⟩])
      (.cond (.tmp 4)
        (.seq (.region [⟨(some 2), .mov (.const (.slice none 0 0)), none, 0⟩])
        (.ret))
        (.skip)))
      (.seq (.region [⟨(some 5), .buildSlice 4 0 [] [], none, 0⟩,
        ⟨(some 6), .mov (.tmp 0), none, 0⟩,
        ⟨(some 7), .append 4 32 (.tmp 5) (.tmp 6), none, 0⟩,
        ⟨(some 2), .mov (.tmp 7), none, 0⟩])
      (.ret))) }

def F.slices_SortStableFunc_Lplan_Object : IFunc :=
  { lb := [], scr := false, nargs := 2, res := [],
    body := .region [⟨(some 4), .mov (.tmp 0), none, 0⟩,
        ⟨(some 5), .mov (.tmp 0), none, 0⟩,
        ⟨(some 6), .len false (.tmp 5), none, 0⟩,
        ⟨(some 7), .mov (.tmp 1), none, 0⟩,
        ⟨(some 8), .call Id.slices_stableCmpFunc_plan_Object [.tmp 4, .tmp 6, .tmp 7], none, 0⟩] }

def F.plan_byPlace : IFunc :=
  { lb := [2, 3], scr := false, nargs := 2, res := [.tmp 4],
    body := .seq (.region [⟨(some 2), .lbox (.tmp 0), none, 0⟩,
        ⟨(some 3), .lbox (.tmp 1), none, 0⟩,
        ⟨(some 4), .mov (.const (.int .i64 0)), none, 0⟩])
      (.seq (.region [⟨(some 5), .laddr none 2 1, none, 0⟩,
        ⟨(some 6), .lload (some 5) 2 1 none, none, 0⟩,
        ⟨(some 7), .laddr none 3 1, none, 0⟩,
        ⟨(some 8), .lload (some 7) 3 1 none, none, 0⟩,
        ⟨(some 9), .call Id.cmp_Compare_int [.tmp 6, .tmp 8], none, 0⟩,
        ⟨(some 10), .laddr none 2 0, none, 0⟩,
        ⟨(some 11), .lload (some 10) 2 0 none, none, 0⟩,
        ⟨(some 12), .laddr none 3 0, none, 0⟩,
        ⟨(some 13), .lload (some 12) 3 0 none, none, 0⟩,
        ⟨(some 14), .call Id.cmp_Compare_int [.tmp 11, .tmp 13], none, 0⟩,
        ⟨(some 15), .laddr none 2 2, none, 0⟩,
        ⟨(some 16), .lload (some 15) 2 2 none, none, 0⟩,
        ⟨(some 17), .laddr none 3 2, none, 0⟩,
        ⟨(some 18), .lload (some 17) 3 2 none, none, 0⟩,
        ⟨(some 19), .call Id.cmp_Compare_int [.tmp 16, .tmp 18], none, 0⟩,
        ⟨(some 20), .laddr none 2 3, none, 0⟩,
        ⟨(some 21), .lload (some 20) 2 3 none, none, 0⟩,
        ⟨(some 22), .call Id.plan_bit [.tmp 21], none, 0⟩,
        ⟨(some 23), .laddr none 3 3, none, 0⟩,
        ⟨(some 24), .lload (some 23) 3 3 none, none, 0⟩,
        ⟨(some 25), .call Id.plan_bit [.tmp 24], none, 0⟩,
        ⟨(some 26), .bin .sub (.tmp 22) (.tmp 25), none, 0⟩,
        ⟨(some 27), .buildSlice 1 4 [.int .i64 0, .int .i64 0, .int .i64 0, .int .i64 0] [(0, 1, .tmp 9), (1, 1, .tmp 14), (2, 1, .tmp 19), (3, 1, .tmp 26)], none, 0⟩,
        ⟨(some 28), .call Id.cmp_Or_int [.tmp 27], none, 0⟩,
        ⟨(some 4), .mov (.tmp 28), none, 0⟩])
      (.ret)) }

def F.epoch_NewTurn : IFunc :=
  { lb := [1, 3], scr := false, nargs := 1, res := [.tmp 2],
    body := .seq (.region [⟨(some 1), .lbox (.tmp 0), none, 0⟩,
        ⟨(some 2), .mov (.const (.pointer none)), none, 0⟩])
      (.seq (.region [⟨(some 7), .lload none 1 0 (some 3), none, 0⟩,
        ⟨(some 8), .call Id.layout_Of [.tmp 7], none, 0⟩,
        ⟨(some 6), .mov (.tmp 8), none, 0⟩,
        ⟨(some 9), .extract (.tmp 6) 0, none, 0⟩,
        ⟨(some 10), .extract (.tmp 6) 1, none, 0⟩,
        ⟨(some 3), .lbox (.const (.agg #[.int .i64 0, .int .i64 0])), none, 0⟩,
        ⟨(some 3), .lstore none 3 0 2 (.tmp 9), none, 0⟩,
        ⟨(some 4), .mov (.tmp 10), none, 0⟩])
      (.seq (.region [⟨(some 11), .lload none 3 0 (some 2), none, 0⟩,
        ⟨(some 12), .laddr none 1 2, none, 0⟩,
        ⟨(some 13), .lload (some 12) 1 2 none, none, 0⟩,
        ⟨(some 14), .build [.int .i64 0, .int .i64 0, .int .i64 0, .int .i64 0, .int .i64 0, .int .i64 0] [(0, 2, .tmp 11), (2, 1, .tmp 13), (3, 1, .const (.int .i64 1))], none, 0⟩,
        ⟨(some 15), .box (.tmp 14), none, 0⟩,
        ⟨(some 5), .mov (.tmp 15), none, 0⟩])
      (.seq (.seq (.region [⟨(some 16), .mov (.tmp 4), none, 0⟩,
        ⟨(some 17), .bin .neq (.tmp 16) (.const (.int .i64 0)), none, 0⟩])
      (.cond (.tmp 17)
        (.region [⟨(some 18), .mov (.tmp 5), none, 0⟩,
          ⟨(some 19), .nilchk (.tmp 18), none, 0⟩,
          ⟨(some 20), .faddr 3 (.tmp 19), none, 0⟩,
          ⟨none, .store 1 (.tmp 20) (.const (.int .i64 0)), none, 0⟩])
        (.skip)))
      (.seq (.region [⟨(some 21), .mov (.tmp 5), none, 0⟩,
        ⟨(some 2), .mov (.tmp 21), none, 0⟩])
      (.ret))))) }

def F.entry_Pack : IFunc :=
  { lb := [1], scr := false, nargs := 1, res := [.tmp 2, .tmp 3],
    body := .seq (.region [⟨(some 1), .lbox (.tmp 0), none, 0⟩,
        ⟨(some 2), .mov (.const (.int .i64 0)), none, 0⟩,
        ⟨(some 3), .mov (.const (.int .i64 0)), none, 0⟩])
      (.seq (.seq (.region [⟨(some 7), .lload none 1 0 (some 6), none, 0⟩,
        ⟨(some 8), .call Id.entry_Entry_may [.tmp 7], none, 0⟩,
        ⟨(some 9), .un .not (.tmp 8), none, 0⟩])
      (.cond (.tmp 9)
        (.seq (.region [⟨(some 2), .mov (.const (.int .i64 0)), none, 0⟩,
          ⟨(some 3), .mov (.const (.int .i64 1)), none, 0⟩])
        (.ret))
        (.skip)))
      (.seq (.region [⟨(some 4), .mov (.const (.int .i64 0)), none, 0⟩])
      (.seq (.seq (.region [⟨(some 18), .laddr none 1 4, none, 0⟩,
        ⟨(some 19), .lload (some 18) 1 4 none, none, 0⟩,
        ⟨(some 20), .call Id.entry_bit [.tmp 19], none, 0⟩,
        ⟨(some 21), .laddr none 1 5, none, 0⟩,
        ⟨(some 22), .lload (some 21) 1 5 none, none, 0⟩,
        ⟨(some 23), .call Id.entry_bit [.tmp 22], none, 0⟩,
        ⟨(some 10), .laddr none 1 0, none, 0⟩,
        ⟨(some 11), .lload (some 10) 1 0 none, none, 0⟩,
        ⟨(some 12), .laddr none 1 1, none, 0⟩,
        ⟨(some 13), .lload (some 12) 1 1 none, none, 0⟩,
        ⟨(some 14), .laddr none 1 2, none, 0⟩,
        ⟨(some 15), .lload (some 14) 1 2 none, none, 0⟩,
        ⟨(some 16), .laddr none 1 3, none, 0⟩,
        ⟨(some 17), .lload (some 16) 1 3 none, none, 0⟩,
        ⟨(some 24), .build [.int .i64 0, .int .i64 0, .int .i64 0, .int .i64 0, .int .i64 0, .int .i64 0] [(0, 1, .tmp 11), (1, 1, .tmp 13), (2, 1, .tmp 15), (3, 1, .tmp 17), (4, 1, .tmp 20), (5, 1, .tmp 23)], none, 0⟩,
        ⟨(some 25), .mov (.const (.int .i64 0)), none, 0⟩])
      (.block 0 (.loop [4, 24, 25]
        (.seq (.region [⟨(some 26), .bin .lss (.tmp 25) (.const (.int .i64 6)), none, 0⟩])
        (.seq (.cond (.tmp 26)
          (.skip)
          (.exit 0))
        (.seq (.block 1 (.seq (.region [⟨(some 27), .mov (.tmp 25), none, 0⟩,
          ⟨(some 28), .index 6 1 none (.tmp 24) (.tmp 25), none, 0⟩,
          ⟨(some 5), .mov (.tmp 27), none, 0⟩,
          ⟨(some 6), .mov (.tmp 28), none, 0⟩])
        (.region [⟨(some 30), .mov (.tmp 4), none, 0⟩,
          ⟨(some 31), .call Id.entry_fields [], none, 0⟩,
          ⟨(some 32), .mov (.tmp 5), none, 0⟩,
          ⟨(some 33), .index 6 2 (some 2) (.tmp 31) (.tmp 32), none, 0⟩,
          ⟨(some 34), .mov (.tmp 6), none, 0⟩,
          ⟨(some 35), .call Id.field_Put [.tmp 30, .tmp 33, .tmp 34], none, 0⟩,
          ⟨(some 29), .mov (.tmp 35), none, 0⟩,
          ⟨(some 36), .extract (.tmp 29) 0, none, 0⟩,
          ⟨(some 37), .extract (.tmp 29) 1, none, 0⟩,
          ⟨(some 4), .mov (.tmp 36), none, 0⟩])))
        (.region [⟨(some 38), .bin .add (.tmp 25) (.const (.int .i64 1)), none, 0⟩,
          ⟨(some 25), .mov (.tmp 38), none, 0⟩])))))))
      (.seq (.region [⟨(some 39), .mov (.tmp 4), none, 0⟩,
        ⟨(some 2), .mov (.tmp 39), none, 0⟩,
        ⟨(some 3), .mov (.const (.int .i64 0)), none, 0⟩])
      (.ret))))) }

def F.head_Inside : IFunc :=
  { lb := [], scr := false, nargs := 1, res := [.tmp 2, .tmp 3],
    body := .seq (.region [⟨(some 2), .mov (.const (.int .i64 0)), none, 0⟩,
        ⟨(some 3), .mov (.const (.bool false)), none, 0⟩])
      (.seq (.seq (.region [⟨(some 4), .mov (.tmp 0), none, 0⟩,
        ⟨(some 5), .bin .leq (.tmp 4) (.const (.int .i64 0)), none, 0⟩])
      (.cond (.tmp 5)
        (.seq (.region [⟨(some 2), .mov (.const (.int .i64 0)), none, 0⟩,
          ⟨(some 3), .mov (.const (.bool false)), none, 0⟩])
        (.ret))
        (.skip)))
      (.seq (.region [⟨(some 6), .mov (.tmp 0), none, 0⟩,
        ⟨(some 7), .bin .sub (.tmp 6) (.const (.int .i64 1)), none, 0⟩,
        ⟨(some 2), .mov (.tmp 7), none, 0⟩,
        ⟨(some 3), .mov (.const (.bool true)), none, 0⟩])
      (.ret))) }

def F.slices_stableCmpFunc_plan_Object : IFunc :=
  { lb := [], scr := false, nargs := 3, res := [],
    body := .seq (.region [⟨(some 6), .mov (.const (.int .i64 20)), none, 0⟩])
      (.seq (.region [⟨(some 10), .mov (.tmp 6), none, 0⟩,
        ⟨(some 7), .mov (.const (.int .i64 0)), none, 0⟩,
        ⟨(some 8), .mov (.tmp 10), none, 0⟩])
      (.seq (.block 0 (.loop [0, 1, 2, 6, 7, 8]
        (.seq (.seq (.region [⟨(some 11), .mov (.tmp 8), none, 0⟩,
          ⟨(some 12), .mov (.tmp 1), none, 0⟩,
          ⟨(some 13), .bin .leq (.tmp 11) (.tmp 12), none, 0⟩])
        (.cond (.tmp 13)
          (.skip)
          (.exit 0)))
        (.block 1 (.seq (.region [⟨(some 14), .mov (.tmp 0), none, 0⟩,
          ⟨(some 15), .mov (.tmp 7), none, 0⟩,
          ⟨(some 16), .mov (.tmp 8), none, 0⟩,
          ⟨(some 17), .mov (.tmp 2), none, 0⟩,
          ⟨(some 18), .call Id.slices_insertionSortCmpFunc_plan_Object [.tmp 14, .tmp 15, .tmp 16, .tmp 17], none, 0⟩])
        (.seq (.region [⟨(some 19), .mov (.tmp 8), none, 0⟩,
          ⟨(some 7), .mov (.tmp 19), none, 0⟩])
        (.region [⟨(some 20), .mov (.tmp 8), none, 0⟩,
          ⟨(some 21), .mov (.tmp 6), none, 0⟩,
          ⟨(some 22), .bin .add (.tmp 20) (.tmp 21), none, 0⟩,
          ⟨(some 8), .mov (.tmp 22), none, 0⟩])))))))
      (.seq (.region [⟨(some 23), .mov (.tmp 0), none, 0⟩,
        ⟨(some 24), .mov (.tmp 7), none, 0⟩,
        ⟨(some 25), .mov (.tmp 1), none, 0⟩,
        ⟨(some 26), .mov (.tmp 2), none, 0⟩,
        ⟨(some 27), .call Id.slices_insertionSortCmpFunc_plan_Object [.tmp 23, .tmp 24, .tmp 25, .tmp 26], none, 0⟩])
      (.block 2 (.loop [0, 1, 2, 6]
        (.seq (.seq (.region [⟨(some 28), .mov (.tmp 6), none, 0⟩,
          ⟨(some 29), .mov (.tmp 1), none, 0⟩,
          ⟨(some 30), .bin .lss (.tmp 28) (.tmp 29), none, 0⟩])
        (.cond (.tmp 30)
          (.skip)
          (.exit 2)))
        (.block 3 (.seq (.region [⟨(some 31), .mov (.tmp 6), none, 0⟩,
          ⟨(some 32), .bin .mul (.const (.int .i64 2)) (.tmp 31), none, 0⟩,
          ⟨(some 7), .mov (.const (.int .i64 0)), none, 0⟩,
          ⟨(some 8), .mov (.tmp 32), none, 0⟩])
        (.seq (.block 4 (.loop [0, 1, 2, 6, 7, 8]
          (.seq (.seq (.region [⟨(some 33), .mov (.tmp 8), none, 0⟩,
            ⟨(some 34), .mov (.tmp 1), none, 0⟩,
            ⟨(some 35), .bin .leq (.tmp 33) (.tmp 34), none, 0⟩])
          (.cond (.tmp 35)
            (.skip)
            (.exit 4)))
          (.block 5 (.seq (.region [⟨(some 36), .mov (.tmp 0), none, 0⟩,
            ⟨(some 37), .mov (.tmp 7), none, 0⟩,
            ⟨(some 38), .mov (.tmp 7), none, 0⟩,
            ⟨(some 39), .mov (.tmp 6), none, 0⟩,
            ⟨(some 40), .bin .add (.tmp 38) (.tmp 39), none, 0⟩,
            ⟨(some 41), .mov (.tmp 8), none, 0⟩,
            ⟨(some 42), .mov (.tmp 2), none, 0⟩,
            ⟨(some 43), .call Id.slices_symMergeCmpFunc_plan_Object [.tmp 36, .tmp 37, .tmp 40, .tmp 41, .tmp 42], none, 0⟩])
          (.seq (.region [⟨(some 44), .mov (.tmp 8), none, 0⟩,
            ⟨(some 7), .mov (.tmp 44), none, 0⟩])
          (.region [⟨(some 45), .mov (.tmp 8), none, 0⟩,
            ⟨(some 46), .mov (.tmp 6), none, 0⟩,
            ⟨(some 47), .bin .mul (.const (.int .i64 2)) (.tmp 46), none, 0⟩,
            ⟨(some 48), .bin .add (.tmp 45) (.tmp 47), none, 0⟩,
            ⟨(some 8), .mov (.tmp 48), none, 0⟩])))))))
        (.seq (.seq (.region [⟨(some 49), .mov (.tmp 7), none, 0⟩,
          ⟨(some 50), .mov (.tmp 6), none, 0⟩,
          ⟨(some 51), .bin .add (.tmp 49) (.tmp 50), none, 0⟩,
          ⟨(some 9), .mov (.tmp 51), none, 0⟩])
        (.seq (.region [⟨(some 52), .mov (.tmp 9), none, 0⟩,
          ⟨(some 53), .mov (.tmp 1), none, 0⟩,
          ⟨(some 54), .bin .lss (.tmp 52) (.tmp 53), none, 0⟩])
        (.cond (.tmp 54)
          (.region [⟨(some 55), .mov (.tmp 0), none, 0⟩,
            ⟨(some 56), .mov (.tmp 7), none, 0⟩,
            ⟨(some 57), .mov (.tmp 9), none, 0⟩,
            ⟨(some 58), .mov (.tmp 1), none, 0⟩,
            ⟨(some 59), .mov (.tmp 2), none, 0⟩,
            ⟨(some 60), .call Id.slices_symMergeCmpFunc_plan_Object [.tmp 55, .tmp 56, .tmp 57, .tmp 58, .tmp 59], none, 0⟩])
          (.skip))))
        (.region [⟨(some 61), .mov (.tmp 6), none, 0⟩,
          ⟨(some 62), .bin .mul (.tmp 61) (.const (.int .i64 2)), none, 0⟩,
          ⟨(some 6), .mov (.tmp 62), none, 0⟩]))))))))))) }

def F.cmp_Or_int : IFunc :=
  { lb := [], scr := false, nargs := 1, res := [.tmp 2],
    body := .seq (.region [⟨(some 2), .mov (.const (.int .i64 0)), none, 0⟩])
      (.seq (.region [⟨(some 3), .mov (.const (.int .i64 0)), none, 0⟩])
      (.seq (.seq (.region [⟨(some 6), .mov (.tmp 0), none, 0⟩,
        ⟨(some 7), .len false (.tmp 6), none, 0⟩,
        ⟨(some 8), .mov (.const (.int .i64 0)), none, 0⟩])
      (.block 0 (.loop [3, 6, 7, 8]
        (.seq (.region [⟨(some 9), .bin .lss (.tmp 8) (.tmp 7), none, 0⟩])
        (.seq (.cond (.tmp 9)
          (.skip)
          (.exit 0))
        (.seq (.block 1 (.seq (.region [⟨(some 10), .iaddr none 1 (.tmp 6) (.tmp 8), none, 0⟩,
          ⟨(some 11), .load none (.tmp 10), none, 0⟩,
          ⟨(some 5), .mov (.tmp 11), none, 0⟩])
        (.seq (.region [⟨(some 12), .mov (.tmp 5), none, 0⟩,
          ⟨(some 13), .mov (.tmp 3), none, 0⟩,
          ⟨(some 14), .bin .neq (.tmp 12) (.tmp 13), none, 0⟩])
        (.cond (.tmp 14)
          (.seq (.region [⟨(some 15), .mov (.tmp 5), none, 0⟩,
            ⟨(some 2), .mov (.tmp 15), none, 0⟩])
          (.ret))
          (.skip)))))
        (.region [⟨(some 16), .bin .add (.tmp 8) (.const (.int .i64 1)), none, 0⟩,
          ⟨(some 8), .mov (.tmp 16), none, 0⟩])))))))
      (.seq (.region [⟨(some 17), .mov (.tmp 3), none, 0⟩,
        ⟨(some 2), .mov (.tmp 17), none, 0⟩])
      (.ret)))) }

def F.cmp_Compare_int : IFunc :=
  { lb := [], scr := false, nargs := 2, res := [.tmp 4],
    body := .seq (.region [⟨(some 4), .mov (.const (.int .i64 0)), none, 0⟩])
      (.seq (.region [⟨(some 7), .mov (.tmp 0), none, 0⟩,
        ⟨(some 8), .call Id.cmp_isNaN_int [.tmp 7], none, 0⟩,
        ⟨(some 5), .mov (.tmp 8), none, 0⟩])
      (.seq (.region [⟨(some 9), .mov (.tmp 1), none, 0⟩,
        ⟨(some 10), .call Id.cmp_isNaN_int [.tmp 9], none, 0⟩,
        ⟨(some 6), .mov (.tmp 10), none, 0⟩])
      (.seq (.seq (.region [⟨(some 11), .mov (.tmp 5), none, 0⟩])
      (.cond (.tmp 11)
        (.seq (.seq (.region [⟨(some 12), .mov (.tmp 6), none, 0⟩])
        (.cond (.tmp 12)
          (.seq (.region [⟨(some 4), .mov (.const (.int .i64 0)), none, 0⟩])
          (.ret))
          (.skip)))
        (.seq (.region [⟨(some 4), .mov (.const (.int .i64 (-1))), none, 0⟩])
        (.ret)))
        (.skip)))
      (.seq (.seq (.region [⟨(some 13), .mov (.tmp 6), none, 0⟩])
      (.cond (.tmp 13)
        (.seq (.region [⟨(some 4), .mov (.const (.int .i64 1)), none, 0⟩])
        (.ret))
        (.skip)))
      (.seq (.seq (.region [⟨(some 14), .mov (.tmp 0), none, 0⟩,
        ⟨(some 15), .mov (.tmp 1), none, 0⟩,
        ⟨(some 16), .bin .lss (.tmp 14) (.tmp 15), none, 0⟩])
      (.cond (.tmp 16)
        (.seq (.region [⟨(some 4), .mov (.const (.int .i64 (-1))), none, 0⟩])
        (.ret))
        (.skip)))
      (.seq (.seq (.region [⟨(some 17), .mov (.tmp 0), none, 0⟩,
        ⟨(some 18), .mov (.tmp 1), none, 0⟩,
        ⟨(some 19), .bin .gtr (.tmp 17) (.tmp 18), none, 0⟩])
      (.cond (.tmp 19)
        (.seq (.region [⟨(some 4), .mov (.const (.int .i64 1)), none, 0⟩])
        (.ret))
        (.skip)))
      (.seq (.region [⟨(some 4), .mov (.const (.int .i64 0)), none, 0⟩])
      (.ret)))))))) }

def F.plan_bit : IFunc :=
  { lb := [], scr := false, nargs := 1, res := [.tmp 2],
    body := .seq (.region [⟨(some 2), .mov (.const (.int .i64 0)), none, 0⟩])
      (.seq (.seq (.region [⟨(some 3), .mov (.tmp 0), none, 0⟩])
      (.cond (.tmp 3)
        (.seq (.region [⟨(some 2), .mov (.const (.int .i64 1)), none, 0⟩])
        (.ret))
        (.skip)))
      (.seq (.region [⟨(some 2), .mov (.const (.int .i64 0)), none, 0⟩])
      (.ret))) }

def F.entry_bit : IFunc :=
  { lb := [], scr := false, nargs := 1, res := [.tmp 2],
    body := .seq (.region [⟨(some 2), .mov (.const (.int .i64 0)), none, 0⟩])
      (.seq (.seq (.region [⟨(some 3), .mov (.tmp 0), none, 0⟩])
      (.cond (.tmp 3)
        (.seq (.region [⟨(some 2), .mov (.const (.int .i64 1)), none, 0⟩])
        (.ret))
        (.skip)))
      (.seq (.region [⟨(some 2), .mov (.const (.int .i64 0)), none, 0⟩])
      (.ret))) }

def F.slices_insertionSortCmpFunc_plan_Object : IFunc :=
  { lb := [], scr := false, nargs := 4, res := [],
    body := .seq (.region [⟨(some 10), .mov (.tmp 1), none, 0⟩,
        ⟨(some 11), .bin .add (.tmp 10) (.const (.int .i64 1)), none, 0⟩,
        ⟨(some 8), .mov (.tmp 11), none, 0⟩])
      (.block 0 (.loop [0, 1, 2, 3, 8]
        (.seq (.seq (.region [⟨(some 12), .mov (.tmp 8), none, 0⟩,
          ⟨(some 13), .mov (.tmp 2), none, 0⟩,
          ⟨(some 14), .bin .lss (.tmp 12) (.tmp 13), none, 0⟩])
        (.cond (.tmp 14)
          (.skip)
          (.exit 0)))
        (.seq (.block 1 (.seq (.region [⟨(some 17), .mov (.tmp 8), none, 0⟩,
          ⟨(some 9), .mov (.tmp 17), none, 0⟩])
        (.block 2 (.loop [0, 1, 2, 3, 8, 9]
          (.seq (.seq (.region [⟨(some 18), .mov (.tmp 9), none, 0⟩,
            ⟨(some 19), .mov (.tmp 1), none, 0⟩,
            ⟨(some 20), .bin .gtr (.tmp 18) (.tmp 19), none, 0⟩,
            ⟨(some 21), .mov (.tmp 20), none, 0⟩,
            ⟨(some 22), .mov (.tmp 3), (some (21, true)), 0⟩,
            ⟨(some 23), .mov (.tmp 0), (some (21, true)), 0⟩,
            ⟨(some 24), .mov (.tmp 9), (some (21, true)), 0⟩,
            ⟨(some 25), .iaddr none 4 (.tmp 23) (.tmp 24), (some (21, true)), 0⟩,
            ⟨(some 26), .load (some 4) (.tmp 25), (some (21, true)), 0⟩,
            ⟨(some 27), .mov (.tmp 0), (some (21, true)), 0⟩,
            ⟨(some 28), .mov (.tmp 9), (some (21, true)), 0⟩,
            ⟨(some 29), .bin .sub (.tmp 28) (.const (.int .i64 1)), (some (21, true)), 0⟩,
            ⟨(some 30), .iaddr none 4 (.tmp 27) (.tmp 29), (some (21, true)), 0⟩,
            ⟨(some 31), .load (some 4) (.tmp 30), (some (21, true)), 0⟩,
            ⟨(some 32), .callv (.tmp 22) [.tmp 26, .tmp 31], (some (21, true)), 0⟩,
            ⟨(some 33), .bin .lss (.tmp 32) (.const (.int .i64 0)), (some (21, true)), 0⟩,
            ⟨(some 34), .pick (.tmp 21) (.tmp 33) (.const (.bool false)), none, 0⟩])
          (.cond (.tmp 34)
            (.skip)
            (.exit 2)))
          (.seq (.block 3 (.region [⟨(some 37), .mov (.tmp 0), none, 0⟩,
            ⟨(some 38), .mov (.tmp 9), none, 0⟩,
            ⟨(some 42), .mov (.tmp 0), none, 0⟩,
            ⟨(some 43), .mov (.tmp 9), none, 0⟩,
            ⟨(some 44), .bin .sub (.tmp 43) (.const (.int .i64 1)), none, 0⟩,
            ⟨(some 45), .iaddr none 4 (.tmp 42) (.tmp 44), none, 0⟩,
            ⟨(some 46), .load (some 4) (.tmp 45), none, 0⟩,
            ⟨(some 47), .mov (.tmp 0), none, 0⟩,
            ⟨(some 48), .mov (.tmp 9), none, 0⟩,
            ⟨(some 49), .iaddr none 4 (.tmp 47) (.tmp 48), none, 0⟩,
            ⟨(some 50), .load (some 4) (.tmp 49), none, 0⟩,
            ⟨(some 51), .iaddr none 4 (.tmp 37) (.tmp 38), none, 0⟩,
            ⟨none, .store 4 (.tmp 51) (.tmp 46), none, 0⟩,
            ⟨(some 39), .mov (.tmp 0), none, 0⟩,
            ⟨(some 40), .mov (.tmp 9), none, 0⟩,
            ⟨(some 41), .bin .sub (.tmp 40) (.const (.int .i64 1)), none, 0⟩,
            ⟨(some 52), .iaddr none 4 (.tmp 39) (.tmp 41), none, 0⟩,
            ⟨none, .store 4 (.tmp 52) (.tmp 50), none, 0⟩]))
          (.region [⟨(some 35), .mov (.tmp 9), none, 0⟩,
            ⟨(some 36), .bin .sub (.tmp 35) (.const (.int .i64 1)), none, 0⟩,
            ⟨(some 9), .mov (.tmp 36), none, 0⟩])))))))
        (.region [⟨(some 15), .mov (.tmp 8), none, 0⟩,
          ⟨(some 16), .bin .add (.tmp 15) (.const (.int .i64 1)), none, 0⟩,
          ⟨(some 8), .mov (.tmp 16), none, 0⟩]))))) }

def F.slices_symMergeCmpFunc_plan_Object : IFunc :=
  { lb := [], scr := false, nargs := 5, res := [],
    body := .seq (.seq (.region [⟨(some 25), .mov (.tmp 2), none, 0⟩,
        ⟨(some 26), .mov (.tmp 1), none, 0⟩,
        ⟨(some 27), .bin .sub (.tmp 25) (.tmp 26), none, 0⟩,
        ⟨(some 28), .bin .eql (.tmp 27) (.const (.int .i64 1)), none, 0⟩])
      (.cond (.tmp 28)
        (.seq (.region [⟨(some 29), .mov (.tmp 2), none, 0⟩,
          ⟨(some 10), .mov (.tmp 29), none, 0⟩])
        (.seq (.region [⟨(some 30), .mov (.tmp 3), none, 0⟩,
          ⟨(some 11), .mov (.tmp 30), none, 0⟩])
        (.seq (.block 0 (.loop [0, 1, 4, 10, 11]
          (.seq (.seq (.region [⟨(some 31), .mov (.tmp 10), none, 0⟩,
            ⟨(some 32), .mov (.tmp 11), none, 0⟩,
            ⟨(some 33), .bin .lss (.tmp 31) (.tmp 32), none, 0⟩])
          (.cond (.tmp 33)
            (.skip)
            (.exit 0)))
          (.block 1 (.seq (.region [⟨(some 34), .mov (.tmp 10), none, 0⟩,
            ⟨(some 35), .mov (.tmp 11), none, 0⟩,
            ⟨(some 36), .bin .add (.tmp 34) (.tmp 35), none, 0⟩,
            ⟨(some 37), .conv (.int .u64) (.tmp 36), none, 0⟩,
            ⟨(some 38), .bin .shr (.tmp 37) (.const (.int .u64 1)), none, 0⟩,
            ⟨(some 39), .conv (.int .i64) (.tmp 38), none, 0⟩,
            ⟨(some 12), .mov (.tmp 39), none, 0⟩])
          (.seq (.region [⟨(some 40), .mov (.tmp 4), none, 0⟩,
            ⟨(some 41), .mov (.tmp 0), none, 0⟩,
            ⟨(some 42), .mov (.tmp 12), none, 0⟩,
            ⟨(some 43), .iaddr none 4 (.tmp 41) (.tmp 42), none, 0⟩,
            ⟨(some 44), .load (some 4) (.tmp 43), none, 0⟩,
            ⟨(some 45), .mov (.tmp 0), none, 0⟩,
            ⟨(some 46), .mov (.tmp 1), none, 0⟩,
            ⟨(some 47), .iaddr none 4 (.tmp 45) (.tmp 46), none, 0⟩,
            ⟨(some 48), .load (some 4) (.tmp 47), none, 0⟩,
            ⟨(some 49), .callv (.tmp 40) [.tmp 44, .tmp 48], none, 0⟩,
            ⟨(some 50), .bin .lss (.tmp 49) (.const (.int .i64 0)), none, 0⟩])
          (.cond (.tmp 50)
            (.region [⟨(some 51), .mov (.tmp 12), none, 0⟩,
              ⟨(some 52), .bin .add (.tmp 51) (.const (.int .i64 1)), none, 0⟩,
              ⟨(some 10), .mov (.tmp 52), none, 0⟩])
            (.region [⟨(some 53), .mov (.tmp 12), none, 0⟩,
              ⟨(some 11), .mov (.tmp 53), none, 0⟩]))))))))
        (.seq (.seq (.region [⟨(some 54), .mov (.tmp 1), none, 0⟩,
          ⟨(some 13), .mov (.tmp 54), none, 0⟩])
        (.block 2 (.loop [0, 10, 13]
          (.seq (.seq (.region [⟨(some 55), .mov (.tmp 13), none, 0⟩,
            ⟨(some 56), .mov (.tmp 10), none, 0⟩,
            ⟨(some 57), .bin .sub (.tmp 56) (.const (.int .i64 1)), none, 0⟩,
            ⟨(some 58), .bin .lss (.tmp 55) (.tmp 57), none, 0⟩])
          (.cond (.tmp 58)
            (.skip)
            (.exit 2)))
          (.seq (.block 3 (.region [⟨(some 61), .mov (.tmp 0), none, 0⟩,
            ⟨(some 62), .mov (.tmp 13), none, 0⟩,
            ⟨(some 66), .mov (.tmp 0), none, 0⟩,
            ⟨(some 67), .mov (.tmp 13), none, 0⟩,
            ⟨(some 68), .bin .add (.tmp 67) (.const (.int .i64 1)), none, 0⟩,
            ⟨(some 69), .iaddr none 4 (.tmp 66) (.tmp 68), none, 0⟩,
            ⟨(some 70), .load (some 4) (.tmp 69), none, 0⟩,
            ⟨(some 71), .mov (.tmp 0), none, 0⟩,
            ⟨(some 72), .mov (.tmp 13), none, 0⟩,
            ⟨(some 73), .iaddr none 4 (.tmp 71) (.tmp 72), none, 0⟩,
            ⟨(some 74), .load (some 4) (.tmp 73), none, 0⟩,
            ⟨(some 75), .iaddr none 4 (.tmp 61) (.tmp 62), none, 0⟩,
            ⟨none, .store 4 (.tmp 75) (.tmp 70), none, 0⟩,
            ⟨(some 63), .mov (.tmp 0), none, 0⟩,
            ⟨(some 64), .mov (.tmp 13), none, 0⟩,
            ⟨(some 65), .bin .add (.tmp 64) (.const (.int .i64 1)), none, 0⟩,
            ⟨(some 76), .iaddr none 4 (.tmp 63) (.tmp 65), none, 0⟩,
            ⟨none, .store 4 (.tmp 76) (.tmp 74), none, 0⟩]))
          (.region [⟨(some 59), .mov (.tmp 13), none, 0⟩,
            ⟨(some 60), .bin .add (.tmp 59) (.const (.int .i64 1)), none, 0⟩,
            ⟨(some 13), .mov (.tmp 60), none, 0⟩]))))))
        (.ret)))))
        (.skip)))
      (.seq (.seq (.region [⟨(some 77), .mov (.tmp 3), none, 0⟩,
        ⟨(some 78), .mov (.tmp 2), none, 0⟩,
        ⟨(some 79), .bin .sub (.tmp 77) (.tmp 78), none, 0⟩,
        ⟨(some 80), .bin .eql (.tmp 79) (.const (.int .i64 1)), none, 0⟩])
      (.cond (.tmp 80)
        (.seq (.region [⟨(some 81), .mov (.tmp 1), none, 0⟩,
          ⟨(some 14), .mov (.tmp 81), none, 0⟩])
        (.seq (.region [⟨(some 82), .mov (.tmp 2), none, 0⟩,
          ⟨(some 15), .mov (.tmp 82), none, 0⟩])
        (.seq (.block 4 (.loop [0, 2, 4, 14, 15]
          (.seq (.seq (.region [⟨(some 83), .mov (.tmp 14), none, 0⟩,
            ⟨(some 84), .mov (.tmp 15), none, 0⟩,
            ⟨(some 85), .bin .lss (.tmp 83) (.tmp 84), none, 0⟩])
          (.cond (.tmp 85)
            (.skip)
            (.exit 4)))
          (.block 5 (.seq (.region [⟨(some 86), .mov (.tmp 14), none, 0⟩,
            ⟨(some 87), .mov (.tmp 15), none, 0⟩,
            ⟨(some 88), .bin .add (.tmp 86) (.tmp 87), none, 0⟩,
            ⟨(some 89), .conv (.int .u64) (.tmp 88), none, 0⟩,
            ⟨(some 90), .bin .shr (.tmp 89) (.const (.int .u64 1)), none, 0⟩,
            ⟨(some 91), .conv (.int .i64) (.tmp 90), none, 0⟩,
            ⟨(some 16), .mov (.tmp 91), none, 0⟩])
          (.seq (.region [⟨(some 92), .mov (.tmp 4), none, 0⟩,
            ⟨(some 93), .mov (.tmp 0), none, 0⟩,
            ⟨(some 94), .mov (.tmp 2), none, 0⟩,
            ⟨(some 95), .iaddr none 4 (.tmp 93) (.tmp 94), none, 0⟩,
            ⟨(some 96), .load (some 4) (.tmp 95), none, 0⟩,
            ⟨(some 97), .mov (.tmp 0), none, 0⟩,
            ⟨(some 98), .mov (.tmp 16), none, 0⟩,
            ⟨(some 99), .iaddr none 4 (.tmp 97) (.tmp 98), none, 0⟩,
            ⟨(some 100), .load (some 4) (.tmp 99), none, 0⟩,
            ⟨(some 101), .callv (.tmp 92) [.tmp 96, .tmp 100], none, 0⟩,
            ⟨(some 102), .bin .lss (.tmp 101) (.const (.int .i64 0)), none, 0⟩,
            ⟨(some 103), .un .not (.tmp 102), none, 0⟩])
          (.cond (.tmp 103)
            (.region [⟨(some 104), .mov (.tmp 16), none, 0⟩,
              ⟨(some 105), .bin .add (.tmp 104) (.const (.int .i64 1)), none, 0⟩,
              ⟨(some 14), .mov (.tmp 105), none, 0⟩])
            (.region [⟨(some 106), .mov (.tmp 16), none, 0⟩,
              ⟨(some 15), .mov (.tmp 106), none, 0⟩]))))))))
        (.seq (.seq (.region [⟨(some 107), .mov (.tmp 2), none, 0⟩,
          ⟨(some 17), .mov (.tmp 107), none, 0⟩])
        (.block 6 (.loop [0, 14, 17]
          (.seq (.seq (.region [⟨(some 108), .mov (.tmp 17), none, 0⟩,
            ⟨(some 109), .mov (.tmp 14), none, 0⟩,
            ⟨(some 110), .bin .gtr (.tmp 108) (.tmp 109), none, 0⟩])
          (.cond (.tmp 110)
            (.skip)
            (.exit 6)))
          (.seq (.block 7 (.region [⟨(some 113), .mov (.tmp 0), none, 0⟩,
            ⟨(some 114), .mov (.tmp 17), none, 0⟩,
            ⟨(some 118), .mov (.tmp 0), none, 0⟩,
            ⟨(some 119), .mov (.tmp 17), none, 0⟩,
            ⟨(some 120), .bin .sub (.tmp 119) (.const (.int .i64 1)), none, 0⟩,
            ⟨(some 121), .iaddr none 4 (.tmp 118) (.tmp 120), none, 0⟩,
            ⟨(some 122), .load (some 4) (.tmp 121), none, 0⟩,
            ⟨(some 123), .mov (.tmp 0), none, 0⟩,
            ⟨(some 124), .mov (.tmp 17), none, 0⟩,
            ⟨(some 125), .iaddr none 4 (.tmp 123) (.tmp 124), none, 0⟩,
            ⟨(some 126), .load (some 4) (.tmp 125), none, 0⟩,
            ⟨(some 127), .iaddr none 4 (.tmp 113) (.tmp 114), none, 0⟩,
            ⟨none, .store 4 (.tmp 127) (.tmp 122), none, 0⟩,
            ⟨(some 115), .mov (.tmp 0), none, 0⟩,
            ⟨(some 116), .mov (.tmp 17), none, 0⟩,
            ⟨(some 117), .bin .sub (.tmp 116) (.const (.int .i64 1)), none, 0⟩,
            ⟨(some 128), .iaddr none 4 (.tmp 115) (.tmp 117), none, 0⟩,
            ⟨none, .store 4 (.tmp 128) (.tmp 126), none, 0⟩]))
          (.region [⟨(some 111), .mov (.tmp 17), none, 0⟩,
            ⟨(some 112), .bin .sub (.tmp 111) (.const (.int .i64 1)), none, 0⟩,
            ⟨(some 17), .mov (.tmp 112), none, 0⟩]))))))
        (.ret)))))
        (.skip)))
      (.seq (.region [⟨(some 129), .mov (.tmp 1), none, 0⟩,
        ⟨(some 130), .mov (.tmp 3), none, 0⟩,
        ⟨(some 131), .bin .add (.tmp 129) (.tmp 130), none, 0⟩,
        ⟨(some 132), .conv (.int .u64) (.tmp 131), none, 0⟩,
        ⟨(some 133), .bin .shr (.tmp 132) (.const (.int .u64 1)), none, 0⟩,
        ⟨(some 134), .conv (.int .i64) (.tmp 133), none, 0⟩,
        ⟨(some 18), .mov (.tmp 134), none, 0⟩])
      (.seq (.region [⟨(some 135), .mov (.tmp 18), none, 0⟩,
        ⟨(some 136), .mov (.tmp 2), none, 0⟩,
        ⟨(some 137), .bin .add (.tmp 135) (.tmp 136), none, 0⟩,
        ⟨(some 19), .mov (.tmp 137), none, 0⟩])
      (.seq (.region [⟨(some 20), .mov (.const (.int .i64 0)), none, 0⟩,
        ⟨(some 21), .mov (.const (.int .i64 0)), none, 0⟩])
      (.seq (.seq (.region [⟨(some 138), .mov (.tmp 2), none, 0⟩,
        ⟨(some 139), .mov (.tmp 18), none, 0⟩,
        ⟨(some 140), .bin .gtr (.tmp 138) (.tmp 139), none, 0⟩])
      (.cond (.tmp 140)
        (.seq (.region [⟨(some 141), .mov (.tmp 19), none, 0⟩,
          ⟨(some 142), .mov (.tmp 3), none, 0⟩,
          ⟨(some 143), .bin .sub (.tmp 141) (.tmp 142), none, 0⟩,
          ⟨(some 20), .mov (.tmp 143), none, 0⟩])
        (.region [⟨(some 144), .mov (.tmp 18), none, 0⟩,
          ⟨(some 21), .mov (.tmp 144), none, 0⟩]))
        (.seq (.region [⟨(some 145), .mov (.tmp 1), none, 0⟩,
          ⟨(some 20), .mov (.tmp 145), none, 0⟩])
        (.region [⟨(some 146), .mov (.tmp 2), none, 0⟩,
          ⟨(some 21), .mov (.tmp 146), none, 0⟩]))))
      (.seq (.region [⟨(some 147), .mov (.tmp 19), none, 0⟩,
        ⟨(some 148), .bin .sub (.tmp 147) (.const (.int .i64 1)), none, 0⟩,
        ⟨(some 22), .mov (.tmp 148), none, 0⟩])
      (.seq (.block 8 (.loop [0, 1, 2, 3, 4, 18, 19, 20, 21, 22]
        (.seq (.seq (.region [⟨(some 149), .mov (.tmp 20), none, 0⟩,
          ⟨(some 150), .mov (.tmp 21), none, 0⟩,
          ⟨(some 151), .bin .lss (.tmp 149) (.tmp 150), none, 0⟩])
        (.cond (.tmp 151)
          (.skip)
          (.exit 8)))
        (.block 9 (.seq (.region [⟨(some 152), .mov (.tmp 20), none, 0⟩,
          ⟨(some 153), .mov (.tmp 21), none, 0⟩,
          ⟨(some 154), .bin .add (.tmp 152) (.tmp 153), none, 0⟩,
          ⟨(some 155), .conv (.int .u64) (.tmp 154), none, 0⟩,
          ⟨(some 156), .bin .shr (.tmp 155) (.const (.int .u64 1)), none, 0⟩,
          ⟨(some 157), .conv (.int .i64) (.tmp 156), none, 0⟩,
          ⟨(some 23), .mov (.tmp 157), none, 0⟩])
        (.seq (.region [⟨(some 158), .mov (.tmp 4), none, 0⟩,
          ⟨(some 159), .mov (.tmp 0), none, 0⟩,
          ⟨(some 160), .mov (.tmp 22), none, 0⟩,
          ⟨(some 161), .mov (.tmp 23), none, 0⟩,
          ⟨(some 162), .bin .sub (.tmp 160) (.tmp 161), none, 0⟩,
          ⟨(some 163), .iaddr none 4 (.tmp 159) (.tmp 162), none, 0⟩,
          ⟨(some 164), .load (some 4) (.tmp 163), none, 0⟩,
          ⟨(some 165), .mov (.tmp 0), none, 0⟩,
          ⟨(some 166), .mov (.tmp 23), none, 0⟩,
          ⟨(some 167), .iaddr none 4 (.tmp 165) (.tmp 166), none, 0⟩,
          ⟨(some 168), .load (some 4) (.tmp 167), none, 0⟩,
          ⟨(some 169), .callv (.tmp 158) [.tmp 164, .tmp 168], none, 0⟩,
          ⟨(some 170), .bin .lss (.tmp 169) (.const (.int .i64 0)), none, 0⟩,
          ⟨(some 171), .un .not (.tmp 170), none, 0⟩])
        (.cond (.tmp 171)
          (.region [⟨(some 172), .mov (.tmp 23), none, 0⟩,
            ⟨(some 173), .bin .add (.tmp 172) (.const (.int .i64 1)), none, 0⟩,
            ⟨(some 20), .mov (.tmp 173), none, 0⟩])
          (.region [⟨(some 174), .mov (.tmp 23), none, 0⟩,
            ⟨(some 21), .mov (.tmp 174), none, 0⟩]))))))))
      (.seq (.region [⟨(some 175), .mov (.tmp 19), none, 0⟩,
        ⟨(some 176), .mov (.tmp 20), none, 0⟩,
        ⟨(some 177), .bin .sub (.tmp 175) (.tmp 176), none, 0⟩,
        ⟨(some 24), .mov (.tmp 177), none, 0⟩])
      (.seq (.seq (.region [⟨(some 178), .mov (.tmp 20), none, 0⟩,
        ⟨(some 179), .mov (.tmp 2), none, 0⟩,
        ⟨(some 180), .bin .lss (.tmp 178) (.tmp 179), none, 0⟩,
        ⟨(some 181), .mov (.tmp 180), none, 0⟩,
        ⟨(some 182), .mov (.tmp 2), (some (181, true)), 0⟩,
        ⟨(some 183), .mov (.tmp 24), (some (181, true)), 0⟩,
        ⟨(some 184), .bin .lss (.tmp 182) (.tmp 183), (some (181, true)), 0⟩,
        ⟨(some 185), .pick (.tmp 181) (.tmp 184) (.const (.bool false)), none, 0⟩])
      (.cond (.tmp 185)
        (.region [⟨(some 186), .mov (.tmp 0), none, 0⟩,
          ⟨(some 187), .mov (.tmp 20), none, 0⟩,
          ⟨(some 188), .mov (.tmp 2), none, 0⟩,
          ⟨(some 189), .mov (.tmp 24), none, 0⟩,
          ⟨(some 190), .mov (.tmp 4), none, 0⟩,
          ⟨(some 191), .call Id.slices_rotateCmpFunc_plan_Object [.tmp 186, .tmp 187, .tmp 188, .tmp 189, .tmp 190], none, 0⟩])
        (.skip)))
      (.seq (.seq (.region [⟨(some 192), .mov (.tmp 1), none, 0⟩,
        ⟨(some 193), .mov (.tmp 20), none, 0⟩,
        ⟨(some 194), .bin .lss (.tmp 192) (.tmp 193), none, 0⟩,
        ⟨(some 195), .mov (.tmp 194), none, 0⟩,
        ⟨(some 196), .mov (.tmp 20), (some (195, true)), 0⟩,
        ⟨(some 197), .mov (.tmp 18), (some (195, true)), 0⟩,
        ⟨(some 198), .bin .lss (.tmp 196) (.tmp 197), (some (195, true)), 0⟩,
        ⟨(some 199), .pick (.tmp 195) (.tmp 198) (.const (.bool false)), none, 0⟩])
      (.cond (.tmp 199)
        (.region [⟨(some 200), .mov (.tmp 0), none, 0⟩,
          ⟨(some 201), .mov (.tmp 1), none, 0⟩,
          ⟨(some 202), .mov (.tmp 20), none, 0⟩,
          ⟨(some 203), .mov (.tmp 18), none, 0⟩,
          ⟨(some 204), .mov (.tmp 4), none, 0⟩,
          ⟨(some 205), .call Id.slices_symMergeCmpFunc_plan_Object [.tmp 200, .tmp 201, .tmp 202, .tmp 203, .tmp 204], none, 0⟩])
        (.skip)))
      (.seq (.region [⟨(some 206), .mov (.tmp 18), none, 0⟩,
        ⟨(some 207), .mov (.tmp 24), none, 0⟩,
        ⟨(some 208), .bin .lss (.tmp 206) (.tmp 207), none, 0⟩,
        ⟨(some 209), .mov (.tmp 208), none, 0⟩,
        ⟨(some 210), .mov (.tmp 24), (some (209, true)), 0⟩,
        ⟨(some 211), .mov (.tmp 3), (some (209, true)), 0⟩,
        ⟨(some 212), .bin .lss (.tmp 210) (.tmp 211), (some (209, true)), 0⟩,
        ⟨(some 213), .pick (.tmp 209) (.tmp 212) (.const (.bool false)), none, 0⟩])
      (.cond (.tmp 213)
        (.region [⟨(some 214), .mov (.tmp 0), none, 0⟩,
          ⟨(some 215), .mov (.tmp 18), none, 0⟩,
          ⟨(some 216), .mov (.tmp 24), none, 0⟩,
          ⟨(some 217), .mov (.tmp 3), none, 0⟩,
          ⟨(some 218), .mov (.tmp 4), none, 0⟩,
          ⟨(some 219), .call Id.slices_symMergeCmpFunc_plan_Object [.tmp 214, .tmp 215, .tmp 216, .tmp 217, .tmp 218], none, 0⟩])
        (.skip))))))))))))) }

def F.cmp_isNaN_int : IFunc :=
  { lb := [], scr := false, nargs := 1, res := [.tmp 2],
    body := .seq (.region [⟨(some 2), .mov (.const (.bool false)), none, 0⟩])
      (.seq (.region [⟨(some 3), .mov (.tmp 0), none, 0⟩,
        ⟨(some 4), .mov (.tmp 0), none, 0⟩,
        ⟨(some 5), .bin .neq (.tmp 3) (.tmp 4), none, 0⟩,
        ⟨(some 2), .mov (.tmp 5), none, 0⟩])
      (.ret)) }

def F.slices_rotateCmpFunc_plan_Object : IFunc :=
  { lb := [], scr := false, nargs := 5, res := [],
    body := .seq (.region [⟨(some 12), .mov (.tmp 2), none, 0⟩,
        ⟨(some 13), .mov (.tmp 1), none, 0⟩,
        ⟨(some 14), .bin .sub (.tmp 12) (.tmp 13), none, 0⟩,
        ⟨(some 10), .mov (.tmp 14), none, 0⟩])
      (.seq (.region [⟨(some 15), .mov (.tmp 3), none, 0⟩,
        ⟨(some 16), .mov (.tmp 2), none, 0⟩,
        ⟨(some 17), .bin .sub (.tmp 15) (.tmp 16), none, 0⟩,
        ⟨(some 11), .mov (.tmp 17), none, 0⟩])
      (.seq (.block 0 (.loop [0, 2, 4, 10, 11]
        (.seq (.seq (.region [⟨(some 18), .mov (.tmp 10), none, 0⟩,
          ⟨(some 19), .mov (.tmp 11), none, 0⟩,
          ⟨(some 20), .bin .neq (.tmp 18) (.tmp 19), none, 0⟩])
        (.cond (.tmp 20)
          (.skip)
          (.exit 0)))
        (.block 1 (.seq (.region [⟨(some 21), .mov (.tmp 10), none, 0⟩,
          ⟨(some 22), .mov (.tmp 11), none, 0⟩,
          ⟨(some 23), .bin .gtr (.tmp 21) (.tmp 22), none, 0⟩])
        (.cond (.tmp 23)
          (.seq (.region [⟨(some 24), .mov (.tmp 0), none, 0⟩,
            ⟨(some 25), .mov (.tmp 2), none, 0⟩,
            ⟨(some 26), .mov (.tmp 10), none, 0⟩,
            ⟨(some 27), .bin .sub (.tmp 25) (.tmp 26), none, 0⟩,
            ⟨(some 28), .mov (.tmp 2), none, 0⟩,
            ⟨(some 29), .mov (.tmp 11), none, 0⟩,
            ⟨(some 30), .mov (.tmp 4), none, 0⟩,
            ⟨(some 31), .call Id.slices_swapRangeCmpFunc_plan_Object [.tmp 24, .tmp 27, .tmp 28, .tmp 29, .tmp 30], none, 0⟩])
          (.region [⟨(some 32), .mov (.tmp 10), none, 0⟩,
            ⟨(some 33), .mov (.tmp 11), none, 0⟩,
            ⟨(some 34), .bin .sub (.tmp 32) (.tmp 33), none, 0⟩,
            ⟨(some 10), .mov (.tmp 34), none, 0⟩]))
          (.seq (.region [⟨(some 35), .mov (.tmp 0), none, 0⟩,
            ⟨(some 36), .mov (.tmp 2), none, 0⟩,
            ⟨(some 37), .mov (.tmp 10), none, 0⟩,
            ⟨(some 38), .bin .sub (.tmp 36) (.tmp 37), none, 0⟩,
            ⟨(some 39), .mov (.tmp 2), none, 0⟩,
            ⟨(some 40), .mov (.tmp 11), none, 0⟩,
            ⟨(some 41), .bin .add (.tmp 39) (.tmp 40), none, 0⟩,
            ⟨(some 42), .mov (.tmp 10), none, 0⟩,
            ⟨(some 43), .bin .sub (.tmp 41) (.tmp 42), none, 0⟩,
            ⟨(some 44), .mov (.tmp 10), none, 0⟩,
            ⟨(some 45), .mov (.tmp 4), none, 0⟩,
            ⟨(some 46), .call Id.slices_swapRangeCmpFunc_plan_Object [.tmp 35, .tmp 38, .tmp 43, .tmp 44, .tmp 45], none, 0⟩])
          (.region [⟨(some 47), .mov (.tmp 11), none, 0⟩,
            ⟨(some 48), .mov (.tmp 10), none, 0⟩,
            ⟨(some 49), .bin .sub (.tmp 47) (.tmp 48), none, 0⟩,
            ⟨(some 11), .mov (.tmp 49), none, 0⟩]))))))))
      (.region [⟨(some 50), .mov (.tmp 0), none, 0⟩,
        ⟨(some 51), .mov (.tmp 2), none, 0⟩,
        ⟨(some 52), .mov (.tmp 10), none, 0⟩,
        ⟨(some 53), .bin .sub (.tmp 51) (.tmp 52), none, 0⟩,
        ⟨(some 54), .mov (.tmp 2), none, 0⟩,
        ⟨(some 55), .mov (.tmp 10), none, 0⟩,
        ⟨(some 56), .mov (.tmp 4), none, 0⟩,
        ⟨(some 57), .call Id.slices_swapRangeCmpFunc_plan_Object [.tmp 50, .tmp 53, .tmp 54, .tmp 55, .tmp 56], none, 0⟩]))) }

def F.slices_swapRangeCmpFunc_plan_Object : IFunc :=
  { lb := [], scr := false, nargs := 5, res := [],
    body := .seq (.region [⟨(some 10), .mov (.const (.int .i64 0)), none, 0⟩])
      (.block 0 (.loop [0, 1, 2, 3, 10]
        (.seq (.seq (.region [⟨(some 11), .mov (.tmp 10), none, 0⟩,
          ⟨(some 12), .mov (.tmp 3), none, 0⟩,
          ⟨(some 13), .bin .lss (.tmp 11) (.tmp 12), none, 0⟩])
        (.cond (.tmp 13)
          (.skip)
          (.exit 0)))
        (.seq (.block 1 (.region [⟨(some 16), .mov (.tmp 0), none, 0⟩,
          ⟨(some 17), .mov (.tmp 1), none, 0⟩,
          ⟨(some 18), .mov (.tmp 10), none, 0⟩,
          ⟨(some 19), .bin .add (.tmp 17) (.tmp 18), none, 0⟩,
          ⟨(some 24), .mov (.tmp 0), none, 0⟩,
          ⟨(some 25), .mov (.tmp 2), none, 0⟩,
          ⟨(some 26), .mov (.tmp 10), none, 0⟩,
          ⟨(some 27), .bin .add (.tmp 25) (.tmp 26), none, 0⟩,
          ⟨(some 28), .iaddr none 4 (.tmp 24) (.tmp 27), none, 0⟩,
          ⟨(some 29), .load (some 4) (.tmp 28), none, 0⟩,
          ⟨(some 30), .mov (.tmp 0), none, 0⟩,
          ⟨(some 31), .mov (.tmp 1), none, 0⟩,
          ⟨(some 32), .mov (.tmp 10), none, 0⟩,
          ⟨(some 33), .bin .add (.tmp 31) (.tmp 32), none, 0⟩,
          ⟨(some 34), .iaddr none 4 (.tmp 30) (.tmp 33), none, 0⟩,
          ⟨(some 35), .load (some 4) (.tmp 34), none, 0⟩,
          ⟨(some 36), .iaddr none 4 (.tmp 16) (.tmp 19), none, 0⟩,
          ⟨none, .store 4 (.tmp 36) (.tmp 29), none, 0⟩,
          ⟨(some 20), .mov (.tmp 0), none, 0⟩,
          ⟨(some 21), .mov (.tmp 2), none, 0⟩,
          ⟨(some 22), .mov (.tmp 10), none, 0⟩,
          ⟨(some 23), .bin .add (.tmp 21) (.tmp 22), none, 0⟩,
          ⟨(some 37), .iaddr none 4 (.tmp 20) (.tmp 23), none, 0⟩,
          ⟨none, .store 4 (.tmp 37) (.tmp 35), none, 0⟩]))
        (.region [⟨(some 14), .mov (.tmp 10), none, 0⟩,
          ⟨(some 15), .bin .add (.tmp 14) (.const (.int .i64 1)), none, 0⟩,
          ⟨(some 10), .mov (.tmp 15), none, 0⟩]))))) }

def F.cells_Plain_Byte : IFunc :=
  { lb := [], scr := false, nargs := 2, res := [.tmp 4],
    body := .seq (.region [⟨(some 4), .mov (.const (.int .i64 0)), none, 0⟩])
      (.seq (.seq (.region [⟨(some 5), .mov (.tmp 0), none, 0⟩,
        ⟨(some 6), .mov (.tmp 1), none, 0⟩,
        ⟨(some 7), .call Id.cells_Plain_byte [.tmp 5, .tmp 6], none, 0⟩,
        ⟨(some 8), .un .not (.tmp 7), none, 0⟩])
      (.cond (.tmp 8)
        (.seq (.region [⟨(some 4), .mov (.const (.int .i64 0)), none, 0⟩])
        (.ret))
        (.skip)))
      (.seq (.region [⟨(some 9), .mov (.tmp 0), none, 0⟩,
        ⟨(some 10), .nilchk (.tmp 9), none, 0⟩,
        ⟨(some 11), .faddr 1 (.tmp 10), none, 0⟩,
        ⟨(some 12), .load none (.tmp 11), none, 0⟩,
        ⟨(some 13), .mov (.tmp 1), none, 0⟩,
        ⟨(some 14), .iaddr none 1 (.tmp 12) (.tmp 13), none, 0⟩,
        ⟨(some 15), .load none (.tmp 14), none, 0⟩,
        ⟨(some 16), .conv (.int .i64) (.tmp 15), none, 0⟩,
        ⟨(some 4), .mov (.tmp 16), none, 0⟩])
      (.ret))) }

def F.cells_Plain_Bytes : IFunc :=
  { lb := [], scr := false, nargs := 1, res := [.tmp 2],
    body := .seq (.region [⟨(some 2), .mov (.const (.int .i64 0)), none, 0⟩])
      (.seq (.seq (.region [⟨(some 3), .mov (.tmp 0), none, 0⟩,
        ⟨(some 4), .eqv false (.nil 0) (.tmp 3) (.const (.pointer none)), none, 0⟩])
      (.cond (.tmp 4)
        (.seq (.region [⟨(some 2), .mov (.const (.int .i64 0)), none, 0⟩])
        (.ret))
        (.skip)))
      (.seq (.region [⟨(some 5), .mov (.tmp 0), none, 0⟩,
        ⟨(some 6), .nilchk (.tmp 5), none, 0⟩,
        ⟨(some 7), .faddr 1 (.tmp 6), none, 0⟩,
        ⟨(some 8), .load none (.tmp 7), none, 0⟩,
        ⟨(some 9), .len false (.tmp 8), none, 0⟩,
        ⟨(some 2), .mov (.tmp 9), none, 0⟩])
      (.ret))) }

def F.cells_Plain_Cas : IFunc :=
  { lb := [], scr := false, nargs := 4, res := [.tmp 8],
    body := .seq (.region [⟨(some 8), .mov (.const (.bool false)), none, 0⟩])
      (.seq (.seq (.region [⟨(some 9), .mov (.tmp 0), none, 0⟩,
        ⟨(some 10), .mov (.tmp 1), none, 0⟩,
        ⟨(some 11), .call Id.cells_Plain_word [.tmp 9, .tmp 10], none, 0⟩,
        ⟨(some 12), .un .not (.tmp 11), none, 0⟩,
        ⟨(some 13), .mov (.tmp 12), none, 0⟩,
        ⟨(some 14), .mov (.tmp 0), (some (13, false)), 0⟩,
        ⟨(some 15), .nilchk (.tmp 14), (some (13, false)), 0⟩,
        ⟨(some 16), .faddr 0 (.tmp 15), (some (13, false)), 0⟩,
        ⟨(some 17), .load none (.tmp 16), (some (13, false)), 0⟩,
        ⟨(some 18), .mov (.tmp 1), (some (13, false)), 0⟩,
        ⟨(some 19), .iaddr none 1 (.tmp 17) (.tmp 18), (some (13, false)), 0⟩,
        ⟨(some 20), .load none (.tmp 19), (some (13, false)), 0⟩,
        ⟨(some 21), .mov (.tmp 2), (some (13, false)), 0⟩,
        ⟨(some 22), .bin .neq (.tmp 20) (.tmp 21), (some (13, false)), 0⟩,
        ⟨(some 23), .pick (.tmp 13) (.const (.bool true)) (.tmp 22), none, 0⟩])
      (.cond (.tmp 23)
        (.seq (.region [⟨(some 8), .mov (.const (.bool false)), none, 0⟩])
        (.ret))
        (.skip)))
      (.seq (.region [⟨(some 24), .mov (.tmp 0), none, 0⟩,
        ⟨(some 25), .nilchk (.tmp 24), none, 0⟩,
        ⟨(some 26), .faddr 0 (.tmp 25), none, 0⟩,
        ⟨(some 27), .load none (.tmp 26), none, 0⟩,
        ⟨(some 28), .mov (.tmp 1), none, 0⟩,
        ⟨(some 29), .mov (.tmp 3), none, 0⟩,
        ⟨(some 30), .iaddr none 1 (.tmp 27) (.tmp 28), none, 0⟩,
        ⟨none, .store 1 (.tmp 30) (.tmp 29), none, 0⟩])
      (.seq (.region [⟨(some 8), .mov (.const (.bool true)), none, 0⟩])
      (.ret)))) }

def F.cells_Plain_SetByte : IFunc :=
  { lb := [], scr := false, nargs := 3, res := [],
    body := .seq (.region [⟨(some 6), .mov (.tmp 0), none, 0⟩,
        ⟨(some 7), .mov (.tmp 1), none, 0⟩,
        ⟨(some 8), .call Id.cells_Plain_byte [.tmp 6, .tmp 7], none, 0⟩])
      (.cond (.tmp 8)
        (.region [⟨(some 9), .mov (.tmp 0), none, 0⟩,
          ⟨(some 10), .nilchk (.tmp 9), none, 0⟩,
          ⟨(some 11), .faddr 1 (.tmp 10), none, 0⟩,
          ⟨(some 12), .load none (.tmp 11), none, 0⟩,
          ⟨(some 13), .mov (.tmp 1), none, 0⟩,
          ⟨(some 14), .mov (.tmp 2), none, 0⟩,
          ⟨(some 15), .conv (.int .u8) (.tmp 14), none, 0⟩,
          ⟨(some 16), .iaddr none 1 (.tmp 12) (.tmp 13), none, 0⟩,
          ⟨none, .store 1 (.tmp 16) (.tmp 15), none, 0⟩])
        (.skip)) }

def F.cells_Plain_Store : IFunc :=
  { lb := [], scr := false, nargs := 3, res := [],
    body := .seq (.region [⟨(some 6), .mov (.tmp 0), none, 0⟩,
        ⟨(some 7), .mov (.tmp 1), none, 0⟩,
        ⟨(some 8), .call Id.cells_Plain_word [.tmp 6, .tmp 7], none, 0⟩])
      (.cond (.tmp 8)
        (.region [⟨(some 9), .mov (.tmp 0), none, 0⟩,
          ⟨(some 10), .nilchk (.tmp 9), none, 0⟩,
          ⟨(some 11), .faddr 0 (.tmp 10), none, 0⟩,
          ⟨(some 12), .load none (.tmp 11), none, 0⟩,
          ⟨(some 13), .mov (.tmp 1), none, 0⟩,
          ⟨(some 14), .mov (.tmp 2), none, 0⟩,
          ⟨(some 15), .iaddr none 1 (.tmp 12) (.tmp 13), none, 0⟩,
          ⟨none, .store 1 (.tmp 15) (.tmp 14), none, 0⟩])
        (.skip)) }

def F.cells_Plain_Words : IFunc :=
  { lb := [], scr := false, nargs := 1, res := [.tmp 2],
    body := .seq (.region [⟨(some 2), .mov (.const (.int .i64 0)), none, 0⟩])
      (.seq (.seq (.region [⟨(some 3), .mov (.tmp 0), none, 0⟩,
        ⟨(some 4), .eqv false (.nil 0) (.tmp 3) (.const (.pointer none)), none, 0⟩])
      (.cond (.tmp 4)
        (.seq (.region [⟨(some 2), .mov (.const (.int .i64 0)), none, 0⟩])
        (.ret))
        (.skip)))
      (.seq (.region [⟨(some 5), .mov (.tmp 0), none, 0⟩,
        ⟨(some 6), .nilchk (.tmp 5), none, 0⟩,
        ⟨(some 7), .faddr 0 (.tmp 6), none, 0⟩,
        ⟨(some 8), .load none (.tmp 7), none, 0⟩,
        ⟨(some 9), .len false (.tmp 8), none, 0⟩,
        ⟨(some 2), .mov (.tmp 9), none, 0⟩])
      (.ret))) }

def F.cells_Plain_byte : IFunc :=
  { lb := [], scr := false, nargs := 2, res := [.tmp 4],
    body := .seq (.region [⟨(some 4), .mov (.const (.bool false)), none, 0⟩])
      (.seq (.seq (.region [⟨(some 5), .mov (.tmp 0), none, 0⟩,
        ⟨(some 6), .eqv false (.nil 0) (.tmp 5) (.const (.pointer none)), none, 0⟩])
      (.cond (.tmp 6)
        (.seq (.region [⟨(some 4), .mov (.const (.bool false)), none, 0⟩])
        (.ret))
        (.skip)))
      (.seq (.region [⟨(some 7), .mov (.tmp 0), none, 0⟩,
        ⟨(some 8), .nilchk (.tmp 7), none, 0⟩,
        ⟨(some 9), .faddr 2 (.tmp 8), none, 0⟩,
        ⟨(some 10), .load none (.tmp 9), none, 0⟩,
        ⟨(some 11), .bin .add (.tmp 10) (.const (.int .i64 1)), none, 0⟩,
        ⟨(some 12), .nilchk (.tmp 7), none, 0⟩,
        ⟨(some 13), .faddr 2 (.tmp 12), none, 0⟩,
        ⟨none, .store 1 (.tmp 13) (.tmp 11), none, 0⟩])
      (.seq (.region [⟨(some 14), .mov (.tmp 1), none, 0⟩,
        ⟨(some 15), .bin .geq (.tmp 14) (.const (.int .i64 0)), none, 0⟩,
        ⟨(some 16), .mov (.tmp 15), none, 0⟩,
        ⟨(some 17), .mov (.tmp 1), (some (16, true)), 0⟩,
        ⟨(some 18), .mov (.tmp 0), (some (16, true)), 0⟩,
        ⟨(some 19), .nilchk (.tmp 18), (some (16, true)), 0⟩,
        ⟨(some 20), .faddr 1 (.tmp 19), (some (16, true)), 0⟩,
        ⟨(some 21), .load none (.tmp 20), (some (16, true)), 0⟩,
        ⟨(some 22), .len false (.tmp 21), (some (16, true)), 0⟩,
        ⟨(some 23), .bin .lss (.tmp 17) (.tmp 22), (some (16, true)), 0⟩,
        ⟨(some 24), .pick (.tmp 16) (.tmp 23) (.const (.bool false)), none, 0⟩,
        ⟨(some 4), .mov (.tmp 24), none, 0⟩])
      (.ret)))) }

def F.alloc_Machine_Step : IFunc :=
  { lb := [4], scr := false, nargs := 2, res := [.lb 4 (some 2), .tmp 5],
    body := .seq (.region [⟨(some 4), .lbox (.const (.agg #[.int .i64 0, .int .i64 0])), none, 0⟩,
        ⟨(some 5), .mov (.const (.bool false)), none, 0⟩])
      (.seq (.seq (.region [⟨(some 8), .mov (.tmp 0), none, 0⟩,
        ⟨(some 9), .eqv false (.nil 0) (.tmp 8) (.const (.pointer none)), none, 0⟩,
        ⟨(some 10), .mov (.tmp 9), none, 0⟩,
        ⟨(some 11), .mov (.tmp 1), (some (10, false)), 0⟩,
        ⟨(some 12), .eqv false (.nil 4) (.tmp 11) (.const (.nilIface)), (some (10, false)), 0⟩,
        ⟨(some 13), .pick (.tmp 10) (.const (.bool true)) (.tmp 12), none, 0⟩,
        ⟨(some 14), .mov (.tmp 13), none, 0⟩,
        ⟨(some 15), .mov (.tmp 0), (some (14, false)), 0⟩,
        ⟨(some 16), .nilchk (.tmp 15), (some (14, false)), 0⟩,
        ⟨(some 17), .faddr 7 (.tmp 16), (some (14, false)), 0⟩,
        ⟨(some 18), .load none (.tmp 17), (some (14, false)), 0⟩,
        ⟨(some 19), .bin .eql (.tmp 18) (.const (.int .i64 0)), (some (14, false)), 0⟩,
        ⟨(some 20), .pick (.tmp 14) (.const (.bool true)) (.tmp 19), none, 0⟩])
      (.cond (.tmp 20)
        (.seq (.region [⟨(some 21), .build [.int .i64 0, .int .i64 0] [(0, 1, .const (.int .i64 1))], none, 0⟩,
          ⟨(some 4), .lstore none 4 0 2 (.tmp 21), none, 0⟩,
          ⟨(some 5), .mov (.const (.bool true)), none, 0⟩])
        (.ret))
        (.skip)))
      (.seq (.seq (.region [⟨(some 22), .mov (.tmp 0), none, 0⟩,
        ⟨(some 23), .nilchk (.tmp 22), none, 0⟩,
        ⟨(some 24), .faddr 7 (.tmp 23), none, 0⟩,
        ⟨(some 25), .load none (.tmp 24), none, 0⟩])
      (.block 0 (.seq (.region [⟨(some 27), .bin .eql (.tmp 25) (.const (.int .i64 1)), none, 0⟩,
        ⟨(some 26), .mov (.tmp 27), none, 0⟩])
      (.cond (.tmp 26)
        (.seq (.seq (.region [⟨(some 28), .mov (.tmp 0), none, 0⟩,
          ⟨(some 29), .nilchk (.tmp 28), none, 0⟩,
          ⟨(some 30), .faddr 6 (.tmp 29), none, 0⟩,
          ⟨(some 31), .load none (.tmp 30), none, 0⟩,
          ⟨(some 32), .bin .eql (.tmp 31) (.const (.int .i64 0)), none, 0⟩])
        (.cond (.tmp 32)
          (.seq (.region [⟨(some 33), .mov (.tmp 0), none, 0⟩,
            ⟨(some 34), .nilchk (.tmp 33), none, 0⟩,
            ⟨(some 35), .faddr 7 (.tmp 34), none, 0⟩,
            ⟨none, .store 1 (.tmp 35) (.const (.int .i64 0)), none, 0⟩])
          (.seq (.region [⟨(some 36), .build [.int .i64 0, .int .i64 0] [(0, 1, .const (.int .i64 9))], none, 0⟩,
            ⟨(some 4), .lstore none 4 0 2 (.tmp 36), none, 0⟩,
            ⟨(some 5), .mov (.const (.bool true)), none, 0⟩])
          (.ret)))
          (.skip)))
        (.region [⟨(some 40), .mov (.tmp 0), none, 0⟩,
          ⟨(some 41), .nilchk (.tmp 40), none, 0⟩,
          ⟨(some 42), .faddr 2 (.tmp 41), none, 0⟩,
          ⟨(some 43), .load (some 2) (.tmp 42), none, 0⟩,
          ⟨(some 44), .call Id.layout_Layout_Pending [.tmp 43], none, 0⟩,
          ⟨(some 39), .mov (.tmp 1), none, 0⟩,
          ⟨(some 45), .mkfn (.method "Load") [.tmp 39] [], none, 0⟩,
          ⟨(some 46), .nilchkm "Load" [(41, Id.cells_Plain_Load)] (.tmp 45), none, 0⟩,
          ⟨(some 47), .mov (.tmp 39), none, 0⟩,
          ⟨(some 48), .invoke [(41, Id.cells_Plain_Load)] (.tmp 47) [.tmp 44], none, 0⟩,
          ⟨(some 37), .mov (.tmp 0), none, 0⟩,
          ⟨(some 49), .nilchk (.tmp 37), none, 0⟩,
          ⟨(some 50), .faddr 8 (.tmp 49), none, 0⟩,
          ⟨none, .store 1 (.tmp 50) (.tmp 48), none, 0⟩,
          ⟨(some 38), .mov (.tmp 0), none, 0⟩,
          ⟨(some 51), .nilchk (.tmp 38), none, 0⟩,
          ⟨(some 52), .faddr 7 (.tmp 51), none, 0⟩,
          ⟨none, .store 1 (.tmp 52) (.const (.int .i64 2)), none, 0⟩]))
        (.seq (.region [⟨(some 54), .bin .eql (.tmp 25) (.const (.int .i64 2)), none, 0⟩,
          ⟨(some 53), .mov (.tmp 54), none, 0⟩])
        (.cond (.tmp 53)
          (.region [⟨(some 55), .mov (.tmp 0), none, 0⟩,
            ⟨(some 56), .mov (.tmp 1), none, 0⟩,
            ⟨(some 57), .call Id.alloc_Machine_pending [.tmp 55, .tmp 56, .const (.int .i64 1), .const (.int .i64 1), .const (.int .i64 3)], none, 0⟩])
          (.seq (.region [⟨(some 59), .bin .eql (.tmp 25) (.const (.int .i64 3)), none, 0⟩,
            ⟨(some 58), .mov (.tmp 59), none, 0⟩])
          (.cond (.tmp 58)
            (.region [⟨(some 60), .mov (.tmp 0), none, 0⟩,
              ⟨(some 61), .mov (.tmp 1), none, 0⟩,
              ⟨(some 62), .call Id.alloc_Machine_take [.tmp 60, .tmp 61], none, 0⟩])
            (.seq (.region [⟨(some 64), .bin .eql (.tmp 25) (.const (.int .i64 4)), none, 0⟩,
              ⟨(some 63), .mov (.tmp 64), none, 0⟩])
            (.cond (.tmp 63)
              (.region [⟨(some 65), .mov (.tmp 0), none, 0⟩,
                ⟨(some 66), .mov (.tmp 1), none, 0⟩,
                ⟨(some 67), .call Id.alloc_Machine_front [.tmp 65, .tmp 66], none, 0⟩])
              (.seq (.region [⟨(some 69), .bin .eql (.tmp 25) (.const (.int .i64 5)), none, 0⟩,
                ⟨(some 68), .mov (.tmp 69), none, 0⟩])
              (.cond (.tmp 68)
                (.seq (.region [⟨(some 70), .mov (.tmp 0), none, 0⟩,
                  ⟨(some 71), .nilchk (.tmp 70), none, 0⟩,
                  ⟨(some 72), .faddr 7 (.tmp 71), none, 0⟩,
                  ⟨none, .store 1 (.tmp 72) (.const (.int .i64 4)), none, 0⟩])
                (.seq (.region [⟨(some 74), .mov (.tmp 0), none, 0⟩,
                  ⟨(some 75), .nilchk (.tmp 74), none, 0⟩,
                  ⟨(some 76), .faddr 2 (.tmp 75), none, 0⟩,
                  ⟨(some 77), .load (some 2) (.tmp 76), none, 0⟩,
                  ⟨(some 78), .call Id.layout_Layout_Frontier [.tmp 77], none, 0⟩,
                  ⟨(some 73), .mov (.tmp 1), none, 0⟩,
                  ⟨(some 79), .mov (.tmp 0), none, 0⟩,
                  ⟨(some 80), .nilchk (.tmp 79), none, 0⟩,
                  ⟨(some 81), .faddr 11 (.tmp 80), none, 0⟩,
                  ⟨(some 82), .load none (.tmp 81), none, 1⟩,
                  ⟨(some 83), .mov (.tmp 0), none, 0⟩,
                  ⟨(some 84), .nilchk (.tmp 83), none, 0⟩,
                  ⟨(some 85), .faddr 11 (.tmp 84), none, 0⟩,
                  ⟨(some 86), .load none (.tmp 85), none, 1⟩,
                  ⟨(some 87), .mov (.tmp 0), none, 0⟩,
                  ⟨(some 88), .nilchk (.tmp 87), none, 0⟩,
                  ⟨(some 89), .faddr 6 (.tmp 88), none, 0⟩,
                  ⟨(some 90), .load none (.tmp 89), none, 1⟩,
                  ⟨(some 91), .bin .add (.tmp 86) (.tmp 90), none, 0⟩,
                  ⟨(some 92), .mkfn (.method "Cas") [.tmp 73] [], none, 0⟩,
                  ⟨(some 93), .nilchkm "Cas" [(41, Id.cells_Plain_Cas)] (.tmp 92), none, 0⟩,
                  ⟨(some 94), .mov (.tmp 73), none, 0⟩,
                  ⟨(some 95), .invoke [(41, Id.cells_Plain_Cas)] (.tmp 94) [.tmp 78, .tmp 82, .tmp 91], none, 0⟩])
                (.cond (.tmp 95)
                  (.region [⟨(some 96), .mov (.tmp 0), none, 0⟩,
                    ⟨(some 97), .mov (.tmp 0), none, 0⟩,
                    ⟨(some 98), .nilchk (.tmp 96), none, 0⟩,
                    ⟨(some 99), .faddr 15 (.tmp 98), none, 0⟩,
                    ⟨none, .store 1 (.tmp 99) (.const (.bool true)), none, 0⟩,
                    ⟨(some 100), .nilchk (.tmp 97), none, 0⟩,
                    ⟨(some 101), .faddr 7 (.tmp 100), none, 0⟩,
                    ⟨none, .store 1 (.tmp 101) (.const (.int .i64 7)), none, 0⟩])
                  (.skip))))
                (.seq (.region [⟨(some 103), .bin .eql (.tmp 25) (.const (.int .i64 6)), none, 0⟩,
                  ⟨(some 102), .mov (.tmp 103), none, 0⟩])
                (.cond (.tmp 102)
                  (.seq (.region [⟨(some 105), .mov (.tmp 0), none, 0⟩,
                    ⟨(some 106), .nilchk (.tmp 105), none, 0⟩,
                    ⟨(some 107), .faddr 1 (.tmp 106), none, 0⟩,
                    ⟨(some 108), .load none (.tmp 107), none, 0⟩,
                    ⟨(some 109), .mov (.tmp 1), none, 0⟩,
                    ⟨(some 110), .call Id.stack_Push_Step [.tmp 108, .tmp 109], none, 0⟩,
                    ⟨(some 104), .mov (.tmp 110), none, 0⟩,
                    ⟨(some 111), .extract (.tmp 104) 0, none, 0⟩,
                    ⟨(some 112), .extract (.tmp 104) 1, none, 0⟩,
                    ⟨(some 6), .mov (.tmp 111), none, 0⟩,
                    ⟨(some 7), .mov (.tmp 112), none, 0⟩])
                  (.seq (.region [⟨(some 113), .mov (.tmp 7), none, 0⟩])
                  (.cond (.tmp 113)
                    (.region [⟨(some 114), .mov (.tmp 0), none, 0⟩,
                      ⟨(some 115), .nilchk (.tmp 114), none, 0⟩,
                      ⟨(some 116), .faddr 7 (.tmp 115), none, 0⟩,
                      ⟨none, .store 1 (.tmp 116) (.const (.int .i64 11)), none, 0⟩])
                    (.skip))))
                  (.seq (.region [⟨(some 118), .bin .eql (.tmp 25) (.const (.int .i64 7)), none, 0⟩,
                    ⟨(some 117), .mov (.tmp 118), none, 0⟩])
                  (.cond (.tmp 117)
                    (.region [⟨(some 119), .mov (.tmp 0), none, 0⟩,
                      ⟨(some 120), .mov (.tmp 1), none, 0⟩,
                      ⟨(some 121), .call Id.alloc_Machine_clear [.tmp 119, .tmp 120], none, 0⟩])
                    (.seq (.region [⟨(some 123), .bin .eql (.tmp 25) (.const (.int .i64 8)), none, 0⟩,
                      ⟨(some 122), .mov (.tmp 123), none, 0⟩])
                    (.cond (.tmp 122)
                      (.seq (.region [⟨(some 125), .mov (.tmp 0), none, 0⟩,
                        ⟨(some 126), .nilchk (.tmp 125), none, 0⟩,
                        ⟨(some 127), .faddr 2 (.tmp 126), none, 0⟩,
                        ⟨(some 128), .load (some 2) (.tmp 127), none, 0⟩,
                        ⟨(some 129), .mov (.tmp 0), none, 0⟩,
                        ⟨(some 130), .nilchk (.tmp 129), none, 0⟩,
                        ⟨(some 131), .faddr 10 (.tmp 130), none, 0⟩,
                        ⟨(some 132), .load none (.tmp 131), none, 0⟩,
                        ⟨(some 133), .call Id.layout_Layout_Size [.tmp 128, .tmp 132], none, 0⟩,
                        ⟨(some 124), .mov (.tmp 1), none, 0⟩,
                        ⟨(some 134), .mov (.tmp 0), none, 0⟩,
                        ⟨(some 135), .nilchk (.tmp 134), none, 0⟩,
                        ⟨(some 136), .faddr 5 (.tmp 135), none, 0⟩,
                        ⟨(some 137), .load none (.tmp 136), none, 1⟩,
                        ⟨(some 138), .mkfn (.method "Store") [.tmp 124] [], none, 0⟩,
                        ⟨(some 139), .nilchkm "Store" [(41, Id.cells_Plain_Store)] (.tmp 138), none, 0⟩,
                        ⟨(some 140), .mov (.tmp 124), none, 0⟩,
                        ⟨(some 141), .invoke [(41, Id.cells_Plain_Store)] (.tmp 140) [.tmp 133, .tmp 137], none, 0⟩])
                      (.region [⟨(some 142), .mov (.tmp 0), none, 0⟩,
                        ⟨(some 143), .nilchk (.tmp 142), none, 0⟩,
                        ⟨(some 144), .faddr 7 (.tmp 143), none, 0⟩,
                        ⟨none, .store 1 (.tmp 144) (.const (.int .i64 9)), none, 0⟩]))
                      (.seq (.region [⟨(some 146), .bin .eql (.tmp 25) (.const (.int .i64 9)), none, 0⟩,
                        ⟨(some 145), .mov (.tmp 146), none, 0⟩])
                      (.cond (.tmp 145)
                        (.region [⟨(some 147), .mov (.tmp 0), none, 0⟩,
                          ⟨(some 148), .mov (.tmp 1), none, 0⟩,
                          ⟨(some 149), .call Id.alloc_Machine_look [.tmp 147, .tmp 148], none, 0⟩])
                        (.seq (.region [⟨(some 151), .bin .eql (.tmp 25) (.const (.int .i64 10)), none, 0⟩,
                          ⟨(some 150), .mov (.tmp 151), none, 0⟩])
                        (.cond (.tmp 150)
                          (.region [⟨(some 152), .mov (.tmp 0), none, 0⟩,
                            ⟨(some 153), .mov (.tmp 1), none, 0⟩,
                            ⟨(some 154), .call Id.alloc_Machine_publish [.tmp 152, .tmp 153], none, 0⟩])
                          (.seq (.region [⟨(some 156), .bin .eql (.tmp 25) (.const (.int .i64 11)), none, 0⟩,
                            ⟨(some 155), .mov (.tmp 156), none, 0⟩])
                          (.cond (.tmp 155)
                            (.region [⟨(some 160), .mov (.tmp 0), none, 0⟩,
                              ⟨(some 161), .nilchk (.tmp 160), none, 0⟩,
                              ⟨(some 162), .faddr 2 (.tmp 161), none, 0⟩,
                              ⟨(some 163), .load (some 2) (.tmp 162), none, 0⟩,
                              ⟨(some 164), .call Id.layout_Layout_Pending [.tmp 163], none, 0⟩,
                              ⟨(some 159), .mov (.tmp 1), none, 0⟩,
                              ⟨(some 165), .mkfn (.method "Load") [.tmp 159] [], none, 0⟩,
                              ⟨(some 166), .nilchkm "Load" [(41, Id.cells_Plain_Load)] (.tmp 165), none, 0⟩,
                              ⟨(some 167), .mov (.tmp 159), none, 0⟩,
                              ⟨(some 168), .invoke [(41, Id.cells_Plain_Load)] (.tmp 167) [.tmp 164], none, 0⟩,
                              ⟨(some 157), .mov (.tmp 0), none, 0⟩,
                              ⟨(some 169), .nilchk (.tmp 157), none, 0⟩,
                              ⟨(some 170), .faddr 8 (.tmp 169), none, 0⟩,
                              ⟨none, .store 1 (.tmp 170) (.tmp 168), none, 0⟩,
                              ⟨(some 158), .mov (.tmp 0), none, 0⟩,
                              ⟨(some 171), .nilchk (.tmp 158), none, 0⟩,
                              ⟨(some 172), .faddr 7 (.tmp 171), none, 0⟩,
                              ⟨none, .store 1 (.tmp 172) (.const (.int .i64 12)), none, 0⟩])
                            (.seq (.region [⟨(some 174), .bin .eql (.tmp 25) (.const (.int .i64 12)), none, 0⟩,
                              ⟨(some 173), .mov (.tmp 174), none, 0⟩])
                            (.cond (.tmp 173)
                              (.seq (.region [⟨(some 175), .mov (.tmp 0), none, 0⟩,
                                ⟨(some 176), .mov (.tmp 1), none, 0⟩,
                                ⟨(some 177), .call Id.alloc_Machine_pending [.tmp 175, .tmp 176, .const (.int .i64 (-1)), .const (.int .i64 11), .const (.int .i64 0)], none, 0⟩])
                              (.cond (.tmp 177)
                                (.seq (.region [⟨(some 178), .mov (.tmp 0), none, 0⟩,
                                  ⟨(some 179), .call Id.alloc_Machine_result [.tmp 178], none, 0⟩,
                                  ⟨(some 4), .lstore none 4 0 2 (.tmp 179), none, 0⟩,
                                  ⟨(some 5), .mov (.const (.bool true)), none, 0⟩])
                                (.ret))
                                (.skip)))
                              (.skip)))))))))))))))))))))))))))
      (.seq (.region [⟨(some 180), .build [.int .i64 0, .int .i64 0] [], none, 0⟩,
        ⟨(some 4), .lstore none 4 0 2 (.tmp 180), none, 0⟩,
        ⟨(some 5), .mov (.const (.bool false)), none, 0⟩])
      (.ret)))) }

def F.alloc_Machine_pending : IFunc :=
  { lb := [], scr := false, nargs := 5, res := [.tmp 10],
    body := .seq (.region [⟨(some 10), .mov (.const (.bool false)), none, 0⟩])
      (.seq (.seq (.region [⟨(some 12), .mov (.tmp 0), none, 0⟩,
        ⟨(some 13), .nilchk (.tmp 12), none, 0⟩,
        ⟨(some 14), .faddr 2 (.tmp 13), none, 0⟩,
        ⟨(some 15), .load (some 2) (.tmp 14), none, 0⟩,
        ⟨(some 16), .call Id.layout_Layout_Pending [.tmp 15], none, 0⟩,
        ⟨(some 11), .mov (.tmp 1), none, 0⟩,
        ⟨(some 17), .mov (.tmp 0), none, 0⟩,
        ⟨(some 18), .nilchk (.tmp 17), none, 0⟩,
        ⟨(some 19), .faddr 8 (.tmp 18), none, 0⟩,
        ⟨(some 20), .load none (.tmp 19), none, 1⟩,
        ⟨(some 21), .mov (.tmp 0), none, 0⟩,
        ⟨(some 22), .nilchk (.tmp 21), none, 0⟩,
        ⟨(some 23), .faddr 8 (.tmp 22), none, 0⟩,
        ⟨(some 24), .load none (.tmp 23), none, 1⟩,
        ⟨(some 25), .mov (.tmp 2), none, 0⟩,
        ⟨(some 26), .bin .add (.tmp 24) (.tmp 25), none, 0⟩,
        ⟨(some 27), .mkfn (.method "Cas") [.tmp 11] [], none, 0⟩,
        ⟨(some 28), .nilchkm "Cas" [(41, Id.cells_Plain_Cas)] (.tmp 27), none, 0⟩,
        ⟨(some 29), .mov (.tmp 11), none, 0⟩,
        ⟨(some 30), .invoke [(41, Id.cells_Plain_Cas)] (.tmp 29) [.tmp 16, .tmp 20, .tmp 26], none, 0⟩,
        ⟨(some 31), .un .not (.tmp 30), none, 0⟩])
      (.cond (.tmp 31)
        (.seq (.region [⟨(some 32), .mov (.tmp 0), none, 0⟩,
          ⟨(some 33), .mov (.tmp 3), none, 0⟩,
          ⟨(some 34), .nilchk (.tmp 32), none, 0⟩,
          ⟨(some 35), .faddr 7 (.tmp 34), none, 0⟩,
          ⟨none, .store 1 (.tmp 35) (.tmp 33), none, 0⟩])
        (.seq (.region [⟨(some 10), .mov (.const (.bool false)), none, 0⟩])
        (.ret)))
        (.skip)))
      (.seq (.region [⟨(some 36), .mov (.tmp 0), none, 0⟩,
        ⟨(some 37), .mov (.tmp 4), none, 0⟩,
        ⟨(some 38), .nilchk (.tmp 36), none, 0⟩,
        ⟨(some 39), .faddr 7 (.tmp 38), none, 0⟩,
        ⟨none, .store 1 (.tmp 39) (.tmp 37), none, 0⟩])
      (.seq (.region [⟨(some 10), .mov (.const (.bool true)), none, 0⟩])
      (.ret)))) }

def F.alloc_Machine_take : IFunc :=
  { lb := [], scr := false, nargs := 2, res := [],
    body := .seq (.region [⟨(some 8), .mov (.tmp 0), none, 0⟩,
        ⟨(some 9), .nilchk (.tmp 8), none, 0⟩,
        ⟨(some 10), .faddr 0 (.tmp 9), none, 0⟩,
        ⟨(some 11), .load none (.tmp 10), none, 0⟩,
        ⟨(some 12), .mov (.tmp 1), none, 0⟩,
        ⟨(some 13), .call Id.stack_Pop_Step [.tmp 11, .tmp 12], none, 0⟩,
        ⟨(some 7), .mov (.tmp 13), none, 0⟩,
        ⟨(some 14), .extract (.tmp 7) 0, none, 0⟩,
        ⟨(some 15), .extract (.tmp 7) 1, none, 0⟩,
        ⟨(some 16), .extract (.tmp 7) 2, none, 0⟩,
        ⟨(some 4), .mov (.tmp 14), none, 0⟩,
        ⟨(some 5), .mov (.tmp 15), none, 0⟩,
        ⟨(some 6), .mov (.tmp 16), none, 0⟩])
      (.block 0 (.seq (.region [⟨(some 18), .mov (.tmp 6), none, 0⟩,
        ⟨(some 19), .mov (.tmp 18), none, 0⟩,
        ⟨(some 20), .mov (.tmp 5), (some (19, true)), 0⟩,
        ⟨(some 21), .bin .neq (.tmp 20) (.const (.int .i64 0)), (some (19, true)), 0⟩,
        ⟨(some 22), .pick (.tmp 19) (.tmp 21) (.const (.bool false)), none, 0⟩,
        ⟨(some 17), .mov (.tmp 22), none, 0⟩])
      (.cond (.tmp 17)
        (.region [⟨(some 23), .mov (.tmp 0), none, 0⟩,
          ⟨(some 24), .mov (.tmp 5), none, 0⟩,
          ⟨(some 25), .call Id.alloc_Machine_fail [.tmp 23, .tmp 24, .const (.int .i64 11)], none, 0⟩])
        (.seq (.region [⟨(some 27), .mov (.tmp 6), none, 0⟩,
          ⟨(some 26), .mov (.tmp 27), none, 0⟩])
        (.cond (.tmp 26)
          (.region [⟨(some 28), .mov (.tmp 0), none, 0⟩,
            ⟨(some 29), .mov (.tmp 0), none, 0⟩,
            ⟨(some 30), .mov (.tmp 4), none, 0⟩,
            ⟨(some 31), .nilchk (.tmp 28), none, 0⟩,
            ⟨(some 32), .faddr 10 (.tmp 31), none, 0⟩,
            ⟨none, .store 1 (.tmp 32) (.tmp 30), none, 0⟩,
            ⟨(some 33), .nilchk (.tmp 29), none, 0⟩,
            ⟨(some 34), .faddr 7 (.tmp 33), none, 0⟩,
            ⟨none, .store 1 (.tmp 34) (.const (.int .i64 4)), none, 0⟩])
          (.skip)))))) }

def F.alloc_Machine_front : IFunc :=
  { lb := [], scr := false, nargs := 2, res := [],
    body := .seq (.region [⟨(some 7), .mov (.tmp 0), none, 0⟩,
        ⟨(some 8), .nilchk (.tmp 7), none, 0⟩,
        ⟨(some 9), .faddr 2 (.tmp 8), none, 0⟩,
        ⟨(some 10), .load (some 2) (.tmp 9), none, 0⟩,
        ⟨(some 11), .call Id.layout_Layout_Frontier [.tmp 10], none, 0⟩,
        ⟨(some 6), .mov (.tmp 1), none, 0⟩,
        ⟨(some 12), .mkfn (.method "Load") [.tmp 6] [], none, 0⟩,
        ⟨(some 13), .nilchkm "Load" [(41, Id.cells_Plain_Load)] (.tmp 12), none, 0⟩,
        ⟨(some 14), .mov (.tmp 6), none, 0⟩,
        ⟨(some 15), .invoke [(41, Id.cells_Plain_Load)] (.tmp 14) [.tmp 11], none, 0⟩,
        ⟨(some 4), .mov (.tmp 0), none, 0⟩,
        ⟨(some 16), .nilchk (.tmp 4), none, 0⟩,
        ⟨(some 17), .faddr 11 (.tmp 16), none, 0⟩,
        ⟨none, .store 1 (.tmp 17) (.tmp 15), none, 0⟩,
        ⟨(some 5), .mov (.tmp 0), none, 0⟩,
        ⟨(some 18), .nilchk (.tmp 5), none, 0⟩,
        ⟨(some 19), .faddr 7 (.tmp 18), none, 0⟩,
        ⟨none, .store 1 (.tmp 19) (.const (.int .i64 5)), none, 0⟩])
      (.seq (.region [⟨(some 20), .mov (.tmp 0), none, 0⟩,
        ⟨(some 21), .nilchk (.tmp 20), none, 0⟩,
        ⟨(some 22), .faddr 11 (.tmp 21), none, 0⟩,
        ⟨(some 23), .load none (.tmp 22), none, 0⟩,
        ⟨(some 24), .bin .lss (.tmp 23) (.const (.int .i64 0)), none, 0⟩,
        ⟨(some 25), .mov (.tmp 24), none, 0⟩,
        ⟨(some 26), .mov (.tmp 0), (some (25, false)), 0⟩,
        ⟨(some 27), .nilchk (.tmp 26), (some (25, false)), 0⟩,
        ⟨(some 28), .faddr 11 (.tmp 27), (some (25, false)), 0⟩,
        ⟨(some 29), .load none (.tmp 28), (some (25, false)), 0⟩,
        ⟨(some 30), .mov (.tmp 0), (some (25, false)), 0⟩,
        ⟨(some 31), .nilchk (.tmp 30), (some (25, false)), 0⟩,
        ⟨(some 32), .faddr 4 (.tmp 31), (some (25, false)), 0⟩,
        ⟨(some 33), .load none (.tmp 32), (some (25, false)), 0⟩,
        ⟨(some 34), .mov (.tmp 0), (some (25, false)), 0⟩,
        ⟨(some 35), .nilchk (.tmp 34), (some (25, false)), 0⟩,
        ⟨(some 36), .faddr 6 (.tmp 35), (some (25, false)), 0⟩,
        ⟨(some 37), .load none (.tmp 36), (some (25, false)), 0⟩,
        ⟨(some 38), .bin .sub (.tmp 33) (.tmp 37), (some (25, false)), 0⟩,
        ⟨(some 39), .bin .gtr (.tmp 29) (.tmp 38), (some (25, false)), 0⟩,
        ⟨(some 40), .pick (.tmp 25) (.const (.bool true)) (.tmp 39), none, 0⟩])
      (.cond (.tmp 40)
        (.seq (.region [⟨(some 42), .mov (.tmp 0), none, 0⟩,
          ⟨(some 43), .nilchk (.tmp 42), none, 0⟩,
          ⟨(some 44), .faddr 2 (.tmp 43), none, 0⟩,
          ⟨(some 45), .load (some 2) (.tmp 44), none, 0⟩,
          ⟨(some 46), .mov (.tmp 0), none, 0⟩,
          ⟨(some 47), .nilchk (.tmp 46), none, 0⟩,
          ⟨(some 48), .faddr 10 (.tmp 47), none, 0⟩,
          ⟨(some 49), .load none (.tmp 48), none, 0⟩,
          ⟨(some 50), .call Id.stack_NewPush [.tmp 45, .tmp 49], none, 0⟩,
          ⟨(some 41), .mov (.tmp 0), none, 0⟩,
          ⟨(some 51), .nilchk (.tmp 41), none, 0⟩,
          ⟨(some 52), .faddr 1 (.tmp 51), none, 0⟩,
          ⟨none, .store 1 (.tmp 52) (.tmp 50), none, 0⟩])
        (.region [⟨(some 53), .mov (.tmp 0), none, 0⟩,
          ⟨(some 54), .call Id.alloc_Machine_fail [.tmp 53, .const (.int .i64 10), .const (.int .i64 6)], none, 0⟩]))
        (.skip))) }

def F.stack_Push_Step : IFunc :=
  { lb := [], scr := false, nargs := 2, res := [.tmp 4, .tmp 5],
    body := .seq (.region [⟨(some 4), .mov (.const (.int .i64 0)), none, 0⟩,
        ⟨(some 5), .mov (.const (.bool false)), none, 0⟩])
      (.seq (.seq (.region [⟨(some 11), .mov (.tmp 0), none, 0⟩,
        ⟨(some 12), .eqv false (.nil 0) (.tmp 11) (.const (.pointer none)), none, 0⟩,
        ⟨(some 13), .mov (.tmp 12), none, 0⟩,
        ⟨(some 14), .mov (.tmp 1), (some (13, false)), 0⟩,
        ⟨(some 15), .eqv false (.nil 4) (.tmp 14) (.const (.nilIface)), (some (13, false)), 0⟩,
        ⟨(some 16), .pick (.tmp 13) (.const (.bool true)) (.tmp 15), none, 0⟩])
      (.cond (.tmp 16)
        (.seq (.region [⟨(some 4), .mov (.const (.int .i64 1)), none, 0⟩,
          ⟨(some 5), .mov (.const (.bool true)), none, 0⟩])
        (.ret))
        (.skip)))
      (.seq (.seq (.region [⟨(some 17), .mov (.tmp 0), none, 0⟩,
        ⟨(some 18), .nilchk (.tmp 17), none, 0⟩,
        ⟨(some 19), .faddr 0 (.tmp 18), none, 0⟩,
        ⟨(some 20), .faddr 2 (.tmp 19), none, 0⟩,
        ⟨(some 21), .load none (.tmp 20), none, 0⟩])
      (.block 0 (.seq (.region [⟨(some 23), .bin .eql (.tmp 21) (.const (.int .i64 1)), none, 0⟩,
        ⟨(some 22), .mov (.tmp 23), none, 0⟩])
      (.cond (.tmp 22)
        (.seq (.seq (.region [⟨(some 24), .mov (.tmp 0), none, 0⟩,
          ⟨(some 25), .nilchk (.tmp 24), none, 0⟩,
          ⟨(some 26), .faddr 0 (.tmp 25), none, 0⟩,
          ⟨(some 27), .faddr 0 (.tmp 26), none, 0⟩,
          ⟨(some 28), .load (some 2) (.tmp 27), none, 0⟩,
          ⟨(some 29), .mov (.tmp 0), none, 0⟩,
          ⟨(some 30), .nilchk (.tmp 29), none, 0⟩,
          ⟨(some 31), .faddr 0 (.tmp 30), none, 0⟩,
          ⟨(some 32), .faddr 3 (.tmp 31), none, 0⟩,
          ⟨(some 33), .load none (.tmp 32), none, 0⟩,
          ⟨(some 34), .call Id.layout_Layout_Link [.tmp 28, .tmp 33], none, 0⟩,
          ⟨(some 35), .bin .lss (.tmp 34) (.const (.int .i64 0)), none, 0⟩])
        (.cond (.tmp 35)
          (.seq (.region [⟨(some 36), .mov (.tmp 0), none, 0⟩,
            ⟨(some 37), .nilchk (.tmp 36), none, 0⟩,
            ⟨(some 38), .faddr 0 (.tmp 37), none, 0⟩,
            ⟨(some 39), .faddr 2 (.tmp 38), none, 0⟩,
            ⟨none, .store 1 (.tmp 39) (.const (.int .i64 0)), none, 0⟩])
          (.seq (.region [⟨(some 4), .mov (.const (.int .i64 1)), none, 0⟩,
            ⟨(some 5), .mov (.const (.bool true)), none, 0⟩])
          (.ret)))
          (.skip)))
        (.seq (.seq (.region [⟨(some 41), .mov (.tmp 0), none, 0⟩,
          ⟨(some 42), .nilchk (.tmp 41), none, 0⟩,
          ⟨(some 43), .faddr 0 (.tmp 42), none, 0⟩,
          ⟨(some 44), .mov (.tmp 1), none, 0⟩,
          ⟨(some 45), .call Id.stack_machine_look [.tmp 43, .tmp 44], none, 0⟩,
          ⟨(some 40), .mov (.tmp 45), none, 0⟩,
          ⟨(some 46), .extract (.tmp 40) 0, none, 0⟩,
          ⟨(some 47), .extract (.tmp 40) 1, none, 0⟩,
          ⟨(some 6), .mov (.tmp 46), none, 0⟩,
          ⟨(some 7), .mov (.tmp 47), none, 0⟩])
        (.seq (.region [⟨(some 48), .mov (.tmp 7), none, 0⟩,
          ⟨(some 49), .un .not (.tmp 48), none, 0⟩])
        (.cond (.tmp 49)
          (.seq (.region [⟨(some 50), .mov (.tmp 0), none, 0⟩,
            ⟨(some 51), .nilchk (.tmp 50), none, 0⟩,
            ⟨(some 52), .faddr 0 (.tmp 51), none, 0⟩,
            ⟨(some 53), .faddr 2 (.tmp 52), none, 0⟩,
            ⟨none, .store 1 (.tmp 53) (.const (.int .i64 0)), none, 0⟩])
          (.seq (.region [⟨(some 4), .mov (.const (.int .i64 2)), none, 0⟩,
            ⟨(some 5), .mov (.const (.bool true)), none, 0⟩])
          (.ret)))
          (.skip))))
        (.region [⟨(some 54), .mov (.tmp 0), none, 0⟩,
          ⟨(some 55), .nilchk (.tmp 54), none, 0⟩,
          ⟨(some 56), .faddr 0 (.tmp 55), none, 0⟩,
          ⟨(some 57), .faddr 2 (.tmp 56), none, 0⟩,
          ⟨none, .store 1 (.tmp 57) (.const (.int .i64 2)), none, 0⟩])))
        (.seq (.region [⟨(some 59), .bin .eql (.tmp 21) (.const (.int .i64 2)), none, 0⟩,
          ⟨(some 58), .mov (.tmp 59), none, 0⟩])
        (.cond (.tmp 58)
          (.seq (.region [⟨(some 61), .mov (.tmp 0), none, 0⟩,
            ⟨(some 62), .nilchk (.tmp 61), none, 0⟩,
            ⟨(some 63), .faddr 0 (.tmp 62), none, 0⟩,
            ⟨(some 64), .faddr 4 (.tmp 63), none, 0⟩,
            ⟨(some 65), .load none (.tmp 64), none, 0⟩,
            ⟨(some 66), .mov (.tmp 0), none, 0⟩,
            ⟨(some 67), .nilchk (.tmp 66), none, 0⟩,
            ⟨(some 68), .faddr 0 (.tmp 67), none, 0⟩,
            ⟨(some 69), .faddr 3 (.tmp 68), none, 0⟩,
            ⟨(some 70), .load none (.tmp 69), none, 0⟩,
            ⟨(some 71), .call Id.head_Push [.tmp 65, .tmp 70], none, 0⟩,
            ⟨(some 60), .mov (.tmp 71), none, 0⟩,
            ⟨(some 72), .extract (.tmp 60) 0, none, 0⟩,
            ⟨(some 73), .extract (.tmp 60) 1, none, 0⟩,
            ⟨(some 74), .extract (.tmp 60) 2, none, 0⟩,
            ⟨(some 8), .mov (.tmp 72), none, 0⟩,
            ⟨(some 9), .mov (.tmp 73), none, 0⟩,
            ⟨(some 10), .mov (.tmp 74), none, 0⟩])
          (.seq (.region [⟨(some 76), .mov (.tmp 0), none, 0⟩,
            ⟨(some 77), .nilchk (.tmp 76), none, 0⟩,
            ⟨(some 78), .faddr 0 (.tmp 77), none, 0⟩,
            ⟨(some 79), .faddr 0 (.tmp 78), none, 0⟩,
            ⟨(some 80), .load (some 2) (.tmp 79), none, 0⟩,
            ⟨(some 81), .mov (.tmp 0), none, 0⟩,
            ⟨(some 82), .nilchk (.tmp 81), none, 0⟩,
            ⟨(some 83), .faddr 0 (.tmp 82), none, 0⟩,
            ⟨(some 84), .faddr 3 (.tmp 83), none, 0⟩,
            ⟨(some 85), .load none (.tmp 84), none, 0⟩,
            ⟨(some 86), .call Id.layout_Layout_Link [.tmp 80, .tmp 85], none, 0⟩,
            ⟨(some 75), .mov (.tmp 1), none, 0⟩,
            ⟨(some 87), .mov (.tmp 9), none, 0⟩,
            ⟨(some 88), .mkfn (.method "Store") [.tmp 75] [], none, 0⟩,
            ⟨(some 89), .nilchkm "Store" [(41, Id.cells_Plain_Store)] (.tmp 88), none, 0⟩,
            ⟨(some 90), .mov (.tmp 75), none, 0⟩,
            ⟨(some 91), .invoke [(41, Id.cells_Plain_Store)] (.tmp 90) [.tmp 86, .tmp 87], none, 0⟩])
          (.region [⟨(some 92), .mov (.tmp 0), none, 0⟩,
            ⟨(some 93), .mov (.tmp 0), none, 0⟩,
            ⟨(some 94), .mov (.tmp 8), none, 0⟩,
            ⟨(some 95), .nilchk (.tmp 92), none, 0⟩,
            ⟨(some 96), .faddr 0 (.tmp 95), none, 0⟩,
            ⟨(some 97), .faddr 5 (.tmp 96), none, 0⟩,
            ⟨none, .store 1 (.tmp 97) (.tmp 94), none, 0⟩,
            ⟨(some 98), .nilchk (.tmp 93), none, 0⟩,
            ⟨(some 99), .faddr 0 (.tmp 98), none, 0⟩,
            ⟨(some 100), .faddr 2 (.tmp 99), none, 0⟩,
            ⟨none, .store 1 (.tmp 100) (.const (.int .i64 3)), none, 0⟩])))
          (.seq (.region [⟨(some 102), .bin .eql (.tmp 21) (.const (.int .i64 3)), none, 0⟩,
            ⟨(some 101), .mov (.tmp 102), none, 0⟩])
          (.cond (.tmp 101)
            (.seq (.region [⟨(some 103), .mov (.tmp 0), none, 0⟩,
              ⟨(some 104), .nilchk (.tmp 103), none, 0⟩,
              ⟨(some 105), .faddr 0 (.tmp 104), none, 0⟩,
              ⟨(some 106), .mov (.tmp 1), none, 0⟩,
              ⟨(some 107), .call Id.stack_machine_swap [.tmp 105, .tmp 106], none, 0⟩,
              ⟨(some 4), .mov (.const (.int .i64 0)), none, 0⟩,
              ⟨(some 5), .mov (.tmp 107), none, 0⟩])
            (.ret))
            (.seq (.region [⟨(some 4), .mov (.const (.int .i64 1)), none, 0⟩,
              ⟨(some 5), .mov (.const (.bool true)), none, 0⟩])
            (.ret))))))))))
      (.seq (.region [⟨(some 4), .mov (.const (.int .i64 0)), none, 0⟩,
        ⟨(some 5), .mov (.const (.bool false)), none, 0⟩])
      (.ret)))) }

def F.alloc_Machine_clear : IFunc :=
  { lb := [], scr := false, nargs := 2, res := [],
    body := .seq (.region [⟨(some 4), .mov (.tmp 1), none, 0⟩,
        ⟨(some 5), .mov (.tmp 0), none, 0⟩,
        ⟨(some 6), .nilchk (.tmp 5), none, 0⟩,
        ⟨(some 7), .faddr 11 (.tmp 6), none, 0⟩,
        ⟨(some 8), .load none (.tmp 7), none, 0⟩,
        ⟨(some 9), .mov (.tmp 0), none, 0⟩,
        ⟨(some 10), .nilchk (.tmp 9), none, 0⟩,
        ⟨(some 11), .faddr 12 (.tmp 10), none, 0⟩,
        ⟨(some 12), .load none (.tmp 11), none, 0⟩,
        ⟨(some 13), .bin .add (.tmp 8) (.tmp 12), none, 0⟩,
        ⟨(some 14), .mkfn (.method "SetByte") [.tmp 4] [], none, 0⟩,
        ⟨(some 15), .nilchkm "SetByte" [(41, Id.cells_Plain_SetByte)] (.tmp 14), none, 0⟩,
        ⟨(some 16), .mov (.tmp 4), none, 0⟩,
        ⟨(some 17), .invoke [(41, Id.cells_Plain_SetByte)] (.tmp 16) [.tmp 13, .const (.int .i64 0)], none, 0⟩])
      (.seq (.region [⟨(some 18), .mov (.tmp 0), none, 0⟩,
        ⟨(some 19), .nilchk (.tmp 18), none, 0⟩,
        ⟨(some 20), .faddr 12 (.tmp 19), none, 0⟩,
        ⟨(some 21), .load none (.tmp 20), none, 0⟩,
        ⟨(some 22), .bin .add (.tmp 21) (.const (.int .i64 1)), none, 0⟩,
        ⟨(some 23), .nilchk (.tmp 18), none, 0⟩,
        ⟨(some 24), .faddr 12 (.tmp 23), none, 0⟩,
        ⟨none, .store 1 (.tmp 24) (.tmp 22), none, 0⟩])
      (.seq (.region [⟨(some 25), .mov (.tmp 0), none, 0⟩,
        ⟨(some 26), .nilchk (.tmp 25), none, 0⟩,
        ⟨(some 27), .faddr 12 (.tmp 26), none, 0⟩,
        ⟨(some 28), .load none (.tmp 27), none, 0⟩,
        ⟨(some 29), .mov (.tmp 0), none, 0⟩,
        ⟨(some 30), .nilchk (.tmp 29), none, 0⟩,
        ⟨(some 31), .faddr 6 (.tmp 30), none, 0⟩,
        ⟨(some 32), .load none (.tmp 31), none, 0⟩,
        ⟨(some 33), .bin .eql (.tmp 28) (.tmp 32), none, 0⟩])
      (.cond (.tmp 33)
        (.region [⟨(some 34), .mov (.tmp 0), none, 0⟩,
          ⟨(some 35), .nilchk (.tmp 34), none, 0⟩,
          ⟨(some 36), .faddr 7 (.tmp 35), none, 0⟩,
          ⟨none, .store 1 (.tmp 36) (.const (.int .i64 8)), none, 0⟩])
        (.skip)))) }

def F.alloc_Machine_look : IFunc :=
  { lb := [4], scr := false, nargs := 2, res := [],
    body := .seq (.region [⟨(some 8), .mov (.tmp 0), none, 0⟩,
        ⟨(some 9), .nilchk (.tmp 8), none, 0⟩,
        ⟨(some 10), .faddr 2 (.tmp 9), none, 0⟩,
        ⟨(some 11), .load (some 2) (.tmp 10), none, 0⟩,
        ⟨(some 12), .mov (.tmp 0), none, 0⟩,
        ⟨(some 13), .nilchk (.tmp 12), none, 0⟩,
        ⟨(some 14), .faddr 10 (.tmp 13), none, 0⟩,
        ⟨(some 15), .load none (.tmp 14), none, 0⟩,
        ⟨(some 16), .call Id.layout_Layout_Entry [.tmp 11, .tmp 15], none, 0⟩,
        ⟨(some 7), .mov (.tmp 1), none, 0⟩,
        ⟨(some 17), .mkfn (.method "Load") [.tmp 7] [], none, 0⟩,
        ⟨(some 18), .nilchkm "Load" [(41, Id.cells_Plain_Load)] (.tmp 17), none, 0⟩,
        ⟨(some 19), .mov (.tmp 7), none, 0⟩,
        ⟨(some 20), .invoke [(41, Id.cells_Plain_Load)] (.tmp 19) [.tmp 16], none, 0⟩,
        ⟨(some 21), .call Id.entry_Unpack [.tmp 20], none, 0⟩,
        ⟨(some 6), .mov (.tmp 21), none, 0⟩,
        ⟨(some 22), .extract (.tmp 6) 0, none, 0⟩,
        ⟨(some 23), .extract (.tmp 6) 1, none, 0⟩,
        ⟨(some 4), .lbox (.const (.agg #[.int .i64 0, .int .i64 0, .int .i64 0, .int .i64 0, .bool false, .bool false])), none, 0⟩,
        ⟨(some 4), .lstore none 4 0 6 (.tmp 22), none, 0⟩,
        ⟨(some 5), .mov (.tmp 23), none, 0⟩])
      (.seq (.region [⟨(some 24), .mov (.tmp 0), none, 0⟩,
        ⟨(some 28), .nilchk (.tmp 24), none, 0⟩,
        ⟨(some 29), .faddr 7 (.tmp 28), none, 0⟩,
        ⟨none, .store 1 (.tmp 29) (.const (.int .i64 10)), none, 0⟩,
        ⟨(some 25), .mov (.tmp 0), none, 0⟩,
        ⟨(some 26), .laddr none 4 1, none, 0⟩,
        ⟨(some 27), .lload (some 26) 4 1 none, none, 0⟩,
        ⟨(some 30), .nilchk (.tmp 25), none, 0⟩,
        ⟨(some 31), .faddr 13 (.tmp 30), none, 0⟩,
        ⟨none, .store 1 (.tmp 31) (.tmp 27), none, 0⟩])
      (.seq (.seq (.region [⟨(some 32), .mov (.tmp 5), none, 0⟩,
        ⟨(some 33), .bin .neq (.tmp 32) (.const (.int .i64 0)), none, 0⟩,
        ⟨(some 34), .mov (.tmp 33), none, 0⟩,
        ⟨(some 35), .laddr none 4 5, (some (34, false)), 0⟩,
        ⟨(some 36), .lload (some 35) 4 5 none, (some (34, false)), 0⟩,
        ⟨(some 37), .pick (.tmp 34) (.const (.bool true)) (.tmp 36), none, 0⟩])
      (.cond (.tmp 37)
        (.seq (.region [⟨(some 38), .mov (.tmp 0), none, 0⟩,
          ⟨(some 39), .call Id.alloc_Machine_fail [.tmp 38, .const (.int .i64 2), .const (.int .i64 10)], none, 0⟩])
        (.ret))
        (.skip)))
      (.region [⟨(some 42), .mov (.tmp 0), none, 0⟩,
        ⟨(some 43), .nilchk (.tmp 42), none, 0⟩,
        ⟨(some 44), .faddr 11 (.tmp 43), none, 0⟩,
        ⟨(some 45), .load none (.tmp 44), none, 0⟩,
        ⟨(some 46), .laddr none 4 1, none, 0⟩,
        ⟨(some 47), .lload (some 46) 4 1 none, none, 0⟩,
        ⟨(some 48), .build [.int .i64 0, .int .i64 0, .int .i64 0, .int .i64 0, .bool false, .bool false] [(0, 1, .tmp 45), (1, 1, .tmp 47), (5, 1, .const (.bool true))], none, 0⟩,
        ⟨(some 49), .call Id.entry_Pack [.tmp 48], none, 0⟩,
        ⟨(some 41), .mov (.tmp 0), none, 0⟩,
        ⟨(some 40), .mov (.tmp 49), none, 0⟩,
        ⟨(some 50), .extract (.tmp 40) 0, none, 0⟩,
        ⟨(some 52), .nilchk (.tmp 41), none, 0⟩,
        ⟨(some 53), .faddr 14 (.tmp 52), none, 0⟩,
        ⟨none, .store 1 (.tmp 53) (.tmp 50), none, 0⟩,
        ⟨(some 51), .extract (.tmp 40) 1, none, 0⟩]))) }

def F.alloc_Machine_publish : IFunc :=
  { lb := [], scr := false, nargs := 2, res := [],
    body := .seq (.seq (.region [⟨(some 4), .mov (.tmp 0), none, 0⟩,
        ⟨(some 5), .nilchk (.tmp 4), none, 0⟩,
        ⟨(some 6), .faddr 9 (.tmp 5), none, 0⟩,
        ⟨(some 7), .load none (.tmp 6), none, 0⟩,
        ⟨(some 8), .bin .eql (.tmp 7) (.const (.int .i64 0)), none, 0⟩])
      (.cond (.tmp 8)
        (.region [⟨(some 10), .mov (.tmp 0), none, 0⟩,
          ⟨(some 11), .nilchk (.tmp 10), none, 0⟩,
          ⟨(some 12), .faddr 2 (.tmp 11), none, 0⟩,
          ⟨(some 13), .load (some 2) (.tmp 12), none, 0⟩,
          ⟨(some 14), .mov (.tmp 0), none, 0⟩,
          ⟨(some 15), .nilchk (.tmp 14), none, 0⟩,
          ⟨(some 16), .faddr 10 (.tmp 15), none, 0⟩,
          ⟨(some 17), .load none (.tmp 16), none, 0⟩,
          ⟨(some 18), .call Id.layout_Layout_Entry [.tmp 13, .tmp 17], none, 0⟩,
          ⟨(some 9), .mov (.tmp 1), none, 0⟩,
          ⟨(some 19), .mov (.tmp 0), none, 0⟩,
          ⟨(some 20), .nilchk (.tmp 19), none, 0⟩,
          ⟨(some 21), .faddr 14 (.tmp 20), none, 0⟩,
          ⟨(some 22), .load none (.tmp 21), none, 1⟩,
          ⟨(some 23), .mkfn (.method "Store") [.tmp 9] [], none, 0⟩,
          ⟨(some 24), .nilchkm "Store" [(41, Id.cells_Plain_Store)] (.tmp 23), none, 0⟩,
          ⟨(some 25), .mov (.tmp 9), none, 0⟩,
          ⟨(some 26), .invoke [(41, Id.cells_Plain_Store)] (.tmp 25) [.tmp 18, .tmp 22], none, 0⟩])
        (.skip)))
      (.region [⟨(some 27), .mov (.tmp 0), none, 0⟩,
        ⟨(some 28), .mov (.tmp 0), none, 0⟩,
        ⟨(some 29), .nilchk (.tmp 27), none, 0⟩,
        ⟨(some 30), .faddr 15 (.tmp 29), none, 0⟩,
        ⟨none, .store 1 (.tmp 30) (.const (.bool false)), none, 0⟩,
        ⟨(some 31), .nilchk (.tmp 28), none, 0⟩,
        ⟨(some 32), .faddr 7 (.tmp 31), none, 0⟩,
        ⟨none, .store 1 (.tmp 32) (.const (.int .i64 11)), none, 0⟩]) }

def F.alloc_Machine_result : IFunc :=
  { lb := [2], scr := false, nargs := 1, res := [.lb 2 (some 2)],
    body := .seq (.region [⟨(some 2), .lbox (.const (.agg #[.int .i64 0, .int .i64 0])), none, 0⟩])
      (.seq (.seq (.region [⟨(some 5), .mov (.tmp 0), none, 0⟩,
        ⟨(some 6), .nilchk (.tmp 5), none, 0⟩,
        ⟨(some 7), .faddr 9 (.tmp 6), none, 0⟩,
        ⟨(some 8), .load none (.tmp 7), none, 0⟩,
        ⟨(some 9), .bin .neq (.tmp 8) (.const (.int .i64 0)), none, 0⟩])
      (.cond (.tmp 9)
        (.seq (.region [⟨(some 10), .mov (.tmp 0), none, 0⟩,
          ⟨(some 11), .nilchk (.tmp 10), none, 0⟩,
          ⟨(some 12), .faddr 9 (.tmp 11), none, 0⟩,
          ⟨(some 13), .load none (.tmp 12), none, 0⟩,
          ⟨(some 14), .build [.int .i64 0, .int .i64 0] [(0, 1, .tmp 13)], none, 0⟩,
          ⟨(some 2), .lstore none 2 0 2 (.tmp 14), none, 0⟩])
        (.ret))
        (.skip)))
      (.seq (.region [⟨(some 16), .mov (.tmp 0), none, 0⟩,
        ⟨(some 17), .nilchk (.tmp 16), none, 0⟩,
        ⟨(some 18), .faddr 10 (.tmp 17), none, 0⟩,
        ⟨(some 19), .load none (.tmp 18), none, 0⟩,
        ⟨(some 20), .mov (.tmp 0), none, 0⟩,
        ⟨(some 21), .nilchk (.tmp 20), none, 0⟩,
        ⟨(some 22), .faddr 13 (.tmp 21), none, 0⟩,
        ⟨(some 23), .load none (.tmp 22), none, 0⟩,
        ⟨(some 24), .call Id.handle_Make [.tmp 19, .tmp 23], none, 0⟩,
        ⟨(some 15), .mov (.tmp 24), none, 0⟩,
        ⟨(some 25), .extract (.tmp 15) 0, none, 0⟩,
        ⟨(some 26), .extract (.tmp 15) 1, none, 0⟩,
        ⟨(some 3), .mov (.tmp 25), none, 0⟩,
        ⟨(some 4), .mov (.tmp 26), none, 0⟩])
      (.seq (.region [⟨(some 27), .mov (.tmp 3), none, 0⟩,
        ⟨(some 28), .build [.int .i64 0, .int .i64 0] [(1, 1, .tmp 27)], none, 0⟩,
        ⟨(some 2), .lstore none 2 0 2 (.tmp 28), none, 0⟩])
      (.ret)))) }

def F.stack_Pop_Step : IFunc :=
  { lb := [], scr := false, nargs := 2, res := [.tmp 4, .tmp 5, .tmp 6],
    body := .seq (.region [⟨(some 4), .mov (.const (.int .i64 0)), none, 0⟩,
        ⟨(some 5), .mov (.const (.int .i64 0)), none, 0⟩,
        ⟨(some 6), .mov (.const (.bool false)), none, 0⟩])
      (.seq (.seq (.region [⟨(some 12), .mov (.tmp 0), none, 0⟩,
        ⟨(some 13), .eqv false (.nil 0) (.tmp 12) (.const (.pointer none)), none, 0⟩,
        ⟨(some 14), .mov (.tmp 13), none, 0⟩,
        ⟨(some 15), .mov (.tmp 1), (some (14, false)), 0⟩,
        ⟨(some 16), .eqv false (.nil 4) (.tmp 15) (.const (.nilIface)), (some (14, false)), 0⟩,
        ⟨(some 17), .pick (.tmp 14) (.const (.bool true)) (.tmp 16), none, 0⟩])
      (.cond (.tmp 17)
        (.seq (.region [⟨(some 4), .mov (.const (.int .i64 0)), none, 0⟩,
          ⟨(some 5), .mov (.const (.int .i64 1)), none, 0⟩,
          ⟨(some 6), .mov (.const (.bool true)), none, 0⟩])
        (.ret))
        (.skip)))
      (.seq (.seq (.region [⟨(some 18), .mov (.tmp 0), none, 0⟩,
        ⟨(some 19), .nilchk (.tmp 18), none, 0⟩,
        ⟨(some 20), .faddr 0 (.tmp 19), none, 0⟩,
        ⟨(some 21), .faddr 2 (.tmp 20), none, 0⟩,
        ⟨(some 22), .load none (.tmp 21), none, 0⟩])
      (.block 0 (.seq (.region [⟨(some 24), .bin .eql (.tmp 22) (.const (.int .i64 1)), none, 0⟩,
        ⟨(some 23), .mov (.tmp 24), none, 0⟩])
      (.cond (.tmp 23)
        (.seq (.region [⟨(some 26), .mov (.tmp 0), none, 0⟩,
          ⟨(some 27), .nilchk (.tmp 26), none, 0⟩,
          ⟨(some 28), .faddr 0 (.tmp 27), none, 0⟩,
          ⟨(some 29), .mov (.tmp 1), none, 0⟩,
          ⟨(some 30), .call Id.stack_machine_look [.tmp 28, .tmp 29], none, 0⟩,
          ⟨(some 25), .mov (.tmp 30), none, 0⟩,
          ⟨(some 31), .extract (.tmp 25) 0, none, 0⟩,
          ⟨(some 32), .extract (.tmp 25) 1, none, 0⟩,
          ⟨(some 7), .mov (.tmp 31), none, 0⟩,
          ⟨(some 8), .mov (.tmp 32), none, 0⟩])
        (.seq (.block 1 (.seq (.region [⟨(some 34), .mov (.tmp 8), none, 0⟩,
          ⟨(some 35), .un .not (.tmp 34), none, 0⟩,
          ⟨(some 33), .mov (.tmp 35), none, 0⟩])
        (.cond (.tmp 33)
          (.seq (.region [⟨(some 36), .mov (.tmp 0), none, 0⟩,
            ⟨(some 37), .nilchk (.tmp 36), none, 0⟩,
            ⟨(some 38), .faddr 0 (.tmp 37), none, 0⟩,
            ⟨(some 39), .call Id.stack_machine_end [.tmp 38, .const (.int .i64 2)], none, 0⟩,
            ⟨(some 40), .extract (.tmp 39) 0, none, 0⟩,
            ⟨(some 41), .extract (.tmp 39) 1, none, 0⟩,
            ⟨(some 42), .extract (.tmp 39) 2, none, 0⟩,
            ⟨(some 4), .mov (.tmp 40), none, 0⟩,
            ⟨(some 5), .mov (.tmp 41), none, 0⟩,
            ⟨(some 6), .mov (.tmp 42), none, 0⟩])
          (.ret))
          (.seq (.region [⟨(some 44), .mov (.tmp 7), none, 0⟩,
            ⟨(some 45), .bin .eql (.tmp 44) (.const (.int .i64 0)), none, 0⟩,
            ⟨(some 43), .mov (.tmp 45), none, 0⟩])
          (.cond (.tmp 43)
            (.seq (.region [⟨(some 46), .mov (.tmp 0), none, 0⟩,
              ⟨(some 47), .nilchk (.tmp 46), none, 0⟩,
              ⟨(some 48), .faddr 0 (.tmp 47), none, 0⟩,
              ⟨(some 49), .call Id.stack_machine_end [.tmp 48, .const (.int .i64 11)], none, 0⟩,
              ⟨(some 50), .extract (.tmp 49) 0, none, 0⟩,
              ⟨(some 51), .extract (.tmp 49) 1, none, 0⟩,
              ⟨(some 52), .extract (.tmp 49) 2, none, 0⟩,
              ⟨(some 4), .mov (.tmp 50), none, 0⟩,
              ⟨(some 5), .mov (.tmp 51), none, 0⟩,
              ⟨(some 6), .mov (.tmp 52), none, 0⟩])
            (.ret))
            (.skip))))))
        (.region [⟨(some 53), .mov (.tmp 0), none, 0⟩,
          ⟨(some 54), .mov (.tmp 0), none, 0⟩,
          ⟨(some 55), .mov (.tmp 7), none, 0⟩,
          ⟨(some 56), .bin .sub (.tmp 55) (.const (.int .i64 1)), none, 0⟩,
          ⟨(some 57), .nilchk (.tmp 53), none, 0⟩,
          ⟨(some 58), .faddr 0 (.tmp 57), none, 0⟩,
          ⟨(some 59), .faddr 3 (.tmp 58), none, 0⟩,
          ⟨none, .store 1 (.tmp 59) (.tmp 56), none, 0⟩,
          ⟨(some 60), .nilchk (.tmp 54), none, 0⟩,
          ⟨(some 61), .faddr 0 (.tmp 60), none, 0⟩,
          ⟨(some 62), .faddr 2 (.tmp 61), none, 0⟩,
          ⟨none, .store 1 (.tmp 62) (.const (.int .i64 2)), none, 0⟩])))
        (.seq (.region [⟨(some 64), .bin .eql (.tmp 22) (.const (.int .i64 2)), none, 0⟩,
          ⟨(some 63), .mov (.tmp 64), none, 0⟩])
        (.cond (.tmp 63)
          (.seq (.region [⟨(some 72), .mov (.tmp 0), none, 0⟩,
            ⟨(some 73), .nilchk (.tmp 72), none, 0⟩,
            ⟨(some 74), .faddr 0 (.tmp 73), none, 0⟩,
            ⟨(some 75), .faddr 0 (.tmp 74), none, 0⟩,
            ⟨(some 76), .load (some 2) (.tmp 75), none, 0⟩,
            ⟨(some 77), .mov (.tmp 0), none, 0⟩,
            ⟨(some 78), .nilchk (.tmp 77), none, 0⟩,
            ⟨(some 79), .faddr 0 (.tmp 78), none, 0⟩,
            ⟨(some 80), .faddr 3 (.tmp 79), none, 0⟩,
            ⟨(some 81), .load none (.tmp 80), none, 0⟩,
            ⟨(some 82), .call Id.layout_Layout_Link [.tmp 76, .tmp 81], none, 0⟩,
            ⟨(some 71), .mov (.tmp 1), none, 0⟩,
            ⟨(some 83), .mkfn (.method "Load") [.tmp 71] [], none, 0⟩,
            ⟨(some 84), .nilchkm "Load" [(41, Id.cells_Plain_Load)] (.tmp 83), none, 0⟩,
            ⟨(some 85), .mov (.tmp 71), none, 0⟩,
            ⟨(some 86), .invoke [(41, Id.cells_Plain_Load)] (.tmp 85) [.tmp 82], none, 0⟩,
            ⟨(some 66), .mov (.tmp 0), none, 0⟩,
            ⟨(some 67), .nilchk (.tmp 66), none, 0⟩,
            ⟨(some 68), .faddr 0 (.tmp 67), none, 0⟩,
            ⟨(some 69), .faddr 4 (.tmp 68), none, 0⟩,
            ⟨(some 70), .load none (.tmp 69), none, 2⟩,
            ⟨(some 87), .call Id.head_Pop [.tmp 70, .tmp 86], none, 0⟩,
            ⟨(some 65), .mov (.tmp 87), none, 0⟩,
            ⟨(some 88), .extract (.tmp 65) 0, none, 0⟩,
            ⟨(some 89), .extract (.tmp 65) 1, none, 0⟩,
            ⟨(some 90), .extract (.tmp 65) 2, none, 0⟩,
            ⟨(some 9), .mov (.tmp 88), none, 0⟩,
            ⟨(some 10), .mov (.tmp 89), none, 0⟩,
            ⟨(some 11), .mov (.tmp 90), none, 0⟩])
          (.seq (.seq (.region [⟨(some 91), .mov (.tmp 11), none, 0⟩,
            ⟨(some 92), .bin .neq (.tmp 91) (.const (.int .i64 0)), none, 0⟩])
          (.cond (.tmp 92)
            (.seq (.region [⟨(some 93), .mov (.tmp 0), none, 0⟩,
              ⟨(some 94), .nilchk (.tmp 93), none, 0⟩,
              ⟨(some 95), .faddr 0 (.tmp 94), none, 0⟩,
              ⟨(some 96), .call Id.stack_machine_end [.tmp 95, .const (.int .i64 2)], none, 0⟩,
              ⟨(some 97), .extract (.tmp 96) 0, none, 0⟩,
              ⟨(some 98), .extract (.tmp 96) 1, none, 0⟩,
              ⟨(some 99), .extract (.tmp 96) 2, none, 0⟩,
              ⟨(some 4), .mov (.tmp 97), none, 0⟩,
              ⟨(some 5), .mov (.tmp 98), none, 0⟩,
              ⟨(some 6), .mov (.tmp 99), none, 0⟩])
            (.ret))
            (.skip)))
          (.region [⟨(some 100), .mov (.tmp 0), none, 0⟩,
            ⟨(some 101), .mov (.tmp 0), none, 0⟩,
            ⟨(some 102), .mov (.tmp 9), none, 0⟩,
            ⟨(some 103), .nilchk (.tmp 100), none, 0⟩,
            ⟨(some 104), .faddr 0 (.tmp 103), none, 0⟩,
            ⟨(some 105), .faddr 5 (.tmp 104), none, 0⟩,
            ⟨none, .store 1 (.tmp 105) (.tmp 102), none, 0⟩,
            ⟨(some 106), .nilchk (.tmp 101), none, 0⟩,
            ⟨(some 107), .faddr 0 (.tmp 106), none, 0⟩,
            ⟨(some 108), .faddr 2 (.tmp 107), none, 0⟩,
            ⟨none, .store 1 (.tmp 108) (.const (.int .i64 3)), none, 0⟩])))
          (.seq (.region [⟨(some 110), .bin .eql (.tmp 22) (.const (.int .i64 3)), none, 0⟩,
            ⟨(some 109), .mov (.tmp 110), none, 0⟩])
          (.cond (.tmp 109)
            (.seq (.region [⟨(some 111), .mov (.tmp 0), none, 0⟩,
              ⟨(some 112), .nilchk (.tmp 111), none, 0⟩,
              ⟨(some 113), .faddr 0 (.tmp 112), none, 0⟩,
              ⟨(some 114), .mov (.tmp 1), none, 0⟩,
              ⟨(some 115), .call Id.stack_machine_swap [.tmp 113, .tmp 114], none, 0⟩])
            (.cond (.tmp 115)
              (.seq (.region [⟨(some 116), .mov (.tmp 0), none, 0⟩,
                ⟨(some 117), .nilchk (.tmp 116), none, 0⟩,
                ⟨(some 118), .faddr 0 (.tmp 117), none, 0⟩,
                ⟨(some 119), .faddr 3 (.tmp 118), none, 0⟩,
                ⟨(some 120), .load none (.tmp 119), none, 0⟩,
                ⟨(some 4), .mov (.tmp 120), none, 0⟩,
                ⟨(some 5), .mov (.const (.int .i64 0)), none, 0⟩,
                ⟨(some 6), .mov (.const (.bool true)), none, 0⟩])
              (.ret))
              (.skip)))
            (.seq (.region [⟨(some 4), .mov (.const (.int .i64 0)), none, 0⟩,
              ⟨(some 5), .mov (.const (.int .i64 1)), none, 0⟩,
              ⟨(some 6), .mov (.const (.bool true)), none, 0⟩])
            (.ret))))))))))
      (.seq (.region [⟨(some 4), .mov (.const (.int .i64 0)), none, 0⟩,
        ⟨(some 5), .mov (.const (.int .i64 0)), none, 0⟩,
        ⟨(some 6), .mov (.const (.bool false)), none, 0⟩])
      (.ret)))) }

def F.alloc_Machine_fail : IFunc :=
  { lb := [], scr := false, nargs := 3, res := [],
    body := .region [⟨(some 6), .mov (.tmp 0), none, 0⟩,
        ⟨(some 7), .mov (.tmp 0), none, 0⟩,
        ⟨(some 8), .mov (.tmp 1), none, 0⟩,
        ⟨(some 9), .mov (.tmp 2), none, 0⟩,
        ⟨(some 10), .nilchk (.tmp 6), none, 0⟩,
        ⟨(some 11), .faddr 9 (.tmp 10), none, 0⟩,
        ⟨none, .store 1 (.tmp 11) (.tmp 8), none, 0⟩,
        ⟨(some 12), .nilchk (.tmp 7), none, 0⟩,
        ⟨(some 13), .faddr 7 (.tmp 12), none, 0⟩,
        ⟨none, .store 1 (.tmp 13) (.tmp 9), none, 0⟩] }

def F.stack_NewPush : IFunc :=
  { lb := [2], scr := false, nargs := 2, res := [.tmp 4],
    body := .seq (.region [⟨(some 2), .lbox (.tmp 0), none, 0⟩,
        ⟨(some 4), .mov (.const (.pointer none)), none, 0⟩])
      (.seq (.region [⟨(some 5), .lload none 2 0 (some 2), none, 0⟩,
        ⟨(some 6), .mov (.tmp 1), none, 0⟩,
        ⟨(some 7), .build [.int .i64 0, .int .i64 0, .int .i64 0, .int .i64 0, .int .i64 0, .int .i64 0] [(0, 2, .tmp 5), (2, 1, .const (.int .i64 1)), (3, 1, .tmp 6)], none, 0⟩,
        ⟨(some 8), .build [.int .i64 0, .int .i64 0, .int .i64 0, .int .i64 0, .int .i64 0, .int .i64 0] [(0, 6, .tmp 7)], none, 0⟩,
        ⟨(some 9), .box (.tmp 8), none, 0⟩,
        ⟨(some 4), .mov (.tmp 9), none, 0⟩])
      (.ret)) }

def F.stack_machine_look : IFunc :=
  { lb := [], scr := false, nargs := 2, res := [.tmp 4, .tmp 5],
    body := .seq (.region [⟨(some 4), .mov (.const (.int .i64 0)), none, 0⟩,
        ⟨(some 5), .mov (.const (.bool false)), none, 0⟩])
      (.seq (.region [⟨(some 11), .mov (.tmp 0), none, 0⟩,
        ⟨(some 12), .nilchk (.tmp 11), none, 0⟩,
        ⟨(some 13), .faddr 0 (.tmp 12), none, 0⟩,
        ⟨(some 14), .load (some 2) (.tmp 13), none, 0⟩,
        ⟨(some 15), .call Id.layout_Layout_Stack [.tmp 14], none, 0⟩,
        ⟨(some 10), .mov (.tmp 1), none, 0⟩,
        ⟨(some 16), .mkfn (.method "Load") [.tmp 10] [], none, 0⟩,
        ⟨(some 17), .nilchkm "Load" [(41, Id.cells_Plain_Load)] (.tmp 16), none, 0⟩,
        ⟨(some 18), .mov (.tmp 10), none, 0⟩,
        ⟨(some 19), .invoke [(41, Id.cells_Plain_Load)] (.tmp 18) [.tmp 15], none, 0⟩,
        ⟨(some 9), .mov (.tmp 0), none, 0⟩,
        ⟨(some 20), .nilchk (.tmp 9), none, 0⟩,
        ⟨(some 21), .faddr 4 (.tmp 20), none, 0⟩,
        ⟨none, .store 1 (.tmp 21) (.tmp 19), none, 0⟩])
      (.seq (.region [⟨(some 23), .mov (.tmp 0), none, 0⟩,
        ⟨(some 24), .nilchk (.tmp 23), none, 0⟩,
        ⟨(some 25), .faddr 4 (.tmp 24), none, 0⟩,
        ⟨(some 26), .load none (.tmp 25), none, 0⟩,
        ⟨(some 27), .call Id.head_Unpack [.tmp 26], none, 0⟩,
        ⟨(some 22), .mov (.tmp 27), none, 0⟩,
        ⟨(some 28), .extract (.tmp 22) 0, none, 0⟩,
        ⟨(some 29), .extract (.tmp 22) 1, none, 0⟩,
        ⟨(some 30), .extract (.tmp 22) 2, none, 0⟩,
        ⟨(some 6), .mov (.tmp 28), none, 0⟩,
        ⟨(some 7), .mov (.tmp 29), none, 0⟩,
        ⟨(some 8), .mov (.tmp 30), none, 0⟩])
      (.seq (.region [⟨(some 31), .mov (.tmp 6), none, 0⟩,
        ⟨(some 32), .mov (.tmp 8), none, 0⟩,
        ⟨(some 33), .bin .eql (.tmp 32) (.const (.int .i64 0)), none, 0⟩,
        ⟨(some 4), .mov (.tmp 31), none, 0⟩,
        ⟨(some 5), .mov (.tmp 33), none, 0⟩])
      (.ret)))) }

def F.head_Push : IFunc :=
  { lb := [], scr := false, nargs := 2, res := [.tmp 4, .tmp 5, .tmp 6],
    body := .seq (.region [⟨(some 4), .mov (.const (.int .i64 0)), none, 0⟩,
        ⟨(some 5), .mov (.const (.int .i64 0)), none, 0⟩,
        ⟨(some 6), .mov (.const (.int .i64 0)), none, 0⟩])
      (.seq (.region [⟨(some 10), .mov (.tmp 0), none, 0⟩,
        ⟨(some 11), .call Id.head_read [.tmp 10], none, 0⟩,
        ⟨(some 9), .mov (.tmp 11), none, 0⟩,
        ⟨(some 12), .extract (.tmp 9) 0, none, 0⟩,
        ⟨(some 13), .extract (.tmp 9) 1, none, 0⟩,
        ⟨(some 7), .mov (.tmp 12), none, 0⟩,
        ⟨(some 8), .mov (.tmp 13), none, 0⟩])
      (.seq (.block 0 (.seq (.region [⟨(some 15), .mov (.tmp 8), none, 0⟩,
        ⟨(some 16), .bin .neq (.tmp 15) (.const (.int .i64 0)), none, 0⟩,
        ⟨(some 14), .mov (.tmp 16), none, 0⟩])
      (.cond (.tmp 14)
        (.seq (.region [⟨(some 17), .mov (.tmp 8), none, 0⟩,
          ⟨(some 4), .mov (.const (.int .i64 0)), none, 0⟩,
          ⟨(some 5), .mov (.const (.int .i64 0)), none, 0⟩,
          ⟨(some 6), .mov (.tmp 17), none, 0⟩])
        (.ret))
        (.seq (.region [⟨(some 19), .mov (.tmp 1), none, 0⟩,
          ⟨(some 20), .bin .lss (.tmp 19) (.const (.int .i64 0)), none, 0⟩,
          ⟨(some 21), .mov (.tmp 20), none, 0⟩,
          ⟨(some 22), .mov (.tmp 1), (some (21, false)), 0⟩,
          ⟨(some 23), .bin .geq (.tmp 22) (.const (.int .i64 64)), (some (21, false)), 0⟩,
          ⟨(some 24), .pick (.tmp 21) (.const (.bool true)) (.tmp 23), none, 0⟩,
          ⟨(some 18), .mov (.tmp 24), none, 0⟩])
        (.cond (.tmp 18)
          (.seq (.region [⟨(some 4), .mov (.const (.int .i64 0)), none, 0⟩,
            ⟨(some 5), .mov (.const (.int .i64 0)), none, 0⟩,
            ⟨(some 6), .mov (.const (.int .i64 1)), none, 0⟩])
          (.ret))
          (.skip))))))
      (.seq (.region [⟨(some 25), .mov (.tmp 7), none, 0⟩,
        ⟨(some 26), .mov (.tmp 1), none, 0⟩,
        ⟨(some 27), .bin .add (.tmp 26) (.const (.int .i64 1)), none, 0⟩,
        ⟨(some 28), .call Id.head_front_behind [.tmp 25, .tmp 27], none, 0⟩,
        ⟨(some 29), .call Id.head_front_word [.tmp 28], none, 0⟩,
        ⟨(some 30), .mov (.tmp 7), none, 0⟩,
        ⟨(some 31), .call Id.head_front_top [.tmp 30], none, 0⟩,
        ⟨(some 4), .mov (.tmp 29), none, 0⟩,
        ⟨(some 5), .mov (.tmp 31), none, 0⟩,
        ⟨(some 6), .mov (.const (.int .i64 0)), none, 0⟩])
      (.ret)))) }

def F.stack_machine_swap : IFunc :=
  { lb := [], scr := false, nargs := 2, res := [.tmp 4],
    body := .seq (.region [⟨(some 4), .mov (.const (.bool false)), none, 0⟩])
      (.seq (.seq (.region [⟨(some 6), .mov (.tmp 0), none, 0⟩,
        ⟨(some 7), .nilchk (.tmp 6), none, 0⟩,
        ⟨(some 8), .faddr 0 (.tmp 7), none, 0⟩,
        ⟨(some 9), .load (some 2) (.tmp 8), none, 0⟩,
        ⟨(some 10), .call Id.layout_Layout_Stack [.tmp 9], none, 0⟩,
        ⟨(some 5), .mov (.tmp 1), none, 0⟩,
        ⟨(some 11), .mov (.tmp 0), none, 0⟩,
        ⟨(some 12), .nilchk (.tmp 11), none, 0⟩,
        ⟨(some 13), .faddr 4 (.tmp 12), none, 0⟩,
        ⟨(some 14), .load none (.tmp 13), none, 1⟩,
        ⟨(some 15), .mov (.tmp 0), none, 0⟩,
        ⟨(some 16), .nilchk (.tmp 15), none, 0⟩,
        ⟨(some 17), .faddr 5 (.tmp 16), none, 0⟩,
        ⟨(some 18), .load none (.tmp 17), none, 1⟩,
        ⟨(some 19), .mkfn (.method "Cas") [.tmp 5] [], none, 0⟩,
        ⟨(some 20), .nilchkm "Cas" [(41, Id.cells_Plain_Cas)] (.tmp 19), none, 0⟩,
        ⟨(some 21), .mov (.tmp 5), none, 0⟩,
        ⟨(some 22), .invoke [(41, Id.cells_Plain_Cas)] (.tmp 21) [.tmp 10, .tmp 14, .tmp 18], none, 0⟩])
      (.cond (.tmp 22)
        (.seq (.region [⟨(some 23), .mov (.tmp 0), none, 0⟩,
          ⟨(some 24), .nilchk (.tmp 23), none, 0⟩,
          ⟨(some 25), .faddr 2 (.tmp 24), none, 0⟩,
          ⟨none, .store 1 (.tmp 25) (.const (.int .i64 0)), none, 0⟩])
        (.seq (.region [⟨(some 4), .mov (.const (.bool true)), none, 0⟩])
        (.ret)))
        (.skip)))
      (.seq (.region [⟨(some 26), .mov (.tmp 0), none, 0⟩,
        ⟨(some 27), .nilchk (.tmp 26), none, 0⟩,
        ⟨(some 28), .faddr 2 (.tmp 27), none, 0⟩,
        ⟨none, .store 1 (.tmp 28) (.const (.int .i64 1)), none, 0⟩])
      (.seq (.region [⟨(some 4), .mov (.const (.bool false)), none, 0⟩])
      (.ret)))) }

def F.stack_machine_end : IFunc :=
  { lb := [], scr := false, nargs := 2, res := [.tmp 4, .tmp 5, .tmp 6],
    body := .seq (.region [⟨(some 4), .mov (.const (.int .i64 0)), none, 0⟩,
        ⟨(some 5), .mov (.const (.int .i64 0)), none, 0⟩,
        ⟨(some 6), .mov (.const (.bool false)), none, 0⟩])
      (.seq (.region [⟨(some 7), .mov (.tmp 0), none, 0⟩,
        ⟨(some 8), .nilchk (.tmp 7), none, 0⟩,
        ⟨(some 9), .faddr 2 (.tmp 8), none, 0⟩,
        ⟨none, .store 1 (.tmp 9) (.const (.int .i64 0)), none, 0⟩])
      (.seq (.region [⟨(some 10), .mov (.tmp 1), none, 0⟩,
        ⟨(some 4), .mov (.const (.int .i64 0)), none, 0⟩,
        ⟨(some 5), .mov (.tmp 10), none, 0⟩,
        ⟨(some 6), .mov (.const (.bool true)), none, 0⟩])
      (.ret))) }

def F.head_Pop : IFunc :=
  { lb := [], scr := false, nargs := 2, res := [.tmp 4, .tmp 5, .tmp 6],
    body := .seq (.region [⟨(some 4), .mov (.const (.int .i64 0)), none, 0⟩,
        ⟨(some 5), .mov (.const (.int .i64 0)), none, 0⟩,
        ⟨(some 6), .mov (.const (.int .i64 0)), none, 0⟩])
      (.seq (.region [⟨(some 10), .mov (.tmp 0), none, 0⟩,
        ⟨(some 11), .call Id.head_read [.tmp 10], none, 0⟩,
        ⟨(some 9), .mov (.tmp 11), none, 0⟩,
        ⟨(some 12), .extract (.tmp 9) 0, none, 0⟩,
        ⟨(some 13), .extract (.tmp 9) 1, none, 0⟩,
        ⟨(some 7), .mov (.tmp 12), none, 0⟩,
        ⟨(some 8), .mov (.tmp 13), none, 0⟩])
      (.seq (.block 0 (.seq (.region [⟨(some 15), .mov (.tmp 8), none, 0⟩,
        ⟨(some 16), .bin .neq (.tmp 15) (.const (.int .i64 0)), none, 0⟩,
        ⟨(some 14), .mov (.tmp 16), none, 0⟩])
      (.cond (.tmp 14)
        (.seq (.region [⟨(some 17), .mov (.tmp 8), none, 0⟩,
          ⟨(some 4), .mov (.const (.int .i64 0)), none, 0⟩,
          ⟨(some 5), .mov (.const (.int .i64 0)), none, 0⟩,
          ⟨(some 6), .mov (.tmp 17), none, 0⟩])
        (.ret))
        (.seq (.region [⟨(some 19), .mov (.tmp 1), none, 0⟩,
          ⟨(some 20), .call Id.head_may [.tmp 19], none, 0⟩,
          ⟨(some 21), .un .not (.tmp 20), none, 0⟩,
          ⟨(some 18), .mov (.tmp 21), none, 0⟩])
        (.cond (.tmp 18)
          (.seq (.region [⟨(some 4), .mov (.const (.int .i64 0)), none, 0⟩,
            ⟨(some 5), .mov (.const (.int .i64 0)), none, 0⟩,
            ⟨(some 6), .mov (.const (.int .i64 1)), none, 0⟩])
          (.ret))
          (.seq (.region [⟨(some 23), .mov (.tmp 7), none, 0⟩,
            ⟨(some 24), .call Id.head_front_top [.tmp 23], none, 0⟩,
            ⟨(some 25), .bin .eql (.tmp 24) (.const (.int .i64 0)), none, 0⟩,
            ⟨(some 22), .mov (.tmp 25), none, 0⟩])
          (.cond (.tmp 22)
            (.seq (.region [⟨(some 4), .mov (.const (.int .i64 0)), none, 0⟩,
              ⟨(some 5), .mov (.const (.int .i64 0)), none, 0⟩,
              ⟨(some 6), .mov (.const (.int .i64 11)), none, 0⟩])
            (.ret))
            (.skip))))))))
      (.seq (.region [⟨(some 26), .mov (.tmp 7), none, 0⟩,
        ⟨(some 27), .mov (.tmp 1), none, 0⟩,
        ⟨(some 28), .call Id.head_front_behind [.tmp 26, .tmp 27], none, 0⟩,
        ⟨(some 29), .call Id.head_front_word [.tmp 28], none, 0⟩,
        ⟨(some 30), .mov (.tmp 7), none, 0⟩,
        ⟨(some 31), .call Id.head_front_top [.tmp 30], none, 0⟩,
        ⟨(some 32), .bin .sub (.tmp 31) (.const (.int .i64 1)), none, 0⟩,
        ⟨(some 4), .mov (.tmp 29), none, 0⟩,
        ⟨(some 5), .mov (.tmp 32), none, 0⟩,
        ⟨(some 6), .mov (.const (.int .i64 0)), none, 0⟩])
      (.ret)))) }

def F.head_front_behind : IFunc :=
  { lb := [], scr := false, nargs := 2, res := [.tmp 4],
    body := .seq (.region [⟨(some 4), .mov (.const (.complex .f64 0 0)), none, 0⟩])
      (.seq (.seq (.region [⟨(some 5), .mov (.tmp 0), none, 0⟩,
        ⟨(some 6), .call Id.head_front_tag [.tmp 5], none, 0⟩,
        ⟨(some 7), .bin .eql (.tmp 6) (.const (.int .i64 4294967295)), none, 0⟩])
      (.cond (.tmp 7)
        (.seq (.region [⟨(some 8), .mov (.tmp 1), none, 0⟩,
          ⟨(some 9), .call Id.head_of [.tmp 8, .const (.int .i64 0)], none, 0⟩,
          ⟨(some 4), .mov (.tmp 9), none, 0⟩])
        (.ret))
        (.skip)))
      (.seq (.region [⟨(some 10), .mov (.tmp 1), none, 0⟩,
        ⟨(some 11), .mov (.tmp 0), none, 0⟩,
        ⟨(some 12), .call Id.head_front_tag [.tmp 11], none, 0⟩,
        ⟨(some 13), .bin .add (.tmp 12) (.const (.int .i64 1)), none, 0⟩,
        ⟨(some 14), .call Id.head_of [.tmp 10, .tmp 13], none, 0⟩,
        ⟨(some 4), .mov (.tmp 14), none, 0⟩])
      (.ret))) }

def F.free_Machine_Step : IFunc :=
  { lb := [4], scr := false, nargs := 2, res := [.lb 4 (some 2), .tmp 5],
    body := .seq (.region [⟨(some 4), .lbox (.const (.agg #[.int .i64 0, .int .i64 0])), none, 0⟩,
        ⟨(some 5), .mov (.const (.bool false)), none, 0⟩])
      (.seq (.seq (.region [⟨(some 8), .mov (.tmp 0), none, 0⟩,
        ⟨(some 9), .eqv false (.nil 0) (.tmp 8) (.const (.pointer none)), none, 0⟩,
        ⟨(some 10), .mov (.tmp 9), none, 0⟩,
        ⟨(some 11), .mov (.tmp 1), (some (10, false)), 0⟩,
        ⟨(some 12), .eqv false (.nil 4) (.tmp 11) (.const (.nilIface)), (some (10, false)), 0⟩,
        ⟨(some 13), .pick (.tmp 10) (.const (.bool true)) (.tmp 12), none, 0⟩,
        ⟨(some 14), .mov (.tmp 13), none, 0⟩,
        ⟨(some 15), .mov (.tmp 0), (some (14, false)), 0⟩,
        ⟨(some 16), .nilchk (.tmp 15), (some (14, false)), 0⟩,
        ⟨(some 17), .faddr 5 (.tmp 16), (some (14, false)), 0⟩,
        ⟨(some 18), .load none (.tmp 17), (some (14, false)), 0⟩,
        ⟨(some 19), .bin .eql (.tmp 18) (.const (.int .i64 0)), (some (14, false)), 0⟩,
        ⟨(some 20), .pick (.tmp 14) (.const (.bool true)) (.tmp 19), none, 0⟩])
      (.cond (.tmp 20)
        (.seq (.region [⟨(some 21), .build [.int .i64 0, .int .i64 0] [(0, 1, .const (.int .i64 1))], none, 0⟩,
          ⟨(some 4), .lstore none 4 0 2 (.tmp 21), none, 0⟩,
          ⟨(some 5), .mov (.const (.bool true)), none, 0⟩])
        (.ret))
        (.skip)))
      (.seq (.seq (.region [⟨(some 22), .mov (.tmp 0), none, 0⟩,
        ⟨(some 23), .nilchk (.tmp 22), none, 0⟩,
        ⟨(some 24), .faddr 5 (.tmp 23), none, 0⟩,
        ⟨(some 25), .load none (.tmp 24), none, 0⟩])
      (.block 0 (.seq (.region [⟨(some 27), .bin .eql (.tmp 25) (.const (.int .i64 1)), none, 0⟩,
        ⟨(some 26), .mov (.tmp 27), none, 0⟩])
      (.cond (.tmp 26)
        (.seq (.region [⟨(some 28), .mov (.tmp 0), none, 0⟩,
          ⟨(some 29), .mov (.tmp 1), none, 0⟩,
          ⟨(some 30), .call Id.free_Machine_look [.tmp 28, .tmp 29], none, 0⟩,
          ⟨(some 31), .extract (.tmp 30) 0, none, 0⟩,
          ⟨(some 32), .extract (.tmp 30) 1, none, 0⟩,
          ⟨(some 4), .lstore none 4 0 2 (.tmp 31), none, 0⟩,
          ⟨(some 5), .mov (.tmp 32), none, 0⟩])
        (.ret))
        (.seq (.region [⟨(some 34), .bin .eql (.tmp 25) (.const (.int .i64 2)), none, 0⟩,
          ⟨(some 33), .mov (.tmp 34), none, 0⟩])
        (.cond (.tmp 33)
          (.seq (.region [⟨(some 35), .mov (.tmp 0), none, 0⟩,
            ⟨(some 36), .mov (.tmp 1), none, 0⟩,
            ⟨(some 37), .call Id.free_Machine_swap [.tmp 35, .tmp 36], none, 0⟩,
            ⟨(some 38), .extract (.tmp 37) 0, none, 0⟩,
            ⟨(some 39), .extract (.tmp 37) 1, none, 0⟩,
            ⟨(some 4), .lstore none 4 0 2 (.tmp 38), none, 0⟩,
            ⟨(some 5), .mov (.tmp 39), none, 0⟩])
          (.ret))
          (.skip)))))))
      (.seq (.seq (.region [⟨(some 41), .mov (.tmp 0), none, 0⟩,
        ⟨(some 42), .nilchk (.tmp 41), none, 0⟩,
        ⟨(some 43), .faddr 9 (.tmp 42), none, 0⟩,
        ⟨(some 44), .load none (.tmp 43), none, 0⟩,
        ⟨(some 45), .mov (.tmp 1), none, 0⟩,
        ⟨(some 46), .call Id.stack_Push_Step [.tmp 44, .tmp 45], none, 0⟩,
        ⟨(some 40), .mov (.tmp 46), none, 0⟩,
        ⟨(some 47), .extract (.tmp 40) 0, none, 0⟩,
        ⟨(some 48), .extract (.tmp 40) 1, none, 0⟩,
        ⟨(some 6), .mov (.tmp 47), none, 0⟩,
        ⟨(some 7), .mov (.tmp 48), none, 0⟩])
      (.seq (.region [⟨(some 49), .mov (.tmp 7), none, 0⟩])
      (.cond (.tmp 49)
        (.seq (.region [⟨(some 50), .mov (.tmp 0), none, 0⟩,
          ⟨(some 51), .call Id.free_Machine_end [.tmp 50, .const (.int .i64 0)], none, 0⟩,
          ⟨(some 52), .extract (.tmp 51) 0, none, 0⟩,
          ⟨(some 53), .extract (.tmp 51) 1, none, 0⟩,
          ⟨(some 4), .lstore none 4 0 2 (.tmp 52), none, 0⟩,
          ⟨(some 5), .mov (.tmp 53), none, 0⟩])
        (.ret))
        (.skip))))
      (.seq (.region [⟨(some 54), .build [.int .i64 0, .int .i64 0] [], none, 0⟩,
        ⟨(some 4), .lstore none 4 0 2 (.tmp 54), none, 0⟩,
        ⟨(some 5), .mov (.const (.bool false)), none, 0⟩])
      (.ret))))) }

def F.free_Machine_look : IFunc :=
  { lb := [4, 6], scr := false, nargs := 2, res := [.lb 4 (some 2), .tmp 5],
    body := .seq (.region [⟨(some 4), .lbox (.const (.agg #[.int .i64 0, .int .i64 0])), none, 0⟩,
        ⟨(some 5), .mov (.const (.bool false)), none, 0⟩])
      (.seq (.seq (.region [⟨(some 8), .mov (.tmp 0), none, 0⟩,
        ⟨(some 9), .nilchk (.tmp 8), none, 0⟩,
        ⟨(some 10), .faddr 4 (.tmp 9), none, 0⟩,
        ⟨(some 11), .load none (.tmp 10), none, 0⟩])
      (.cond (.tmp 11)
        (.seq (.region [⟨(some 12), .mov (.tmp 0), none, 0⟩,
          ⟨(some 13), .call Id.free_Machine_end [.tmp 12, .const (.int .i64 4)], none, 0⟩,
          ⟨(some 14), .extract (.tmp 13) 0, none, 0⟩,
          ⟨(some 15), .extract (.tmp 13) 1, none, 0⟩,
          ⟨(some 4), .lstore none 4 0 2 (.tmp 14), none, 0⟩,
          ⟨(some 5), .mov (.tmp 15), none, 0⟩])
        (.ret))
        (.skip)))
      (.seq (.region [⟨(some 18), .mov (.tmp 0), none, 0⟩,
        ⟨(some 19), .nilchk (.tmp 18), none, 0⟩,
        ⟨(some 20), .faddr 0 (.tmp 19), none, 0⟩,
        ⟨(some 21), .load (some 2) (.tmp 20), none, 0⟩,
        ⟨(some 22), .mov (.tmp 0), none, 0⟩,
        ⟨(some 23), .nilchk (.tmp 22), none, 0⟩,
        ⟨(some 24), .faddr 2 (.tmp 23), none, 0⟩,
        ⟨(some 25), .load none (.tmp 24), none, 0⟩,
        ⟨(some 26), .call Id.layout_Layout_Entry [.tmp 21, .tmp 25], none, 0⟩,
        ⟨(some 17), .mov (.tmp 1), none, 0⟩,
        ⟨(some 27), .mkfn (.method "Load") [.tmp 17] [], none, 0⟩,
        ⟨(some 28), .nilchkm "Load" [(41, Id.cells_Plain_Load)] (.tmp 27), none, 0⟩,
        ⟨(some 29), .mov (.tmp 17), none, 0⟩,
        ⟨(some 30), .invoke [(41, Id.cells_Plain_Load)] (.tmp 29) [.tmp 26], none, 0⟩,
        ⟨(some 16), .mov (.tmp 0), none, 0⟩,
        ⟨(some 31), .nilchk (.tmp 16), none, 0⟩,
        ⟨(some 32), .faddr 6 (.tmp 31), none, 0⟩,
        ⟨none, .store 1 (.tmp 32) (.tmp 30), none, 0⟩])
      (.seq (.region [⟨(some 34), .mov (.tmp 0), none, 0⟩,
        ⟨(some 35), .nilchk (.tmp 34), none, 0⟩,
        ⟨(some 36), .faddr 6 (.tmp 35), none, 0⟩,
        ⟨(some 37), .load none (.tmp 36), none, 0⟩,
        ⟨(some 38), .call Id.entry_Unpack [.tmp 37], none, 0⟩,
        ⟨(some 33), .mov (.tmp 38), none, 0⟩,
        ⟨(some 39), .extract (.tmp 33) 0, none, 0⟩,
        ⟨(some 40), .extract (.tmp 33) 1, none, 0⟩,
        ⟨(some 6), .lbox (.const (.agg #[.int .i64 0, .int .i64 0, .int .i64 0, .int .i64 0, .bool false, .bool false])), none, 0⟩,
        ⟨(some 6), .lstore none 6 0 6 (.tmp 39), none, 0⟩,
        ⟨(some 7), .mov (.tmp 40), none, 0⟩])
      (.seq (.block 0 (.seq (.region [⟨(some 42), .mov (.tmp 7), none, 0⟩,
        ⟨(some 43), .bin .neq (.tmp 42) (.const (.int .i64 0)), none, 0⟩,
        ⟨(some 44), .mov (.tmp 43), none, 0⟩,
        ⟨(some 45), .laddr none 6 5, (some (44, false)), 0⟩,
        ⟨(some 46), .lload (some 45) 6 5 none, (some (44, false)), 0⟩,
        ⟨(some 47), .un .not (.tmp 46), (some (44, false)), 0⟩,
        ⟨(some 48), .pick (.tmp 44) (.const (.bool true)) (.tmp 47), none, 0⟩,
        ⟨(some 49), .mov (.tmp 48), none, 0⟩,
        ⟨(some 50), .laddr none 6 1, (some (49, false)), 0⟩,
        ⟨(some 51), .lload (some 50) 6 1 none, (some (49, false)), 0⟩,
        ⟨(some 52), .mov (.tmp 0), (some (49, false)), 0⟩,
        ⟨(some 53), .nilchk (.tmp 52), (some (49, false)), 0⟩,
        ⟨(some 54), .faddr 3 (.tmp 53), (some (49, false)), 0⟩,
        ⟨(some 55), .load none (.tmp 54), (some (49, false)), 0⟩,
        ⟨(some 56), .bin .neq (.tmp 51) (.tmp 55), (some (49, false)), 0⟩,
        ⟨(some 57), .pick (.tmp 49) (.const (.bool true)) (.tmp 56), none, 0⟩,
        ⟨(some 41), .mov (.tmp 57), none, 0⟩])
      (.cond (.tmp 41)
        (.seq (.region [⟨(some 58), .mov (.tmp 0), none, 0⟩,
          ⟨(some 59), .call Id.free_Machine_end [.tmp 58, .const (.int .i64 4)], none, 0⟩,
          ⟨(some 60), .extract (.tmp 59) 0, none, 0⟩,
          ⟨(some 61), .extract (.tmp 59) 1, none, 0⟩,
          ⟨(some 4), .lstore none 4 0 2 (.tmp 60), none, 0⟩,
          ⟨(some 5), .mov (.tmp 61), none, 0⟩])
        (.ret))
        (.seq (.region [⟨(some 63), .laddr none 6 2, none, 0⟩,
          ⟨(some 64), .lload (some 63) 6 2 none, none, 0⟩,
          ⟨(some 65), .bin .gtr (.tmp 64) (.const (.int .i64 0)), none, 0⟩,
          ⟨(some 62), .mov (.tmp 65), none, 0⟩])
        (.cond (.tmp 62)
          (.seq (.region [⟨(some 66), .mov (.tmp 0), none, 0⟩,
            ⟨(some 67), .call Id.free_Machine_end [.tmp 66, .const (.int .i64 6)], none, 0⟩,
            ⟨(some 68), .extract (.tmp 67) 0, none, 0⟩,
            ⟨(some 69), .extract (.tmp 67) 1, none, 0⟩,
            ⟨(some 4), .lstore none 4 0 2 (.tmp 68), none, 0⟩,
            ⟨(some 5), .mov (.tmp 69), none, 0⟩])
          (.ret))
          (.seq (.region [⟨(some 71), .laddr none 6 3, none, 0⟩,
            ⟨(some 72), .lload (some 71) 6 3 none, none, 0⟩,
            ⟨(some 73), .bin .eql (.tmp 72) (.const (.int .i64 0)), none, 0⟩,
            ⟨(some 74), .mov (.tmp 73), none, 0⟩,
            ⟨(some 75), .laddr none 6 4, (some (74, true)), 0⟩,
            ⟨(some 76), .lload (some 75) 6 4 none, (some (74, true)), 0⟩,
            ⟨(some 77), .un .not (.tmp 76), (some (74, true)), 0⟩,
            ⟨(some 78), .pick (.tmp 74) (.tmp 77) (.const (.bool false)), none, 0⟩,
            ⟨(some 70), .mov (.tmp 78), none, 0⟩])
          (.cond (.tmp 70)
            (.seq (.region [⟨(some 80), .mov (.tmp 0), none, 0⟩,
              ⟨(some 81), .mov (.tmp 0), none, 0⟩,
              ⟨(some 82), .mov (.tmp 0), none, 0⟩,
              ⟨(some 83), .nilchk (.tmp 82), none, 0⟩,
              ⟨(some 84), .faddr 6 (.tmp 83), none, 0⟩,
              ⟨(some 85), .load none (.tmp 84), none, 0⟩,
              ⟨(some 86), .call Id.entry_Next [.tmp 85], none, 0⟩,
              ⟨(some 79), .mov (.tmp 86), none, 0⟩,
              ⟨(some 87), .extract (.tmp 79) 0, none, 0⟩,
              ⟨(some 88), .extract (.tmp 79) 1, none, 0⟩,
              ⟨(some 89), .extract (.tmp 79) 2, none, 0⟩,
              ⟨(some 90), .nilchk (.tmp 80), none, 0⟩,
              ⟨(some 91), .faddr 7 (.tmp 90), none, 0⟩,
              ⟨none, .store 1 (.tmp 91) (.tmp 87), none, 0⟩,
              ⟨(some 92), .nilchk (.tmp 81), none, 0⟩,
              ⟨(some 93), .faddr 8 (.tmp 92), none, 0⟩,
              ⟨none, .store 1 (.tmp 93) (.tmp 88), none, 0⟩])
            (.region [⟨(some 94), .mov (.tmp 0), none, 0⟩,
              ⟨(some 95), .nilchk (.tmp 94), none, 0⟩,
              ⟨(some 96), .faddr 5 (.tmp 95), none, 0⟩,
              ⟨none, .store 1 (.tmp 96) (.const (.int .i64 2)), none, 0⟩]))
            (.skip))))))))
      (.seq (.region [⟨(some 97), .build [.int .i64 0, .int .i64 0] [], none, 0⟩,
        ⟨(some 4), .lstore none 4 0 2 (.tmp 97), none, 0⟩,
        ⟨(some 5), .mov (.const (.bool false)), none, 0⟩])
      (.ret)))))) }

def F.free_Machine_swap : IFunc :=
  { lb := [4], scr := false, nargs := 2, res := [.lb 4 (some 2), .tmp 5],
    body := .seq (.region [⟨(some 4), .lbox (.const (.agg #[.int .i64 0, .int .i64 0])), none, 0⟩,
        ⟨(some 5), .mov (.const (.bool false)), none, 0⟩])
      (.seq (.block 0 (.seq (.region [⟨(some 23), .mov (.tmp 0), none, 0⟩,
        ⟨(some 24), .nilchk (.tmp 23), none, 0⟩,
        ⟨(some 25), .faddr 0 (.tmp 24), none, 0⟩,
        ⟨(some 26), .load (some 2) (.tmp 25), none, 0⟩,
        ⟨(some 27), .mov (.tmp 0), none, 0⟩,
        ⟨(some 28), .nilchk (.tmp 27), none, 0⟩,
        ⟨(some 29), .faddr 2 (.tmp 28), none, 0⟩,
        ⟨(some 30), .load none (.tmp 29), none, 0⟩,
        ⟨(some 31), .call Id.layout_Layout_Entry [.tmp 26, .tmp 30], none, 0⟩,
        ⟨(some 22), .mov (.tmp 1), none, 0⟩,
        ⟨(some 32), .mov (.tmp 0), none, 0⟩,
        ⟨(some 33), .nilchk (.tmp 32), none, 0⟩,
        ⟨(some 34), .faddr 6 (.tmp 33), none, 0⟩,
        ⟨(some 35), .load none (.tmp 34), none, 1⟩,
        ⟨(some 36), .mov (.tmp 0), none, 0⟩,
        ⟨(some 37), .nilchk (.tmp 36), none, 0⟩,
        ⟨(some 38), .faddr 7 (.tmp 37), none, 0⟩,
        ⟨(some 39), .load none (.tmp 38), none, 1⟩,
        ⟨(some 40), .mkfn (.method "Cas") [.tmp 22] [], none, 0⟩,
        ⟨(some 41), .nilchkm "Cas" [(41, Id.cells_Plain_Cas)] (.tmp 40), none, 0⟩,
        ⟨(some 42), .mov (.tmp 22), none, 0⟩,
        ⟨(some 43), .invoke [(41, Id.cells_Plain_Cas)] (.tmp 42) [.tmp 31, .tmp 35, .tmp 39], none, 0⟩,
        ⟨(some 44), .un .not (.tmp 43), none, 0⟩,
        ⟨(some 21), .mov (.tmp 44), none, 0⟩])
      (.cond (.tmp 21)
        (.region [⟨(some 45), .mov (.tmp 0), none, 0⟩,
          ⟨(some 46), .nilchk (.tmp 45), none, 0⟩,
          ⟨(some 47), .faddr 5 (.tmp 46), none, 0⟩,
          ⟨none, .store 1 (.tmp 47) (.const (.int .i64 1)), none, 0⟩])
        (.seq (.region [⟨(some 49), .mov (.tmp 0), none, 0⟩,
          ⟨(some 50), .nilchk (.tmp 49), none, 0⟩,
          ⟨(some 51), .faddr 8 (.tmp 50), none, 0⟩,
          ⟨(some 52), .load none (.tmp 51), none, 0⟩,
          ⟨(some 53), .un .not (.tmp 52), none, 0⟩,
          ⟨(some 48), .mov (.tmp 53), none, 0⟩])
        (.cond (.tmp 48)
          (.seq (.region [⟨(some 54), .mov (.tmp 0), none, 0⟩,
            ⟨(some 55), .call Id.free_Machine_end [.tmp 54, .const (.int .i64 0)], none, 0⟩,
            ⟨(some 56), .extract (.tmp 55) 0, none, 0⟩,
            ⟨(some 57), .extract (.tmp 55) 1, none, 0⟩,
            ⟨(some 4), .lstore none 4 0 2 (.tmp 56), none, 0⟩,
            ⟨(some 5), .mov (.tmp 57), none, 0⟩])
          (.ret))
          (.region [⟨(some 8), .mov (.tmp 0), none, 0⟩,
            ⟨(some 9), .nilchk (.tmp 8), none, 0⟩,
            ⟨(some 10), .faddr 0 (.tmp 9), none, 0⟩,
            ⟨(some 11), .load (some 2) (.tmp 10), none, 0⟩,
            ⟨(some 12), .mov (.tmp 0), none, 0⟩,
            ⟨(some 13), .nilchk (.tmp 12), none, 0⟩,
            ⟨(some 14), .faddr 2 (.tmp 13), none, 0⟩,
            ⟨(some 15), .load none (.tmp 14), none, 0⟩,
            ⟨(some 16), .call Id.stack_NewPush [.tmp 11, .tmp 15], none, 0⟩,
            ⟨(some 6), .mov (.tmp 0), none, 0⟩,
            ⟨(some 17), .nilchk (.tmp 6), none, 0⟩,
            ⟨(some 18), .faddr 9 (.tmp 17), none, 0⟩,
            ⟨none, .store 1 (.tmp 18) (.tmp 16), none, 0⟩,
            ⟨(some 7), .mov (.tmp 0), none, 0⟩,
            ⟨(some 19), .nilchk (.tmp 7), none, 0⟩,
            ⟨(some 20), .faddr 5 (.tmp 19), none, 0⟩,
            ⟨none, .store 1 (.tmp 20) (.const (.int .i64 3)), none, 0⟩]))))))
      (.seq (.region [⟨(some 58), .build [.int .i64 0, .int .i64 0] [], none, 0⟩,
        ⟨(some 4), .lstore none 4 0 2 (.tmp 58), none, 0⟩,
        ⟨(some 5), .mov (.const (.bool false)), none, 0⟩])
      (.ret))) }

def F.free_Machine_end : IFunc :=
  { lb := [4], scr := false, nargs := 2, res := [.lb 4 (some 2), .tmp 5],
    body := .seq (.region [⟨(some 4), .lbox (.const (.agg #[.int .i64 0, .int .i64 0])), none, 0⟩,
        ⟨(some 5), .mov (.const (.bool false)), none, 0⟩])
      (.seq (.region [⟨(some 6), .mov (.tmp 0), none, 0⟩,
        ⟨(some 7), .nilchk (.tmp 6), none, 0⟩,
        ⟨(some 8), .faddr 5 (.tmp 7), none, 0⟩,
        ⟨none, .store 1 (.tmp 8) (.const (.int .i64 0)), none, 0⟩])
      (.seq (.region [⟨(some 9), .mov (.tmp 1), none, 0⟩,
        ⟨(some 10), .build [.int .i64 0, .int .i64 0] [(0, 1, .tmp 9)], none, 0⟩,
        ⟨(some 4), .lstore none 4 0 2 (.tmp 10), none, 0⟩,
        ⟨(some 5), .mov (.const (.bool true)), none, 0⟩])
      (.ret))) }

def F.entry_Next : IFunc :=
  { lb := [], scr := false, nargs := 1, res := [.tmp 2, .tmp 3, .tmp 4],
    body := .seq (.region [⟨(some 2), .mov (.const (.int .i64 0)), none, 0⟩,
        ⟨(some 3), .mov (.const (.bool false)), none, 0⟩,
        ⟨(some 4), .mov (.const (.int .i64 0)), none, 0⟩])
      (.seq (.region [⟨(some 5), .box (.const (.bool false)), none, 0⟩,
        ⟨none, .store 1 (.tmp 5) (.const (.bool false)), none, 0⟩])
      (.seq (.region [⟨(some 9), .mov (.tmp 0), none, 0⟩,
        ⟨(some 10), .mkfn (.func Id.entry_Next_1) [] [.tmp 5], none, 0⟩,
        ⟨(some 11), .call Id.entry_changed [.tmp 9, .tmp 10], none, 0⟩,
        ⟨(some 8), .mov (.tmp 11), none, 0⟩,
        ⟨(some 12), .extract (.tmp 8) 0, none, 0⟩,
        ⟨(some 13), .extract (.tmp 8) 1, none, 0⟩,
        ⟨(some 6), .mov (.tmp 12), none, 0⟩,
        ⟨(some 7), .mov (.tmp 13), none, 0⟩])
      (.seq (.region [⟨(some 14), .mov (.tmp 6), none, 0⟩,
        ⟨(some 15), .load none (.tmp 5), none, 0⟩,
        ⟨(some 16), .mov (.tmp 7), none, 0⟩,
        ⟨(some 2), .mov (.tmp 14), none, 0⟩,
        ⟨(some 3), .mov (.tmp 15), none, 0⟩,
        ⟨(some 4), .mov (.tmp 16), none, 0⟩])
      (.ret)))) }

def F.entry_Next_1 : IFunc :=
  { lb := [], scr := false, nargs := 2, res := [.tmp 3],
    body := .seq (.region [⟨(some 3), .mov (.const (.int .i64 0)), none, 0⟩])
      (.seq (.seq (.region [⟨(some 4), .mov (.tmp 0), none, 0⟩,
        ⟨(some 5), .nilchk (.tmp 4), none, 0⟩,
        ⟨(some 6), .faddr 2 (.tmp 5), none, 0⟩,
        ⟨(some 7), .load none (.tmp 6), none, 0⟩,
        ⟨(some 8), .mov (.tmp 0), none, 0⟩,
        ⟨(some 9), .nilchk (.tmp 8), none, 0⟩,
        ⟨(some 10), .faddr 3 (.tmp 9), none, 0⟩,
        ⟨(some 11), .load none (.tmp 10), none, 0⟩,
        ⟨(some 12), .bin .add (.tmp 7) (.tmp 11), none, 0⟩,
        ⟨(some 13), .bin .gtr (.tmp 12) (.const (.int .i64 0)), none, 0⟩,
        ⟨(some 14), .mov (.tmp 13), none, 0⟩,
        ⟨(some 15), .mov (.tmp 0), (some (14, false)), 0⟩,
        ⟨(some 16), .nilchk (.tmp 15), (some (14, false)), 0⟩,
        ⟨(some 17), .faddr 4 (.tmp 16), (some (14, false)), 0⟩,
        ⟨(some 18), .load none (.tmp 17), (some (14, false)), 0⟩,
        ⟨(some 19), .pick (.tmp 14) (.const (.bool true)) (.tmp 18), none, 0⟩])
      (.cond (.tmp 19)
        (.seq (.region [⟨(some 3), .mov (.const (.int .i64 1)), none, 0⟩])
        (.ret))
        (.skip)))
      (.seq (.region [⟨(some 20), .mov (.tmp 0), none, 0⟩,
        ⟨(some 21), .nilchk (.tmp 20), none, 0⟩,
        ⟨(some 22), .faddr 1 (.tmp 21), none, 0⟩,
        ⟨(some 23), .load none (.tmp 22), none, 0⟩,
        ⟨(some 24), .bin .lss (.tmp 23) (.const (.int .i64 1000)), none, 0⟩,
        ⟨none, .store 1 (.tmp 1) (.tmp 24), none, 0⟩])
      (.seq (.region [⟨(some 30), .load none (.tmp 1), none, 0⟩,
        ⟨(some 31), .call Id.entry_bit [.tmp 30], none, 0⟩,
        ⟨(some 25), .mov (.tmp 0), none, 0⟩,
        ⟨(some 26), .mov (.tmp 0), none, 0⟩,
        ⟨(some 27), .nilchk (.tmp 26), none, 0⟩,
        ⟨(some 28), .faddr 1 (.tmp 27), none, 0⟩,
        ⟨(some 29), .load none (.tmp 28), none, 1⟩,
        ⟨(some 32), .bin .add (.tmp 29) (.tmp 31), none, 0⟩,
        ⟨(some 33), .build [.int .i64 0, .int .i64 0, .int .i64 0, .int .i64 0, .bool false, .bool false] [(1, 1, .tmp 32)], none, 0⟩,
        ⟨(some 34), .nilchk (.tmp 25), none, 0⟩,
        ⟨none, .store 6 (.tmp 34) (.tmp 33), none, 0⟩])
      (.seq (.region [⟨(some 3), .mov (.const (.int .i64 0)), none, 0⟩])
      (.ret))))) }

def F.read_Machine_Step : IFunc :=
  { lb := [4, 6, 9], scr := false, nargs := 2, res := [.lb 4 (some 2), .tmp 5],
    body := .seq (.region [⟨(some 4), .lbox (.const (.agg #[.int .i64 0, .int .i64 0])), none, 0⟩,
        ⟨(some 5), .mov (.const (.bool false)), none, 0⟩])
      (.seq (.seq (.region [⟨(some 11), .mov (.tmp 0), none, 0⟩,
        ⟨(some 12), .eqv false (.nil 0) (.tmp 11) (.const (.pointer none)), none, 0⟩,
        ⟨(some 13), .mov (.tmp 12), none, 0⟩,
        ⟨(some 14), .mov (.tmp 1), (some (13, false)), 0⟩,
        ⟨(some 15), .eqv false (.nil 4) (.tmp 14) (.const (.nilIface)), (some (13, false)), 0⟩,
        ⟨(some 16), .pick (.tmp 13) (.const (.bool true)) (.tmp 15), none, 0⟩,
        ⟨(some 17), .mov (.tmp 16), none, 0⟩,
        ⟨(some 18), .mov (.tmp 0), (some (17, false)), 0⟩,
        ⟨(some 19), .nilchk (.tmp 18), (some (17, false)), 0⟩,
        ⟨(some 20), .faddr 6 (.tmp 19), (some (17, false)), 0⟩,
        ⟨(some 21), .load none (.tmp 20), (some (17, false)), 0⟩,
        ⟨(some 22), .bin .eql (.tmp 21) (.const (.int .i64 0)), (some (17, false)), 0⟩,
        ⟨(some 23), .pick (.tmp 17) (.const (.bool true)) (.tmp 22), none, 0⟩])
      (.cond (.tmp 23)
        (.seq (.region [⟨(some 24), .build [.int .i64 0, .int .i64 0] [(0, 1, .const (.int .i64 1))], none, 0⟩,
          ⟨(some 4), .lstore none 4 0 2 (.tmp 24), none, 0⟩,
          ⟨(some 5), .mov (.const (.bool true)), none, 0⟩])
        (.ret))
        (.skip)))
      (.seq (.seq (.region [⟨(some 25), .mov (.tmp 0), none, 0⟩,
        ⟨(some 26), .nilchk (.tmp 25), none, 0⟩,
        ⟨(some 27), .faddr 6 (.tmp 26), none, 0⟩,
        ⟨(some 28), .load none (.tmp 27), none, 0⟩])
      (.block 0 (.seq (.region [⟨(some 30), .bin .eql (.tmp 28) (.const (.int .i64 1)), none, 0⟩,
        ⟨(some 29), .mov (.tmp 30), none, 0⟩])
      (.cond (.tmp 29)
        (.seq (.seq (.region [⟨(some 31), .mov (.tmp 0), none, 0⟩,
          ⟨(some 32), .nilchk (.tmp 31), none, 0⟩,
          ⟨(some 33), .faddr 4 (.tmp 32), none, 0⟩,
          ⟨(some 34), .load none (.tmp 33), none, 0⟩])
        (.cond (.tmp 34)
          (.seq (.region [⟨(some 35), .mov (.tmp 0), none, 0⟩,
            ⟨(some 36), .build [.int .i64 0, .int .i64 0] [(0, 1, .const (.int .i64 4))], none, 0⟩,
            ⟨(some 37), .call Id.read_Machine_end [.tmp 35, .tmp 36], none, 0⟩,
            ⟨(some 38), .extract (.tmp 37) 0, none, 0⟩,
            ⟨(some 39), .extract (.tmp 37) 1, none, 0⟩,
            ⟨(some 4), .lstore none 4 0 2 (.tmp 38), none, 0⟩,
            ⟨(some 5), .mov (.tmp 39), none, 0⟩])
          (.ret))
          (.skip)))
        (.seq (.region [⟨(some 41), .mov (.tmp 0), none, 0⟩,
          ⟨(some 42), .mov (.tmp 1), none, 0⟩,
          ⟨(some 43), .call Id.read_Machine_load [.tmp 41, .tmp 42], none, 0⟩,
          ⟨(some 40), .mov (.tmp 43), none, 0⟩,
          ⟨(some 44), .extract (.tmp 40) 0, none, 0⟩,
          ⟨(some 45), .extract (.tmp 40) 1, none, 0⟩,
          ⟨(some 6), .lbox (.const (.agg #[.int .i64 0, .int .i64 0, .int .i64 0, .int .i64 0, .bool false, .bool false])), none, 0⟩,
          ⟨(some 6), .lstore none 6 0 6 (.tmp 44), none, 0⟩,
          ⟨(some 7), .mov (.tmp 45), none, 0⟩])
        (.block 1 (.seq (.region [⟨(some 47), .mov (.tmp 7), none, 0⟩,
          ⟨(some 48), .un .not (.tmp 47), none, 0⟩,
          ⟨(some 46), .mov (.tmp 48), none, 0⟩])
        (.cond (.tmp 46)
          (.seq (.region [⟨(some 49), .mov (.tmp 0), none, 0⟩,
            ⟨(some 50), .build [.int .i64 0, .int .i64 0] [(0, 1, .const (.int .i64 4))], none, 0⟩,
            ⟨(some 51), .call Id.read_Machine_end [.tmp 49, .tmp 50], none, 0⟩,
            ⟨(some 52), .extract (.tmp 51) 0, none, 0⟩,
            ⟨(some 53), .extract (.tmp 51) 1, none, 0⟩,
            ⟨(some 4), .lstore none 4 0 2 (.tmp 52), none, 0⟩,
            ⟨(some 5), .mov (.tmp 53), none, 0⟩])
          (.ret))
          (.seq (.region [⟨(some 55), .laddr none 6 4, none, 0⟩,
            ⟨(some 56), .lload (some 55) 6 4 none, none, 0⟩,
            ⟨(some 57), .un .not (.tmp 56), none, 0⟩,
            ⟨(some 54), .mov (.tmp 57), none, 0⟩])
          (.cond (.tmp 54)
            (.region [⟨(some 58), .mov (.tmp 0), none, 0⟩,
              ⟨(some 59), .mov (.tmp 0), none, 0⟩,
              ⟨(some 60), .lload none 6 0 (some 6), none, 0⟩,
              ⟨(some 61), .nilchk (.tmp 58), none, 0⟩,
              ⟨(some 62), .faddr 7 (.tmp 61), none, 0⟩,
              ⟨none, .store 6 (.tmp 62) (.tmp 60), none, 0⟩,
              ⟨(some 63), .nilchk (.tmp 59), none, 0⟩,
              ⟨(some 64), .faddr 6 (.tmp 63), none, 0⟩,
              ⟨none, .store 1 (.tmp 64) (.const (.int .i64 2)), none, 0⟩])
            (.skip))))))))
        (.seq (.region [⟨(some 66), .bin .eql (.tmp 28) (.const (.int .i64 2)), none, 0⟩,
          ⟨(some 65), .mov (.tmp 66), none, 0⟩])
        (.cond (.tmp 65)
          (.seq (.region [⟨(some 67), .mov (.tmp 0), none, 0⟩,
            ⟨(some 68), .mov (.tmp 0), none, 0⟩,
            ⟨(some 69), .build [.int .i64 0, .int .i64 0] [], none, 0⟩,
            ⟨(some 70), .nilchk (.tmp 67), none, 0⟩,
            ⟨(some 71), .faddr 13 (.tmp 70), none, 0⟩,
            ⟨none, .store 2 (.tmp 71) (.tmp 69), none, 0⟩,
            ⟨(some 72), .nilchk (.tmp 68), none, 0⟩,
            ⟨(some 73), .faddr 6 (.tmp 72), none, 0⟩,
            ⟨none, .store 1 (.tmp 73) (.const (.int .i64 3)), none, 0⟩])
          (.seq (.region [⟨(some 75), .mov (.tmp 0), none, 0⟩,
            ⟨(some 76), .nilchk (.tmp 75), none, 0⟩,
            ⟨(some 77), .faddr 0 (.tmp 76), none, 0⟩,
            ⟨(some 78), .load (some 2) (.tmp 77), none, 0⟩,
            ⟨(some 79), .mov (.tmp 0), none, 0⟩,
            ⟨(some 80), .nilchk (.tmp 79), none, 0⟩,
            ⟨(some 81), .faddr 2 (.tmp 80), none, 0⟩,
            ⟨(some 82), .load none (.tmp 81), none, 0⟩,
            ⟨(some 83), .call Id.layout_Layout_Size [.tmp 78, .tmp 82], none, 0⟩,
            ⟨(some 74), .mov (.tmp 1), none, 0⟩,
            ⟨(some 84), .mkfn (.method "Load") [.tmp 74] [], none, 0⟩,
            ⟨(some 85), .nilchkm "Load" [(41, Id.cells_Plain_Load)] (.tmp 84), none, 0⟩,
            ⟨(some 86), .mov (.tmp 74), none, 0⟩,
            ⟨(some 87), .invoke [(41, Id.cells_Plain_Load)] (.tmp 86) [.tmp 83], none, 0⟩,
            ⟨(some 8), .mov (.tmp 87), none, 0⟩])
          (.seq (.region [⟨(some 88), .mov (.tmp 0), none, 0⟩,
            ⟨(some 89), .nilchk (.tmp 88), none, 0⟩,
            ⟨(some 90), .faddr 5 (.tmp 89), none, 0⟩,
            ⟨(some 91), .load none (.tmp 90), none, 0⟩,
            ⟨(some 92), .bin .lss (.tmp 91) (.const (.int .i64 0)), none, 0⟩,
            ⟨(some 93), .mov (.tmp 92), none, 0⟩,
            ⟨(some 94), .mov (.tmp 0), (some (93, false)), 0⟩,
            ⟨(some 95), .nilchk (.tmp 94), (some (93, false)), 0⟩,
            ⟨(some 96), .faddr 5 (.tmp 95), (some (93, false)), 0⟩,
            ⟨(some 97), .load none (.tmp 96), (some (93, false)), 0⟩,
            ⟨(some 98), .mov (.tmp 8), (some (93, false)), 0⟩,
            ⟨(some 99), .bin .geq (.tmp 97) (.tmp 98), (some (93, false)), 0⟩,
            ⟨(some 100), .pick (.tmp 93) (.const (.bool true)) (.tmp 99), none, 0⟩])
          (.cond (.tmp 100)
            (.region [⟨(some 101), .mov (.tmp 0), none, 0⟩,
              ⟨(some 102), .mov (.tmp 0), none, 0⟩,
              ⟨(some 103), .build [.int .i64 0, .int .i64 0] [(0, 1, .const (.int .i64 5))], none, 0⟩,
              ⟨(some 104), .nilchk (.tmp 101), none, 0⟩,
              ⟨(some 105), .faddr 13 (.tmp 104), none, 0⟩,
              ⟨none, .store 2 (.tmp 105) (.tmp 103), none, 0⟩,
              ⟨(some 106), .nilchk (.tmp 102), none, 0⟩,
              ⟨(some 107), .faddr 6 (.tmp 106), none, 0⟩,
              ⟨none, .store 1 (.tmp 107) (.const (.int .i64 4)), none, 0⟩])
            (.skip)))))
          (.seq (.region [⟨(some 109), .bin .eql (.tmp 28) (.const (.int .i64 3)), none, 0⟩,
            ⟨(some 108), .mov (.tmp 109), none, 0⟩])
          (.cond (.tmp 108)
            (.region [⟨(some 112), .mov (.tmp 1), none, 0⟩,
              ⟨(some 113), .mov (.tmp 0), none, 0⟩,
              ⟨(some 114), .nilchk (.tmp 113), none, 0⟩,
              ⟨(some 115), .faddr 7 (.tmp 114), none, 0⟩,
              ⟨(some 116), .faddr 0 (.tmp 115), none, 0⟩,
              ⟨(some 117), .load none (.tmp 116), none, 0⟩,
              ⟨(some 118), .mov (.tmp 0), none, 0⟩,
              ⟨(some 119), .nilchk (.tmp 118), none, 0⟩,
              ⟨(some 120), .faddr 5 (.tmp 119), none, 0⟩,
              ⟨(some 121), .load none (.tmp 120), none, 0⟩,
              ⟨(some 122), .bin .add (.tmp 117) (.tmp 121), none, 0⟩,
              ⟨(some 123), .mkfn (.method "Byte") [.tmp 112] [], none, 0⟩,
              ⟨(some 124), .nilchkm "Byte" [(41, Id.cells_Plain_Byte)] (.tmp 123), none, 0⟩,
              ⟨(some 125), .mov (.tmp 112), none, 0⟩,
              ⟨(some 126), .invoke [(41, Id.cells_Plain_Byte)] (.tmp 125) [.tmp 122], none, 0⟩,
              ⟨(some 110), .mov (.tmp 0), none, 0⟩,
              ⟨(some 127), .nilchk (.tmp 110), none, 0⟩,
              ⟨(some 128), .faddr 13 (.tmp 127), none, 0⟩,
              ⟨(some 129), .faddr 1 (.tmp 128), none, 0⟩,
              ⟨none, .store 1 (.tmp 129) (.tmp 126), none, 0⟩,
              ⟨(some 111), .mov (.tmp 0), none, 0⟩,
              ⟨(some 130), .nilchk (.tmp 111), none, 0⟩,
              ⟨(some 131), .faddr 6 (.tmp 130), none, 0⟩,
              ⟨none, .store 1 (.tmp 131) (.const (.int .i64 4)), none, 0⟩])
            (.seq (.region [⟨(some 133), .bin .eql (.tmp 28) (.const (.int .i64 4)), none, 0⟩,
              ⟨(some 132), .mov (.tmp 133), none, 0⟩])
            (.cond (.tmp 132)
              (.seq (.seq (.region [⟨(some 135), .mov (.tmp 0), none, 0⟩,
                ⟨(some 136), .mov (.tmp 1), none, 0⟩,
                ⟨(some 137), .call Id.read_Machine_load [.tmp 135, .tmp 136], none, 0⟩,
                ⟨(some 134), .mov (.tmp 137), none, 0⟩,
                ⟨(some 138), .extract (.tmp 134) 0, none, 0⟩,
                ⟨(some 139), .extract (.tmp 134) 1, none, 0⟩,
                ⟨(some 9), .lbox (.const (.agg #[.int .i64 0, .int .i64 0, .int .i64 0, .int .i64 0, .bool false, .bool false])), none, 0⟩,
                ⟨(some 9), .lstore none 9 0 6 (.tmp 138), none, 0⟩,
                ⟨(some 10), .mov (.tmp 139), none, 0⟩])
              (.seq (.region [⟨(some 140), .mov (.tmp 10), none, 0⟩,
                ⟨(some 141), .mov (.tmp 140), none, 0⟩,
                ⟨(some 142), .laddr none 9 0, (some (141, true)), 0⟩,
                ⟨(some 143), .lload (some 142) 9 0 none, (some (141, true)), 0⟩,
                ⟨(some 144), .mov (.tmp 0), (some (141, true)), 0⟩,
                ⟨(some 145), .nilchk (.tmp 144), (some (141, true)), 0⟩,
                ⟨(some 146), .faddr 7 (.tmp 145), (some (141, true)), 0⟩,
                ⟨(some 147), .faddr 0 (.tmp 146), (some (141, true)), 0⟩,
                ⟨(some 148), .load none (.tmp 147), (some (141, true)), 0⟩,
                ⟨(some 149), .bin .eql (.tmp 143) (.tmp 148), (some (141, true)), 0⟩,
                ⟨(some 150), .pick (.tmp 141) (.tmp 149) (.const (.bool false)), none, 0⟩,
                ⟨(some 151), .mov (.tmp 150), none, 0⟩,
                ⟨(some 152), .laddr none 9 4, (some (151, true)), 0⟩,
                ⟨(some 153), .lload (some 152) 9 4 none, (some (151, true)), 0⟩,
                ⟨(some 154), .un .not (.tmp 153), (some (151, true)), 0⟩,
                ⟨(some 155), .pick (.tmp 151) (.tmp 154) (.const (.bool false)), none, 0⟩])
              (.cond (.tmp 155)
                (.seq (.region [⟨(some 156), .mov (.tmp 0), none, 0⟩,
                  ⟨(some 157), .mov (.tmp 0), none, 0⟩,
                  ⟨(some 158), .nilchk (.tmp 157), none, 0⟩,
                  ⟨(some 159), .faddr 13 (.tmp 158), none, 0⟩,
                  ⟨(some 160), .load (some 2) (.tmp 159), none, 0⟩,
                  ⟨(some 161), .call Id.read_Machine_end [.tmp 156, .tmp 160], none, 0⟩,
                  ⟨(some 162), .extract (.tmp 161) 0, none, 0⟩,
                  ⟨(some 163), .extract (.tmp 161) 1, none, 0⟩,
                  ⟨(some 4), .lstore none 4 0 2 (.tmp 162), none, 0⟩,
                  ⟨(some 5), .mov (.tmp 163), none, 0⟩])
                (.ret))
                (.skip))))
              (.region [⟨(some 164), .mov (.tmp 0), none, 0⟩,
                ⟨(some 165), .nilchk (.tmp 164), none, 0⟩,
                ⟨(some 166), .faddr 6 (.tmp 165), none, 0⟩,
                ⟨none, .store 1 (.tmp 166) (.const (.int .i64 1)), none, 0⟩]))
              (.skip)))))))))))
      (.seq (.region [⟨(some 167), .build [.int .i64 0, .int .i64 0] [], none, 0⟩,
        ⟨(some 4), .lstore none 4 0 2 (.tmp 167), none, 0⟩,
        ⟨(some 5), .mov (.const (.bool false)), none, 0⟩])
      (.ret)))) }

def F.read_Machine_end : IFunc :=
  { lb := [3, 4], scr := false, nargs := 2, res := [.lb 4 (some 2), .tmp 5],
    body := .seq (.region [⟨(some 3), .lbox (.tmp 1), none, 0⟩,
        ⟨(some 4), .lbox (.const (.agg #[.int .i64 0, .int .i64 0])), none, 0⟩,
        ⟨(some 5), .mov (.const (.bool false)), none, 0⟩])
      (.seq (.region [⟨(some 6), .mov (.tmp 0), none, 0⟩,
        ⟨(some 7), .nilchk (.tmp 6), none, 0⟩,
        ⟨(some 8), .faddr 6 (.tmp 7), none, 0⟩,
        ⟨none, .store 1 (.tmp 8) (.const (.int .i64 0)), none, 0⟩])
      (.seq (.region [⟨(some 9), .lload none 3 0 (some 2), none, 0⟩,
        ⟨(some 4), .lstore none 4 0 2 (.tmp 9), none, 0⟩,
        ⟨(some 5), .mov (.const (.bool true)), none, 0⟩])
      (.ret))) }

def F.read_Machine_load : IFunc :=
  { lb := [4, 6], scr := false, nargs := 2, res := [.lb 4 (some 6), .tmp 5],
    body := .seq (.region [⟨(some 4), .lbox (.const (.agg #[.int .i64 0, .int .i64 0, .int .i64 0, .int .i64 0, .bool false, .bool false])), none, 0⟩,
        ⟨(some 5), .mov (.const (.bool false)), none, 0⟩])
      (.seq (.region [⟨(some 10), .mov (.tmp 0), none, 0⟩,
        ⟨(some 11), .nilchk (.tmp 10), none, 0⟩,
        ⟨(some 12), .faddr 0 (.tmp 11), none, 0⟩,
        ⟨(some 13), .load (some 2) (.tmp 12), none, 0⟩,
        ⟨(some 14), .mov (.tmp 0), none, 0⟩,
        ⟨(some 15), .nilchk (.tmp 14), none, 0⟩,
        ⟨(some 16), .faddr 2 (.tmp 15), none, 0⟩,
        ⟨(some 17), .load none (.tmp 16), none, 0⟩,
        ⟨(some 18), .call Id.layout_Layout_Entry [.tmp 13, .tmp 17], none, 0⟩,
        ⟨(some 9), .mov (.tmp 1), none, 0⟩,
        ⟨(some 19), .mkfn (.method "Load") [.tmp 9] [], none, 0⟩,
        ⟨(some 20), .nilchkm "Load" [(41, Id.cells_Plain_Load)] (.tmp 19), none, 0⟩,
        ⟨(some 21), .mov (.tmp 9), none, 0⟩,
        ⟨(some 22), .invoke [(41, Id.cells_Plain_Load)] (.tmp 21) [.tmp 18], none, 0⟩,
        ⟨(some 23), .call Id.entry_Unpack [.tmp 22], none, 0⟩,
        ⟨(some 8), .mov (.tmp 23), none, 0⟩,
        ⟨(some 24), .extract (.tmp 8) 0, none, 0⟩,
        ⟨(some 25), .extract (.tmp 8) 1, none, 0⟩,
        ⟨(some 6), .lbox (.const (.agg #[.int .i64 0, .int .i64 0, .int .i64 0, .int .i64 0, .bool false, .bool false])), none, 0⟩,
        ⟨(some 6), .lstore none 6 0 6 (.tmp 24), none, 0⟩,
        ⟨(some 7), .mov (.tmp 25), none, 0⟩])
      (.seq (.region [⟨(some 26), .lload none 6 0 (some 6), none, 0⟩,
        ⟨(some 27), .mov (.tmp 7), none, 0⟩,
        ⟨(some 28), .bin .eql (.tmp 27) (.const (.int .i64 0)), none, 0⟩,
        ⟨(some 29), .mov (.tmp 28), none, 0⟩,
        ⟨(some 30), .laddr none 6 5, (some (29, true)), 0⟩,
        ⟨(some 31), .lload (some 30) 6 5 none, (some (29, true)), 0⟩,
        ⟨(some 32), .pick (.tmp 29) (.tmp 31) (.const (.bool false)), none, 0⟩,
        ⟨(some 33), .mov (.tmp 32), none, 0⟩,
        ⟨(some 34), .laddr none 6 1, (some (33, true)), 0⟩,
        ⟨(some 35), .lload (some 34) 6 1 none, (some (33, true)), 0⟩,
        ⟨(some 36), .mov (.tmp 0), (some (33, true)), 0⟩,
        ⟨(some 37), .nilchk (.tmp 36), (some (33, true)), 0⟩,
        ⟨(some 38), .faddr 3 (.tmp 37), (some (33, true)), 0⟩,
        ⟨(some 39), .load none (.tmp 38), (some (33, true)), 0⟩,
        ⟨(some 40), .bin .eql (.tmp 35) (.tmp 39), (some (33, true)), 0⟩,
        ⟨(some 41), .pick (.tmp 33) (.tmp 40) (.const (.bool false)), none, 0⟩,
        ⟨(some 4), .lstore none 4 0 6 (.tmp 26), none, 0⟩,
        ⟨(some 5), .mov (.tmp 41), none, 0⟩])
      (.ret))) }

def F.write_Machine_Step : IFunc :=
  { lb := [4], scr := false, nargs := 2, res := [.lb 4 (some 2), .tmp 5],
    body := .seq (.region [⟨(some 4), .lbox (.const (.agg #[.int .i64 0, .int .i64 0])), none, 0⟩,
        ⟨(some 5), .mov (.const (.bool false)), none, 0⟩])
      (.seq (.seq (.region [⟨(some 7), .mov (.tmp 0), none, 0⟩,
        ⟨(some 8), .eqv false (.nil 0) (.tmp 7) (.const (.pointer none)), none, 0⟩,
        ⟨(some 9), .mov (.tmp 8), none, 0⟩,
        ⟨(some 10), .mov (.tmp 1), (some (9, false)), 0⟩,
        ⟨(some 11), .eqv false (.nil 4) (.tmp 10) (.const (.nilIface)), (some (9, false)), 0⟩,
        ⟨(some 12), .pick (.tmp 9) (.const (.bool true)) (.tmp 11), none, 0⟩,
        ⟨(some 13), .mov (.tmp 12), none, 0⟩,
        ⟨(some 14), .mov (.tmp 0), (some (13, false)), 0⟩,
        ⟨(some 15), .nilchk (.tmp 14), (some (13, false)), 0⟩,
        ⟨(some 16), .faddr 7 (.tmp 15), (some (13, false)), 0⟩,
        ⟨(some 17), .load none (.tmp 16), (some (13, false)), 0⟩,
        ⟨(some 18), .bin .eql (.tmp 17) (.const (.int .i64 0)), (some (13, false)), 0⟩,
        ⟨(some 19), .pick (.tmp 13) (.const (.bool true)) (.tmp 18), none, 0⟩])
      (.cond (.tmp 19)
        (.seq (.region [⟨(some 20), .build [.int .i64 0, .int .i64 0] [(0, 1, .const (.int .i64 1))], none, 0⟩,
          ⟨(some 4), .lstore none 4 0 2 (.tmp 20), none, 0⟩,
          ⟨(some 5), .mov (.const (.bool true)), none, 0⟩])
        (.ret))
        (.skip)))
      (.seq (.seq (.region [⟨(some 21), .mov (.tmp 0), none, 0⟩,
        ⟨(some 22), .nilchk (.tmp 21), none, 0⟩,
        ⟨(some 23), .faddr 7 (.tmp 22), none, 0⟩,
        ⟨(some 24), .load none (.tmp 23), none, 0⟩])
      (.block 0 (.seq (.region [⟨(some 26), .bin .eql (.tmp 24) (.const (.int .i64 1)), none, 0⟩,
        ⟨(some 25), .mov (.tmp 26), none, 0⟩])
      (.cond (.tmp 25)
        (.seq (.region [⟨(some 27), .mov (.tmp 0), none, 0⟩,
          ⟨(some 28), .mov (.tmp 1), none, 0⟩,
          ⟨(some 29), .call Id.write_Machine_look [.tmp 27, .tmp 28], none, 0⟩])
        (.cond (.tmp 29)
          (.seq (.region [⟨(some 30), .mov (.tmp 0), none, 0⟩,
            ⟨(some 31), .call Id.write_Machine_end [.tmp 30, .const (.int .i64 4)], none, 0⟩,
            ⟨(some 32), .extract (.tmp 31) 0, none, 0⟩,
            ⟨(some 33), .extract (.tmp 31) 1, none, 0⟩,
            ⟨(some 4), .lstore none 4 0 2 (.tmp 32), none, 0⟩,
            ⟨(some 5), .mov (.tmp 33), none, 0⟩])
          (.ret))
          (.skip)))
        (.seq (.region [⟨(some 35), .bin .eql (.tmp 24) (.const (.int .i64 2)), none, 0⟩,
          ⟨(some 34), .mov (.tmp 35), none, 0⟩])
        (.cond (.tmp 34)
          (.region [⟨(some 36), .mov (.tmp 0), none, 0⟩,
            ⟨(some 37), .mov (.tmp 1), none, 0⟩,
            ⟨(some 38), .call Id.write_Machine_guard [.tmp 36, .tmp 37], none, 0⟩])
          (.seq (.region [⟨(some 40), .bin .eql (.tmp 24) (.const (.int .i64 3)), none, 0⟩,
            ⟨(some 39), .mov (.tmp 40), none, 0⟩])
          (.cond (.tmp 39)
            (.seq (.region [⟨(some 41), .mov (.tmp 0), none, 0⟩,
              ⟨(some 42), .nilchk (.tmp 41), none, 0⟩,
              ⟨(some 43), .faddr 7 (.tmp 42), none, 0⟩,
              ⟨none, .store 1 (.tmp 43) (.const (.int .i64 4)), none, 0⟩])
            (.seq (.region [⟨(some 45), .mov (.tmp 0), none, 0⟩,
              ⟨(some 46), .nilchk (.tmp 45), none, 0⟩,
              ⟨(some 47), .faddr 0 (.tmp 46), none, 0⟩,
              ⟨(some 48), .load (some 2) (.tmp 47), none, 0⟩,
              ⟨(some 49), .mov (.tmp 0), none, 0⟩,
              ⟨(some 50), .nilchk (.tmp 49), none, 0⟩,
              ⟨(some 51), .faddr 2 (.tmp 50), none, 0⟩,
              ⟨(some 52), .load none (.tmp 51), none, 0⟩,
              ⟨(some 53), .call Id.layout_Layout_Size [.tmp 48, .tmp 52], none, 0⟩,
              ⟨(some 44), .mov (.tmp 1), none, 0⟩,
              ⟨(some 54), .mkfn (.method "Load") [.tmp 44] [], none, 0⟩,
              ⟨(some 55), .nilchkm "Load" [(41, Id.cells_Plain_Load)] (.tmp 54), none, 0⟩,
              ⟨(some 56), .mov (.tmp 44), none, 0⟩,
              ⟨(some 57), .invoke [(41, Id.cells_Plain_Load)] (.tmp 56) [.tmp 53], none, 0⟩,
              ⟨(some 6), .mov (.tmp 57), none, 0⟩])
            (.seq (.region [⟨(some 58), .mov (.tmp 0), none, 0⟩,
              ⟨(some 59), .nilchk (.tmp 58), none, 0⟩,
              ⟨(some 60), .faddr 5 (.tmp 59), none, 0⟩,
              ⟨(some 61), .load none (.tmp 60), none, 0⟩,
              ⟨(some 62), .bin .lss (.tmp 61) (.const (.int .i64 0)), none, 0⟩,
              ⟨(some 63), .mov (.tmp 62), none, 0⟩,
              ⟨(some 64), .mov (.tmp 0), (some (63, false)), 0⟩,
              ⟨(some 65), .nilchk (.tmp 64), (some (63, false)), 0⟩,
              ⟨(some 66), .faddr 5 (.tmp 65), (some (63, false)), 0⟩,
              ⟨(some 67), .load none (.tmp 66), (some (63, false)), 0⟩,
              ⟨(some 68), .mov (.tmp 6), (some (63, false)), 0⟩,
              ⟨(some 69), .bin .geq (.tmp 67) (.tmp 68), (some (63, false)), 0⟩,
              ⟨(some 70), .pick (.tmp 63) (.const (.bool true)) (.tmp 69), none, 0⟩])
            (.cond (.tmp 70)
              (.region [⟨(some 71), .mov (.tmp 0), none, 0⟩,
                ⟨(some 72), .mov (.tmp 0), none, 0⟩,
                ⟨(some 73), .nilchk (.tmp 71), none, 0⟩,
                ⟨(some 74), .faddr 10 (.tmp 73), none, 0⟩,
                ⟨none, .store 1 (.tmp 74) (.const (.int .i64 5)), none, 0⟩,
                ⟨(some 75), .nilchk (.tmp 72), none, 0⟩,
                ⟨(some 76), .faddr 7 (.tmp 75), none, 0⟩,
                ⟨none, .store 1 (.tmp 76) (.const (.int .i64 5)), none, 0⟩])
              (.skip)))))
            (.seq (.region [⟨(some 78), .bin .eql (.tmp 24) (.const (.int .i64 4)), none, 0⟩,
              ⟨(some 77), .mov (.tmp 78), none, 0⟩])
            (.cond (.tmp 77)
              (.seq (.region [⟨(some 79), .mov (.tmp 1), none, 0⟩,
                ⟨(some 80), .mov (.tmp 0), none, 0⟩,
                ⟨(some 81), .nilchk (.tmp 80), none, 0⟩,
                ⟨(some 82), .faddr 9 (.tmp 81), none, 0⟩,
                ⟨(some 83), .load none (.tmp 82), none, 0⟩,
                ⟨(some 84), .mov (.tmp 0), none, 0⟩,
                ⟨(some 85), .nilchk (.tmp 84), none, 0⟩,
                ⟨(some 86), .faddr 5 (.tmp 85), none, 0⟩,
                ⟨(some 87), .load none (.tmp 86), none, 0⟩,
                ⟨(some 88), .bin .add (.tmp 83) (.tmp 87), none, 0⟩,
                ⟨(some 89), .mov (.tmp 0), none, 0⟩,
                ⟨(some 90), .nilchk (.tmp 89), none, 0⟩,
                ⟨(some 91), .faddr 6 (.tmp 90), none, 0⟩,
                ⟨(some 92), .load none (.tmp 91), none, 0⟩,
                ⟨(some 93), .mkfn (.method "SetByte") [.tmp 79] [], none, 0⟩,
                ⟨(some 94), .nilchkm "SetByte" [(41, Id.cells_Plain_SetByte)] (.tmp 93), none, 0⟩,
                ⟨(some 95), .mov (.tmp 79), none, 0⟩,
                ⟨(some 96), .invoke [(41, Id.cells_Plain_SetByte)] (.tmp 95) [.tmp 88, .tmp 92], none, 0⟩])
              (.region [⟨(some 97), .mov (.tmp 0), none, 0⟩,
                ⟨(some 98), .nilchk (.tmp 97), none, 0⟩,
                ⟨(some 99), .faddr 7 (.tmp 98), none, 0⟩,
                ⟨none, .store 1 (.tmp 99) (.const (.int .i64 5)), none, 0⟩]))
              (.seq (.region [⟨(some 101), .bin .eql (.tmp 24) (.const (.int .i64 5)), none, 0⟩,
                ⟨(some 100), .mov (.tmp 101), none, 0⟩])
              (.cond (.tmp 100)
                (.seq (.region [⟨(some 102), .mov (.tmp 0), none, 0⟩,
                  ⟨(some 103), .mov (.tmp 1), none, 0⟩,
                  ⟨(some 104), .call Id.write_Machine_load [.tmp 102, .tmp 103], none, 0⟩])
                (.region [⟨(some 105), .mov (.tmp 0), none, 0⟩,
                  ⟨(some 106), .nilchk (.tmp 105), none, 0⟩,
                  ⟨(some 107), .faddr 7 (.tmp 106), none, 0⟩,
                  ⟨none, .store 1 (.tmp 107) (.const (.int .i64 6)), none, 0⟩]))
                (.seq (.region [⟨(some 109), .bin .eql (.tmp 24) (.const (.int .i64 6)), none, 0⟩,
                  ⟨(some 108), .mov (.tmp 109), none, 0⟩])
                (.cond (.tmp 108)
                  (.seq (.region [⟨(some 110), .mov (.tmp 0), none, 0⟩,
                    ⟨(some 111), .mov (.tmp 1), none, 0⟩,
                    ⟨(some 112), .call Id.write_Machine_leave [.tmp 110, .tmp 111], none, 0⟩])
                  (.cond (.tmp 112)
                    (.seq (.region [⟨(some 113), .mov (.tmp 0), none, 0⟩,
                      ⟨(some 114), .mov (.tmp 0), none, 0⟩,
                      ⟨(some 115), .nilchk (.tmp 114), none, 0⟩,
                      ⟨(some 116), .faddr 10 (.tmp 115), none, 0⟩,
                      ⟨(some 117), .load none (.tmp 116), none, 0⟩,
                      ⟨(some 118), .call Id.write_Machine_end [.tmp 113, .tmp 117], none, 0⟩,
                      ⟨(some 119), .extract (.tmp 118) 0, none, 0⟩,
                      ⟨(some 120), .extract (.tmp 118) 1, none, 0⟩,
                      ⟨(some 4), .lstore none 4 0 2 (.tmp 119), none, 0⟩,
                      ⟨(some 5), .mov (.tmp 120), none, 0⟩])
                    (.ret))
                    (.skip)))
                  (.skip)))))))))))))))
      (.seq (.region [⟨(some 121), .build [.int .i64 0, .int .i64 0] [], none, 0⟩,
        ⟨(some 4), .lstore none 4 0 2 (.tmp 121), none, 0⟩,
        ⟨(some 5), .mov (.const (.bool false)), none, 0⟩])
      (.ret)))) }

def F.write_Machine_look : IFunc :=
  { lb := [5], scr := false, nargs := 2, res := [.tmp 4],
    body := .seq (.region [⟨(some 4), .mov (.const (.bool false)), none, 0⟩])
      (.seq (.seq (.region [⟨(some 7), .mov (.tmp 0), none, 0⟩,
        ⟨(some 8), .nilchk (.tmp 7), none, 0⟩,
        ⟨(some 9), .faddr 4 (.tmp 8), none, 0⟩,
        ⟨(some 10), .load none (.tmp 9), none, 0⟩])
      (.cond (.tmp 10)
        (.seq (.region [⟨(some 4), .mov (.const (.bool true)), none, 0⟩])
        (.ret))
        (.skip)))
      (.seq (.region [⟨(some 11), .mov (.tmp 0), none, 0⟩,
        ⟨(some 12), .mov (.tmp 1), none, 0⟩,
        ⟨(some 13), .call Id.write_Machine_load [.tmp 11, .tmp 12], none, 0⟩])
      (.seq (.region [⟨(some 15), .mov (.tmp 0), none, 0⟩,
        ⟨(some 16), .nilchk (.tmp 15), none, 0⟩,
        ⟨(some 17), .faddr 8 (.tmp 16), none, 0⟩,
        ⟨(some 18), .load none (.tmp 17), none, 0⟩,
        ⟨(some 19), .call Id.entry_Unpack [.tmp 18], none, 0⟩,
        ⟨(some 14), .mov (.tmp 19), none, 0⟩,
        ⟨(some 20), .extract (.tmp 14) 0, none, 0⟩,
        ⟨(some 21), .extract (.tmp 14) 1, none, 0⟩,
        ⟨(some 5), .lbox (.const (.agg #[.int .i64 0, .int .i64 0, .int .i64 0, .int .i64 0, .bool false, .bool false])), none, 0⟩,
        ⟨(some 5), .lstore none 5 0 6 (.tmp 20), none, 0⟩,
        ⟨(some 6), .mov (.tmp 21), none, 0⟩])
      (.seq (.block 0 (.seq (.region [⟨(some 23), .mov (.tmp 6), none, 0⟩,
        ⟨(some 24), .bin .neq (.tmp 23) (.const (.int .i64 0)), none, 0⟩,
        ⟨(some 25), .mov (.tmp 24), none, 0⟩,
        ⟨(some 26), .laddr none 5 5, (some (25, false)), 0⟩,
        ⟨(some 27), .lload (some 26) 5 5 none, (some (25, false)), 0⟩,
        ⟨(some 28), .un .not (.tmp 27), (some (25, false)), 0⟩,
        ⟨(some 29), .pick (.tmp 25) (.const (.bool true)) (.tmp 28), none, 0⟩,
        ⟨(some 30), .mov (.tmp 29), none, 0⟩,
        ⟨(some 31), .laddr none 5 1, (some (30, false)), 0⟩,
        ⟨(some 32), .lload (some 31) 5 1 none, (some (30, false)), 0⟩,
        ⟨(some 33), .mov (.tmp 0), (some (30, false)), 0⟩,
        ⟨(some 34), .nilchk (.tmp 33), (some (30, false)), 0⟩,
        ⟨(some 35), .faddr 3 (.tmp 34), (some (30, false)), 0⟩,
        ⟨(some 36), .load none (.tmp 35), (some (30, false)), 0⟩,
        ⟨(some 37), .bin .neq (.tmp 32) (.tmp 36), (some (30, false)), 0⟩,
        ⟨(some 38), .pick (.tmp 30) (.const (.bool true)) (.tmp 37), none, 0⟩,
        ⟨(some 22), .mov (.tmp 38), none, 0⟩])
      (.cond (.tmp 22)
        (.seq (.region [⟨(some 4), .mov (.const (.bool true)), none, 0⟩])
        (.ret))
        (.seq (.region [⟨(some 40), .laddr none 5 4, none, 0⟩,
          ⟨(some 41), .lload (some 40) 5 4 none, none, 0⟩,
          ⟨(some 42), .un .not (.tmp 41), none, 0⟩,
          ⟨(some 43), .mov (.tmp 42), none, 0⟩,
          ⟨(some 44), .laddr none 5 3, (some (43, true)), 0⟩,
          ⟨(some 45), .lload (some 44) 5 3 none, (some (43, true)), 0⟩,
          ⟨(some 46), .bin .lss (.tmp 45) (.const (.int .i64 15)), (some (43, true)), 0⟩,
          ⟨(some 47), .pick (.tmp 43) (.tmp 46) (.const (.bool false)), none, 0⟩,
          ⟨(some 39), .mov (.tmp 47), none, 0⟩])
        (.cond (.tmp 39)
          (.region [⟨(some 48), .mov (.tmp 0), none, 0⟩,
            ⟨(some 49), .mov (.tmp 0), none, 0⟩,
            ⟨(some 50), .laddr none 5 0, none, 0⟩,
            ⟨(some 51), .lload (some 50) 5 0 none, none, 0⟩,
            ⟨(some 52), .nilchk (.tmp 48), none, 0⟩,
            ⟨(some 53), .faddr 9 (.tmp 52), none, 0⟩,
            ⟨none, .store 1 (.tmp 53) (.tmp 51), none, 0⟩,
            ⟨(some 54), .nilchk (.tmp 49), none, 0⟩,
            ⟨(some 55), .faddr 7 (.tmp 54), none, 0⟩,
            ⟨none, .store 1 (.tmp 55) (.const (.int .i64 2)), none, 0⟩])
          (.skip))))))
      (.seq (.region [⟨(some 4), .mov (.const (.bool false)), none, 0⟩])
      (.ret)))))) }

def F.write_Machine_end : IFunc :=
  { lb := [4], scr := false, nargs := 2, res := [.lb 4 (some 2), .tmp 5],
    body := .seq (.region [⟨(some 4), .lbox (.const (.agg #[.int .i64 0, .int .i64 0])), none, 0⟩,
        ⟨(some 5), .mov (.const (.bool false)), none, 0⟩])
      (.seq (.region [⟨(some 6), .mov (.tmp 0), none, 0⟩,
        ⟨(some 7), .mov (.tmp 0), none, 0⟩,
        ⟨(some 8), .nilchk (.tmp 6), none, 0⟩,
        ⟨(some 9), .faddr 7 (.tmp 8), none, 0⟩,
        ⟨none, .store 1 (.tmp 9) (.const (.int .i64 0)), none, 0⟩,
        ⟨(some 10), .nilchk (.tmp 7), none, 0⟩,
        ⟨(some 11), .faddr 11 (.tmp 10), none, 0⟩,
        ⟨none, .store 1 (.tmp 11) (.const (.bool false)), none, 0⟩])
      (.seq (.region [⟨(some 12), .mov (.tmp 1), none, 0⟩,
        ⟨(some 13), .build [.int .i64 0, .int .i64 0] [(0, 1, .tmp 12)], none, 0⟩,
        ⟨(some 4), .lstore none 4 0 2 (.tmp 13), none, 0⟩,
        ⟨(some 5), .mov (.const (.bool true)), none, 0⟩])
      (.ret))) }

def F.write_Machine_guard : IFunc :=
  { lb := [], scr := false, nargs := 2, res := [],
    body := .seq (.region [⟨(some 6), .mov (.tmp 0), none, 0⟩,
        ⟨(some 7), .nilchk (.tmp 6), none, 0⟩,
        ⟨(some 8), .faddr 7 (.tmp 7), none, 0⟩,
        ⟨none, .store 1 (.tmp 8) (.const (.int .i64 1)), none, 0⟩])
      (.seq (.region [⟨(some 10), .mov (.tmp 0), none, 0⟩,
        ⟨(some 11), .nilchk (.tmp 10), none, 0⟩,
        ⟨(some 12), .faddr 8 (.tmp 11), none, 0⟩,
        ⟨(some 13), .load none (.tmp 12), none, 0⟩,
        ⟨(some 14), .call Id.entry_Guard [.tmp 13, .const (.int .i64 1)], none, 0⟩,
        ⟨(some 9), .mov (.tmp 14), none, 0⟩,
        ⟨(some 15), .extract (.tmp 9) 0, none, 0⟩,
        ⟨(some 16), .extract (.tmp 9) 1, none, 0⟩,
        ⟨(some 4), .mov (.tmp 15), none, 0⟩,
        ⟨(some 5), .mov (.tmp 16), none, 0⟩])
      (.seq (.region [⟨(some 17), .mov (.tmp 0), none, 0⟩,
        ⟨(some 18), .mov (.tmp 1), none, 0⟩,
        ⟨(some 19), .mov (.tmp 4), none, 0⟩,
        ⟨(some 20), .call Id.write_Machine_swap [.tmp 17, .tmp 18, .tmp 19], none, 0⟩])
      (.cond (.tmp 20)
        (.region [⟨(some 21), .mov (.tmp 0), none, 0⟩,
          ⟨(some 22), .mov (.tmp 0), none, 0⟩,
          ⟨(some 23), .nilchk (.tmp 21), none, 0⟩,
          ⟨(some 24), .faddr 11 (.tmp 23), none, 0⟩,
          ⟨none, .store 1 (.tmp 24) (.const (.bool true)), none, 0⟩,
          ⟨(some 25), .nilchk (.tmp 22), none, 0⟩,
          ⟨(some 26), .faddr 7 (.tmp 25), none, 0⟩,
          ⟨none, .store 1 (.tmp 26) (.const (.int .i64 3)), none, 0⟩])
        (.skip)))) }

def F.write_Machine_load : IFunc :=
  { lb := [], scr := false, nargs := 2, res := [],
    body := .region [⟨(some 6), .mov (.tmp 0), none, 0⟩,
        ⟨(some 7), .nilchk (.tmp 6), none, 0⟩,
        ⟨(some 8), .faddr 0 (.tmp 7), none, 0⟩,
        ⟨(some 9), .load (some 2) (.tmp 8), none, 0⟩,
        ⟨(some 10), .mov (.tmp 0), none, 0⟩,
        ⟨(some 11), .nilchk (.tmp 10), none, 0⟩,
        ⟨(some 12), .faddr 2 (.tmp 11), none, 0⟩,
        ⟨(some 13), .load none (.tmp 12), none, 0⟩,
        ⟨(some 14), .call Id.layout_Layout_Entry [.tmp 9, .tmp 13], none, 0⟩,
        ⟨(some 5), .mov (.tmp 1), none, 0⟩,
        ⟨(some 15), .mkfn (.method "Load") [.tmp 5] [], none, 0⟩,
        ⟨(some 16), .nilchkm "Load" [(41, Id.cells_Plain_Load)] (.tmp 15), none, 0⟩,
        ⟨(some 17), .mov (.tmp 5), none, 0⟩,
        ⟨(some 18), .invoke [(41, Id.cells_Plain_Load)] (.tmp 17) [.tmp 14], none, 0⟩,
        ⟨(some 4), .mov (.tmp 0), none, 0⟩,
        ⟨(some 19), .nilchk (.tmp 4), none, 0⟩,
        ⟨(some 20), .faddr 8 (.tmp 19), none, 0⟩,
        ⟨none, .store 1 (.tmp 20) (.tmp 18), none, 0⟩] }

def F.write_Machine_leave : IFunc :=
  { lb := [], scr := false, nargs := 2, res := [.tmp 4],
    body := .seq (.region [⟨(some 4), .mov (.const (.bool false)), none, 0⟩])
      (.seq (.region [⟨(some 8), .mov (.tmp 0), none, 0⟩,
        ⟨(some 9), .nilchk (.tmp 8), none, 0⟩,
        ⟨(some 10), .faddr 8 (.tmp 9), none, 0⟩,
        ⟨(some 11), .load none (.tmp 10), none, 0⟩,
        ⟨(some 12), .call Id.entry_Guard [.tmp 11, .const (.int .i64 (-1))], none, 0⟩,
        ⟨(some 7), .mov (.tmp 12), none, 0⟩,
        ⟨(some 13), .extract (.tmp 7) 0, none, 0⟩,
        ⟨(some 14), .extract (.tmp 7) 1, none, 0⟩,
        ⟨(some 5), .mov (.tmp 13), none, 0⟩,
        ⟨(some 6), .mov (.tmp 14), none, 0⟩])
      (.seq (.seq (.region [⟨(some 15), .mov (.tmp 6), none, 0⟩,
        ⟨(some 16), .bin .neq (.tmp 15) (.const (.int .i64 0)), none, 0⟩,
        ⟨(some 17), .mov (.tmp 16), none, 0⟩,
        ⟨(some 18), .mov (.tmp 0), (some (17, false)), 0⟩,
        ⟨(some 19), .mov (.tmp 1), (some (17, false)), 0⟩,
        ⟨(some 20), .mov (.tmp 5), (some (17, false)), 0⟩,
        ⟨(some 21), .call Id.write_Machine_swap [.tmp 18, .tmp 19, .tmp 20], (some (17, false)), 0⟩,
        ⟨(some 22), .pick (.tmp 17) (.const (.bool true)) (.tmp 21), none, 0⟩])
      (.cond (.tmp 22)
        (.seq (.region [⟨(some 4), .mov (.const (.bool true)), none, 0⟩])
        (.ret))
        (.skip)))
      (.seq (.region [⟨(some 23), .mov (.tmp 0), none, 0⟩,
        ⟨(some 24), .nilchk (.tmp 23), none, 0⟩,
        ⟨(some 25), .faddr 7 (.tmp 24), none, 0⟩,
        ⟨none, .store 1 (.tmp 25) (.const (.int .i64 5)), none, 0⟩])
      (.seq (.region [⟨(some 4), .mov (.const (.bool false)), none, 0⟩])
      (.ret))))) }

def F.entry_Guard : IFunc :=
  { lb := [], scr := false, nargs := 2, res := [.tmp 4, .tmp 5],
    body := .seq (.region [⟨(some 3), .box (.tmp 1), none, 0⟩,
        ⟨(some 4), .mov (.const (.int .i64 0)), none, 0⟩,
        ⟨(some 5), .mov (.const (.int .i64 0)), none, 0⟩])
      (.seq (.region [⟨(some 6), .mov (.tmp 0), none, 0⟩,
        ⟨(some 7), .mkfn (.func Id.entry_Guard_1) [] [.tmp 3], none, 0⟩,
        ⟨(some 8), .call Id.entry_changed [.tmp 6, .tmp 7], none, 0⟩,
        ⟨(some 9), .extract (.tmp 8) 0, none, 0⟩,
        ⟨(some 10), .extract (.tmp 8) 1, none, 0⟩,
        ⟨(some 4), .mov (.tmp 9), none, 0⟩,
        ⟨(some 5), .mov (.tmp 10), none, 0⟩])
      (.ret)) }

def F.write_Machine_swap : IFunc :=
  { lb := [], scr := false, nargs := 3, res := [.tmp 6],
    body := .seq (.region [⟨(some 6), .mov (.const (.bool false)), none, 0⟩])
      (.seq (.region [⟨(some 8), .mov (.tmp 0), none, 0⟩,
        ⟨(some 9), .nilchk (.tmp 8), none, 0⟩,
        ⟨(some 10), .faddr 0 (.tmp 9), none, 0⟩,
        ⟨(some 11), .load (some 2) (.tmp 10), none, 0⟩,
        ⟨(some 12), .mov (.tmp 0), none, 0⟩,
        ⟨(some 13), .nilchk (.tmp 12), none, 0⟩,
        ⟨(some 14), .faddr 2 (.tmp 13), none, 0⟩,
        ⟨(some 15), .load none (.tmp 14), none, 0⟩,
        ⟨(some 16), .call Id.layout_Layout_Entry [.tmp 11, .tmp 15], none, 0⟩,
        ⟨(some 7), .mov (.tmp 1), none, 0⟩,
        ⟨(some 17), .mov (.tmp 0), none, 0⟩,
        ⟨(some 18), .nilchk (.tmp 17), none, 0⟩,
        ⟨(some 19), .faddr 8 (.tmp 18), none, 0⟩,
        ⟨(some 20), .load none (.tmp 19), none, 1⟩,
        ⟨(some 21), .mov (.tmp 2), none, 0⟩,
        ⟨(some 22), .mkfn (.method "Cas") [.tmp 7] [], none, 0⟩,
        ⟨(some 23), .nilchkm "Cas" [(41, Id.cells_Plain_Cas)] (.tmp 22), none, 0⟩,
        ⟨(some 24), .mov (.tmp 7), none, 0⟩,
        ⟨(some 25), .invoke [(41, Id.cells_Plain_Cas)] (.tmp 24) [.tmp 16, .tmp 20, .tmp 21], none, 0⟩,
        ⟨(some 6), .mov (.tmp 25), none, 0⟩])
      (.ret)) }

def F.entry_Guard_1 : IFunc :=
  { lb := [], scr := false, nargs := 2, res := [.tmp 3],
    body := .seq (.region [⟨(some 3), .mov (.const (.int .i64 0)), none, 0⟩])
      (.seq (.seq (.region [⟨(some 4), .load none (.tmp 1), none, 0⟩,
        ⟨(some 5), .bin .lss (.tmp 4) (.const (.int .i64 (-15))), none, 0⟩,
        ⟨(some 6), .mov (.tmp 5), none, 0⟩,
        ⟨(some 7), .load none (.tmp 1), (some (6, false)), 0⟩,
        ⟨(some 8), .bin .gtr (.tmp 7) (.const (.int .i64 15)), (some (6, false)), 0⟩,
        ⟨(some 9), .pick (.tmp 6) (.const (.bool true)) (.tmp 8), none, 0⟩])
      (.cond (.tmp 9)
        (.seq (.region [⟨(some 3), .mov (.const (.int .i64 1)), none, 0⟩])
        (.ret))
        (.skip)))
      (.seq (.region [⟨(some 10), .mov (.tmp 0), none, 0⟩,
        ⟨(some 11), .nilchk (.tmp 10), none, 0⟩,
        ⟨(some 12), .faddr 3 (.tmp 11), none, 0⟩,
        ⟨(some 13), .load none (.tmp 12), none, 0⟩,
        ⟨(some 14), .load none (.tmp 1), none, 0⟩,
        ⟨(some 15), .bin .add (.tmp 13) (.tmp 14), none, 0⟩,
        ⟨(some 16), .nilchk (.tmp 10), none, 0⟩,
        ⟨(some 17), .faddr 3 (.tmp 16), none, 0⟩,
        ⟨none, .store 1 (.tmp 17) (.tmp 15), none, 0⟩])
      (.seq (.region [⟨(some 3), .mov (.const (.int .i64 0)), none, 0⟩])
      (.ret)))) }

def F.pin_Machine_Step : IFunc :=
  { lb := [4], scr := false, nargs := 2, res := [.lb 4 (some 2), .tmp 5],
    body := .seq (.region [⟨(some 4), .lbox (.const (.agg #[.int .i64 0, .int .i64 0])), none, 0⟩,
        ⟨(some 5), .mov (.const (.bool false)), none, 0⟩])
      (.seq (.seq (.region [⟨(some 6), .mov (.tmp 0), none, 0⟩,
        ⟨(some 7), .eqv false (.nil 0) (.tmp 6) (.const (.pointer none)), none, 0⟩,
        ⟨(some 8), .mov (.tmp 7), none, 0⟩,
        ⟨(some 9), .mov (.tmp 1), (some (8, false)), 0⟩,
        ⟨(some 10), .eqv false (.nil 4) (.tmp 9) (.const (.nilIface)), (some (8, false)), 0⟩,
        ⟨(some 11), .pick (.tmp 8) (.const (.bool true)) (.tmp 10), none, 0⟩,
        ⟨(some 12), .mov (.tmp 11), none, 0⟩,
        ⟨(some 13), .mov (.tmp 0), (some (12, false)), 0⟩,
        ⟨(some 14), .nilchk (.tmp 13), (some (12, false)), 0⟩,
        ⟨(some 15), .faddr 7 (.tmp 14), (some (12, false)), 0⟩,
        ⟨(some 16), .load none (.tmp 15), (some (12, false)), 0⟩,
        ⟨(some 17), .bin .eql (.tmp 16) (.const (.int .i64 0)), (some (12, false)), 0⟩,
        ⟨(some 18), .pick (.tmp 12) (.const (.bool true)) (.tmp 17), none, 0⟩])
      (.cond (.tmp 18)
        (.seq (.region [⟨(some 19), .build [.int .i64 0, .int .i64 0] [(0, 1, .const (.int .i64 1))], none, 0⟩,
          ⟨(some 4), .lstore none 4 0 2 (.tmp 19), none, 0⟩,
          ⟨(some 5), .mov (.const (.bool true)), none, 0⟩])
        (.ret))
        (.skip)))
      (.seq (.seq (.region [⟨(some 20), .mov (.tmp 0), none, 0⟩,
        ⟨(some 21), .nilchk (.tmp 20), none, 0⟩,
        ⟨(some 22), .faddr 7 (.tmp 21), none, 0⟩,
        ⟨(some 23), .load none (.tmp 22), none, 0⟩,
        ⟨(some 24), .bin .eql (.tmp 23) (.const (.int .i64 1)), none, 0⟩])
      (.cond (.tmp 24)
        (.seq (.region [⟨(some 25), .mov (.tmp 0), none, 0⟩,
          ⟨(some 26), .mov (.tmp 1), none, 0⟩,
          ⟨(some 27), .call Id.pin_Machine_look [.tmp 25, .tmp 26], none, 0⟩,
          ⟨(some 28), .extract (.tmp 27) 0, none, 0⟩,
          ⟨(some 29), .extract (.tmp 27) 1, none, 0⟩,
          ⟨(some 4), .lstore none 4 0 2 (.tmp 28), none, 0⟩,
          ⟨(some 5), .mov (.tmp 29), none, 0⟩])
        (.ret))
        (.skip)))
      (.seq (.seq (.region [⟨(some 31), .mov (.tmp 0), none, 0⟩,
        ⟨(some 32), .nilchk (.tmp 31), none, 0⟩,
        ⟨(some 33), .faddr 0 (.tmp 32), none, 0⟩,
        ⟨(some 34), .load (some 2) (.tmp 33), none, 0⟩,
        ⟨(some 35), .mov (.tmp 0), none, 0⟩,
        ⟨(some 36), .nilchk (.tmp 35), none, 0⟩,
        ⟨(some 37), .faddr 2 (.tmp 36), none, 0⟩,
        ⟨(some 38), .load none (.tmp 37), none, 0⟩,
        ⟨(some 39), .call Id.layout_Layout_Entry [.tmp 34, .tmp 38], none, 0⟩,
        ⟨(some 30), .mov (.tmp 1), none, 0⟩,
        ⟨(some 40), .mov (.tmp 0), none, 0⟩,
        ⟨(some 41), .nilchk (.tmp 40), none, 0⟩,
        ⟨(some 42), .faddr 8 (.tmp 41), none, 0⟩,
        ⟨(some 43), .load none (.tmp 42), none, 1⟩,
        ⟨(some 44), .mov (.tmp 0), none, 0⟩,
        ⟨(some 45), .nilchk (.tmp 44), none, 0⟩,
        ⟨(some 46), .faddr 9 (.tmp 45), none, 0⟩,
        ⟨(some 47), .load none (.tmp 46), none, 1⟩,
        ⟨(some 48), .mkfn (.method "Cas") [.tmp 30] [], none, 0⟩,
        ⟨(some 49), .nilchkm "Cas" [(41, Id.cells_Plain_Cas)] (.tmp 48), none, 0⟩,
        ⟨(some 50), .mov (.tmp 30), none, 0⟩,
        ⟨(some 51), .invoke [(41, Id.cells_Plain_Cas)] (.tmp 50) [.tmp 39, .tmp 43, .tmp 47], none, 0⟩])
      (.cond (.tmp 51)
        (.seq (.region [⟨(some 52), .mov (.tmp 0), none, 0⟩,
          ⟨(some 53), .call Id.pin_Machine_end [.tmp 52, .const (.int .i64 0)], none, 0⟩,
          ⟨(some 54), .extract (.tmp 53) 0, none, 0⟩,
          ⟨(some 55), .extract (.tmp 53) 1, none, 0⟩,
          ⟨(some 4), .lstore none 4 0 2 (.tmp 54), none, 0⟩,
          ⟨(some 5), .mov (.tmp 55), none, 0⟩])
        (.ret))
        (.skip)))
      (.seq (.region [⟨(some 56), .mov (.tmp 0), none, 0⟩,
        ⟨(some 57), .nilchk (.tmp 56), none, 0⟩,
        ⟨(some 58), .faddr 7 (.tmp 57), none, 0⟩,
        ⟨none, .store 1 (.tmp 58) (.const (.int .i64 1)), none, 0⟩])
      (.seq (.region [⟨(some 59), .build [.int .i64 0, .int .i64 0] [], none, 0⟩,
        ⟨(some 4), .lstore none 4 0 2 (.tmp 59), none, 0⟩,
        ⟨(some 5), .mov (.const (.bool false)), none, 0⟩])
      (.ret)))))) }

def F.pin_Machine_look : IFunc :=
  { lb := [4, 6], scr := false, nargs := 2, res := [.lb 4 (some 2), .tmp 5],
    body := .seq (.region [⟨(some 4), .lbox (.const (.agg #[.int .i64 0, .int .i64 0])), none, 0⟩,
        ⟨(some 5), .mov (.const (.bool false)), none, 0⟩])
      (.seq (.seq (.region [⟨(some 9), .mov (.tmp 0), none, 0⟩,
        ⟨(some 10), .nilchk (.tmp 9), none, 0⟩,
        ⟨(some 11), .faddr 4 (.tmp 10), none, 0⟩,
        ⟨(some 12), .load none (.tmp 11), none, 0⟩])
      (.cond (.tmp 12)
        (.seq (.region [⟨(some 13), .mov (.tmp 0), none, 0⟩,
          ⟨(some 14), .call Id.pin_Machine_end [.tmp 13, .const (.int .i64 4)], none, 0⟩,
          ⟨(some 15), .extract (.tmp 14) 0, none, 0⟩,
          ⟨(some 16), .extract (.tmp 14) 1, none, 0⟩,
          ⟨(some 4), .lstore none 4 0 2 (.tmp 15), none, 0⟩,
          ⟨(some 5), .mov (.tmp 16), none, 0⟩])
        (.ret))
        (.skip)))
      (.seq (.region [⟨(some 19), .mov (.tmp 0), none, 0⟩,
        ⟨(some 20), .nilchk (.tmp 19), none, 0⟩,
        ⟨(some 21), .faddr 0 (.tmp 20), none, 0⟩,
        ⟨(some 22), .load (some 2) (.tmp 21), none, 0⟩,
        ⟨(some 23), .mov (.tmp 0), none, 0⟩,
        ⟨(some 24), .nilchk (.tmp 23), none, 0⟩,
        ⟨(some 25), .faddr 2 (.tmp 24), none, 0⟩,
        ⟨(some 26), .load none (.tmp 25), none, 0⟩,
        ⟨(some 27), .call Id.layout_Layout_Entry [.tmp 22, .tmp 26], none, 0⟩,
        ⟨(some 18), .mov (.tmp 1), none, 0⟩,
        ⟨(some 28), .mkfn (.method "Load") [.tmp 18] [], none, 0⟩,
        ⟨(some 29), .nilchkm "Load" [(41, Id.cells_Plain_Load)] (.tmp 28), none, 0⟩,
        ⟨(some 30), .mov (.tmp 18), none, 0⟩,
        ⟨(some 31), .invoke [(41, Id.cells_Plain_Load)] (.tmp 30) [.tmp 27], none, 0⟩,
        ⟨(some 17), .mov (.tmp 0), none, 0⟩,
        ⟨(some 32), .nilchk (.tmp 17), none, 0⟩,
        ⟨(some 33), .faddr 8 (.tmp 32), none, 0⟩,
        ⟨none, .store 1 (.tmp 33) (.tmp 31), none, 0⟩])
      (.seq (.region [⟨(some 35), .mov (.tmp 0), none, 0⟩,
        ⟨(some 36), .nilchk (.tmp 35), none, 0⟩,
        ⟨(some 37), .faddr 8 (.tmp 36), none, 0⟩,
        ⟨(some 38), .load none (.tmp 37), none, 0⟩,
        ⟨(some 39), .call Id.entry_Unpack [.tmp 38], none, 0⟩,
        ⟨(some 34), .mov (.tmp 39), none, 0⟩,
        ⟨(some 40), .extract (.tmp 34) 0, none, 0⟩,
        ⟨(some 41), .extract (.tmp 34) 1, none, 0⟩,
        ⟨(some 6), .lbox (.const (.agg #[.int .i64 0, .int .i64 0, .int .i64 0, .int .i64 0, .bool false, .bool false])), none, 0⟩,
        ⟨(some 6), .lstore none 6 0 6 (.tmp 40), none, 0⟩,
        ⟨(some 7), .mov (.tmp 41), none, 0⟩])
      (.seq (.block 0 (.seq (.region [⟨(some 43), .mov (.tmp 7), none, 0⟩,
        ⟨(some 44), .bin .neq (.tmp 43) (.const (.int .i64 0)), none, 0⟩,
        ⟨(some 45), .mov (.tmp 44), none, 0⟩,
        ⟨(some 46), .laddr none 6 5, (some (45, false)), 0⟩,
        ⟨(some 47), .lload (some 46) 6 5 none, (some (45, false)), 0⟩,
        ⟨(some 48), .un .not (.tmp 47), (some (45, false)), 0⟩,
        ⟨(some 49), .pick (.tmp 45) (.const (.bool true)) (.tmp 48), none, 0⟩,
        ⟨(some 50), .mov (.tmp 49), none, 0⟩,
        ⟨(some 51), .laddr none 6 1, (some (50, false)), 0⟩,
        ⟨(some 52), .lload (some 51) 6 1 none, (some (50, false)), 0⟩,
        ⟨(some 53), .mov (.tmp 0), (some (50, false)), 0⟩,
        ⟨(some 54), .nilchk (.tmp 53), (some (50, false)), 0⟩,
        ⟨(some 55), .faddr 3 (.tmp 54), (some (50, false)), 0⟩,
        ⟨(some 56), .load none (.tmp 55), (some (50, false)), 0⟩,
        ⟨(some 57), .bin .neq (.tmp 52) (.tmp 56), (some (50, false)), 0⟩,
        ⟨(some 58), .pick (.tmp 50) (.const (.bool true)) (.tmp 57), none, 0⟩,
        ⟨(some 42), .mov (.tmp 58), none, 0⟩])
      (.cond (.tmp 42)
        (.seq (.region [⟨(some 59), .mov (.tmp 0), none, 0⟩,
          ⟨(some 60), .call Id.pin_Machine_end [.tmp 59, .const (.int .i64 4)], none, 0⟩,
          ⟨(some 61), .extract (.tmp 60) 0, none, 0⟩,
          ⟨(some 62), .extract (.tmp 60) 1, none, 0⟩,
          ⟨(some 4), .lstore none 4 0 2 (.tmp 61), none, 0⟩,
          ⟨(some 5), .mov (.tmp 62), none, 0⟩])
        (.ret))
        (.seq (.region [⟨(some 64), .laddr none 6 4, none, 0⟩,
          ⟨(some 65), .lload (some 64) 6 4 none, none, 0⟩,
          ⟨(some 66), .mov (.tmp 65), none, 0⟩,
          ⟨(some 67), .mov (.tmp 0), (some (66, true)), 0⟩,
          ⟨(some 68), .nilchk (.tmp 67), (some (66, true)), 0⟩,
          ⟨(some 69), .faddr 6 (.tmp 68), (some (66, true)), 0⟩,
          ⟨(some 70), .load none (.tmp 69), (some (66, true)), 0⟩,
          ⟨(some 71), .pick (.tmp 66) (.tmp 70) (.const (.bool false)), none, 0⟩,
          ⟨(some 63), .mov (.tmp 71), none, 0⟩])
        (.cond (.tmp 63)
          (.seq (.region [⟨(some 72), .build [.int .i64 0, .int .i64 0] [], none, 0⟩,
            ⟨(some 4), .lstore none 4 0 2 (.tmp 72), none, 0⟩,
            ⟨(some 5), .mov (.const (.bool false)), none, 0⟩])
          (.ret))
          (.skip))))))
      (.seq (.region [⟨(some 74), .mov (.tmp 0), none, 0⟩,
        ⟨(some 75), .nilchk (.tmp 74), none, 0⟩,
        ⟨(some 76), .faddr 5 (.tmp 75), none, 0⟩,
        ⟨(some 77), .load none (.tmp 76), none, 0⟩,
        ⟨(some 78), .mov (.tmp 0), none, 0⟩,
        ⟨(some 79), .nilchk (.tmp 78), none, 0⟩,
        ⟨(some 80), .faddr 8 (.tmp 79), none, 0⟩,
        ⟨(some 81), .load none (.tmp 80), none, 0⟩,
        ⟨(some 82), .callv (.tmp 77) [.tmp 81], none, 0⟩,
        ⟨(some 73), .mov (.tmp 82), none, 0⟩,
        ⟨(some 83), .extract (.tmp 73) 0, none, 0⟩,
        ⟨(some 84), .extract (.tmp 73) 1, none, 0⟩,
        ⟨(some 8), .mov (.tmp 83), none, 0⟩,
        ⟨(some 7), .mov (.tmp 84), none, 0⟩])
      (.seq (.seq (.region [⟨(some 85), .mov (.tmp 7), none, 0⟩,
        ⟨(some 86), .bin .neq (.tmp 85) (.const (.int .i64 0)), none, 0⟩])
      (.cond (.tmp 86)
        (.seq (.region [⟨(some 87), .mov (.tmp 0), none, 0⟩,
          ⟨(some 88), .mov (.tmp 7), none, 0⟩,
          ⟨(some 89), .call Id.pin_Machine_end [.tmp 87, .tmp 88], none, 0⟩,
          ⟨(some 90), .extract (.tmp 89) 0, none, 0⟩,
          ⟨(some 91), .extract (.tmp 89) 1, none, 0⟩,
          ⟨(some 4), .lstore none 4 0 2 (.tmp 90), none, 0⟩,
          ⟨(some 5), .mov (.tmp 91), none, 0⟩])
        (.ret))
        (.skip)))
      (.seq (.region [⟨(some 92), .mov (.tmp 0), none, 0⟩,
        ⟨(some 93), .mov (.tmp 0), none, 0⟩,
        ⟨(some 94), .mov (.tmp 8), none, 0⟩,
        ⟨(some 95), .nilchk (.tmp 92), none, 0⟩,
        ⟨(some 96), .faddr 9 (.tmp 95), none, 0⟩,
        ⟨none, .store 1 (.tmp 96) (.tmp 94), none, 0⟩,
        ⟨(some 97), .nilchk (.tmp 93), none, 0⟩,
        ⟨(some 98), .faddr 7 (.tmp 97), none, 0⟩,
        ⟨none, .store 1 (.tmp 98) (.const (.int .i64 2)), none, 0⟩])
      (.seq (.region [⟨(some 99), .build [.int .i64 0, .int .i64 0] [], none, 0⟩,
        ⟨(some 4), .lstore none 4 0 2 (.tmp 99), none, 0⟩,
        ⟨(some 5), .mov (.const (.bool false)), none, 0⟩])
      (.ret))))))))) }

def F.pin_Machine_end : IFunc :=
  { lb := [4], scr := false, nargs := 2, res := [.lb 4 (some 2), .tmp 5],
    body := .seq (.region [⟨(some 4), .lbox (.const (.agg #[.int .i64 0, .int .i64 0])), none, 0⟩,
        ⟨(some 5), .mov (.const (.bool false)), none, 0⟩])
      (.seq (.region [⟨(some 6), .mov (.tmp 0), none, 0⟩,
        ⟨(some 7), .nilchk (.tmp 6), none, 0⟩,
        ⟨(some 8), .faddr 7 (.tmp 7), none, 0⟩,
        ⟨none, .store 1 (.tmp 8) (.const (.int .i64 0)), none, 0⟩])
      (.seq (.region [⟨(some 9), .mov (.tmp 1), none, 0⟩,
        ⟨(some 10), .build [.int .i64 0, .int .i64 0] [(0, 1, .tmp 9)], none, 0⟩,
        ⟨(some 4), .lstore none 4 0 2 (.tmp 10), none, 0⟩,
        ⟨(some 5), .mov (.const (.bool true)), none, 0⟩])
      (.ret))) }

def F.thread_nothing_Step : IFunc :=
  { lb := [2, 4], scr := false, nargs := 2, res := [.lb 4 (some 2), .tmp 5],
    body := .seq (.region [⟨(some 2), .lbox (.tmp 0), none, 0⟩,
        ⟨(some 4), .lbox (.const (.agg #[.int .i64 0, .int .i64 0])), none, 0⟩,
        ⟨(some 5), .mov (.const (.bool false)), none, 0⟩])
      (.seq (.region [⟨(some 6), .build [.int .i64 0, .int .i64 0] [(0, 1, .const (.int .i64 1))], none, 0⟩,
        ⟨(some 4), .lstore none 4 0 2 (.tmp 6), none, 0⟩,
        ⟨(some 5), .mov (.const (.bool true)), none, 0⟩])
      (.ret)) }

def tbl : List (Nat × IFunc) := [(Id.sidingslaw22_SoloNil, F.sidingslaw22_SoloNil),
  (Id.solo_Finish, F.solo_Finish),
  (Id.solo_Turns, F.solo_Turns),
  (Id.solo_Left, F.solo_Left),
  (Id.solo_Fits, F.solo_Fits),
  (Id.sidingslaw22_live, F.sidingslaw22_live),
  (Id.world_World_Quiet, F.world_World_Quiet),
  (Id.world_World_Counts, F.world_World_Counts),
  (Id.world_World_Pick, F.world_World_Pick),
  (Id.world_World_Config, F.world_World_Config),
  (Id.world_World_Done, F.world_World_Done),
  (Id.layout_Of, F.layout_Of),
  (Id.world_World_Cells, F.world_World_Cells),
  (Id.cells_Plain_Load, F.cells_Plain_Load),
  (Id.layout_Layout_Frontier, F.layout_Layout_Frontier),
  (Id.handle_Round, F.handle_Round),
  (Id.stack_Free, F.stack_Free),
  (Id.handle_Make, F.handle_Make),
  (Id.sidingslaw22_run, F.sidingslaw22_run),
  (Id.audit_Objects, F.audit_Objects),
  (Id.solo_Bound, F.solo_Bound),
  (Id.slices_ContainsFunc_L_thread_Thread, F.slices_ContainsFunc_L_thread_Thread),
  (Id.thread_Thread_Busy, F.thread_Thread_Busy),
  (Id.world_World_step, F.world_World_step),
  (Id.thread_Thread_Done, F.thread_Thread_Done),
  (Id.thread_Thread_Step, F.thread_Thread_Step),
  (Id.world_World_Done_1, F.world_World_Done_1),
  (Id.layout_in, F.layout_in),
  (Id.cells_Plain_word, F.cells_Plain_word),
  (Id.layout_Layout_once, F.layout_Layout_once),
  (Id.head_Unpack, F.head_Unpack),
  (Id.layout_Layout_Stack, F.layout_Layout_Stack),
  (Id.layout_Layout_Words, F.layout_Layout_Words),
  (Id.layout_Layout_Link, F.layout_Layout_Link),
  (Id.layout_Layout_Entry, F.layout_Layout_Entry),
  (Id.world_New, F.world_New),
  (Id.audit_all, F.audit_all),
  (Id.slices_IndexFunc_L_thread_Thread, F.slices_IndexFunc_L_thread_Thread),
  (Id.compact_Machine_Step, F.compact_Machine_Step),
  (Id.compact_Machine_Lowered, F.compact_Machine_Lowered),
  (Id.compact_New, F.compact_New),
  (Id.epoch_NewEnter, F.epoch_NewEnter),
  (Id.epoch_Enter_Step, F.epoch_Enter_Step),
  (Id.thread_of, F.thread_of),
  (Id.epoch_Exit, F.epoch_Exit),
  (Id.head_read, F.head_read),
  (Id.head_front_top, F.head_front_top),
  (Id.head_front_tag, F.head_front_tag),
  (Id.layout_Layout_of, F.layout_Layout_of),
  (Id.cells_New, F.cells_New),
  (Id.layout_Start, F.layout_Start),
  (Id.thread_New, F.thread_New),
  (Id.entry_Unpack, F.entry_Unpack),
  (Id.layout_Layout_Size, F.layout_Layout_Size),
  (Id.compact_Machine_on, F.compact_Machine_on),
  (Id.layout_Layout_Pending, F.layout_Layout_Pending),
  (Id.compact_Machine_end, F.compact_Machine_end),
  (Id.compact_Machine_scan, F.compact_Machine_scan),
  (Id.compact_Machine_measure, F.compact_Machine_measure),
  (Id.compact_Machine_look, F.compact_Machine_look),
  (Id.compact_Machine_lock, F.compact_Machine_lock),
  (Id.compact_Machine_object, F.compact_Machine_object),
  (Id.compact_Machine_lay, F.compact_Machine_lay),
  (Id.compact_Machine_store, F.compact_Machine_store),
  (Id.compact_Machine_turn, F.compact_Machine_turn),
  (Id.layout_Layout_Note, F.layout_Layout_Note),
  (Id.layout_Layout_Epoch, F.layout_Layout_Epoch),
  (Id.alloc_New, F.alloc_New),
  (Id.free_New, F.free_New),
  (Id.read_New, F.read_New),
  (Id.write_New, F.write_New),
  (Id.pin_New, F.pin_New),
  (Id.pin_NewUn, F.pin_NewUn),
  (Id.head_of, F.head_of),
  (Id.field_Get, F.field_Get),
  (Id.head_topField, F.head_topField),
  (Id.head_tagField, F.head_tagField),
  (Id.head_may, F.head_may),
  (Id.head_front_word, F.head_front_word),
  (Id.cells_may, F.cells_may),
  (Id.head_Pack, F.head_Pack),
  (Id.slices_Clone_Lapi_Op, F.slices_Clone_Lapi_Op),
  (Id.entry_fields, F.entry_fields),
  (Id.entry_Entry_may, F.entry_Entry_may),
  (Id.compact_Machine_scanned, F.compact_Machine_scanned),
  (Id.compact_Machine_passed, F.compact_Machine_passed),
  (Id.entry_Lock, F.entry_Lock),
  (Id.entry_Move, F.entry_Move),
  (Id.epoch_Turn_Step, F.epoch_Turn_Step),
  (Id.stack_NewPop, F.stack_NewPop),
  (Id.handle_Of, F.handle_Of),
  (Id.pin_of, F.pin_of),
  (Id.entry_Pin, F.entry_Pin),
  (Id.entry_Unpin, F.entry_Unpin),
  (Id.field_word, F.field_word),
  (Id.field_told, F.field_told),
  (Id.field_Field_mask, F.field_Field_mask),
  (Id.field_Put, F.field_Put),
  (Id.entry_in, F.entry_in),
  (Id.plan_Sort, F.plan_Sort),
  (Id.compact_Machine_behind, F.compact_Machine_behind),
  (Id.entry_changed, F.entry_changed),
  (Id.entry_Lock_1, F.entry_Lock_1),
  (Id.entry_Move_1, F.entry_Move_1),
  (Id.head_Older, F.head_Older),
  (Id.handle_Split, F.handle_Split),
  (Id.entry_Pin_1, F.entry_Pin_1),
  (Id.entry_Unpin_1, F.entry_Unpin_1),
  (Id.field_Field_may, F.field_Field_may),
  (Id.field_Field_most, F.field_Field_most),
  (Id.slices_Clone_Lplan_Object, F.slices_Clone_Lplan_Object),
  (Id.slices_SortStableFunc_Lplan_Object, F.slices_SortStableFunc_Lplan_Object),
  (Id.plan_byPlace, F.plan_byPlace),
  (Id.epoch_NewTurn, F.epoch_NewTurn),
  (Id.entry_Pack, F.entry_Pack),
  (Id.head_Inside, F.head_Inside),
  (Id.slices_stableCmpFunc_plan_Object, F.slices_stableCmpFunc_plan_Object),
  (Id.cmp_Or_int, F.cmp_Or_int),
  (Id.cmp_Compare_int, F.cmp_Compare_int),
  (Id.plan_bit, F.plan_bit),
  (Id.entry_bit, F.entry_bit),
  (Id.slices_insertionSortCmpFunc_plan_Object, F.slices_insertionSortCmpFunc_plan_Object),
  (Id.slices_symMergeCmpFunc_plan_Object, F.slices_symMergeCmpFunc_plan_Object),
  (Id.cmp_isNaN_int, F.cmp_isNaN_int),
  (Id.slices_rotateCmpFunc_plan_Object, F.slices_rotateCmpFunc_plan_Object),
  (Id.slices_swapRangeCmpFunc_plan_Object, F.slices_swapRangeCmpFunc_plan_Object),
  (Id.cells_Plain_Byte, F.cells_Plain_Byte),
  (Id.cells_Plain_Bytes, F.cells_Plain_Bytes),
  (Id.cells_Plain_Cas, F.cells_Plain_Cas),
  (Id.cells_Plain_SetByte, F.cells_Plain_SetByte),
  (Id.cells_Plain_Store, F.cells_Plain_Store),
  (Id.cells_Plain_Words, F.cells_Plain_Words),
  (Id.cells_Plain_byte, F.cells_Plain_byte),
  (Id.alloc_Machine_Step, F.alloc_Machine_Step),
  (Id.alloc_Machine_pending, F.alloc_Machine_pending),
  (Id.alloc_Machine_take, F.alloc_Machine_take),
  (Id.alloc_Machine_front, F.alloc_Machine_front),
  (Id.stack_Push_Step, F.stack_Push_Step),
  (Id.alloc_Machine_clear, F.alloc_Machine_clear),
  (Id.alloc_Machine_look, F.alloc_Machine_look),
  (Id.alloc_Machine_publish, F.alloc_Machine_publish),
  (Id.alloc_Machine_result, F.alloc_Machine_result),
  (Id.stack_Pop_Step, F.stack_Pop_Step),
  (Id.alloc_Machine_fail, F.alloc_Machine_fail),
  (Id.stack_NewPush, F.stack_NewPush),
  (Id.stack_machine_look, F.stack_machine_look),
  (Id.head_Push, F.head_Push),
  (Id.stack_machine_swap, F.stack_machine_swap),
  (Id.stack_machine_end, F.stack_machine_end),
  (Id.head_Pop, F.head_Pop),
  (Id.head_front_behind, F.head_front_behind),
  (Id.free_Machine_Step, F.free_Machine_Step),
  (Id.free_Machine_look, F.free_Machine_look),
  (Id.free_Machine_swap, F.free_Machine_swap),
  (Id.free_Machine_end, F.free_Machine_end),
  (Id.entry_Next, F.entry_Next),
  (Id.entry_Next_1, F.entry_Next_1),
  (Id.read_Machine_Step, F.read_Machine_Step),
  (Id.read_Machine_end, F.read_Machine_end),
  (Id.read_Machine_load, F.read_Machine_load),
  (Id.write_Machine_Step, F.write_Machine_Step),
  (Id.write_Machine_look, F.write_Machine_look),
  (Id.write_Machine_end, F.write_Machine_end),
  (Id.write_Machine_guard, F.write_Machine_guard),
  (Id.write_Machine_load, F.write_Machine_load),
  (Id.write_Machine_leave, F.write_Machine_leave),
  (Id.entry_Guard, F.entry_Guard),
  (Id.write_Machine_swap, F.write_Machine_swap),
  (Id.entry_Guard_1, F.entry_Guard_1),
  (Id.pin_Machine_Step, F.pin_Machine_Step),
  (Id.pin_Machine_look, F.pin_Machine_look),
  (Id.pin_Machine_end, F.pin_Machine_end),
  (Id.thread_nothing_Step, F.thread_nothing_Step)]
def env0 : Env := { fn := fun g => tbl.lookup g, prim := fun _ => none }
end Go.Proofs.YtbkdahiplcbppaaGreat
