/- The functions of this seat in the small language: printed by a program. -/
import Derived.Test.YtfpfknafcgkcjaaCompactIra

namespace Go.Proofs.Ytfpfknafcgkcjaa
open Go Go.Ir

def F.slices_symMergeCmpFunc_plan_Object : IFunc :=
  { lb := [], scr := false, nargs := 5, res := [],
    body := .seq (.seq (.region [⟨(some 25), .mov (.tmp 2), none, 0⟩,
        ⟨(some 26), .mov (.tmp 1), none, 0⟩,
        ⟨(some 27), .bin .sub (.tmp 25) (.tmp 26), none, 0⟩,
        ⟨(some 28), .bin .eql (.tmp 27) (.const (.int .i64 1)), none, 0⟩])
      (.cond (.tmp 28)
        (.seq (.region [⟨(some 29), .mov (.tmp 2), none, 0⟩,
          ⟨(some 10), .mov (.tmp 29), none, 0⟩])
        (.seq (.region [⟨(some 30), .mov (.tmp 3), none, 0⟩,
          ⟨(some 11), .mov (.tmp 30), none, 0⟩])
        (.seq (.block 0 (.loop [0, 1, 4, 10, 11]
          (.seq (.seq (.region [⟨(some 31), .mov (.tmp 10), none, 0⟩,
            ⟨(some 32), .mov (.tmp 11), none, 0⟩,
            ⟨(some 33), .bin .lss (.tmp 31) (.tmp 32), none, 0⟩])
          (.cond (.tmp 33)
            (.skip)
            (.exit 0)))
          (.block 1 (.seq (.region [⟨(some 34), .mov (.tmp 10), none, 0⟩,
            ⟨(some 35), .mov (.tmp 11), none, 0⟩,
            ⟨(some 36), .bin .add (.tmp 34) (.tmp 35), none, 0⟩,
            ⟨(some 37), .conv (.int .u64) (.tmp 36), none, 0⟩,
            ⟨(some 38), .bin .shr (.tmp 37) (.const (.int .u64 1)), none, 0⟩,
            ⟨(some 39), .conv (.int .i64) (.tmp 38), none, 0⟩,
            ⟨(some 12), .mov (.tmp 39), none, 0⟩])
          (.seq (.region [⟨(some 40), .mov (.tmp 4), none, 0⟩,
            ⟨(some 41), .mov (.tmp 0), none, 0⟩,
            ⟨(some 42), .mov (.tmp 12), none, 0⟩,
            ⟨(some 43), .iaddr none 4 (.tmp 41) (.tmp 42), none, 0⟩,
            ⟨(some 44), .load (some 4) (.tmp 43), none, 0⟩,
            ⟨(some 45), .mov (.tmp 0), none, 0⟩,
            ⟨(some 46), .mov (.tmp 1), none, 0⟩,
            ⟨(some 47), .iaddr none 4 (.tmp 45) (.tmp 46), none, 0⟩,
            ⟨(some 48), .load (some 4) (.tmp 47), none, 0⟩,
            ⟨(some 49), .callv (.tmp 40) [.tmp 44, .tmp 48], none, 0⟩,
            ⟨(some 50), .bin .lss (.tmp 49) (.const (.int .i64 0)), none, 0⟩])
          (.cond (.tmp 50)
            (.region [⟨(some 51), .mov (.tmp 12), none, 0⟩,
              ⟨(some 52), .bin .add (.tmp 51) (.const (.int .i64 1)), none, 0⟩,
              ⟨(some 10), .mov (.tmp 52), none, 0⟩])
            (.region [⟨(some 53), .mov (.tmp 12), none, 0⟩,
              ⟨(some 11), .mov (.tmp 53), none, 0⟩]))))))))
        (.seq (.seq (.region [⟨(some 54), .mov (.tmp 1), none, 0⟩,
          ⟨(some 13), .mov (.tmp 54), none, 0⟩])
        (.block 2 (.loop [0, 10, 13]
          (.seq (.seq (.region [⟨(some 55), .mov (.tmp 13), none, 0⟩,
            ⟨(some 56), .mov (.tmp 10), none, 0⟩,
            ⟨(some 57), .bin .sub (.tmp 56) (.const (.int .i64 1)), none, 0⟩,
            ⟨(some 58), .bin .lss (.tmp 55) (.tmp 57), none, 0⟩])
          (.cond (.tmp 58)
            (.skip)
            (.exit 2)))
          (.seq (.block 3 (.region [⟨(some 61), .mov (.tmp 0), none, 0⟩,
            ⟨(some 62), .mov (.tmp 13), none, 0⟩,
            ⟨(some 66), .mov (.tmp 0), none, 0⟩,
            ⟨(some 67), .mov (.tmp 13), none, 0⟩,
            ⟨(some 68), .bin .add (.tmp 67) (.const (.int .i64 1)), none, 0⟩,
            ⟨(some 69), .iaddr none 4 (.tmp 66) (.tmp 68), none, 0⟩,
            ⟨(some 70), .load (some 4) (.tmp 69), none, 0⟩,
            ⟨(some 71), .mov (.tmp 0), none, 0⟩,
            ⟨(some 72), .mov (.tmp 13), none, 0⟩,
            ⟨(some 73), .iaddr none 4 (.tmp 71) (.tmp 72), none, 0⟩,
            ⟨(some 74), .load (some 4) (.tmp 73), none, 0⟩,
            ⟨(some 75), .iaddr none 4 (.tmp 61) (.tmp 62), none, 0⟩,
            ⟨none, .store 4 (.tmp 75) (.tmp 70), none, 0⟩,
            ⟨(some 63), .mov (.tmp 0), none, 0⟩,
            ⟨(some 64), .mov (.tmp 13), none, 0⟩,
            ⟨(some 65), .bin .add (.tmp 64) (.const (.int .i64 1)), none, 0⟩,
            ⟨(some 76), .iaddr none 4 (.tmp 63) (.tmp 65), none, 0⟩,
            ⟨none, .store 4 (.tmp 76) (.tmp 74), none, 0⟩]))
          (.region [⟨(some 59), .mov (.tmp 13), none, 0⟩,
            ⟨(some 60), .bin .add (.tmp 59) (.const (.int .i64 1)), none, 0⟩,
            ⟨(some 13), .mov (.tmp 60), none, 0⟩]))))))
        (.ret)))))
        (.skip)))
      (.seq (.seq (.region [⟨(some 77), .mov (.tmp 3), none, 0⟩,
        ⟨(some 78), .mov (.tmp 2), none, 0⟩,
        ⟨(some 79), .bin .sub (.tmp 77) (.tmp 78), none, 0⟩,
        ⟨(some 80), .bin .eql (.tmp 79) (.const (.int .i64 1)), none, 0⟩])
      (.cond (.tmp 80)
        (.seq (.region [⟨(some 81), .mov (.tmp 1), none, 0⟩,
          ⟨(some 14), .mov (.tmp 81), none, 0⟩])
        (.seq (.region [⟨(some 82), .mov (.tmp 2), none, 0⟩,
          ⟨(some 15), .mov (.tmp 82), none, 0⟩])
        (.seq (.block 4 (.loop [0, 2, 4, 14, 15]
          (.seq (.seq (.region [⟨(some 83), .mov (.tmp 14), none, 0⟩,
            ⟨(some 84), .mov (.tmp 15), none, 0⟩,
            ⟨(some 85), .bin .lss (.tmp 83) (.tmp 84), none, 0⟩])
          (.cond (.tmp 85)
            (.skip)
            (.exit 4)))
          (.block 5 (.seq (.region [⟨(some 86), .mov (.tmp 14), none, 0⟩,
            ⟨(some 87), .mov (.tmp 15), none, 0⟩,
            ⟨(some 88), .bin .add (.tmp 86) (.tmp 87), none, 0⟩,
            ⟨(some 89), .conv (.int .u64) (.tmp 88), none, 0⟩,
            ⟨(some 90), .bin .shr (.tmp 89) (.const (.int .u64 1)), none, 0⟩,
            ⟨(some 91), .conv (.int .i64) (.tmp 90), none, 0⟩,
            ⟨(some 16), .mov (.tmp 91), none, 0⟩])
          (.seq (.region [⟨(some 92), .mov (.tmp 4), none, 0⟩,
            ⟨(some 93), .mov (.tmp 0), none, 0⟩,
            ⟨(some 94), .mov (.tmp 2), none, 0⟩,
            ⟨(some 95), .iaddr none 4 (.tmp 93) (.tmp 94), none, 0⟩,
            ⟨(some 96), .load (some 4) (.tmp 95), none, 0⟩,
            ⟨(some 97), .mov (.tmp 0), none, 0⟩,
            ⟨(some 98), .mov (.tmp 16), none, 0⟩,
            ⟨(some 99), .iaddr none 4 (.tmp 97) (.tmp 98), none, 0⟩,
            ⟨(some 100), .load (some 4) (.tmp 99), none, 0⟩,
            ⟨(some 101), .callv (.tmp 92) [.tmp 96, .tmp 100], none, 0⟩,
            ⟨(some 102), .bin .lss (.tmp 101) (.const (.int .i64 0)), none, 0⟩,
            ⟨(some 103), .un .not (.tmp 102), none, 0⟩])
          (.cond (.tmp 103)
            (.region [⟨(some 104), .mov (.tmp 16), none, 0⟩,
              ⟨(some 105), .bin .add (.tmp 104) (.const (.int .i64 1)), none, 0⟩,
              ⟨(some 14), .mov (.tmp 105), none, 0⟩])
            (.region [⟨(some 106), .mov (.tmp 16), none, 0⟩,
              ⟨(some 15), .mov (.tmp 106), none, 0⟩]))))))))
        (.seq (.seq (.region [⟨(some 107), .mov (.tmp 2), none, 0⟩,
          ⟨(some 17), .mov (.tmp 107), none, 0⟩])
        (.block 6 (.loop [0, 14, 17]
          (.seq (.seq (.region [⟨(some 108), .mov (.tmp 17), none, 0⟩,
            ⟨(some 109), .mov (.tmp 14), none, 0⟩,
            ⟨(some 110), .bin .gtr (.tmp 108) (.tmp 109), none, 0⟩])
          (.cond (.tmp 110)
            (.skip)
            (.exit 6)))
          (.seq (.block 7 (.region [⟨(some 113), .mov (.tmp 0), none, 0⟩,
            ⟨(some 114), .mov (.tmp 17), none, 0⟩,
            ⟨(some 118), .mov (.tmp 0), none, 0⟩,
            ⟨(some 119), .mov (.tmp 17), none, 0⟩,
            ⟨(some 120), .bin .sub (.tmp 119) (.const (.int .i64 1)), none, 0⟩,
            ⟨(some 121), .iaddr none 4 (.tmp 118) (.tmp 120), none, 0⟩,
            ⟨(some 122), .load (some 4) (.tmp 121), none, 0⟩,
            ⟨(some 123), .mov (.tmp 0), none, 0⟩,
            ⟨(some 124), .mov (.tmp 17), none, 0⟩,
            ⟨(some 125), .iaddr none 4 (.tmp 123) (.tmp 124), none, 0⟩,
            ⟨(some 126), .load (some 4) (.tmp 125), none, 0⟩,
            ⟨(some 127), .iaddr none 4 (.tmp 113) (.tmp 114), none, 0⟩,
            ⟨none, .store 4 (.tmp 127) (.tmp 122), none, 0⟩,
            ⟨(some 115), .mov (.tmp 0), none, 0⟩,
            ⟨(some 116), .mov (.tmp 17), none, 0⟩,
            ⟨(some 117), .bin .sub (.tmp 116) (.const (.int .i64 1)), none, 0⟩,
            ⟨(some 128), .iaddr none 4 (.tmp 115) (.tmp 117), none, 0⟩,
            ⟨none, .store 4 (.tmp 128) (.tmp 126), none, 0⟩]))
          (.region [⟨(some 111), .mov (.tmp 17), none, 0⟩,
            ⟨(some 112), .bin .sub (.tmp 111) (.const (.int .i64 1)), none, 0⟩,
            ⟨(some 17), .mov (.tmp 112), none, 0⟩]))))))
        (.ret)))))
        (.skip)))
      (.seq (.region [⟨(some 129), .mov (.tmp 1), none, 0⟩,
        ⟨(some 130), .mov (.tmp 3), none, 0⟩,
        ⟨(some 131), .bin .add (.tmp 129) (.tmp 130), none, 0⟩,
        ⟨(some 132), .conv (.int .u64) (.tmp 131), none, 0⟩,
        ⟨(some 133), .bin .shr (.tmp 132) (.const (.int .u64 1)), none, 0⟩,
        ⟨(some 134), .conv (.int .i64) (.tmp 133), none, 0⟩,
        ⟨(some 18), .mov (.tmp 134), none, 0⟩])
      (.seq (.region [⟨(some 135), .mov (.tmp 18), none, 0⟩,
        ⟨(some 136), .mov (.tmp 2), none, 0⟩,
        ⟨(some 137), .bin .add (.tmp 135) (.tmp 136), none, 0⟩,
        ⟨(some 19), .mov (.tmp 137), none, 0⟩])
      (.seq (.region [⟨(some 20), .mov (.const (.int .i64 0)), none, 0⟩,
        ⟨(some 21), .mov (.const (.int .i64 0)), none, 0⟩])
      (.seq (.seq (.region [⟨(some 138), .mov (.tmp 2), none, 0⟩,
        ⟨(some 139), .mov (.tmp 18), none, 0⟩,
        ⟨(some 140), .bin .gtr (.tmp 138) (.tmp 139), none, 0⟩])
      (.cond (.tmp 140)
        (.seq (.region [⟨(some 141), .mov (.tmp 19), none, 0⟩,
          ⟨(some 142), .mov (.tmp 3), none, 0⟩,
          ⟨(some 143), .bin .sub (.tmp 141) (.tmp 142), none, 0⟩,
          ⟨(some 20), .mov (.tmp 143), none, 0⟩])
        (.region [⟨(some 144), .mov (.tmp 18), none, 0⟩,
          ⟨(some 21), .mov (.tmp 144), none, 0⟩]))
        (.seq (.region [⟨(some 145), .mov (.tmp 1), none, 0⟩,
          ⟨(some 20), .mov (.tmp 145), none, 0⟩])
        (.region [⟨(some 146), .mov (.tmp 2), none, 0⟩,
          ⟨(some 21), .mov (.tmp 146), none, 0⟩]))))
      (.seq (.region [⟨(some 147), .mov (.tmp 19), none, 0⟩,
        ⟨(some 148), .bin .sub (.tmp 147) (.const (.int .i64 1)), none, 0⟩,
        ⟨(some 22), .mov (.tmp 148), none, 0⟩])
      (.seq (.block 8 (.loop [0, 1, 2, 3, 4, 18, 19, 20, 21, 22]
        (.seq (.seq (.region [⟨(some 149), .mov (.tmp 20), none, 0⟩,
          ⟨(some 150), .mov (.tmp 21), none, 0⟩,
          ⟨(some 151), .bin .lss (.tmp 149) (.tmp 150), none, 0⟩])
        (.cond (.tmp 151)
          (.skip)
          (.exit 8)))
        (.block 9 (.seq (.region [⟨(some 152), .mov (.tmp 20), none, 0⟩,
          ⟨(some 153), .mov (.tmp 21), none, 0⟩,
          ⟨(some 154), .bin .add (.tmp 152) (.tmp 153), none, 0⟩,
          ⟨(some 155), .conv (.int .u64) (.tmp 154), none, 0⟩,
          ⟨(some 156), .bin .shr (.tmp 155) (.const (.int .u64 1)), none, 0⟩,
          ⟨(some 157), .conv (.int .i64) (.tmp 156), none, 0⟩,
          ⟨(some 23), .mov (.tmp 157), none, 0⟩])
        (.seq (.region [⟨(some 158), .mov (.tmp 4), none, 0⟩,
          ⟨(some 159), .mov (.tmp 0), none, 0⟩,
          ⟨(some 160), .mov (.tmp 22), none, 0⟩,
          ⟨(some 161), .mov (.tmp 23), none, 0⟩,
          ⟨(some 162), .bin .sub (.tmp 160) (.tmp 161), none, 0⟩,
          ⟨(some 163), .iaddr none 4 (.tmp 159) (.tmp 162), none, 0⟩,
          ⟨(some 164), .load (some 4) (.tmp 163), none, 0⟩,
          ⟨(some 165), .mov (.tmp 0), none, 0⟩,
          ⟨(some 166), .mov (.tmp 23), none, 0⟩,
          ⟨(some 167), .iaddr none 4 (.tmp 165) (.tmp 166), none, 0⟩,
          ⟨(some 168), .load (some 4) (.tmp 167), none, 0⟩,
          ⟨(some 169), .callv (.tmp 158) [.tmp 164, .tmp 168], none, 0⟩,
          ⟨(some 170), .bin .lss (.tmp 169) (.const (.int .i64 0)), none, 0⟩,
          ⟨(some 171), .un .not (.tmp 170), none, 0⟩])
        (.cond (.tmp 171)
          (.region [⟨(some 172), .mov (.tmp 23), none, 0⟩,
            ⟨(some 173), .bin .add (.tmp 172) (.const (.int .i64 1)), none, 0⟩,
            ⟨(some 20), .mov (.tmp 173), none, 0⟩])
          (.region [⟨(some 174), .mov (.tmp 23), none, 0⟩,
            ⟨(some 21), .mov (.tmp 174), none, 0⟩]))))))))
      (.seq (.region [⟨(some 175), .mov (.tmp 19), none, 0⟩,
        ⟨(some 176), .mov (.tmp 20), none, 0⟩,
        ⟨(some 177), .bin .sub (.tmp 175) (.tmp 176), none, 0⟩,
        ⟨(some 24), .mov (.tmp 177), none, 0⟩])
      (.seq (.seq (.region [⟨(some 178), .mov (.tmp 20), none, 0⟩,
        ⟨(some 179), .mov (.tmp 2), none, 0⟩,
        ⟨(some 180), .bin .lss (.tmp 178) (.tmp 179), none, 0⟩,
        ⟨(some 181), .mov (.tmp 180), none, 0⟩,
        ⟨(some 182), .mov (.tmp 2), (some (181, true)), 0⟩,
        ⟨(some 183), .mov (.tmp 24), (some (181, true)), 0⟩,
        ⟨(some 184), .bin .lss (.tmp 182) (.tmp 183), (some (181, true)), 0⟩,
        ⟨(some 185), .pick (.tmp 181) (.tmp 184) (.const (.bool false)), none, 0⟩])
      (.cond (.tmp 185)
        (.region [⟨(some 186), .mov (.tmp 0), none, 0⟩,
          ⟨(some 187), .mov (.tmp 20), none, 0⟩,
          ⟨(some 188), .mov (.tmp 2), none, 0⟩,
          ⟨(some 189), .mov (.tmp 24), none, 0⟩,
          ⟨(some 190), .mov (.tmp 4), none, 0⟩,
          ⟨(some 191), .call Id.slices_rotateCmpFunc_plan_Object [.tmp 186, .tmp 187, .tmp 188, .tmp 189, .tmp 190], none, 0⟩])
        (.skip)))
      (.seq (.seq (.region [⟨(some 192), .mov (.tmp 1), none, 0⟩,
        ⟨(some 193), .mov (.tmp 20), none, 0⟩,
        ⟨(some 194), .bin .lss (.tmp 192) (.tmp 193), none, 0⟩,
        ⟨(some 195), .mov (.tmp 194), none, 0⟩,
        ⟨(some 196), .mov (.tmp 20), (some (195, true)), 0⟩,
        ⟨(some 197), .mov (.tmp 18), (some (195, true)), 0⟩,
        ⟨(some 198), .bin .lss (.tmp 196) (.tmp 197), (some (195, true)), 0⟩,
        ⟨(some 199), .pick (.tmp 195) (.tmp 198) (.const (.bool false)), none, 0⟩])
      (.cond (.tmp 199)
        (.region [⟨(some 200), .mov (.tmp 0), none, 0⟩,
          ⟨(some 201), .mov (.tmp 1), none, 0⟩,
          ⟨(some 202), .mov (.tmp 20), none, 0⟩,
          ⟨(some 203), .mov (.tmp 18), none, 0⟩,
          ⟨(some 204), .mov (.tmp 4), none, 0⟩,
          ⟨(some 205), .call Id.slices_symMergeCmpFunc_plan_Object [.tmp 200, .tmp 201, .tmp 202, .tmp 203, .tmp 204], none, 0⟩])
        (.skip)))
      (.seq (.region [⟨(some 206), .mov (.tmp 18), none, 0⟩,
        ⟨(some 207), .mov (.tmp 24), none, 0⟩,
        ⟨(some 208), .bin .lss (.tmp 206) (.tmp 207), none, 0⟩,
        ⟨(some 209), .mov (.tmp 208), none, 0⟩,
        ⟨(some 210), .mov (.tmp 24), (some (209, true)), 0⟩,
        ⟨(some 211), .mov (.tmp 3), (some (209, true)), 0⟩,
        ⟨(some 212), .bin .lss (.tmp 210) (.tmp 211), (some (209, true)), 0⟩,
        ⟨(some 213), .pick (.tmp 209) (.tmp 212) (.const (.bool false)), none, 0⟩])
      (.cond (.tmp 213)
        (.region [⟨(some 214), .mov (.tmp 0), none, 0⟩,
          ⟨(some 215), .mov (.tmp 18), none, 0⟩,
          ⟨(some 216), .mov (.tmp 24), none, 0⟩,
          ⟨(some 217), .mov (.tmp 3), none, 0⟩,
          ⟨(some 218), .mov (.tmp 4), none, 0⟩,
          ⟨(some 219), .call Id.slices_symMergeCmpFunc_plan_Object [.tmp 214, .tmp 215, .tmp 216, .tmp 217, .tmp 218], none, 0⟩])
        (.skip))))))))))))) }

def F.cmp_isNaN_int : IFunc :=
  { lb := [], scr := true, nargs := 1, res := [.tmp 2],
    body := .seq (.region [⟨(some 2), .mov (.const (.bool false)), none, 0⟩])
      (.seq (.region [⟨(some 3), .mov (.tmp 0), none, 0⟩,
        ⟨(some 4), .mov (.tmp 0), none, 0⟩,
        ⟨(some 5), .bin .neq (.tmp 3) (.tmp 4), none, 0⟩,
        ⟨(some 2), .mov (.tmp 5), none, 0⟩])
      (.ret)) }

def F.slices_rotateCmpFunc_plan_Object : IFunc :=
  { lb := [], scr := false, nargs := 5, res := [],
    body := .seq (.region [⟨(some 12), .mov (.tmp 2), none, 0⟩,
        ⟨(some 13), .mov (.tmp 1), none, 0⟩,
        ⟨(some 14), .bin .sub (.tmp 12) (.tmp 13), none, 0⟩,
        ⟨(some 10), .mov (.tmp 14), none, 0⟩])
      (.seq (.region [⟨(some 15), .mov (.tmp 3), none, 0⟩,
        ⟨(some 16), .mov (.tmp 2), none, 0⟩,
        ⟨(some 17), .bin .sub (.tmp 15) (.tmp 16), none, 0⟩,
        ⟨(some 11), .mov (.tmp 17), none, 0⟩])
      (.seq (.block 0 (.loop [0, 2, 4, 10, 11]
        (.seq (.seq (.region [⟨(some 18), .mov (.tmp 10), none, 0⟩,
          ⟨(some 19), .mov (.tmp 11), none, 0⟩,
          ⟨(some 20), .bin .neq (.tmp 18) (.tmp 19), none, 0⟩])
        (.cond (.tmp 20)
          (.skip)
          (.exit 0)))
        (.block 1 (.seq (.region [⟨(some 21), .mov (.tmp 10), none, 0⟩,
          ⟨(some 22), .mov (.tmp 11), none, 0⟩,
          ⟨(some 23), .bin .gtr (.tmp 21) (.tmp 22), none, 0⟩])
        (.cond (.tmp 23)
          (.seq (.region [⟨(some 24), .mov (.tmp 0), none, 0⟩,
            ⟨(some 25), .mov (.tmp 2), none, 0⟩,
            ⟨(some 26), .mov (.tmp 10), none, 0⟩,
            ⟨(some 27), .bin .sub (.tmp 25) (.tmp 26), none, 0⟩,
            ⟨(some 28), .mov (.tmp 2), none, 0⟩,
            ⟨(some 29), .mov (.tmp 11), none, 0⟩,
            ⟨(some 30), .mov (.tmp 4), none, 0⟩,
            ⟨(some 31), .call Id.slices_swapRangeCmpFunc_plan_Object [.tmp 24, .tmp 27, .tmp 28, .tmp 29, .tmp 30], none, 0⟩])
          (.region [⟨(some 32), .mov (.tmp 10), none, 0⟩,
            ⟨(some 33), .mov (.tmp 11), none, 0⟩,
            ⟨(some 34), .bin .sub (.tmp 32) (.tmp 33), none, 0⟩,
            ⟨(some 10), .mov (.tmp 34), none, 0⟩]))
          (.seq (.region [⟨(some 35), .mov (.tmp 0), none, 0⟩,
            ⟨(some 36), .mov (.tmp 2), none, 0⟩,
            ⟨(some 37), .mov (.tmp 10), none, 0⟩,
            ⟨(some 38), .bin .sub (.tmp 36) (.tmp 37), none, 0⟩,
            ⟨(some 39), .mov (.tmp 2), none, 0⟩,
            ⟨(some 40), .mov (.tmp 11), none, 0⟩,
            ⟨(some 41), .bin .add (.tmp 39) (.tmp 40), none, 0⟩,
            ⟨(some 42), .mov (.tmp 10), none, 0⟩,
            ⟨(some 43), .bin .sub (.tmp 41) (.tmp 42), none, 0⟩,
            ⟨(some 44), .mov (.tmp 10), none, 0⟩,
            ⟨(some 45), .mov (.tmp 4), none, 0⟩,
            ⟨(some 46), .call Id.slices_swapRangeCmpFunc_plan_Object [.tmp 35, .tmp 38, .tmp 43, .tmp 44, .tmp 45], none, 0⟩])
          (.region [⟨(some 47), .mov (.tmp 11), none, 0⟩,
            ⟨(some 48), .mov (.tmp 10), none, 0⟩,
            ⟨(some 49), .bin .sub (.tmp 47) (.tmp 48), none, 0⟩,
            ⟨(some 11), .mov (.tmp 49), none, 0⟩]))))))))
      (.region [⟨(some 50), .mov (.tmp 0), none, 0⟩,
        ⟨(some 51), .mov (.tmp 2), none, 0⟩,
        ⟨(some 52), .mov (.tmp 10), none, 0⟩,
        ⟨(some 53), .bin .sub (.tmp 51) (.tmp 52), none, 0⟩,
        ⟨(some 54), .mov (.tmp 2), none, 0⟩,
        ⟨(some 55), .mov (.tmp 10), none, 0⟩,
        ⟨(some 56), .mov (.tmp 4), none, 0⟩,
        ⟨(some 57), .call Id.slices_swapRangeCmpFunc_plan_Object [.tmp 50, .tmp 53, .tmp 54, .tmp 55, .tmp 56], none, 0⟩]))) }

def F.slices_swapRangeCmpFunc_plan_Object : IFunc :=
  { lb := [], scr := false, nargs := 5, res := [],
    body := .seq (.region [⟨(some 10), .mov (.const (.int .i64 0)), none, 0⟩])
      (.block 0 (.loop [0, 1, 2, 3, 10]
        (.seq (.seq (.region [⟨(some 11), .mov (.tmp 10), none, 0⟩,
          ⟨(some 12), .mov (.tmp 3), none, 0⟩,
          ⟨(some 13), .bin .lss (.tmp 11) (.tmp 12), none, 0⟩])
        (.cond (.tmp 13)
          (.skip)
          (.exit 0)))
        (.seq (.block 1 (.region [⟨(some 16), .mov (.tmp 0), none, 0⟩,
          ⟨(some 17), .mov (.tmp 1), none, 0⟩,
          ⟨(some 18), .mov (.tmp 10), none, 0⟩,
          ⟨(some 19), .bin .add (.tmp 17) (.tmp 18), none, 0⟩,
          ⟨(some 24), .mov (.tmp 0), none, 0⟩,
          ⟨(some 25), .mov (.tmp 2), none, 0⟩,
          ⟨(some 26), .mov (.tmp 10), none, 0⟩,
          ⟨(some 27), .bin .add (.tmp 25) (.tmp 26), none, 0⟩,
          ⟨(some 28), .iaddr none 4 (.tmp 24) (.tmp 27), none, 0⟩,
          ⟨(some 29), .load (some 4) (.tmp 28), none, 0⟩,
          ⟨(some 30), .mov (.tmp 0), none, 0⟩,
          ⟨(some 31), .mov (.tmp 1), none, 0⟩,
          ⟨(some 32), .mov (.tmp 10), none, 0⟩,
          ⟨(some 33), .bin .add (.tmp 31) (.tmp 32), none, 0⟩,
          ⟨(some 34), .iaddr none 4 (.tmp 30) (.tmp 33), none, 0⟩,
          ⟨(some 35), .load (some 4) (.tmp 34), none, 0⟩,
          ⟨(some 36), .iaddr none 4 (.tmp 16) (.tmp 19), none, 0⟩,
          ⟨none, .store 4 (.tmp 36) (.tmp 29), none, 0⟩,
          ⟨(some 20), .mov (.tmp 0), none, 0⟩,
          ⟨(some 21), .mov (.tmp 2), none, 0⟩,
          ⟨(some 22), .mov (.tmp 10), none, 0⟩,
          ⟨(some 23), .bin .add (.tmp 21) (.tmp 22), none, 0⟩,
          ⟨(some 37), .iaddr none 4 (.tmp 20) (.tmp 23), none, 0⟩,
          ⟨none, .store 4 (.tmp 37) (.tmp 35), none, 0⟩]))
        (.region [⟨(some 14), .mov (.tmp 10), none, 0⟩,
          ⟨(some 15), .bin .add (.tmp 14) (.const (.int .i64 1)), none, 0⟩,
          ⟨(some 10), .mov (.tmp 15), none, 0⟩]))))) }

def F.cells_Plain_Bytes : IFunc :=
  { lb := [], scr := false, nargs := 1, res := [.tmp 2],
    body := .seq (.region [⟨(some 2), .mov (.const (.int .i64 0)), none, 0⟩])
      (.seq (.seq (.region [⟨(some 3), .mov (.tmp 0), none, 0⟩,
        ⟨(some 4), .eqv false (.nil 0) (.tmp 3) (.const (.pointer none)), none, 0⟩])
      (.cond (.tmp 4)
        (.seq (.region [⟨(some 2), .mov (.const (.int .i64 0)), none, 0⟩])
        (.ret))
        (.skip)))
      (.seq (.region [⟨(some 5), .mov (.tmp 0), none, 0⟩,
        ⟨(some 6), .nilchk (.tmp 5), none, 0⟩,
        ⟨(some 7), .faddr 1 (.tmp 6), none, 0⟩,
        ⟨(some 8), .load none (.tmp 7), none, 0⟩,
        ⟨(some 9), .len false (.tmp 8), none, 0⟩,
        ⟨(some 2), .mov (.tmp 9), none, 0⟩])
      (.ret))) }

def F.cells_Plain_Cas : IFunc :=
  { lb := [], scr := false, nargs := 4, res := [.tmp 8],
    body := .seq (.region [⟨(some 8), .mov (.const (.bool false)), none, 0⟩])
      (.seq (.seq (.region [⟨(some 9), .mov (.tmp 0), none, 0⟩,
        ⟨(some 10), .mov (.tmp 1), none, 0⟩,
        ⟨(some 11), .call Id.cells_Plain_word [.tmp 9, .tmp 10], none, 0⟩,
        ⟨(some 12), .un .not (.tmp 11), none, 0⟩,
        ⟨(some 13), .mov (.tmp 12), none, 0⟩,
        ⟨(some 14), .mov (.tmp 0), (some (13, false)), 0⟩,
        ⟨(some 15), .nilchk (.tmp 14), (some (13, false)), 0⟩,
        ⟨(some 16), .faddr 0 (.tmp 15), (some (13, false)), 0⟩,
        ⟨(some 17), .load none (.tmp 16), (some (13, false)), 0⟩,
        ⟨(some 18), .mov (.tmp 1), (some (13, false)), 0⟩,
        ⟨(some 19), .iaddr none 1 (.tmp 17) (.tmp 18), (some (13, false)), 0⟩,
        ⟨(some 20), .load none (.tmp 19), (some (13, false)), 0⟩,
        ⟨(some 21), .mov (.tmp 2), (some (13, false)), 0⟩,
        ⟨(some 22), .bin .neq (.tmp 20) (.tmp 21), (some (13, false)), 0⟩,
        ⟨(some 23), .pick (.tmp 13) (.const (.bool true)) (.tmp 22), none, 0⟩])
      (.cond (.tmp 23)
        (.seq (.region [⟨(some 8), .mov (.const (.bool false)), none, 0⟩])
        (.ret))
        (.skip)))
      (.seq (.region [⟨(some 24), .mov (.tmp 0), none, 0⟩,
        ⟨(some 25), .nilchk (.tmp 24), none, 0⟩,
        ⟨(some 26), .faddr 0 (.tmp 25), none, 0⟩,
        ⟨(some 27), .load none (.tmp 26), none, 0⟩,
        ⟨(some 28), .mov (.tmp 1), none, 0⟩,
        ⟨(some 29), .mov (.tmp 3), none, 0⟩,
        ⟨(some 30), .iaddr none 1 (.tmp 27) (.tmp 28), none, 0⟩,
        ⟨none, .store 1 (.tmp 30) (.tmp 29), none, 0⟩])
      (.seq (.region [⟨(some 8), .mov (.const (.bool true)), none, 0⟩])
      (.ret)))) }

def F.cells_Plain_Words : IFunc :=
  { lb := [], scr := false, nargs := 1, res := [.tmp 2],
    body := .seq (.region [⟨(some 2), .mov (.const (.int .i64 0)), none, 0⟩])
      (.seq (.seq (.region [⟨(some 3), .mov (.tmp 0), none, 0⟩,
        ⟨(some 4), .eqv false (.nil 0) (.tmp 3) (.const (.pointer none)), none, 0⟩])
      (.cond (.tmp 4)
        (.seq (.region [⟨(some 2), .mov (.const (.int .i64 0)), none, 0⟩])
        (.ret))
        (.skip)))
      (.seq (.region [⟨(some 5), .mov (.tmp 0), none, 0⟩,
        ⟨(some 6), .nilchk (.tmp 5), none, 0⟩,
        ⟨(some 7), .faddr 0 (.tmp 6), none, 0⟩,
        ⟨(some 8), .load none (.tmp 7), none, 0⟩,
        ⟨(some 9), .len false (.tmp 8), none, 0⟩,
        ⟨(some 2), .mov (.tmp 9), none, 0⟩])
      (.ret))) }

def tbl : List (Nat × IFunc) := [(Id.sidingslaw18_CompactEnds, F.sidingslaw18_CompactEnds),
  (Id.sidingslaw18_CompactBusy, F.sidingslaw18_CompactBusy),
  (Id.sidingslaw18_CompactTwice, F.sidingslaw18_CompactTwice),
  (Id.sidingslaw18_CompactNil, F.sidingslaw18_CompactNil),
  (Id.sidingslaw18_CompactLocks, F.sidingslaw18_CompactLocks),
  (Id.sidingslaw18_start, F.sidingslaw18_start),
  (Id.sidingsref06_May, F.sidingsref06_May),
  (Id.sidingslaw18_live, F.sidingslaw18_live),
  (Id.sidingslaw18_lay, F.sidingslaw18_lay),
  (Id.sidingslaw18_run, F.sidingslaw18_run),
  (Id.compact_New, F.compact_New),
  (Id.cells_Plain_Load, F.cells_Plain_Load),
  (Id.cells_Plain_Store, F.cells_Plain_Store),
  (Id.compact_Machine_Lowered, F.compact_Machine_Lowered),
  (Id.cells_Plain_Copy, F.cells_Plain_Copy),
  (Id.cells_Plain_Byte, F.cells_Plain_Byte),
  (Id.compact_Machine_Step, F.compact_Machine_Step),
  (Id.compact_Machine_Moving, F.compact_Machine_Moving),
  (Id.sidingsref02_Unpack, F.sidingsref02_Unpack),
  (Id.cells_New, F.cells_New),
  (Id.sidingsref06_Words, F.sidingsref06_Words),
  (Id.layout_Start, F.layout_Start),
  (Id.sidingsref02_Pack, F.sidingsref02_Pack),
  (Id.cells_Plain_SetByte, F.cells_Plain_SetByte),
  (Id.sidingsref03_Round, F.sidingsref03_Round),
  (Id.layout_Of, F.layout_Of),
  (Id.cells_Plain_word, F.cells_Plain_word),
  (Id.cells_Plain_byte, F.cells_Plain_byte),
  (Id.layout_Layout_Frontier, F.layout_Layout_Frontier),
  (Id.compact_Machine_on, F.compact_Machine_on),
  (Id.layout_Layout_Pending, F.layout_Layout_Pending),
  (Id.compact_Machine_end, F.compact_Machine_end),
  (Id.compact_Machine_scan, F.compact_Machine_scan),
  (Id.compact_Machine_measure, F.compact_Machine_measure),
  (Id.compact_Machine_look, F.compact_Machine_look),
  (Id.compact_Machine_lock, F.compact_Machine_lock),
  (Id.compact_Machine_object, F.compact_Machine_object),
  (Id.compact_Machine_lay, F.compact_Machine_lay),
  (Id.compact_Machine_store, F.compact_Machine_store),
  (Id.compact_Machine_turn, F.compact_Machine_turn),
  (Id.sidingsref02_May, F.sidingsref02_May),
  (Id.cells_may, F.cells_may),
  (Id.layout_Layout_Words, F.layout_Layout_Words),
  (Id.layout_Layout_Link, F.layout_Layout_Link),
  (Id.head_Pack, F.head_Pack),
  (Id.layout_Layout_Stack, F.layout_Layout_Stack),
  (Id.sidingsref02_bit, F.sidingsref02_bit),
  (Id.layout_in, F.layout_in),
  (Id.layout_Layout_once, F.layout_Layout_once),
  (Id.entry_Unpack, F.entry_Unpack),
  (Id.layout_Layout_Entry, F.layout_Layout_Entry),
  (Id.compact_Machine_scanned, F.compact_Machine_scanned),
  (Id.handle_Round, F.handle_Round),
  (Id.layout_Layout_Size, F.layout_Layout_Size),
  (Id.compact_Machine_passed, F.compact_Machine_passed),
  (Id.entry_Lock, F.entry_Lock),
  (Id.entry_Move, F.entry_Move),
  (Id.epoch_Turn_Step, F.epoch_Turn_Step),
  (Id.layout_Layout_of, F.layout_Layout_of),
  (Id.head_may, F.head_may),
  (Id.head_of, F.head_of),
  (Id.head_front_word, F.head_front_word),
  (Id.entry_fields, F.entry_fields),
  (Id.field_Get, F.field_Get),
  (Id.entry_Entry_may, F.entry_Entry_may),
  (Id.plan_Sort, F.plan_Sort),
  (Id.compact_Machine_behind, F.compact_Machine_behind),
  (Id.entry_changed, F.entry_changed),
  (Id.entry_Lock_1, F.entry_Lock_1),
  (Id.entry_Move_1, F.entry_Move_1),
  (Id.layout_Layout_Epoch, F.layout_Layout_Epoch),
  (Id.head_Older, F.head_Older),
  (Id.layout_Layout_Note, F.layout_Layout_Note),
  (Id.field_Put, F.field_Put),
  (Id.head_topField, F.head_topField),
  (Id.head_front_top, F.head_front_top),
  (Id.head_tagField, F.head_tagField),
  (Id.head_front_tag, F.head_front_tag),
  (Id.field_word, F.field_word),
  (Id.field_told, F.field_told),
  (Id.field_Field_mask, F.field_Field_mask),
  (Id.entry_in, F.entry_in),
  (Id.slices_Clone_Lplan_Object, F.slices_Clone_Lplan_Object),
  (Id.slices_SortStableFunc_Lplan_Object, F.slices_SortStableFunc_Lplan_Object),
  (Id.plan_byPlace, F.plan_byPlace),
  (Id.epoch_NewTurn, F.epoch_NewTurn),
  (Id.entry_Pack, F.entry_Pack),
  (Id.head_Inside, F.head_Inside),
  (Id.field_Field_may, F.field_Field_may),
  (Id.field_Field_most, F.field_Field_most),
  (Id.slices_stableCmpFunc_plan_Object, F.slices_stableCmpFunc_plan_Object),
  (Id.cmp_Or_int, F.cmp_Or_int),
  (Id.cmp_Compare_int, F.cmp_Compare_int),
  (Id.plan_bit, F.plan_bit),
  (Id.entry_bit, F.entry_bit),
  (Id.slices_insertionSortCmpFunc_plan_Object, F.slices_insertionSortCmpFunc_plan_Object),
  (Id.slices_symMergeCmpFunc_plan_Object, F.slices_symMergeCmpFunc_plan_Object),
  (Id.cmp_isNaN_int, F.cmp_isNaN_int),
  (Id.slices_rotateCmpFunc_plan_Object, F.slices_rotateCmpFunc_plan_Object),
  (Id.slices_swapRangeCmpFunc_plan_Object, F.slices_swapRangeCmpFunc_plan_Object),
  (Id.cells_Plain_Bytes, F.cells_Plain_Bytes),
  (Id.cells_Plain_Cas, F.cells_Plain_Cas),
  (Id.cells_Plain_Words, F.cells_Plain_Words)]
def env0 : Env := { fn := fun g => tbl.lookup g, prim := fun _ => none }
end Go.Proofs.Ytfpfknafcgkcjaa
