/- The functions of this seat in the small language: printed by a program. -/
import Derived.Test.YtojjkphkfpeimaaGreatIrD
set_option linter.unusedVariables false
set_option linter.unusedSimpArgs false

namespace Go.Proofs.YtojjkphkfpeimaaGreat
open Go Go.Ir

def Id.zcs : Nat := 6
def Id.zcN : Nat := 8
def Id.zct : Nat := 9
def Id.zdm : Nat := 10
def Id.zdt : Nat := 12
def Id.zdn : Nat := 14
def Id.zao : Nat := 15
def Id.zds : Nat := 17
def Id.zcu : Nat := 18
def Id.zdq : Nat := 19
def Id.zdu : Nat := 20
def Id.zar : Nat := 21
def Id.zcK : Nat := 22
def Id.zdp : Nat := 33
def Id.zal : Nat := 34
def Id.zdo : Nat := 35
def Id.zcv : Nat := 36
def Id.zcc : Nat := 37
def Id.zak : Nat := 38
def Id.zbZ : Nat := 39
def Id.zaN : Nat := 40
def Id.zcd : Nat := 41
def Id.zdg : Nat := 42
def Id.zdv : Nat := 43
def Id.zdi : Nat := 44
def Id.zdj : Nat := 45
def Id.zat : Nat := 47
def Id.zcO : Nat := 50
def Id.zdr : Nat := 51
def Id.zcR : Nat := 52
def Id.zdh : Nat := 53
def Id.zcJ : Nat := 57
def Id.zcM : Nat := 59
def Id.zas : Nat := 64
def Id.zce : Nat := 65
def Id.zau : Nat := 66
def Id.zbU : Nat := 67
def Id.zbE : Nat := 68
def Id.zbY : Nat := 69
def Id.zbV : Nat := 70
def Id.zcP : Nat := 71
def Id.zaz : Nat := 72
def Id.zay : Nat := 73
def Id.zbj : Nat := 74
def Id.zbh : Nat := 75
def Id.zdl : Nat := 76
def Id.zbi : Nat := 77
def Id.zcS : Nat := 79
def Id.zcy : Nat := 84
def Id.zcI : Nat := 89
def Id.zcx : Nat := 90
def Id.zcH : Nat := 93
def Id.zcL : Nat := 95
def Id.zaG : Nat := 97
def Id.zca : Nat := 100
def Id.zbM : Nat := 101
def Id.zbN : Nat := 102
def Id.zbL : Nat := 103
def Id.zcb : Nat := 104
def Id.zbT : Nat := 105
def Id.zaH : Nat := 106
def Id.zbW : Nat := 107
def Id.zaB : Nat := 108
def Id.zaJ : Nat := 109
def Id.zaF : Nat := 110
def Id.zaE : Nat := 111
def Id.zaD : Nat := 112
def Id.zaC : Nat := 113
def Id.zaL : Nat := 114
def Id.zaM : Nat := 115
def Id.zbS : Nat := 116
def Id.zaj : Nat := 117
def Id.zbx : Nat := 118
def Id.zcr : Nat := 119
def Id.zdD : Nat := 120
def Id.zci : Nat := 121
def Id.zcj : Nat := 122
def Id.zcw : Nat := 130
def Id.zcz : Nat := 131
def Id.zcA : Nat := 133
def Id.zcC : Nat := 139
def Id.zcG : Nat := 140
def Id.zcD : Nat := 141
def Id.zcE : Nat := 142
def Id.zcF : Nat := 143
def Id.zbq : Nat := 145
def Id.zbQ : Nat := 146
def Id.zbK : Nat := 147
def Id.zbP : Nat := 148
def Id.zbJ : Nat := 149
def Id.zba : Nat := 150
def Id.zbR : Nat := 151
def Id.zaK : Nat := 152
def Id.zbA : Nat := 153
def Id.zbX : Nat := 154
def Id.zaI : Nat := 155
def Id.zaR : Nat := 156
def Id.zaT : Nat := 157
def Id.zbl : Nat := 158
def Id.zcZ : Nat := 159
def Id.zbz : Nat := 160
def Id.zck : Nat := 161
def Id.zaY : Nat := 162
def Id.zbb : Nat := 163
def Id.zcB : Nat := 170
def Id.zbs : Nat := 189
def Id.zbn : Nat := 190
def Id.zbo : Nat := 191
def Id.zbm : Nat := 192
def Id.zbf : Nat := 193
def Id.zbp : Nat := 194
def Id.zaO : Nat := 195
def Id.zcl : Nat := 196
def Id.zaA : Nat := 197
def Id.zbe : Nat := 198
def Id.zaS : Nat := 199
def Id.zaU : Nat := 200
def Id.zbD : Nat := 201
def Id.zbB : Nat := 202
def Id.zaZ : Nat := 203
def Id.zbc : Nat := 204
def Id.zbr : Nat := 215
def Id.zbg : Nat := 216
def Id.zcQ : Nat := 217
def Id.zcT : Nat := 218
def Id.zcn : Nat := 219
def Id.zbk : Nat := 220
def Id.zaX : Nat := 221
def Id.zbC : Nat := 222
def Id.zby : Nat := 223
def Id.zcW : Nat := 227
def Id.zaw : Nat := 228
def Id.zav : Nat := 229
def Id.zcm : Nat := 230
def Id.zbd : Nat := 231
def Id.zcU : Nat := 234
def Id.zcY : Nat := 235
def Id.zax : Nat := 236
def Id.zcV : Nat := 237
def Id.zcX : Nat := 238
def Id.zam : Nat := 254
def Id.zan : Nat := 255
def Id.zap : Nat := 256
def Id.zaq : Nat := 257
def Id.zaa : Nat := 258
def Id.zaf : Nat := 259
def Id.zai : Nat := 260
def Id.zad : Nat := 261
def Id.zdc : Nat := 262
def Id.zab : Nat := 263
def Id.zae : Nat := 264
def Id.zag : Nat := 265
def Id.zah : Nat := 266
def Id.zdb : Nat := 267
def Id.zac : Nat := 268
def Id.zda : Nat := 269
def Id.zde : Nat := 270
def Id.zbG : Nat := 271
def Id.zdf : Nat := 272
def Id.zdd : Nat := 273
def Id.zbF : Nat := 274
def Id.zbH : Nat := 275
def Id.zbO : Nat := 276
def Id.zbI : Nat := 277
def Id.zbt : Nat := 280
def Id.zbv : Nat := 281
def Id.zbw : Nat := 282
def Id.zbu : Nat := 283
def Id.zaV : Nat := 284
def Id.zaW : Nat := 285
def Id.zco : Nat := 286
def Id.zcp : Nat := 287
def Id.zcq : Nat := 288
def Id.zdw : Nat := 290
def Id.zdB : Nat := 291
def Id.zdx : Nat := 292
def Id.zdy : Nat := 293
def Id.zdA : Nat := 294
def Id.zdz : Nat := 295
def Id.zaP : Nat := 296
def Id.zdC : Nat := 297
def Id.zaQ : Nat := 298
def Id.zcf : Nat := 299
def Id.zch : Nat := 300
def Id.zcg : Nat := 301
def Id.zdk : Nat := 302

def F.zcs : qal := ⟨[3],.s [.o 3 (.lbox 0),.b 6 false] (.seq (.s [.m 12 1,.m 13 2,.c 14 Id.zcN [12,oi 20,13,oi 300],.o 15 (.un .not 14)] (.cond 15 (.s [.c 16 Id.zct [],.m 6 16] .ret) .skip)) (.s [.o 17 (.lload none 3 0 (some 3)),.m 18 1,.m 19 2,.c 20 Id.zcu [17,18,19],.m 7 20] (.s [.o 22 (.lload none 3 0 (some 3)),.m 23 1,.c 24 Id.zdm [22,23],.m 21 24,.x 25 21 0,.x 26 21 1,.m 8 25,.m 9 26] (.seq (.s [.m 27 9,.j 28 .neq 27 (oi 0)] (.cond 28 (.s [.m 29 7,.o 30 (.eqv false (.nil 0) 29 (.const (.pointer none))),.m 31 30,.w 32 (.call Id.zct []) 31 true,.o 33 (.pick 31 32 (ob false)),.m 6 33] .ret) .skip)) (.seq (.s [.m 34 7,.o 35 (.eqv false (.nil 0) 34 (.const (.pointer none)))] (.cond 35 (.s [.b 6 false] .ret) .skip)) (.seq (.s [.i 10 0] (.block 0 (.loop [2,3,7,8,10] (.seq (.s [.m 36 10,.m 37 2,.o 38 (.len false 37),.j 39 .lss 36 38] (.cond 39 .skip (.exit 0))) (.seq (.block 1 (.s [.m 42 8,.o 43 (.laddr none 3 2),.o 44 (.lload (some 43) 3 2 none),.j 45 .add 44 (oi 1),.c 46 Id.zdt [42,45]] (.s [.m 47 8,.m 48 2,.m 49 10,.o 50 (.iaddr none 1 48 49),.l 51 50,.c 52 Id.zdt [47,51]] (.r [.m 53 8,.c 54 Id.zdt [53,oi (-1)]])))) (.r [.m 40 10,.j 41 .add 40 (oi 1),.m 10 41])))))) (.seq (.s [.i 11 0] (.block 2 (.loop [7,8,11] (.seq (.s [.m 55 11,.m 56 7,.c 57 Id.zdn [56],.c 58 Id.zar [57],.j 59 .lss 55 58] (.cond 59 .skip (.exit 2))) (.seq (.block 3 (.s [.m 62 7,.c 63 Id.zdn [62],.m 64 11,.c 65 Id.zao [63,64],.m 66 8,.c 67 Id.zdn [66],.m 68 11,.c 69 Id.zao [67,68],.j 70 .neq 65 69] (.cond 70 (.s [.b 6 false] .ret) .skip))) (.r [.m 60 11,.j 61 .add 60 (oi 1),.m 11 61])))))) (.s [.m 71 7,.c 72 Id.zds [71],.m 73 8,.c 74 Id.zds [73],.c 75 Id.zcK [72,74],.m 76 75,.w 77 (.mov 7) 76 true,.w 78 (.call Id.zdq [77]) 76 true,.w 79 (.mov 8) 76 true,.w 80 (.call Id.zdq [79]) 76 true,.w 81 (.eqv false .bool 78 80) 76 true,.o 82 (.pick 76 81 (ob false)),.m 83 82,.w 84 (.call Id.zct []) 83 true,.o 85 (.pick 83 84 (ob false)),.m 6 85] .ret)))))))),[.tmp 6],false,3⟩

def F.zcN : qal := ⟨[],.s [.b 8 false] (.s [.i 9 0] (.seq (.s [.i 10 0] (.block 0 (.loop [0,1,2,3,9,10] (.seq (.s [.m 11 10,.m 12 0,.o 13 (.len false 12),.j 14 .lss 11 13] (.cond 14 .skip (.exit 0))) (.seq (.block 1 (.r [.m 17 9,.m 18 0,.m 19 10,.o 20 (.iaddr none 1 18 19),.l 21 20,.o 22 (.len false 21),.j 23 .add 17 22,.m 9 23])) (.r [.m 15 10,.j 16 .add 15 (oi 1),.m 10 16])))))) (.s [.m 24 9,.m 25 1,.j 26 .leq 24 25,.m 27 26,.w 28 (.mov 0) 27 true,.w 29 (.len false 28) 27 true,.w 30 (.bin .leq 29 (oi 4)) 27 true,.o 31 (.pick 27 30 (ob false)),.m 32 31,.w 33 (.mov 2) 32 true,.w 34 (.len false 33) 32 true,.w 35 (.mov 3) 32 true,.w 36 (.bin .leq 34 35) 32 true,.o 37 (.pick 32 36 (ob false)),.m 8 37] .ret))),[.tmp 8],false,4⟩

def F.zct : qal := ⟨[1],.s [.b 0 false] (.s [.o 17 (.build [.int .i64 0,.int .i64 0,.int .i64 0] [(0,1,oi 64),(1,1,oi 2),(2,1,oi 2)]),.o 1 (.lbox (.const (.agg #[.int .i64 0,.int .i64 0,.int .i64 0]))),.o 1 (.lstore none 1 0 3 17)] (.s [.o 19 (.lload none 1 0 (some 3)),.o 20 (.build [.int .i64 0,.int .i64 0,.int .i64 0,.int .i64 0] [(3,1,oi 8)]),.o 21 (.buildSlice 4 1 [.int .i64 0,.int .i64 0,.int .i64 0,.int .i64 0] [(0,4,20)]),.o 22 (.buildSlice 1 1 [.slice none 0 0] [(0,1,21)]),.c 23 Id.zdm [19,22],.m 18 23,.x 24 18 0,.x 25 18 1,.m 2 24,.m 3 25] (.seq (.s [.m 26 2,.o 27 (.eqv false (.nil 0) 26 (.const (.pointer none)))] (.cond 27 (.s [.b 0 false] .ret) .skip)) (.seq (.s [.i 4 0] (.block 0 (.loop [1,2,3,4] (.seq (.s [.m 28 4,.j 29 .lss 28 (oi 23)] (.cond 29 .skip (.exit 0))) (.seq (.block 1 (.r [.m 32 2,.c 33 Id.zdt [32,oi 0]])) (.r [.m 30 4,.j 31 .add 30 (oi 1),.m 4 31])))))) (.s [.m 34 2,.c 35 Id.zdt [34,oi 0],.m 5 35] (.s [.m 36 2,.c 37 Id.zdt [36,oi 2],.m 6 37] (.s [.m 38 2,.c 39 Id.zdt [38,oi 3],.m 7 39] (.seq (.s [.i 8 0] (.block 2 (.loop [1,2,3,5,6,7,8] (.seq (.s [.m 40 8,.j 41 .lss 40 (oi 20)] (.cond 41 .skip (.exit 2))) (.seq (.block 3 (.r [.m 44 2,.c 45 Id.zdt [44,oi 2]])) (.r [.m 42 8,.j 43 .add 42 (oi 1),.m 8 43])))))) (.s [.m 47 2,.c 48 Id.zdp [47],.m 46 48,.x 49 46 0,.x 50 46 1,.x 51 46 2,.m 9 49,.m 10 50,.m 11 51] (.s [.c 53 Id.zcv [oi 0,oi 0],.m 52 53,.x 54 52 0,.x 55 52 1,.m 12 54,.m 13 55] (.s [.o 57 (.build [.int .i64 0,.int .i64 0,.int .i64 0] []),.c 58 Id.zdm [57,.const (.slice none 0 0)],.m 56 58,.x 59 56 0,.x 60 56 1,.m 14 59,.m 15 60] (.s [.m 61 2,.c 62 Id.zds [61],.m 16 62] (.s [.m 63 3,.j 64 .eql 63 (oi 0),.m 65 64,.w 66 (.mov 5) 65 true,.w 67 (.un .not 66) 65 true,.o 68 (.pick 65 67 (ob false)),.m 69 68,.w 70 (.mov 6) 69 true,.o 71 (.pick 69 70 (ob false)),.m 72 71,.w 73 (.mov 7) 72 true,.w 74 (.un .not 73) 72 true,.o 75 (.pick 72 74 (ob false)),.m 76 75,.w 77 (.mov 16) 76 true,.w 78 (.len false 77) 76 true,.w 79 (.bin .eql 78 (oi 2)) 76 true,.o 80 (.pick 76 79 (ob false)),.m 81 80,.w 82 (.mov 16) 81 true,.w 83 (.iaddr none 8 82 (oi 1)) 81 true,.w 84 (.load (some 8) 83) 81 true,.w 85 (.mov 12) 81 true,.w 86 (.build [.int .i64 0,.int .i64 0] [(1,1,85)]) 81 true,.w 87 (.build [.int .i64 0,.bool false,.int .i64 0,.int .i64 0,.int .i64 0,.int .i64 0,.int .i64 0,.int .i64 0] [(1,1,.const (.bool true)),(6,2,86)]) 81 true,.w 88 (.eqv false (.cells [(0,0),(1,1),(2,0),(3,0),(4,0),(5,0),(6,0),(7,0)]) 84 87) 81 true,.o 89 (.pick 81 88 (ob false)),.m 90 89,.w 91 (.mov 2) 90 true,.w 92 (.call Id.zdq [91]) 90 true,.o 93 (.pick 90 92 (ob false)),.m 94 93,.w 95 (.mov 2) 94 true,.w 96 (.call Id.zdu [95]) 94 true,.o 97 (.pick 94 96 (ob false)),.m 98 97,.w 99 (.mov 9) 98 true,.w 100 (.bin .eql 99 (oi 3)) 98 true,.o 101 (.pick 98 100 (ob false)),.m 102 101,.w 103 (.mov 10) 102 true,.w 104 (.bin .eql 103 (oi 0)) 102 true,.o 105 (.pick 102 104 (ob false)),.m 106 105,.w 107 (.mov 11) 106 true,.w 108 (.bin .eql 107 (oi 0)) 106 true,.o 109 (.pick 106 108 (ob false)),.m 110 109,.w 111 (.mov 2) 110 true,.w 112 (.call Id.zdo [111]) 110 true,.w 113 (.lload none 1 0 (some 3)) 110 true,.w 114 (.eqv false (.cells [(0,0),(1,0),(2,0)]) 112 113) 110 true,.o 115 (.pick 110 114 (ob false)),.m 116 115,.w 117 (.mov 2) 116 true,.w 118 (.call Id.zdn [117]) 116 true,.w 119 (.call Id.zao [118,oi 0]) 116 true,.w 120 (.bin .eql 119 (oi 8)) 116 true,.o 121 (.pick 116 120 (ob false)),.m 122 121,.w 123 (.mov 15) 122 true,.w 124 (.bin .eql 123 (oi 1)) 122 true,.o 125 (.pick 122 124 (ob false)),.m 0 125] .ret))))))))))))),[.tmp 0],false,0⟩

def F.zdm : qal := ⟨[2,6],.s [.o 2 (.lbox 0),.o 4 (.mov (.const (.pointer none))),.i 5 0] (.s [.o 12 (.lload none 2 0 (some 3)),.c 13 Id.zcc [12],.m 11 13,.x 14 11 0,.x 15 11 1,.o 6 (.lbox (.const (.agg #[.int .i64 0,.int .i64 0]))),.o 6 (.lstore none 6 0 2 14),.m 7 15] (.seq (.s [.m 16 7,.j 17 .neq 16 (oi 0),.m 18 17,.w 19 (.mov 1) 18 false,.w 20 (.len false 19) 18 false,.w 21 (.laddr none 2 2) 18 false,.w 22 (.lload (some 21) 2 2 none) 18 false,.w 23 (.bin .gtr 20 22) 18 false,.o 24 (.pick 18 (ob true) 23)] (.cond 24 (.s [.o 4 (.mov (.const (.pointer none))),.i 5 1] .ret) .skip)) (.s [.o 25 (.lload none 6 0 (some 2)),.c 26 Id.zbZ [25],.o 27 (.laddr none 2 0),.o 28 (.lload (some 27) 2 0 none),.c 29 Id.zak [26,28],.o 31 (.lload none 2 0 (some 3)),.c 32 Id.zaN [31],.o 30 (.lload none 2 0 (some 3)),.o 33 (.build [.pointer none,.int .i64 0,.int .i64 0,.int .i64 0,.slice none 0 0,.pointer none,.slice none 0 0,.int .i64 0,.int .i64 0,.int .i64 0] [(0,1,29),(1,3,30),(5,1,32)]),.o 34 (.box 33),.m 8 34] (.s [.m 35 8,.k 36 35,.f 37 0 36,.l 38 37,.o 39 (.mkif 39 38),.o 40 (.lload none 2 0 (some 3)),.c 41 Id.zcd [39,40]] (.seq (.s [.o 42 (.laddr none 2 2),.o 43 (.lload (some 42) 2 2 none),.i 44 0] (.block 0 (.loop [1,2,8,43,44] (.s [.j 45 .lss 44 43] (.seq (.cond 45 .skip (.exit 0)) (.seq (.block 1 (.s [.m 46 44,.m 9 46] (.s [.o 10 (.mov (.const (.slice none 0 0)))] (.seq (.s [.m 47 9,.m 48 1,.o 49 (.len false 48),.j 50 .lss 47 49] (.cond 50 (.r [.m 51 1,.m 52 9,.o 53 (.iaddr none 1 51 52),.l 54 53,.m 10 54]) .skip)) (.r [.o 60 (.lload none 2 0 (some 3)),.m 61 9,.m 62 10,.c 63 Id.zdg [60,61,62],.m 56 8,.k 57 56,.f 58 4 57,⟨some 59,.load none 58,none,1⟩,.o 64 (.buildSlice 1 1 [.pointer none] [(0,1,63)]),.o 65 (.append 1 8 59 64),.m 55 8,.k 66 55,.f 67 4 66,.e (.store 1 67 65)]))))) (.r [.j 68 .add 44 (oi 1),.m 44 68]))))))) (.s [.m 69 8,.m 4 69,.i 5 0] .ret)))))),[.tmp 4,.tmp 5],false,2⟩

def F.zdt : qal := ⟨[],.s [.b 4 false] (.seq (.block 0 (.s [.m 6 0,.o 7 (.eqv false (.nil 0) 6 (.const (.pointer none))),.m 8 7,.w 9 (.mov 1) 8 false,.w 10 (.bin .lss 9 (oi 0)) 8 false,.o 11 (.pick 8 (ob true) 10),.m 12 11,.w 13 (.mov 1) 12 false,.w 14 (.mov 0) 12 false,.w 15 (.nilchk 14) 12 false,.w 16 (.faddr 1 15) 12 false,.w 17 (.faddr 2 16) 12 false,.w 18 (.load none 17) 12 false,.w 19 (.bin .gtr 13 18) 12 false,.o 20 (.pick 12 (ob true) 19),.m 5 20] (.cond 5 (.s [.b 4 false] .ret) (.s [.m 22 1,.m 23 0,.k 24 23,.f 25 1 24,.f 26 2 25,.l 27 26,.j 28 .eql 22 27,.m 21 28] (.cond 21 (.s [.m 29 0,.c 30 Id.zdv [29]] (.s [.b 4 true] .ret)) (.s [.m 32 0,.k 33 32,.f 34 4 33,.l 35 34,.m 36 1,.o 37 (.iaddr none 1 35 36),.l 38 37,.c 39 Id.zdi [38],.m 31 39] (.cond 31 (.s [.b 4 false] .ret) .skip))))))) (.s [.m 45 0,.k 46 45,.f 47 4 46,.l 48 47,.m 49 1,.o 50 (.iaddr none 1 48 49),.l 51 50,.m 52 0,.k 53 52,.f 54 0 53,.l 55 54,.o 56 (.mkif 39 55),.c 57 Id.zdj [51,56],.m 41 0,.k 42 41,.f 43 6 42,⟨some 44,.load none 43,none,1⟩,.o 58 (.append 8 64 44 57),.m 40 0,.k 59 40,.f 60 6 59,.e (.store 1 60 58)] (.s [.b 4 true] .ret))),[.tmp 4],false,2⟩

def F.zdn : qal := ⟨[],.s [.o 2 (.mov (.const (.pointer none)))] (.seq (.s [.m 3 0,.o 4 (.eqv false (.nil 0) 3 (.const (.pointer none)))] (.cond 4 (.s [.o 2 (.mov (.const (.pointer none)))] .ret) .skip)) (.s [.m 5 0,.k 6 5,.f 7 0 6,.l 8 7,.m 2 8] .ret)),[.tmp 2],false,1⟩

def F.zao : qal := ⟨[],.s [.i 4 0] (.seq (.s [.m 5 0,.m 6 1,.c 7 Id.zat [5,6],.o 8 (.un .not 7)] (.cond 8 (.s [.i 4 0] .ret) .skip)) (.s [.m 9 0,.k 10 9,.f 11 0 10,.l 12 11,.m 13 1,.o 14 (.iaddr none 1 12 13),.l 15 14,.m 4 15] .ret)),[.tmp 4],false,2⟩

def F.zds : qal := ⟨[],.s [.o 2 (.mov (.const (.slice none 0 0)))] (.seq (.s [.m 3 0,.o 4 (.eqv false (.nil 0) 3 (.const (.pointer none)))] (.cond 4 (.s [.o 2 (.mov (.const (.slice none 0 0)))] .ret) .skip)) (.s [.m 5 0,.k 6 5,.f 7 6 6,.l 8 7,.c 9 Id.zcO [8],.m 2 9] .ret)),[.tmp 2],false,1⟩

def F.zcu : qal := ⟨[3],.s [.o 3 (.lbox 0),.o 6 (.mov (.const (.pointer none)))] (.s [.o 11 (.lload none 3 0 (some 3)),.m 12 1,.c 13 Id.zdm [11,12],.m 10 13,.x 14 10 0,.x 15 10 1,.m 7 14,.m 8 15] (.seq (.s [.m 16 8,.j 17 .neq 16 (oi 0)] (.cond 17 (.s [.o 6 (.mov (.const (.pointer none)))] .ret) .skip)) (.seq (.s [.i 9 0] (.block 0 (.loop [2,7,9] (.seq (.s [.m 18 9,.m 19 2,.o 20 (.len false 19),.j 21 .lss 18 20] (.cond 21 .skip (.exit 0))) (.seq (.block 1 (.r [.m 24 7,.m 25 2,.m 26 9,.o 27 (.iaddr none 1 25 26),.l 28 27,.c 29 Id.zdt [24,28]])) (.r [.m 22 9,.j 23 .add 22 (oi 1),.m 9 23])))))) (.s [.m 30 7,.m 6 30] .ret)))),[.tmp 6],false,3⟩

def F.zdq : qal := ⟨[],.s [.b 2 false] (.s [.o 3 (.mov (.func Id.zdr))] (.s [.m 4 0,.o 5 (.eqv false (.nil 0) 4 (.const (.pointer none))),.m 6 5,.w 7 (.mov 0) 6 false,.w 8 (.nilchk 7) 6 false,.w 9 (.faddr 4 8) 6 false,.w 10 (.load none 9) 6 false,.w 11 (.mov 3) 6 false,.w 12 (.call Id.zcR [10,11]) 6 false,.w 13 (.un .not 12) 6 false,.o 14 (.pick 6 (ob true) 13),.m 2 14] .ret)),[.tmp 2],false,1⟩

def F.zdu : qal := ⟨[],.s [.b 2 false] (.s [.m 3 0,.o 4 (.eqv false (.nil 0) 3 (.const (.pointer none))),.m 5 4,.w 6 (.mov 0) 5 false,.w 7 (.nilchk 6) 5 false,.w 8 (.faddr 4 7) 5 false,.w 9 (.load none 8) 5 false,.w 10 (.call Id.zcR [9,.func Id.zdh]) 5 false,.w 11 (.un .not 10) 5 false,.o 12 (.pick 5 (ob true) 11),.m 2 12] .ret),[.tmp 2],false,1⟩

def F.zar : qal := ⟨[],.s [.i 2 0] (.seq (.s [.m 3 0,.o 4 (.eqv false (.nil 0) 3 (.const (.pointer none)))] (.cond 4 (.s [.i 2 0] .ret) .skip)) (.s [.m 5 0,.k 6 5,.f 7 0 6,.l 8 7,.o 9 (.len false 8),.m 2 9] .ret)),[.tmp 2],false,1⟩

def F.zcK : qal := ⟨[],.s [.b 4 false] (.seq (.s [.m 6 0,.o 7 (.len false 6),.m 8 1,.o 9 (.len false 8),.j 10 .neq 7 9] (.cond 10 (.s [.b 4 false] .ret) .skip)) (.seq (.s [.i 5 0] (.block 0 (.loop [0,1,5] (.seq (.s [.m 11 5,.m 12 0,.o 13 (.len false 12),.j 14 .lss 11 13] (.cond 14 .skip (.exit 0))) (.seq (.block 1 (.s [.m 17 0,.m 18 5,.o 19 (.iaddr none 8 17 18),.o 20 (.load (some 8) 19),.m 21 1,.m 22 5,.o 23 (.iaddr none 8 21 22),.o 24 (.load (some 8) 23),.o 25 (.eqv true (.cells [(0,0),(1,1),(2,0),(3,0),(4,0),(5,0),(6,0),(7,0)]) 20 24)] (.cond 25 (.s [.b 4 false] .ret) .skip))) (.r [.m 15 5,.j 16 .add 15 (oi 1),.m 5 16])))))) (.s [.b 4 true] .ret))),[.tmp 4],true,2⟩

def F.zdp : qal := ⟨[],.s [.i 2 0,.i 3 0,.i 4 0] (.seq (.s [.m 5 0,.o 6 (.eqv false (.nil 0) 5 (.const (.pointer none)))] (.cond 6 (.s [.i 2 0,.i 3 0,.i 4 0] .ret) .skip)) (.s [.m 7 0,.k 8 7,.f 9 7 8,.l 10 9,.m 11 0,.k 12 11,.f 13 8 12,.l 14 13,.m 15 0,.k 16 15,.f 17 9 16,.l 18 17,.m 2 10,.m 3 14,.m 4 18] .ret)),[.tmp 2,.tmp 3,.tmp 4],false,1⟩

def F.zal : qal := ⟨[],.s [.i 4 0] (.seq (.s [.m 5 0,.m 6 1,.c 7 Id.zas [5,6],.o 8 (.un .not 7)] (.cond 8 (.s [.i 4 0] .ret) .skip)) (.s [.m 9 0,.k 10 9,.f 11 1 10,.l 12 11,.m 13 1,.o 14 (.iaddr none 1 12 13),.l 15 14,.o 16 (.conv (.int .i64) 15),.m 4 16] .ret)),[.tmp 4],false,2⟩

def F.zdo : qal := ⟨[2],.s [.o 2 (.lbox (.const (.agg #[.int .i64 0,.int .i64 0,.int .i64 0])))] (.seq (.s [.m 3 0,.o 4 (.eqv false (.nil 0) 3 (.const (.pointer none)))] (.cond 4 (.s [.o 5 (.build [.int .i64 0,.int .i64 0,.int .i64 0] []),.o 2 (.lstore none 2 0 3 5)] .ret) .skip)) (.s [.m 6 0,.k 7 6,.f 8 1 7,.o 9 (.load (some 3) 8),.o 2 (.lstore none 2 0 3 9)] .ret)),[.lb 2 (some 3)],false,1⟩

def F.zcv : qal := ⟨[],.s [.i 4 0,.i 5 0] (.seq (.s [.m 6 0,.j 7 .lss 6 (oi 0),.m 8 7,.w 9 (.mov 0) 8 false,.w 10 (.bin .gtr 9 (oi 63)) 8 false,.o 11 (.pick 8 (ob true) 10),.m 12 11,.w 13 (.mov 1) 12 false,.w 14 (.bin .lss 13 (oi 0)) 12 false,.o 15 (.pick 12 (ob true) 14),.m 16 15,.w 17 (.mov 1) 16 false,.w 18 (.bin .gtr 17 (oi 1000)) 16 false,.o 19 (.pick 16 (ob true) 18)] (.cond 19 (.s [.i 4 0,.i 5 1] .ret) .skip)) (.s [.m 20 0,.m 21 1,.j 22 .mul (oi 1048576) 21,.j 23 .add 20 22,.j 24 .add 23 (oi 1099511627776),.m 4 24,.i 5 0] .ret)),[.tmp 4,.tmp 5],true,2⟩

def F.zcc : qal := ⟨[1,2],.s [.o 1 (.lbox 0),.o 2 (.lbox (.const (.agg #[.int .i64 0,.int .i64 0]))),.i 3 0] (.seq (.s [.o 4 (.laddr none 1 0),.o 5 (.lload (some 4) 1 0 none),.c 6 Id.zce [5,oi 8,oi 4096],.o 7 (.un .not 6),.m 8 7,.w 9 (.laddr none 1 0) 8 false,.w 10 (.lload (some 9) 1 0 none) 8 false,.w 11 (.bin .rem 10 (oi 8)) 8 false,.w 12 (.bin .neq 11 (oi 0)) 8 false,.o 13 (.pick 8 (ob true) 12),.m 14 13,.w 15 (.laddr none 1 1) 14 false,.w 16 (.lload (some 15) 1 1 none) 14 false,.w 17 (.call Id.zce [16,oi 1,oi 64]) 14 false,.w 18 (.un .not 17) 14 false,.o 19 (.pick 14 (ob true) 18),.m 20 19,.w 21 (.laddr none 1 2) 20 false,.w 22 (.lload (some 21) 1 2 none) 20 false,.w 23 (.call Id.zce [22,oi 1,oi 4]) 20 false,.w 24 (.un .not 23) 20 false,.o 25 (.pick 20 (ob true) 24)] (.cond 25 (.s [.o 26 (.build [.int .i64 0,.int .i64 0] []),.o 2 (.lstore none 2 0 2 26),.i 3 1] .ret) .skip)) (.s [.o 27 (.laddr none 1 2),.o 28 (.lload (some 27) 1 2 none),.o 29 (.laddr none 1 1),.o 30 (.lload (some 29) 1 1 none),.o 31 (.build [.int .i64 0,.int .i64 0] [(0,1,28),(1,1,30)]),.o 2 (.lstore none 2 0 2 31),.i 3 0] .ret)),[.lb 2 (some 2),.tmp 3],true,1⟩

def F.zak : qal := ⟨[],.s [.o 4 (.mov (.const (.pointer none)))] (.seq (.s [.m 5 0,.m 6 1,.c 7 Id.zau [5,6],.o 8 (.un .not 7)] (.cond 8 (.s [.o 4 (.mov (.const (.pointer none)))] .ret) .skip)) (.s [.m 9 0,.o 10 (.mkslice 1 8 [.int .i64 0] 9 9),.m 11 1,.o 12 (.mkslice 1 1 [.int .u8 0] 11 11),.o 13 (.build [.slice none 0 0,.slice none 0 0,.int .i64 0] [(0,1,10),(1,1,12)]),.o 14 (.box 13),.m 4 14] .ret)),[.tmp 4],false,2⟩

def F.zbZ : qal := ⟨[1],.s [.o 1 (.lbox 0),.i 2 0] (.seq (.s [.o 3 (.lload none 1 0 (some 2)),.o 4 (.build [.int .i64 0,.int .i64 0] []),.o 5 (.eqv false (.cells [(0,0),(1,0)]) 3 4)] (.cond 5 (.s [.i 2 0] .ret) .skip)) (.s [.o 6 (.laddr none 1 0),.o 7 (.lload (some 6) 1 0 none),.j 8 .add (oi 4) 7,.o 9 (.laddr none 1 1),.o 10 (.lload (some 9) 1 1 none),.j 11 .mul (oi 3) 10,.j 12 .add 8 11,.m 2 12] .ret)),[.tmp 2],true,1⟩

def F.zaN : qal := ⟨[1,3],.s [.o 1 (.lbox 0),.o 2 (.mov (.const (.pointer none)))] (.s [.o 7 (.lload none 1 0 (some 3)),.c 8 Id.zcc [7],.m 6 8,.x 9 6 0,.x 10 6 1,.o 3 (.lbox (.const (.agg #[.int .i64 0,.int .i64 0]))),.o 3 (.lstore none 3 0 2 9),.m 4 10] (.s [.o 11 (.lload none 3 0 (some 2)),.o 12 (.lload none 1 0 (some 3)),.o 13 (.build [.int .i64 0,.int .i64 0,.int .i64 0,.int .i64 0,.int .i64 0,.int .i64 0,.int .i64 0,.int .i64 0,.int .i64 0,.int .i64 0,.int .i64 0,.int .i64 0,.bool false,.bool false,.slice none 0 0,.int .i64 0,.int .i64 0,.int .i64 0,.int .i64 0,.int .i64 0,.int .i64 0,.int .i64 0,.int .i64 0,.int .i64 0,.int .i64 0,.int .i64 0,.int .i64 0,.int .i64 0,.int .i64 0,.int .i64 0,.int .i64 0,.int .i64 0,.int .i64 0,.int .i64 0,.int .i64 0,.int .i64 0,.int .i64 0,.int .i64 0,.int .i64 0,.int .i64 0,.int .i64 0,.int .i64 0,.int .i64 0,.int .i64 0,.int .i64 0,.int .i64 0,.int .i64 0,.int .i64 0,.int .i64 0,.int .i64 0,.int .i64 0,.int .i64 0,.int .i64 0,.int .i64 0,.int .i64 0,.int .i64 0,.int .i64 0,.int .i64 0,.int .i64 0,.int .i64 0,.int .i64 0,.int .i64 0,.int .i64 0,.int .i64 0,.int .i64 0,.int .i64 0,.int .i64 0,.int .i64 0,.int .i64 0,.int .i64 0,.int .i64 0,.int .i64 0,.int .i64 0,.int .i64 0,.int .i64 0,.int .i64 0,.int .i64 0,.int .i64 0,.int .i64 0,.int .i64 0,.int .i64 0,.int .i64 0,.int .i64 0,.int .i64 0,.int .i64 0,.pointer none,.bool false] [(0,2,11),(2,3,12),(5,1,oi 1)]),.o 14 (.box 13),.m 5 14] (.seq (.s [.m 15 4,.j 16 .neq 15 (oi 0)] (.cond 16 (.r [.m 17 5,.k 18 17,.f 19 5 18,.e (.store 1 19 (oi 0))]) .skip)) (.s [.m 20 5,.m 2 20] .ret)))),[.tmp 2],false,1⟩

def F.zcd : qal := ⟨[3,5],.s [.o 3 (.lbox 1),.i 4 0] (.s [.o 13 (.lload none 3 0 (some 3)),.c 14 Id.zcc [13],.m 12 14,.x 15 12 0,.x 16 12 1,.o 5 (.lbox (.const (.agg #[.int .i64 0,.int .i64 0]))),.o 5 (.lstore none 5 0 2 15),.m 6 16] (.seq (.s [.m 17 6,.j 18 .neq 17 (oi 0),.m 19 18,.w 20 (.mov 0) 19 false,.w 21 (.eqv false (.nil 4) 20 (.const (.nilIface))) 19 false,.o 22 (.pick 19 (ob true) 21),.m 23 22,.w 24 (.mov 0) 23 false,.w 25 (.invoke [(39,Id.zar),(88,Id.zbZ)] 24 []) 23 false,.w 26 (.lload none 5 0 (some 2)) 23 false,.w 27 (.call Id.zbZ [26]) 23 false,.w 28 (.bin .lss 25 27) 23 false,.o 29 (.pick 23 (ob true) 28),.m 30 29,.w 31 (.mov 0) 30 false,.w 32 (.invoke [(39,Id.zam)] 31 []) 30 false,.w 33 (.laddr none 3 0) 30 false,.w 34 (.lload (some 33) 3 0 none) 30 false,.w 35 (.bin .lss 32 34) 30 false,.o 36 (.pick 30 (ob true) 35)] (.cond 36 (.s [.i 4 1] .ret) .skip)) (.seq (.s [.o 37 (.lload none 5 0 (some 2)),.c 38 Id.zbZ [37],.i 39 0] (.block 0 (.loop [0,5,38,39] (.s [.j 40 .lss 39 38] (.seq (.cond 40 .skip (.exit 0)) (.seq (.block 1 (.s [.m 41 39,.m 7 41] (.r [.m 42 0,.m 43 7,.o 44 (.invoke [(39,Id.zaq),(66,Id.zcA)] 42 [43,oi 0])]))) (.r [.j 45 .add 39 (oi 1),.m 39 45]))))))) (.s [.i 8 0] (.seq (.s [.o 46 (.laddr none 5 1),.o 47 (.lload (some 46) 5 1 none),.j 48 .sub 47 (oi 1),.m 9 48] (.block 2 (.loop [0,5,8,9] (.seq (.s [.m 49 9,.j 50 .geq 49 (oi 0)] (.cond 50 .skip (.exit 2))) (.seq (.block 3 (.s [.o 54 (.lload none 5 0 (some 2)),.m 55 9,.c 56 Id.zbU [54,55],.m 53 0,.m 57 8,.o 58 (.mkfn (.method "Store") [53] []),.o 59 (.nilchkm "Store" [(39,Id.zaq),(66,Id.zcA)] 58),.m 60 53,.o 61 (.invoke [(39,Id.zaq),(66,Id.zcA)] 60 [56,57])] (.r [.m 62 9,.j 63 .add 62 (oi 1),.m 8 63]))) (.r [.m 51 9,.j 52 .sub 51 (oi 1),.m 9 52])))))) (.s [.m 65 8,.c 66 Id.zbE [65,oi 0],.m 64 66,.x 67 64 0,.x 68 64 1,.m 10 67,.m 11 68] (.s [.o 70 (.lload none 5 0 (some 2)),.c 71 Id.zbY [70],.m 69 0,.m 72 10,.o 73 (.mkfn (.method "Store") [69] []),.o 74 (.nilchkm "Store" [(39,Id.zaq),(66,Id.zcA)] 73),.m 75 69,.o 76 (.invoke [(39,Id.zaq),(66,Id.zcA)] 75 [71,72])] (.s [.i 4 0] .ret)))))))),[.tmp 4],false,2⟩

def F.zdg : qal := ⟨[3,8],.s [.o 3 (.lbox 0),.o 6 (.mov (.const (.pointer none)))] (.s [.o 10 (.lload none 3 0 (some 3)),.m 11 1,.o 12 (.build [.int .i64 0,.int .i64 0,.int .i64 0,.int .i64 0,.slice none 0 0,.int .i64 0,.pointer none,.nilIface,.pointer none,.int .i64 0,.int .i64 0] [(0,3,10),(3,1,11)]),.o 13 (.box 12),.m 7 13] (.seq (.s [.o 15 (.lload none 3 0 (some 3)),.c 16 Id.zcc [15],.m 14 16,.x 17 14 0,.x 18 14 1,.o 8 (.lbox (.const (.agg #[.int .i64 0,.int .i64 0]))),.o 8 (.lstore none 8 0 2 17),.m 9 18] (.s [.m 19 9,.j 20 .eql 19 (oi 0),.m 21 20,.w 22 (.lload none 8 0 (some 2)) 21 true,.w 23 (.mov 1) 21 true,.w 24 (.call Id.zbV [22,23]) 21 true,.w 25 (.bin .geq 24 (oi 0)) 21 true,.o 26 (.pick 21 25 (ob false))] (.cond 26 (.r [.m 27 7,.m 28 2,.c 29 Id.zcP [28],.k 30 27,.f 31 4 30,.e (.store 1 31 29)]) .skip))) (.s [.m 32 7,.m 6 32] .ret))),[.tmp 6],false,3⟩

def F.zdv : qal := ⟨[2],.s [.m 5 0,.k 6 5,.f 7 5 6,.l 8 7,.m 9 0,.k 10 9,.f 11 0 10,.l 12 11,.o 13 (.mkif 39 12),.c 14 Id.zaz [8,13],.m 4 14,.x 15 4 0,.x 16 4 1,.o 2 (.lbox (.const (.agg #[.int .i64 0,.int .i64 0]))),.o 2 (.lstore none 2 0 2 15),.m 3 16] (.seq (.s [.m 17 3,.o 18 (.un .not 17)] (.cond 18 .ret .skip)) (.s [.m 19 0,.k 20 19,.f 21 7 20,.l 22 21,.j 23 .add 22 (oi 1),.k 24 19,.f 25 7 24,.e (.store 1 25 23)] (.s [.m 26 0,.k 27 26,.f 28 8 27,.l 29 28,.o 30 (.laddr none 2 1),.o 31 (.lload (some 30) 2 1 none),.j 32 .add 29 31,.k 33 26,.f 34 8 33,.e (.store 1 34 32)] (.seq (.s [.m 35 0,.k 36 35,.f 37 5 36,.l 38 37,.c 39 Id.zay [38]] (.cond 39 (.r [.m 40 0,.k 41 40,.f 42 9 41,.l 43 42,.j 44 .add 43 (oi 1),.k 45 40,.f 46 9 45,.e (.store 1 46 44)]) .skip)) (.r [.m 47 0,.m 48 0,.k 49 48,.f 50 1 49,.o 51 (.load (some 3) 50),.c 52 Id.zaN [51],.k 53 47,.f 54 5 53,.e (.store 1 54 52)]))))),[],false,1⟩

def F.zdi : qal := ⟨[],.s [.b 2 false] (.s [.m 3 0,.o 4 (.eqv false (.nil 0) 3 (.const (.pointer none))),.m 5 4,.w 6 (.mov 0) 5 false,.w 7 (.nilchk 6) 5 false,.w 8 (.faddr 4 7) 5 false,.w 9 (.load none 8) 5 false,.w 10 (.len false 9) 5 false,.w 11 (.bin .eql 10 (oi 0)) 5 false,.o 12 (.pick 5 (ob true) 11),.m 2 12] .ret),[.tmp 2],false,1⟩

def F.zdj : qal := ⟨[5],.s [.o 4 (.mov (.const (.slice none 0 0)))] (.seq (.s [.m 7 0,.c 8 Id.zdi [7],.m 9 8,.w 10 (.mov 1) 9 false,.w 11 (.eqv false (.nil 4) 10 (.const (.nilIface))) 9 false,.o 12 (.pick 9 (ob true) 11)] (.cond 12 (.s [.o 4 (.mov (.const (.slice none 0 0)))] .ret) .skip)) (.seq (.s [.m 13 0,.k 14 13,.f 15 5 14,.l 16 15] (.block 0 (.s [.j 18 .eql 16 (oi 0),.m 17 18] (.cond 17 (.s [.m 20 0,.k 21 20,.f 22 0 21,.o 23 (.load (some 3) 22),.m 24 0,.k 25 24,.f 26 3 25,.l 27 26,.c 28 Id.zbj [23,27],.m 19 0,.k 29 19,.f 30 6 29,.e (.store 1 30 28)] (.s [.m 31 0,.k 32 31,.f 33 6 32,.l 34 33,.m 35 1,.c 36 Id.zbh [34,35]] (.s [.m 37 0,.k 38 37,.f 39 5 38,.e (.store 1 39 (oi 1))] (.s [.m 40 0,.k 41 40,.f 42 3 41,.l 43 42,.m 44 0,.k 45 44,.f 46 4 45,.l 47 46,.o 48 (.iaddr none 4 47 (oi 0)),.o 49 (.load (some 4) 48),.o 50 (.build [.int .i64 0,.bool false,.int .i64 0,.int .i64 0,.int .i64 0,.int .i64 0,.int .i64 0,.int .i64 0] [(0,1,43),(2,4,49)]),.o 51 (.buildSlice 8 1 [.int .i64 0,.bool false,.int .i64 0,.int .i64 0,.int .i64 0,.int .i64 0,.int .i64 0,.int .i64 0] [(0,8,50)]),.m 4 51] .ret)))) (.s [.j 53 .eql 16 (oi 1),.m 52 53] (.cond 52 (.s [.m 54 0,.k 55 54,.f 56 6 55,.l 57 56,.m 58 1,.c 59 Id.zbh [57,58]] (.s [.m 63 0,.k 64 63,.f 65 0 64,.o 66 (.load (some 3) 65),.m 67 0,.k 68 67,.f 69 4 68,.l 70 69,.o 71 (.iaddr none 4 70 (oi 0)),.o 72 (.load (some 4) 71),.c 73 Id.zdl [66,72],.m 61 0,.m 60 73,.x 74 60 0,.k 76 61,.f 77 7 76,.e (.store 1 77 74),.m 62 0,.x 75 60 1,.k 78 62,.f 79 8 78,.e (.store 1 79 75)] (.r [.m 80 0,.k 81 80,.f 82 5 81,.e (.store 1 82 (oi 2))]))) (.s [.j 84 .eql 16 (oi 2),.m 83 84] (.cond 83 (.s [.m 86 0,.k 87 86,.f 88 7 87,.l 89 88,.m 90 1,.o 91 (.invoke [(68,Id.zcJ),(92,Id.zaz),(98,Id.zdj),(113,Id.zcM),(117,Id.zcI),(130,Id.zbl),(136,Id.zbh),(139,Id.zaa),(153,Id.zcH),(154,Id.zcL),(167,Id.zcC),(168,Id.zcG),(169,Id.zcD),(170,Id.zcE),(171,Id.zcF),(181,Id.zbt),(183,Id.zco),(185,Id.zdw),(187,Id.zcf),(190,Id.zdk),(205,Id.zdb),(206,Id.zdc),(209,Id.zcB)] 89 [90]),.m 85 91,.x 92 85 0,.x 93 85 1,.o 5 (.lbox (.const (.agg #[.int .i64 0,.int .i64 0]))),.o 5 (.lstore none 5 0 2 92),.m 6 93] (.s [.m 94 6] (.cond 94 (.r [.m 95 0,.m 96 0,.o 97 (.lload none 5 0 (some 2)),.k 98 95,.f 99 9 98,.e (.store 2 99 97),.k 100 96,.f 101 5 100,.e (.store 1 101 (oi 3))]) .skip))) (.s [.j 103 .eql 16 (oi 3),.m 102 103] (.cond 102 (.s [.m 104 1,.m 105 0,.k 106 105,.f 107 0 106,.o 108 (.load (some 3) 107),.m 109 0,.k 110 109,.f 111 3 110,.l 112 111,.c 113 Id.zbi [104,108,112]] (.s [.m 114 0,.m 115 0,.m 116 0,.k 117 116,.f 118 4 117,.l 119 118,.o 120 (.slice 4 119 (some (oi 1)) none none),.k 121 114,.f 122 4 121,.e (.store 1 122 120),.k 123 115,.f 124 5 123,.e (.store 1 124 (oi 0))] (.s [.m 125 0,.k 126 125,.f 127 3 126,.l 128 127,.m 129 0,.k 130 129,.f 131 9 130,.o 132 (.load (some 2) 131),.o 133 (.build [.int .i64 0,.bool false,.int .i64 0,.int .i64 0,.int .i64 0,.int .i64 0,.int .i64 0,.int .i64 0] [(0,1,128),(1,1,.const (.bool true)),(6,2,132)]),.o 134 (.buildSlice 8 1 [.int .i64 0,.bool false,.int .i64 0,.int .i64 0,.int .i64 0,.int .i64 0,.int .i64 0,.int .i64 0] [(0,8,133)]),.m 4 134] .ret))) .skip)))))))))) (.s [.o 4 (.mov (.const (.slice none 0 0)))] .ret))),[.tmp 4],false,2⟩

def F.zat : qal := ⟨[],.s [.b 4 false] (.seq (.s [.m 5 0,.o 6 (.eqv false (.nil 0) 5 (.const (.pointer none)))] (.cond 6 (.s [.b 4 false] .ret) .skip)) (.s [.m 7 0,.k 8 7,.f 9 2 8,.l 10 9,.j 11 .add 10 (oi 1),.k 12 7,.f 13 2 12,.e (.store 1 13 11)] (.s [.m 14 1,.j 15 .geq 14 (oi 0),.m 16 15,.w 17 (.mov 1) 16 true,.w 18 (.mov 0) 16 true,.w 19 (.nilchk 18) 16 true,.w 20 (.faddr 0 19) 16 true,.w 21 (.load none 20) 16 true,.w 22 (.len false 21) 16 true,.w 23 (.bin .lss 17 22) 16 true,.o 24 (.pick 16 23 (ob false)),.m 4 24] .ret))),[.tmp 4],false,2⟩

def F.zcO : qal := ⟨[],.s [.o 2 (.mov (.const (.slice none 0 0)))] (.seq (.s [.m 3 0,.o 4 (.eqv false (.nil 1) 3 (.const (.slice none 0 0)))] (.cond 4 (.s [.o 2 (.mov (.const (.slice none 0 0)))] .ret) .skip)) (.s [.o 5 (.buildSlice 8 0 [] []),.m 6 0,.o 7 (.append 8 64 5 6),.m 2 7] .ret)),[.tmp 2],false,1⟩

def F.zdr : qal := ⟨[],.s [.b 2 false] (.s [.m 3 0,.c 4 Id.zdi [3],.o 5 (.un .not 4),.m 2 5] .ret),[.tmp 2],false,1⟩

def F.zcR : qal := ⟨[],.s [.b 4 false] (.s [.m 5 0,.m 6 1,.c 7 Id.zcS [5,6],.j 8 .geq 7 (oi 0),.m 4 8] .ret),[.tmp 4],false,2⟩

def F.zdh : qal := ⟨[],.s [.b 2 false] (.s [.m 3 0,.o 4 (.eqv true (.nil 0) 3 (.const (.pointer none))),.m 5 4,.w 6 (.mov 0) 5 true,.w 7 (.nilchk 6) 5 true,.w 8 (.faddr 5 7) 5 true,.w 9 (.load none 8) 5 true,.w 10 (.bin .neq 9 (oi 0)) 5 true,.o 11 (.pick 5 10 (ob false)),.m 2 11] .ret),[.tmp 2],false,1⟩

def F.zas : qal := ⟨[],.s [.b 4 false] (.seq (.s [.m 5 0,.o 6 (.eqv false (.nil 0) 5 (.const (.pointer none)))] (.cond 6 (.s [.b 4 false] .ret) .skip)) (.s [.m 7 0,.k 8 7,.f 9 2 8,.l 10 9,.j 11 .add 10 (oi 1),.k 12 7,.f 13 2 12,.e (.store 1 13 11)] (.s [.m 14 1,.j 15 .geq 14 (oi 0),.m 16 15,.w 17 (.mov 1) 16 true,.w 18 (.mov 0) 16 true,.w 19 (.nilchk 18) 16 true,.w 20 (.faddr 1 19) 16 true,.w 21 (.load none 20) 16 true,.w 22 (.len false 21) 16 true,.w 23 (.bin .lss 17 22) 16 true,.o 24 (.pick 16 23 (ob false)),.m 4 24] .ret))),[.tmp 4],false,2⟩

def F.zce : qal := ⟨[],.s [.b 6 false] (.s [.m 7 0,.m 8 1,.j 9 .geq 7 8,.m 10 9,.w 11 (.mov 0) 10 true,.w 12 (.mov 2) 10 true,.w 13 (.bin .leq 11 12) 10 true,.o 14 (.pick 10 13 (ob false)),.m 6 14] .ret),[.tmp 6],true,3⟩

def F.zau : qal := ⟨[],.s [.b 4 false] (.s [.m 5 0,.j 6 .geq 5 (oi 1),.m 7 6,.w 8 (.mov 0) 7 true,.w 9 (.bin .leq 8 (oi 4096)) 7 true,.o 10 (.pick 7 9 (ob false)),.m 11 10,.w 12 (.mov 1) 11 true,.w 13 (.bin .geq 12 (oi 0)) 11 true,.o 14 (.pick 11 13 (ob false)),.m 15 14,.w 16 (.mov 1) 15 true,.w 17 (.bin .leq 16 (oi 4096)) 15 true,.o 18 (.pick 15 17 (ob false)),.m 4 18] .ret),[.tmp 4],true,2⟩

def F.zbU : qal := ⟨[2],.s [.o 2 (.lbox 0),.i 4 0] (.s [.o 5 (.lload none 2 0 (some 2)),.m 6 1,.c 7 Id.zca [5,6,oi 2],.m 4 7] .ret),[.tmp 4],true,2⟩

def F.zbE : qal := ⟨[],.s [.i 4 0,.i 5 0] (.seq (.s [.m 6 0,.c 7 Id.zbM [6],.o 8 (.un .not 7),.m 9 8,.w 10 (.mov 1) 9 false,.w 11 (.bin .lss 10 (oi 0)) 9 false,.o 12 (.pick 9 (ob true) 11),.m 13 12,.w 14 (.mov 1) 13 false,.w 15 (.bin .gtr 14 (oi 4294967295)) 13 false,.o 16 (.pick 13 (ob true) 15)] (.cond 16 (.s [.i 4 0,.i 5 1] .ret) .skip)) (.s [.m 17 0,.m 18 1,.c 19 Id.zbN [17,18],.c 20 Id.zbL [19],.m 4 20,.i 5 0] .ret)),[.tmp 4,.tmp 5],true,2⟩

def F.zbY : qal := ⟨[1],.s [.o 1 (.lbox 0),.i 2 0] (.s [.o 3 (.lload none 1 0 (some 2)),.c 4 Id.zcb [3,oi 1],.m 2 4] .ret),[.tmp 2],true,1⟩

def F.zbV : qal := ⟨[2],.s [.o 2 (.lbox 0),.i 4 0] (.seq (.s [.m 5 1,.o 6 (.laddr none 2 0),.o 7 (.lload (some 6) 2 0 none),.j 8 .sub 7 (oi 1),.c 9 Id.zce [5,oi 0,8],.o 10 (.un .not 9)] (.cond 10 (.s [.i 4 (-1)] .ret) .skip)) (.s [.m 11 1,.j 12 .add (oi 4) 11,.m 4 12] .ret)),[.tmp 4],true,2⟩

def F.zcP : qal := ⟨[],.s [.o 2 (.mov (.const (.slice none 0 0)))] (.seq (.s [.m 3 0,.o 4 (.eqv false (.nil 1) 3 (.const (.slice none 0 0)))] (.cond 4 (.s [.o 2 (.mov (.const (.slice none 0 0)))] .ret) .skip)) (.s [.o 5 (.buildSlice 4 0 [] []),.m 6 0,.o 7 (.append 4 32 5 6),.m 2 7] .ret)),[.tmp 2],false,1⟩

def F.zaz : qal := ⟨[4],.s [.o 4 (.lbox (.const (.agg #[.int .i64 0,.int .i64 0]))),.b 5 false] (.seq (.s [.m 6 0,.o 7 (.eqv false (.nil 0) 6 (.const (.pointer none))),.m 8 7,.w 9 (.mov 1) 8 false,.w 10 (.eqv false (.nil 4) 9 (.const (.nilIface))) 8 false,.o 11 (.pick 8 (ob true) 10),.m 12 11,.w 13 (.mov 0) 12 false,.w 14 (.nilchk 13) 12 false,.w 15 (.faddr 5 14) 12 false,.w 16 (.load none 15) 12 false,.w 17 (.bin .eql 16 (oi 0)) 12 false,.o 18 (.pick 12 (ob true) 17)] (.cond 18 (.s [.o 19 (.build [.int .i64 0,.int .i64 0] [(0,1,oi 1)]),.o 4 (.lstore none 4 0 2 19),.b 5 true] .ret) .skip)) (.seq (.s [.m 20 0,.k 21 20,.f 22 5 21,.l 23 22] (.block 0 (.s [.j 25 .eql 23 (oi 1),.m 24 25] (.cond 24 (.s [.m 28 0,.k 29 28,.f 30 0 29,.o 31 (.load (some 2) 30),.c 32 Id.zbT [31],.m 27 1,.o 33 (.mkfn (.method "Load") [27] []),.o 34 (.nilchkm "Load" [(39,Id.zao),(66,Id.zcy)] 33),.m 35 27,.o 36 (.invoke [(39,Id.zao),(66,Id.zcy)] 35 [32]),.m 26 0,.k 37 26,.f 38 6 37,.e (.store 1 38 36)] (.s [.m 39 0,.c 40 Id.zaH [39,oi 2],.x 41 40 0,.x 42 40 1,.o 4 (.lstore none 4 0 2 41),.m 5 42] .ret)) (.s [.j 44 .eql 23 (oi 2),.m 43 44] (.cond 43 (.seq (.s [.m 46 0,.k 47 46,.f 48 0 47,.o 49 (.load (some 2) 48),.c 50 Id.zbW [49],.m 45 1,.o 51 (.mkfn (.method "Load") [45] []),.o 52 (.nilchkm "Load" [(39,Id.zao),(66,Id.zcy)] 51),.m 53 45,.o 54 (.invoke [(39,Id.zao),(66,Id.zcy)] 53 [50]),.j 55 .neq 54 (oi 0)] (.cond 55 (.s [.m 56 0,.c 57 Id.zaB [56],.x 58 57 0,.x 59 57 1,.o 4 (.lstore none 4 0 2 58),.m 5 59] .ret) .skip)) (.s [.m 60 0,.c 61 Id.zaH [60,oi 3],.x 62 61 0,.x 63 61 1,.o 4 (.lstore none 4 0 2 62),.m 5 63] .ret)) (.s [.j 65 .eql 23 (oi 3),.m 64 65] (.cond 64 (.s [.m 66 0,.m 67 1,.c 68 Id.zaJ [66,67],.x 69 68 0,.x 70 68 1,.o 4 (.lstore none 4 0 2 69),.m 5 70] .ret) (.s [.j 72 .eql 23 (oi 4),.m 71 72] (.cond 71 (.s [.m 73 0,.m 74 1,.c 75 Id.zaF [73,74],.x 76 75 0,.x 77 75 1,.o 4 (.lstore none 4 0 2 76),.m 5 77] .ret) (.s [.j 79 .eql 23 (oi 5),.m 78 79] (.cond 78 (.s [.m 80 0,.m 81 1,.c 82 Id.zaE [80,81],.x 83 82 0,.x 84 82 1,.o 4 (.lstore none 4 0 2 83),.m 5 84] .ret) (.s [.j 86 .eql 23 (oi 6),.m 85 86] (.cond 85 (.s [.m 87 0,.m 88 1,.c 89 Id.zaD [87,88],.x 90 89 0,.x 91 89 1,.o 4 (.lstore none 4 0 2 90),.m 5 91] .ret) (.s [.j 93 .eql 23 (oi 7),.m 92 93] (.cond 92 (.s [.m 96 0,.c 97 Id.zaG [96],.m 95 1,.o 98 (.field 1 none 97),.m 99 0,.k 100 99,.f 101 82 100,⟨some 102,.load none 101,none,1⟩,.j 103 .add 98 102,.o 104 (.mkfn (.method "Byte") [95] []),.o 105 (.nilchkm "Byte" [(39,Id.zal),(66,Id.zcw)] 104),.m 106 95,.o 107 (.invoke [(39,Id.zal),(66,Id.zcw)] 106 [103]),.m 94 0,.k 108 94,.f 109 83 108,.e (.store 1 109 107)] (.s [.m 110 0,.c 111 Id.zaH [110,oi 8],.x 112 111 0,.x 113 111 1,.o 4 (.lstore none 4 0 2 112),.m 5 113] .ret)) (.s [.j 115 .eql 23 (oi 8),.m 114 115] (.cond 114 (.s [.m 116 0,.m 117 1,.c 118 Id.zaC [116,117],.x 119 118 0,.x 120 118 1,.o 4 (.lstore none 4 0 2 119),.m 5 120] .ret) (.s [.j 122 .eql 23 (oi 9),.m 121 122] (.cond 121 (.s [.m 123 0,.m 124 1,.c 125 Id.zaL [123,124],.x 126 125 0,.x 127 125 1,.o 4 (.lstore none 4 0 2 126),.m 5 127] .ret) (.s [.j 129 .eql 23 (oi 10),.m 128 129] (.cond 128 (.s [.m 130 0,.m 131 1,.c 132 Id.zaM [130,131],.x 133 132 0,.x 134 132 1,.o 4 (.lstore none 4 0 2 133),.m 5 134] .ret) .skip)))))))))))))))))))))) (.s [.m 137 0,.k 138 137,.f 139 0 138,.o 140 (.load (some 2) 139),.c 141 Id.zbT [140],.m 136 1,.m 142 0,.k 143 142,.f 144 6 143,⟨some 145,.load none 144,none,1⟩,.m 146 0,.k 147 146,.f 148 80 147,⟨some 149,.load none 148,none,1⟩,.o 150 (.mkfn (.method "Cas") [136] []),.o 151 (.nilchkm "Cas" [(39,Id.zan),(66,Id.zcx)] 150),.m 152 136,.o 153 (.invoke [(39,Id.zan),(66,Id.zcx)] 152 [141,145,149]),.m 135 0,.k 154 135,.f 155 86 154,.e (.store 1 155 153)] (.s [.m 156 0,.c 157 Id.zaB [156],.x 158 157 0,.x 159 157 1,.o 4 (.lstore none 4 0 2 158),.m 5 159] .ret)))),[.lb 4 (some 2),.tmp 5],false,2⟩

def F.zay : qal := ⟨[],.s [.b 2 false] (.s [.m 3 0,.o 4 (.eqv true (.nil 0) 3 (.const (.pointer none))),.m 5 4,.w 6 (.mov 0) 5 true,.w 7 (.nilchk 6) 5 true,.w 8 (.faddr 86 7) 5 true,.w 9 (.load none 8) 5 true,.o 10 (.pick 5 9 (ob false)),.m 2 10] .ret),[.tmp 2],false,1⟩

def F.zbj : qal := ⟨[2,5],.s [.o 2 (.lbox 0),.o 4 (.mov (.const (.pointer none)))] (.s [.o 9 (.lload none 2 0 (some 3)),.c 10 Id.zcc [9],.m 8 10,.x 11 8 0,.x 12 8 1,.o 5 (.lbox (.const (.agg #[.int .i64 0,.int .i64 0]))),.o 5 (.lstore none 5 0 2 11),.m 6 12] (.s [.o 14 (.lload none 5 0 (some 2)),.m 15 1,.c 16 Id.zbV [14,15],.o 13 (.lload none 5 0 (some 2)),.o 17 (.build [.int .i64 0,.int .i64 0,.int .i64 0,.int .i64 0,.int .i64 0] [(0,2,13),(2,1,16),(3,1,oi 1)]),.o 18 (.box 17),.m 7 18] (.seq (.s [.m 19 7,.k 20 19,.f 21 2 20,.l 22 21,.j 23 .lss 22 (oi 0)] (.cond 23 (.r [.m 24 7,.k 25 24,.f 26 3 25,.e (.store 1 26 (oi 0))]) .skip)) (.s [.m 27 7,.m 4 27] .ret)))),[.tmp 4],false,2⟩

def F.zbh : qal := ⟨[],.s [.b 4 false] (.seq (.s [.m 5 0,.o 6 (.eqv false (.nil 0) 5 (.const (.pointer none))),.m 7 6,.w 8 (.mov 1) 7 false,.w 9 (.eqv false (.nil 4) 8 (.const (.nilIface))) 7 false,.o 10 (.pick 7 (ob true) 9),.m 11 10,.w 12 (.mov 0) 11 false,.w 13 (.nilchk 12) 11 false,.w 14 (.faddr 3 13) 11 false,.w 15 (.load none 14) 11 false,.w 16 (.bin .eql 15 (oi 0)) 11 false,.o 17 (.pick 11 (ob true) 16)] (.cond 17 (.s [.b 4 true] .ret) .skip)) (.seq (.s [.m 18 0,.k 19 18,.f 20 3 19,.l 21 20,.j 22 .eql 21 (oi 1)] (.cond 22 (.s [.m 26 0,.k 27 26,.f 28 0 27,.o 29 (.load (some 2) 28),.c 30 Id.zbS [29],.m 25 1,.o 31 (.mkfn (.method "Load") [25] []),.o 32 (.nilchkm "Load" [(39,Id.zao),(66,Id.zcy)] 31),.m 33 25,.o 34 (.invoke [(39,Id.zao),(66,Id.zcy)] 33 [30]),.m 23 0,.k 35 23,.f 36 4 35,.e (.store 1 36 34),.m 24 0,.k 37 24,.f 38 3 37,.e (.store 1 38 (oi 2))] (.s [.b 4 false] .ret)) .skip)) (.s [.m 39 1,.m 40 0,.k 41 40,.f 42 2 41,.l 43 42,.m 44 0,.k 45 44,.f 46 4 45,.l 47 46,.j 48 .add 47 (oi 1),.o 49 (.mkfn (.method "Store") [39] []),.o 50 (.nilchkm "Store" [(39,Id.zaq),(66,Id.zcA)] 49),.m 51 39,.o 52 (.invoke [(39,Id.zaq),(66,Id.zcA)] 51 [43,48])] (.s [.m 53 0,.k 54 53,.f 55 3 54,.e (.store 1 55 (oi 0))] (.s [.b 4 true] .ret))))),[.tmp 4],false,2⟩

def F.zdl : qal := ⟨[2,3],.s [.o 2 (.lbox 0),.o 3 (.lbox 1),.o 4 (.mov (.const (.nilIface))),.o 5 (.mov (.const (.pointer none)))] (.seq (.s [.o 7 (.laddr none 3 0),.o 8 (.lload (some 7) 3 0 none)] (.block 0 (.s [.j 10 .eql 8 (oi 0),.m 9 10] (.cond 9 (.s [.o 11 (.lload none 2 0 (some 3)),.o 12 (.laddr none 3 3),.o 13 (.lload (some 12) 3 3 none),.c 14 Id.zaj [11,13],.m 6 14] (.s [.m 15 6,.o 16 (.mkif 139 15),.m 17 6,.m 4 16,.m 5 17] .ret)) (.s [.j 19 .eql 8 (oi 1),.m 18 19] (.cond 18 (.s [.o 20 (.lload none 2 0 (some 3)),.o 21 (.laddr none 3 1),.o 22 (.lload (some 21) 3 1 none),.c 23 Id.zbx [20,22],.o 24 (.mkif 181 23),.m 4 24,.o 5 (.mov (.const (.pointer none)))] .ret) (.s [.j 26 .eql 8 (oi 2),.m 25 26] (.cond 25 (.s [.o 27 (.lload none 2 0 (some 3)),.o 28 (.laddr none 3 1),.o 29 (.lload (some 28) 3 1 none),.o 30 (.laddr none 3 2),.o 31 (.lload (some 30) 3 2 none),.c 32 Id.zcr [27,29,31],.o 33 (.mkif 183 32),.m 4 33,.o 5 (.mov (.const (.pointer none)))] .ret) (.s [.j 35 .eql 8 (oi 3),.m 34 35] (.cond 34 (.s [.o 36 (.lload none 2 0 (some 3)),.o 37 (.laddr none 3 1),.o 38 (.lload (some 37) 3 1 none),.o 39 (.laddr none 3 2),.o 40 (.lload (some 39) 3 2 none),.o 41 (.laddr none 3 3),.o 42 (.lload (some 41) 3 3 none),.c 43 Id.zdD [36,38,40,42],.o 44 (.mkif 185 43),.m 4 44,.o 5 (.mov (.const (.pointer none)))] .ret) (.s [.j 46 .eql 8 (oi 4),.m 45 46] (.cond 45 (.s [.o 47 (.lload none 2 0 (some 3)),.o 48 (.laddr none 3 1),.o 49 (.lload (some 48) 3 1 none),.c 50 Id.zci [47,49],.o 51 (.mkif 187 50),.m 4 51,.o 5 (.mov (.const (.pointer none)))] .ret) (.s [.j 53 .eql 8 (oi 5),.m 52 53] (.cond 52 (.s [.o 54 (.lload none 2 0 (some 3)),.o 55 (.laddr none 3 1),.o 56 (.lload (some 55) 3 1 none),.c 57 Id.zcj [54,56],.o 58 (.mkif 187 57),.m 4 58,.o 5 (.mov (.const (.pointer none)))] .ret) .skip)))))))))))))) (.s [.o 59 (.build [] []),.o 60 (.mkif 190 59),.m 4 60,.o 5 (.mov (.const (.pointer none)))] .ret)),[.tmp 4,.tmp 5],false,2⟩

def F.zbi : qal := ⟨[4,6],.s [.o 4 (.lbox 1)] (.s [.o 10 (.lload none 4 0 (some 3)),.c 11 Id.zcc [10],.m 9 11,.x 12 9 0,.x 13 9 1,.o 6 (.lbox (.const (.agg #[.int .i64 0,.int .i64 0]))),.o 6 (.lstore none 6 0 2 12),.m 7 13] (.s [.o 14 (.lload none 6 0 (some 2)),.m 15 2,.c 16 Id.zbV [14,15],.m 8 16] (.s [.m 17 8,.j 18 .geq 17 (oi 0),.m 19 18,.w 20 (.mov 0) 19 true,.w 21 (.eqv true (.nil 4) 20 (.const (.nilIface))) 19 true,.o 22 (.pick 19 21 (ob false))] (.cond 22 (.r [.m 23 0,.m 24 8,.o 25 (.invoke [(39,Id.zaq),(66,Id.zcA)] 23 [24,oi 0])]) .skip)))),[],false,3⟩

def F.zcS : qal := ⟨[],.s [.i 4 0] (.seq (.s [.m 6 0,.o 7 (.len false 6),.i 8 0] (.block 0 (.loop [0,1,7,8] (.s [.j 9 .lss 8 7] (.seq (.cond 9 .skip (.exit 0)) (.seq (.block 1 (.s [.m 10 8,.m 5 10] (.s [.m 11 1,.m 12 0,.m 13 5,.o 14 (.iaddr none 1 12 13),.l 15 14,.o 16 (.callv 11 [15])] (.cond 16 (.s [.m 17 5,.m 4 17] .ret) .skip)))) (.r [.j 18 .add 8 (oi 1),.m 8 18]))))))) (.s [.i 4 (-1)] .ret)),[.tmp 4],false,2⟩

def F.zaG : qal := ⟨[2],.s [.o 2 (.lbox (.const (.agg #[.int .i64 0,.int .i64 0,.int .i64 0,.bool false])))] (.s [.m 3 0,.k 4 3,.f 5 14 4,.l 6 5,.m 7 0,.k 8 7,.f 9 79 8,.l 10 9,.o 11 (.iaddr none 4 6 10),.o 12 (.load (some 4) 11),.o 2 (.lstore none 2 0 4 12)] .ret),[.lb 2 (some 4)],false,1⟩

def F.zca : qal := ⟨[3],.s [.o 3 (.lbox 0),.i 6 0] (.seq (.s [.m 7 1,.o 8 (.laddr none 3 1),.o 9 (.lload (some 8) 3 1 none),.j 10 .sub 9 (oi 1),.c 11 Id.zce [7,oi 0,10],.o 12 (.un .not 11)] (.cond 12 (.s [.i 6 (-1)] .ret) .skip)) (.s [.o 13 (.laddr none 3 0),.o 14 (.lload (some 13) 3 0 none),.j 15 .add (oi 4) 14,.m 16 1,.j 17 .mul (oi 3) 16,.j 18 .add 15 17,.m 19 2,.j 20 .add 18 19,.m 6 20] .ret)),[.tmp 6],true,3⟩

def F.zbM : qal := ⟨[],.s [.b 2 false] (.s [.m 3 0,.j 4 .geq 3 (oi 0),.m 5 4,.w 6 (.mov 0) 5 true,.w 7 (.bin .leq 6 (oi 64)) 5 true,.o 8 (.pick 5 7 (ob false)),.m 2 8] .ret),[.tmp 2],true,1⟩

def F.zbN : qal := ⟨[],.s [.o 4 (.mov (.const (.complex .f64 0 0)))] (.s [.m 5 0,.o 6 (.conv (.float .f64) 5),.m 7 1,.o 8 (.conv (.float .f64) 7),.o 9 (.cplx 6 8),.m 4 9] .ret),[.tmp 4],true,2⟩

def F.zbL : qal := ⟨[],.s [.i 2 0] (.s [.c 6 Id.zbQ [],.m 7 0,.c 8 Id.zbK [7],.c 9 Id.zbq [oi 0,6,8],.m 5 9,.x 10 5 0,.x 11 5 1,.m 3 10,.m 4 11] (.s [.m 13 3,.c 14 Id.zbP [],.m 15 0,.c 16 Id.zbJ [15],.c 17 Id.zbq [13,14,16],.m 12 17,.x 18 12 0,.x 19 12 1,.m 3 18] (.s [.m 20 3,.m 2 20] .ret))),[.tmp 2],true,1⟩

def F.zcb : qal := ⟨[2],.s [.o 2 (.lbox 0),.i 4 0] (.seq (.s [.o 5 (.lload none 2 0 (some 2)),.o 6 (.build [.int .i64 0,.int .i64 0] []),.o 7 (.eqv false (.cells [(0,0),(1,0)]) 5 6)] (.cond 7 (.s [.i 4 (-1)] .ret) .skip)) (.s [.m 8 1,.m 4 8] .ret)),[.tmp 4],true,2⟩

def F.zbT : qal := ⟨[1],.s [.o 1 (.lbox 0),.i 2 0] (.s [.o 3 (.lload none 1 0 (some 2)),.c 4 Id.zcb [3,oi 0],.m 2 4] .ret),[.tmp 2],true,1⟩

def F.zaH : qal := ⟨[4],.s [.o 4 (.lbox (.const (.agg #[.int .i64 0,.int .i64 0]))),.b 5 false] (.s [.m 6 0,.m 7 1,.k 8 6,.f 9 5 8,.e (.store 1 9 7)] (.s [.o 10 (.build [.int .i64 0,.int .i64 0] []),.o 4 (.lstore none 4 0 2 10),.b 5 false] .ret)),[.lb 4 (some 2),.tmp 5],false,2⟩

def F.zbW : qal := ⟨[1],.s [.o 1 (.lbox 0),.i 2 0] (.s [.o 3 (.lload none 1 0 (some 2)),.c 4 Id.zcb [3,oi 2],.m 2 4] .ret),[.tmp 2],true,1⟩

def F.zaB : qal := ⟨[2],.s [.o 2 (.lbox (.const (.agg #[.int .i64 0,.int .i64 0]))),.b 3 false] (.s [.m 4 0,.k 5 4,.f 6 5 5,.e (.store 1 6 (oi 0))] (.s [.m 7 0,.k 8 7,.f 9 84 8,.l 10 9,.o 11 (.build [.int .i64 0,.int .i64 0] [(1,1,10)]),.o 2 (.lstore none 2 0 2 11),.b 3 true] .ret)),[.lb 2 (some 2),.tmp 3],false,1⟩

def F.zaJ : qal := ⟨[4,6],.s [.o 4 (.lbox (.const (.agg #[.int .i64 0,.int .i64 0]))),.b 5 false] (.s [.m 10 0,.k 11 10,.f 12 0 11,.o 13 (.load (some 2) 12),.m 14 0,.k 15 14,.f 16 7 15,.l 17 16,.c 18 Id.zbR [13,17],.m 9 1,.o 19 (.mkfn (.method "Load") [9] []),.o 20 (.nilchkm "Load" [(39,Id.zao),(66,Id.zcy)] 19),.m 21 9,.o 22 (.invoke [(39,Id.zao),(66,Id.zcy)] 21 [18]),.c 23 Id.zba [22],.m 8 23,.x 24 8 0,.x 25 8 1,.o 6 (.lbox (.const (.agg #[.int .i64 0,.int .i64 0,.int .i64 0,.int .i64 0,.bool false,.bool false]))),.o 6 (.lstore none 6 0 6 24),.m 7 25] (.seq (.s [.m 26 0,.o 27 (.lload none 6 0 (some 6)),.k 28 26,.f 29 8 28,.e (.store 6 29 27)] (.s [.m 30 7,.j 31 .eql 30 (oi 0),.m 32 31,.w 33 (.laddr none 6 5) 32 true,.w 34 (.lload (some 33) 6 5 none) 32 true,.o 35 (.pick 32 34 (ob false)),.m 36 35,.w 37 (.laddr none 6 0) 36 true,.w 38 (.lload (some 37) 6 0 none) 36 true,.w 39 (.mov 0) 36 true,.w 40 (.nilchk 39) 36 true,.w 41 (.faddr 6 40) 36 true,.w 42 (.load none 41) 36 true,.w 43 (.bin .lss 38 42) 36 true,.o 44 (.pick 36 43 (ob false))] (.cond 44 (.s [.m 45 0,.c 46 Id.zaH [45,oi 4],.x 47 46 0,.x 48 46 1,.o 4 (.lstore none 4 0 2 47),.m 5 48] .ret) .skip))) (.s [.m 49 0,.c 50 Id.zaK [49],.x 51 50 0,.x 52 50 1,.o 4 (.lstore none 4 0 2 51),.m 5 52] .ret))),[.lb 4 (some 2),.tmp 5],false,2⟩

def F.zaF : qal := ⟨[4],.s [.o 4 (.lbox (.const (.agg #[.int .i64 0,.int .i64 0]))),.b 5 false] (.seq (.s [.m 10 0,.k 11 10,.f 12 0 11,.o 13 (.load (some 2) 12),.m 14 0,.k 15 14,.f 16 7 15,.l 17 16,.c 18 Id.zbX [13,17],.m 9 1,.o 19 (.mkfn (.method "Load") [9] []),.o 20 (.nilchkm "Load" [(39,Id.zao),(66,Id.zcy)] 19),.m 21 9,.o 22 (.invoke [(39,Id.zao),(66,Id.zcy)] 21 [18]),.c 23 Id.zbA [22],.m 8 23,.x 24 8 0,.x 25 8 1,.m 6 24,.m 7 25] (.s [.m 26 7,.j 27 .eql 26 (oi 0)] (.cond 27 (.s [.m 29 0,.k 30 29,.f 31 14 30,.l 32 31,.m 33 0,.k 34 33,.f 35 7 34,.l 36 35,.m 37 0,.k 38 37,.f 39 8 38,.f 40 0 39,.l 41 40,.m 42 6,.o 43 (.build [.int .i64 0,.int .i64 0,.int .i64 0,.bool false] [(0,1,36),(1,1,41),(2,1,42)]),.o 44 (.buildSlice 4 1 [.int .i64 0,.int .i64 0,.int .i64 0,.bool false] [(0,4,43)]),.o 45 (.append 4 32 32 44),.m 28 0,.k 46 28,.f 47 14 46,.e (.store 1 47 45)] (.r [.m 48 0,.m 49 0,.k 50 49,.f 51 7 50,.l 52 51,.m 53 0,.k 54 53,.f 55 8 54,.f 56 1 55,.l 57 56,.k 58 48,.f 59 15 58,.o 60 (.iaddr (some 64) 1 59 52),.e (.store 1 60 57)])) .skip))) (.s [.m 61 0,.c 62 Id.zaK [61],.x 63 62 0,.x 64 62 1,.o 4 (.lstore none 4 0 2 63),.m 5 64] .ret)),[.lb 4 (some 2),.tmp 5],false,2⟩

def F.zaE : qal := ⟨[4,6,7],.s [.o 4 (.lbox (.const (.agg #[.int .i64 0,.int .i64 0]))),.b 5 false] (.s [.m 9 0,.c 10 Id.zaG [9],.o 6 (.lbox (.const (.agg #[.int .i64 0,.int .i64 0,.int .i64 0,.bool false]))),.o 6 (.lstore none 6 0 4 10)] (.s [.m 13 0,.k 14 13,.f 15 0 14,.o 16 (.load (some 2) 15),.o 17 (.laddr none 6 0),.o 18 (.lload (some 17) 6 0 none),.c 19 Id.zbR [16,18],.m 12 1,.o 20 (.mkfn (.method "Load") [12] []),.o 21 (.nilchkm "Load" [(39,Id.zao),(66,Id.zcy)] 20),.m 22 12,.o 23 (.invoke [(39,Id.zao),(66,Id.zcy)] 22 [19]),.m 11 0,.k 24 11,.f 25 81 24,.e (.store 1 25 23)] (.s [.m 27 0,.k 28 27,.f 29 81 28,.l 30 29,.c 31 Id.zba [30],.m 26 31,.x 32 26 0,.x 33 26 1,.o 7 (.lbox (.const (.agg #[.int .i64 0,.int .i64 0,.int .i64 0,.int .i64 0,.bool false,.bool false]))),.o 7 (.lstore none 7 0 6 32),.m 8 33] (.seq (.block 0 (.s [.m 35 8,.j 36 .neq 35 (oi 0),.m 37 36,.w 38 (.laddr none 7 5) 37 false,.w 39 (.lload (some 38) 7 5 none) 37 false,.w 40 (.un .not 39) 37 false,.o 41 (.pick 37 (ob true) 40),.m 42 41,.w 43 (.laddr none 7 1) 42 false,.w 44 (.lload (some 43) 7 1 none) 42 false,.w 45 (.mov 0) 42 false,.w 46 (.laddr none 6 0) 42 false,.w 47 (.lload (some 46) 6 0 none) 42 false,.w 48 (.nilchk 45) 42 false,.w 49 (.faddr 15 48) 42 false,.w 50 (.iaddr (some 64) 1 49 47) 42 false,.w 51 (.load none 50) 42 false,.w 52 (.bin .neq 44 51) 42 false,.o 53 (.pick 42 (ob true) 52),.m 54 53,.w 55 (.laddr none 7 0) 54 false,.w 56 (.lload (some 55) 7 0 none) 54 false,.w 57 (.laddr none 6 1) 54 false,.w 58 (.lload (some 57) 6 1 none) 54 false,.w 59 (.bin .neq 56 58) 54 false,.o 60 (.pick 54 (ob true) 59),.m 34 60] (.cond 34 (.s [.m 61 0,.c 62 Id.zaI [61],.x 63 62 0,.x 64 62 1,.o 4 (.lstore none 4 0 2 63),.m 5 64] .ret) (.s [.o 66 (.laddr none 7 2),.o 67 (.lload (some 66) 7 2 none),.o 68 (.laddr none 7 3),.o 69 (.lload (some 68) 7 3 none),.j 70 .add 67 69,.j 71 .gtr 70 (oi 0),.m 72 71,.w 73 (.laddr none 7 4) 72 false,.w 74 (.lload (some 73) 7 4 none) 72 false,.o 75 (.pick 72 (ob true) 74),.m 76 75,.w 77 (.laddr none 7 0) 76 false,.w 78 (.lload (some 77) 7 0 none) 76 false,.w 79 (.mov 0) 76 false,.w 80 (.nilchk 79) 76 false,.w 81 (.faddr 80 80) 76 false,.w 82 (.load none 81) 76 false,.w 83 (.bin .leq 78 82) 76 false,.o 84 (.pick 76 (ob true) 83),.m 65 84] (.cond 65 (.s [.m 85 0,.m 86 0,.k 87 86,.f 88 80 87,.l 89 88,.o 90 (.laddr none 6 1),.o 91 (.lload (some 90) 6 1 none),.o 92 (.laddr none 6 2),.o 93 (.lload (some 92) 6 2 none),.j 94 .add 91 93,.o 95 (.max [89,94]),.k 96 85,.f 97 80 96,.e (.store 1 97 95)] (.s [.m 98 0,.c 99 Id.zaI [98],.x 100 99 0,.x 101 99 1,.o 4 (.lstore none 4 0 2 100),.m 5 101] .ret)) .skip))))) (.s [.m 102 0,.c 103 Id.zaH [102,oi 6],.x 104 103 0,.x 105 103 1,.o 4 (.lstore none 4 0 2 104),.m 5 105] .ret))))),[.lb 4 (some 2),.tmp 5],false,2⟩

def F.zaD : qal := ⟨[4],.s [.o 4 (.lbox (.const (.agg #[.int .i64 0,.int .i64 0]))),.b 5 false] (.s [.m 9 0,.k 10 9,.f 11 81 10,.l 12 11,.c 13 Id.zaR [12,.const (.bool true)],.m 8 13,.x 14 8 0,.x 15 8 1,.m 6 14,.m 7 15] (.seq (.s [.m 21 0,.c 22 Id.zaG [21],.m 17 0,.k 18 17,.f 19 0 18,⟨some 20,.load (some 2) 19,none,1⟩,.o 23 (.field 0 none 22),.c 24 Id.zbR [20,23],.m 16 1,.m 25 0,.k 26 25,.f 27 81 26,⟨some 28,.load none 27,none,2⟩,.m 29 6,.o 30 (.mkfn (.method "Cas") [16] []),.o 31 (.nilchkm "Cas" [(39,Id.zan),(66,Id.zcx)] 30),.m 32 16,.o 33 (.invoke [(39,Id.zan),(66,Id.zcx)] 32 [24,28,29]),.o 34 (.un .not 33)] (.cond 34 (.s [.m 35 0,.c 36 Id.zaH [35,oi 5],.x 37 36 0,.x 38 36 1,.o 4 (.lstore none 4 0 2 37),.m 5 38] .ret) .skip)) (.s [.m 39 0,.m 40 0,.m 41 6,.k 42 39,.f 43 81 42,.e (.store 1 43 41),.k 44 40,.f 45 82 44,.e (.store 1 45 (oi 0))] (.s [.m 46 0,.c 47 Id.zaH [46,oi 7],.x 48 47 0,.x 49 47 1,.o 4 (.lstore none 4 0 2 48),.m 5 49] .ret)))),[.lb 4 (some 2),.tmp 5],false,2⟩

def F.zaC : qal := ⟨[4],.s [.o 4 (.lbox (.const (.agg #[.int .i64 0,.int .i64 0]))),.b 5 false] (.s [.m 6 1,.m 7 0,.k 8 7,.f 9 80 8,.l 10 9,.m 11 0,.k 12 11,.f 13 82 12,.l 14 13,.j 15 .add 10 14,.m 16 0,.k 17 16,.f 18 83 17,.l 19 18,.o 20 (.mkfn (.method "SetByte") [6] []),.o 21 (.nilchkm "SetByte" [(39,Id.zap),(66,Id.zcz)] 20),.m 22 6,.o 23 (.invoke [(39,Id.zap),(66,Id.zcz)] 22 [15,19])] (.seq (.s [.m 24 0,.k 25 24,.f 26 82 25,.l 27 26,.j 28 .add 27 (oi 1),.k 29 24,.f 30 82 29,.e (.store 1 30 28)] (.s [.m 35 0,.c 36 Id.zaG [35],.m 31 0,.k 32 31,.f 33 82 32,⟨some 34,.load none 33,none,1⟩,.o 37 (.field 2 none 36),.j 38 .lss 34 37] (.cond 38 (.s [.m 39 0,.c 40 Id.zaH [39,oi 7],.x 41 40 0,.x 42 40 1,.o 4 (.lstore none 4 0 2 41),.m 5 42] .ret) .skip))) (.s [.m 43 0,.c 44 Id.zaH [43,oi 9],.x 45 44 0,.x 46 44 1,.o 4 (.lstore none 4 0 2 45),.m 5 46] .ret))),[.lb 4 (some 2),.tmp 5],false,2⟩

def F.zaL : qal := ⟨[4],.s [.o 4 (.lbox (.const (.agg #[.int .i64 0,.int .i64 0]))),.b 5 false] (.s [.m 9 0,.k 10 9,.f 11 81 10,.l 12 11,.m 13 0,.k 14 13,.f 15 80 14,.l 16 15,.c 17 Id.zaT [12,16],.m 8 17,.x 18 8 0,.x 19 8 1,.m 6 18,.m 7 19] (.s [.m 25 0,.c 26 Id.zaG [25],.m 21 0,.k 22 21,.f 23 0 22,⟨some 24,.load (some 2) 23,none,1⟩,.o 27 (.field 0 none 26),.c 28 Id.zbR [24,27],.m 20 1,.m 29 6,.o 30 (.mkfn (.method "Store") [20] []),.o 31 (.nilchkm "Store" [(39,Id.zaq),(66,Id.zcA)] 30),.m 32 20,.o 33 (.invoke [(39,Id.zaq),(66,Id.zcA)] 32 [28,29])] (.s [.m 38 0,.c 39 Id.zaG [38],.m 34 0,.k 35 34,.f 36 80 35,⟨some 37,.load none 36,none,1⟩,.o 40 (.field 2 none 39),.j 41 .add 37 40,.k 42 34,.f 43 80 42,.e (.store 1 43 41)] (.s [.m 44 0,.k 45 44,.f 46 84 45,.l 47 46,.j 48 .add 47 (oi 1),.k 49 44,.f 50 84 49,.e (.store 1 50 48)] (.s [.m 51 0,.c 52 Id.zaI [51],.x 53 52 0,.x 54 52 1,.o 4 (.lstore none 4 0 2 53),.m 5 54] .ret))))),[.lb 4 (some 2),.tmp 5],false,2⟩

def F.zaM : qal := ⟨[4],.s [.o 4 (.lbox (.const (.agg #[.int .i64 0,.int .i64 0]))),.b 5 false] (.s [.m 9 0,.k 10 9,.f 11 85 10,.l 12 11,.m 13 1,.c 14 Id.zbl [12,13],.m 8 14,.x 15 8 0,.x 16 8 1,.m 6 15,.m 7 16] (.seq (.block 0 (.s [.m 18 7,.o 19 (.un .not 18),.m 17 19] (.cond 17 (.s [.m 20 0,.c 21 Id.zaH [20,oi 10],.x 22 21 0,.x 23 21 1,.o 4 (.lstore none 4 0 2 22),.m 5 23] .ret) (.s [.m 25 6,.o 26 (.un .not 25),.m 24 26] (.cond 24 (.s [.m 27 0,.c 28 Id.zaB [27],.x 29 28 0,.x 30 28 1,.o 4 (.lstore none 4 0 2 29),.m 5 30] .ret) .skip))))) (.s [.m 31 0,.c 32 Id.zaH [31,oi 11],.x 33 32 0,.x 34 32 1,.o 4 (.lstore none 4 0 2 33),.m 5 34] .ret))),[.lb 4 (some 2),.tmp 5],false,2⟩

def F.zbS : qal := ⟨[1],.s [.o 1 (.lbox 0),.i 2 0] (.s [.o 3 (.lload none 1 0 (some 2)),.c 4 Id.zcb [3,oi 3],.m 2 4] .ret),[.tmp 2],true,1⟩

def F.zaj : qal := ⟨[2,5],.s [.o 2 (.lbox 0),.o 4 (.mov (.const (.pointer none)))] (.s [.o 9 (.lload none 2 0 (some 3)),.c 10 Id.zcc [9],.m 8 10,.x 11 8 0,.x 12 8 1,.o 5 (.lbox (.const (.agg #[.int .i64 0,.int .i64 0]))),.o 5 (.lstore none 5 0 2 11),.m 6 12] (.s [.o 13 (.lload none 5 0 (some 2)),.c 14 Id.zcZ [13],.o 15 (.lload none 5 0 (some 2)),.o 16 (.laddr none 2 0),.o 17 (.lload (some 16) 2 0 none),.m 18 1,.o 19 (.build [.pointer none,.pointer none,.int .i64 0,.int .i64 0,.int .i64 0,.int .i64 0,.int .i64 0,.int .i64 0,.int .i64 0,.int .i64 0,.int .i64 0,.int .i64 0,.int .i64 0,.int .i64 0,.int .i64 0,.bool false] [(0,1,14),(2,2,15),(4,1,17),(5,1,18),(7,1,oi 1)]),.o 20 (.box 19),.m 7 20] (.s [.m 22 7,.m 23 1,.c 24 Id.zbA [23],.m 21 24,.x 25 21 0,.x 26 21 1,.k 27 22,.f 28 6 27,.e (.store 1 28 25)] (.seq (.s [.m 29 6,.j 30 .neq 29 (oi 0)] (.cond 30 (.r [.m 31 7,.k 32 31,.f 33 7 32,.e (.store 1 33 (oi 0))]) .skip)) (.s [.m 34 7,.m 4 34] .ret))))),[.tmp 4],false,2⟩

def F.zbx : qal := ⟨[2,5],.s [.o 2 (.lbox 0),.o 4 (.mov (.const (.pointer none)))] (.s [.o 12 (.lload none 2 0 (some 3)),.c 13 Id.zcc [12],.m 11 13,.x 14 11 0,.x 15 11 1,.o 5 (.lbox (.const (.agg #[.int .i64 0,.int .i64 0]))),.o 5 (.lstore none 5 0 2 14),.m 6 15] (.s [.m 17 1,.o 18 (.laddr none 2 1),.o 19 (.lload (some 18) 2 1 none),.c 20 Id.zbz [17,19],.m 16 20,.x 21 16 0,.x 22 16 1,.x 23 16 2,.m 7 21,.m 8 22,.m 9 23] (.s [.o 24 (.lload none 5 0 (some 2)),.m 25 7,.m 26 8,.m 27 9,.j 28 .neq 27 (oi 0),.o 29 (.build [.int .i64 0,.int .i64 0,.int .i64 0,.int .i64 0,.bool false,.int .i64 0,.int .i64 0,.int .i64 0,.bool false,.pointer none] [(0,2,24),(2,1,25),(3,1,26),(4,1,28),(5,1,oi 1)]),.o 30 (.box 29),.m 10 30] (.seq (.s [.m 31 6,.j 32 .neq 31 (oi 0)] (.cond 32 (.r [.m 33 10,.k 34 33,.f 35 5 34,.e (.store 1 35 (oi 0))]) .skip)) (.s [.m 36 10,.m 4 36] .ret))))),[.tmp 4],false,2⟩

def F.zcr : qal := ⟨[3,7],.s [.o 3 (.lbox 0),.o 6 (.mov (.const (.pointer none)))] (.s [.o 12 (.lload none 3 0 (some 3)),.c 13 Id.zcc [12],.m 11 13,.x 14 11 0,.x 15 11 1,.o 7 (.lbox (.const (.agg #[.int .i64 0,.int .i64 0]))),.o 7 (.lstore none 7 0 2 14),.m 8 15] (.s [.o 16 (.lload none 7 0 (some 2)),.m 17 2,.o 18 (.build [.int .i64 0,.int .i64 0,.int .i64 0,.int .i64 0,.bool false,.int .i64 0,.int .i64 0,.int .i64 0,.int .i64 0,.int .i64 0,.int .i64 0,.bool false,.bool false,.int .i64 0,.int .i64 0] [(0,2,16),(5,1,17),(6,1,oi 1)]),.o 19 (.box 18),.m 9 19] (.s [.i 10 0] (.seq (.s [.m 21 9,.m 22 9,.m 23 1,.o 24 (.laddr none 3 1),.o 25 (.lload (some 24) 3 1 none),.c 26 Id.zbz [23,25],.m 20 26,.x 27 20 0,.x 28 20 1,.x 29 20 2,.k 30 21,.f 31 2 30,.e (.store 1 31 27),.k 32 22,.f 33 3 32,.e (.store 1 33 28),.m 10 29] (.s [.m 34 10,.j 35 .neq 34 (oi 0)] (.cond 35 (.r [.m 36 9,.k 37 36,.f 38 4 37,.e (.store 1 38 (ob true))]) .skip))) (.seq (.s [.m 39 8,.j 40 .neq 39 (oi 0)] (.cond 40 (.r [.m 41 9,.k 42 41,.f 43 6 42,.e (.store 1 43 (oi 0))]) .skip)) (.s [.m 44 9,.m 6 44] .ret)))))),[.tmp 6],false,3⟩

def F.zdD : qal := ⟨[4,9],.s [.o 4 (.lbox 0),.o 8 (.mov (.const (.pointer none)))] (.s [.o 14 (.lload none 4 0 (some 3)),.c 15 Id.zcc [14],.m 13 15,.x 16 13 0,.x 17 13 1,.o 9 (.lbox (.const (.agg #[.int .i64 0,.int .i64 0]))),.o 9 (.lstore none 9 0 2 16),.m 10 17] (.s [.o 18 (.lload none 9 0 (some 2)),.m 19 2,.m 20 3,.o 21 (.build [.int .i64 0,.int .i64 0,.int .i64 0,.int .i64 0,.bool false,.int .i64 0,.int .i64 0,.int .i64 0,.int .i64 0,.int .i64 0,.int .i64 0,.bool false] [(0,2,18),(5,1,19),(6,1,20),(7,1,oi 1)]),.o 22 (.box 21),.m 11 22] (.s [.i 12 0] (.seq (.s [.m 24 11,.m 25 11,.m 26 1,.o 27 (.laddr none 4 1),.o 28 (.lload (some 27) 4 1 none),.c 29 Id.zbz [26,28],.m 23 29,.x 30 23 0,.x 31 23 1,.x 32 23 2,.k 33 24,.f 34 2 33,.e (.store 1 34 30),.k 35 25,.f 36 3 35,.e (.store 1 36 31),.m 12 32] (.s [.m 37 12,.j 38 .neq 37 (oi 0)] (.cond 38 (.r [.m 39 11,.k 40 39,.f 41 4 40,.e (.store 1 41 (ob true))]) .skip))) (.seq (.s [.m 42 10,.j 43 .neq 42 (oi 0)] (.cond 43 (.r [.m 44 11,.k 45 44,.f 46 7 45,.e (.store 1 46 (oi 0))]) .skip)) (.s [.m 47 11,.m 8 47] .ret)))))),[.tmp 8],false,4⟩

def F.zci : qal := ⟨[2],.s [.o 2 (.lbox 0),.o 4 (.mov (.const (.pointer none)))] (.s [.o 5 (.lload none 2 0 (some 3)),.m 6 1,.c 7 Id.zck [5,6,.const (.bool true),.func Id.zaY],.m 4 7] .ret),[.tmp 4],false,2⟩

def F.zcj : qal := ⟨[2],.s [.o 2 (.lbox 0),.o 4 (.mov (.const (.pointer none)))] (.s [.o 5 (.lload none 2 0 (some 3)),.m 6 1,.c 7 Id.zck [5,6,.const (.bool false),.func Id.zbb],.m 4 7] .ret),[.tmp 4],false,2⟩

def F.zbq : qal := ⟨[4],.s [.o 4 (.lbox 1),.i 6 0,.i 7 0] (.seq (.block 0 (.s [.m 9 0,.c 10 Id.zbs [9],.o 11 (.un .not 10),.m 12 11,.w 13 (.lload none 4 0 (some 2)) 12 false,.w 14 (.call Id.zbn [13]) 12 false,.w 15 (.un .not 14) 12 false,.o 16 (.pick 12 (ob true) 15),.m 17 16,.w 18 (.mov 2) 17 false,.w 19 (.bin .lss 18 (oi 0)) 17 false,.o 20 (.pick 17 (ob true) 19),.m 8 20] (.cond 8 (.s [.i 6 0,.i 7 1] .ret) (.s [.m 22 2,.o 23 (.lload none 4 0 (some 2)),.c 24 Id.zbo [23],.j 25 .gtr 22 24,.m 21 25] (.cond 21 (.s [.i 6 0,.i 7 3] .ret) .skip))))) (.s [.o 27 (.lload none 4 0 (some 2)),.c 28 Id.zbm [27],.m 26 0,.j 29 .andNot 26 28,.m 30 2,.o 31 (.laddr none 4 0),.o 32 (.lload (some 31) 4 0 none),.j 33 .shl 30 32,.j 34 .or 29 33,.m 6 34,.i 7 0] .ret)),[.tmp 6,.tmp 7],true,3⟩

def F.zbQ : qal := ⟨[0],.s [.o 0 (.lbox (.const (.agg #[.int .i64 0,.int .i64 0])))] (.s [.o 1 (.build [.int .i64 0,.int .i64 0] [(0,1,oi 0),(1,1,oi 20)]),.o 0 (.lstore none 0 0 2 1)] .ret),[.lb 0 (some 2)],true,0⟩

def F.zbK : qal := ⟨[],.s [.i 2 0] (.s [.m 3 0,.o 4 (.re 3),.o 5 (.conv (.int .i64) 4),.m 2 5] .ret),[.tmp 2],true,1⟩

def F.zbP : qal := ⟨[0],.s [.o 0 (.lbox (.const (.agg #[.int .i64 0,.int .i64 0])))] (.s [.o 1 (.build [.int .i64 0,.int .i64 0] [(0,1,oi 20),(1,1,oi 32)]),.o 0 (.lstore none 0 0 2 1)] .ret),[.lb 0 (some 2)],true,0⟩

def F.zbJ : qal := ⟨[],.s [.i 2 0] (.s [.m 3 0,.o 4 (.im 3),.o 5 (.conv (.int .i64) 4),.m 2 5] .ret),[.tmp 2],true,1⟩

def F.zba : qal := ⟨[2,6,7],.s [.o 2 (.lbox (.const (.agg #[.int .i64 0,.int .i64 0,.int .i64 0,.int .i64 0,.bool false,.bool false]))),.i 3 0] (.seq (.s [.m 8 0,.j 9 .lss 8 (oi 0),.m 10 9,.w 11 (.mov 0) 10 false,.w 12 (.bin .geq 11 (oi 1125899906842624)) 10 false,.o 13 (.pick 10 (ob true) 12)] (.cond 13 (.s [.o 14 (.build [.int .i64 0,.int .i64 0,.int .i64 0,.int .i64 0,.bool false,.bool false] []),.o 2 (.lstore none 2 0 6 14),.i 3 2] .ret) .skip)) (.s [.o 4 (.box (.const (.agg #[.int .i64 0,.int .i64 0,.int .i64 0,.int .i64 0,.int .i64 0,.int .i64 0])))] (.seq (.s [.c 15 Id.zbf [],.i 16 0] (.block 0 (.loop [0,2,4,15,16] (.s [.j 17 .lss 16 (oi 6)] (.seq (.cond 17 .skip (.exit 0)) (.seq (.block 1 (.s [.m 18 16,.o 19 (.index 6 2 (some 2) 15 16),.o 6 (.lbox (.const (.agg #[.int .i64 0,.int .i64 0]))),.m 5 18,.o 6 (.lstore none 6 0 2 19)] (.r [.m 20 5,.m 21 0,.o 22 (.lload none 6 0 (some 2)),.c 23 Id.zbp [21,22],.o 24 (.iaddr (some 6) 1 4 20),.e (.store 1 24 23)]))) (.r [.j 25 .add 16 (oi 1),.m 16 25]))))))) (.s [.o 26 (.iaddr (some 6) 1 4 (oi 0)),.l 27 26,.o 28 (.iaddr (some 6) 1 4 (oi 1)),.l 29 28,.o 30 (.iaddr (some 6) 1 4 (oi 2)),.l 31 30,.o 32 (.iaddr (some 6) 1 4 (oi 3)),.l 33 32,.o 34 (.iaddr (some 6) 1 4 (oi 4)),.l 35 34,.j 36 .eql 35 (oi 1),.o 37 (.iaddr (some 6) 1 4 (oi 5)),.l 38 37,.j 39 .eql 38 (oi 1),.o 40 (.build [.int .i64 0,.int .i64 0,.int .i64 0,.int .i64 0,.bool false,.bool false] [(0,1,27),(1,1,29),(2,1,31),(3,1,33),(4,1,36),(5,1,39)]),.o 7 (.lbox (.const (.agg #[.int .i64 0,.int .i64 0,.int .i64 0,.int .i64 0,.bool false,.bool false]))),.o 7 (.lstore none 7 0 6 40)] (.seq (.s [.o 41 (.lload none 7 0 (some 6)),.c 42 Id.zaO [41],.o 43 (.un .not 42)] (.cond 43 (.s [.o 44 (.build [.int .i64 0,.int .i64 0,.int .i64 0,.int .i64 0,.bool false,.bool false] []),.o 2 (.lstore none 2 0 6 44),.i 3 2] .ret) .skip)) (.s [.o 45 (.lload none 7 0 (some 6)),.o 2 (.lstore none 2 0 6 45),.i 3 0] .ret)))))),[.lb 2 (some 6),.tmp 3],true,1⟩

def F.zbR : qal := ⟨[2],.s [.o 2 (.lbox 0),.i 4 0] (.s [.o 5 (.lload none 2 0 (some 2)),.m 6 1,.c 7 Id.zca [5,6,oi 0],.m 4 7] .ret),[.tmp 4],true,2⟩

def F.zaK : qal := ⟨[2],.s [.o 2 (.lbox (.const (.agg #[.int .i64 0,.int .i64 0]))),.b 3 false] (.seq (.s [.m 4 0,.k 5 4,.f 6 7 5,.l 7 6,.j 8 .add 7 (oi 1),.k 9 4,.f 10 7 9,.e (.store 1 10 8)] (.s [.m 11 0,.k 12 11,.f 13 7 12,.l 14 13,.m 15 0,.k 16 15,.f 17 2 16,.f 18 1 17,.l 19 18,.j 20 .lss 14 19] (.cond 20 (.s [.m 21 0,.c 22 Id.zaH [21,oi 3],.x 23 22 0,.x 24 22 1,.o 2 (.lstore none 2 0 2 23),.m 3 24] .ret) .skip))) (.s [.m 25 0,.m 26 0,.k 27 26,.f 28 14 27,.l 29 28,.c 30 Id.zcl [29],.k 31 25,.f 32 14 31,.e (.store 1 32 30)] (.s [.m 33 0,.c 34 Id.zaA [33],.x 35 34 0,.x 36 34 1,.o 2 (.lstore none 2 0 2 35),.m 3 36] .ret))),[.lb 2 (some 2),.tmp 3],false,1⟩

def F.zbA : qal := ⟨[],.s [.i 2 0,.i 3 0] (.scope (.seq (.s [.m 4 0,.j 5 .lss 4 (oi 1),.m 6 5,.w 7 (.mov 0) 6 false,.w 8 (.bin .gtr 7 (oi 256)) 6 false,.o 9 (.pick 6 (ob true) 8)] (.cond 9 (.s [.i 2 0,.i 3 9] .ret) .skip)) (.seq (.label 0) (.seq (.s [.m 10 0,.j 11 .rem 10 (oi 8),.j 12 .eql 11 (oi 0)] (.cond 12 (.s [.m 13 0,.m 2 13,.i 3 0] .ret) .skip)) (.s [.m 14 0,.j 15 .add 14 (oi 1),.m 0 15] (.goto 0 [0])))))),[.tmp 2,.tmp 3],true,1⟩

def F.zbX : qal := ⟨[2],.s [.o 2 (.lbox 0),.i 4 0] (.s [.o 5 (.lload none 2 0 (some 2)),.m 6 1,.c 7 Id.zca [5,6,oi 1],.m 4 7] .ret),[.tmp 4],true,2⟩

def F.zaI : qal := ⟨[2],.s [.o 2 (.lbox (.const (.agg #[.int .i64 0,.int .i64 0]))),.b 3 false] (.s [.m 4 0,.k 5 4,.f 6 79 5,.l 7 6,.j 8 .add 7 (oi 1),.k 9 4,.f 10 79 9,.e (.store 1 10 8)] (.s [.m 11 0,.c 12 Id.zaA [11],.x 13 12 0,.x 14 12 1,.o 2 (.lstore none 2 0 2 13),.m 3 14] .ret)),[.lb 2 (some 2),.tmp 3],false,1⟩

def F.zaR : qal := ⟨[],.s [.o 3 (.box 1),.i 4 0,.i 5 0] (.s [.m 6 0,.o 7 (.mkfn (.func Id.zaS) [] [3]),.c 8 Id.zbe [6,7],.x 9 8 0,.x 10 8 1,.m 4 9,.m 5 10] .ret),[.tmp 4,.tmp 5],true,2⟩

def F.zaT : qal := ⟨[],.s [.o 3 (.box 1),.i 4 0,.i 5 0] (.s [.m 6 0,.o 7 (.mkfn (.func Id.zaU) [] [3]),.c 8 Id.zbe [6,7],.x 9 8 0,.x 10 8 1,.m 4 9,.m 5 10] .ret),[.tmp 4,.tmp 5],true,2⟩

def F.zbl : qal := ⟨[],.s [.b 4 false,.b 5 false] (.seq (.s [.m 7 0,.o 8 (.eqv false (.nil 0) 7 (.const (.pointer none))),.m 9 8,.w 10 (.mov 1) 9 false,.w 11 (.eqv false (.nil 4) 10 (.const (.nilIface))) 9 false,.o 12 (.pick 9 (ob true) 11)] (.cond 12 (.s [.b 4 false,.b 5 true] .ret) .skip)) (.seq (.s [.m 13 0,.k 14 13,.f 15 3 14,.l 16 15] (.block 0 (.s [.j 18 .eql 16 (oi 0),.m 17 18] (.cond 17 (.s [.b 4 false,.b 5 true] .ret) (.s [.j 20 .eql 16 (oi 1),.m 19 20] (.cond 19 (.r [.m 24 0,.k 25 24,.f 26 0 25,.o 27 (.load (some 2) 26),.c 28 Id.zbS [27],.m 23 1,.o 29 (.mkfn (.method "Load") [23] []),.o 30 (.nilchkm "Load" [(39,Id.zao),(66,Id.zcy)] 29),.m 31 23,.o 32 (.invoke [(39,Id.zao),(66,Id.zcy)] 31 [28]),.m 21 0,.k 33 21,.f 34 4 33,.e (.store 1 34 32),.m 22 0,.k 35 22,.f 36 3 35,.e (.store 1 36 (oi 2))]) (.s [.j 38 .eql 16 (oi 2),.m 37 38] (.cond 37 (.s [.m 39 0,.k 40 39,.f 41 3 40,.e (.store 1 41 (oi 1))] (.s [.m 43 0,.k 44 43,.f 45 0 44,.o 46 (.load (some 2) 45),.c 47 Id.zbS [46],.m 42 1,.m 48 0,.k 49 48,.f 50 4 49,⟨some 51,.load none 50,none,1⟩,.m 52 0,.k 53 52,.f 54 4 53,⟨some 55,.load none 54,none,1⟩,.j 56 .add 55 (oi 1),.o 57 (.mkfn (.method "Cas") [42] []),.o 58 (.nilchkm "Cas" [(39,Id.zan),(66,Id.zcx)] 57),.m 59 42,.o 60 (.invoke [(39,Id.zan),(66,Id.zcx)] 59 [47,51,56])] (.cond 60 (.r [.m 61 0,.k 62 61,.f 63 3 62,.e (.store 1 63 (oi 3))]) .skip))) (.s [.j 65 .eql 16 (oi 3),.m 64 65] (.cond 64 (.s [.m 67 0,.k 68 67,.f 69 0 68,.o 70 (.load (some 2) 69),.m 71 0,.k 72 71,.f 73 5 72,.l 74 73,.c 75 Id.zbV [70,74],.m 66 1,.o 76 (.mkfn (.method "Load") [66] []),.o 77 (.nilchkm "Load" [(39,Id.zao),(66,Id.zcy)] 76),.m 78 66,.o 79 (.invoke [(39,Id.zao),(66,Id.zcy)] 78 [75]),.m 80 0,.k 81 80,.f 82 4 81,⟨some 83,.load none 82,none,2⟩,.j 84 .add 83 (oi 1),.c 85 Id.zbD [79,84],.m 6 85] (.s [.m 86 0,.k 87 86,.f 88 5 87,.l 89 88,.j 90 .add 89 (oi 1),.k 91 86,.f 92 5 91,.e (.store 1 92 90)] (.s [.m 93 6,.m 94 93,.w 95 (.mov 0) 94 false,.w 96 (.nilchk 95) 94 false,.w 97 (.faddr 5 96) 94 false,.w 98 (.load none 97) 94 false,.w 99 (.mov 0) 94 false,.w 100 (.nilchk 99) 94 false,.w 101 (.faddr 2 100) 94 false,.w 102 (.load none 101) 94 false,.w 103 (.bin .eql 98 102) 94 false,.o 104 (.pick 94 (ob true) 103)] (.cond 104 (.s [.m 105 0,.k 106 105,.f 107 3 106,.e (.store 1 107 (oi 0))] (.s [.m 108 6,.o 109 (.un .not 108),.m 4 109,.b 5 true] .ret)) .skip)))) .skip)))))))))) (.s [.b 4 false,.b 5 false] .ret))),[.tmp 4,.tmp 5],false,2⟩

def F.zcZ : qal := ⟨[1],.s [.o 1 (.lbox 0),.o 2 (.mov (.const (.pointer none)))] (.s [.o 3 (.lload none 1 0 (some 2)),.o 4 (.build [.int .i64 0,.int .i64 0,.int .i64 0,.int .i64 0,.int .i64 0,.int .i64 0] [(0,2,3),(2,1,oi 1)]),.o 5 (.build [.int .i64 0,.int .i64 0,.int .i64 0,.int .i64 0,.int .i64 0,.int .i64 0] [(0,6,4)]),.o 6 (.box 5),.m 2 6] .ret),[.tmp 2],false,1⟩

def F.zbz : qal := ⟨[],.s [.i 4 0,.i 5 0,.i 6 0] (.s [.m 11 0,.c 12 Id.zbB [11],.m 10 12,.x 13 10 0,.x 14 10 1,.x 15 10 2,.m 7 13,.m 8 14,.m 9 15] (.seq (.s [.m 16 9,.o 17 (.un .not 16),.m 18 17,.w 19 (.mov 7) 18 false,.w 20 (.mov 1) 18 false,.w 21 (.bin .geq 19 20) 18 false,.o 22 (.pick 18 (ob true) 21)] (.cond 22 (.s [.i 4 0,.i 5 0,.i 6 4] .ret) .skip)) (.s [.m 23 7,.m 24 8,.m 4 23,.m 5 24,.i 6 0] .ret))),[.tmp 4,.tmp 5,.tmp 6],true,2⟩

def F.zck : qal := ⟨[4,9],.s [.o 4 (.lbox 0),.o 8 (.mov (.const (.pointer none)))] (.s [.o 16 (.lload none 4 0 (some 3)),.c 17 Id.zcc [16],.m 15 17,.x 18 15 0,.x 19 15 1,.o 9 (.lbox (.const (.agg #[.int .i64 0,.int .i64 0]))),.o 9 (.lstore none 9 0 2 18),.m 10 19] (.s [.m 21 1,.o 22 (.laddr none 4 1),.o 23 (.lload (some 22) 4 1 none),.c 24 Id.zbz [21,23],.m 20 24,.x 25 20 0,.x 26 20 1,.x 27 20 2,.m 11 25,.m 12 26,.m 13 27] (.s [.o 28 (.lload none 9 0 (some 2)),.m 29 11,.m 30 12,.m 31 13,.j 32 .neq 31 (oi 0),.m 33 3,.m 34 2,.o 35 (.build [.int .i64 0,.int .i64 0,.int .i64 0,.int .i64 0,.bool false,.nilFunc,.bool false,.int .i64 0,.int .i64 0,.int .i64 0] [(0,2,28),(2,1,29),(3,1,30),(4,1,32),(5,1,33),(6,1,34),(7,1,oi 1)]),.o 36 (.box 35),.m 14 36] (.seq (.s [.m 37 10,.j 38 .neq 37 (oi 0)] (.cond 38 (.r [.m 39 14,.k 40 39,.f 41 7 40,.e (.store 1 41 (oi 0))]) .skip)) (.s [.m 42 14,.m 8 42] .ret))))),[.tmp 8],false,4⟩

def F.zaY : qal := ⟨[],.s [.i 2 0,.i 3 0] (.s [.m 4 0,.c 5 Id.zbe [4,.func Id.zaZ],.x 6 5 0,.x 7 5 1,.m 2 6,.m 3 7] .ret),[.tmp 2,.tmp 3],true,1⟩

def F.zbb : qal := ⟨[],.s [.i 2 0,.i 3 0] (.s [.m 4 0,.c 5 Id.zbe [4,.func Id.zbc],.x 6 5 0,.x 7 5 1,.m 2 6,.m 3 7] .ret),[.tmp 2,.tmp 3],true,1⟩

def F.zbs : qal := ⟨[],.s [.b 2 false] (.s [.m 3 0,.j 4 .geq 3 (oi 0),.m 5 4,.w 6 (.mov 0) 5 true,.w 7 (.bin .lss 6 (oi 4611686018427387904)) 5 true,.o 8 (.pick 5 7 (ob false)),.m 2 8] .ret),[.tmp 2],true,1⟩

def F.zbn : qal := ⟨[1],.s [.o 1 (.lbox 0),.b 2 false] (.s [.o 3 (.laddr none 1 0),.o 4 (.lload (some 3) 1 0 none),.j 5 .geq 4 (oi 0),.m 6 5,.w 7 (.laddr none 1 1) 6 true,.w 8 (.lload (some 7) 1 1 none) 6 true,.w 9 (.bin .geq 8 (oi 1)) 6 true,.o 10 (.pick 6 9 (ob false)),.m 11 10,.w 12 (.laddr none 1 1) 11 true,.w 13 (.lload (some 12) 1 1 none) 11 true,.w 14 (.bin .leq 13 (oi 32)) 11 true,.o 15 (.pick 11 14 (ob false)),.m 16 15,.w 17 (.laddr none 1 0) 16 true,.w 18 (.lload (some 17) 1 0 none) 16 true,.w 19 (.laddr none 1 1) 16 true,.w 20 (.lload (some 19) 1 1 none) 16 true,.w 21 (.bin .sub (oi 62) 20) 16 true,.w 22 (.bin .leq 18 21) 16 true,.o 23 (.pick 16 22 (ob false)),.m 2 23] .ret),[.tmp 2],true,1⟩

def F.zbo : qal := ⟨[1],.s [.o 1 (.lbox 0),.i 2 0] (.s [.o 3 (.laddr none 1 1),.o 4 (.lload (some 3) 1 1 none),.j 5 .shl (oi 1) 4,.j 6 .sub 5 (oi 1),.m 2 6] .ret),[.tmp 2],true,1⟩

def F.zbm : qal := ⟨[1],.s [.o 1 (.lbox 0),.i 2 0] (.s [.o 3 (.lload none 1 0 (some 2)),.c 4 Id.zbo [3],.o 5 (.laddr none 1 0),.o 6 (.lload (some 5) 1 0 none),.j 7 .shl 4 6,.m 2 7] .ret),[.tmp 2],true,1⟩

def F.zbf : qal := ⟨[0],.s [.o 0 (.lbox (.const (.agg #[.int .i64 0,.int .i64 0,.int .i64 0,.int .i64 0,.int .i64 0,.int .i64 0,.int .i64 0,.int .i64 0,.int .i64 0,.int .i64 0,.int .i64 0,.int .i64 0])))] (.s [.o 1 (.build [.int .i64 0,.int .i64 0] [(0,1,oi 0),(1,1,oi 20)]),.o 2 (.build [.int .i64 0,.int .i64 0] [(0,1,oi 20),(1,1,oi 20)]),.o 3 (.build [.int .i64 0,.int .i64 0] [(0,1,oi 40),(1,1,oi 4)]),.o 4 (.build [.int .i64 0,.int .i64 0] [(0,1,oi 44),(1,1,oi 4)]),.o 5 (.build [.int .i64 0,.int .i64 0] [(0,1,oi 48),(1,1,oi 1)]),.o 6 (.build [.int .i64 0,.int .i64 0] [(0,1,oi 49),(1,1,oi 1)]),.o 7 (.build [.int .i64 0,.int .i64 0,.int .i64 0,.int .i64 0,.int .i64 0,.int .i64 0,.int .i64 0,.int .i64 0,.int .i64 0,.int .i64 0,.int .i64 0,.int .i64 0] [(0,2,1),(2,2,2),(4,2,3),(6,2,4),(8,2,5),(10,2,6)]),.o 0 (.lstore none 0 0 12 7)] .ret),[.lb 0 (some 12)],true,0⟩

def F.zbp : qal := ⟨[3],.s [.o 3 (.lbox 1),.i 4 0] (.seq (.s [.m 5 0,.c 6 Id.zbs [5],.o 7 (.un .not 6)] (.cond 7 (.s [.i 4 0] .ret) .skip)) (.s [.o 9 (.lload none 3 0 (some 2)),.c 10 Id.zbr [9,.func Id.zbm,oi 0],.m 8 0,.j 11 .and 8 10,.o 12 (.laddr none 3 0),.o 13 (.lload (some 12) 3 0 none),.o 14 (.max [13,oi 0]),.j 15 .shr 11 14,.m 4 15] .ret)),[.tmp 4],true,2⟩

def F.zaO : qal := ⟨[1],.s [.o 1 (.lbox 0),.b 2 false] (.seq (.block 0 (.s [.o 4 (.laddr none 1 0),.o 5 (.lload (some 4) 1 0 none),.c 6 Id.zbg [5,oi 4096],.o 7 (.un .not 6),.m 8 7,.w 9 (.laddr none 1 1) 8 false,.w 10 (.lload (some 9) 1 1 none) 8 false,.w 11 (.call Id.zbg [10,oi 1000]) 8 false,.w 12 (.un .not 11) 8 false,.o 13 (.pick 8 (ob true) 12),.m 14 13,.w 15 (.laddr none 1 2) 14 false,.w 16 (.lload (some 15) 1 2 none) 14 false,.w 17 (.call Id.zbg [16,oi 7]) 14 false,.w 18 (.un .not 17) 14 false,.o 19 (.pick 14 (ob true) 18),.m 20 19,.w 21 (.laddr none 1 3) 20 false,.w 22 (.lload (some 21) 1 3 none) 20 false,.w 23 (.call Id.zbg [22,oi 15]) 20 false,.w 24 (.un .not 23) 20 false,.o 25 (.pick 20 (ob true) 24),.m 3 25] (.cond 3 (.s [.b 2 false] .ret) (.s [.o 27 (.laddr none 1 4),.o 28 (.lload (some 27) 1 4 none),.m 29 28,.w 30 (.laddr none 1 2) 29 true,.w 31 (.lload (some 30) 1 2 none) 29 true,.w 32 (.laddr none 1 3) 29 true,.w 33 (.lload (some 32) 1 3 none) 29 true,.w 34 (.bin .add 31 33) 29 true,.w 35 (.bin .gtr 34 (oi 0)) 29 true,.o 36 (.pick 29 35 (ob false)),.m 26 36] (.cond 26 (.s [.b 2 false] .ret) .skip))))) (.s [.o 37 (.laddr none 1 5),.o 38 (.lload (some 37) 1 5 none),.m 39 38,.w 40 (.lload none 1 0 (some 6)) 39 false,.w 41 (.laddr none 1 1) 39 false,.w 42 (.lload (some 41) 1 1 none) 39 false,.w 43 (.build [.int .i64 0,.int .i64 0,.int .i64 0,.int .i64 0,.bool false,.bool false] [(1,1,42)]) 39 false,.w 44 (.eqv false (.cells [(0,0),(1,0),(2,0),(3,0),(4,1),(5,1)]) 40 43) 39 false,.o 45 (.pick 39 (ob true) 44),.m 2 45] .ret)),[.tmp 2],true,1⟩

def F.zcl : qal := ⟨[],.s [.o 2 (.mov (.const (.slice none 0 0)))] (.s [.m 4 0,.c 5 Id.zcQ [4],.m 3 5] (.s [.m 6 3,.c 7 Id.zcT [6,.func Id.zcn]] (.s [.m 8 3,.m 2 8] .ret))),[.tmp 2],true,1⟩

def F.zaA : qal := ⟨[2],.s [.o 2 (.lbox (.const (.agg #[.int .i64 0,.int .i64 0]))),.b 3 false] (.seq (.block 0 (.s [.m 5 0,.k 6 5,.f 7 79 6,.l 8 7,.m 9 0,.k 10 9,.f 11 14 10,.l 12 11,.o 13 (.len false 12),.j 14 .lss 8 13,.m 4 14] (.cond 4 (.s [.m 15 0,.c 16 Id.zaH [15,oi 5],.x 17 16 0,.x 18 16 1,.o 2 (.lstore none 2 0 2 17),.m 3 18] .ret) (.s [.m 20 0,.k 21 20,.f 22 80 21,.l 23 22,.m 24 0,.k 25 24,.f 26 6 25,.l 27 26,.j 28 .geq 23 27,.m 19 28] (.cond 19 (.s [.m 29 0,.c 30 Id.zaB [29],.x 31 30 0,.x 32 30 1,.o 2 (.lstore none 2 0 2 31),.m 3 32] .ret) .skip))))) (.s [.m 33 0,.m 34 0,.k 35 34,.f 36 2 35,.o 37 (.load (some 3) 36),.c 38 Id.zbk [37],.k 39 33,.f 40 85 39,.e (.store 1 40 38)] (.s [.m 41 0,.c 42 Id.zaH [41,oi 10],.x 43 42 0,.x 44 42 1,.o 2 (.lstore none 2 0 2 43),.m 3 44] .ret))),[.lb 2 (some 2),.tmp 3],false,1⟩

def F.zbe : qal := ⟨[],.s [.i 4 0,.i 5 0] (.s [.m 9 0,.c 10 Id.zba [9],.m 8 10,.x 11 8 0,.x 12 8 1,.o 6 (.box (.const (.agg #[.int .i64 0,.int .i64 0,.int .i64 0,.int .i64 0,.bool false,.bool false]))),.e (.store 6 6 11),.m 7 12] (.seq (.block 0 (.s [.m 14 7,.j 15 .neq 14 (oi 0),.m 13 15] (.cond 13 (.s [.m 16 7,.i 4 0,.m 5 16] .ret) (.s [.f 18 5 6,.l 19 18,.o 20 (.un .not 19),.m 17 20] (.cond 17 (.s [.i 4 0,.i 5 1] .ret) .skip))))) (.seq (.s [.m 21 1,.o 22 (.callv 21 [6]),.m 7 22] (.s [.m 23 7,.j 24 .neq 23 (oi 0)] (.cond 24 (.s [.m 25 7,.i 4 0,.m 5 25] .ret) .skip))) (.s [.o 26 (.load (some 6) 6),.c 27 Id.zaX [26],.x 28 27 0,.x 29 27 1,.m 4 28,.m 5 29] .ret)))),[.tmp 4,.tmp 5],false,2⟩

def F.zaS : qal := ⟨[],.s [.i 3 0] (.s [.m 4 0,.l 5 1,.k 6 4,.f 7 4 6,.e (.store 1 7 5)] (.s [.i 3 0] .ret)),[.tmp 3],false,2⟩

def F.zaU : qal := ⟨[],.s [.i 3 0] (.s [.m 4 0,.m 5 0,.l 6 1,.k 7 4,.f 8 0 7,.e (.store 1 8 6),.k 9 5,.f 10 4 9,.e (.store 1 10 (ob false))] (.s [.i 3 0] .ret)),[.tmp 3],false,2⟩

def F.zbD : qal := ⟨[],.s [.b 4 false] (.s [.m 8 0,.c 9 Id.zbC [8],.m 7 9,.x 10 7 0,.x 11 7 1,.m 5 10,.m 6 11] (.s [.m 12 6,.m 13 12,.w 14 (.mov 5) 13 true,.w 15 (.mov 1) 13 true,.w 16 (.bin .lss 14 15) 13 true,.o 17 (.pick 13 16 (ob false)),.m 4 17] .ret)),[.tmp 4],true,2⟩

def F.zbB : qal := ⟨[],.s [.i 2 0,.i 3 0,.b 4 false] (.s [.m 10 0,.j 11 .sub 10 (oi 1099511627776),.m 5 11] (.seq (.s [.m 12 5,.j 13 .lss 12 (oi 0)] (.cond 13 (.s [.i 2 0,.i 3 0,.b 4 false] .ret) .skip)) (.s [.m 14 5,.j 15 .rem 14 (oi 1048576),.m 16 5,.o 17 (.bin .shr 16 (.const (.int .u64 20))),.m 6 15,.m 7 17] (.seq (.s [.m 19 6,.m 20 7,.c 21 Id.zby [19,20],.m 18 21,.x 22 18 0,.x 23 18 1,.m 8 22,.m 9 23] (.s [.m 24 9,.j 25 .neq 24 (oi 0)] (.cond 25 (.s [.i 2 0,.i 3 0,.b 4 false] .ret) .skip))) (.s [.m 26 6,.m 27 7,.m 2 26,.m 3 27,.b 4 true] .ret))))),[.tmp 2,.tmp 3,.tmp 4],true,1⟩

def F.zaZ : qal := ⟨[],.s [.i 2 0] (.seq (.block 0 (.s [.m 4 0,.k 5 4,.f 6 4 5,.l 7 6,.m 3 7] (.cond 3 (.s [.i 2 1] .ret) (.s [.m 9 0,.k 10 9,.f 11 2 10,.l 12 11,.j 13 .eql 12 (oi 7),.m 8 13] (.cond 8 (.s [.i 2 7] .ret) .skip))))) (.s [.m 14 0,.k 15 14,.f 16 2 15,.l 17 16,.j 18 .add 17 (oi 1),.k 19 14,.f 20 2 19,.e (.store 1 20 18)] (.s [.i 2 0] .ret))),[.tmp 2],false,1⟩

def F.zbc : qal := ⟨[],.s [.i 2 0] (.seq (.s [.m 3 0,.k 4 3,.f 5 2 4,.l 6 5,.j 7 .eql 6 (oi 0)] (.cond 7 (.s [.i 2 8] .ret) .skip)) (.s [.m 8 0,.k 9 8,.f 10 2 9,.l 11 10,.j 12 .sub 11 (oi 1),.k 13 8,.f 14 2 13,.e (.store 1 14 12)] (.s [.i 2 0] .ret))),[.tmp 2],false,1⟩

def F.zbr : qal := ⟨[3],.s [.o 3 (.lbox 0),.i 6 0] (.seq (.s [.o 7 (.lload none 3 0 (some 2)),.c 8 Id.zbn [7],.o 9 (.un .not 8)] (.cond 9 (.s [.m 10 2,.m 6 10] .ret) .skip)) (.s [.m 11 1,.o 12 (.lload none 3 0 (some 2)),.o 13 (.callv 11 [12]),.m 6 13] .ret)),[.tmp 6],true,3⟩

def F.zbg : qal := ⟨[],.s [.b 4 false] (.s [.m 5 0,.j 6 .geq 5 (oi 0),.m 7 6,.w 8 (.mov 0) 7 true,.w 9 (.mov 1) 7 true,.w 10 (.bin .leq 8 9) 7 true,.o 11 (.pick 7 10 (ob false)),.m 4 11] .ret),[.tmp 4],true,2⟩

def F.zcQ : qal := ⟨[],.s [.o 2 (.mov (.const (.slice none 0 0)))] (.seq (.s [.m 3 0,.o 4 (.eqv false (.nil 1) 3 (.const (.slice none 0 0)))] (.cond 4 (.s [.o 2 (.mov (.const (.slice none 0 0)))] .ret) .skip)) (.s [.o 5 (.buildSlice 4 0 [] []),.m 6 0,.o 7 (.append 4 32 5 6),.m 2 7] .ret)),[.tmp 2],true,1⟩

def F.zcT : qal := ⟨[],.region [.m 4 0,.m 5 0,.o 6 (.len false 5),.m 7 1,.c 8 Id.zcW [4,6,7]],[],false,2⟩

def F.zcn : qal := ⟨[2,3],.s [.o 2 (.lbox 0),.o 3 (.lbox 1),.i 4 0] (.s [.o 5 (.laddr none 2 1),.o 6 (.lload (some 5) 2 1 none),.o 7 (.laddr none 3 1),.o 8 (.lload (some 7) 3 1 none),.c 9 Id.zav [6,8],.o 10 (.laddr none 2 0),.o 11 (.lload (some 10) 2 0 none),.o 12 (.laddr none 3 0),.o 13 (.lload (some 12) 3 0 none),.c 14 Id.zav [11,13],.o 15 (.laddr none 2 2),.o 16 (.lload (some 15) 2 2 none),.o 17 (.laddr none 3 2),.o 18 (.lload (some 17) 3 2 none),.c 19 Id.zav [16,18],.o 20 (.laddr none 2 3),.o 21 (.lload (some 20) 2 3 none),.c 22 Id.zcm [21],.o 23 (.laddr none 3 3),.o 24 (.lload (some 23) 3 3 none),.c 25 Id.zcm [24],.j 26 .sub 22 25,.o 27 (.buildSlice 1 4 [.int .i64 0,.int .i64 0,.int .i64 0,.int .i64 0] [(0,1,9),(1,1,14),(2,1,19),(3,1,26)]),.c 28 Id.zaw [27],.m 4 28] .ret),[.tmp 4],true,2⟩

def F.zbk : qal := ⟨[1,3],.s [.o 1 (.lbox 0),.o 2 (.mov (.const (.pointer none)))] (.s [.o 7 (.lload none 1 0 (some 3)),.c 8 Id.zcc [7],.m 6 8,.x 9 6 0,.x 10 6 1,.o 3 (.lbox (.const (.agg #[.int .i64 0,.int .i64 0]))),.o 3 (.lstore none 3 0 2 9),.m 4 10] (.s [.o 11 (.lload none 3 0 (some 2)),.o 12 (.laddr none 1 2),.o 13 (.lload (some 12) 1 2 none),.o 14 (.build [.int .i64 0,.int .i64 0,.int .i64 0,.int .i64 0,.int .i64 0,.int .i64 0] [(0,2,11),(2,1,13),(3,1,oi 1)]),.o 15 (.box 14),.m 5 15] (.seq (.s [.m 16 4,.j 17 .neq 16 (oi 0)] (.cond 17 (.r [.m 18 5,.k 19 18,.f 20 3 19,.e (.store 1 20 (oi 0))]) .skip)) (.s [.m 21 5,.m 2 21] .ret)))),[.tmp 2],false,1⟩
end Go.Proofs.YtojjkphkfpeimaaGreat

