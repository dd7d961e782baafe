/- The texts of this seat are its functions' translations. -/
import Derived.Test.YtnfcohmbcgfhbaaGreatStepsIr
import Derived.Test.YtnfcohmbcgfhbaaGreatProg
import Derived.KernelRfl
set_option linter.unusedVariables false
set_option linter.unusedSimpArgs false

namespace Go.Proofs.YtnfcohmbcgfhbaaGreat
open Go Go.Ir

theorem Ok.zbR : qbF Tryz.prog Tryz.f6 ⟨[3], false, [[1, 2, 3, 7, 8, 9, 10, 11], [2, 7, 8, 9, 10, 12]]⟩ = some F.zbR := by kernel_rfl
theorem Ok.zbW : qbF Tryz.prog Tryz.f8 ⟨[1], false, []⟩ = some F.zbW := by kernel_rfl
theorem Ok.zcw : qbF Tryz.prog Tryz.f9 ⟨[1], true, []⟩ = some F.zcw := by kernel_rfl
theorem Ok.zbS : qbF Tryz.prog Tryz.f10 ⟨[1], true, []⟩ = some F.zbS := by kernel_rfl
theorem Ok.zdF : qbF Tryz.prog Tryz.f11 ⟨[3, 8], false, []⟩ = some F.zdF := by kernel_rfl
theorem Ok.zbT : qbF Tryz.prog Tryz.f12 ⟨[], false, [[0, 1, 2, 8, 9]]⟩ = some F.zbT := by kernel_rfl
theorem Ok.zdH : qbF Tryz.prog Tryz.f13 ⟨[], false, []⟩ = some F.zdH := by kernel_rfl
theorem Ok.zap : qbF Tryz.prog Tryz.f15 ⟨[], false, []⟩ = some F.zap := by kernel_rfl
theorem Ok.zbV : qbF Tryz.prog Tryz.f16 ⟨[], true, [[0, 1, 5, 6]]⟩ = some F.zbV := by kernel_rfl
theorem Ok.zdJ : qbF Tryz.prog Tryz.f17 ⟨[5], false, []⟩ = some F.zdJ := by kernel_rfl
theorem Ok.zdG : qbF Tryz.prog Tryz.f18 ⟨[], false, []⟩ = some F.zdG := by kernel_rfl
theorem Ok.zdp : qbF Tryz.prog Tryz.f20 ⟨[], true, [[0, 1, 5]]⟩ = some F.zdp := by kernel_rfl
theorem Ok.zcG : qbF Tryz.prog Tryz.f21 ⟨[1], false, []⟩ = some F.zcG := by kernel_rfl
theorem Ok.zdr : qbF Tryz.prog Tryz.f22 ⟨[3], false, []⟩ = some F.zdr := by kernel_rfl
theorem Ok.zdw : qbF Tryz.prog Tryz.f23 ⟨[5], false, []⟩ = some F.zdw := by kernel_rfl
theorem Ok.zdI : qbF Tryz.prog Tryz.f24 ⟨[], false, []⟩ = some F.zdI := by kernel_rfl
theorem Ok.zdv : qbF Tryz.prog Tryz.f25 ⟨[], false, []⟩ = some F.zdv := by kernel_rfl
theorem Ok.zdu : qbF Tryz.prog Tryz.f26 ⟨[], false, []⟩ = some F.zdu := by kernel_rfl
theorem Ok.zdt : qbF Tryz.prog Tryz.f27 ⟨[], false, []⟩ = some F.zdt := by kernel_rfl
theorem Ok.zbU : qbF Tryz.prog Tryz.f28 ⟨[], false, [[0, 1, 5], [0, 1, 6]]⟩ = some F.zbU := by kernel_rfl
theorem Ok.zal : qbF Tryz.prog Tryz.f29 ⟨[], false, []⟩ = some F.zal := by kernel_rfl
theorem Ok.zcy : qbF Tryz.prog Tryz.f30 ⟨[1], true, []⟩ = some F.zcy := by kernel_rfl
theorem Ok.zbF : qbF Tryz.prog Tryz.f31 ⟨[3, 5], false, [[0, 5, 38, 39], [0, 5, 8, 9]]⟩ = some F.zbF := by kernel_rfl
theorem Ok.zaN : qbF Tryz.prog Tryz.f32 ⟨[3, 5], false, [[0, 5, 7, 23, 24]]⟩ = some F.zaN := by kernel_rfl
theorem Ok.zbE : qbF Tryz.prog Tryz.f33 ⟨[1, 2], true, []⟩ = some F.zbE := by kernel_rfl
theorem Ok.zbx : qbF Tryz.prog Tryz.f34 ⟨[2], true, []⟩ = some F.zbx := by kernel_rfl
theorem Ok.zdx : qbF Tryz.prog Tryz.f35 ⟨[], false, []⟩ = some F.zdx := by kernel_rfl
theorem Ok.zcA : qbF Tryz.prog Tryz.f39 ⟨[], false, [[0, 1, 5]]⟩ = some F.zcA := by kernel_rfl
theorem Ok.zau : qbF Tryz.prog Tryz.f40 ⟨[], false, []⟩ = some F.zau := by kernel_rfl
theorem Ok.zaO : qbF Tryz.prog Tryz.f41 ⟨[2, 5], false, []⟩ = some F.zaO := by kernel_rfl
theorem Ok.zaL : qbF Tryz.prog Tryz.f42 ⟨[], false, []⟩ = some F.zaL := by kernel_rfl
theorem Ok.zdL : qbF Tryz.prog Tryz.f43 ⟨[2, 3], false, []⟩ = some F.zdL := by kernel_rfl
theorem Ok.zaM : qbF Tryz.prog Tryz.f44 ⟨[4, 6], false, []⟩ = some F.zaM := by kernel_rfl
theorem Ok.zcp : qbF Tryz.prog Tryz.f47 ⟨[], false, []⟩ = some F.zcp := by kernel_rfl
theorem Ok.zcx : qbF Tryz.prog Tryz.f48 ⟨[1], false, [[1, 3, 4]]⟩ = some F.zcx := by kernel_rfl
theorem Ok.zcv : qbF Tryz.prog Tryz.f49 ⟨[3], true, []⟩ = some F.zcv := by kernel_rfl
theorem Ok.zdo : qbF Tryz.prog Tryz.f50 ⟨[2], false, []⟩ = some F.zdo := by kernel_rfl
theorem Ok.zdm : qbF Tryz.prog Tryz.f51 ⟨[], false, []⟩ = some F.zdm := by kernel_rfl
theorem Ok.zds : qbF Tryz.prog Tryz.f52 ⟨[2, 3], false, []⟩ = some F.zds := by kernel_rfl
theorem Ok.zdq : qbF Tryz.prog Tryz.f53 ⟨[4], false, []⟩ = some F.zdq := by kernel_rfl
theorem Ok.zdn : qbF Tryz.prog Tryz.f54 ⟨[4], false, []⟩ = some F.zdn := by kernel_rfl
theorem Ok.zaa : qbF Tryz.prog Tryz.f55 ⟨[], false, []⟩ = some F.zaa := by kernel_rfl
theorem Ok.zcH : qbF Tryz.prog Tryz.f56 ⟨[], false, []⟩ = some F.zcH := by kernel_rfl
theorem Ok.zam : qbF Tryz.prog Tryz.f57 ⟨[], false, []⟩ = some F.zam := by kernel_rfl
theorem Ok.zav : qbF Tryz.prog Tryz.f58 ⟨[], true, []⟩ = some F.zav := by kernel_rfl
theorem Ok.zbB : qbF Tryz.prog Tryz.f59 ⟨[1], true, []⟩ = some F.zbB := by kernel_rfl
theorem Ok.zbw : qbF Tryz.prog Tryz.f60 ⟨[2], true, []⟩ = some F.zbw := by kernel_rfl
theorem Ok.zbg : qbF Tryz.prog Tryz.f61 ⟨[], true, []⟩ = some F.zbg := by kernel_rfl
theorem Ok.zbA : qbF Tryz.prog Tryz.f62 ⟨[1], true, []⟩ = some F.zbA := by kernel_rfl
theorem Ok.zbf : qbF Tryz.prog Tryz.f63 ⟨[], true, []⟩ = some F.zbf := by kernel_rfl
theorem Ok.zbG : qbF Tryz.prog Tryz.f64 ⟨[], true, []⟩ = some F.zbG := by kernel_rfl
theorem Ok.zcj : qbF Tryz.prog Tryz.f66 ⟨[], true, [[0, 5]]⟩ = some F.zcj := by kernel_rfl
theorem Ok.zbu : qbF Tryz.prog Tryz.f67 ⟨[1], true, []⟩ = some F.zbu := by kernel_rfl
theorem Ok.zak : qbF Tryz.prog Tryz.f68 ⟨[2, 5], false, []⟩ = some F.zak := by kernel_rfl
theorem Ok.zba : qbF Tryz.prog Tryz.f69 ⟨[2, 5], false, []⟩ = some F.zba := by kernel_rfl
theorem Ok.zbQ : qbF Tryz.prog Tryz.f70 ⟨[3, 7], false, []⟩ = some F.zbQ := by kernel_rfl
theorem Ok.zdT : qbF Tryz.prog Tryz.f71 ⟨[4, 9], false, []⟩ = some F.zdT := by kernel_rfl
theorem Ok.zbK : qbF Tryz.prog Tryz.f72 ⟨[2], false, []⟩ = some F.zbK := by kernel_rfl
theorem Ok.zbL : qbF Tryz.prog Tryz.f73 ⟨[2], false, []⟩ = some F.zbL := by kernel_rfl
theorem Ok.zcs : qbF Tryz.prog Tryz.f75 ⟨[], false, []⟩ = some F.zcs := by kernel_rfl
theorem Ok.zcu : qbF Tryz.prog Tryz.f76 ⟨[], false, []⟩ = some F.zcu := by kernel_rfl
theorem Ok.zcP : qbF Tryz.prog Tryz.f77 ⟨[2], false, []⟩ = some F.zcP := by kernel_rfl
theorem Ok.zdl : qbF Tryz.prog Tryz.f78 ⟨[2], false, []⟩ = some F.zdl := by kernel_rfl
theorem Ok.zcW : qbF Tryz.prog Tryz.f79 ⟨[3], false, []⟩ = some F.zcW := by kernel_rfl
theorem Ok.zdc : qbF Tryz.prog Tryz.f80 ⟨[4], false, []⟩ = some F.zdc := by kernel_rfl
theorem Ok.zdg : qbF Tryz.prog Tryz.f81 ⟨[3], false, []⟩ = some F.zdg := by kernel_rfl
theorem Ok.zcJ : qbF Tryz.prog Tryz.f82 ⟨[4], false, []⟩ = some F.zcJ := by kernel_rfl
theorem Ok.zdh : qbF Tryz.prog Tryz.f83 ⟨[4], false, []⟩ = some F.zdh := by kernel_rfl
theorem Ok.zcR : qbF Tryz.prog Tryz.f84 ⟨[4], false, []⟩ = some F.zcR := by kernel_rfl
theorem Ok.zcX : qbF Tryz.prog Tryz.f85 ⟨[4], false, []⟩ = some F.zcX := by kernel_rfl
theorem Ok.zdd : qbF Tryz.prog Tryz.f86 ⟨[4], false, []⟩ = some F.zdd := by kernel_rfl
theorem Ok.zcI : qbF Tryz.prog Tryz.f87 ⟨[], false, []⟩ = some F.zcI := by kernel_rfl
theorem Ok.zat : qbF Tryz.prog Tryz.f88 ⟨[], false, []⟩ = some F.zat := by kernel_rfl
theorem Ok.zbC : qbF Tryz.prog Tryz.f89 ⟨[3], true, []⟩ = some F.zbC := by kernel_rfl
theorem Ok.zbo : qbF Tryz.prog Tryz.f90 ⟨[], true, []⟩ = some F.zbo := by kernel_rfl
theorem Ok.zbp : qbF Tryz.prog Tryz.f91 ⟨[], true, []⟩ = some F.zbp := by kernel_rfl
theorem Ok.zbn : qbF Tryz.prog Tryz.f92 ⟨[], true, []⟩ = some F.zbn := by kernel_rfl
theorem Ok.zbD : qbF Tryz.prog Tryz.f93 ⟨[2], true, []⟩ = some F.zbD := by kernel_rfl
theorem Ok.zcg : qbF Tryz.prog Tryz.f94 ⟨[], true, []⟩ = some F.zcg := by kernel_rfl
theorem Ok.zdy : qbF Tryz.prog Tryz.f95 ⟨[1], false, []⟩ = some F.zdy := by kernel_rfl
theorem Ok.zbd : qbF Tryz.prog Tryz.f96 ⟨[], true, [[0]]⟩ = some F.zbd := by kernel_rfl
theorem Ok.zbc : qbF Tryz.prog Tryz.f97 ⟨[], true, []⟩ = some F.zbc := by kernel_rfl
theorem Ok.zbM : qbF Tryz.prog Tryz.f98 ⟨[4, 9], false, []⟩ = some F.zbM := by kernel_rfl
theorem Ok.zaC : qbF Tryz.prog Tryz.f99 ⟨[], true, []⟩ = some F.zaC := by kernel_rfl
theorem Ok.zaF : qbF Tryz.prog Tryz.f100 ⟨[], true, []⟩ = some F.zaF := by kernel_rfl
theorem Ok.zcK : qbF Tryz.prog Tryz.f101 ⟨[4], false, []⟩ = some F.zcK := by kernel_rfl
theorem Ok.zcB : qbF Tryz.prog Tryz.f102 ⟨[], false, []⟩ = some F.zcB := by kernel_rfl
theorem Ok.zcN : qbF Tryz.prog Tryz.f103 ⟨[4], false, []⟩ = some F.zcN := by kernel_rfl
theorem Ok.zcL : qbF Tryz.prog Tryz.f104 ⟨[6], false, []⟩ = some F.zcL := by kernel_rfl
theorem Ok.zcO : qbF Tryz.prog Tryz.f105 ⟨[4], false, []⟩ = some F.zcO := by kernel_rfl
theorem Ok.zcM : qbF Tryz.prog Tryz.f106 ⟨[4, 6], false, []⟩ = some F.zcM := by kernel_rfl
theorem Ok.zch : qbF Tryz.prog Tryz.f107 ⟨[], true, []⟩ = some F.zch := by kernel_rfl
theorem Ok.zdi : qbF Tryz.prog Tryz.f108 ⟨[4], false, []⟩ = some F.zdi := by kernel_rfl
theorem Ok.zdj : qbF Tryz.prog Tryz.f109 ⟨[8, 10], false, []⟩ = some F.zdj := by kernel_rfl
theorem Ok.zdk : qbF Tryz.prog Tryz.f110 ⟨[8], false, []⟩ = some F.zdk := by kernel_rfl
theorem Ok.zcS : qbF Tryz.prog Tryz.f111 ⟨[3, 4], false, []⟩ = some F.zcS := by kernel_rfl
theorem Ok.zcT : qbF Tryz.prog Tryz.f112 ⟨[8, 10], false, []⟩ = some F.zcT := by kernel_rfl
theorem Ok.zcV : qbF Tryz.prog Tryz.f113 ⟨[4], false, []⟩ = some F.zcV := by kernel_rfl
theorem Ok.zcq : qbF Tryz.prog Tryz.f114 ⟨[], false, []⟩ = some F.zcq := by kernel_rfl
theorem Ok.zcU : qbF Tryz.prog Tryz.f115 ⟨[8, 10], false, []⟩ = some F.zcU := by kernel_rfl
theorem Ok.zcY : qbF Tryz.prog Tryz.f116 ⟨[4], false, []⟩ = some F.zcY := by kernel_rfl
theorem Ok.zdb : qbF Tryz.prog Tryz.f117 ⟨[8, 10], false, []⟩ = some F.zdb := by kernel_rfl
theorem Ok.zda : qbF Tryz.prog Tryz.f118 ⟨[4], false, []⟩ = some F.zda := by kernel_rfl
theorem Ok.zct : qbF Tryz.prog Tryz.f119 ⟨[], false, []⟩ = some F.zct := by kernel_rfl
theorem Ok.zcZ : qbF Tryz.prog Tryz.f120 ⟨[6], false, []⟩ = some F.zcZ := by kernel_rfl
theorem Ok.zde : qbF Tryz.prog Tryz.f121 ⟨[4], false, []⟩ = some F.zde := by kernel_rfl
theorem Ok.zdf : qbF Tryz.prog Tryz.f122 ⟨[8, 10], false, []⟩ = some F.zdf := by kernel_rfl
theorem Ok.zcr : qbF Tryz.prog Tryz.f123 ⟨[], false, []⟩ = some F.zcr := by kernel_rfl
theorem Ok.zci : qbF Tryz.prog Tryz.f124 ⟨[], true, [[0]]⟩ = some F.zci := by kernel_rfl
theorem Ok.zaT : qbF Tryz.prog Tryz.f125 ⟨[4], true, []⟩ = some F.zaT := by kernel_rfl
theorem Ok.zbs : qbF Tryz.prog Tryz.f126 ⟨[0], true, []⟩ = some F.zbs := by kernel_rfl
theorem Ok.zbm : qbF Tryz.prog Tryz.f127 ⟨[], true, []⟩ = some F.zbm := by kernel_rfl
theorem Ok.zbr : qbF Tryz.prog Tryz.f128 ⟨[0], true, []⟩ = some F.zbr := by kernel_rfl
theorem Ok.zbl : qbF Tryz.prog Tryz.f129 ⟨[], true, []⟩ = some F.zbl := by kernel_rfl
theorem Ok.zbe : qbF Tryz.prog Tryz.f130 ⟨[], true, []⟩ = some F.zbe := by kernel_rfl
theorem Ok.zaI : qbF Tryz.prog Tryz.f131 ⟨[], false, []⟩ = some F.zaI := by kernel_rfl
theorem Ok.zaD : qbF Tryz.prog Tryz.f132 ⟨[], false, []⟩ = some F.zaD := by kernel_rfl
theorem Ok.zaG : qbF Tryz.prog Tryz.f133 ⟨[], false, []⟩ = some F.zaG := by kernel_rfl
theorem Ok.zcF : qbF Tryz.prog Tryz.f134 ⟨[3], false, []⟩ = some F.zcF := by kernel_rfl
theorem Ok.zcD : qbF Tryz.prog Tryz.f135 ⟨[], false, []⟩ = some F.zcD := by kernel_rfl
theorem Ok.zcE : qbF Tryz.prog Tryz.f136 ⟨[], false, []⟩ = some F.zcE := by kernel_rfl
theorem Ok.zcC : qbF Tryz.prog Tryz.f137 ⟨[], false, []⟩ = some F.zcC := by kernel_rfl
theorem Ok.zcc : qbF Tryz.prog Tryz.f138 ⟨[2, 4], true, []⟩ = some F.zcc := by kernel_rfl
theorem Ok.zca : qbF Tryz.prog Tryz.f139 ⟨[1], true, []⟩ = some F.zca := by kernel_rfl
theorem Ok.zcQ : qbF Tryz.prog Tryz.f140 ⟨[4, 6], false, []⟩ = some F.zcQ := by kernel_rfl
theorem Ok.zbZ : qbF Tryz.prog Tryz.f141 ⟨[5], true, []⟩ = some F.zbZ := by kernel_rfl
theorem Ok.zbX : qbF Tryz.prog Tryz.f142 ⟨[6], true, []⟩ = some F.zbX := by kernel_rfl
theorem Ok.zcb : qbF Tryz.prog Tryz.f143 ⟨[4], true, []⟩ = some F.zcb := by kernel_rfl
theorem Ok.zcd : qbF Tryz.prog Tryz.f144 ⟨[4], true, []⟩ = some F.zcd := by kernel_rfl
theorem Ok.zaV : qbF Tryz.prog Tryz.f145 ⟨[], true, []⟩ = some F.zaV := by kernel_rfl
theorem Ok.zaQ : qbF Tryz.prog Tryz.f146 ⟨[1], true, []⟩ = some F.zaQ := by kernel_rfl
theorem Ok.zaR : qbF Tryz.prog Tryz.f147 ⟨[1], true, []⟩ = some F.zaR := by kernel_rfl
theorem Ok.zaP : qbF Tryz.prog Tryz.f148 ⟨[1], true, []⟩ = some F.zaP := by kernel_rfl
theorem Ok.zbb : qbF Tryz.prog Tryz.f149 ⟨[], true, []⟩ = some F.zbb := by kernel_rfl
theorem Ok.zaE : qbF Tryz.prog Tryz.f150 ⟨[2, 6, 7], true, [[0, 2, 4, 15, 16]]⟩ = some F.zaE := by kernel_rfl
theorem Ok.zaB : qbF Tryz.prog Tryz.f151 ⟨[1], true, [[4, 24, 25]]⟩ = some F.zaB := by kernel_rfl
theorem Ok.zcn : qbF Tryz.prog Tryz.f152 ⟨[], true, []⟩ = some F.zcn := by kernel_rfl
theorem Ok.zcm : qbF Tryz.prog Tryz.f153 ⟨[], true, []⟩ = some F.zcm := by kernel_rfl
theorem Ok.zcl : qbF Tryz.prog Tryz.f154 ⟨[], true, []⟩ = some F.zcl := by kernel_rfl
theorem Ok.zbY : qbF Tryz.prog Tryz.f155 ⟨[1], true, []⟩ = some F.zbY := by kernel_rfl
theorem Ok.zce : qbF Tryz.prog Tryz.f156 ⟨[], true, []⟩ = some F.zce := by kernel_rfl
theorem Ok.zcf : qbF Tryz.prog Tryz.f157 ⟨[2, 4], true, []⟩ = some F.zcf := by kernel_rfl
theorem Ok.zaJ : qbF Tryz.prog Tryz.f158 ⟨[0], true, []⟩ = some F.zaJ := by kernel_rfl
theorem Ok.zaS : qbF Tryz.prog Tryz.f159 ⟨[3], true, []⟩ = some F.zaS := by kernel_rfl
theorem Ok.zaw : qbF Tryz.prog Tryz.f160 ⟨[1], true, []⟩ = some F.zaw := by kernel_rfl
theorem Ok.zaH : qbF Tryz.prog Tryz.f161 ⟨[], true, []⟩ = some F.zaH := by kernel_rfl
theorem Ok.zco : qbF Tryz.prog Tryz.f162 ⟨[], true, []⟩ = some F.zco := by kernel_rfl
theorem Ok.zck : qbF Tryz.prog Tryz.f163 ⟨[], true, []⟩ = some F.zck := by kernel_rfl
theorem Ok.zaU : qbF Tryz.prog Tryz.f164 ⟨[3], true, []⟩ = some F.zaU := by kernel_rfl
theorem Ok.zaK : qbF Tryz.prog Tryz.f165 ⟨[], true, []⟩ = some F.zaK := by kernel_rfl
theorem Ok.zan : qbF Tryz.prog Tryz.f181 ⟨[], false, []⟩ = some F.zan := by kernel_rfl
theorem Ok.zar : qbF Tryz.prog Tryz.f182 ⟨[], false, []⟩ = some F.zar := by kernel_rfl
theorem Ok.zas : qbF Tryz.prog Tryz.f183 ⟨[], false, []⟩ = some F.zas := by kernel_rfl
theorem Ok.zcz : qbF Tryz.prog Tryz.f184 ⟨[], false, []⟩ = some F.zcz := by kernel_rfl
theorem Ok.zab : qbF Tryz.prog Tryz.f186 ⟨[4], false, []⟩ = some F.zab := by kernel_rfl
theorem Ok.zby : qbF Tryz.prog Tryz.f187 ⟨[1], true, []⟩ = some F.zby := by kernel_rfl
theorem Ok.zag : qbF Tryz.prog Tryz.f188 ⟨[], false, []⟩ = some F.zag := by kernel_rfl
theorem Ok.zaj : qbF Tryz.prog Tryz.f189 ⟨[], false, []⟩ = some F.zaj := by kernel_rfl
theorem Ok.zae : qbF Tryz.prog Tryz.f190 ⟨[], false, []⟩ = some F.zae := by kernel_rfl
theorem Ok.zbv : qbF Tryz.prog Tryz.f191 ⟨[1], true, []⟩ = some F.zbv := by kernel_rfl
theorem Ok.zdB : qbF Tryz.prog Tryz.f192 ⟨[], false, []⟩ = some F.zdB := by kernel_rfl
theorem Ok.zac : qbF Tryz.prog Tryz.f193 ⟨[], false, []⟩ = some F.zac := by kernel_rfl
theorem Ok.zbz : qbF Tryz.prog Tryz.f194 ⟨[2], true, []⟩ = some F.zbz := by kernel_rfl
theorem Ok.zaf : qbF Tryz.prog Tryz.f195 ⟨[4], false, []⟩ = some F.zaf := by kernel_rfl
theorem Ok.zah : qbF Tryz.prog Tryz.f196 ⟨[], false, []⟩ = some F.zah := by kernel_rfl
theorem Ok.zai : qbF Tryz.prog Tryz.f197 ⟨[2], false, []⟩ = some F.zai := by kernel_rfl
theorem Ok.zdA : qbF Tryz.prog Tryz.f198 ⟨[], false, []⟩ = some F.zdA := by kernel_rfl
theorem Ok.zad : qbF Tryz.prog Tryz.f199 ⟨[], false, []⟩ = some F.zad := by kernel_rfl
theorem Ok.zdz : qbF Tryz.prog Tryz.f200 ⟨[2], false, []⟩ = some F.zdz := by kernel_rfl
theorem Ok.zdD : qbF Tryz.prog Tryz.f201 ⟨[], false, []⟩ = some F.zdD := by kernel_rfl
theorem Ok.zbi : qbF Tryz.prog Tryz.f202 ⟨[], true, []⟩ = some F.zbi := by kernel_rfl
theorem Ok.zdE : qbF Tryz.prog Tryz.f203 ⟨[], false, []⟩ = some F.zdE := by kernel_rfl
theorem Ok.zbt : qbF Tryz.prog Tryz.f204 ⟨[2], true, []⟩ = some F.zbt := by kernel_rfl
theorem Ok.zdC : qbF Tryz.prog Tryz.f205 ⟨[], false, []⟩ = some F.zdC := by kernel_rfl
theorem Ok.zbh : qbF Tryz.prog Tryz.f206 ⟨[], true, []⟩ = some F.zbh := by kernel_rfl
theorem Ok.zbj : qbF Tryz.prog Tryz.f207 ⟨[], true, []⟩ = some F.zbj := by kernel_rfl
theorem Ok.zbq : qbF Tryz.prog Tryz.f208 ⟨[], true, []⟩ = some F.zbq := by kernel_rfl
theorem Ok.zbk : qbF Tryz.prog Tryz.f209 ⟨[], true, []⟩ = some F.zbk := by kernel_rfl
theorem Ok.zaW : qbF Tryz.prog Tryz.f212 ⟨[4], false, []⟩ = some F.zaW := by kernel_rfl
theorem Ok.zaY : qbF Tryz.prog Tryz.f213 ⟨[4, 6], false, []⟩ = some F.zaY := by kernel_rfl
theorem Ok.zaZ : qbF Tryz.prog Tryz.f214 ⟨[4], false, []⟩ = some F.zaZ := by kernel_rfl
theorem Ok.zaX : qbF Tryz.prog Tryz.f215 ⟨[4], false, []⟩ = some F.zaX := by kernel_rfl
theorem Ok.zaz : qbF Tryz.prog Tryz.f216 ⟨[], true, []⟩ = some F.zaz := by kernel_rfl
theorem Ok.zaA : qbF Tryz.prog Tryz.f217 ⟨[], false, []⟩ = some F.zaA := by kernel_rfl
theorem Ok.zbN : qbF Tryz.prog Tryz.f218 ⟨[4, 6, 9], false, []⟩ = some F.zbN := by kernel_rfl
theorem Ok.zbO : qbF Tryz.prog Tryz.f219 ⟨[3, 4], false, []⟩ = some F.zbO := by kernel_rfl
theorem Ok.zbP : qbF Tryz.prog Tryz.f220 ⟨[4, 6], false, []⟩ = some F.zbP := by kernel_rfl
theorem Ok.zdM : qbF Tryz.prog Tryz.f222 ⟨[4], false, []⟩ = some F.zdM := by kernel_rfl
theorem Ok.zdR : qbF Tryz.prog Tryz.f223 ⟨[5], false, []⟩ = some F.zdR := by kernel_rfl
theorem Ok.zdN : qbF Tryz.prog Tryz.f224 ⟨[4], false, []⟩ = some F.zdN := by kernel_rfl
theorem Ok.zdO : qbF Tryz.prog Tryz.f225 ⟨[], false, []⟩ = some F.zdO := by kernel_rfl
theorem Ok.zdQ : qbF Tryz.prog Tryz.f226 ⟨[], false, []⟩ = some F.zdQ := by kernel_rfl
theorem Ok.zdP : qbF Tryz.prog Tryz.f227 ⟨[], false, []⟩ = some F.zdP := by kernel_rfl
theorem Ok.zax : qbF Tryz.prog Tryz.f228 ⟨[], true, []⟩ = some F.zax := by kernel_rfl
theorem Ok.zdS : qbF Tryz.prog Tryz.f229 ⟨[], false, []⟩ = some F.zdS := by kernel_rfl
theorem Ok.zay : qbF Tryz.prog Tryz.f230 ⟨[], false, []⟩ = some F.zay := by kernel_rfl
theorem Ok.zbH : qbF Tryz.prog Tryz.f231 ⟨[4], false, []⟩ = some F.zbH := by kernel_rfl
theorem Ok.zbJ : qbF Tryz.prog Tryz.f232 ⟨[4, 6], false, []⟩ = some F.zbJ := by kernel_rfl
theorem Ok.zbI : qbF Tryz.prog Tryz.f233 ⟨[4], false, []⟩ = some F.zbI := by kernel_rfl
theorem Ok.zdK : qbF Tryz.prog Tryz.f234 ⟨[2, 4], false, []⟩ = some F.zdK := by kernel_rfl
theorem Ok.zao : qbF Tryz.prog Tryz.f236 ⟨[], false, []⟩ = some F.zao := by kernel_rfl
theorem Ok.zaq : qbF Tryz.prog Tryz.f237 ⟨[], false, []⟩ = some F.zaq := by kernel_rfl

theorem qiD : TblOk Tryz.prog tbl := by
 unfold tbl
 refine .cons Tryz.func6 Ok.zbR ?_
 refine .cons Tryz.func8 Ok.zbW ?_
 refine .cons Tryz.func9 Ok.zcw ?_
 refine .cons Tryz.func10 Ok.zbS ?_
 refine .cons Tryz.func11 Ok.zdF ?_
 refine .cons Tryz.func12 Ok.zbT ?_
 refine .cons Tryz.func13 Ok.zdH ?_
 refine .cons Tryz.func15 Ok.zap ?_
 refine .cons Tryz.func16 Ok.zbV ?_
 refine .cons Tryz.func17 Ok.zdJ ?_
 refine .cons Tryz.func18 Ok.zdG ?_
 refine .cons Tryz.func20 Ok.zdp ?_
 refine .cons Tryz.func21 Ok.zcG ?_
 refine .cons Tryz.func22 Ok.zdr ?_
 refine .cons Tryz.func23 Ok.zdw ?_
 refine .cons Tryz.func24 Ok.zdI ?_
 refine .cons Tryz.func25 Ok.zdv ?_
 refine .cons Tryz.func26 Ok.zdu ?_
 refine .cons Tryz.func27 Ok.zdt ?_
 refine .cons Tryz.func28 Ok.zbU ?_
 refine .cons Tryz.func29 Ok.zal ?_
 refine .cons Tryz.func30 Ok.zcy ?_
 refine .cons Tryz.func31 Ok.zbF ?_
 refine .cons Tryz.func32 Ok.zaN ?_
 refine .cons Tryz.func33 Ok.zbE ?_
 refine .cons Tryz.func34 Ok.zbx ?_
 refine .cons Tryz.func35 Ok.zdx ?_
 refine .cons Tryz.func39 Ok.zcA ?_
 refine .cons Tryz.func40 Ok.zau ?_
 refine .cons Tryz.func41 Ok.zaO ?_
 refine .cons Tryz.func42 Ok.zaL ?_
 refine .cons Tryz.func43 Ok.zdL ?_
 refine .cons Tryz.func44 Ok.zaM ?_
 refine .cons Tryz.func47 Ok.zcp ?_
 refine .cons Tryz.func48 Ok.zcx ?_
 refine .cons Tryz.func49 Ok.zcv ?_
 refine .cons Tryz.func50 Ok.zdo ?_
 refine .cons Tryz.func51 Ok.zdm ?_
 refine .cons Tryz.func52 Ok.zds ?_
 refine .cons Tryz.func53 Ok.zdq ?_
 refine .cons Tryz.func54 Ok.zdn ?_
 refine .cons Tryz.func55 Ok.zaa ?_
 refine .cons Tryz.func56 Ok.zcH ?_
 refine .cons Tryz.func57 Ok.zam ?_
 refine .cons Tryz.func58 Ok.zav ?_
 refine .cons Tryz.func59 Ok.zbB ?_
 refine .cons Tryz.func60 Ok.zbw ?_
 refine .cons Tryz.func61 Ok.zbg ?_
 refine .cons Tryz.func62 Ok.zbA ?_
 refine .cons Tryz.func63 Ok.zbf ?_
 refine .cons Tryz.func64 Ok.zbG ?_
 refine .cons Tryz.func66 Ok.zcj ?_
 refine .cons Tryz.func67 Ok.zbu ?_
 refine .cons Tryz.func68 Ok.zak ?_
 refine .cons Tryz.func69 Ok.zba ?_
 refine .cons Tryz.func70 Ok.zbQ ?_
 refine .cons Tryz.func71 Ok.zdT ?_
 refine .cons Tryz.func72 Ok.zbK ?_
 refine .cons Tryz.func73 Ok.zbL ?_
 refine .cons Tryz.func75 Ok.zcs ?_
 refine .cons Tryz.func76 Ok.zcu ?_
 refine .cons Tryz.func77 Ok.zcP ?_
 refine .cons Tryz.func78 Ok.zdl ?_
 refine .cons Tryz.func79 Ok.zcW ?_
 refine .cons Tryz.func80 Ok.zdc ?_
 refine .cons Tryz.func81 Ok.zdg ?_
 refine .cons Tryz.func82 Ok.zcJ ?_
 refine .cons Tryz.func83 Ok.zdh ?_
 refine .cons Tryz.func84 Ok.zcR ?_
 refine .cons Tryz.func85 Ok.zcX ?_
 refine .cons Tryz.func86 Ok.zdd ?_
 refine .cons Tryz.func87 Ok.zcI ?_
 refine .cons Tryz.func88 Ok.zat ?_
 refine .cons Tryz.func89 Ok.zbC ?_
 refine .cons Tryz.func90 Ok.zbo ?_
 refine .cons Tryz.func91 Ok.zbp ?_
 refine .cons Tryz.func92 Ok.zbn ?_
 refine .cons Tryz.func93 Ok.zbD ?_
 refine .cons Tryz.func94 Ok.zcg ?_
 refine .cons Tryz.func95 Ok.zdy ?_
 refine .cons Tryz.func96 Ok.zbd ?_
 refine .cons Tryz.func97 Ok.zbc ?_
 refine .cons Tryz.func98 Ok.zbM ?_
 refine .cons Tryz.func99 Ok.zaC ?_
 refine .cons Tryz.func100 Ok.zaF ?_
 refine .cons Tryz.func101 Ok.zcK ?_
 refine .cons Tryz.func102 Ok.zcB ?_
 refine .cons Tryz.func103 Ok.zcN ?_
 refine .cons Tryz.func104 Ok.zcL ?_
 refine .cons Tryz.func105 Ok.zcO ?_
 refine .cons Tryz.func106 Ok.zcM ?_
 refine .cons Tryz.func107 Ok.zch ?_
 refine .cons Tryz.func108 Ok.zdi ?_
 refine .cons Tryz.func109 Ok.zdj ?_
 refine .cons Tryz.func110 Ok.zdk ?_
 refine .cons Tryz.func111 Ok.zcS ?_
 refine .cons Tryz.func112 Ok.zcT ?_
 refine .cons Tryz.func113 Ok.zcV ?_
 refine .cons Tryz.func114 Ok.zcq ?_
 refine .cons Tryz.func115 Ok.zcU ?_
 refine .cons Tryz.func116 Ok.zcY ?_
 refine .cons Tryz.func117 Ok.zdb ?_
 refine .cons Tryz.func118 Ok.zda ?_
 refine .cons Tryz.func119 Ok.zct ?_
 refine .cons Tryz.func120 Ok.zcZ ?_
 refine .cons Tryz.func121 Ok.zde ?_
 refine .cons Tryz.func122 Ok.zdf ?_
 refine .cons Tryz.func123 Ok.zcr ?_
 refine .cons Tryz.func124 Ok.zci ?_
 refine .cons Tryz.func125 Ok.zaT ?_
 refine .cons Tryz.func126 Ok.zbs ?_
 refine .cons Tryz.func127 Ok.zbm ?_
 refine .cons Tryz.func128 Ok.zbr ?_
 refine .cons Tryz.func129 Ok.zbl ?_
 refine .cons Tryz.func130 Ok.zbe ?_
 refine .cons Tryz.func131 Ok.zaI ?_
 refine .cons Tryz.func132 Ok.zaD ?_
 refine .cons Tryz.func133 Ok.zaG ?_
 refine .cons Tryz.func134 Ok.zcF ?_
 refine .cons Tryz.func135 Ok.zcD ?_
 refine .cons Tryz.func136 Ok.zcE ?_
 refine .cons Tryz.func137 Ok.zcC ?_
 refine .cons Tryz.func138 Ok.zcc ?_
 refine .cons Tryz.func139 Ok.zca ?_
 refine .cons Tryz.func140 Ok.zcQ ?_
 refine .cons Tryz.func141 Ok.zbZ ?_
 refine .cons Tryz.func142 Ok.zbX ?_
 refine .cons Tryz.func143 Ok.zcb ?_
 refine .cons Tryz.func144 Ok.zcd ?_
 refine .cons Tryz.func145 Ok.zaV ?_
 refine .cons Tryz.func146 Ok.zaQ ?_
 refine .cons Tryz.func147 Ok.zaR ?_
 refine .cons Tryz.func148 Ok.zaP ?_
 refine .cons Tryz.func149 Ok.zbb ?_
 refine .cons Tryz.func150 Ok.zaE ?_
 refine .cons Tryz.func151 Ok.zaB ?_
 refine .cons Tryz.func152 Ok.zcn ?_
 refine .cons Tryz.func153 Ok.zcm ?_
 refine .cons Tryz.func154 Ok.zcl ?_
 refine .cons Tryz.func155 Ok.zbY ?_
 refine .cons Tryz.func156 Ok.zce ?_
 refine .cons Tryz.func157 Ok.zcf ?_
 refine .cons Tryz.func158 Ok.zaJ ?_
 refine .cons Tryz.func159 Ok.zaS ?_
 refine .cons Tryz.func160 Ok.zaw ?_
 refine .cons Tryz.func161 Ok.zaH ?_
 refine .cons Tryz.func162 Ok.zco ?_
 refine .cons Tryz.func163 Ok.zck ?_
 refine .cons Tryz.func164 Ok.zaU ?_
 refine .cons Tryz.func165 Ok.zaK ?_
 refine .cons Tryz.func181 Ok.zan ?_
 refine .cons Tryz.func182 Ok.zar ?_
 refine .cons Tryz.func183 Ok.zas ?_
 refine .cons Tryz.func184 Ok.zcz ?_
 refine .cons Tryz.func186 Ok.zab ?_
 refine .cons Tryz.func187 Ok.zby ?_
 refine .cons Tryz.func188 Ok.zag ?_
 refine .cons Tryz.func189 Ok.zaj ?_
 refine .cons Tryz.func190 Ok.zae ?_
 refine .cons Tryz.func191 Ok.zbv ?_
 refine .cons Tryz.func192 Ok.zdB ?_
 refine .cons Tryz.func193 Ok.zac ?_
 refine .cons Tryz.func194 Ok.zbz ?_
 refine .cons Tryz.func195 Ok.zaf ?_
 refine .cons Tryz.func196 Ok.zah ?_
 refine .cons Tryz.func197 Ok.zai ?_
 refine .cons Tryz.func198 Ok.zdA ?_
 refine .cons Tryz.func199 Ok.zad ?_
 refine .cons Tryz.func200 Ok.zdz ?_
 refine .cons Tryz.func201 Ok.zdD ?_
 refine .cons Tryz.func202 Ok.zbi ?_
 refine .cons Tryz.func203 Ok.zdE ?_
 refine .cons Tryz.func204 Ok.zbt ?_
 refine .cons Tryz.func205 Ok.zdC ?_
 refine .cons Tryz.func206 Ok.zbh ?_
 refine .cons Tryz.func207 Ok.zbj ?_
 refine .cons Tryz.func208 Ok.zbq ?_
 refine .cons Tryz.func209 Ok.zbk ?_
 refine .cons Tryz.func212 Ok.zaW ?_
 refine .cons Tryz.func213 Ok.zaY ?_
 refine .cons Tryz.func214 Ok.zaZ ?_
 refine .cons Tryz.func215 Ok.zaX ?_
 refine .cons Tryz.func216 Ok.zaz ?_
 refine .cons Tryz.func217 Ok.zaA ?_
 refine .cons Tryz.func218 Ok.zbN ?_
 refine .cons Tryz.func219 Ok.zbO ?_
 refine .cons Tryz.func220 Ok.zbP ?_
 refine .cons Tryz.func222 Ok.zdM ?_
 refine .cons Tryz.func223 Ok.zdR ?_
 refine .cons Tryz.func224 Ok.zdN ?_
 refine .cons Tryz.func225 Ok.zdO ?_
 refine .cons Tryz.func226 Ok.zdQ ?_
 refine .cons Tryz.func227 Ok.zdP ?_
 refine .cons Tryz.func228 Ok.zax ?_
 refine .cons Tryz.func229 Ok.zdS ?_
 refine .cons Tryz.func230 Ok.zay ?_
 refine .cons Tryz.func231 Ok.zbH ?_
 refine .cons Tryz.func232 Ok.zbJ ?_
 refine .cons Tryz.func233 Ok.zbI ?_
 refine .cons Tryz.func234 Ok.zdK ?_
 refine .cons Tryz.func236 Ok.zao ?_
 refine .cons Tryz.func237 Ok.zaq ?_
 exact .nil
end Go.Proofs.YtnfcohmbcgfhbaaGreat

