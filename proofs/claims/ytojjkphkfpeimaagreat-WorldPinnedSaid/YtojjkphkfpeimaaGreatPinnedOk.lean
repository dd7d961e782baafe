/- The texts of this seat are its functions' translations. -/
import Derived.Test.YtojjkphkfpeimaaGreatPinnedIr
import Derived.Test.YtojjkphkfpeimaaGreatProg
import Derived.KernelRfl
set_option linter.unusedVariables false
set_option linter.unusedSimpArgs false

namespace Go.Proofs.YtojjkphkfpeimaaGreat
open Go Go.Ir

theorem Ok.zcs : qbF Tryz.prog Tryz.f3 ⟨[3, 12], false, [[2, 3, 7, 9, 10], [2, 3, 7, 9, 10, 11]]⟩ = some F.zcs := by kernel_rfl
theorem Ok.zcO : qbF Tryz.prog Tryz.f8 ⟨[], false, [[0, 1, 2, 3, 9, 10]]⟩ = some F.zcO := by kernel_rfl
theorem Ok.zct : qbF Tryz.prog Tryz.f9 ⟨[1], false, [[1, 2, 3, 4], [1, 2, 3, 5, 6, 7, 8]]⟩ = some F.zct := by kernel_rfl
theorem Ok.zdn : qbF Tryz.prog Tryz.f10 ⟨[2, 6], false, [[1, 2, 8, 43, 44]]⟩ = some F.zdn := by kernel_rfl
theorem Ok.zcC : qbF Tryz.prog Tryz.f11 ⟨[1], true, []⟩ = some F.zcC := by kernel_rfl
theorem Ok.zdu : qbF Tryz.prog Tryz.f12 ⟨[], false, []⟩ = some F.zdu := by kernel_rfl
theorem Ok.zcv : qbF Tryz.prog Tryz.f13 ⟨[2, 4], true, []⟩ = some F.zcv := by kernel_rfl
theorem Ok.zdo : qbF Tryz.prog Tryz.f14 ⟨[], false, []⟩ = some F.zdo := by kernel_rfl
theorem Ok.zao : qbF Tryz.prog Tryz.f15 ⟨[], false, []⟩ = some F.zao := by kernel_rfl
theorem Ok.zdt : qbF Tryz.prog Tryz.f17 ⟨[], false, []⟩ = some F.zdt := by kernel_rfl
theorem Ok.zdr : qbF Tryz.prog Tryz.f19 ⟨[], false, []⟩ = some F.zdr := by kernel_rfl
theorem Ok.zdv : qbF Tryz.prog Tryz.f20 ⟨[], false, []⟩ = some F.zdv := by kernel_rfl
theorem Ok.zar : qbF Tryz.prog Tryz.f21 ⟨[], false, []⟩ = some F.zar := by kernel_rfl
theorem Ok.zdq : qbF Tryz.prog Tryz.f33 ⟨[], false, []⟩ = some F.zdq := by kernel_rfl
theorem Ok.zal : qbF Tryz.prog Tryz.f34 ⟨[], false, []⟩ = some F.zal := by kernel_rfl
theorem Ok.zdp : qbF Tryz.prog Tryz.f35 ⟨[2], false, []⟩ = some F.zdp := by kernel_rfl
theorem Ok.zcw : qbF Tryz.prog Tryz.f36 ⟨[], true, []⟩ = some F.zcw := by kernel_rfl
theorem Ok.zcc : qbF Tryz.prog Tryz.f37 ⟨[1, 2], true, []⟩ = some F.zcc := by kernel_rfl
theorem Ok.zak : qbF Tryz.prog Tryz.f38 ⟨[], false, []⟩ = some F.zak := by kernel_rfl
theorem Ok.zbZ : qbF Tryz.prog Tryz.f39 ⟨[1], true, []⟩ = some F.zbZ := by kernel_rfl
theorem Ok.zaN : qbF Tryz.prog Tryz.f40 ⟨[1, 3], false, []⟩ = some F.zaN := by kernel_rfl
theorem Ok.zcd : qbF Tryz.prog Tryz.f41 ⟨[3, 5], false, [[0, 5, 38, 39], [0, 5, 8, 9]]⟩ = some F.zcd := by kernel_rfl
theorem Ok.zdh : qbF Tryz.prog Tryz.f42 ⟨[3, 8], false, []⟩ = some F.zdh := by kernel_rfl
theorem Ok.zdw : qbF Tryz.prog Tryz.f43 ⟨[2], false, []⟩ = some F.zdw := by kernel_rfl
theorem Ok.zdj : qbF Tryz.prog Tryz.f44 ⟨[], false, []⟩ = some F.zdj := by kernel_rfl
theorem Ok.zdk : qbF Tryz.prog Tryz.f45 ⟨[5], false, []⟩ = some F.zdk := by kernel_rfl
theorem Ok.zcu : qbF Tryz.prog Tryz.f46 ⟨[1], true, []⟩ = some F.zcu := by kernel_rfl
theorem Ok.zat : qbF Tryz.prog Tryz.f47 ⟨[], false, []⟩ = some F.zat := by kernel_rfl
theorem Ok.zcP : qbF Tryz.prog Tryz.f50 ⟨[], false, []⟩ = some F.zcP := by kernel_rfl
theorem Ok.zds : qbF Tryz.prog Tryz.f51 ⟨[], false, []⟩ = some F.zds := by kernel_rfl
theorem Ok.zcS : qbF Tryz.prog Tryz.f52 ⟨[], false, []⟩ = some F.zcS := by kernel_rfl
theorem Ok.zdi : qbF Tryz.prog Tryz.f53 ⟨[], false, []⟩ = some F.zdi := by kernel_rfl
theorem Ok.zas : qbF Tryz.prog Tryz.f64 ⟨[], false, []⟩ = some F.zas := by kernel_rfl
theorem Ok.zce : qbF Tryz.prog Tryz.f65 ⟨[], true, []⟩ = some F.zce := by kernel_rfl
theorem Ok.zau : qbF Tryz.prog Tryz.f66 ⟨[], true, []⟩ = some F.zau := by kernel_rfl
theorem Ok.zbU : qbF Tryz.prog Tryz.f67 ⟨[2], true, []⟩ = some F.zbU := by kernel_rfl
theorem Ok.zbE : qbF Tryz.prog Tryz.f68 ⟨[], true, []⟩ = some F.zbE := by kernel_rfl
theorem Ok.zbY : qbF Tryz.prog Tryz.f69 ⟨[1], true, []⟩ = some F.zbY := by kernel_rfl
theorem Ok.zbV : qbF Tryz.prog Tryz.f70 ⟨[2], true, []⟩ = some F.zbV := by kernel_rfl
theorem Ok.zcQ : qbF Tryz.prog Tryz.f71 ⟨[], false, []⟩ = some F.zcQ := by kernel_rfl
theorem Ok.zaz : qbF Tryz.prog Tryz.f72 ⟨[4], false, []⟩ = some F.zaz := by kernel_rfl
theorem Ok.zay : qbF Tryz.prog Tryz.f73 ⟨[], false, []⟩ = some F.zay := by kernel_rfl
theorem Ok.zbj : qbF Tryz.prog Tryz.f74 ⟨[2, 5], false, []⟩ = some F.zbj := by kernel_rfl
theorem Ok.zbh : qbF Tryz.prog Tryz.f75 ⟨[], false, []⟩ = some F.zbh := by kernel_rfl
theorem Ok.zdm : qbF Tryz.prog Tryz.f76 ⟨[2, 3], false, []⟩ = some F.zdm := by kernel_rfl
theorem Ok.zbi : qbF Tryz.prog Tryz.f77 ⟨[4, 6], false, []⟩ = some F.zbi := by kernel_rfl
theorem Ok.zcT : qbF Tryz.prog Tryz.f79 ⟨[], false, [[0, 1, 7, 8]]⟩ = some F.zcT := by kernel_rfl
theorem Ok.zaG : qbF Tryz.prog Tryz.f97 ⟨[2], false, []⟩ = some F.zaG := by kernel_rfl
theorem Ok.zca : qbF Tryz.prog Tryz.f100 ⟨[3], true, []⟩ = some F.zca := by kernel_rfl
theorem Ok.zbM : qbF Tryz.prog Tryz.f101 ⟨[], true, []⟩ = some F.zbM := by kernel_rfl
theorem Ok.zbN : qbF Tryz.prog Tryz.f102 ⟨[], true, []⟩ = some F.zbN := by kernel_rfl
theorem Ok.zbL : qbF Tryz.prog Tryz.f103 ⟨[], true, []⟩ = some F.zbL := by kernel_rfl
theorem Ok.zcb : qbF Tryz.prog Tryz.f104 ⟨[2], true, []⟩ = some F.zcb := by kernel_rfl
theorem Ok.zbT : qbF Tryz.prog Tryz.f105 ⟨[1], true, []⟩ = some F.zbT := by kernel_rfl
theorem Ok.zaH : qbF Tryz.prog Tryz.f106 ⟨[4], false, []⟩ = some F.zaH := by kernel_rfl
theorem Ok.zbW : qbF Tryz.prog Tryz.f107 ⟨[1], true, []⟩ = some F.zbW := by kernel_rfl
theorem Ok.zaB : qbF Tryz.prog Tryz.f108 ⟨[2], false, []⟩ = some F.zaB := by kernel_rfl
theorem Ok.zaJ : qbF Tryz.prog Tryz.f109 ⟨[4, 6], false, []⟩ = some F.zaJ := by kernel_rfl
theorem Ok.zaF : qbF Tryz.prog Tryz.f110 ⟨[4], false, []⟩ = some F.zaF := by kernel_rfl
theorem Ok.zaE : qbF Tryz.prog Tryz.f111 ⟨[4, 6, 7], false, []⟩ = some F.zaE := by kernel_rfl
theorem Ok.zaD : qbF Tryz.prog Tryz.f112 ⟨[4], false, []⟩ = some F.zaD := by kernel_rfl
theorem Ok.zaC : qbF Tryz.prog Tryz.f113 ⟨[4], false, []⟩ = some F.zaC := by kernel_rfl
theorem Ok.zaL : qbF Tryz.prog Tryz.f114 ⟨[4], false, []⟩ = some F.zaL := by kernel_rfl
theorem Ok.zaM : qbF Tryz.prog Tryz.f115 ⟨[4], false, []⟩ = some F.zaM := by kernel_rfl
theorem Ok.zbS : qbF Tryz.prog Tryz.f116 ⟨[1], true, []⟩ = some F.zbS := by kernel_rfl
theorem Ok.zaj : qbF Tryz.prog Tryz.f117 ⟨[2, 5], false, []⟩ = some F.zaj := by kernel_rfl
theorem Ok.zbx : qbF Tryz.prog Tryz.f118 ⟨[2, 5], false, []⟩ = some F.zbx := by kernel_rfl
theorem Ok.zcr : qbF Tryz.prog Tryz.f119 ⟨[3, 7], false, []⟩ = some F.zcr := by kernel_rfl
theorem Ok.zdE : qbF Tryz.prog Tryz.f120 ⟨[4, 9], false, []⟩ = some F.zdE := by kernel_rfl
theorem Ok.zci : qbF Tryz.prog Tryz.f121 ⟨[2], false, []⟩ = some F.zci := by kernel_rfl
theorem Ok.zcj : qbF Tryz.prog Tryz.f122 ⟨[2], false, []⟩ = some F.zcj := by kernel_rfl
theorem Ok.zbq : qbF Tryz.prog Tryz.f145 ⟨[4], true, []⟩ = some F.zbq := by kernel_rfl
theorem Ok.zbQ : qbF Tryz.prog Tryz.f146 ⟨[0], true, []⟩ = some F.zbQ := by kernel_rfl
theorem Ok.zbK : qbF Tryz.prog Tryz.f147 ⟨[], true, []⟩ = some F.zbK := by kernel_rfl
theorem Ok.zbP : qbF Tryz.prog Tryz.f148 ⟨[0], true, []⟩ = some F.zbP := by kernel_rfl
theorem Ok.zbJ : qbF Tryz.prog Tryz.f149 ⟨[], true, []⟩ = some F.zbJ := by kernel_rfl
theorem Ok.zba : qbF Tryz.prog Tryz.f150 ⟨[2, 6, 7], true, [[0, 2, 4, 15, 16]]⟩ = some F.zba := by kernel_rfl
theorem Ok.zbR : qbF Tryz.prog Tryz.f151 ⟨[2], true, []⟩ = some F.zbR := by kernel_rfl
theorem Ok.zaK : qbF Tryz.prog Tryz.f152 ⟨[2], false, []⟩ = some F.zaK := by kernel_rfl
theorem Ok.zbA : qbF Tryz.prog Tryz.f153 ⟨[], true, [[0]]⟩ = some F.zbA := by kernel_rfl
theorem Ok.zbX : qbF Tryz.prog Tryz.f154 ⟨[2], true, []⟩ = some F.zbX := by kernel_rfl
theorem Ok.zaI : qbF Tryz.prog Tryz.f155 ⟨[2], false, []⟩ = some F.zaI := by kernel_rfl
theorem Ok.zaR : qbF Tryz.prog Tryz.f156 ⟨[], true, []⟩ = some F.zaR := by kernel_rfl
theorem Ok.zaT : qbF Tryz.prog Tryz.f157 ⟨[], true, []⟩ = some F.zaT := by kernel_rfl
theorem Ok.zbl : qbF Tryz.prog Tryz.f158 ⟨[], false, []⟩ = some F.zbl := by kernel_rfl
theorem Ok.zda : qbF Tryz.prog Tryz.f159 ⟨[1], false, []⟩ = some F.zda := by kernel_rfl
theorem Ok.zbz : qbF Tryz.prog Tryz.f160 ⟨[], true, []⟩ = some F.zbz := by kernel_rfl
theorem Ok.zck : qbF Tryz.prog Tryz.f161 ⟨[4, 9], false, []⟩ = some F.zck := by kernel_rfl
theorem Ok.zaY : qbF Tryz.prog Tryz.f162 ⟨[], true, []⟩ = some F.zaY := by kernel_rfl
theorem Ok.zbb : qbF Tryz.prog Tryz.f163 ⟨[], true, []⟩ = some F.zbb := by kernel_rfl
theorem Ok.zbs : qbF Tryz.prog Tryz.f189 ⟨[], true, []⟩ = some F.zbs := by kernel_rfl
theorem Ok.zbn : qbF Tryz.prog Tryz.f190 ⟨[1], true, []⟩ = some F.zbn := by kernel_rfl
theorem Ok.zbo : qbF Tryz.prog Tryz.f191 ⟨[1], true, []⟩ = some F.zbo := by kernel_rfl
theorem Ok.zbm : qbF Tryz.prog Tryz.f192 ⟨[1], true, []⟩ = some F.zbm := by kernel_rfl
theorem Ok.zbf : qbF Tryz.prog Tryz.f193 ⟨[0], true, []⟩ = some F.zbf := by kernel_rfl
theorem Ok.zbp : qbF Tryz.prog Tryz.f194 ⟨[3], true, []⟩ = some F.zbp := by kernel_rfl
theorem Ok.zaO : qbF Tryz.prog Tryz.f195 ⟨[1], true, []⟩ = some F.zaO := by kernel_rfl
theorem Ok.zcl : qbF Tryz.prog Tryz.f196 ⟨[], true, []⟩ = some F.zcl := by kernel_rfl
theorem Ok.zaA : qbF Tryz.prog Tryz.f197 ⟨[2], false, []⟩ = some F.zaA := by kernel_rfl
theorem Ok.zbe : qbF Tryz.prog Tryz.f198 ⟨[], false, []⟩ = some F.zbe := by kernel_rfl
theorem Ok.zaS : qbF Tryz.prog Tryz.f199 ⟨[], false, []⟩ = some F.zaS := by kernel_rfl
theorem Ok.zaU : qbF Tryz.prog Tryz.f200 ⟨[], false, []⟩ = some F.zaU := by kernel_rfl
theorem Ok.zbD : qbF Tryz.prog Tryz.f201 ⟨[], true, []⟩ = some F.zbD := by kernel_rfl
theorem Ok.zbB : qbF Tryz.prog Tryz.f202 ⟨[], true, []⟩ = some F.zbB := by kernel_rfl
theorem Ok.zaZ : qbF Tryz.prog Tryz.f203 ⟨[], false, []⟩ = some F.zaZ := by kernel_rfl
theorem Ok.zbc : qbF Tryz.prog Tryz.f204 ⟨[], false, []⟩ = some F.zbc := by kernel_rfl
theorem Ok.zbr : qbF Tryz.prog Tryz.f215 ⟨[3], true, []⟩ = some F.zbr := by kernel_rfl
theorem Ok.zbg : qbF Tryz.prog Tryz.f216 ⟨[], true, []⟩ = some F.zbg := by kernel_rfl
theorem Ok.zcR : qbF Tryz.prog Tryz.f217 ⟨[], true, []⟩ = some F.zcR := by kernel_rfl
theorem Ok.zcU : qbF Tryz.prog Tryz.f218 ⟨[], false, []⟩ = some F.zcU := by kernel_rfl
theorem Ok.zcn : qbF Tryz.prog Tryz.f219 ⟨[2, 3], true, []⟩ = some F.zcn := by kernel_rfl
theorem Ok.zbk : qbF Tryz.prog Tryz.f220 ⟨[1, 3], false, []⟩ = some F.zbk := by kernel_rfl
theorem Ok.zaX : qbF Tryz.prog Tryz.f221 ⟨[1], true, [[4, 24, 25]]⟩ = some F.zaX := by kernel_rfl
theorem Ok.zbC : qbF Tryz.prog Tryz.f222 ⟨[], true, []⟩ = some F.zbC := by kernel_rfl
theorem Ok.zby : qbF Tryz.prog Tryz.f223 ⟨[], true, []⟩ = some F.zby := by kernel_rfl
theorem Ok.zcX : qbF Tryz.prog Tryz.f227 ⟨[], false, [[0, 1, 2, 6, 7, 8], [0, 1, 2, 6], [0, 1, 2, 6, 7, 8]]⟩ = some F.zcX := by kernel_rfl
theorem Ok.zaw : qbF Tryz.prog Tryz.f228 ⟨[], true, [[3, 6, 7, 8]]⟩ = some F.zaw := by kernel_rfl
theorem Ok.zav : qbF Tryz.prog Tryz.f229 ⟨[], true, []⟩ = some F.zav := by kernel_rfl
theorem Ok.zcm : qbF Tryz.prog Tryz.f230 ⟨[], true, []⟩ = some F.zcm := by kernel_rfl
theorem Ok.zbd : qbF Tryz.prog Tryz.f231 ⟨[], true, []⟩ = some F.zbd := by kernel_rfl
theorem Ok.zcV : qbF Tryz.prog Tryz.f234 ⟨[], false, [[0, 1, 2, 3, 8], [0, 1, 2, 3, 8, 9]]⟩ = some F.zcV := by kernel_rfl
theorem Ok.zcZ : qbF Tryz.prog Tryz.f235 ⟨[], false, [[0, 1, 4, 10, 11], [0, 10, 13], [0, 2, 4, 14, 15], [0, 14, 17], [0, 1, 2, 3, 4, 18, 19, 20, 21, 22]]⟩ = some F.zcZ := by kernel_rfl
theorem Ok.zax : qbF Tryz.prog Tryz.f236 ⟨[], true, []⟩ = some F.zax := by kernel_rfl
theorem Ok.zcW : qbF Tryz.prog Tryz.f237 ⟨[], false, [[0, 2, 4, 10, 11]]⟩ = some F.zcW := by kernel_rfl
theorem Ok.zcY : qbF Tryz.prog Tryz.f238 ⟨[], false, [[0, 1, 2, 3, 10]]⟩ = some F.zcY := by kernel_rfl
theorem Ok.zam : qbF Tryz.prog Tryz.f254 ⟨[], false, []⟩ = some F.zam := by kernel_rfl
theorem Ok.zan : qbF Tryz.prog Tryz.f255 ⟨[], false, []⟩ = some F.zan := by kernel_rfl
theorem Ok.zap : qbF Tryz.prog Tryz.f256 ⟨[], false, []⟩ = some F.zap := by kernel_rfl
theorem Ok.zaq : qbF Tryz.prog Tryz.f257 ⟨[], false, []⟩ = some F.zaq := by kernel_rfl
theorem Ok.zaa : qbF Tryz.prog Tryz.f258 ⟨[4], false, []⟩ = some F.zaa := by kernel_rfl
theorem Ok.zaf : qbF Tryz.prog Tryz.f259 ⟨[], false, []⟩ = some F.zaf := by kernel_rfl
theorem Ok.zai : qbF Tryz.prog Tryz.f260 ⟨[], false, []⟩ = some F.zai := by kernel_rfl
theorem Ok.zad : qbF Tryz.prog Tryz.f261 ⟨[], false, []⟩ = some F.zad := by kernel_rfl
theorem Ok.zdd : qbF Tryz.prog Tryz.f262 ⟨[], false, []⟩ = some F.zdd := by kernel_rfl
theorem Ok.zab : qbF Tryz.prog Tryz.f263 ⟨[], false, []⟩ = some F.zab := by kernel_rfl
theorem Ok.zae : qbF Tryz.prog Tryz.f264 ⟨[4], false, []⟩ = some F.zae := by kernel_rfl
theorem Ok.zag : qbF Tryz.prog Tryz.f265 ⟨[], false, []⟩ = some F.zag := by kernel_rfl
theorem Ok.zah : qbF Tryz.prog Tryz.f266 ⟨[2], false, []⟩ = some F.zah := by kernel_rfl
theorem Ok.zdc : qbF Tryz.prog Tryz.f267 ⟨[], false, []⟩ = some F.zdc := by kernel_rfl
theorem Ok.zac : qbF Tryz.prog Tryz.f268 ⟨[], false, []⟩ = some F.zac := by kernel_rfl
theorem Ok.zdb : qbF Tryz.prog Tryz.f269 ⟨[2], false, []⟩ = some F.zdb := by kernel_rfl
theorem Ok.zdf : qbF Tryz.prog Tryz.f270 ⟨[], false, []⟩ = some F.zdf := by kernel_rfl
theorem Ok.zbG : qbF Tryz.prog Tryz.f271 ⟨[], true, []⟩ = some F.zbG := by kernel_rfl
theorem Ok.zdg : qbF Tryz.prog Tryz.f272 ⟨[], false, []⟩ = some F.zdg := by kernel_rfl
theorem Ok.zde : qbF Tryz.prog Tryz.f273 ⟨[], false, []⟩ = some F.zde := by kernel_rfl
theorem Ok.zbF : qbF Tryz.prog Tryz.f274 ⟨[], true, []⟩ = some F.zbF := by kernel_rfl
theorem Ok.zbH : qbF Tryz.prog Tryz.f275 ⟨[], true, []⟩ = some F.zbH := by kernel_rfl
theorem Ok.zbO : qbF Tryz.prog Tryz.f276 ⟨[], true, []⟩ = some F.zbO := by kernel_rfl
theorem Ok.zbI : qbF Tryz.prog Tryz.f277 ⟨[], true, []⟩ = some F.zbI := by kernel_rfl
theorem Ok.zbt : qbF Tryz.prog Tryz.f280 ⟨[4], false, []⟩ = some F.zbt := by kernel_rfl
theorem Ok.zbv : qbF Tryz.prog Tryz.f281 ⟨[4, 6], false, []⟩ = some F.zbv := by kernel_rfl
theorem Ok.zbw : qbF Tryz.prog Tryz.f282 ⟨[4], false, []⟩ = some F.zbw := by kernel_rfl
theorem Ok.zbu : qbF Tryz.prog Tryz.f283 ⟨[4], false, []⟩ = some F.zbu := by kernel_rfl
theorem Ok.zaV : qbF Tryz.prog Tryz.f284 ⟨[], true, []⟩ = some F.zaV := by kernel_rfl
theorem Ok.zaW : qbF Tryz.prog Tryz.f285 ⟨[], false, []⟩ = some F.zaW := by kernel_rfl
theorem Ok.zco : qbF Tryz.prog Tryz.f286 ⟨[4, 6, 9], false, []⟩ = some F.zco := by kernel_rfl
theorem Ok.zcp : qbF Tryz.prog Tryz.f287 ⟨[3, 4], false, []⟩ = some F.zcp := by kernel_rfl
theorem Ok.zcq : qbF Tryz.prog Tryz.f288 ⟨[4, 6], false, []⟩ = some F.zcq := by kernel_rfl
theorem Ok.zdx : qbF Tryz.prog Tryz.f290 ⟨[4], false, []⟩ = some F.zdx := by kernel_rfl
theorem Ok.zdC : qbF Tryz.prog Tryz.f291 ⟨[5], false, []⟩ = some F.zdC := by kernel_rfl
theorem Ok.zdy : qbF Tryz.prog Tryz.f292 ⟨[4], false, []⟩ = some F.zdy := by kernel_rfl
theorem Ok.zdz : qbF Tryz.prog Tryz.f293 ⟨[], false, []⟩ = some F.zdz := by kernel_rfl
theorem Ok.zdB : qbF Tryz.prog Tryz.f294 ⟨[], false, []⟩ = some F.zdB := by kernel_rfl
theorem Ok.zdA : qbF Tryz.prog Tryz.f295 ⟨[], false, []⟩ = some F.zdA := by kernel_rfl
theorem Ok.zaP : qbF Tryz.prog Tryz.f296 ⟨[], true, []⟩ = some F.zaP := by kernel_rfl
theorem Ok.zdD : qbF Tryz.prog Tryz.f297 ⟨[], false, []⟩ = some F.zdD := by kernel_rfl
theorem Ok.zaQ : qbF Tryz.prog Tryz.f298 ⟨[], false, []⟩ = some F.zaQ := by kernel_rfl
theorem Ok.zcf : qbF Tryz.prog Tryz.f299 ⟨[4], false, []⟩ = some F.zcf := by kernel_rfl
theorem Ok.zch : qbF Tryz.prog Tryz.f300 ⟨[4, 6], false, []⟩ = some F.zch := by kernel_rfl
theorem Ok.zcg : qbF Tryz.prog Tryz.f301 ⟨[4], false, []⟩ = some F.zcg := by kernel_rfl
theorem Ok.zdl : qbF Tryz.prog Tryz.f302 ⟨[2, 4], false, []⟩ = some F.zdl := by kernel_rfl

theorem qiI : TblOk Tryz.prog tbl := by
 unfold tbl
 refine .cons Tryz.func3 Ok.zcs ?_
 refine .cons Tryz.func8 Ok.zcO ?_
 refine .cons Tryz.func9 Ok.zct ?_
 refine .cons Tryz.func10 Ok.zdn ?_
 refine .cons Tryz.func11 Ok.zcC ?_
 refine .cons Tryz.func12 Ok.zdu ?_
 refine .cons Tryz.func13 Ok.zcv ?_
 refine .cons Tryz.func14 Ok.zdo ?_
 refine .cons Tryz.func15 Ok.zao ?_
 refine .cons Tryz.func17 Ok.zdt ?_
 refine .cons Tryz.func19 Ok.zdr ?_
 refine .cons Tryz.func20 Ok.zdv ?_
 refine .cons Tryz.func21 Ok.zar ?_
 refine .cons Tryz.func33 Ok.zdq ?_
 refine .cons Tryz.func34 Ok.zal ?_
 refine .cons Tryz.func35 Ok.zdp ?_
 refine .cons Tryz.func36 Ok.zcw ?_
 refine .cons Tryz.func37 Ok.zcc ?_
 refine .cons Tryz.func38 Ok.zak ?_
 refine .cons Tryz.func39 Ok.zbZ ?_
 refine .cons Tryz.func40 Ok.zaN ?_
 refine .cons Tryz.func41 Ok.zcd ?_
 refine .cons Tryz.func42 Ok.zdh ?_
 refine .cons Tryz.func43 Ok.zdw ?_
 refine .cons Tryz.func44 Ok.zdj ?_
 refine .cons Tryz.func45 Ok.zdk ?_
 refine .cons Tryz.func46 Ok.zcu ?_
 refine .cons Tryz.func47 Ok.zat ?_
 refine .cons Tryz.func50 Ok.zcP ?_
 refine .cons Tryz.func51 Ok.zds ?_
 refine .cons Tryz.func52 Ok.zcS ?_
 refine .cons Tryz.func53 Ok.zdi ?_
 refine .cons Tryz.func64 Ok.zas ?_
 refine .cons Tryz.func65 Ok.zce ?_
 refine .cons Tryz.func66 Ok.zau ?_
 refine .cons Tryz.func67 Ok.zbU ?_
 refine .cons Tryz.func68 Ok.zbE ?_
 refine .cons Tryz.func69 Ok.zbY ?_
 refine .cons Tryz.func70 Ok.zbV ?_
 refine .cons Tryz.func71 Ok.zcQ ?_
 refine .cons Tryz.func72 Ok.zaz ?_
 refine .cons Tryz.func73 Ok.zay ?_
 refine .cons Tryz.func74 Ok.zbj ?_
 refine .cons Tryz.func75 Ok.zbh ?_
 refine .cons Tryz.func76 Ok.zdm ?_
 refine .cons Tryz.func77 Ok.zbi ?_
 refine .cons Tryz.func79 Ok.zcT ?_
 refine .cons Tryz.func97 Ok.zaG ?_
 refine .cons Tryz.func100 Ok.zca ?_
 refine .cons Tryz.func101 Ok.zbM ?_
 refine .cons Tryz.func102 Ok.zbN ?_
 refine .cons Tryz.func103 Ok.zbL ?_
 refine .cons Tryz.func104 Ok.zcb ?_
 refine .cons Tryz.func105 Ok.zbT ?_
 refine .cons Tryz.func106 Ok.zaH ?_
 refine .cons Tryz.func107 Ok.zbW ?_
 refine .cons Tryz.func108 Ok.zaB ?_
 refine .cons Tryz.func109 Ok.zaJ ?_
 refine .cons Tryz.func110 Ok.zaF ?_
 refine .cons Tryz.func111 Ok.zaE ?_
 refine .cons Tryz.func112 Ok.zaD ?_
 refine .cons Tryz.func113 Ok.zaC ?_
 refine .cons Tryz.func114 Ok.zaL ?_
 refine .cons Tryz.func115 Ok.zaM ?_
 refine .cons Tryz.func116 Ok.zbS ?_
 refine .cons Tryz.func117 Ok.zaj ?_
 refine .cons Tryz.func118 Ok.zbx ?_
 refine .cons Tryz.func119 Ok.zcr ?_
 refine .cons Tryz.func120 Ok.zdE ?_
 refine .cons Tryz.func121 Ok.zci ?_
 refine .cons Tryz.func122 Ok.zcj ?_
 refine .cons Tryz.func145 Ok.zbq ?_
 refine .cons Tryz.func146 Ok.zbQ ?_
 refine .cons Tryz.func147 Ok.zbK ?_
 refine .cons Tryz.func148 Ok.zbP ?_
 refine .cons Tryz.func149 Ok.zbJ ?_
 refine .cons Tryz.func150 Ok.zba ?_
 refine .cons Tryz.func151 Ok.zbR ?_
 refine .cons Tryz.func152 Ok.zaK ?_
 refine .cons Tryz.func153 Ok.zbA ?_
 refine .cons Tryz.func154 Ok.zbX ?_
 refine .cons Tryz.func155 Ok.zaI ?_
 refine .cons Tryz.func156 Ok.zaR ?_
 refine .cons Tryz.func157 Ok.zaT ?_
 refine .cons Tryz.func158 Ok.zbl ?_
 refine .cons Tryz.func159 Ok.zda ?_
 refine .cons Tryz.func160 Ok.zbz ?_
 refine .cons Tryz.func161 Ok.zck ?_
 refine .cons Tryz.func162 Ok.zaY ?_
 refine .cons Tryz.func163 Ok.zbb ?_
 refine .cons Tryz.func189 Ok.zbs ?_
 refine .cons Tryz.func190 Ok.zbn ?_
 refine .cons Tryz.func191 Ok.zbo ?_
 refine .cons Tryz.func192 Ok.zbm ?_
 refine .cons Tryz.func193 Ok.zbf ?_
 refine .cons Tryz.func194 Ok.zbp ?_
 refine .cons Tryz.func195 Ok.zaO ?_
 refine .cons Tryz.func196 Ok.zcl ?_
 refine .cons Tryz.func197 Ok.zaA ?_
 refine .cons Tryz.func198 Ok.zbe ?_
 refine .cons Tryz.func199 Ok.zaS ?_
 refine .cons Tryz.func200 Ok.zaU ?_
 refine .cons Tryz.func201 Ok.zbD ?_
 refine .cons Tryz.func202 Ok.zbB ?_
 refine .cons Tryz.func203 Ok.zaZ ?_
 refine .cons Tryz.func204 Ok.zbc ?_
 refine .cons Tryz.func215 Ok.zbr ?_
 refine .cons Tryz.func216 Ok.zbg ?_
 refine .cons Tryz.func217 Ok.zcR ?_
 refine .cons Tryz.func218 Ok.zcU ?_
 refine .cons Tryz.func219 Ok.zcn ?_
 refine .cons Tryz.func220 Ok.zbk ?_
 refine .cons Tryz.func221 Ok.zaX ?_
 refine .cons Tryz.func222 Ok.zbC ?_
 refine .cons Tryz.func223 Ok.zby ?_
 refine .cons Tryz.func227 Ok.zcX ?_
 refine .cons Tryz.func228 Ok.zaw ?_
 refine .cons Tryz.func229 Ok.zav ?_
 refine .cons Tryz.func230 Ok.zcm ?_
 refine .cons Tryz.func231 Ok.zbd ?_
 refine .cons Tryz.func234 Ok.zcV ?_
 refine .cons Tryz.func235 Ok.zcZ ?_
 refine .cons Tryz.func236 Ok.zax ?_
 refine .cons Tryz.func237 Ok.zcW ?_
 refine .cons Tryz.func238 Ok.zcY ?_
 refine .cons Tryz.func254 Ok.zam ?_
 refine .cons Tryz.func255 Ok.zan ?_
 refine .cons Tryz.func256 Ok.zap ?_
 refine .cons Tryz.func257 Ok.zaq ?_
 refine .cons Tryz.func258 Ok.zaa ?_
 refine .cons Tryz.func259 Ok.zaf ?_
 refine .cons Tryz.func260 Ok.zai ?_
 refine .cons Tryz.func261 Ok.zad ?_
 refine .cons Tryz.func262 Ok.zdd ?_
 refine .cons Tryz.func263 Ok.zab ?_
 refine .cons Tryz.func264 Ok.zae ?_
 refine .cons Tryz.func265 Ok.zag ?_
 refine .cons Tryz.func266 Ok.zah ?_
 refine .cons Tryz.func267 Ok.zdc ?_
 refine .cons Tryz.func268 Ok.zac ?_
 refine .cons Tryz.func269 Ok.zdb ?_
 refine .cons Tryz.func270 Ok.zdf ?_
 refine .cons Tryz.func271 Ok.zbG ?_
 refine .cons Tryz.func272 Ok.zdg ?_
 refine .cons Tryz.func273 Ok.zde ?_
 refine .cons Tryz.func274 Ok.zbF ?_
 refine .cons Tryz.func275 Ok.zbH ?_
 refine .cons Tryz.func276 Ok.zbO ?_
 refine .cons Tryz.func277 Ok.zbI ?_
 refine .cons Tryz.func280 Ok.zbt ?_
 refine .cons Tryz.func281 Ok.zbv ?_
 refine .cons Tryz.func282 Ok.zbw ?_
 refine .cons Tryz.func283 Ok.zbu ?_
 refine .cons Tryz.func284 Ok.zaV ?_
 refine .cons Tryz.func285 Ok.zaW ?_
 refine .cons Tryz.func286 Ok.zco ?_
 refine .cons Tryz.func287 Ok.zcp ?_
 refine .cons Tryz.func288 Ok.zcq ?_
 refine .cons Tryz.func290 Ok.zdx ?_
 refine .cons Tryz.func291 Ok.zdC ?_
 refine .cons Tryz.func292 Ok.zdy ?_
 refine .cons Tryz.func293 Ok.zdz ?_
 refine .cons Tryz.func294 Ok.zdB ?_
 refine .cons Tryz.func295 Ok.zdA ?_
 refine .cons Tryz.func296 Ok.zaP ?_
 refine .cons Tryz.func297 Ok.zdD ?_
 refine .cons Tryz.func298 Ok.zaQ ?_
 refine .cons Tryz.func299 Ok.zcf ?_
 refine .cons Tryz.func300 Ok.zch ?_
 refine .cons Tryz.func301 Ok.zcg ?_
 refine .cons Tryz.func302 Ok.zdl ?_
 exact .nil
end Go.Proofs.YtojjkphkfpeimaaGreat

