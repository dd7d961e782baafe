/- The texts of this seat are its functions' translations. -/
import Derived.Test.YtnfcohmbcgfhbaaGreatHistIr
import Derived.Test.YtnfcohmbcgfhbaaGreatProg
import Derived.KernelRfl
set_option linter.unusedVariables false
set_option linter.unusedSimpArgs false

namespace Go.Proofs.YtnfcohmbcgfhbaaGreat
open Go Go.Ir

theorem Ok.zbQ : cFunc Tryz.prog Tryz.f4 ⟨[3], false, [[1, 2, 3, 7, 8, 9], [1, 2, 3, 7, 8, 10, 11], [1, 13, 15, 16]]⟩ = some F.zbQ := by kernel_rfl
theorem Ok.zbU : cFunc Tryz.prog Tryz.f8 ⟨[1], false, []⟩ = some F.zbU := by kernel_rfl
theorem Ok.zca : cFunc Tryz.prog Tryz.f9 ⟨[1], true, []⟩ = some F.zca := by kernel_rfl
theorem Ok.zbR : cFunc Tryz.prog Tryz.f10 ⟨[1], true, []⟩ = some F.zbR := by kernel_rfl
theorem Ok.zcy : cFunc Tryz.prog Tryz.f11 ⟨[3, 8], false, []⟩ = some F.zcy := by kernel_rfl
theorem Ok.zbS : cFunc Tryz.prog Tryz.f12 ⟨[], false, [[0, 1, 2, 8, 9]]⟩ = some F.zbS := by kernel_rfl
theorem Ok.zcA : cFunc Tryz.prog Tryz.f13 ⟨[], false, []⟩ = some F.zcA := by kernel_rfl
theorem Ok.zao : cFunc Tryz.prog Tryz.f15 ⟨[], false, []⟩ = some F.zao := by kernel_rfl
theorem Ok.zbT : cFunc Tryz.prog Tryz.f16 ⟨[], false, [[0, 1, 5, 6]]⟩ = some F.zbT := by kernel_rfl
theorem Ok.zcB : cFunc Tryz.prog Tryz.f17 ⟨[5], false, []⟩ = some F.zcB := by kernel_rfl
theorem Ok.zcz : cFunc Tryz.prog Tryz.f18 ⟨[], false, []⟩ = some F.zcz := by kernel_rfl
theorem Ok.zcd : cFunc Tryz.prog Tryz.f19 ⟨[6], true, [[0, 4, 5]]⟩ = some F.zcd := by kernel_rfl
theorem Ok.zak : cFunc Tryz.prog Tryz.f29 ⟨[], false, []⟩ = some F.zak := by kernel_rfl
theorem Ok.zcb : cFunc Tryz.prog Tryz.f30 ⟨[1], true, []⟩ = some F.zcb := by kernel_rfl
theorem Ok.zbE : cFunc Tryz.prog Tryz.f31 ⟨[3, 5], false, [[0, 5, 38, 39], [0, 5, 8, 9]]⟩ = some F.zbE := by kernel_rfl
theorem Ok.zaM : cFunc Tryz.prog Tryz.f32 ⟨[3, 5], false, [[0, 5, 7, 23, 24]]⟩ = some F.zaM := by kernel_rfl
theorem Ok.zbD : cFunc Tryz.prog Tryz.f33 ⟨[1, 2], true, []⟩ = some F.zbD := by kernel_rfl
theorem Ok.zbw : cFunc Tryz.prog Tryz.f34 ⟨[2], true, []⟩ = some F.zbw := by kernel_rfl
theorem Ok.zcq : cFunc Tryz.prog Tryz.f35 ⟨[], false, []⟩ = some F.zcq := by kernel_rfl
theorem Ok.zat : cFunc Tryz.prog Tryz.f40 ⟨[], false, []⟩ = some F.zat := by kernel_rfl
theorem Ok.zaN : cFunc Tryz.prog Tryz.f41 ⟨[2, 5], false, []⟩ = some F.zaN := by kernel_rfl
theorem Ok.zaK : cFunc Tryz.prog Tryz.f42 ⟨[], false, []⟩ = some F.zaK := by kernel_rfl
theorem Ok.zcD : cFunc Tryz.prog Tryz.f43 ⟨[2, 3], false, []⟩ = some F.zcD := by kernel_rfl
theorem Ok.zaL : cFunc Tryz.prog Tryz.f44 ⟨[4, 6], false, []⟩ = some F.zaL := by kernel_rfl
theorem Ok.zce : cFunc Tryz.prog Tryz.f45 ⟨[], true, [[0, 3]]⟩ = some F.zce := by kernel_rfl
theorem Ok.zcf : cFunc Tryz.prog Tryz.f46 ⟨[], true, [[0, 1, 5]]⟩ = some F.zcf := by kernel_rfl
theorem Ok.zal : cFunc Tryz.prog Tryz.f57 ⟨[], false, []⟩ = some F.zal := by kernel_rfl
theorem Ok.zau : cFunc Tryz.prog Tryz.f58 ⟨[], true, []⟩ = some F.zau := by kernel_rfl
theorem Ok.zbA : cFunc Tryz.prog Tryz.f59 ⟨[1], true, []⟩ = some F.zbA := by kernel_rfl
theorem Ok.zbv : cFunc Tryz.prog Tryz.f60 ⟨[2], true, []⟩ = some F.zbv := by kernel_rfl
theorem Ok.zbf : cFunc Tryz.prog Tryz.f61 ⟨[], true, []⟩ = some F.zbf := by kernel_rfl
theorem Ok.zbz : cFunc Tryz.prog Tryz.f62 ⟨[1], true, []⟩ = some F.zbz := by kernel_rfl
theorem Ok.zbe : cFunc Tryz.prog Tryz.f63 ⟨[], true, []⟩ = some F.zbe := by kernel_rfl
theorem Ok.zbF : cFunc Tryz.prog Tryz.f64 ⟨[], true, []⟩ = some F.zbF := by kernel_rfl
theorem Ok.zbt : cFunc Tryz.prog Tryz.f67 ⟨[1], true, []⟩ = some F.zbt := by kernel_rfl
theorem Ok.zaj : cFunc Tryz.prog Tryz.f68 ⟨[2, 5], false, []⟩ = some F.zaj := by kernel_rfl
theorem Ok.zaZ : cFunc Tryz.prog Tryz.f69 ⟨[2, 5], false, []⟩ = some F.zaZ := by kernel_rfl
theorem Ok.zbP : cFunc Tryz.prog Tryz.f70 ⟨[3, 7], false, []⟩ = some F.zbP := by kernel_rfl
theorem Ok.zcL : cFunc Tryz.prog Tryz.f71 ⟨[4, 9], false, []⟩ = some F.zcL := by kernel_rfl
theorem Ok.zbJ : cFunc Tryz.prog Tryz.f72 ⟨[2], false, []⟩ = some F.zbJ := by kernel_rfl
theorem Ok.zbK : cFunc Tryz.prog Tryz.f73 ⟨[2], false, []⟩ = some F.zbK := by kernel_rfl
theorem Ok.zcg : cFunc Tryz.prog Tryz.f74 ⟨[], true, [[0, 1, 5, 6]]⟩ = some F.zcg := by kernel_rfl
theorem Ok.zas : cFunc Tryz.prog Tryz.f88 ⟨[], false, []⟩ = some F.zas := by kernel_rfl
theorem Ok.zbB : cFunc Tryz.prog Tryz.f89 ⟨[3], true, []⟩ = some F.zbB := by kernel_rfl
theorem Ok.zbn : cFunc Tryz.prog Tryz.f90 ⟨[], true, []⟩ = some F.zbn := by kernel_rfl
theorem Ok.zbo : cFunc Tryz.prog Tryz.f91 ⟨[], true, []⟩ = some F.zbo := by kernel_rfl
theorem Ok.zbm : cFunc Tryz.prog Tryz.f92 ⟨[], true, []⟩ = some F.zbm := by kernel_rfl
theorem Ok.zbC : cFunc Tryz.prog Tryz.f93 ⟨[2], true, []⟩ = some F.zbC := by kernel_rfl
theorem Ok.zcr : cFunc Tryz.prog Tryz.f95 ⟨[1], false, []⟩ = some F.zcr := by kernel_rfl
theorem Ok.zbc : cFunc Tryz.prog Tryz.f96 ⟨[], true, [[0]]⟩ = some F.zbc := by kernel_rfl
theorem Ok.zbb : cFunc Tryz.prog Tryz.f97 ⟨[], true, []⟩ = some F.zbb := by kernel_rfl
theorem Ok.zbL : cFunc Tryz.prog Tryz.f98 ⟨[4, 9], false, []⟩ = some F.zbL := by kernel_rfl
theorem Ok.zaB : cFunc Tryz.prog Tryz.f99 ⟨[], true, []⟩ = some F.zaB := by kernel_rfl
theorem Ok.zaE : cFunc Tryz.prog Tryz.f100 ⟨[], true, []⟩ = some F.zaE := by kernel_rfl
theorem Ok.zaS : cFunc Tryz.prog Tryz.f125 ⟨[4], true, []⟩ = some F.zaS := by kernel_rfl
theorem Ok.zbr : cFunc Tryz.prog Tryz.f126 ⟨[0], true, []⟩ = some F.zbr := by kernel_rfl
theorem Ok.zbl : cFunc Tryz.prog Tryz.f127 ⟨[], true, []⟩ = some F.zbl := by kernel_rfl
theorem Ok.zbq : cFunc Tryz.prog Tryz.f128 ⟨[0], true, []⟩ = some F.zbq := by kernel_rfl
theorem Ok.zbk : cFunc Tryz.prog Tryz.f129 ⟨[], true, []⟩ = some F.zbk := by kernel_rfl
theorem Ok.zbd : cFunc Tryz.prog Tryz.f130 ⟨[], true, []⟩ = some F.zbd := by kernel_rfl
theorem Ok.zaH : cFunc Tryz.prog Tryz.f131 ⟨[], false, []⟩ = some F.zaH := by kernel_rfl
theorem Ok.zaC : cFunc Tryz.prog Tryz.f132 ⟨[], false, []⟩ = some F.zaC := by kernel_rfl
theorem Ok.zaF : cFunc Tryz.prog Tryz.f133 ⟨[], false, []⟩ = some F.zaF := by kernel_rfl
theorem Ok.zaU : cFunc Tryz.prog Tryz.f145 ⟨[], true, []⟩ = some F.zaU := by kernel_rfl
theorem Ok.zaP : cFunc Tryz.prog Tryz.f146 ⟨[1], true, []⟩ = some F.zaP := by kernel_rfl
theorem Ok.zaQ : cFunc Tryz.prog Tryz.f147 ⟨[1], true, []⟩ = some F.zaQ := by kernel_rfl
theorem Ok.zaO : cFunc Tryz.prog Tryz.f148 ⟨[1], true, []⟩ = some F.zaO := by kernel_rfl
theorem Ok.zba : cFunc Tryz.prog Tryz.f149 ⟨[], true, []⟩ = some F.zba := by kernel_rfl
theorem Ok.zaD : cFunc Tryz.prog Tryz.f150 ⟨[2, 6, 7], true, [[0, 2, 4, 15, 16]]⟩ = some F.zaD := by kernel_rfl
theorem Ok.zaA : cFunc Tryz.prog Tryz.f151 ⟨[1], true, [[4, 24, 25]]⟩ = some F.zaA := by kernel_rfl
theorem Ok.zaI : cFunc Tryz.prog Tryz.f158 ⟨[0], true, []⟩ = some F.zaI := by kernel_rfl
theorem Ok.zaR : cFunc Tryz.prog Tryz.f159 ⟨[3], true, []⟩ = some F.zaR := by kernel_rfl
theorem Ok.zav : cFunc Tryz.prog Tryz.f160 ⟨[1], true, []⟩ = some F.zav := by kernel_rfl
theorem Ok.zaG : cFunc Tryz.prog Tryz.f161 ⟨[], true, []⟩ = some F.zaG := by kernel_rfl
theorem Ok.zaT : cFunc Tryz.prog Tryz.f164 ⟨[3], true, []⟩ = some F.zaT := by kernel_rfl
theorem Ok.zaJ : cFunc Tryz.prog Tryz.f165 ⟨[], true, []⟩ = some F.zaJ := by kernel_rfl
theorem Ok.zam : cFunc Tryz.prog Tryz.f181 ⟨[], false, []⟩ = some F.zam := by kernel_rfl
theorem Ok.zaq : cFunc Tryz.prog Tryz.f182 ⟨[], false, []⟩ = some F.zaq := by kernel_rfl
theorem Ok.zar : cFunc Tryz.prog Tryz.f183 ⟨[], false, []⟩ = some F.zar := by kernel_rfl
theorem Ok.zaa : cFunc Tryz.prog Tryz.f186 ⟨[4], false, []⟩ = some F.zaa := by kernel_rfl
theorem Ok.zbx : cFunc Tryz.prog Tryz.f187 ⟨[1], true, []⟩ = some F.zbx := by kernel_rfl
theorem Ok.zaf : cFunc Tryz.prog Tryz.f188 ⟨[], false, []⟩ = some F.zaf := by kernel_rfl
theorem Ok.zai : cFunc Tryz.prog Tryz.f189 ⟨[], false, []⟩ = some F.zai := by kernel_rfl
theorem Ok.zad : cFunc Tryz.prog Tryz.f190 ⟨[], false, []⟩ = some F.zad := by kernel_rfl
theorem Ok.zbu : cFunc Tryz.prog Tryz.f191 ⟨[1], true, []⟩ = some F.zbu := by kernel_rfl
theorem Ok.zcu : cFunc Tryz.prog Tryz.f192 ⟨[], false, []⟩ = some F.zcu := by kernel_rfl
theorem Ok.zab : cFunc Tryz.prog Tryz.f193 ⟨[], false, []⟩ = some F.zab := by kernel_rfl
theorem Ok.zby : cFunc Tryz.prog Tryz.f194 ⟨[2], true, []⟩ = some F.zby := by kernel_rfl
theorem Ok.zae : cFunc Tryz.prog Tryz.f195 ⟨[4], false, []⟩ = some F.zae := by kernel_rfl
theorem Ok.zag : cFunc Tryz.prog Tryz.f196 ⟨[], false, []⟩ = some F.zag := by kernel_rfl
theorem Ok.zah : cFunc Tryz.prog Tryz.f197 ⟨[2], false, []⟩ = some F.zah := by kernel_rfl
theorem Ok.zct : cFunc Tryz.prog Tryz.f198 ⟨[], false, []⟩ = some F.zct := by kernel_rfl
theorem Ok.zac : cFunc Tryz.prog Tryz.f199 ⟨[], false, []⟩ = some F.zac := by kernel_rfl
theorem Ok.zcs : cFunc Tryz.prog Tryz.f200 ⟨[2], false, []⟩ = some F.zcs := by kernel_rfl
theorem Ok.zcw : cFunc Tryz.prog Tryz.f201 ⟨[], false, []⟩ = some F.zcw := by kernel_rfl
theorem Ok.zbh : cFunc Tryz.prog Tryz.f202 ⟨[], true, []⟩ = some F.zbh := by kernel_rfl
theorem Ok.zcx : cFunc Tryz.prog Tryz.f203 ⟨[], false, []⟩ = some F.zcx := by kernel_rfl
theorem Ok.zbs : cFunc Tryz.prog Tryz.f204 ⟨[2], true, []⟩ = some F.zbs := by kernel_rfl
theorem Ok.zcv : cFunc Tryz.prog Tryz.f205 ⟨[], false, []⟩ = some F.zcv := by kernel_rfl
theorem Ok.zbg : cFunc Tryz.prog Tryz.f206 ⟨[], true, []⟩ = some F.zbg := by kernel_rfl
theorem Ok.zbi : cFunc Tryz.prog Tryz.f207 ⟨[], true, []⟩ = some F.zbi := by kernel_rfl
theorem Ok.zbp : cFunc Tryz.prog Tryz.f208 ⟨[], true, []⟩ = some F.zbp := by kernel_rfl
theorem Ok.zbj : cFunc Tryz.prog Tryz.f209 ⟨[], true, []⟩ = some F.zbj := by kernel_rfl
theorem Ok.zaV : cFunc Tryz.prog Tryz.f212 ⟨[4], false, []⟩ = some F.zaV := by kernel_rfl
theorem Ok.zaX : cFunc Tryz.prog Tryz.f213 ⟨[4, 6], false, []⟩ = some F.zaX := by kernel_rfl
theorem Ok.zaY : cFunc Tryz.prog Tryz.f214 ⟨[4], false, []⟩ = some F.zaY := by kernel_rfl
theorem Ok.zaW : cFunc Tryz.prog Tryz.f215 ⟨[4], false, []⟩ = some F.zaW := by kernel_rfl
theorem Ok.zay : cFunc Tryz.prog Tryz.f216 ⟨[], true, []⟩ = some F.zay := by kernel_rfl
theorem Ok.zaz : cFunc Tryz.prog Tryz.f217 ⟨[], false, []⟩ = some F.zaz := by kernel_rfl
theorem Ok.zbM : cFunc Tryz.prog Tryz.f218 ⟨[4, 6, 9], false, []⟩ = some F.zbM := by kernel_rfl
theorem Ok.zbN : cFunc Tryz.prog Tryz.f219 ⟨[3, 4], false, []⟩ = some F.zbN := by kernel_rfl
theorem Ok.zbO : cFunc Tryz.prog Tryz.f220 ⟨[4, 6], false, []⟩ = some F.zbO := by kernel_rfl
theorem Ok.zcE : cFunc Tryz.prog Tryz.f222 ⟨[4], false, []⟩ = some F.zcE := by kernel_rfl
theorem Ok.zcJ : cFunc Tryz.prog Tryz.f223 ⟨[5], false, []⟩ = some F.zcJ := by kernel_rfl
theorem Ok.zcF : cFunc Tryz.prog Tryz.f224 ⟨[4], false, []⟩ = some F.zcF := by kernel_rfl
theorem Ok.zcG : cFunc Tryz.prog Tryz.f225 ⟨[], false, []⟩ = some F.zcG := by kernel_rfl
theorem Ok.zcI : cFunc Tryz.prog Tryz.f226 ⟨[], false, []⟩ = some F.zcI := by kernel_rfl
theorem Ok.zcH : cFunc Tryz.prog Tryz.f227 ⟨[], false, []⟩ = some F.zcH := by kernel_rfl
theorem Ok.zaw : cFunc Tryz.prog Tryz.f228 ⟨[], true, []⟩ = some F.zaw := by kernel_rfl
theorem Ok.zcK : cFunc Tryz.prog Tryz.f229 ⟨[], false, []⟩ = some F.zcK := by kernel_rfl
theorem Ok.zax : cFunc Tryz.prog Tryz.f230 ⟨[], false, []⟩ = some F.zax := by kernel_rfl
theorem Ok.zbG : cFunc Tryz.prog Tryz.f231 ⟨[4], false, []⟩ = some F.zbG := by kernel_rfl
theorem Ok.zbI : cFunc Tryz.prog Tryz.f232 ⟨[4, 6], false, []⟩ = some F.zbI := by kernel_rfl
theorem Ok.zbH : cFunc Tryz.prog Tryz.f233 ⟨[4], false, []⟩ = some F.zbH := by kernel_rfl
theorem Ok.zcC : cFunc Tryz.prog Tryz.f234 ⟨[2, 4], false, []⟩ = some F.zcC := by kernel_rfl
theorem Ok.zan : cFunc Tryz.prog Tryz.f236 ⟨[], false, []⟩ = some F.zan := by kernel_rfl
theorem Ok.zap : cFunc Tryz.prog Tryz.f237 ⟨[], false, []⟩ = some F.zap := by kernel_rfl

theorem tbl_ok : TblOk Tryz.prog tbl := by
 unfold tbl
 refine .cons Tryz.func4 Ok.zbQ ?_
 refine .cons Tryz.func8 Ok.zbU ?_
 refine .cons Tryz.func9 Ok.zca ?_
 refine .cons Tryz.func10 Ok.zbR ?_
 refine .cons Tryz.func11 Ok.zcy ?_
 refine .cons Tryz.func12 Ok.zbS ?_
 refine .cons Tryz.func13 Ok.zcA ?_
 refine .cons Tryz.func15 Ok.zao ?_
 refine .cons Tryz.func16 Ok.zbT ?_
 refine .cons Tryz.func17 Ok.zcB ?_
 refine .cons Tryz.func18 Ok.zcz ?_
 refine .cons Tryz.func19 Ok.zcd ?_
 refine .cons Tryz.func29 Ok.zak ?_
 refine .cons Tryz.func30 Ok.zcb ?_
 refine .cons Tryz.func31 Ok.zbE ?_
 refine .cons Tryz.func32 Ok.zaM ?_
 refine .cons Tryz.func33 Ok.zbD ?_
 refine .cons Tryz.func34 Ok.zbw ?_
 refine .cons Tryz.func35 Ok.zcq ?_
 refine .cons Tryz.func40 Ok.zat ?_
 refine .cons Tryz.func41 Ok.zaN ?_
 refine .cons Tryz.func42 Ok.zaK ?_
 refine .cons Tryz.func43 Ok.zcD ?_
 refine .cons Tryz.func44 Ok.zaL ?_
 refine .cons Tryz.func45 Ok.zce ?_
 refine .cons Tryz.func46 Ok.zcf ?_
 refine .cons Tryz.func57 Ok.zal ?_
 refine .cons Tryz.func58 Ok.zau ?_
 refine .cons Tryz.func59 Ok.zbA ?_
 refine .cons Tryz.func60 Ok.zbv ?_
 refine .cons Tryz.func61 Ok.zbf ?_
 refine .cons Tryz.func62 Ok.zbz ?_
 refine .cons Tryz.func63 Ok.zbe ?_
 refine .cons Tryz.func64 Ok.zbF ?_
 refine .cons Tryz.func67 Ok.zbt ?_
 refine .cons Tryz.func68 Ok.zaj ?_
 refine .cons Tryz.func69 Ok.zaZ ?_
 refine .cons Tryz.func70 Ok.zbP ?_
 refine .cons Tryz.func71 Ok.zcL ?_
 refine .cons Tryz.func72 Ok.zbJ ?_
 refine .cons Tryz.func73 Ok.zbK ?_
 refine .cons Tryz.func74 Ok.zcg ?_
 refine .cons Tryz.func88 Ok.zas ?_
 refine .cons Tryz.func89 Ok.zbB ?_
 refine .cons Tryz.func90 Ok.zbn ?_
 refine .cons Tryz.func91 Ok.zbo ?_
 refine .cons Tryz.func92 Ok.zbm ?_
 refine .cons Tryz.func93 Ok.zbC ?_
 refine .cons Tryz.func95 Ok.zcr ?_
 refine .cons Tryz.func96 Ok.zbc ?_
 refine .cons Tryz.func97 Ok.zbb ?_
 refine .cons Tryz.func98 Ok.zbL ?_
 refine .cons Tryz.func99 Ok.zaB ?_
 refine .cons Tryz.func100 Ok.zaE ?_
 refine .cons Tryz.func125 Ok.zaS ?_
 refine .cons Tryz.func126 Ok.zbr ?_
 refine .cons Tryz.func127 Ok.zbl ?_
 refine .cons Tryz.func128 Ok.zbq ?_
 refine .cons Tryz.func129 Ok.zbk ?_
 refine .cons Tryz.func130 Ok.zbd ?_
 refine .cons Tryz.func131 Ok.zaH ?_
 refine .cons Tryz.func132 Ok.zaC ?_
 refine .cons Tryz.func133 Ok.zaF ?_
 refine .cons Tryz.func145 Ok.zaU ?_
 refine .cons Tryz.func146 Ok.zaP ?_
 refine .cons Tryz.func147 Ok.zaQ ?_
 refine .cons Tryz.func148 Ok.zaO ?_
 refine .cons Tryz.func149 Ok.zba ?_
 refine .cons Tryz.func150 Ok.zaD ?_
 refine .cons Tryz.func151 Ok.zaA ?_
 refine .cons Tryz.func158 Ok.zaI ?_
 refine .cons Tryz.func159 Ok.zaR ?_
 refine .cons Tryz.func160 Ok.zav ?_
 refine .cons Tryz.func161 Ok.zaG ?_
 refine .cons Tryz.func164 Ok.zaT ?_
 refine .cons Tryz.func165 Ok.zaJ ?_
 refine .cons Tryz.func181 Ok.zam ?_
 refine .cons Tryz.func182 Ok.zaq ?_
 refine .cons Tryz.func183 Ok.zar ?_
 refine .cons Tryz.func186 Ok.zaa ?_
 refine .cons Tryz.func187 Ok.zbx ?_
 refine .cons Tryz.func188 Ok.zaf ?_
 refine .cons Tryz.func189 Ok.zai ?_
 refine .cons Tryz.func190 Ok.zad ?_
 refine .cons Tryz.func191 Ok.zbu ?_
 refine .cons Tryz.func192 Ok.zcu ?_
 refine .cons Tryz.func193 Ok.zab ?_
 refine .cons Tryz.func194 Ok.zby ?_
 refine .cons Tryz.func195 Ok.zae ?_
 refine .cons Tryz.func196 Ok.zag ?_
 refine .cons Tryz.func197 Ok.zah ?_
 refine .cons Tryz.func198 Ok.zct ?_
 refine .cons Tryz.func199 Ok.zac ?_
 refine .cons Tryz.func200 Ok.zcs ?_
 refine .cons Tryz.func201 Ok.zcw ?_
 refine .cons Tryz.func202 Ok.zbh ?_
 refine .cons Tryz.func203 Ok.zcx ?_
 refine .cons Tryz.func204 Ok.zbs ?_
 refine .cons Tryz.func205 Ok.zcv ?_
 refine .cons Tryz.func206 Ok.zbg ?_
 refine .cons Tryz.func207 Ok.zbi ?_
 refine .cons Tryz.func208 Ok.zbp ?_
 refine .cons Tryz.func209 Ok.zbj ?_
 refine .cons Tryz.func212 Ok.zaV ?_
 refine .cons Tryz.func213 Ok.zaX ?_
 refine .cons Tryz.func214 Ok.zaY ?_
 refine .cons Tryz.func215 Ok.zaW ?_
 refine .cons Tryz.func216 Ok.zay ?_
 refine .cons Tryz.func217 Ok.zaz ?_
 refine .cons Tryz.func218 Ok.zbM ?_
 refine .cons Tryz.func219 Ok.zbN ?_
 refine .cons Tryz.func220 Ok.zbO ?_
 refine .cons Tryz.func222 Ok.zcE ?_
 refine .cons Tryz.func223 Ok.zcJ ?_
 refine .cons Tryz.func224 Ok.zcF ?_
 refine .cons Tryz.func225 Ok.zcG ?_
 refine .cons Tryz.func226 Ok.zcI ?_
 refine .cons Tryz.func227 Ok.zcH ?_
 refine .cons Tryz.func228 Ok.zaw ?_
 refine .cons Tryz.func229 Ok.zcK ?_
 refine .cons Tryz.func230 Ok.zax ?_
 refine .cons Tryz.func231 Ok.zbG ?_
 refine .cons Tryz.func232 Ok.zbI ?_
 refine .cons Tryz.func233 Ok.zbH ?_
 refine .cons Tryz.func234 Ok.zcC ?_
 refine .cons Tryz.func236 Ok.zan ?_
 refine .cons Tryz.func237 Ok.zap ?_
 exact .nil
end Go.Proofs.YtnfcohmbcgfhbaaGreat

