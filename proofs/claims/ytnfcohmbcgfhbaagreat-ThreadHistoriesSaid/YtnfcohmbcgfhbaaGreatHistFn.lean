/- Where each function stands in the table. -/
import Derived.Test.YtnfcohmbcgfhbaaGreatHistIr
import Derived.Test.YtnfcohmbcgfhbaaGreatIrD
import Derived.KernelRfl
set_option linter.unusedVariables false
set_option linter.unusedSimpArgs false

namespace Go.Proofs.YtnfcohmbcgfhbaaGreat
open Go Go.Ir

def pr : List (Nat × Prim) := [(Id.zbR, constPrim (.bool true))]
def En : Env := { fn := fun g => tbl.lookup g, prim := fun g => pr.lookup g }
theorem Fn.zbQ : En.fn Id.zbQ = some F.zbQ := by kernel_rfl
theorem Fn.zbU : En.fn Id.zbU = some F.zbU := by kernel_rfl
theorem Fn.zca : En.fn Id.zca = some F.zca := by kernel_rfl
theorem Fn.zbR : En.fn Id.zbR = some F.zbR := by kernel_rfl
theorem Fn.zcy : En.fn Id.zcy = some F.zcy := by kernel_rfl
theorem Fn.zbS : En.fn Id.zbS = some F.zbS := by kernel_rfl
theorem Fn.zcA : En.fn Id.zcA = some F.zcA := by kernel_rfl
theorem Fn.zao : En.fn Id.zao = some F.zao := by kernel_rfl
theorem Fn.zbT : En.fn Id.zbT = some F.zbT := by kernel_rfl
theorem Fn.zcB : En.fn Id.zcB = some F.zcB := by kernel_rfl
theorem Fn.zcz : En.fn Id.zcz = some F.zcz := by kernel_rfl
theorem Fn.zcd : En.fn Id.zcd = some F.zcd := by kernel_rfl
theorem Fn.zak : En.fn Id.zak = some F.zak := by kernel_rfl
theorem Fn.zcb : En.fn Id.zcb = some F.zcb := by kernel_rfl
theorem Fn.zbE : En.fn Id.zbE = some F.zbE := by kernel_rfl
theorem Fn.zaM : En.fn Id.zaM = some F.zaM := by kernel_rfl
theorem Fn.zbD : En.fn Id.zbD = some F.zbD := by kernel_rfl
theorem Fn.zbw : En.fn Id.zbw = some F.zbw := by kernel_rfl
theorem Fn.zcq : En.fn Id.zcq = some F.zcq := by kernel_rfl
theorem Fn.zat : En.fn Id.zat = some F.zat := by kernel_rfl
theorem Fn.zaN : En.fn Id.zaN = some F.zaN := by kernel_rfl
theorem Fn.zaK : En.fn Id.zaK = some F.zaK := by kernel_rfl
theorem Fn.zcD : En.fn Id.zcD = some F.zcD := by kernel_rfl
theorem Fn.zaL : En.fn Id.zaL = some F.zaL := by kernel_rfl
theorem Fn.zce : En.fn Id.zce = some F.zce := by kernel_rfl
theorem Fn.zcf : En.fn Id.zcf = some F.zcf := by kernel_rfl
theorem Fn.zal : En.fn Id.zal = some F.zal := by kernel_rfl
theorem Fn.zau : En.fn Id.zau = some F.zau := by kernel_rfl
theorem Fn.zbA : En.fn Id.zbA = some F.zbA := by kernel_rfl
theorem Fn.zbv : En.fn Id.zbv = some F.zbv := by kernel_rfl
theorem Fn.zbf : En.fn Id.zbf = some F.zbf := by kernel_rfl
theorem Fn.zbz : En.fn Id.zbz = some F.zbz := by kernel_rfl
theorem Fn.zbe : En.fn Id.zbe = some F.zbe := by kernel_rfl
theorem Fn.zbF : En.fn Id.zbF = some F.zbF := by kernel_rfl
theorem Fn.zbt : En.fn Id.zbt = some F.zbt := by kernel_rfl
theorem Fn.zaj : En.fn Id.zaj = some F.zaj := by kernel_rfl
theorem Fn.zaZ : En.fn Id.zaZ = some F.zaZ := by kernel_rfl
theorem Fn.zbP : En.fn Id.zbP = some F.zbP := by kernel_rfl
theorem Fn.zcL : En.fn Id.zcL = some F.zcL := by kernel_rfl
theorem Fn.zbJ : En.fn Id.zbJ = some F.zbJ := by kernel_rfl
theorem Fn.zbK : En.fn Id.zbK = some F.zbK := by kernel_rfl
theorem Fn.zcg : En.fn Id.zcg = some F.zcg := by kernel_rfl
theorem Fn.zas : En.fn Id.zas = some F.zas := by kernel_rfl
theorem Fn.zbB : En.fn Id.zbB = some F.zbB := by kernel_rfl
theorem Fn.zbn : En.fn Id.zbn = some F.zbn := by kernel_rfl
theorem Fn.zbo : En.fn Id.zbo = some F.zbo := by kernel_rfl
theorem Fn.zbm : En.fn Id.zbm = some F.zbm := by kernel_rfl
theorem Fn.zbC : En.fn Id.zbC = some F.zbC := by kernel_rfl
theorem Fn.zcr : En.fn Id.zcr = some F.zcr := by kernel_rfl
theorem Fn.zbc : En.fn Id.zbc = some F.zbc := by kernel_rfl
theorem Fn.zbb : En.fn Id.zbb = some F.zbb := by kernel_rfl
theorem Fn.zbL : En.fn Id.zbL = some F.zbL := by kernel_rfl
theorem Fn.zaB : En.fn Id.zaB = some F.zaB := by kernel_rfl
theorem Fn.zaE : En.fn Id.zaE = some F.zaE := by kernel_rfl
theorem Fn.zaS : En.fn Id.zaS = some F.zaS := by kernel_rfl
theorem Fn.zbr : En.fn Id.zbr = some F.zbr := by kernel_rfl
theorem Fn.zbl : En.fn Id.zbl = some F.zbl := by kernel_rfl
theorem Fn.zbq : En.fn Id.zbq = some F.zbq := by kernel_rfl
theorem Fn.zbk : En.fn Id.zbk = some F.zbk := by kernel_rfl
theorem Fn.zbd : En.fn Id.zbd = some F.zbd := by kernel_rfl
theorem Fn.zaH : En.fn Id.zaH = some F.zaH := by kernel_rfl
theorem Fn.zaC : En.fn Id.zaC = some F.zaC := by kernel_rfl
theorem Fn.zaF : En.fn Id.zaF = some F.zaF := by kernel_rfl
theorem Fn.zaU : En.fn Id.zaU = some F.zaU := by kernel_rfl
theorem Fn.zaP : En.fn Id.zaP = some F.zaP := by kernel_rfl
theorem Fn.zaQ : En.fn Id.zaQ = some F.zaQ := by kernel_rfl
theorem Fn.zaO : En.fn Id.zaO = some F.zaO := by kernel_rfl
theorem Fn.zba : En.fn Id.zba = some F.zba := by kernel_rfl
theorem Fn.zaD : En.fn Id.zaD = some F.zaD := by kernel_rfl
theorem Fn.zaA : En.fn Id.zaA = some F.zaA := by kernel_rfl
theorem Fn.zaI : En.fn Id.zaI = some F.zaI := by kernel_rfl
theorem Fn.zaR : En.fn Id.zaR = some F.zaR := by kernel_rfl
theorem Fn.zav : En.fn Id.zav = some F.zav := by kernel_rfl
theorem Fn.zaG : En.fn Id.zaG = some F.zaG := by kernel_rfl
theorem Fn.zaT : En.fn Id.zaT = some F.zaT := by kernel_rfl
theorem Fn.zaJ : En.fn Id.zaJ = some F.zaJ := by kernel_rfl
theorem Fn.zam : En.fn Id.zam = some F.zam := by kernel_rfl
theorem Fn.zaq : En.fn Id.zaq = some F.zaq := by kernel_rfl
theorem Fn.zar : En.fn Id.zar = some F.zar := by kernel_rfl
theorem Fn.zaa : En.fn Id.zaa = some F.zaa := by kernel_rfl
theorem Fn.zbx : En.fn Id.zbx = some F.zbx := by kernel_rfl
theorem Fn.zaf : En.fn Id.zaf = some F.zaf := by kernel_rfl
theorem Fn.zai : En.fn Id.zai = some F.zai := by kernel_rfl
theorem Fn.zad : En.fn Id.zad = some F.zad := by kernel_rfl
theorem Fn.zbu : En.fn Id.zbu = some F.zbu := by kernel_rfl
theorem Fn.zcu : En.fn Id.zcu = some F.zcu := by kernel_rfl
theorem Fn.zab : En.fn Id.zab = some F.zab := by kernel_rfl
theorem Fn.zby : En.fn Id.zby = some F.zby := by kernel_rfl
theorem Fn.zae : En.fn Id.zae = some F.zae := by kernel_rfl
theorem Fn.zag : En.fn Id.zag = some F.zag := by kernel_rfl
theorem Fn.zah : En.fn Id.zah = some F.zah := by kernel_rfl
theorem Fn.zct : En.fn Id.zct = some F.zct := by kernel_rfl
theorem Fn.zac : En.fn Id.zac = some F.zac := by kernel_rfl
theorem Fn.zcs : En.fn Id.zcs = some F.zcs := by kernel_rfl
theorem Fn.zcw : En.fn Id.zcw = some F.zcw := by kernel_rfl
theorem Fn.zbh : En.fn Id.zbh = some F.zbh := by kernel_rfl
theorem Fn.zcx : En.fn Id.zcx = some F.zcx := by kernel_rfl
theorem Fn.zbs : En.fn Id.zbs = some F.zbs := by kernel_rfl
theorem Fn.zcv : En.fn Id.zcv = some F.zcv := by kernel_rfl
theorem Fn.zbg : En.fn Id.zbg = some F.zbg := by kernel_rfl
theorem Fn.zbi : En.fn Id.zbi = some F.zbi := by kernel_rfl
theorem Fn.zbp : En.fn Id.zbp = some F.zbp := by kernel_rfl
theorem Fn.zbj : En.fn Id.zbj = some F.zbj := by kernel_rfl
theorem Fn.zaV : En.fn Id.zaV = some F.zaV := by kernel_rfl
theorem Fn.zaX : En.fn Id.zaX = some F.zaX := by kernel_rfl
theorem Fn.zaY : En.fn Id.zaY = some F.zaY := by kernel_rfl
theorem Fn.zaW : En.fn Id.zaW = some F.zaW := by kernel_rfl
theorem Fn.zay : En.fn Id.zay = some F.zay := by kernel_rfl
theorem Fn.zaz : En.fn Id.zaz = some F.zaz := by kernel_rfl
theorem Fn.zbM : En.fn Id.zbM = some F.zbM := by kernel_rfl
theorem Fn.zbN : En.fn Id.zbN = some F.zbN := by kernel_rfl
theorem Fn.zbO : En.fn Id.zbO = some F.zbO := by kernel_rfl
theorem Fn.zcE : En.fn Id.zcE = some F.zcE := by kernel_rfl
theorem Fn.zcJ : En.fn Id.zcJ = some F.zcJ := by kernel_rfl
theorem Fn.zcF : En.fn Id.zcF = some F.zcF := by kernel_rfl
theorem Fn.zcG : En.fn Id.zcG = some F.zcG := by kernel_rfl
theorem Fn.zcI : En.fn Id.zcI = some F.zcI := by kernel_rfl
theorem Fn.zcH : En.fn Id.zcH = some F.zcH := by kernel_rfl
theorem Fn.zaw : En.fn Id.zaw = some F.zaw := by kernel_rfl
theorem Fn.zcK : En.fn Id.zcK = some F.zcK := by kernel_rfl
theorem Fn.zax : En.fn Id.zax = some F.zax := by kernel_rfl
theorem Fn.zbG : En.fn Id.zbG = some F.zbG := by kernel_rfl
theorem Fn.zbI : En.fn Id.zbI = some F.zbI := by kernel_rfl
theorem Fn.zbH : En.fn Id.zbH = some F.zbH := by kernel_rfl
theorem Fn.zcC : En.fn Id.zcC = some F.zcC := by kernel_rfl
theorem Fn.zan : En.fn Id.zan = some F.zan := by kernel_rfl
theorem Fn.zap : En.fn Id.zap = some F.zap := by kernel_rfl

end Go.Proofs.YtnfcohmbcgfhbaaGreat

