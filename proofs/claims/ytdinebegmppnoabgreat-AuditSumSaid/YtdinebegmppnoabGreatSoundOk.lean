/- The texts of this seat are its functions' translations. -/
import Derived.Test.YtdinebegmppnoabGreatSoundIr
import Derived.Test.YtdinebegmppnoabGreatProg
import Derived.KernelRfl
set_option linter.unusedVariables false
set_option linter.unusedSimpArgs false

namespace Go.Proofs.YtdinebegmppnoabGreat
open Go Go.Ir

theorem Ok.zcI:qbF Tryz.prog Tryz.f3 ⟨[3],false,[[2,3,7,9],[3,7,10,11,12,13],[3,7,11,12,14,15]]⟩=some F.zcI:=by kernel_rfl
theorem Ok.zcN:qbF Tryz.prog Tryz.f4 ⟨[],false,[[0,1,2,3,9,10]]⟩=some F.zcN:=by kernel_rfl
theorem Ok.zcL:qbF Tryz.prog Tryz.f5 ⟨[1],true,[]⟩=some F.zcL:=by kernel_rfl
theorem Ok.zcJ:qbF Tryz.prog Tryz.f6 ⟨[1],false,[[1,2,4]]⟩=some F.zcJ:=by kernel_rfl
theorem Ok.zdn:qbF Tryz.prog Tryz.f7 ⟨[2,6],false,[[1,2,8,43,44]]⟩=some F.zdn:=by kernel_rfl
theorem Ok.zds:qbF Tryz.prog Tryz.f8 ⟨[],false,[]⟩=some F.zds:=by kernel_rfl
theorem Ok.zan:qbF Tryz.prog Tryz.f9 ⟨[3,10],false,[[7,8,17,18,19]]⟩=some F.zan:=by kernel_rfl
theorem Ok.zdo:qbF Tryz.prog Tryz.f10 ⟨[],false,[]⟩=some F.zdo:=by kernel_rfl
theorem Ok.zdq:qbF Tryz.prog Tryz.f11 ⟨[],false,[[3,14,15,16]]⟩=some F.zdq:=by kernel_rfl
theorem Ok.zax:qbF Tryz.prog Tryz.f12 ⟨[],false,[]⟩=some F.zax:=by kernel_rfl
theorem Ok.zaq:qbF Tryz.prog Tryz.f13 ⟨[3],false,[]⟩=some F.zaq:=by kernel_rfl
theorem Ok.zal:qbF Tryz.prog Tryz.f14 ⟨[4,9,13],false,[[0,2,9,11,26,27,28],[0,2,9,11,13,26,27,28,44,45]]⟩=some F.zal:=by kernel_rfl
theorem Ok.zaw:qbF Tryz.prog Tryz.f15 ⟨[],false,[]⟩=some F.zaw:=by kernel_rfl
theorem Ok.zaz:qbF Tryz.prog Tryz.f16 ⟨[],false,[]⟩=some F.zaz:=by kernel_rfl
theorem Ok.zam:qbF Tryz.prog Tryz.f17 ⟨[1,5,11,12],false,[[1,3,7,8,9,38,39,40]]⟩=some F.zam:=by kernel_rfl
theorem Ok.zcM:qbF Tryz.prog Tryz.f18 ⟨[],true,[[0,1,5]]⟩=some F.zcM:=by kernel_rfl
theorem Ok.zcK:qbF Tryz.prog Tryz.f19 ⟨[],true,[[0,3,4]]⟩=some F.zcK:=by kernel_rfl
theorem Ok.zcm:qbF Tryz.prog Tryz.f20 ⟨[1,2],true,[]⟩=some F.zcm:=by kernel_rfl
theorem Ok.zas:qbF Tryz.prog Tryz.f21 ⟨[],false,[]⟩=some F.zas:=by kernel_rfl
theorem Ok.zcj:qbF Tryz.prog Tryz.f22 ⟨[1],true,[]⟩=some F.zcj:=by kernel_rfl
theorem Ok.zaX:qbF Tryz.prog Tryz.f23 ⟨[1,3],false,[]⟩=some F.zaX:=by kernel_rfl
theorem Ok.zcn:qbF Tryz.prog Tryz.f24 ⟨[3,5],false,[[0,5,38,39],[0,5,8,9]]⟩=some F.zcn:=by kernel_rfl
theorem Ok.zdh:qbF Tryz.prog Tryz.f25 ⟨[3,8],false,[]⟩=some F.zdh:=by kernel_rfl
theorem Ok.zdt:qbF Tryz.prog Tryz.f26 ⟨[2],false,[]⟩=some F.zdt:=by kernel_rfl
theorem Ok.zdi:qbF Tryz.prog Tryz.f27 ⟨[],false,[]⟩=some F.zdi:=by kernel_rfl
theorem Ok.zdk:qbF Tryz.prog Tryz.f28 ⟨[5],false,[]⟩=some F.zdk:=by kernel_rfl
theorem Ok.zar:qbF Tryz.prog Tryz.f29 ⟨[3,6,10],false,[[0,6,8,33,34]]⟩=some F.zar:=by kernel_rfl
theorem Ok.zdj:qbF Tryz.prog Tryz.f30 ⟨[],false,[]⟩=some F.zdj:=by kernel_rfl
theorem Ok.zaC:qbF Tryz.prog Tryz.f31 ⟨[],false,[]⟩=some F.zaC:=by kernel_rfl
theorem Ok.zdp:qbF Tryz.prog Tryz.f32 ⟨[2],false,[]⟩=some F.zdp:=by kernel_rfl
theorem Ok.zdr:qbF Tryz.prog Tryz.f33 ⟨[2],false,[]⟩=some F.zdr:=by kernel_rfl
theorem Ok.zch:qbF Tryz.prog Tryz.f34 ⟨[2],true,[]⟩=some F.zch:=by kernel_rfl
theorem Ok.zcd:qbF Tryz.prog Tryz.f35 ⟨[1],true,[]⟩=some F.zcd:=by kernel_rfl
theorem Ok.zap:qbF Tryz.prog Tryz.f36 ⟨[2,3,4,6,7],true,[]⟩=some F.zap:=by kernel_rfl
theorem Ok.zcy:qbF Tryz.prog Tryz.f37 ⟨[],true,[]⟩=some F.zcy:=by kernel_rfl
theorem Ok.zao:qbF Tryz.prog Tryz.f38 ⟨[2,5,9],false,[[2,5,7,18,19,20],[7,32,33,34]]⟩=some F.zao:=by kernel_rfl
theorem Ok.zco:qbF Tryz.prog Tryz.f39 ⟨[],true,[]⟩=some F.zco:=by kernel_rfl
theorem Ok.zaD:qbF Tryz.prog Tryz.f40 ⟨[],true,[]⟩=some F.zaD:=by kernel_rfl
theorem Ok.zce:qbF Tryz.prog Tryz.f41 ⟨[2],true,[]⟩=some F.zce:=by kernel_rfl
theorem Ok.zbO:qbF Tryz.prog Tryz.f42 ⟨[],true,[]⟩=some F.zbO:=by kernel_rfl
theorem Ok.zci:qbF Tryz.prog Tryz.f43 ⟨[1],true,[]⟩=some F.zci:=by kernel_rfl
theorem Ok.zcf:qbF Tryz.prog Tryz.f44 ⟨[2],true,[]⟩=some F.zcf:=by kernel_rfl
theorem Ok.zcO:qbF Tryz.prog Tryz.f45 ⟨[],false,[]⟩=some F.zcO:=by kernel_rfl
theorem Ok.zaJ:qbF Tryz.prog Tryz.f46 ⟨[4],false,[]⟩=some F.zaJ:=by kernel_rfl
theorem Ok.zaH:qbF Tryz.prog Tryz.f47 ⟨[],false,[]⟩=some F.zaH:=by kernel_rfl
theorem Ok.zbt:qbF Tryz.prog Tryz.f48 ⟨[2,5],false,[]⟩=some F.zbt:=by kernel_rfl
theorem Ok.zbr:qbF Tryz.prog Tryz.f49 ⟨[],false,[]⟩=some F.zbr:=by kernel_rfl
theorem Ok.zdm:qbF Tryz.prog Tryz.f50 ⟨[2,3],false,[]⟩=some F.zdm:=by kernel_rfl
theorem Ok.zbs:qbF Tryz.prog Tryz.f51 ⟨[4,6],false,[]⟩=some F.zbs:=by kernel_rfl
theorem Ok.zbk:qbF Tryz.prog Tryz.f52 ⟨[2,6,7],true,[[0,2,4,15,16]]⟩=some F.zbk:=by kernel_rfl
theorem Ok.zcb:qbF Tryz.prog Tryz.f53 ⟨[2],true,[]⟩=some F.zcb:=by kernel_rfl
theorem Ok.zbK:qbF Tryz.prog Tryz.f54 ⟨[],true,[[0]]⟩=some F.zbK:=by kernel_rfl
theorem Ok.zaa:qbF Tryz.prog Tryz.f55 ⟨[],false,[]⟩=some F.zaa:=by kernel_rfl
theorem Ok.zaI:qbF Tryz.prog Tryz.f56 ⟨[2,4],false,[]⟩=some F.zaI:=by kernel_rfl
theorem Ok.zck:qbF Tryz.prog Tryz.f57 ⟨[3],true,[]⟩=some F.zck:=by kernel_rfl
theorem Ok.zcl:qbF Tryz.prog Tryz.f58 ⟨[2],true,[]⟩=some F.zcl:=by kernel_rfl
theorem Ok.zcz:qbF Tryz.prog Tryz.f59 ⟨[2],true,[]⟩=some F.zcz:=by kernel_rfl
theorem Ok.zcQ:qbF Tryz.prog Tryz.f60 ⟨[],true,[]⟩=some F.zcQ:=by kernel_rfl
theorem Ok.zcv:qbF Tryz.prog Tryz.f61 ⟨[],true,[[3,9,10,11]]⟩=some F.zcv:=by kernel_rfl
theorem Ok.zcZ:qbF Tryz.prog Tryz.f62 ⟨[3],false,[[0,3,5,6,24,25]]⟩=some F.zcZ:=by kernel_rfl
theorem Ok.zbW:qbF Tryz.prog Tryz.f63 ⟨[],true,[]⟩=some F.zbW:=by kernel_rfl
theorem Ok.zbX:qbF Tryz.prog Tryz.f64 ⟨[],true,[]⟩=some F.zbX:=by kernel_rfl
theorem Ok.zbV:qbF Tryz.prog Tryz.f65 ⟨[],true,[]⟩=some F.zbV:=by kernel_rfl
theorem Ok.zaR:qbF Tryz.prog Tryz.f66 ⟨[4],false,[]⟩=some F.zaR:=by kernel_rfl
theorem Ok.zcg:qbF Tryz.prog Tryz.f67 ⟨[1],true,[]⟩=some F.zcg:=by kernel_rfl
theorem Ok.zaL:qbF Tryz.prog Tryz.f68 ⟨[2],false,[]⟩=some F.zaL:=by kernel_rfl
theorem Ok.zaT:qbF Tryz.prog Tryz.f69 ⟨[4,6],false,[]⟩=some F.zaT:=by kernel_rfl
theorem Ok.zaP:qbF Tryz.prog Tryz.f70 ⟨[4],false,[]⟩=some F.zaP:=by kernel_rfl
theorem Ok.zaO:qbF Tryz.prog Tryz.f71 ⟨[4,6,7],false,[]⟩=some F.zaO:=by kernel_rfl
theorem Ok.zaN:qbF Tryz.prog Tryz.f72 ⟨[4],false,[]⟩=some F.zaN:=by kernel_rfl
theorem Ok.zaQ:qbF Tryz.prog Tryz.f73 ⟨[2],false,[]⟩=some F.zaQ:=by kernel_rfl
theorem Ok.zaM:qbF Tryz.prog Tryz.f74 ⟨[4],false,[]⟩=some F.zaM:=by kernel_rfl
theorem Ok.zaV:qbF Tryz.prog Tryz.f75 ⟨[4],false,[]⟩=some F.zaV:=by kernel_rfl
theorem Ok.zaW:qbF Tryz.prog Tryz.f76 ⟨[4],false,[]⟩=some F.zaW:=by kernel_rfl
theorem Ok.zcc:qbF Tryz.prog Tryz.f77 ⟨[1],true,[]⟩=some F.zcc:=by kernel_rfl
theorem Ok.zak:qbF Tryz.prog Tryz.f78 ⟨[2,5],false,[]⟩=some F.zak:=by kernel_rfl
theorem Ok.zbH:qbF Tryz.prog Tryz.f79 ⟨[2,5],false,[]⟩=some F.zbH:=by kernel_rfl
theorem Ok.zcH:qbF Tryz.prog Tryz.f80 ⟨[3,7],false,[]⟩=some F.zcH:=by kernel_rfl
theorem Ok.zdB:qbF Tryz.prog Tryz.f81 ⟨[4,9],false,[]⟩=some F.zdB:=by kernel_rfl
theorem Ok.zcs:qbF Tryz.prog Tryz.f82 ⟨[2],false,[]⟩=some F.zcs:=by kernel_rfl
theorem Ok.zct:qbF Tryz.prog Tryz.f83 ⟨[2],false,[]⟩=some F.zct:=by kernel_rfl
theorem Ok.zbp:qbF Tryz.prog Tryz.f84 ⟨[0],true,[]⟩=some F.zbp:=by kernel_rfl
theorem Ok.zbz:qbF Tryz.prog Tryz.f85 ⟨[3],true,[]⟩=some F.zbz:=by kernel_rfl
theorem Ok.zaY:qbF Tryz.prog Tryz.f86 ⟨[1],true,[]⟩=some F.zaY:=by kernel_rfl
theorem Ok.zcS:qbF Tryz.prog Tryz.f87 ⟨[],true,[[0,1,7,8]]⟩=some F.zcS:=by kernel_rfl
theorem Ok.zcR:qbF Tryz.prog Tryz.f88 ⟨[7],false,[[0,1,5,6]]⟩=some F.zcR:=by kernel_rfl
theorem Ok.zcA:qbF Tryz.prog Tryz.f89 ⟨[],true,[]⟩=some F.zcA:=by kernel_rfl
theorem Ok.zcw:qbF Tryz.prog Tryz.f90 ⟨[1],true,[]⟩=some F.zcw:=by kernel_rfl
theorem Ok.zcx:qbF Tryz.prog Tryz.f91 ⟨[2],true,[]⟩=some F.zcx:=by kernel_rfl
theorem Ok.zcB:qbF Tryz.prog Tryz.f92 ⟨[2,3],true,[]⟩=some F.zcB:=by kernel_rfl
theorem Ok.zbR:qbF Tryz.prog Tryz.f93 ⟨[],true,[]⟩=some F.zbR:=by kernel_rfl
theorem Ok.zbA:qbF Tryz.prog Tryz.f94 ⟨[4],true,[]⟩=some F.zbA:=by kernel_rfl
theorem Ok.zca:qbF Tryz.prog Tryz.f95 ⟨[0],true,[]⟩=some F.zca:=by kernel_rfl
theorem Ok.zbU:qbF Tryz.prog Tryz.f96 ⟨[],true,[]⟩=some F.zbU:=by kernel_rfl
theorem Ok.zbZ:qbF Tryz.prog Tryz.f97 ⟨[0],true,[]⟩=some F.zbZ:=by kernel_rfl
theorem Ok.zbT:qbF Tryz.prog Tryz.f98 ⟨[],true,[]⟩=some F.zbT:=by kernel_rfl
theorem Ok.zaU:qbF Tryz.prog Tryz.f99 ⟨[2],false,[]⟩=some F.zaU:=by kernel_rfl
theorem Ok.zaS:qbF Tryz.prog Tryz.f100 ⟨[2],false,[]⟩=some F.zaS:=by kernel_rfl
theorem Ok.zbb:qbF Tryz.prog Tryz.f101 ⟨[],true,[]⟩=some F.zbb:=by kernel_rfl
theorem Ok.zbd:qbF Tryz.prog Tryz.f102 ⟨[],true,[]⟩=some F.zbd:=by kernel_rfl
theorem Ok.zbv:qbF Tryz.prog Tryz.f103 ⟨[],false,[]⟩=some F.zbv:=by kernel_rfl
theorem Ok.zda:qbF Tryz.prog Tryz.f104 ⟨[1],false,[]⟩=some F.zda:=by kernel_rfl
theorem Ok.zbJ:qbF Tryz.prog Tryz.f105 ⟨[],true,[]⟩=some F.zbJ:=by kernel_rfl
theorem Ok.zcu:qbF Tryz.prog Tryz.f106 ⟨[4,9],false,[]⟩=some F.zcu:=by kernel_rfl
theorem Ok.zbi:qbF Tryz.prog Tryz.f107 ⟨[],true,[]⟩=some F.zbi:=by kernel_rfl
theorem Ok.zbl:qbF Tryz.prog Tryz.f108 ⟨[],true,[]⟩=some F.zbl:=by kernel_rfl
theorem Ok.zbC:qbF Tryz.prog Tryz.f109 ⟨[],true,[]⟩=some F.zbC:=by kernel_rfl
theorem Ok.zbB:qbF Tryz.prog Tryz.f110 ⟨[3],true,[]⟩=some F.zbB:=by kernel_rfl
theorem Ok.zbw:qbF Tryz.prog Tryz.f111 ⟨[1],true,[]⟩=some F.zbw:=by kernel_rfl
theorem Ok.zbq:qbF Tryz.prog Tryz.f112 ⟨[],true,[]⟩=some F.zbq:=by kernel_rfl
theorem Ok.zcP:qbF Tryz.prog Tryz.f113 ⟨[],true,[]⟩=some F.zcP:=by kernel_rfl
theorem Ok.zcT:qbF Tryz.prog Tryz.f114 ⟨[],false,[]⟩=some F.zcT:=by kernel_rfl
theorem Ok.zcD:qbF Tryz.prog Tryz.f115 ⟨[2,3],true,[]⟩=some F.zcD:=by kernel_rfl
theorem Ok.zbY:qbF Tryz.prog Tryz.f116 ⟨[],true,[]⟩=some F.zbY:=by kernel_rfl
theorem Ok.zbx:qbF Tryz.prog Tryz.f117 ⟨[1],true,[]⟩=some F.zbx:=by kernel_rfl
theorem Ok.zby:qbF Tryz.prog Tryz.f118 ⟨[1],true,[]⟩=some F.zby:=by kernel_rfl
theorem Ok.zaK:qbF Tryz.prog Tryz.f119 ⟨[2],false,[]⟩=some F.zaK:=by kernel_rfl
theorem Ok.zbo:qbF Tryz.prog Tryz.f120 ⟨[],false,[]⟩=some F.zbo:=by kernel_rfl
theorem Ok.zbc:qbF Tryz.prog Tryz.f121 ⟨[],false,[]⟩=some F.zbc:=by kernel_rfl
theorem Ok.zbe:qbF Tryz.prog Tryz.f122 ⟨[],false,[]⟩=some F.zbe:=by kernel_rfl
theorem Ok.zbN:qbF Tryz.prog Tryz.f123 ⟨[],true,[]⟩=some F.zbN:=by kernel_rfl
theorem Ok.zbL:qbF Tryz.prog Tryz.f124 ⟨[],true,[]⟩=some F.zbL:=by kernel_rfl
theorem Ok.zbj:qbF Tryz.prog Tryz.f125 ⟨[],false,[]⟩=some F.zbj:=by kernel_rfl
theorem Ok.zbm:qbF Tryz.prog Tryz.f126 ⟨[],false,[]⟩=some F.zbm:=by kernel_rfl
theorem Ok.zcW:qbF Tryz.prog Tryz.f127 ⟨[],false,[[0,1,2,6,7,8],[0,1,2,6],[0,1,2,6,7,8]]⟩=some F.zcW:=by kernel_rfl
theorem Ok.zaF:qbF Tryz.prog Tryz.f128 ⟨[],true,[[3,6,7,8]]⟩=some F.zaF:=by kernel_rfl
theorem Ok.zaE:qbF Tryz.prog Tryz.f129 ⟨[],true,[]⟩=some F.zaE:=by kernel_rfl
theorem Ok.zcC:qbF Tryz.prog Tryz.f130 ⟨[],true,[]⟩=some F.zcC:=by kernel_rfl
theorem Ok.zbu:qbF Tryz.prog Tryz.f131 ⟨[1,3],false,[]⟩=some F.zbu:=by kernel_rfl
theorem Ok.zbh:qbF Tryz.prog Tryz.f132 ⟨[1],true,[[4,24,25]]⟩=some F.zbh:=by kernel_rfl
theorem Ok.zbM:qbF Tryz.prog Tryz.f133 ⟨[],true,[]⟩=some F.zbM:=by kernel_rfl
theorem Ok.zbI:qbF Tryz.prog Tryz.f134 ⟨[],true,[]⟩=some F.zbI:=by kernel_rfl
theorem Ok.zcU:qbF Tryz.prog Tryz.f135 ⟨[],false,[[0,1,2,3,8],[0,1,2,3,8,9]]⟩=some F.zcU:=by kernel_rfl
theorem Ok.zcY:qbF Tryz.prog Tryz.f136 ⟨[],false,[[0,1,4,10,11],[0,10,13],[0,2,4,14,15],[0,14,17],[0,1,2,3,4,18,19,20,21,22]]⟩=some F.zcY:=by kernel_rfl
theorem Ok.zaG:qbF Tryz.prog Tryz.f137 ⟨[],true,[]⟩=some F.zaG:=by kernel_rfl
theorem Ok.zbn:qbF Tryz.prog Tryz.f138 ⟨[],true,[]⟩=some F.zbn:=by kernel_rfl
theorem Ok.zcV:qbF Tryz.prog Tryz.f139 ⟨[],false,[[0,2,4,10,11]]⟩=some F.zcV:=by kernel_rfl
theorem Ok.zcX:qbF Tryz.prog Tryz.f140 ⟨[],false,[[0,1,2,3,10]]⟩=some F.zcX:=by kernel_rfl
theorem Ok.zat:qbF Tryz.prog Tryz.f156 ⟨[],false,[]⟩=some F.zat:=by kernel_rfl
theorem Ok.zau:qbF Tryz.prog Tryz.f157 ⟨[],false,[]⟩=some F.zau:=by kernel_rfl
theorem Ok.zav:qbF Tryz.prog Tryz.f158 ⟨[],false,[]⟩=some F.zav:=by kernel_rfl
theorem Ok.zay:qbF Tryz.prog Tryz.f159 ⟨[],false,[]⟩=some F.zay:=by kernel_rfl
theorem Ok.zaA:qbF Tryz.prog Tryz.f160 ⟨[],false,[]⟩=some F.zaA:=by kernel_rfl
theorem Ok.zaB:qbF Tryz.prog Tryz.f161 ⟨[],false,[]⟩=some F.zaB:=by kernel_rfl
theorem Ok.zab:qbF Tryz.prog Tryz.f163 ⟨[4],false,[]⟩=some F.zab:=by kernel_rfl
theorem Ok.zag:qbF Tryz.prog Tryz.f164 ⟨[],false,[]⟩=some F.zag:=by kernel_rfl
theorem Ok.zaj:qbF Tryz.prog Tryz.f165 ⟨[],false,[]⟩=some F.zaj:=by kernel_rfl
theorem Ok.zae:qbF Tryz.prog Tryz.f166 ⟨[],false,[]⟩=some F.zae:=by kernel_rfl
theorem Ok.zdd:qbF Tryz.prog Tryz.f167 ⟨[],false,[]⟩=some F.zdd:=by kernel_rfl
theorem Ok.zac:qbF Tryz.prog Tryz.f168 ⟨[],false,[]⟩=some F.zac:=by kernel_rfl
theorem Ok.zaf:qbF Tryz.prog Tryz.f169 ⟨[4],false,[]⟩=some F.zaf:=by kernel_rfl
theorem Ok.zah:qbF Tryz.prog Tryz.f170 ⟨[],false,[]⟩=some F.zah:=by kernel_rfl
theorem Ok.zai:qbF Tryz.prog Tryz.f171 ⟨[2],false,[]⟩=some F.zai:=by kernel_rfl
theorem Ok.zdc:qbF Tryz.prog Tryz.f172 ⟨[],false,[]⟩=some F.zdc:=by kernel_rfl
theorem Ok.zad:qbF Tryz.prog Tryz.f173 ⟨[],false,[]⟩=some F.zad:=by kernel_rfl
theorem Ok.zdb:qbF Tryz.prog Tryz.f174 ⟨[2],false,[]⟩=some F.zdb:=by kernel_rfl
theorem Ok.zdf:qbF Tryz.prog Tryz.f175 ⟨[],false,[]⟩=some F.zdf:=by kernel_rfl
theorem Ok.zbQ:qbF Tryz.prog Tryz.f176 ⟨[],true,[]⟩=some F.zbQ:=by kernel_rfl
theorem Ok.zdg:qbF Tryz.prog Tryz.f177 ⟨[],false,[]⟩=some F.zdg:=by kernel_rfl
theorem Ok.zde:qbF Tryz.prog Tryz.f178 ⟨[],false,[]⟩=some F.zde:=by kernel_rfl
theorem Ok.zbP:qbF Tryz.prog Tryz.f179 ⟨[],true,[]⟩=some F.zbP:=by kernel_rfl
theorem Ok.zbS:qbF Tryz.prog Tryz.f180 ⟨[],true,[]⟩=some F.zbS:=by kernel_rfl
theorem Ok.zbD:qbF Tryz.prog Tryz.f182 ⟨[4],false,[]⟩=some F.zbD:=by kernel_rfl
theorem Ok.zbF:qbF Tryz.prog Tryz.f183 ⟨[4,6],false,[]⟩=some F.zbF:=by kernel_rfl
theorem Ok.zbG:qbF Tryz.prog Tryz.f184 ⟨[4],false,[]⟩=some F.zbG:=by kernel_rfl
theorem Ok.zbE:qbF Tryz.prog Tryz.f185 ⟨[4],false,[]⟩=some F.zbE:=by kernel_rfl
theorem Ok.zbf:qbF Tryz.prog Tryz.f186 ⟨[],true,[]⟩=some F.zbf:=by kernel_rfl
theorem Ok.zbg:qbF Tryz.prog Tryz.f187 ⟨[],false,[]⟩=some F.zbg:=by kernel_rfl
theorem Ok.zcE:qbF Tryz.prog Tryz.f188 ⟨[4,6,9],false,[]⟩=some F.zcE:=by kernel_rfl
theorem Ok.zcF:qbF Tryz.prog Tryz.f189 ⟨[3,4],false,[]⟩=some F.zcF:=by kernel_rfl
theorem Ok.zcG:qbF Tryz.prog Tryz.f190 ⟨[4,6],false,[]⟩=some F.zcG:=by kernel_rfl
theorem Ok.zdu:qbF Tryz.prog Tryz.f192 ⟨[4],false,[]⟩=some F.zdu:=by kernel_rfl
theorem Ok.zdz:qbF Tryz.prog Tryz.f193 ⟨[5],false,[]⟩=some F.zdz:=by kernel_rfl
theorem Ok.zdv:qbF Tryz.prog Tryz.f194 ⟨[4],false,[]⟩=some F.zdv:=by kernel_rfl
theorem Ok.zdw:qbF Tryz.prog Tryz.f195 ⟨[],false,[]⟩=some F.zdw:=by kernel_rfl
theorem Ok.zdy:qbF Tryz.prog Tryz.f196 ⟨[],false,[]⟩=some F.zdy:=by kernel_rfl
theorem Ok.zdx:qbF Tryz.prog Tryz.f197 ⟨[],false,[]⟩=some F.zdx:=by kernel_rfl
theorem Ok.zaZ:qbF Tryz.prog Tryz.f198 ⟨[],true,[]⟩=some F.zaZ:=by kernel_rfl
theorem Ok.zdA:qbF Tryz.prog Tryz.f199 ⟨[],false,[]⟩=some F.zdA:=by kernel_rfl
theorem Ok.zba:qbF Tryz.prog Tryz.f200 ⟨[],false,[]⟩=some F.zba:=by kernel_rfl
theorem Ok.zcp:qbF Tryz.prog Tryz.f201 ⟨[4],false,[]⟩=some F.zcp:=by kernel_rfl
theorem Ok.zcr:qbF Tryz.prog Tryz.f202 ⟨[4,6],false,[]⟩=some F.zcr:=by kernel_rfl
theorem Ok.zcq:qbF Tryz.prog Tryz.f203 ⟨[4],false,[]⟩=some F.zcq:=by kernel_rfl
theorem Ok.zdl:qbF Tryz.prog Tryz.f204 ⟨[2,4],false,[]⟩=some F.zdl:=by kernel_rfl

theorem qiT:TblOk Tryz.prog tbl:=by
 unfold tbl
 refine .cons Tryz.func3 Ok.zcI ?_
 refine .cons Tryz.func4 Ok.zcN ?_
 refine .cons Tryz.func5 Ok.zcL ?_
 refine .cons Tryz.func6 Ok.zcJ ?_
 refine .cons Tryz.func7 Ok.zdn ?_
 refine .cons Tryz.func8 Ok.zds ?_
 refine .cons Tryz.func9 Ok.zan ?_
 refine .cons Tryz.func10 Ok.zdo ?_
 refine .cons Tryz.func11 Ok.zdq ?_
 refine .cons Tryz.func12 Ok.zax ?_
 refine .cons Tryz.func13 Ok.zaq ?_
 refine .cons Tryz.func14 Ok.zal ?_
 refine .cons Tryz.func15 Ok.zaw ?_
 refine .cons Tryz.func16 Ok.zaz ?_
 refine .cons Tryz.func17 Ok.zam ?_
 refine .cons Tryz.func18 Ok.zcM ?_
 refine .cons Tryz.func19 Ok.zcK ?_
 refine .cons Tryz.func20 Ok.zcm ?_
 refine .cons Tryz.func21 Ok.zas ?_
 refine .cons Tryz.func22 Ok.zcj ?_
 refine .cons Tryz.func23 Ok.zaX ?_
 refine .cons Tryz.func24 Ok.zcn ?_
 refine .cons Tryz.func25 Ok.zdh ?_
 refine .cons Tryz.func26 Ok.zdt ?_
 refine .cons Tryz.func27 Ok.zdi ?_
 refine .cons Tryz.func28 Ok.zdk ?_
 refine .cons Tryz.func29 Ok.zar ?_
 refine .cons Tryz.func30 Ok.zdj ?_
 refine .cons Tryz.func31 Ok.zaC ?_
 refine .cons Tryz.func32 Ok.zdp ?_
 refine .cons Tryz.func33 Ok.zdr ?_
 refine .cons Tryz.func34 Ok.zch ?_
 refine .cons Tryz.func35 Ok.zcd ?_
 refine .cons Tryz.func36 Ok.zap ?_
 refine .cons Tryz.func37 Ok.zcy ?_
 refine .cons Tryz.func38 Ok.zao ?_
 refine .cons Tryz.func39 Ok.zco ?_
 refine .cons Tryz.func40 Ok.zaD ?_
 refine .cons Tryz.func41 Ok.zce ?_
 refine .cons Tryz.func42 Ok.zbO ?_
 refine .cons Tryz.func43 Ok.zci ?_
 refine .cons Tryz.func44 Ok.zcf ?_
 refine .cons Tryz.func45 Ok.zcO ?_
 refine .cons Tryz.func46 Ok.zaJ ?_
 refine .cons Tryz.func47 Ok.zaH ?_
 refine .cons Tryz.func48 Ok.zbt ?_
 refine .cons Tryz.func49 Ok.zbr ?_
 refine .cons Tryz.func50 Ok.zdm ?_
 refine .cons Tryz.func51 Ok.zbs ?_
 refine .cons Tryz.func52 Ok.zbk ?_
 refine .cons Tryz.func53 Ok.zcb ?_
 refine .cons Tryz.func54 Ok.zbK ?_
 refine .cons Tryz.func55 Ok.zaa ?_
 refine .cons Tryz.func56 Ok.zaI ?_
 refine .cons Tryz.func57 Ok.zck ?_
 refine .cons Tryz.func58 Ok.zcl ?_
 refine .cons Tryz.func59 Ok.zcz ?_
 refine .cons Tryz.func60 Ok.zcQ ?_
 refine .cons Tryz.func61 Ok.zcv ?_
 refine .cons Tryz.func62 Ok.zcZ ?_
 refine .cons Tryz.func63 Ok.zbW ?_
 refine .cons Tryz.func64 Ok.zbX ?_
 refine .cons Tryz.func65 Ok.zbV ?_
 refine .cons Tryz.func66 Ok.zaR ?_
 refine .cons Tryz.func67 Ok.zcg ?_
 refine .cons Tryz.func68 Ok.zaL ?_
 refine .cons Tryz.func69 Ok.zaT ?_
 refine .cons Tryz.func70 Ok.zaP ?_
 refine .cons Tryz.func71 Ok.zaO ?_
 refine .cons Tryz.func72 Ok.zaN ?_
 refine .cons Tryz.func73 Ok.zaQ ?_
 refine .cons Tryz.func74 Ok.zaM ?_
 refine .cons Tryz.func75 Ok.zaV ?_
 refine .cons Tryz.func76 Ok.zaW ?_
 refine .cons Tryz.func77 Ok.zcc ?_
 refine .cons Tryz.func78 Ok.zak ?_
 refine .cons Tryz.func79 Ok.zbH ?_
 refine .cons Tryz.func80 Ok.zcH ?_
 refine .cons Tryz.func81 Ok.zdB ?_
 refine .cons Tryz.func82 Ok.zcs ?_
 refine .cons Tryz.func83 Ok.zct ?_
 refine .cons Tryz.func84 Ok.zbp ?_
 refine .cons Tryz.func85 Ok.zbz ?_
 refine .cons Tryz.func86 Ok.zaY ?_
 refine .cons Tryz.func87 Ok.zcS ?_
 refine .cons Tryz.func88 Ok.zcR ?_
 refine .cons Tryz.func89 Ok.zcA ?_
 refine .cons Tryz.func90 Ok.zcw ?_
 refine .cons Tryz.func91 Ok.zcx ?_
 refine .cons Tryz.func92 Ok.zcB ?_
 refine .cons Tryz.func93 Ok.zbR ?_
 refine .cons Tryz.func94 Ok.zbA ?_
 refine .cons Tryz.func95 Ok.zca ?_
 refine .cons Tryz.func96 Ok.zbU ?_
 refine .cons Tryz.func97 Ok.zbZ ?_
 refine .cons Tryz.func98 Ok.zbT ?_
 refine .cons Tryz.func99 Ok.zaU ?_
 refine .cons Tryz.func100 Ok.zaS ?_
 refine .cons Tryz.func101 Ok.zbb ?_
 refine .cons Tryz.func102 Ok.zbd ?_
 refine .cons Tryz.func103 Ok.zbv ?_
 refine .cons Tryz.func104 Ok.zda ?_
 refine .cons Tryz.func105 Ok.zbJ ?_
 refine .cons Tryz.func106 Ok.zcu ?_
 refine .cons Tryz.func107 Ok.zbi ?_
 refine .cons Tryz.func108 Ok.zbl ?_
 refine .cons Tryz.func109 Ok.zbC ?_
 refine .cons Tryz.func110 Ok.zbB ?_
 refine .cons Tryz.func111 Ok.zbw ?_
 refine .cons Tryz.func112 Ok.zbq ?_
 refine .cons Tryz.func113 Ok.zcP ?_
 refine .cons Tryz.func114 Ok.zcT ?_
 refine .cons Tryz.func115 Ok.zcD ?_
 refine .cons Tryz.func116 Ok.zbY ?_
 refine .cons Tryz.func117 Ok.zbx ?_
 refine .cons Tryz.func118 Ok.zby ?_
 refine .cons Tryz.func119 Ok.zaK ?_
 refine .cons Tryz.func120 Ok.zbo ?_
 refine .cons Tryz.func121 Ok.zbc ?_
 refine .cons Tryz.func122 Ok.zbe ?_
 refine .cons Tryz.func123 Ok.zbN ?_
 refine .cons Tryz.func124 Ok.zbL ?_
 refine .cons Tryz.func125 Ok.zbj ?_
 refine .cons Tryz.func126 Ok.zbm ?_
 refine .cons Tryz.func127 Ok.zcW ?_
 refine .cons Tryz.func128 Ok.zaF ?_
 refine .cons Tryz.func129 Ok.zaE ?_
 refine .cons Tryz.func130 Ok.zcC ?_
 refine .cons Tryz.func131 Ok.zbu ?_
 refine .cons Tryz.func132 Ok.zbh ?_
 refine .cons Tryz.func133 Ok.zbM ?_
 refine .cons Tryz.func134 Ok.zbI ?_
 refine .cons Tryz.func135 Ok.zcU ?_
 refine .cons Tryz.func136 Ok.zcY ?_
 refine .cons Tryz.func137 Ok.zaG ?_
 refine .cons Tryz.func138 Ok.zbn ?_
 refine .cons Tryz.func139 Ok.zcV ?_
 refine .cons Tryz.func140 Ok.zcX ?_
 refine .cons Tryz.func156 Ok.zat ?_
 refine .cons Tryz.func157 Ok.zau ?_
 refine .cons Tryz.func158 Ok.zav ?_
 refine .cons Tryz.func159 Ok.zay ?_
 refine .cons Tryz.func160 Ok.zaA ?_
 refine .cons Tryz.func161 Ok.zaB ?_
 refine .cons Tryz.func163 Ok.zab ?_
 refine .cons Tryz.func164 Ok.zag ?_
 refine .cons Tryz.func165 Ok.zaj ?_
 refine .cons Tryz.func166 Ok.zae ?_
 refine .cons Tryz.func167 Ok.zdd ?_
 refine .cons Tryz.func168 Ok.zac ?_
 refine .cons Tryz.func169 Ok.zaf ?_
 refine .cons Tryz.func170 Ok.zah ?_
 refine .cons Tryz.func171 Ok.zai ?_
 refine .cons Tryz.func172 Ok.zdc ?_
 refine .cons Tryz.func173 Ok.zad ?_
 refine .cons Tryz.func174 Ok.zdb ?_
 refine .cons Tryz.func175 Ok.zdf ?_
 refine .cons Tryz.func176 Ok.zbQ ?_
 refine .cons Tryz.func177 Ok.zdg ?_
 refine .cons Tryz.func178 Ok.zde ?_
 refine .cons Tryz.func179 Ok.zbP ?_
 refine .cons Tryz.func180 Ok.zbS ?_
 refine .cons Tryz.func182 Ok.zbD ?_
 refine .cons Tryz.func183 Ok.zbF ?_
 refine .cons Tryz.func184 Ok.zbG ?_
 refine .cons Tryz.func185 Ok.zbE ?_
 refine .cons Tryz.func186 Ok.zbf ?_
 refine .cons Tryz.func187 Ok.zbg ?_
 refine .cons Tryz.func188 Ok.zcE ?_
 refine .cons Tryz.func189 Ok.zcF ?_
 refine .cons Tryz.func190 Ok.zcG ?_
 refine .cons Tryz.func192 Ok.zdu ?_
 refine .cons Tryz.func193 Ok.zdz ?_
 refine .cons Tryz.func194 Ok.zdv ?_
 refine .cons Tryz.func195 Ok.zdw ?_
 refine .cons Tryz.func196 Ok.zdy ?_
 refine .cons Tryz.func197 Ok.zdx ?_
 refine .cons Tryz.func198 Ok.zaZ ?_
 refine .cons Tryz.func199 Ok.zdA ?_
 refine .cons Tryz.func200 Ok.zba ?_
 refine .cons Tryz.func201 Ok.zcp ?_
 refine .cons Tryz.func202 Ok.zcr ?_
 refine .cons Tryz.func203 Ok.zcq ?_
 refine .cons Tryz.func204 Ok.zdl ?_
 exact .nil
end Go.Proofs.YtdinebegmppnoabGreat

