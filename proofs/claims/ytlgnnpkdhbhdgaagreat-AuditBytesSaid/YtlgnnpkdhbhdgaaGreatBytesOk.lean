/- The texts of this seat are its functions' translations. -/
import Derived.Test.YtlgnnpkdhbhdgaaGreatBytesIr
import Derived.Test.YtlgnnpkdhbhdgaaGreatProg
import Derived.KernelRfl
set_option linter.unusedVariables false
set_option linter.unusedSimpArgs false

namespace Go.Proofs.YtlgnnpkdhbhdgaaGreat
open Go Go.Ir

theorem Ok.zcI:qbF Tryz.prog Tryz.f5 ⟨[3],false,[[2,3,7,9],[3,7,10,11]]⟩=some F.zcI:=by kernel_rfl
theorem Ok.zdl:qbF Tryz.prog Tryz.f7 ⟨[],false,[[0,1,2,3,9,10]]⟩=some F.zdl:=by kernel_rfl
theorem Ok.zcX:qbF Tryz.prog Tryz.f8 ⟨[1],true,[]⟩=some F.zcX:=by kernel_rfl
theorem Ok.zcJ:qbF Tryz.prog Tryz.f9 ⟨[1],false,[[1,2,4]]⟩=some F.zcJ:=by kernel_rfl
theorem Ok.zdN:qbF Tryz.prog Tryz.f10 ⟨[2,6],false,[[1,2,8,43,44]]⟩=some F.zdN:=by kernel_rfl
theorem Ok.zdS:qbF Tryz.prog Tryz.f11 ⟨[],false,[]⟩=some F.zdS:=by kernel_rfl
theorem Ok.zaq:qbF Tryz.prog Tryz.f12 ⟨[3],false,[]⟩=some F.zaq:=by kernel_rfl
theorem Ok.zan:qbF Tryz.prog Tryz.f16 ⟨[3,10],false,[[7,8,17,18,19]]⟩=some F.zan:=by kernel_rfl
theorem Ok.zdO:qbF Tryz.prog Tryz.f17 ⟨[],false,[]⟩=some F.zdO:=by kernel_rfl
theorem Ok.zdn:qbF Tryz.prog Tryz.f18 ⟨[3,8],true,[[0,3,6,7]]⟩=some F.zdn:=by kernel_rfl
theorem Ok.zdh:qbF Tryz.prog Tryz.f21 ⟨[],true,[[0,1,5]]⟩=some F.zdh:=by kernel_rfl
theorem Ok.zcL:qbF Tryz.prog Tryz.f22 ⟨[],true,[[0,3,4]]⟩=some F.zcL:=by kernel_rfl
theorem Ok.zcK:qbF Tryz.prog Tryz.f23 ⟨[],false,[[0,3,4],[0,3,5]]⟩=some F.zcK:=by kernel_rfl
theorem Ok.zcM:qbF Tryz.prog Tryz.f24 ⟨[],true,[[0,1,5]]⟩=some F.zcM:=by kernel_rfl
theorem Ok.zal:qbF Tryz.prog Tryz.f25 ⟨[4,9,13],false,[[0,2,9,11,26,27,28],[0,2,9,11,13,26,27,28,44,45]]⟩=some F.zal:=by kernel_rfl
theorem Ok.zdm:qbF Tryz.prog Tryz.f26 ⟨[4],false,[[0,2,4,7,8,10],[0,2,4,7,8,10,11]]⟩=some F.zdm:=by kernel_rfl
theorem Ok.zdQ:qbF Tryz.prog Tryz.f27 ⟨[],false,[[3,14,15,16]]⟩=some F.zdQ:=by kernel_rfl
theorem Ok.zax:qbF Tryz.prog Tryz.f28 ⟨[],false,[]⟩=some F.zax:=by kernel_rfl
theorem Ok.zaw:qbF Tryz.prog Tryz.f29 ⟨[],false,[]⟩=some F.zaw:=by kernel_rfl
theorem Ok.zaz:qbF Tryz.prog Tryz.f30 ⟨[],false,[]⟩=some F.zaz:=by kernel_rfl
theorem Ok.zam:qbF Tryz.prog Tryz.f31 ⟨[1,5,11,12],false,[[1,3,7,8,9,38,39,40]]⟩=some F.zam:=by kernel_rfl
theorem Ok.zcm:qbF Tryz.prog Tryz.f32 ⟨[1,2],true,[]⟩=some F.zcm:=by kernel_rfl
theorem Ok.zas:qbF Tryz.prog Tryz.f33 ⟨[],false,[]⟩=some F.zas:=by kernel_rfl
theorem Ok.zcj:qbF Tryz.prog Tryz.f34 ⟨[1],true,[]⟩=some F.zcj:=by kernel_rfl
theorem Ok.zaX:qbF Tryz.prog Tryz.f35 ⟨[1,3],false,[]⟩=some F.zaX:=by kernel_rfl
theorem Ok.zcn:qbF Tryz.prog Tryz.f36 ⟨[3,5],false,[[0,5,38,39],[0,5,8,9]]⟩=some F.zcn:=by kernel_rfl
theorem Ok.zdH:qbF Tryz.prog Tryz.f37 ⟨[3,8],false,[]⟩=some F.zdH:=by kernel_rfl
theorem Ok.zdT:qbF Tryz.prog Tryz.f38 ⟨[2],false,[]⟩=some F.zdT:=by kernel_rfl
theorem Ok.zdI:qbF Tryz.prog Tryz.f39 ⟨[],false,[]⟩=some F.zdI:=by kernel_rfl
theorem Ok.zdK:qbF Tryz.prog Tryz.f40 ⟨[5],false,[]⟩=some F.zdK:=by kernel_rfl
theorem Ok.zdP:qbF Tryz.prog Tryz.f41 ⟨[2],false,[]⟩=some F.zdP:=by kernel_rfl
theorem Ok.zdR:qbF Tryz.prog Tryz.f42 ⟨[2],false,[]⟩=some F.zdR:=by kernel_rfl
theorem Ok.zar:qbF Tryz.prog Tryz.f49 ⟨[3,6,10],false,[[0,6,8,33,34]]⟩=some F.zar:=by kernel_rfl
theorem Ok.zcY:qbF Tryz.prog Tryz.f50 ⟨[1],true,[]⟩=some F.zcY:=by kernel_rfl
theorem Ok.zcO:qbF Tryz.prog Tryz.f51 ⟨[2,4],true,[]⟩=some F.zcO:=by kernel_rfl
theorem Ok.zcW:qbF Tryz.prog Tryz.f52 ⟨[3],true,[]⟩=some F.zcW:=by kernel_rfl
theorem Ok.zcP:qbF Tryz.prog Tryz.f53 ⟨[],true,[[0]]⟩=some F.zcP:=by kernel_rfl
theorem Ok.zcQ:qbF Tryz.prog Tryz.f58 ⟨[],false,[]⟩=some F.zcQ:=by kernel_rfl
theorem Ok.zaA:qbF Tryz.prog Tryz.f59 ⟨[],false,[]⟩=some F.zaA:=by kernel_rfl
theorem Ok.zau:qbF Tryz.prog Tryz.f60 ⟨[],false,[]⟩=some F.zau:=by kernel_rfl
theorem Ok.zat:qbF Tryz.prog Tryz.f61 ⟨[],false,[]⟩=some F.zat:=by kernel_rfl
theorem Ok.zch:qbF Tryz.prog Tryz.f62 ⟨[2],true,[]⟩=some F.zch:=by kernel_rfl
theorem Ok.zcR:qbF Tryz.prog Tryz.f63 ⟨[],false,[]⟩=some F.zcR:=by kernel_rfl
theorem Ok.zdJ:qbF Tryz.prog Tryz.f64 ⟨[],false,[]⟩=some F.zdJ:=by kernel_rfl
theorem Ok.zaC:qbF Tryz.prog Tryz.f65 ⟨[],false,[]⟩=some F.zaC:=by kernel_rfl
theorem Ok.zcd:qbF Tryz.prog Tryz.f66 ⟨[1],true,[]⟩=some F.zcd:=by kernel_rfl
theorem Ok.zap:qbF Tryz.prog Tryz.f67 ⟨[2,3,4,6,7],true,[]⟩=some F.zap:=by kernel_rfl
theorem Ok.zcy:qbF Tryz.prog Tryz.f68 ⟨[],true,[]⟩=some F.zcy:=by kernel_rfl
theorem Ok.zao:qbF Tryz.prog Tryz.f69 ⟨[2,5,9],false,[[2,5,7,18,19,20],[7,32,33,34]]⟩=some F.zao:=by kernel_rfl
theorem Ok.zco:qbF Tryz.prog Tryz.f70 ⟨[],true,[]⟩=some F.zco:=by kernel_rfl
theorem Ok.zaD:qbF Tryz.prog Tryz.f71 ⟨[],true,[]⟩=some F.zaD:=by kernel_rfl
theorem Ok.zce:qbF Tryz.prog Tryz.f72 ⟨[2],true,[]⟩=some F.zce:=by kernel_rfl
theorem Ok.zbO:qbF Tryz.prog Tryz.f73 ⟨[],true,[]⟩=some F.zbO:=by kernel_rfl
theorem Ok.zci:qbF Tryz.prog Tryz.f74 ⟨[1],true,[]⟩=some F.zci:=by kernel_rfl
theorem Ok.zcf:qbF Tryz.prog Tryz.f75 ⟨[2],true,[]⟩=some F.zcf:=by kernel_rfl
theorem Ok.zdo:qbF Tryz.prog Tryz.f76 ⟨[],false,[]⟩=some F.zdo:=by kernel_rfl
theorem Ok.zaJ:qbF Tryz.prog Tryz.f77 ⟨[4],false,[]⟩=some F.zaJ:=by kernel_rfl
theorem Ok.zaH:qbF Tryz.prog Tryz.f78 ⟨[],false,[]⟩=some F.zaH:=by kernel_rfl
theorem Ok.zbt:qbF Tryz.prog Tryz.f79 ⟨[2,5],false,[]⟩=some F.zbt:=by kernel_rfl
theorem Ok.zbr:qbF Tryz.prog Tryz.f80 ⟨[],false,[]⟩=some F.zbr:=by kernel_rfl
theorem Ok.zdM:qbF Tryz.prog Tryz.f81 ⟨[2,3],false,[]⟩=some F.zdM:=by kernel_rfl
theorem Ok.zbs:qbF Tryz.prog Tryz.f82 ⟨[4,6],false,[]⟩=some F.zbs:=by kernel_rfl
theorem Ok.zaI:qbF Tryz.prog Tryz.f83 ⟨[2,4],false,[]⟩=some F.zaI:=by kernel_rfl
theorem Ok.zbk:qbF Tryz.prog Tryz.f98 ⟨[2,6,7],true,[[0,2,4,15,16]]⟩=some F.zbk:=by kernel_rfl
theorem Ok.zcb:qbF Tryz.prog Tryz.f99 ⟨[2],true,[]⟩=some F.zcb:=by kernel_rfl
theorem Ok.zbK:qbF Tryz.prog Tryz.f100 ⟨[],true,[[0]]⟩=some F.zbK:=by kernel_rfl
theorem Ok.zcN:qbF Tryz.prog Tryz.f101 ⟨[1],true,[]⟩=some F.zcN:=by kernel_rfl
theorem Ok.zaB:qbF Tryz.prog Tryz.f106 ⟨[],false,[]⟩=some F.zaB:=by kernel_rfl
theorem Ok.zck:qbF Tryz.prog Tryz.f107 ⟨[3],true,[]⟩=some F.zck:=by kernel_rfl
theorem Ok.zaa:qbF Tryz.prog Tryz.f108 ⟨[],false,[]⟩=some F.zaa:=by kernel_rfl
theorem Ok.zcl:qbF Tryz.prog Tryz.f109 ⟨[2],true,[]⟩=some F.zcl:=by kernel_rfl
theorem Ok.zcz:qbF Tryz.prog Tryz.f110 ⟨[2],true,[]⟩=some F.zcz:=by kernel_rfl
theorem Ok.zdq:qbF Tryz.prog Tryz.f111 ⟨[],true,[]⟩=some F.zdq:=by kernel_rfl
theorem Ok.zcv:qbF Tryz.prog Tryz.f112 ⟨[],true,[[3,9,10,11]]⟩=some F.zcv:=by kernel_rfl
theorem Ok.zdz:qbF Tryz.prog Tryz.f113 ⟨[3],false,[[0,3,5,6,24,25]]⟩=some F.zdz:=by kernel_rfl
theorem Ok.zbW:qbF Tryz.prog Tryz.f114 ⟨[],true,[]⟩=some F.zbW:=by kernel_rfl
theorem Ok.zbX:qbF Tryz.prog Tryz.f115 ⟨[],true,[]⟩=some F.zbX:=by kernel_rfl
theorem Ok.zbV:qbF Tryz.prog Tryz.f116 ⟨[],true,[]⟩=some F.zbV:=by kernel_rfl
theorem Ok.zaR:qbF Tryz.prog Tryz.f117 ⟨[4],false,[]⟩=some F.zaR:=by kernel_rfl
theorem Ok.zcg:qbF Tryz.prog Tryz.f118 ⟨[1],true,[]⟩=some F.zcg:=by kernel_rfl
theorem Ok.zaL:qbF Tryz.prog Tryz.f119 ⟨[2],false,[]⟩=some F.zaL:=by kernel_rfl
theorem Ok.zaT:qbF Tryz.prog Tryz.f120 ⟨[4,6],false,[]⟩=some F.zaT:=by kernel_rfl
theorem Ok.zaP:qbF Tryz.prog Tryz.f121 ⟨[4],false,[]⟩=some F.zaP:=by kernel_rfl
theorem Ok.zaO:qbF Tryz.prog Tryz.f122 ⟨[4,6,7],false,[]⟩=some F.zaO:=by kernel_rfl
theorem Ok.zaN:qbF Tryz.prog Tryz.f123 ⟨[4],false,[]⟩=some F.zaN:=by kernel_rfl
theorem Ok.zaQ:qbF Tryz.prog Tryz.f124 ⟨[2],false,[]⟩=some F.zaQ:=by kernel_rfl
theorem Ok.zaM:qbF Tryz.prog Tryz.f125 ⟨[4],false,[]⟩=some F.zaM:=by kernel_rfl
theorem Ok.zaV:qbF Tryz.prog Tryz.f126 ⟨[4],false,[]⟩=some F.zaV:=by kernel_rfl
theorem Ok.zaW:qbF Tryz.prog Tryz.f127 ⟨[4],false,[]⟩=some F.zaW:=by kernel_rfl
theorem Ok.zcc:qbF Tryz.prog Tryz.f128 ⟨[1],true,[]⟩=some F.zcc:=by kernel_rfl
theorem Ok.zak:qbF Tryz.prog Tryz.f129 ⟨[2,5],false,[]⟩=some F.zak:=by kernel_rfl
theorem Ok.zbH:qbF Tryz.prog Tryz.f130 ⟨[2,5],false,[]⟩=some F.zbH:=by kernel_rfl
theorem Ok.zcH:qbF Tryz.prog Tryz.f131 ⟨[3,7],false,[]⟩=some F.zcH:=by kernel_rfl
theorem Ok.zeb:qbF Tryz.prog Tryz.f132 ⟨[4,9],false,[]⟩=some F.zeb:=by kernel_rfl
theorem Ok.zcs:qbF Tryz.prog Tryz.f133 ⟨[2],false,[]⟩=some F.zcs:=by kernel_rfl
theorem Ok.zct:qbF Tryz.prog Tryz.f134 ⟨[2],false,[]⟩=some F.zct:=by kernel_rfl
theorem Ok.zbp:qbF Tryz.prog Tryz.f154 ⟨[0],true,[]⟩=some F.zbp:=by kernel_rfl
theorem Ok.zbz:qbF Tryz.prog Tryz.f155 ⟨[3],true,[]⟩=some F.zbz:=by kernel_rfl
theorem Ok.zaY:qbF Tryz.prog Tryz.f156 ⟨[1],true,[]⟩=some F.zaY:=by kernel_rfl
theorem Ok.zds:qbF Tryz.prog Tryz.f160 ⟨[],true,[[0,1,7,8]]⟩=some F.zds:=by kernel_rfl
theorem Ok.zdr:qbF Tryz.prog Tryz.f161 ⟨[7],false,[[0,1,5,6]]⟩=some F.zdr:=by kernel_rfl
theorem Ok.zcA:qbF Tryz.prog Tryz.f162 ⟨[],true,[]⟩=some F.zcA:=by kernel_rfl
theorem Ok.zcw:qbF Tryz.prog Tryz.f163 ⟨[1],true,[]⟩=some F.zcw:=by kernel_rfl
theorem Ok.zcx:qbF Tryz.prog Tryz.f164 ⟨[2],true,[]⟩=some F.zcx:=by kernel_rfl
theorem Ok.zcB:qbF Tryz.prog Tryz.f165 ⟨[2,3],true,[]⟩=some F.zcB:=by kernel_rfl
theorem Ok.zbR:qbF Tryz.prog Tryz.f166 ⟨[],true,[]⟩=some F.zbR:=by kernel_rfl
theorem Ok.zbA:qbF Tryz.prog Tryz.f167 ⟨[4],true,[]⟩=some F.zbA:=by kernel_rfl
theorem Ok.zca:qbF Tryz.prog Tryz.f168 ⟨[0],true,[]⟩=some F.zca:=by kernel_rfl
theorem Ok.zbU:qbF Tryz.prog Tryz.f169 ⟨[],true,[]⟩=some F.zbU:=by kernel_rfl
theorem Ok.zbZ:qbF Tryz.prog Tryz.f170 ⟨[0],true,[]⟩=some F.zbZ:=by kernel_rfl
theorem Ok.zbT:qbF Tryz.prog Tryz.f171 ⟨[],true,[]⟩=some F.zbT:=by kernel_rfl
theorem Ok.zaU:qbF Tryz.prog Tryz.f172 ⟨[2],false,[]⟩=some F.zaU:=by kernel_rfl
theorem Ok.zaS:qbF Tryz.prog Tryz.f173 ⟨[2],false,[]⟩=some F.zaS:=by kernel_rfl
theorem Ok.zbb:qbF Tryz.prog Tryz.f174 ⟨[],true,[]⟩=some F.zbb:=by kernel_rfl
theorem Ok.zbd:qbF Tryz.prog Tryz.f175 ⟨[],true,[]⟩=some F.zbd:=by kernel_rfl
theorem Ok.zbv:qbF Tryz.prog Tryz.f176 ⟨[],false,[]⟩=some F.zbv:=by kernel_rfl
theorem Ok.zdA:qbF Tryz.prog Tryz.f177 ⟨[1],false,[]⟩=some F.zdA:=by kernel_rfl
theorem Ok.zbJ:qbF Tryz.prog Tryz.f178 ⟨[],true,[]⟩=some F.zbJ:=by kernel_rfl
theorem Ok.zcu:qbF Tryz.prog Tryz.f179 ⟨[4,9],false,[]⟩=some F.zcu:=by kernel_rfl
theorem Ok.zbi:qbF Tryz.prog Tryz.f180 ⟨[],true,[]⟩=some F.zbi:=by kernel_rfl
theorem Ok.zbl:qbF Tryz.prog Tryz.f181 ⟨[],true,[]⟩=some F.zbl:=by kernel_rfl
theorem Ok.zbC:qbF Tryz.prog Tryz.f207 ⟨[],true,[]⟩=some F.zbC:=by kernel_rfl
theorem Ok.zbB:qbF Tryz.prog Tryz.f208 ⟨[3],true,[]⟩=some F.zbB:=by kernel_rfl
theorem Ok.zbw:qbF Tryz.prog Tryz.f209 ⟨[1],true,[]⟩=some F.zbw:=by kernel_rfl
theorem Ok.zbq:qbF Tryz.prog Tryz.f210 ⟨[],true,[]⟩=some F.zbq:=by kernel_rfl
theorem Ok.zdp:qbF Tryz.prog Tryz.f213 ⟨[],true,[]⟩=some F.zdp:=by kernel_rfl
theorem Ok.zdt:qbF Tryz.prog Tryz.f214 ⟨[],false,[]⟩=some F.zdt:=by kernel_rfl
theorem Ok.zcD:qbF Tryz.prog Tryz.f215 ⟨[2,3],true,[]⟩=some F.zcD:=by kernel_rfl
theorem Ok.zbY:qbF Tryz.prog Tryz.f216 ⟨[],true,[]⟩=some F.zbY:=by kernel_rfl
theorem Ok.zbx:qbF Tryz.prog Tryz.f217 ⟨[1],true,[]⟩=some F.zbx:=by kernel_rfl
theorem Ok.zby:qbF Tryz.prog Tryz.f218 ⟨[1],true,[]⟩=some F.zby:=by kernel_rfl
theorem Ok.zaK:qbF Tryz.prog Tryz.f219 ⟨[2],false,[]⟩=some F.zaK:=by kernel_rfl
theorem Ok.zbo:qbF Tryz.prog Tryz.f220 ⟨[],false,[]⟩=some F.zbo:=by kernel_rfl
theorem Ok.zbc:qbF Tryz.prog Tryz.f221 ⟨[],false,[]⟩=some F.zbc:=by kernel_rfl
theorem Ok.zbe:qbF Tryz.prog Tryz.f222 ⟨[],false,[]⟩=some F.zbe:=by kernel_rfl
theorem Ok.zbN:qbF Tryz.prog Tryz.f223 ⟨[],true,[]⟩=some F.zbN:=by kernel_rfl
theorem Ok.zbL:qbF Tryz.prog Tryz.f224 ⟨[],true,[]⟩=some F.zbL:=by kernel_rfl
theorem Ok.zbj:qbF Tryz.prog Tryz.f225 ⟨[],false,[]⟩=some F.zbj:=by kernel_rfl
theorem Ok.zbm:qbF Tryz.prog Tryz.f226 ⟨[],false,[]⟩=some F.zbm:=by kernel_rfl
theorem Ok.zdw:qbF Tryz.prog Tryz.f238 ⟨[],false,[[0,1,2,6,7,8],[0,1,2,6],[0,1,2,6,7,8]]⟩=some F.zdw:=by kernel_rfl
theorem Ok.zaF:qbF Tryz.prog Tryz.f239 ⟨[],true,[[3,6,7,8]]⟩=some F.zaF:=by kernel_rfl
theorem Ok.zaE:qbF Tryz.prog Tryz.f240 ⟨[],true,[]⟩=some F.zaE:=by kernel_rfl
theorem Ok.zcC:qbF Tryz.prog Tryz.f241 ⟨[],true,[]⟩=some F.zcC:=by kernel_rfl
theorem Ok.zbu:qbF Tryz.prog Tryz.f242 ⟨[1,3],false,[]⟩=some F.zbu:=by kernel_rfl
theorem Ok.zbh:qbF Tryz.prog Tryz.f243 ⟨[1],true,[[4,24,25]]⟩=some F.zbh:=by kernel_rfl
theorem Ok.zbM:qbF Tryz.prog Tryz.f244 ⟨[],true,[]⟩=some F.zbM:=by kernel_rfl
theorem Ok.zbI:qbF Tryz.prog Tryz.f245 ⟨[],true,[]⟩=some F.zbI:=by kernel_rfl
theorem Ok.zdu:qbF Tryz.prog Tryz.f248 ⟨[],false,[[0,1,2,3,8],[0,1,2,3,8,9]]⟩=some F.zdu:=by kernel_rfl
theorem Ok.zdy:qbF Tryz.prog Tryz.f249 ⟨[],false,[[0,1,4,10,11],[0,10,13],[0,2,4,14,15],[0,14,17],[0,1,2,3,4,18,19,20,21,22]]⟩=some F.zdy:=by kernel_rfl
theorem Ok.zaG:qbF Tryz.prog Tryz.f250 ⟨[],true,[]⟩=some F.zaG:=by kernel_rfl
theorem Ok.zbn:qbF Tryz.prog Tryz.f251 ⟨[],true,[]⟩=some F.zbn:=by kernel_rfl
theorem Ok.zdv:qbF Tryz.prog Tryz.f253 ⟨[],false,[[0,2,4,10,11]]⟩=some F.zdv:=by kernel_rfl
theorem Ok.zdx:qbF Tryz.prog Tryz.f254 ⟨[],false,[[0,1,2,3,10]]⟩=some F.zdx:=by kernel_rfl
theorem Ok.zav:qbF Tryz.prog Tryz.f270 ⟨[],false,[]⟩=some F.zav:=by kernel_rfl
theorem Ok.zay:qbF Tryz.prog Tryz.f271 ⟨[],false,[]⟩=some F.zay:=by kernel_rfl
theorem Ok.zab:qbF Tryz.prog Tryz.f275 ⟨[4],false,[]⟩=some F.zab:=by kernel_rfl
theorem Ok.zag:qbF Tryz.prog Tryz.f276 ⟨[],false,[]⟩=some F.zag:=by kernel_rfl
theorem Ok.zaj:qbF Tryz.prog Tryz.f277 ⟨[],false,[]⟩=some F.zaj:=by kernel_rfl
theorem Ok.zae:qbF Tryz.prog Tryz.f278 ⟨[],false,[]⟩=some F.zae:=by kernel_rfl
theorem Ok.zdD:qbF Tryz.prog Tryz.f279 ⟨[],false,[]⟩=some F.zdD:=by kernel_rfl
theorem Ok.zac:qbF Tryz.prog Tryz.f280 ⟨[],false,[]⟩=some F.zac:=by kernel_rfl
theorem Ok.zaf:qbF Tryz.prog Tryz.f281 ⟨[4],false,[]⟩=some F.zaf:=by kernel_rfl
theorem Ok.zah:qbF Tryz.prog Tryz.f282 ⟨[],false,[]⟩=some F.zah:=by kernel_rfl
theorem Ok.zai:qbF Tryz.prog Tryz.f283 ⟨[2],false,[]⟩=some F.zai:=by kernel_rfl
theorem Ok.zdC:qbF Tryz.prog Tryz.f284 ⟨[],false,[]⟩=some F.zdC:=by kernel_rfl
theorem Ok.zad:qbF Tryz.prog Tryz.f285 ⟨[],false,[]⟩=some F.zad:=by kernel_rfl
theorem Ok.zdB:qbF Tryz.prog Tryz.f286 ⟨[2],false,[]⟩=some F.zdB:=by kernel_rfl
theorem Ok.zdF:qbF Tryz.prog Tryz.f287 ⟨[],false,[]⟩=some F.zdF:=by kernel_rfl
theorem Ok.zbQ:qbF Tryz.prog Tryz.f288 ⟨[],true,[]⟩=some F.zbQ:=by kernel_rfl
theorem Ok.zdG:qbF Tryz.prog Tryz.f289 ⟨[],false,[]⟩=some F.zdG:=by kernel_rfl
theorem Ok.zdE:qbF Tryz.prog Tryz.f290 ⟨[],false,[]⟩=some F.zdE:=by kernel_rfl
theorem Ok.zbP:qbF Tryz.prog Tryz.f291 ⟨[],true,[]⟩=some F.zbP:=by kernel_rfl
theorem Ok.zbS:qbF Tryz.prog Tryz.f292 ⟨[],true,[]⟩=some F.zbS:=by kernel_rfl
theorem Ok.zbD:qbF Tryz.prog Tryz.f295 ⟨[4],false,[]⟩=some F.zbD:=by kernel_rfl
theorem Ok.zbF:qbF Tryz.prog Tryz.f296 ⟨[4,6],false,[]⟩=some F.zbF:=by kernel_rfl
theorem Ok.zbG:qbF Tryz.prog Tryz.f297 ⟨[4],false,[]⟩=some F.zbG:=by kernel_rfl
theorem Ok.zbE:qbF Tryz.prog Tryz.f298 ⟨[4],false,[]⟩=some F.zbE:=by kernel_rfl
theorem Ok.zbf:qbF Tryz.prog Tryz.f299 ⟨[],true,[]⟩=some F.zbf:=by kernel_rfl
theorem Ok.zbg:qbF Tryz.prog Tryz.f300 ⟨[],false,[]⟩=some F.zbg:=by kernel_rfl
theorem Ok.zcE:qbF Tryz.prog Tryz.f301 ⟨[4,6,9],false,[]⟩=some F.zcE:=by kernel_rfl
theorem Ok.zcF:qbF Tryz.prog Tryz.f302 ⟨[3,4],false,[]⟩=some F.zcF:=by kernel_rfl
theorem Ok.zcG:qbF Tryz.prog Tryz.f303 ⟨[4,6],false,[]⟩=some F.zcG:=by kernel_rfl
theorem Ok.zdU:qbF Tryz.prog Tryz.f305 ⟨[4],false,[]⟩=some F.zdU:=by kernel_rfl
theorem Ok.zdZ:qbF Tryz.prog Tryz.f306 ⟨[5],false,[]⟩=some F.zdZ:=by kernel_rfl
theorem Ok.zdV:qbF Tryz.prog Tryz.f307 ⟨[4],false,[]⟩=some F.zdV:=by kernel_rfl
theorem Ok.zdW:qbF Tryz.prog Tryz.f308 ⟨[],false,[]⟩=some F.zdW:=by kernel_rfl
theorem Ok.zdY:qbF Tryz.prog Tryz.f309 ⟨[],false,[]⟩=some F.zdY:=by kernel_rfl
theorem Ok.zdX:qbF Tryz.prog Tryz.f310 ⟨[],false,[]⟩=some F.zdX:=by kernel_rfl
theorem Ok.zaZ:qbF Tryz.prog Tryz.f311 ⟨[],true,[]⟩=some F.zaZ:=by kernel_rfl
theorem Ok.zea:qbF Tryz.prog Tryz.f312 ⟨[],false,[]⟩=some F.zea:=by kernel_rfl
theorem Ok.zba:qbF Tryz.prog Tryz.f313 ⟨[],false,[]⟩=some F.zba:=by kernel_rfl
theorem Ok.zcp:qbF Tryz.prog Tryz.f314 ⟨[4],false,[]⟩=some F.zcp:=by kernel_rfl
theorem Ok.zcr:qbF Tryz.prog Tryz.f315 ⟨[4,6],false,[]⟩=some F.zcr:=by kernel_rfl
theorem Ok.zcq:qbF Tryz.prog Tryz.f316 ⟨[4],false,[]⟩=some F.zcq:=by kernel_rfl
theorem Ok.zdL:qbF Tryz.prog Tryz.f317 ⟨[2,4],false,[]⟩=some F.zdL:=by kernel_rfl

theorem qiT:TblOk Tryz.prog tbl:=by
 unfold tbl
 refine .cons Tryz.func5 Ok.zcI ?_
 refine .cons Tryz.func7 Ok.zdl ?_
 refine .cons Tryz.func8 Ok.zcX ?_
 refine .cons Tryz.func9 Ok.zcJ ?_
 refine .cons Tryz.func10 Ok.zdN ?_
 refine .cons Tryz.func11 Ok.zdS ?_
 refine .cons Tryz.func12 Ok.zaq ?_
 refine .cons Tryz.func16 Ok.zan ?_
 refine .cons Tryz.func17 Ok.zdO ?_
 refine .cons Tryz.func18 Ok.zdn ?_
 refine .cons Tryz.func21 Ok.zdh ?_
 refine .cons Tryz.func22 Ok.zcL ?_
 refine .cons Tryz.func23 Ok.zcK ?_
 refine .cons Tryz.func24 Ok.zcM ?_
 refine .cons Tryz.func25 Ok.zal ?_
 refine .cons Tryz.func26 Ok.zdm ?_
 refine .cons Tryz.func27 Ok.zdQ ?_
 refine .cons Tryz.func28 Ok.zax ?_
 refine .cons Tryz.func29 Ok.zaw ?_
 refine .cons Tryz.func30 Ok.zaz ?_
 refine .cons Tryz.func31 Ok.zam ?_
 refine .cons Tryz.func32 Ok.zcm ?_
 refine .cons Tryz.func33 Ok.zas ?_
 refine .cons Tryz.func34 Ok.zcj ?_
 refine .cons Tryz.func35 Ok.zaX ?_
 refine .cons Tryz.func36 Ok.zcn ?_
 refine .cons Tryz.func37 Ok.zdH ?_
 refine .cons Tryz.func38 Ok.zdT ?_
 refine .cons Tryz.func39 Ok.zdI ?_
 refine .cons Tryz.func40 Ok.zdK ?_
 refine .cons Tryz.func41 Ok.zdP ?_
 refine .cons Tryz.func42 Ok.zdR ?_
 refine .cons Tryz.func49 Ok.zar ?_
 refine .cons Tryz.func50 Ok.zcY ?_
 refine .cons Tryz.func51 Ok.zcO ?_
 refine .cons Tryz.func52 Ok.zcW ?_
 refine .cons Tryz.func53 Ok.zcP ?_
 refine .cons Tryz.func58 Ok.zcQ ?_
 refine .cons Tryz.func59 Ok.zaA ?_
 refine .cons Tryz.func60 Ok.zau ?_
 refine .cons Tryz.func61 Ok.zat ?_
 refine .cons Tryz.func62 Ok.zch ?_
 refine .cons Tryz.func63 Ok.zcR ?_
 refine .cons Tryz.func64 Ok.zdJ ?_
 refine .cons Tryz.func65 Ok.zaC ?_
 refine .cons Tryz.func66 Ok.zcd ?_
 refine .cons Tryz.func67 Ok.zap ?_
 refine .cons Tryz.func68 Ok.zcy ?_
 refine .cons Tryz.func69 Ok.zao ?_
 refine .cons Tryz.func70 Ok.zco ?_
 refine .cons Tryz.func71 Ok.zaD ?_
 refine .cons Tryz.func72 Ok.zce ?_
 refine .cons Tryz.func73 Ok.zbO ?_
 refine .cons Tryz.func74 Ok.zci ?_
 refine .cons Tryz.func75 Ok.zcf ?_
 refine .cons Tryz.func76 Ok.zdo ?_
 refine .cons Tryz.func77 Ok.zaJ ?_
 refine .cons Tryz.func78 Ok.zaH ?_
 refine .cons Tryz.func79 Ok.zbt ?_
 refine .cons Tryz.func80 Ok.zbr ?_
 refine .cons Tryz.func81 Ok.zdM ?_
 refine .cons Tryz.func82 Ok.zbs ?_
 refine .cons Tryz.func83 Ok.zaI ?_
 refine .cons Tryz.func98 Ok.zbk ?_
 refine .cons Tryz.func99 Ok.zcb ?_
 refine .cons Tryz.func100 Ok.zbK ?_
 refine .cons Tryz.func101 Ok.zcN ?_
 refine .cons Tryz.func106 Ok.zaB ?_
 refine .cons Tryz.func107 Ok.zck ?_
 refine .cons Tryz.func108 Ok.zaa ?_
 refine .cons Tryz.func109 Ok.zcl ?_
 refine .cons Tryz.func110 Ok.zcz ?_
 refine .cons Tryz.func111 Ok.zdq ?_
 refine .cons Tryz.func112 Ok.zcv ?_
 refine .cons Tryz.func113 Ok.zdz ?_
 refine .cons Tryz.func114 Ok.zbW ?_
 refine .cons Tryz.func115 Ok.zbX ?_
 refine .cons Tryz.func116 Ok.zbV ?_
 refine .cons Tryz.func117 Ok.zaR ?_
 refine .cons Tryz.func118 Ok.zcg ?_
 refine .cons Tryz.func119 Ok.zaL ?_
 refine .cons Tryz.func120 Ok.zaT ?_
 refine .cons Tryz.func121 Ok.zaP ?_
 refine .cons Tryz.func122 Ok.zaO ?_
 refine .cons Tryz.func123 Ok.zaN ?_
 refine .cons Tryz.func124 Ok.zaQ ?_
 refine .cons Tryz.func125 Ok.zaM ?_
 refine .cons Tryz.func126 Ok.zaV ?_
 refine .cons Tryz.func127 Ok.zaW ?_
 refine .cons Tryz.func128 Ok.zcc ?_
 refine .cons Tryz.func129 Ok.zak ?_
 refine .cons Tryz.func130 Ok.zbH ?_
 refine .cons Tryz.func131 Ok.zcH ?_
 refine .cons Tryz.func132 Ok.zeb ?_
 refine .cons Tryz.func133 Ok.zcs ?_
 refine .cons Tryz.func134 Ok.zct ?_
 refine .cons Tryz.func154 Ok.zbp ?_
 refine .cons Tryz.func155 Ok.zbz ?_
 refine .cons Tryz.func156 Ok.zaY ?_
 refine .cons Tryz.func160 Ok.zds ?_
 refine .cons Tryz.func161 Ok.zdr ?_
 refine .cons Tryz.func162 Ok.zcA ?_
 refine .cons Tryz.func163 Ok.zcw ?_
 refine .cons Tryz.func164 Ok.zcx ?_
 refine .cons Tryz.func165 Ok.zcB ?_
 refine .cons Tryz.func166 Ok.zbR ?_
 refine .cons Tryz.func167 Ok.zbA ?_
 refine .cons Tryz.func168 Ok.zca ?_
 refine .cons Tryz.func169 Ok.zbU ?_
 refine .cons Tryz.func170 Ok.zbZ ?_
 refine .cons Tryz.func171 Ok.zbT ?_
 refine .cons Tryz.func172 Ok.zaU ?_
 refine .cons Tryz.func173 Ok.zaS ?_
 refine .cons Tryz.func174 Ok.zbb ?_
 refine .cons Tryz.func175 Ok.zbd ?_
 refine .cons Tryz.func176 Ok.zbv ?_
 refine .cons Tryz.func177 Ok.zdA ?_
 refine .cons Tryz.func178 Ok.zbJ ?_
 refine .cons Tryz.func179 Ok.zcu ?_
 refine .cons Tryz.func180 Ok.zbi ?_
 refine .cons Tryz.func181 Ok.zbl ?_
 refine .cons Tryz.func207 Ok.zbC ?_
 refine .cons Tryz.func208 Ok.zbB ?_
 refine .cons Tryz.func209 Ok.zbw ?_
 refine .cons Tryz.func210 Ok.zbq ?_
 refine .cons Tryz.func213 Ok.zdp ?_
 refine .cons Tryz.func214 Ok.zdt ?_
 refine .cons Tryz.func215 Ok.zcD ?_
 refine .cons Tryz.func216 Ok.zbY ?_
 refine .cons Tryz.func217 Ok.zbx ?_
 refine .cons Tryz.func218 Ok.zby ?_
 refine .cons Tryz.func219 Ok.zaK ?_
 refine .cons Tryz.func220 Ok.zbo ?_
 refine .cons Tryz.func221 Ok.zbc ?_
 refine .cons Tryz.func222 Ok.zbe ?_
 refine .cons Tryz.func223 Ok.zbN ?_
 refine .cons Tryz.func224 Ok.zbL ?_
 refine .cons Tryz.func225 Ok.zbj ?_
 refine .cons Tryz.func226 Ok.zbm ?_
 refine .cons Tryz.func238 Ok.zdw ?_
 refine .cons Tryz.func239 Ok.zaF ?_
 refine .cons Tryz.func240 Ok.zaE ?_
 refine .cons Tryz.func241 Ok.zcC ?_
 refine .cons Tryz.func242 Ok.zbu ?_
 refine .cons Tryz.func243 Ok.zbh ?_
 refine .cons Tryz.func244 Ok.zbM ?_
 refine .cons Tryz.func245 Ok.zbI ?_
 refine .cons Tryz.func248 Ok.zdu ?_
 refine .cons Tryz.func249 Ok.zdy ?_
 refine .cons Tryz.func250 Ok.zaG ?_
 refine .cons Tryz.func251 Ok.zbn ?_
 refine .cons Tryz.func253 Ok.zdv ?_
 refine .cons Tryz.func254 Ok.zdx ?_
 refine .cons Tryz.func270 Ok.zav ?_
 refine .cons Tryz.func271 Ok.zay ?_
 refine .cons Tryz.func275 Ok.zab ?_
 refine .cons Tryz.func276 Ok.zag ?_
 refine .cons Tryz.func277 Ok.zaj ?_
 refine .cons Tryz.func278 Ok.zae ?_
 refine .cons Tryz.func279 Ok.zdD ?_
 refine .cons Tryz.func280 Ok.zac ?_
 refine .cons Tryz.func281 Ok.zaf ?_
 refine .cons Tryz.func282 Ok.zah ?_
 refine .cons Tryz.func283 Ok.zai ?_
 refine .cons Tryz.func284 Ok.zdC ?_
 refine .cons Tryz.func285 Ok.zad ?_
 refine .cons Tryz.func286 Ok.zdB ?_
 refine .cons Tryz.func287 Ok.zdF ?_
 refine .cons Tryz.func288 Ok.zbQ ?_
 refine .cons Tryz.func289 Ok.zdG ?_
 refine .cons Tryz.func290 Ok.zdE ?_
 refine .cons Tryz.func291 Ok.zbP ?_
 refine .cons Tryz.func292 Ok.zbS ?_
 refine .cons Tryz.func295 Ok.zbD ?_
 refine .cons Tryz.func296 Ok.zbF ?_
 refine .cons Tryz.func297 Ok.zbG ?_
 refine .cons Tryz.func298 Ok.zbE ?_
 refine .cons Tryz.func299 Ok.zbf ?_
 refine .cons Tryz.func300 Ok.zbg ?_
 refine .cons Tryz.func301 Ok.zcE ?_
 refine .cons Tryz.func302 Ok.zcF ?_
 refine .cons Tryz.func303 Ok.zcG ?_
 refine .cons Tryz.func305 Ok.zdU ?_
 refine .cons Tryz.func306 Ok.zdZ ?_
 refine .cons Tryz.func307 Ok.zdV ?_
 refine .cons Tryz.func308 Ok.zdW ?_
 refine .cons Tryz.func309 Ok.zdY ?_
 refine .cons Tryz.func310 Ok.zdX ?_
 refine .cons Tryz.func311 Ok.zaZ ?_
 refine .cons Tryz.func312 Ok.zea ?_
 refine .cons Tryz.func313 Ok.zba ?_
 refine .cons Tryz.func314 Ok.zcp ?_
 refine .cons Tryz.func315 Ok.zcr ?_
 refine .cons Tryz.func316 Ok.zcq ?_
 refine .cons Tryz.func317 Ok.zdL ?_
 exact .nil
end Go.Proofs.YtlgnnpkdhbhdgaaGreat

