/- The document's entries, and sizes rounded. -/
import Derived.Test.YtlgnnpkdhbhdgaaGreatThreadP2
set_option linter.all false
namespace Go.Proofs.YtlgnnpkdhbhdgaaGreat
open Go Go.Ir
def qlK {f:Fr}{call:qaM}{lo:Nat}{h:qab}{x y:Operand}{n k:Nat}{j:IntKind}(hx:ev f x=some (N n))(hy:ev f y=some (.int j (k:Nat)))(hk:k<=62)(hb:n*2 ^ k<2 ^ 62):yf call lo (.bin .shl x y) f h=some (N (n*2 ^ k),h):=by
 simp only [yf,hx,hy,qaq,qap,if_true,qan]
 rw [if_neg (by omega)]
 have:min ((k:Int).toNat) IntKind.i64.bits=k:=by show min _ 64=_;omega
 rw [this,show((n:Int)*2 ^ k)=((n*2 ^ k:Nat):Int) by simp,qis hb]
def qlL {f:Fr}{call:qaM}{lo:Nat}{h:qab}{x y:Operand}{n k q:Nat}{j:IntKind}(hx:ev f x=some (N n))(hy:ev f y=some (.int j (k:Nat)))(hk:k<=62)(hq:n/2 ^ k=q):yf call lo (.bin .shr x y) f h=some (N q,h):=by
 subst hq
 simp only [yf,hx,hy,qaq,qap,if_true,qan]
 rw [if_neg (by omega)]
 have:min ((k:Int).toNat) IntKind.i64.bits=k:=by show min _ 64=_;omega
 rw [this,Int.fdiv_eq_ediv_of_nonneg _ (Int.le_of_lt (Int.pow_pos (by decide)))]
 simp
def qlM {f:Fr}{call:qaM}{lo:Nat}{h:qab}{x y:Operand}{a b r:Nat}(hx:ev f x=some (N a))(hy:ev f y=some (N b))(hb:b≠0)(hr:a%b=r):yf call lo (.bin .rem x y) f h=some (N r,h):=by
 subst hr
 have hb':¬((b:Int)=0):=by omega
 have e1:(a:Int).tmod (b:Int)=((a%b:Nat):Int):=by rw [Int.tmod_eq_emod_of_nonneg (by omega)];rfl
 simp only [yf,hx,hy,qaq,qap,qam,if_true,if_neg hb',e1]
 rfl
section
variable {E:Env}{lo:Nat}{os:List IOper}{f:Fr}{h:qab}{hs:List qab}{k:List Ir.Item}{rs:List qaj}{Q:Value->qab->Prop}{d:Nat}{g:Option (Nat×Bool)}{x y:Operand}
def qlN {n k' q:Nat}{j:IntKind}(hq:n/2 ^ k'=q)(hw:want g f=some true)(hx:ev f x=some (N n))(hy:ev f y=some (.int j (k':Nat)))(hk:k'<=62)(c:EG E lo os hs k ((d,N q)::f) h rs Q) :
  EG E lo (⟨some d,.bin .shr x y,g,0⟩::os) hs k f h rs Q := .go hw (qlL hx hy hk hq) rfl c
def qlO {a b r:Nat}(hr:a%b=r)(hw:want g f=some true)(hx:ev f x=some (N a))(hy:ev f y=some (N b))(hb:b≠0)(c:EG E lo os hs k ((d,N r)::f) h rs Q) :
  EG E lo (⟨some d,.bin .rem x y,g,0⟩::os) hs k f h rs Q := .go hw (qlM hx hy hb hr) rfl c
end
def fl (n:Nat):Nat:=Ieee.double.nearest false n 0
def qlP (n:Nat):FloatKind.f64.nearest (n:Int)=fl n:=by
 unfold FloatKind.nearest FloatKind.encode Ieee.Format.write fl
 have hd:decide ((n:Int)<0)=false:=zzF (by omega)
 simp only [hd,Int.natAbs_natCast,FloatKind.format]
def qlQ (n:Nat)(neg:Bool):Ieee.Toward.even.cut neg n 0=n:=by
 unfold Ieee.Toward.cut
 simp [Nat.mod_one]
def qlR {c k:Nat}(hc:c≠0):(c*2 ^ k).log2=c.log2+k:=by
 have hpos:0<2 ^ k:=Nat.two_pow_pos k
 have h0:c*2 ^ k≠0:=Nat.mul_ne_zero hc (by omega)
 have h1:=Nat.log2_self_le hc
 have h2:=Nat.lt_log2_self (n:=c)
 refine Nat.le_antisymm ?_ ?_
 ·have:c*2 ^ k<2 ^ (c.log2+k+1):=by
   rw [show c.log2+k+1=(c.log2+1)+k by omega,Nat.pow_add]
   exact Nat.mul_lt_mul_of_pos_right h2 hpos
  have:=(Nat.log2_lt h0).2 this
  omega
 ·refine(Nat.le_log2 h0).2 ?_
  rw [Nat.pow_add]
  exact Nat.mul_le_mul_right _ h1
def qlS {n:Nat}(h:n<2 ^ 53):∃k:Nat,k<=1074/\Ieee.double.read (fl n) = .number false (n*2 ^ k) (-(k:Int)):=by
 by_cases h0:n=0
 ·subst h0
  exact⟨1074,zzR _,by unfold fl;decide +kernel⟩
 have hL:n.log2<53:=(Nat.log2_lt h0).2 h
 have h1:=Nat.log2_self_le h0
 have h2:=Nat.lt_log2_self (n:=n)
 have hb:Ieee.double.binade=4503599627370496:=by decide +kernel
 have hi:Ieee.double.infRung=9218868437227405312:=by decide +kernel
 have hs:Ieee.double.signWeight=9223372036854775808:=by decide +kernel
 have hp:Ieee.double.leastPlace = -1074:=by decide
 have hs1:4503599627370496<=n*2 ^ (52-n.log2):=by
  have:2 ^ n.log2*2 ^ (52-n.log2)<=n*2 ^ (52-n.log2):=Nat.mul_le_mul_right _ h1
  rw [<-Nat.pow_add,show n.log2+(52-n.log2)=52 by omega]at this
  exact this
 have hs2:n*2 ^ (52-n.log2)<9007199254740992:=by
  have:n*2 ^ (52-n.log2)<2 ^ (n.log2+1)*2 ^ (52-n.log2):=Nat.mul_lt_mul_of_pos_right h2 (Nat.two_pow_pos _)
  rw [<-Nat.pow_add,show n.log2+1+(52-n.log2)=53 by omega]at this
  exact this
 have hfl:fl n=(n.log2+1022)*4503599627370496+n*2 ^ (52-n.log2):=by
  unfold fl Ieee.Format.nearest
  rw [if_neg h0]
  have e1:max ((0:Int)+(n.log2:Int)-(Ieee.double.fractionBits:Nat)) Ieee.double.leastPlace=(n.log2:Int)-52:=by
   rw [hp,show(Ieee.double.fractionBits:Int)=52 from rfl];omega
  rw [e1]
  simp only
  rw [show((0:Int)-((n.log2:Int)-52)).toNat=52-n.log2 by omega,show((n.log2:Int)-52-0).toNat=0 by omega,qlQ,Nat.shiftLeft_eq,hp,show((n.log2:Int)-52 - -1074).toNat=n.log2+1022 by omega,hb,hi]
  unfold Ieee.Format.word
  rw [if_neg (by simp)]
  omega
 generalize hsd:n*2 ^ (52-n.log2)=s at hs1 hs2 hfl
 have hr:Ieee.double.read (fl n) = .number false s (-((52-n.log2:Nat):Int)):=by
  rw [hfl]
  unfold Ieee.Format.read
  rw [hb,hi,hs,hp]
  have w1:((n.log2+1022)*4503599627370496+s)/9223372036854775808%2=0:=by omega
  have w2:((n.log2+1022)*4503599627370496+s)%9223372036854775808=(n.log2+1022)*4503599627370496+s:=by omega
  have w3:((n.log2+1022)*4503599627370496+s)%4503599627370496=s-4503599627370496:=by omega
  have w4:((n.log2+1022)*4503599627370496+s)/4503599627370496=n.log2+1023:=by omega
  simp only [w1,w2,w3,w4]
  rw [if_neg (by omega),if_pos (by omega),show 4503599627370496+(s-4503599627370496)=s by omega,show(-1074:Int)+((n.log2+1023-1:Nat):Int) = -((52-n.log2:Nat):Int) by omega]
  rfl
 exact⟨52-n.log2,by omega,by rw [hsd];exact hr⟩
def qlT (m u:Nat):Ieee.signed false m u=((m*2 ^ u:Nat):Int):=by
 unfold Ieee.signed
 simp [Nat.shiftLeft_eq]
def qlU {n:Nat}(h:n<2 ^ 53):(FloatKind.f64.decode (fl n)).toInt .zero=some (n:Int):=by
 obtain⟨k,hk,ha⟩:=qlS h
 unfold FloatKind.decode
 rw [show FloatKind.f64.format=Ieee.double from rfl,ha]
 unfold Ieee.Datum.toInt Ieee.Datum.integral
 simp only
 have s1:(-(k:Int)).toNat=0:=by omega
 have s2:(- -(k:Int)).toNat=k:=by omega
 rw [s1,s2,Nat.shiftLeft_zero,qlT]
 by_cases h0:n=0
 ·subst h0
  unfold Ieee.Toward.cut
  simp
 ·have hl:k<=(n*2 ^ k).log2+2:=by rw [qlR h0];omega
  unfold Ieee.Toward.cut
  simp only [Nat.min_eq_left hl,Nat.one_shiftLeft,Nat.mul_div_cancel _ (Nat.two_pow_pos k)]
  simp
end Go.Proofs.YtlgnnpkdhbhdgaaGreat
namespace Go.Ir
open Go
section
variable {E:Env}{lo:Nat}{os:List IOper}{f:Fr}{h:qab}{hs:List qab}{k:List Item}{rs:List qaj}{Q:Value->qab->Prop}{d:Nat}{g:Option (Nat×Bool)}{x y:Operand}
def EG.waO {a:Nat}{n:Int}(hw:want g f=some true)(hx:ev f x=some (.float .f64 a))(hn:(FloatKind.f64.decode a).toInt .zero=some n)(hr:IntKind.i64.min<=n/\n<=IntKind.i64.max)(z:EG E lo os hs k ((d,.int .i64 n)::f) h rs Q) :
  EG E lo (⟨some d,.conv (.int .i64) x,g,0⟩::os) hs k f h rs Q := .go hw (by
   simp only [yf,hx,qat,hn,if_pos hr]) rfl z
end
end Go.Ir
namespace Go.Proofs.YtlgnnpkdhbhdgaaGreat
open Go Go.Ir
def qlV:fl 0=0:=by unfold fl;decide +kernel
abbrev cx (a b:Nat):Value := .complex .f64 (fl a) (fl b)
def qlW (w:Int):Option (Nat×Nat):=if 0<=w/\w<4503599627370496/\w%1048576<=64 then some ((w%1048576).toNat,(w/1048576).toNat)else none
def qlX (t g:Nat):Nat:=t+g*1048576
def qlY (g:Nat):Nat:=if g=4294967295 then 0 else g+1
def qlZ:Option (Nat×Nat)->Value
 | some p => .tuple #[N p.1,N p.2,I 0]
 | none => .tuple #[I 0,I 0,I 2]
def ql0 (w:Int):Value:=qlZ (qlW w)
def ql1 (l:Int):Option (Nat×Nat)->Int×Int×Int
 | none=>(0,0,2)
 | some p=>if 0<=l/\l<=64 then(if p.1=0 then(0,0,11)else((qlX l.toNat (qlY p.2):Nat),(p.1:Int)-1,0))else(0,0,1)
def ql2 (w l:Int):Int×Int×Int:=ql1 l (qlW w)
def ql3 (s:Int):Option (Nat×Nat)->Int×Int×Int
 | none=>(0,0,2)
 | some p=>if 0<=s/\s<=63 then((qlX (s.toNat+1) (qlY p.2):Nat),(p.1:Int),0)else(0,0,1)
def ql4 (w s:Int):Int×Int×Int:=ql3 s (qlW w)
def ql5 (r:Int×Int×Int):Value := .tuple #[I r.1,I r.2.1,I r.2.2]
def ql6 {w:Int}{t g:Nat}(h:qlW w=some (t,g)):t<=64/\g<4294967296/\w=(qlX t g:Nat):=by
 unfold qlW at h
 split at h
 ·injection h with h
  injection h with h1 h2
  unfold qlX
  omega
 ·cases h
section
variable {lo:Nat}{h:qab}
def ql7 (lo:Nat)(h:qab)(a b:Nat):qfU En lo Id.zbX [N a,N b] h=some (cx a b,h):=by
 refine qgx rfl Fn.zbX rfl rfl ?_
 repeat' first|refine .A ?_|refine .B ?_|refine .J ?_|refine .F ?_|refine .Y ?_|fail
 show Ir.tidy h (.complex .f64 (FloatKind.f64.nearest (a:Int)) (FloatKind.f64.nearest (b:Int))) h=_
 rw [qlP,qlP]
 rfl
def ql8 {n:Nat}(h:n<2 ^ 53):IntKind.i64.min<=(n:Int)/\(n:Int)<=IntKind.i64.max:=by
 have e1:IntKind.i64.min = -9223372036854775808:=by decide
 have e2:IntKind.i64.max=9223372036854775807:=by decide
 rw [e1,e2];omega
def ql9 (lo:Nat)(h:qab){a:Nat}(b:Nat)(ha:a<2 ^ 53):qfU En lo Id.zbU [cx a b] h=some (N a,h):=by
 refine qgx rfl Fn.zbU rfl rfl ?_
 repeat' first|refine .A ?_|refine .B ?_|refine .J ?_|refine .waO rfl rfl (qlU ha) (ql8 ha) ?_|refine .F ?_|refine .Y ?_|fail
 rfl
def qma (lo:Nat)(h:qab)(a:Nat){b:Nat}(hb:b<2 ^ 53):qfU En lo Id.zbT [cx a b] h=some (N b,h):=by
 refine qgx rfl Fn.zbT rfl rfl ?_
 repeat' first|refine .A ?_|refine .B ?_|refine .J ?_|refine .waO rfl rfl (qlU hb) (ql8 hb) ?_|refine .F ?_|refine .Y ?_|fail
 rfl
def qmb (lo:Nat)(h:qab):qfU En lo Id.zca [] h=some (fld 0 20,h):=callR_iff.2 ⟨60,by kernel_rfl⟩
def qmc (lo:Nat)(h:qab):qfU En lo Id.zbZ [] h=some (fld 20 32,h):=callR_iff.2 ⟨60,by kernel_rfl⟩
def qmd (lo:Nat)(h:qab)(n:Int):qfU En lo Id.zbW [I n] h=some (.bool (decide (0<=n/\n<=64)),h):=by
 refine qgx rfl Fn.zbW rfl rfl ?_
 by_cases h0:0<=n
 ·by_cases h1:n<=64
  ·rw [zzT ⟨h0,h1⟩]
   repeat' first|refine .A ?_|refine .B ?_|refine .J ?_|refine .t2 ?_|refine .t4 ?_|refine .F ?_|refine .Y ?_|fail
   rfl
  ·rw [zzF (fun g=>h1 g.2)]
   repeat' first|refine .A ?_|refine .B ?_|refine .J ?_|refine .f2 ?_|refine .t4 ?_|refine .F ?_|refine .Y ?_|fail
   rfl
 ·rw [zzF (fun g=>h0 g.1)]
  repeat' first|refine .A ?_|refine .B ?_|refine .J ?_|refine .f4 ?_|refine .D ?_|refine .F ?_|refine .Y ?_|fail
  rfl
def qme (lo:Nat)(h:qab){t g:Nat}(ht:t<1048576)(hg:g<4294967296):qfU En lo Id.zbV [cx t g] h=some (N (qlX t g),h):=by
 have h1:∀lo,qfU En lo Id.zbA [N 0,fld 0 20,N t] h=some (.tuple #[N t,I 0],h):=fun lo=>by
  have:=qj8 (lo:=lo) (h:=h) (a:=0) (b:=20) (n:=0) (k:=t) (by omega) (by omega) (by omega) (by omega)
  rw [show 0+t*2 ^ 0=t by omega]at this
  exact this
 have h2:∀lo,qfU En lo Id.zbA [N t,fld 20 32,N g] h=some (.tuple #[N (qlX t g),I 0],h):=fun lo=>by
  have:=qj8 (lo:=lo) (h:=h) (a:=20) (b:=32) (n:=t) (k:=g) (by omega) (by omega) (by omega) (by omega)
  rw [show t+g*2 ^ 20=qlX t g by unfold qlX;omega]at this
  exact this
 have hT:=fun lo=>ql9 lo h (a:=t) g (by omega)
 have hG:=fun lo=>qma lo h t (b:=g) (by omega)
 refine qgx rfl Fn.zbV rfl rfl ?_
 repeat' first|refine .A ?_|refine .B ?_|refine .J ?_|(show EG _ _ (⟨_,.call _ _,_,_⟩::_) _ _ _ _ _ _;first|refine .P (qmb _ _) ?_|refine .P (qmc _ _) ?_|refine .P (hT _) ?_|refine .P (hG _) ?_|refine .P (h1 _) ?_|refine .P (h2 _) ?_)|refine .F ?_|refine .Y ?_|fail
 rfl
def qmf (lo:Nat)(h:qab)(t:Nat){g:Nat}(hg:g<4294967296)(s:Nat):qfU En lo Id.zbS [cx t g,N s] h=some (cx s (qlY g),h):=by
 have hG:=fun lo=>qma lo h t (b:=g) (by omega)
 have hO:=fun lo b=>ql7 lo h s b
 refine qgx rfl Fn.zbS rfl rfl ?_
 unfold qlY
 by_cases hc:g=4294967295
 ·rw [if_pos hc]
  have h0:∀lo,qfU En lo Id.zbX [N s,I 0] h=some (cx s 0,h):=fun lo=>hO lo 0
  repeat' first|refine .A ?_|refine .B ?_|refine .C ?_|refine .J ?_|refine .t5 ?_|refine .P (hG _) ?_|refine .P (h0 _) ?_|refine .F ?_|fail
  rfl
 ·rw [if_neg hc]
  repeat' first|refine .A ?_|refine .B ?_|refine .D ?_|refine .F ?_|refine .J ?_|refine .f5 ?_|refine .n2 ?_|refine .P (hG _) ?_|refine .P (hO _ _) ?_|fail
  rfl
def qmg {a b:Nat}{w:Int}(hw:¬(0<=w/\w<4611686018427387904)):qfU En lo Id.zbz [I w,fld a b] h=some (I 0,h):=by
 have hW:=fun lo=>qj2 lo h w
 rw [zzF hw]at hW
 refine qgx rfl Fn.zbz rfl rfl ?_
 repeat' first|refine .A ?_|refine .B ?_|refine .C ?_|refine .J ?_|refine .P (hW _) ?_|refine .F ?_|refine .Y ?_|fail
 rfl
def qmh:Option (Nat×Nat)->Value
 | some p => .tuple #[cx p.1 p.2,I 0]
 | none => .tuple #[.complex .f64 0 0,I 2]
def qmi (w:Int):Value:=qmh (qlW w)
def qmj (lo:Nat)(h:qab){t g n:Nat}(ht:t<1048576)(hg:g<4294967296)(h1:∀lo,qfU En lo Id.zbz [N n,fld 0 20] h=some (N t,h))(h2:∀lo,qfU En lo Id.zbz [N n,fld 20 32] h=some (N g,h)) :
  qfU En lo Id.zbY [N n] h=some (if t<=64/\qlX t g=n then .tuple #[cx t g,I 0]else .tuple #[.complex .f64 0 0,I 2],h):=by
 have hO:=fun lo=>ql7 lo h t g
 have hT:=fun lo=>ql9 lo h (a:=t) g (by omega)
 have hM:=fun lo=>qmd lo h (t:Int)
 have hW:=fun lo=>qme lo h (t:=t) (g:=g) ht hg
 generalize qlX t g=e at *
 refine qgx rfl Fn.zbY rfl rfl ?_
 by_cases h64:t<=64
 ·rw [zzT (by omega)]at hM
  by_cases he:e=n
  ·rw [if_pos ⟨h64,he⟩]
   repeat' first|refine .A ?_|refine .B ?_|refine .D ?_|refine .F ?_|refine .J ?_|refine .f6 ?_|(show EG _ _ (⟨_,.call _ _,_,_⟩::_) _ _ _ _ _ _;first|refine .P (qmb _ _) ?_|refine .P (qmc _ _) ?_|refine .P (h1 _) ?_|refine .P (h2 _) ?_|refine .P (hO _) ?_|refine .P (hT _) ?_|refine .P (hM _) ?_|refine .P (hW _) ?_)|refine .Y ?_|fail
   rfl
  ·rw [if_neg (fun g=>he g.2)]
   repeat' first|refine .A ?_|refine .B ?_|refine .C ?_|refine .J ?_|refine .t6 ?_|(show EG _ _ (⟨_,.call _ _,_,_⟩::_) _ _ _ _ _ _;first|refine .P (qmb _ _) ?_|refine .P (qmc _ _) ?_|refine .P (h1 _) ?_|refine .P (h2 _) ?_|refine .P (hO _) ?_|refine .P (hT _) ?_|refine .P (hM _) ?_|refine .P (hW _) ?_)|refine .F ?_|refine .Y ?_|fail
   rfl
 ·rw [zzF (by omega)]at hM
  rw [if_neg (fun g=>h64 g.1)]
  repeat' first|refine .A ?_|refine .B ?_|refine .C ?_|refine .J ?_|(show EG _ _ (⟨_,.call _ _,_,_⟩::_) _ _ _ _ _ _;first|refine .P (qmb _ _) ?_|refine .P (qmc _ _) ?_|refine .P (h1 _) ?_|refine .P (h2 _) ?_|refine .P (hO _) ?_|refine .P (hT _) ?_|refine .P (hM _) ?_)|refine .D ?_|refine .F ?_|refine .Y ?_|fail
  rfl
def qmk (lo:Nat)(h:qab){w:Int}(hw:¬(0<=w/\w<4611686018427387904)):qfU En lo Id.zbY [I w] h=some (.tuple #[.complex .f64 0 0,I 2],h):=by
 have h1:∀lo,qfU En lo Id.zbz [I w,fld 0 20] h=some (N 0,h):=fun lo=>qmg hw
 have h2:∀lo,qfU En lo Id.zbz [I w,fld 20 32] h=some (N 0,h):=fun lo=>qmg hw
 have hO:=fun lo=>ql7 lo h 0 0
 have hT:=fun lo=>ql9 lo h (a:=0) 0 (by omega)
 have hM:∀lo,qfU En lo Id.zbW [N 0] h=some (.bool true,h):=fun lo=>qmd lo h ((0:Nat):Int)
 have hW:∀lo,qfU En lo Id.zbV [cx 0 0] h=some (N 0,h):=fun lo=>qme lo h (t:=0) (g:=0) (by omega) (by omega)
 refine qgx rfl Fn.zbY rfl rfl ?_
 repeat' first|refine .A ?_|refine .B ?_|refine .C ?_|refine .J ?_|refine .t6 ?_|(show EG _ _ (⟨_,.call _ _,_,_⟩::_) _ _ _ _ _ _;first|refine .P (qmb _ _) ?_|refine .P (qmc _ _) ?_|refine .P (h1 _) ?_|refine .P (h2 _) ?_|refine .P (hO _) ?_|refine .P (hT _) ?_|refine .P (hM _) ?_|refine .P (hW _) ?_)|refine .F ?_|refine .Y ?_|fail
 rfl
def qml (n t g:Nat)(e1:n%1048576=t)(e2:n/1048576%4294967296=g)(ht:t<1048576)(hg:g<4294967296):qmi (n:Int)=if t<=64/\qlX t g=n then .tuple #[cx t g,I 0]else .tuple #[.complex .f64 0 0,I 2]:=by
 unfold qmi
 by_cases hc:t<=64/\qlX t g=n
 ·have hc2:=hc.2
  unfold qlX at hc2
  have hU:qlW (n:Int)=some (t,g):=by
   unfold qlW
   have a1:((n:Int)%1048576).toNat=t:=by omega
   have a2:((n:Int)/1048576).toNat=g:=by omega
   rw [if_pos (by omega),a1,a2]
  rw [hU,if_pos hc]
  rfl
 ·rw [if_neg hc]
  have hU:qlW (n:Int)=none:=by
   unfold qlW
   unfold qlX at hc
   rw [if_neg (by omega)]
  rw [hU]
  rfl
def qmm (lo:Nat)(h:qab)(w:Int):qfU En lo Id.zbY [I w] h=some (qmi w,h):=by
 by_cases hw:0<=w/\w<4611686018427387904
 ·obtain⟨n,rfl⟩:∃n:Nat,w=n:=⟨w.toNat,by omega⟩
  have h1:∀lo,qfU En lo Id.zbz [N n,fld 0 20] h=some (N (n/2 ^ 0%2 ^ 20),h):=fun lo=>qj7 (lo:=lo) (h:=h) (a:=0) (b:=20) (n:=n) (by omega) (by omega) (by omega)
  have h2:∀lo,qfU En lo Id.zbz [N n,fld 20 32] h=some (N (n/2 ^ 20%2 ^ 32),h):=fun lo=>qj7 (lo:=lo) (h:=h) (a:=20) (b:=32) (n:=n) (by omega) (by omega) (by omega)
  obtain⟨t,et⟩:∃t,n/2 ^ 0%2 ^ 20=t:=⟨_,rfl⟩
  obtain⟨g,eg⟩:∃g,n/2 ^ 20%2 ^ 32=g:=⟨_,rfl⟩
  rw [et]at h1
  rw [eg]at h2
  have ht:t<1048576:=by omega
  have hg:g<4294967296:=by omega
  rw [qmj lo h ht hg h1 h2,qml n t g (by omega) (by omega) ht hg]
 ·rw [qmk lo h hw]
  unfold qmi
  have hU:qlW w=none:=by
   unfold qlW
   rw [if_neg (by omega)]
  rw [hU]
  rfl
def qmn (lo:Nat)(h:qab)(w:Int):qfU En lo Id.zbR [I w] h=some (ql0 w,h):=by
 have hR:=fun lo=>qmm lo h w
 refine qgx rfl Fn.zbR rfl rfl ?_
 unfold qmi at hR
 unfold ql0
 cases hU:qlW w with
 | none =>
   rw [hU]at hR
   simp only [qmh,qlZ,ql1,ql3]at hR|-
   have e:Value.complex .f64 0 0=cx 0 0:=by
    show Value.complex .f64 0 0 = .complex .f64 (fl 0) (fl 0)
    rw [qlV]
   have hT:=fun lo=>ql9 lo h (a:=0) 0 (by omega)
   have hG:=fun lo=>qma lo h 0 (b:=0) (by omega)
   rw [<-e]at hT hG
   repeat' first|refine .A ?_|refine .B ?_|refine .J ?_|refine .P (hR _) ?_|refine .P (hT _) ?_|refine .P (hG _) ?_|refine .F ?_|refine .Y ?_|fail
   rfl
 | some p =>
   obtain⟨t,g⟩:=p
   obtain⟨h1,h2,_⟩:=ql6 hU
   rw [hU]at hR
   simp only [qmh,qlZ,ql1,ql3]at hR|-
   have hT:=fun lo=>ql9 lo h (a:=t) g (by omega)
   have hG:=fun lo=>qma lo h t (b:=g) (by omega)
   repeat' first|refine .A ?_|refine .B ?_|refine .J ?_|refine .P (hR _) ?_|refine .P (hT _) ?_|refine .P (hG _) ?_|refine .F ?_|refine .Y ?_|fail
   rfl
def qmo {g:Nat}(hg:g<4294967296):qlY g<4294967296:=by unfold qlY;split<;>omega
def qmp (lo:Nat)(h:qab)(w l:Int):qfU En lo Id.zbP [I w,I l] h=some (ql5 (ql2 w l),h):=by
 have hR:=fun lo=>qmm lo h w
 have hM:=fun lo=>qmd lo h l
 refine qgx rfl Fn.zbP rfl rfl ?_
 unfold qmi at hR
 unfold ql2 ql5
 cases hU:qlW w with
 | none =>
   rw [hU]at hR
   simp only [qmh,qlZ,ql1,ql3]at hR|-
   repeat' first|refine .A ?_|refine .B ?_|refine .C ?_|refine .G ?_|refine .J ?_|refine .t6 ?_|refine .P (hR _) ?_|refine .F ?_|refine .Y ?_|fail
   rfl
 | some p =>
   obtain⟨t,g⟩:=p
   obtain⟨h1,h2,_⟩:=ql6 hU
   rw [hU]at hR
   simp only [qmh,qlZ,ql1,ql3]at hR|-
   have hT:=fun lo=>ql9 lo h (a:=t) g (by omega)
   by_cases hl:0<=l/\l<=64
   ·rw [zzT hl]at hM
    rw [if_pos hl]
    obtain⟨k,rfl⟩:∃k:Nat,l=k:=⟨l.toNat,by omega⟩
    by_cases ht:t=0
    ·rw [if_pos ht]
     repeat' first|refine .A ?_|refine .B ?_|refine .C ?_|refine .D ?_|refine .G ?_|refine .J ?_|refine .t5 ?_|refine .f6 ?_|refine .P (hR _) ?_|refine .P (hM _) ?_|refine .P (hT _) ?_|refine .F ?_|refine .Y ?_|fail
     rfl
    ·rw [if_neg ht]
     rw [Int.toNat_natCast]
     have hB:=fun lo=>qmf lo h t h2 k
     have hg:=qmo h2
     generalize qlY g=g' at hB hg|-
     have hW:=fun lo=>qme lo h (t:=k) (g:=g') (by omega) hg
     have hs:IntKind.i64.wrap ((t:Int)-1)=(t:Int)-1:=qiX (by omega) (by omega)
     repeat' first|refine .A ?_|refine .B ?_|refine .D ?_|refine .F ?_|refine .G ?_|refine .H ?_|refine .J ?_|refine .f5 ?_|refine .f6 ?_|(show EG _ _ (⟨_,.call _ _,_,_⟩::_) _ _ _ _ _ _;first|refine .P (hR _) ?_|refine .P (hM _) ?_|refine .P (hT _) ?_|refine .P (hB _) ?_|refine .P (hW _) ?_)|refine .Y ?_|fail
     simp only [hs]
     rfl
   ·rw [zzF hl]at hM
    rw [if_neg hl]
    repeat' first|refine .A ?_|refine .B ?_|refine .C ?_|refine .D ?_|refine .G ?_|refine .J ?_|refine .f6 ?_|refine .P (hR _) ?_|refine .P (hM _) ?_|refine .F ?_|refine .Y ?_|fail
    rfl
def qmq (lo:Nat)(h:qab)(w s:Int):qfU En lo Id.zbQ [I w,I s] h=some (ql5 (ql4 w s),h):=by
 have hR:=fun lo=>qmm lo h w
 refine qgx rfl Fn.zbQ rfl rfl ?_
 unfold qmi at hR
 unfold ql4 ql5
 cases hU:qlW w with
 | none =>
   rw [hU]at hR
   simp only [qmh,qlZ,ql1,ql3]at hR|-
   repeat' first|refine .A ?_|refine .B ?_|refine .C ?_|refine .G ?_|refine .J ?_|refine .t6 ?_|refine .P (hR _) ?_|refine .F ?_|refine .Y ?_|fail
   rfl
 | some p =>
   obtain⟨t,g⟩:=p
   obtain⟨h1,h2,_⟩:=ql6 hU
   rw [hU]at hR
   simp only [qmh,qlZ,ql1,ql3]at hR|-
   have hT:=fun lo=>ql9 lo h (a:=t) g (by omega)
   by_cases h0:0<=s
   ·by_cases hs:s<=63
    ·rw [if_pos ⟨h0,hs⟩]
     obtain⟨k,rfl⟩:∃k:Nat,s=k:=⟨s.toNat,by omega⟩
     rw [Int.toNat_natCast]
     have hB:=fun lo=>qmf lo h t h2 (k+1)
     have hg:=qmo h2
     generalize qlY g=g' at hB hg|-
     have hW:=fun lo=>qme lo h (t:=k+1) (g:=g') (by omega) hg
     repeat' first|refine .A ?_|refine .B ?_|refine .D ?_|refine .F ?_|refine .G ?_|refine .H ?_|refine .J ?_|refine .f1 ?_|refine .f4 ?_|refine .f6 ?_|refine .n2 ?_|refine .P (hR _) ?_|refine .P (hT _) ?_|refine .P (hB _) ?_|refine .P (hW _) ?_|refine .Y ?_|fail
     rfl
    ·rw [if_neg (fun g=>hs g.2)]
     repeat' first|refine .A ?_|refine .B ?_|refine .C ?_|refine .D ?_|refine .G ?_|refine .J ?_|refine .f1 ?_|refine .t4 ?_|refine .f6 ?_|refine .P (hR _) ?_|refine .F ?_|refine .Y ?_|fail
     rfl
   ·rw [if_neg (fun g=>h0 g.1)]
    repeat' first|refine .A ?_|refine .B ?_|refine .C ?_|refine .D ?_|refine .G ?_|refine .J ?_|refine .t1 ?_|refine .f6 ?_|refine .P (hR _) ?_|refine .F ?_|refine .Y ?_|fail
    rfl
end
def chE (w:Int)(F:Ent->Int×Ent):Int×Int :=
 match qkb w with
 | none=>(0,2)
 | some e=>if e.lv then(if(F e).1=0 then(if(F e).2.may then((qkc (F e).2:Nat),0)else(0,1))else(0,(F e).1))else(0,1)
def qmr (e:Ent):Int×Ent:=if e.lk then(1,e)else if e.p=7 then(7,e)else(0,{e with p:=IntKind.i64.wrap (e.p+1)})
def qms (e:Ent):Int×Ent:=if e.p=0 then(8,e)else(0,{e with p:=IntKind.i64.wrap (e.p-1)})
def qmt (b:Int)(e:Ent):Int×Ent:=if b < -15\/15<b then(1,e)else(0,{e with u:=IntKind.i64.wrap (e.u+b)})
def qmu (r:Int×Int):Value := .tuple #[I r.1,I r.2]
def qmv (h:qab)(k k':Blk):(h ++ [k]).set h.length k'=h ++ [k']:=by rw [List.set_append_right _ _ (zzR _),Nat.sub_self];rfl
def qmw {lo:Nat}{h:qab}{w:Int}{F:Ent->Int×Ent}{G:Ent->qab}{fn:Nat}{caps:Array Value}(hlo:lo<=h.length)
  (hf:∀e,qfU En lo fn (.pointer (some ⟨h.length,0,none⟩)::caps.toList) (h ++ [.row e.cs false])=some (I (F e).1,G e)) (hg:∀e,(G e)[h.length]? = some (.row (F e).2.cs false)) :
  qfU En lo Id.zbo [I w,.func (.func fn) #[] caps] h=some (qmu (chE w F),match qkb w with|none=>h ++ [.row Ent.zero.cs false]|some e=>if e.lv then G e else h ++ [.row e.cs false]):=by
 have hU:=fun lo h=>qkn lo h w
 have hcat:∀k:Blk,(h ++ [k])[h.length]? = some k:=fun k=>zzC
 cases hu:qkb w with
 | none =>
   rw [hu]at hU
   have hst:stN lo (h ++ [.row [I 0,I 0,I 0,I 0,.bool false,.bool false] false]) ⟨h.length,0,none⟩ (qaf (.agg Ent.zero.cs.toArray))=some (h ++ [.row Ent.zero.cs false]) :=
    (qiE (w:=Ent.zero.cs) (hcat _) hlo (zzL rfl) rfl).trans (by rw [qmv])
   have hch:chE w F=(0,2):=by unfold chE;rw [hu]
   rw [hch]
   refine qgw rfl Fn.zbo rfl rfl ?_
   repeat' first|refine .A ?_|refine .B ?_|refine .C ?_|refine .G ?_|refine .J ?_|refine .t6 ?_|refine .P (hU _ _) ?_|refine .S hst ?_|refine .F ?_|refine .Y ?_|fail
   rfl
 | some e =>
   rw [hu]at hU
   have hst:stN lo (h ++ [.row [I 0,I 0,I 0,I 0,.bool false,.bool false] false]) ⟨h.length,0,none⟩ (qaf (.agg e.cs.toArray))=some (h ++ [.row e.cs false]) :=
    (qiE (w:=e.cs) (hcat _) hlo (zzL rfl) rfl).trans (by rw [qmv])
   have l5:qau (h ++ [.row e.cs false]) none ⟨h.length,0+5,none⟩=some (.bool e.lv):=qiC (hcat _) rfl
   have hC:=hf e
   have l6:qau (G e) (some 6) ⟨h.length,0,none⟩=some (.agg (F e).2.cs.toArray):=qiD (hg e) (zzL rfl) rfl
   have hP:=fun lo=>qkp lo (G e) (F e).2
   unfold pkV at hP
   have hch:chE w F=if e.lv then(if(F e).1=0 then(if(F e).2.may then(((qkc (F e).2:Nat):Int),(0:Int))else(0,1))else(0,(F e).1))else(0,1):=by unfold chE;rw [hu]
   rw [hch]
   generalize hFe:F e=r at hC l6 hP|-
   obtain⟨c,e'⟩:=r
   have hC:qfU En lo fn (.pointer (some ⟨h.length,0,none⟩)::caps.toList) (h ++ [.row e.cs false])=some (I c,G e):=hC
   have l6:qau (G e) (some 6) ⟨h.length,0,none⟩=some (.agg e'.cs.toArray):=l6
   have hP:∀lo,qfU En lo Id.zbh [.agg e'.cs.toArray] (G e)=some (if e'.may then .tuple #[N (qkc e'),I 0]else .tuple #[I 0,I 1],G e):=hP
   show qfU En lo Id.zbo [I w,.func (.func fn) #[] caps] h=some (qmu (if e.lv then(if c=0 then(if e'.may then(((qkc e':Nat):Int),(0:Int))else(0,1))else(0,c))else(0,1)),if e.lv then G e else h ++ [.row e.cs false])
   generalize e.lv=lv at *
   cases lv with
   | false =>
     rw [if_neg (by simp),if_neg (by simp)]
     refine qgw rfl Fn.zbo rfl rfl ?_
     repeat' first|refine .A ?_|refine .B ?_|refine .C ?_|refine .D ?_|refine .G ?_|refine .J ?_|refine .f6 ?_|refine .L l5 ?_|refine .P (hU _ _) ?_|refine .S hst ?_|refine .F ?_|refine .Y ?_|fail
     rfl
   | true =>
     rw [if_pos rfl,if_pos rfl]
     by_cases hc0:c=0
     ·rw [if_pos hc0]
      subst hc0
      by_cases hm:e'.may
      ·rw [if_pos hm]
       simp only [if_pos hm]at hP
       refine qgw rfl Fn.zbo rfl rfl ?_
       repeat' first|refine .A ?_|refine .B ?_|refine .D ?_|refine .F ?_|refine .G ?_|refine .H ?_|refine .J ?_|refine .f6 ?_|refine .L l5 ?_|refine .L l6 ?_|refine .P (hU _ _) ?_|refine .P (hP _) ?_|refine .yt rfl rfl rfl rfl (hC) ?_|refine .S hst ?_|refine .Y ?_|fail
       rfl
      ·rw [if_neg hm]
       simp only [if_neg hm]at hP
       refine qgw rfl Fn.zbo rfl rfl ?_
       repeat' first|refine .A ?_|refine .B ?_|refine .D ?_|refine .F ?_|refine .G ?_|refine .H ?_|refine .J ?_|refine .f6 ?_|refine .L l5 ?_|refine .L l6 ?_|refine .P (hU _ _) ?_|refine .P (hP _) ?_|refine .yt rfl rfl rfl rfl (hC) ?_|refine .S hst ?_|refine .Y ?_|fail
       rfl
     ·rw [if_neg hc0]
      refine qgw rfl Fn.zbo rfl rfl ?_
      repeat' first|refine .A ?_|refine .B ?_|refine .C ?_|refine .D ?_|refine .F ?_|refine .G ?_|refine .H ?_|refine .J ?_|refine .t6 ?_|refine .f6 ?_|refine .L l5 ?_|refine .P (hU _ _) ?_|refine .yt rfl rfl rfl rfl (hC) ?_|refine .S hst ?_|refine .Y ?_|fail
      rfl
section
variable {lo:Nat}{h:qab}{e:Ent}
def qmx (hlo:lo<=h.length)(e:Ent):qfU En lo Id.zbj [.pointer (some ⟨h.length,0,none⟩)] (h ++ [.row e.cs false])=some (I (qmr e).1,h ++ [.row (qmr e).2.cs false]):=by
 have hcat:∀k:Blk,(h ++ [k])[h.length]? = some k:=fun k=>zzC
 have l4:qau (h ++ [.row e.cs false]) none ⟨h.length,0+4,none⟩=some (.bool e.lk):=qiC (hcat _) rfl
 have l2:qau (h ++ [.row e.cs false]) none ⟨h.length,0+2,none⟩=some (I e.p):=qiC (hcat _) rfl
 have hst:stN lo (h ++ [.row e.cs false]) ⟨h.length,0+2,none⟩ (qaf (I (IntKind.i64.wrap (e.p+1))))=some (h ++ [.row ({e with p:=IntKind.i64.wrap (e.p+1)} : Ent).cs false]) :=
  (qiE (w:=({e with p:=IntKind.i64.wrap (e.p+1)} : Ent).cs) (hcat _) hlo (zzL rfl) rfl).trans (by rw [qmv])
 cases hk:e.lk with
 | true =>
   rw [hk]at l4
   have hF:qmr e=(1,e):=by unfold qmr;rw [hk];rfl
   rw [hF]
   refine qgw rfl Fn.zbj rfl rfl ?_
   repeat' first|refine .A ?_|refine .B ?_|refine .C ?_|refine .G ?_|refine .J ?_|refine .L l4 ?_|refine .F ?_|refine .Y ?_|fail
   rfl
 | false =>
   rw [hk]at l4
   by_cases h7:e.p=7
   ·have hF:qmr e=(7,e):=by unfold qmr;rw [hk,if_neg (by simp),if_pos h7]
    rw [hF]
    refine qgw rfl Fn.zbj rfl rfl ?_
    repeat' first|refine .A ?_|refine .B ?_|refine .C ?_|refine .D ?_|refine .G ?_|refine .J ?_|refine .t5 ?_|refine .L l4 ?_|refine .L l2 ?_|refine .F ?_|refine .Y ?_|fail
    rfl
   ·have hF:qmr e=(0,{e with p:=IntKind.i64.wrap (e.p+1)}):=by unfold qmr;rw [hk,if_neg (by simp),if_neg h7]
    rw [hF]
    refine qgw rfl Fn.zbj rfl rfl ?_
    repeat' first|refine .A ?_|refine .B ?_|refine .D ?_|refine .F ?_|refine .G ?_|refine .H ?_|refine .J ?_|refine .f5 ?_|refine .L l4 ?_|refine .L l2 ?_|refine .S hst ?_|refine .Y ?_|fail
    rfl
def qmy (hlo:lo<=h.length)(e:Ent):qfU En lo Id.zbm [.pointer (some ⟨h.length,0,none⟩)] (h ++ [.row e.cs false])=some (I (qms e).1,h ++ [.row (qms e).2.cs false]):=by
 have hcat:∀k:Blk,(h ++ [k])[h.length]? = some k:=fun k=>zzC
 have l2:qau (h ++ [.row e.cs false]) none ⟨h.length,0+2,none⟩=some (I e.p):=qiC (hcat _) rfl
 have hst:stN lo (h ++ [.row e.cs false]) ⟨h.length,0+2,none⟩ (qaf (I (IntKind.i64.wrap (e.p-1))))=some (h ++ [.row ({e with p:=IntKind.i64.wrap (e.p-1)} : Ent).cs false]) :=
  (qiE (w:=({e with p:=IntKind.i64.wrap (e.p-1)} : Ent).cs) (hcat _) hlo (zzL rfl) rfl).trans (by rw [qmv])
 by_cases h7:e.p=0
 ·have hF:qms e=(8,e):=by unfold qms;rw [if_pos h7]
  rw [hF]
  refine qgw rfl Fn.zbm rfl rfl ?_
  repeat' first|refine .A ?_|refine .B ?_|refine .C ?_|refine .J ?_|refine .t5 ?_|refine .L l2 ?_|refine .F ?_|refine .Y ?_|fail
  rfl
 ·have hF:qms e=(0,{e with p:=IntKind.i64.wrap (e.p-1)}):=by unfold qms;rw [if_neg h7]
  rw [hF]
  refine qgw rfl Fn.zbm rfl rfl ?_
  repeat' first|refine .A ?_|refine .B ?_|refine .D ?_|refine .F ?_|refine .J ?_|refine .f5 ?_|refine .L l2 ?_|refine .S hst ?_|refine .Y ?_|fail
  rfl
def qmz (b:Int)(hlo:lo<=(h ++ [Blk.row [I b] false]).length)(e:Ent):qfU En lo Id.zba [.pointer (some ⟨(h ++ [Blk.row [I b] false]).length,0,none⟩),.pointer (some ⟨h.length,0,none⟩)] (h ++ [Blk.row [I b] false] ++ [.row e.cs false])=some (I (qmt b e).1,h ++ [Blk.row [I b] false] ++ [.row (qmt b e).2.cs false]):=by
 have hcb:(h ++ [Blk.row [I b] false] ++ [.row e.cs false])[h.length]? = some (.row [I b] false):=by
  rw [zzA (by simp)];exact zzC
 have lb:qau (h ++ [Blk.row [I b] false] ++ [.row e.cs false]) none ⟨h.length,0,none⟩=some (I b):=qiC hcb rfl
 generalize h ++ [Blk.row [I b] false]=h1 at *
 have hcat:∀k:Blk,(h1 ++ [k])[h1.length]? = some k:=fun k=>zzC
 have l3:qau (h1 ++ [.row e.cs false]) none ⟨h1.length,0+3,none⟩=some (I e.u):=qiC (hcat _) rfl
 have hst:stN lo (h1 ++ [.row e.cs false]) ⟨h1.length,0+3,none⟩ (qaf (I (IntKind.i64.wrap (e.u+b))))=some (h1 ++ [.row ({e with u:=IntKind.i64.wrap (e.u+b)} : Ent).cs false]) :=
  (qiE (w:=({e with u:=IntKind.i64.wrap (e.u+b)} : Ent).cs) (hcat _) hlo (zzL rfl) rfl).trans (by rw [qmv])
 refine qgw rfl Fn.zba rfl rfl ?_
 unfold qmt
 by_cases h1':b < -15
 ·rw [if_pos (.inl h1')]
  repeat' first|refine .A ?_|refine .B ?_|refine .C ?_|refine .J ?_|refine .t1 ?_|refine .L lb ?_|refine .D ?_|refine .F ?_|refine .Y ?_|fail
  rfl
 ·by_cases h2':15<b
  ·rw [if_pos (.inr h2')]
   repeat' first|refine .A ?_|refine .B ?_|refine .C ?_|refine .J ?_|refine .f1 ?_|refine .t3 ?_|refine .L lb ?_|refine .F ?_|refine .Y ?_|fail
   rfl
  ·rw [if_neg (by omega)]
   repeat' first|refine .A ?_|refine .B ?_|refine .D ?_|refine .F ?_|refine .J ?_|refine .f1 ?_|refine .f3 ?_|refine .L lb ?_|refine .L l3 ?_|refine .S hst ?_|refine .Y ?_|fail
   rfl
def qmA (lo:Nat)(h:qab)(w:Int):qfU En lo Id.zbi [I w] h=some (qmu (chE w qmr),h):=by
 have hC:=qmw (lo:=h.length) (h:=h) (w:=w) (F:=qmr) (G:=fun e=>h ++ [.row (qmr e).2.cs false]) (fn:=Id.zbj) (caps := #[]) (zzR _) (fun e=>qmx (zzR _) e) (fun e=>zzC)
 refine qgx rfl Fn.zbi rfl rfl ?_
 unfold qmu at hC|-
 repeat' first|refine .A ?_|refine .B ?_|refine .J ?_|refine .P hC ?_|refine .F ?_|refine .Y ?_|fail
 rfl
def qmB (lo:Nat)(h:qab)(w:Int):qfU En lo Id.zbl [I w] h=some (qmu (chE w qms),h):=by
 have hC:=qmw (lo:=h.length) (h:=h) (w:=w) (F:=qms) (G:=fun e=>h ++ [.row (qms e).2.cs false]) (fn:=Id.zbm) (caps := #[]) (zzR _) (fun e=>qmy (zzR _) e) (fun e=>zzC)
 refine qgx rfl Fn.zbl rfl rfl ?_
 unfold qmu at hC|-
 repeat' first|refine .A ?_|refine .B ?_|refine .J ?_|refine .P hC ?_|refine .F ?_|refine .Y ?_|fail
 rfl
def qmC (lo:Nat)(h:qab)(w b:Int):qfU En lo Id.zaZ [I w,I b] h=some (qmu (chE w (qmt b)),h):=by
 have hC:=qmw (lo:=h.length) (h:=h ++ [.row [I b] false]) (w:=w) (F:=qmt b) (G:=fun e=>h ++ [.row [I b] false] ++ [.row (qmt b e).2.cs false]) (fn:=Id.zba) (caps := #[.pointer (some ⟨h.length,0,none⟩)]) (by simp) (fun e=>qmz b (by simp) e) (fun e=>zzC)
 refine qgx rfl Fn.zaZ rfl rfl ?_
 unfold qmu at hC|-
 repeat' first|refine .A ?_|refine .B ?_|refine .J ?_|refine .P hC ?_|refine .F ?_|refine .Y ?_|fail
 rfl
end
def chV (w:Int)(f:Ent->Ent):Value :=
 match qkb w with
 | none => .tuple #[I 0,I 2]
 | some e=>if e.lv then pkV (f e)else .tuple #[I 0,I 1]
def qmD {lo:Nat}{H:qab}{b c:Nat}{on:Bool}{e:Ent}(hb:H[b]? = some (.row [.bool on] false))(hc:H[c]? = some (.row e.cs false))(hlo:lo<=c) :
  qfU En lo Id.zbc [.pointer (some ⟨c,0,none⟩),.pointer (some ⟨b,0,none⟩)] H=some (I 0,H.set c (.row ({e with lk:=on} : Ent).cs false)):=by
 have l1:qau H none ⟨b,0,none⟩=some (.bool on):=qiC hb rfl
 have hst:stN lo H ⟨c,0+4,none⟩ (qaf (.bool on))=some (H.set c (.row ({e with lk:=on} : Ent).cs false)):=qiE hc hlo (zzL rfl) rfl
 refine qgw rfl Fn.zbc rfl rfl ?_
 repeat' (first|(show ER _ _ _ _ _ _ _;first|refine .seq ?_|refine .reg ?_|refine .yes rfl ?_|refine .no rfl ?_|refine .skip ?_|refine .block ?_|refine .yC ?_|refine .exit rfl ?_|refine .br rfl (fun hc => ?_) (fun hc => ?_)|refine .scope ?_|refine .inScope ?_|refine .label ?_|refine .ret rfl ?_|refine .nil rfl ?_)|(show EG _ _ _ _ _ _ _ _ _;first|refine .yy rfl rfl ?_|refine .yc rfl rfl rfl rfl ?_|refine .yd rfl rfl rfl ?_|(show EG _ _ (⟨_,.bin _ _ _,_,_⟩::_) _ _ _ _ _ _;first|refine .lss rfl rfl rfl (fun hc => ?_) (fun hc => ?_)|refine .leq rfl rfl rfl (fun hc => ?_) (fun hc => ?_)|refine .gtr rfl rfl rfl (fun hc => ?_) (fun hc => ?_)|refine .geq rfl rfl rfl (fun hc => ?_) (fun hc => ?_)|refine .eql rfl rfl rfl (fun hc => ?_) (fun hc => ?_)|refine .neq rfl rfl rfl (fun hc => ?_) (fun hc => ?_))|refine .load rfl rfl (l1) ?_|refine .store rfl rfl rfl rfl rfl hst ?_|refine .skip rfl ?_|refine .fin ?_|refine .go rfl rfl rfl ?_|refine .wat rfl rfl rfl ?_|refine .wai rfl ?_))
 rfl
def qmE {lo:Nat}{H:qab}{b c:Nat}{to:Int}{e:Ent}(hb:H[b]? = some (.row [I to] false))(hc:H[c]? = some (.row e.cs false))(hlo:lo<=c)(hbc:b≠c) :
  qfU En lo Id.zbe [.pointer (some ⟨c,0,none⟩),.pointer (some ⟨b,0,none⟩)] H=some (I 0,H.set c (.row ({e with o:=to,lk:=false} : Ent).cs false)):=by
 have l1:qau H none ⟨b,0,none⟩=some (I to):=qiC hb rfl
 have h1:stN lo H ⟨c,0+0,none⟩ (qaf (I to))=some (H.set c (.row ({e with o:=to} : Ent).cs false)):=qiE hc hlo (zzL rfl) rfl
 have h2:stN lo (H.set c (.row ({e with o:=to} : Ent).cs false)) ⟨c,0+4,none⟩ (qaf (.bool false))=some (H.set c (.row ({e with o:=to,lk:=false} : Ent).cs false)) :=
  (qiE (qiy (qiB hc)) hlo (zzL rfl) rfl).trans (by rw [List.set_set];rfl)
 refine qgw rfl Fn.zbe rfl rfl ?_
 repeat' (first|(show ER _ _ _ _ _ _ _;first|refine .seq ?_|refine .reg ?_|refine .yes rfl ?_|refine .no rfl ?_|refine .skip ?_|refine .block ?_|refine .yC ?_|refine .exit rfl ?_|refine .br rfl (fun hc => ?_) (fun hc => ?_)|refine .scope ?_|refine .inScope ?_|refine .label ?_|refine .ret rfl ?_|refine .nil rfl ?_)|(show EG _ _ _ _ _ _ _ _ _;first|refine .yy rfl rfl ?_|refine .yc rfl rfl rfl rfl ?_|refine .yd rfl rfl rfl ?_|(show EG _ _ (⟨_,.bin _ _ _,_,_⟩::_) _ _ _ _ _ _;first|refine .lss rfl rfl rfl (fun hc => ?_) (fun hc => ?_)|refine .leq rfl rfl rfl (fun hc => ?_) (fun hc => ?_)|refine .gtr rfl rfl rfl (fun hc => ?_) (fun hc => ?_)|refine .geq rfl rfl rfl (fun hc => ?_) (fun hc => ?_)|refine .eql rfl rfl rfl (fun hc => ?_) (fun hc => ?_)|refine .neq rfl rfl rfl (fun hc => ?_) (fun hc => ?_))|refine .load rfl rfl (l1) ?_|refine .store rfl rfl rfl rfl rfl h1 ?_|refine .store rfl rfl rfl rfl rfl h2 ?_|refine .skip rfl ?_|refine .fin ?_|refine .go rfl rfl rfl ?_|refine .wat rfl rfl rfl ?_|refine .wai rfl ?_))
 rfl
def qmF (w:Int)(f:Ent->Ent):qmu (chE w fun e=>(0,f e))=chV w f:=by
 unfold chE chV pkV
 cases qkb w with
 | none=>rfl
 | some e =>
   simp only
   cases e.lv with
   | false=>rfl
   | true =>
     rw [if_pos rfl,if_pos rfl]
     by_cases h:(f e).may
     ·rw [if_pos h,if_pos h];rfl
     ·rw [if_neg h,if_neg h];rfl
def qmG (lo:Nat)(h:qab)(w:Int)(on:Bool):qfU En lo Id.zbb [I w,.bool on] h=some (chV w fun e => {e with lk:=on},h):=by
 have hcb:∀k:Blk,(h ++ [Blk.row [.bool on] false] ++ [k])[h.length]? = some (.row [.bool on] false):=fun k=>by rw [zzA (by simp)];exact zzC
 have hC:=qmw (lo:=h.length) (h:=h ++ [Blk.row [.bool on] false]) (w:=w) (F:=fun e=>(0,{e with lk:=on})) (G:=fun e=>h ++ [Blk.row [.bool on] false] ++ [.row ({e with lk:=on} : Ent).cs false]) (fn:=Id.zbc) (caps := #[.pointer (some ⟨h.length,0,none⟩)]) (by simp)
  (fun e=>(qmD (hcb _) zzC (by simp)).trans (by rw [qmv])) (fun e=>zzC)
 rw [<-qmF]
 refine qgx rfl Fn.zbb rfl rfl ?_
 repeat' (first|(show ER _ _ _ _ _ _ _;first|refine .seq ?_|refine .reg ?_|refine .yes rfl ?_|refine .no rfl ?_|refine .skip ?_|refine .block ?_|refine .yC ?_|refine .exit rfl ?_|refine .br rfl (fun hc => ?_) (fun hc => ?_)|refine .scope ?_|refine .inScope ?_|refine .label ?_|refine .ret rfl ?_|refine .nil rfl ?_)|(show EG _ _ _ _ _ _ _ _ _;first|refine .yy rfl rfl ?_|refine .yc rfl rfl rfl rfl ?_|refine .yd rfl rfl rfl ?_|(show EG _ _ (⟨_,.bin _ _ _,_,_⟩::_) _ _ _ _ _ _;first|refine .lss rfl rfl rfl (fun hc => ?_) (fun hc => ?_)|refine .leq rfl rfl rfl (fun hc => ?_) (fun hc => ?_)|refine .gtr rfl rfl rfl (fun hc => ?_) (fun hc => ?_)|refine .geq rfl rfl rfl (fun hc => ?_) (fun hc => ?_)|refine .eql rfl rfl rfl (fun hc => ?_) (fun hc => ?_)|refine .neq rfl rfl rfl (fun hc => ?_) (fun hc => ?_))|refine .call rfl rfl (hC) ?_|refine .skip rfl ?_|refine .fin ?_|refine .go rfl rfl rfl ?_|refine .wat rfl rfl rfl ?_|refine .wai rfl ?_))
 rfl
def qmH (lo:Nat)(h:qab)(w to:Int):qfU En lo Id.zbd [I w,I to] h=some (chV w fun e => {e with o:=to,lk:=false},h):=by
 have hcb:∀k:Blk,(h ++ [Blk.row [I to] false] ++ [k])[h.length]? = some (.row [I to] false):=fun k=>by rw [zzA (by simp)];exact zzC
 have hC:=qmw (lo:=h.length) (h:=h ++ [Blk.row [I to] false]) (w:=w) (F:=fun e=>(0,{e with o:=to,lk:=false})) (G:=fun e=>h ++ [Blk.row [I to] false] ++ [.row ({e with o:=to,lk:=false} : Ent).cs false]) (fn:=Id.zbe) (caps := #[.pointer (some ⟨h.length,0,none⟩)]) (by simp)
  (fun e=>(qmE (hcb _) zzC (by simp) (by simp)).trans (by rw [qmv])) (fun e=>zzC)
 rw [<-qmF]
 refine qgx rfl Fn.zbd rfl rfl ?_
 repeat' (first|(show ER _ _ _ _ _ _ _;first|refine .seq ?_|refine .reg ?_|refine .yes rfl ?_|refine .no rfl ?_|refine .skip ?_|refine .block ?_|refine .yC ?_|refine .exit rfl ?_|refine .br rfl (fun hc => ?_) (fun hc => ?_)|refine .scope ?_|refine .inScope ?_|refine .label ?_|refine .ret rfl ?_|refine .nil rfl ?_)|(show EG _ _ _ _ _ _ _ _ _;first|refine .yy rfl rfl ?_|refine .yc rfl rfl rfl rfl ?_|refine .yd rfl rfl rfl ?_|(show EG _ _ (⟨_,.bin _ _ _,_,_⟩::_) _ _ _ _ _ _;first|refine .lss rfl rfl rfl (fun hc => ?_) (fun hc => ?_)|refine .leq rfl rfl rfl (fun hc => ?_) (fun hc => ?_)|refine .gtr rfl rfl rfl (fun hc => ?_) (fun hc => ?_)|refine .geq rfl rfl rfl (fun hc => ?_) (fun hc => ?_)|refine .eql rfl rfl rfl (fun hc => ?_) (fun hc => ?_)|refine .neq rfl rfl rfl (fun hc => ?_) (fun hc => ?_))|refine .call rfl rfl (hC) ?_|refine .skip rfl ?_|refine .fin ?_|refine .go rfl rfl rfl ?_|refine .wat rfl rfl rfl ?_|refine .wai rfl ?_))
 rfl
end Go.Proofs.YtlgnnpkdhbhdgaaGreat
