/- The document's entries, and sizes rounded. -/
import Derived.Test.YtdinebegmppnoaaGreatThreadP2
set_option linter.unusedVariables false
set_option linter.unusedSimpArgs false

namespace Go.Proofs.YtdinebegmppnoaaGreat
open Go Go.Ir

set_option maxHeartbeats 1600000 in
theorem qlw (lo:Nat)(h:qab)(e:Ent):qfV En lo Id.zcu [.agg e.cs.toArray] h=some (.bool (decide e.may),h):=by
 obtain⟨o,g,p,u,lk,lv⟩:=e
 have hcs:(Ent.mk o g p u lk lv).cs = [I o,I g,I p,I u,.bool lk,.bool lv]:=rfl
 rw [hcs]
 refine qgy rfl Fn.zcu rfl rfl ?_
 cases lk
 all_goals
  cases lv
  all_goals
   repeat' first|refine .A ?_|refine .B ?_|refine .C ?_|refine .D ?_|refine .F ?_|refine .J ?_|refine .k1 (fun hc => ?_) fun hc => ?_|refine .k3 (fun hc => ?_) fun hc => ?_|refine .k5 (fun hc => ?_) fun hc => ?_|refine .k6 (fun hc => ?_) fun hc => ?_|refine .Y ?_|fail
   all_goals
    refine qiK ?_
    first
    | (refine(decide_eq_true ?_).symm;unfold Ent.may;simp<;>omega)
    | (refine(decide_eq_false ?_).symm;intro hh;unfold Ent.may at hh;simp at hh<;>omega)

end Go.Proofs.YtdinebegmppnoaaGreat

/- The document's entries: packed, and sizes rounded. -/
namespace Go.Proofs.YtdinebegmppnoaaGreat
open Go Go.Ir

theorem qlx {f:Fr}{call:qaN}{lo:Nat}{h:qab}{x y:Operand}{n k:Nat}{j:IntKind}(hx:ev f x=some (N n))(hy:ev f y=some (.int j (k:Nat)))(hk:k≤62)(hb:n*2 ^ k<2 ^ 62):iop call lo (.bin .shl x y) f h=some (N (n*2 ^ k),h):=by
 simp only [iop,hx,hy,qar,qaq,if_true,qao]
 rw [if_neg (by omega)]
 have:min ((k:Int).toNat) IntKind.i64.bits=k:=by show min _ 64=_;omega
 rw [this,show((n:Int)*2 ^ k)=((n*2 ^ k:Nat):Int) by simp,qig hb]

end Go.Proofs.YtdinebegmppnoaaGreat

/- The document's entries, unpacked. -/
namespace Go.Proofs.YtdinebegmppnoaaGreat
open Go Go.Ir

theorem qly {f:Fr}{call:qaN}{lo:Nat}{h:qab}{x y:Operand}{n k q:Nat}{j:IntKind}(hx:ev f x=some (N n))(hy:ev f y=some (.int j (k:Nat)))(hk:k≤62)(hq:n/2 ^ k=q):iop call lo (.bin .shr x y) f h=some (N q,h):=by
 subst hq
 simp only [iop,hx,hy,qar,qaq,if_true,qao]
 rw [if_neg (by omega)]
 have:min ((k:Int).toNat) IntKind.i64.bits=k:=by show min _ 64=_;omega
 rw [this,Int.fdiv_eq_ediv_of_nonneg _ (Int.le_of_lt (Int.pow_pos (by decide)))]
 simp
theorem qlz {f:Fr}{call:qaN}{lo:Nat}{h:qab}{x y:Operand}{a b r:Nat}(hx:ev f x=some (N a))(hy:ev f y=some (N b))(hb:b≠0)(hr:a%b=r):iop call lo (.bin .rem x y) f h=some (N r,h):=by
 subst hr
 have hb':¬((b:Int)=0):=by omega
 have e1:(a:Int).tmod (b:Int)=((a%b:Nat):Int):=by rw [Int.tmod_eq_emod_of_nonneg (by omega)];rfl
 simp only [iop,hx,hy,qar,qaq,qan,if_true,if_neg hb',e1]
 rfl

section
variable {E:Env}{lo:Nat}{os:List IOper}{f:Fr}{h:qab}{hs:List qab}{k:List Ir.Item}{rs:List qak}{Q:Value→qab→Prop}{d:Nat}{g:Option (Nat×Bool)}{x y:Operand}
theorem qlA {n k' q:Nat}{j:IntKind}(hq:n/2 ^ k'=q)(hw:want g f=some true)(hx:ev f x=some (N n))(hy:ev f y=some (.int j (k':Nat)))(hk:k'≤62)(c:EG E lo os hs k ((d,N q)::f) h rs Q) :
  EG E lo (⟨some d,.bin .shr x y,g,0⟩::os) hs k f h rs Q := .go hw (qly hx hy hk hq) rfl c
theorem qlB {a b r:Nat}(hr:a%b=r)(hw:want g f=some true)(hx:ev f x=some (N a))(hy:ev f y=some (N b))(hb:b≠0)(c:EG E lo os hs k ((d,N r)::f) h rs Q) :
  EG E lo (⟨some d,.bin .rem x y,g,0⟩::os) hs k f h rs Q := .go hw (qlz hx hy hb hr) rfl c
theorem qlC {p q:Int}{j:IntKind}{b:Bool}(hb:decide (p=q)=b)(hw:want g f=some true)(hx:ev f x=some (.int j p))(hy:ev f y=some (.int j q))(c:EG E lo os hs k ((d,.bool b)::f) h rs Q) :
  EG E lo (⟨some d,.bin .eql x y,g,0⟩::os) hs k f h rs Q := .eql hw hx hy (fun t=>by rw [decide_eq_true t]at hb;rw [hb];exact c) (fun t=>by rw [decide_eq_false t]at hb;rw [hb];exact c)
end

set_option maxHeartbeats 1600000 in
theorem qlD (lo:Nat)(h:qab){n:Nat}(hlt:n<2 ^ 50):qfV En lo Id.zcv [N n] h=some (unV (if(qjY n).may then some (qjY n)else none),h):=by
 have hE:=fun lo=>qlw lo h (qjY n)
 have h49:n/2 ^ 49%2 ^ 1=n/2 ^ 49:=by omega
 have hcs:(qjY n).cs = [N (n%2 ^ 20),N (n/2 ^ 20%2 ^ 20),N (n/2 ^ 40%2 ^ 4),N (n/2 ^ 44%2 ^ 4),.bool (decide (n/2 ^ 48%2 ^ 1=1)),.bool (decide (n/2 ^ 49=1))]:=by
  unfold qjY Ent.cs
  simp only
  rw [h49,show n/2 ^ 0%2 ^ 20=n%2 ^ 20 by omega]
 have hv:unV (if(qjY n).may then some (qjY n)else none)=bif decide (qjY n).may then .tuple #[.agg (qjY n).cs.toArray,I 0]else .tuple #[.agg Ent.zero.cs.toArray,I 2]:=by
  by_cases hm:(qjY n).may
  ·rw [if_pos hm,decide_eq_true hm];rfl
  ·rw [if_neg hm,decide_eq_false hm];rfl
 rw [hv]
 clear hv
 generalize decide (qjY n).may=bm at hE⊢
 cases bm
 all_goals
  simp only [cond_true,cond_false]
  rw [hcs]at hE
  try rw [hcs]
  clear hcs h49
  generalize q20:n/2 ^ 20=n20 at *
  generalize q40:n/2 ^ 40=n40 at *
  generalize q44:n/2 ^ 44=n44 at *
  generalize q48:n/2 ^ 48=n48 at *
  generalize q49:n/2 ^ 49=n49 at *
  generalize r0:n%2 ^ 20=a0 at *
  generalize r1:n20%2 ^ 20=a1 at *
  generalize r2:n40%2 ^ 4=a2 at *
  generalize r3:n44%2 ^ 4=a3 at *
  generalize r4:n48%2 ^ 1=a4 at *
  have b4:decide (((a4:Nat):Int)=1)=decide (a4=1):=decide_eq_decide.2 (by omega)
  have b9:decide (((n49:Nat):Int)=1)=decide (n49=1):=decide_eq_decide.2 (by omega)
  generalize decide (a4=1)=lk at *
  generalize decide (n49=1)=lv at *
  refine qgy rfl Fn.zcv rfl rfl ?_
  repeat' first|refine .A ?_|refine .B ?_|refine .C ?_|refine .D ?_|refine .F ?_|refine .J ?_|(show EG _ _ (⟨_,.bin _ _ _,_,_⟩::_) _ _ _ _ _ _;first|refine qlC b4 rfl rfl rfl ?_|refine qlC b9 rfl rfl rfl ?_|refine qlB (b:=1048576) r0 rfl rfl rfl (by decide) ?_|refine qlB (b:=1048576) r1 rfl rfl rfl (by decide) ?_|refine qlB (b:=16) r2 rfl rfl rfl (by decide) ?_|refine qlB (b:=16) r3 rfl rfl rfl (by decide) ?_|refine qlB (b:=2) r4 rfl rfl rfl (by decide) ?_|refine qlA (k':=20) q20 rfl rfl rfl (by decide) ?_|refine qlA (k':=40) q40 rfl rfl rfl (by decide) ?_|refine qlA (k':=44) q44 rfl rfl rfl (by decide) ?_|refine qlA (k':=48) q48 rfl rfl rfl (by decide) ?_|refine qlA (k':=49) q49 rfl rfl rfl (by decide) ?_|refine .f1 ?_|refine .f4 ?_)|refine .P (hE _) ?_|refine .Y ?_|fail
  rfl

theorem qlE (lo:Nat)(h:qab)(w:Int):qfV En lo Id.zcv [I w] h=some (unV (qjZ w),h):=by
 by_cases hr:0≤w∧w<1125899906842624
 ·refine Exists.elim (show ∃n:Nat,w=n from⟨w.toNat,by omega⟩) fun n hn => ?_
  subst hn
  have:=qlD lo h (n:=n) (by omega)
  rw [this]
  unfold qjZ
  by_cases hm:(qjY n).may
  ·rw [if_pos hm,if_pos ⟨hr.1,hr.2,by simpa using hm⟩];rfl
  ·rw [if_neg hm,if_neg (fun hh=>hm (by simpa using hh.2.2))]
 ·have hu:qjZ w=none:=by unfold qjZ;exact if_neg fun hh=>hr ⟨hh.1,hh.2.1⟩
  rw [hu]
  refine qgy rfl Fn.zcv rfl rfl ?_
  by_cases h0:w<0
  ·repeat' first|refine .A ?_|refine .B ?_|refine .C ?_|refine .J ?_|refine .t1 ?_|refine .D ?_|refine .F ?_|refine .Y ?_|fail
   rfl
  ·repeat' first|refine .A ?_|refine .B ?_|refine .C ?_|refine .J ?_|refine .f1 ?_|refine .t4 ?_|refine .F ?_|refine .Y ?_|fail
   rfl

end Go.Proofs.YtdinebegmppnoaaGreat

/- Whole numbers as floats. -/
namespace Go.Proofs.YtdinebegmppnoaaGreat
open Go Go.Ir

def fl (n:Nat):Nat:=Ieee.double.nearest false n 0

theorem qlF (n:Nat):FloatKind.f64.nearest (n:Int)=fl n:=by
 unfold FloatKind.nearest FloatKind.encode Ieee.Format.write fl
 have hd:decide ((n:Int)<0)=false:=decide_eq_false (by omega)
 simp only [hd,Int.natAbs_natCast,FloatKind.format]

theorem qlG (n:Nat)(neg:Bool):Ieee.Toward.even.cut neg n 0=n:=by
 unfold Ieee.Toward.cut
 simp [Nat.mod_one]

theorem qlH {c k:Nat}(hc:c≠0):(c*2 ^ k).log2=c.log2+k:=by
 have hpos:0<2 ^ k:=Nat.two_pow_pos k
 have h0:c*2 ^ k≠0:=Nat.mul_ne_zero hc (by omega)
 have h1:=Nat.log2_self_le hc
 have h2:=Nat.lt_log2_self (n:=c)
 refine Nat.le_antisymm ?_ ?_
 ·have:c*2 ^ k<2 ^ (c.log2+k+1):=by
   rw [show c.log2+k+1=(c.log2+1)+k by omega,Nat.pow_add]
   exact Nat.mul_lt_mul_of_pos_right h2 hpos
  have:=(Nat.log2_lt h0).2 this
  omega
 ·refine(Nat.le_log2 h0).2 ?_
  rw [Nat.pow_add]
  exact Nat.mul_le_mul_right _ h1

theorem qlI {n:Nat}(h:n<2 ^ 53):∃k:Nat,k≤1074∧Ieee.double.read (fl n) = .number false (n*2 ^ k) (-(k:Int)):=by
 by_cases h0:n=0
 ·subst h0
  exact⟨1074,Nat.le_refl _,by unfold fl;decide +kernel⟩
 have hL:n.log2<53:=(Nat.log2_lt h0).2 h
 have h1:=Nat.log2_self_le h0
 have h2:=Nat.lt_log2_self (n:=n)
 have hb:Ieee.double.binade=4503599627370496:=by decide +kernel
 have hi:Ieee.double.infRung=9218868437227405312:=by decide +kernel
 have hs:Ieee.double.signWeight=9223372036854775808:=by decide +kernel
 have hp:Ieee.double.leastPlace = -1074:=by decide
 have hs1:4503599627370496≤n*2 ^ (52-n.log2):=by
  have:2 ^ n.log2*2 ^ (52-n.log2)≤n*2 ^ (52-n.log2):=Nat.mul_le_mul_right _ h1
  rw [←Nat.pow_add,show n.log2+(52-n.log2)=52 by omega]at this
  exact this
 have hs2:n*2 ^ (52-n.log2)<9007199254740992:=by
  have:n*2 ^ (52-n.log2)<2 ^ (n.log2+1)*2 ^ (52-n.log2):=Nat.mul_lt_mul_of_pos_right h2 (Nat.two_pow_pos _)
  rw [←Nat.pow_add,show n.log2+1+(52-n.log2)=53 by omega]at this
  exact this
 have hfl:fl n=(n.log2+1022)*4503599627370496+n*2 ^ (52-n.log2):=by
  unfold fl Ieee.Format.nearest
  rw [if_neg h0]
  have e1:max ((0:Int)+(n.log2:Int)-(Ieee.double.fractionBits:Nat)) Ieee.double.leastPlace=(n.log2:Int)-52:=by
   rw [hp,show(Ieee.double.fractionBits:Int)=52 from rfl];omega
  rw [e1]
  simp only
  rw [show((0:Int)-((n.log2:Int)-52)).toNat=52-n.log2 by omega,show((n.log2:Int)-52-0).toNat=0 by omega,qlG,Nat.shiftLeft_eq,hp,show((n.log2:Int)-52 - -1074).toNat=n.log2+1022 by omega,hb,hi]
  unfold Ieee.Format.word
  rw [if_neg (by simp)]
  omega
 generalize hsd:n*2 ^ (52-n.log2)=s at hs1 hs2 hfl
 have hr:Ieee.double.read (fl n) = .number false s (-((52-n.log2:Nat):Int)):=by
  rw [hfl]
  unfold Ieee.Format.read
  rw [hb,hi,hs,hp]
  have w1:((n.log2+1022)*4503599627370496+s)/9223372036854775808%2=0:=by omega
  have w2:((n.log2+1022)*4503599627370496+s)%9223372036854775808=(n.log2+1022)*4503599627370496+s:=by omega
  have w3:((n.log2+1022)*4503599627370496+s)%4503599627370496=s-4503599627370496:=by omega
  have w4:((n.log2+1022)*4503599627370496+s)/4503599627370496=n.log2+1023:=by omega
  simp only [w1,w2,w3,w4]
  rw [if_neg (by omega),if_pos (by omega),show 4503599627370496+(s-4503599627370496)=s by omega,show(-1074:Int)+((n.log2+1023-1:Nat):Int) = -((52-n.log2:Nat):Int) by omega]
  rfl
 exact⟨52-n.log2,by omega,by rw [hsd];exact hr⟩

theorem qlJ (m u:Nat):Ieee.signed false m u=((m*2 ^ u:Nat):Int):=by
 unfold Ieee.signed
 simp [Nat.shiftLeft_eq]

theorem qlK {n:Nat}(h:n<2 ^ 53):(FloatKind.f64.decode (fl n)).toInt .zero=some (n:Int):=by
 obtain⟨k,hk,ha⟩:=qlI h
 unfold FloatKind.decode
 rw [show FloatKind.f64.format=Ieee.double from rfl,ha]
 unfold Ieee.Datum.toInt Ieee.Datum.integral
 simp only
 have s1:(-(k:Int)).toNat=0:=by omega
 have s2:(- -(k:Int)).toNat=k:=by omega
 rw [s1,s2,Nat.shiftLeft_zero,qlJ]
 by_cases h0:n=0
 ·subst h0
  unfold Ieee.Toward.cut
  simp
 ·have hl:k≤(n*2 ^ k).log2+2:=by rw [qlH h0];omega
  unfold Ieee.Toward.cut
  simp only [Nat.min_eq_left hl,Nat.one_shiftLeft,Nat.mul_div_cancel _ (Nat.two_pow_pos k)]
  simp
end Go.Proofs.YtdinebegmppnoaaGreat

/- Heads: by the program, and by the document. -/
namespace Go.Ir
open Go
section
variable {E:Env}{lo:Nat}{os:List IOper}{f:Fr}{h:qab}{hs:List qab}{k:List Item}{rs:List qak}{Q:Value→qab→Prop}{d:Nat}{g:Option (Nat×Bool)}{x y:Operand}
theorem EG.convF {a:Nat}{n:Int}(hw:want g f=some true)(hx:ev f x=some (.float .f64 a))(hn:(FloatKind.f64.decode a).toInt .zero=some n)(hr:IntKind.i64.min≤n∧n≤IntKind.i64.max)(z:EG E lo os hs k ((d,.int .i64 n)::f) h rs Q) :
  EG E lo (⟨some d,.conv (.int .i64) x,g,0⟩::os) hs k f h rs Q := .go hw (by
   simp only [iop,hx,qau,hn,if_pos hr]) rfl z
end
end Go.Ir
namespace Go.Proofs.YtdinebegmppnoaaGreat
open Go Go.Ir

theorem qlL:fl 0=0:=by unfold fl;decide +kernel
abbrev cx (a b:Nat):Value := .complex .f64 (fl a) (fl b)

def qlM (w:Int):Option (Nat×Nat):=if 0≤w∧w<4503599627370496∧w%1048576≤64 then some ((w%1048576).toNat,(w/1048576).toNat)else none
def qlN (t g:Nat):Nat:=t+g*1048576
def qlO (g:Nat):Nat:=if g=4294967295 then 0 else g+1
def qlP:Option (Nat×Nat)→Value
 | some p => .tuple #[N p.1,N p.2,I 0]
 | none => .tuple #[I 0,I 0,I 2]
def qlQ (w:Int):Value:=qlP (qlM w)
def qlR (l:Int):Option (Nat×Nat)→Int×Int×Int
 | none=>(0,0,2)
 | some p=>if 0≤l∧l≤64 then(if p.1=0 then(0,0,11)else((qlN l.toNat (qlO p.2):Nat),(p.1:Int)-1,0))else(0,0,1)
def qlS (w l:Int):Int×Int×Int:=qlR l (qlM w)
def qlT (s:Int):Option (Nat×Nat)→Int×Int×Int
 | none=>(0,0,2)
 | some p=>if 0≤s∧s≤63 then((qlN (s.toNat+1) (qlO p.2):Nat),(p.1:Int),0)else(0,0,1)
def qlU (w s:Int):Int×Int×Int:=qlT s (qlM w)
def qlV (r:Int×Int×Int):Value := .tuple #[I r.1,I r.2.1,I r.2.2]

theorem qlW {w:Int}{t g:Nat}(h:qlM w=some (t,g)):t≤64∧g<4294967296∧w=(qlN t g:Nat):=by
 unfold qlM at h
 split at h
 ·injection h with h
  injection h with h1 h2
  unfold qlN
  omega
 ·cases h

section
variable {lo:Nat}{h:qab}
theorem qlX (lo:Nat)(h:qab)(a b:Nat):qfV En lo Id.zbN [N a,N b] h=some (cx a b,h):=by
 refine qgy rfl Fn.zbN rfl rfl ?_
 repeat' first|refine .A ?_|refine .B ?_|refine .J ?_|refine .F ?_|refine .Y ?_|fail
 show Ir.tidy h (.complex .f64 (FloatKind.f64.nearest (a:Int)) (FloatKind.f64.nearest (b:Int))) h=_
 rw [qlF,qlF]
 rfl
theorem qlY {n:Nat}(h:n<2 ^ 53):IntKind.i64.min≤(n:Int)∧(n:Int)≤IntKind.i64.max:=by
 have e1:IntKind.i64.min = -9223372036854775808:=by decide
 have e2:IntKind.i64.max=9223372036854775807:=by decide
 rw [e1,e2];omega
theorem qlZ (lo:Nat)(h:qab){a:Nat}(b:Nat)(ha:a<2 ^ 53):qfV En lo Id.zbK [cx a b] h=some (N a,h):=by
 refine qgy rfl Fn.zbK rfl rfl ?_
 repeat' first|refine .A ?_|refine .B ?_|refine .J ?_|refine .convF rfl rfl (qlK ha) (qlY ha) ?_|refine .F ?_|refine .Y ?_|fail
 rfl
theorem ql0 (lo:Nat)(h:qab)(a:Nat){b:Nat}(hb:b<2 ^ 53):qfV En lo Id.zbJ [cx a b] h=some (N b,h):=by
 refine qgy rfl Fn.zbJ rfl rfl ?_
 repeat' first|refine .A ?_|refine .B ?_|refine .J ?_|refine .convF rfl rfl (qlK hb) (qlY hb) ?_|refine .F ?_|refine .Y ?_|fail
 rfl
theorem ql1 (lo:Nat)(h:qab):qfV En lo Id.zbQ [] h=some (fld 0 20,h):=callR_iff.2 ⟨60,by kernel_rfl⟩
theorem ql2 (lo:Nat)(h:qab):qfV En lo Id.zbP [] h=some (fld 20 32,h):=callR_iff.2 ⟨60,by kernel_rfl⟩
theorem ql3 (lo:Nat)(h:qab)(n:Int):qfV En lo Id.zbM [I n] h=some (.bool (decide (0≤n∧n≤64)),h):=by
 refine qgy rfl Fn.zbM rfl rfl ?_
 by_cases h0:0≤n
 ·by_cases h1:n≤64
  ·rw [decide_eq_true ⟨h0,h1⟩]
   repeat' first|refine .A ?_|refine .B ?_|refine .J ?_|refine .t2 ?_|refine .t4 ?_|refine .F ?_|refine .Y ?_|fail
   rfl
  ·rw [decide_eq_false (fun g=>h1 g.2)]
   repeat' first|refine .A ?_|refine .B ?_|refine .J ?_|refine .f2 ?_|refine .t4 ?_|refine .F ?_|refine .Y ?_|fail
   rfl
 ·rw [decide_eq_false (fun g=>h0 g.1)]
  repeat' first|refine .A ?_|refine .B ?_|refine .J ?_|refine .f4 ?_|refine .D ?_|refine .F ?_|refine .Y ?_|fail
  rfl
theorem ql4 (lo:Nat)(h:qab){t g:Nat}(ht:t<1048576)(hg:g<4294967296):qfV En lo Id.zbL [cx t g] h=some (N (qlN t g),h):=by
 have h1:∀lo,qfV En lo Id.zbq [N 0,fld 0 20,N t] h=some (.tuple #[N t,I 0],h):=fun lo=>by
  have:=qjW (lo:=lo) (h:=h) (a:=0) (b:=20) (n:=0) (k:=t) (by omega) (by omega) (by omega) (by omega)
  rw [show 0+t*2 ^ 0=t by omega]at this
  exact this
 have h2:∀lo,qfV En lo Id.zbq [N t,fld 20 32,N g] h=some (.tuple #[N (qlN t g),I 0],h):=fun lo=>by
  have:=qjW (lo:=lo) (h:=h) (a:=20) (b:=32) (n:=t) (k:=g) (by omega) (by omega) (by omega) (by omega)
  rw [show t+g*2 ^ 20=qlN t g by unfold qlN;omega]at this
  exact this
 have hT:=fun lo=>qlZ lo h (a:=t) g (by omega)
 have hG:=fun lo=>ql0 lo h t (b:=g) (by omega)
 refine qgy rfl Fn.zbL rfl rfl ?_
 repeat' first|refine .A ?_|refine .B ?_|refine .J ?_|(show EG _ _ (⟨_,.call _ _,_,_⟩::_) _ _ _ _ _ _;first|refine .P (ql1 _ _) ?_|refine .P (ql2 _ _) ?_|refine .P (hT _) ?_|refine .P (hG _) ?_|refine .P (h1 _) ?_|refine .P (h2 _) ?_)|refine .F ?_|refine .Y ?_|fail
 rfl
theorem ql5 (lo:Nat)(h:qab)(t:Nat){g:Nat}(hg:g<4294967296)(s:Nat):qfV En lo Id.zbI [cx t g,N s] h=some (cx s (qlO g),h):=by
 have hG:=fun lo=>ql0 lo h t (b:=g) (by omega)
 have hO:=fun lo b=>qlX lo h s b
 refine qgy rfl Fn.zbI rfl rfl ?_
 unfold qlO
 by_cases hc:g=4294967295
 ·rw [if_pos hc]
  have h0:∀lo,qfV En lo Id.zbN [N s,I 0] h=some (cx s 0,h):=fun lo=>hO lo 0
  repeat' first|refine .A ?_|refine .B ?_|refine .C ?_|refine .J ?_|refine .t5 ?_|refine .P (hG _) ?_|refine .P (h0 _) ?_|refine .F ?_|fail
  rfl
 ·rw [if_neg hc]
  repeat' first|refine .A ?_|refine .B ?_|refine .D ?_|refine .F ?_|refine .J ?_|refine .f5 ?_|refine .n2 ?_|refine .P (hG _) ?_|refine .P (hO _ _) ?_|fail
  rfl
theorem ql6 {a b:Nat}{w:Int}(hw:¬(0≤w∧w<4611686018427387904)):qfV En lo Id.zbp [I w,fld a b] h=some (I 0,h):=by
 have hW:=fun lo=>qjQ lo h w
 rw [decide_eq_false hw]at hW
 refine qgy rfl Fn.zbp rfl rfl ?_
 repeat' first|refine .A ?_|refine .B ?_|refine .C ?_|refine .J ?_|refine .P (hW _) ?_|refine .F ?_|refine .Y ?_|fail
 rfl

def ql7:Option (Nat×Nat)→Value
 | some p => .tuple #[cx p.1 p.2,I 0]
 | none => .tuple #[.complex .f64 0 0,I 2]
def ql8 (w:Int):Value:=ql7 (qlM w)
theorem ql9 (lo:Nat)(h:qab){t g n:Nat}(ht:t<1048576)(hg:g<4294967296)(h1:∀lo,qfV En lo Id.zbp [N n,fld 0 20] h=some (N t,h))(h2:∀lo,qfV En lo Id.zbp [N n,fld 20 32] h=some (N g,h)) :
  qfV En lo Id.zbO [N n] h=some (if t≤64∧qlN t g=n then .tuple #[cx t g,I 0]else .tuple #[.complex .f64 0 0,I 2],h):=by
 have hO:=fun lo=>qlX lo h t g
 have hT:=fun lo=>qlZ lo h (a:=t) g (by omega)
 have hM:=fun lo=>ql3 lo h (t:Int)
 have hW:=fun lo=>ql4 lo h (t:=t) (g:=g) ht hg
 generalize qlN t g=e at *
 refine qgy rfl Fn.zbO rfl rfl ?_
 by_cases h64:t≤64
 ·rw [decide_eq_true (by omega)]at hM
  by_cases he:e=n
  ·rw [if_pos ⟨h64,he⟩]
   repeat' first|refine .A ?_|refine .B ?_|refine .D ?_|refine .F ?_|refine .J ?_|refine .f6 ?_|(show EG _ _ (⟨_,.call _ _,_,_⟩::_) _ _ _ _ _ _;first|refine .P (ql1 _ _) ?_|refine .P (ql2 _ _) ?_|refine .P (h1 _) ?_|refine .P (h2 _) ?_|refine .P (hO _) ?_|refine .P (hT _) ?_|refine .P (hM _) ?_|refine .P (hW _) ?_)|refine .Y ?_|fail
   rfl
  ·rw [if_neg (fun g=>he g.2)]
   repeat' first|refine .A ?_|refine .B ?_|refine .C ?_|refine .J ?_|refine .t6 ?_|(show EG _ _ (⟨_,.call _ _,_,_⟩::_) _ _ _ _ _ _;first|refine .P (ql1 _ _) ?_|refine .P (ql2 _ _) ?_|refine .P (h1 _) ?_|refine .P (h2 _) ?_|refine .P (hO _) ?_|refine .P (hT _) ?_|refine .P (hM _) ?_|refine .P (hW _) ?_)|refine .F ?_|refine .Y ?_|fail
   rfl
 ·rw [decide_eq_false (by omega)]at hM
  rw [if_neg (fun g=>h64 g.1)]
  repeat' first|refine .A ?_|refine .B ?_|refine .C ?_|refine .J ?_|(show EG _ _ (⟨_,.call _ _,_,_⟩::_) _ _ _ _ _ _;first|refine .P (ql1 _ _) ?_|refine .P (ql2 _ _) ?_|refine .P (h1 _) ?_|refine .P (h2 _) ?_|refine .P (hO _) ?_|refine .P (hT _) ?_|refine .P (hM _) ?_)|refine .D ?_|refine .F ?_|refine .Y ?_|fail
  rfl
theorem qma (lo:Nat)(h:qab){w:Int}(hw:¬(0≤w∧w<4611686018427387904)):qfV En lo Id.zbO [I w] h=some (.tuple #[.complex .f64 0 0,I 2],h):=by
 have h1:∀lo,qfV En lo Id.zbp [I w,fld 0 20] h=some (N 0,h):=fun lo=>ql6 hw
 have h2:∀lo,qfV En lo Id.zbp [I w,fld 20 32] h=some (N 0,h):=fun lo=>ql6 hw
 have hO:=fun lo=>qlX lo h 0 0
 have hT:=fun lo=>qlZ lo h (a:=0) 0 (by omega)
 have hM:∀lo,qfV En lo Id.zbM [N 0] h=some (.bool true,h):=fun lo=>ql3 lo h ((0:Nat):Int)
 have hW:∀lo,qfV En lo Id.zbL [cx 0 0] h=some (N 0,h):=fun lo=>ql4 lo h (t:=0) (g:=0) (by omega) (by omega)
 refine qgy rfl Fn.zbO rfl rfl ?_
 repeat' first|refine .A ?_|refine .B ?_|refine .C ?_|refine .J ?_|refine .t6 ?_|(show EG _ _ (⟨_,.call _ _,_,_⟩::_) _ _ _ _ _ _;first|refine .P (ql1 _ _) ?_|refine .P (ql2 _ _) ?_|refine .P (h1 _) ?_|refine .P (h2 _) ?_|refine .P (hO _) ?_|refine .P (hT _) ?_|refine .P (hM _) ?_|refine .P (hW _) ?_)|refine .F ?_|refine .Y ?_|fail
 rfl
theorem qmb (n t g:Nat)(e1:n%1048576=t)(e2:n/1048576%4294967296=g)(ht:t<1048576)(hg:g<4294967296):ql8 (n:Int)=if t≤64∧qlN t g=n then .tuple #[cx t g,I 0]else .tuple #[.complex .f64 0 0,I 2]:=by
 unfold ql8
 by_cases hc:t≤64∧qlN t g=n
 ·have hc2:=hc.2
  unfold qlN at hc2
  have hU:qlM (n:Int)=some (t,g):=by
   unfold qlM
   have a1:((n:Int)%1048576).toNat=t:=by omega
   have a2:((n:Int)/1048576).toNat=g:=by omega
   rw [if_pos (by omega),a1,a2]
  rw [hU,if_pos hc]
  rfl
 ·rw [if_neg hc]
  have hU:qlM (n:Int)=none:=by
   unfold qlM
   unfold qlN at hc
   rw [if_neg (by omega)]
  rw [hU]
  rfl
theorem qmc (lo:Nat)(h:qab)(w:Int):qfV En lo Id.zbO [I w] h=some (ql8 w,h):=by
 by_cases hw:0≤w∧w<4611686018427387904
 ·obtain⟨n,rfl⟩:∃n:Nat,w=n:=⟨w.toNat,by omega⟩
  have h1:∀lo,qfV En lo Id.zbp [N n,fld 0 20] h=some (N (n/2 ^ 0%2 ^ 20),h):=fun lo=>qjV (lo:=lo) (h:=h) (a:=0) (b:=20) (n:=n) (by omega) (by omega) (by omega)
  have h2:∀lo,qfV En lo Id.zbp [N n,fld 20 32] h=some (N (n/2 ^ 20%2 ^ 32),h):=fun lo=>qjV (lo:=lo) (h:=h) (a:=20) (b:=32) (n:=n) (by omega) (by omega) (by omega)
  obtain⟨t,et⟩:∃t,n/2 ^ 0%2 ^ 20=t:=⟨_,rfl⟩
  obtain⟨g,eg⟩:∃g,n/2 ^ 20%2 ^ 32=g:=⟨_,rfl⟩
  rw [et]at h1
  rw [eg]at h2
  have ht:t<1048576:=by omega
  have hg:g<4294967296:=by omega
  rw [ql9 lo h ht hg h1 h2,qmb n t g (by omega) (by omega) ht hg]
 ·rw [qma lo h hw]
  unfold ql8
  have hU:qlM w=none:=by
   unfold qlM
   rw [if_neg (by omega)]
  rw [hU]
  rfl

theorem qmd (lo:Nat)(h:qab)(w:Int):qfV En lo Id.zbH [I w] h=some (qlQ w,h):=by
 have hR:=fun lo=>qmc lo h w
 refine qgy rfl Fn.zbH rfl rfl ?_
 unfold ql8 at hR
 unfold qlQ
 cases hU:qlM w with
 | none =>
   rw [hU]at hR
   simp only [ql7,qlP,qlR,qlT]at hR⊢
   have e:Value.complex .f64 0 0=cx 0 0:=by
    show Value.complex .f64 0 0 = .complex .f64 (fl 0) (fl 0)
    rw [qlL]
   have hT:=fun lo=>qlZ lo h (a:=0) 0 (by omega)
   have hG:=fun lo=>ql0 lo h 0 (b:=0) (by omega)
   rw [←e]at hT hG
   repeat' first|refine .A ?_|refine .B ?_|refine .J ?_|refine .P (hR _) ?_|refine .P (hT _) ?_|refine .P (hG _) ?_|refine .F ?_|refine .Y ?_|fail
   rfl
 | some p =>
   obtain⟨t,g⟩:=p
   obtain⟨h1,h2,_⟩:=qlW hU
   rw [hU]at hR
   simp only [ql7,qlP,qlR,qlT]at hR⊢
   have hT:=fun lo=>qlZ lo h (a:=t) g (by omega)
   have hG:=fun lo=>ql0 lo h t (b:=g) (by omega)
   repeat' first|refine .A ?_|refine .B ?_|refine .J ?_|refine .P (hR _) ?_|refine .P (hT _) ?_|refine .P (hG _) ?_|refine .F ?_|refine .Y ?_|fail
   rfl

theorem qme {g:Nat}(hg:g<4294967296):qlO g<4294967296:=by unfold qlO;split<;>omega

theorem qmf (lo:Nat)(h:qab)(w l:Int):qfV En lo Id.zbF [I w,I l] h=some (qlV (qlS w l),h):=by
 have hR:=fun lo=>qmc lo h w
 have hM:=fun lo=>ql3 lo h l
 refine qgy rfl Fn.zbF rfl rfl ?_
 unfold ql8 at hR
 unfold qlS qlV
 cases hU:qlM w with
 | none =>
   rw [hU]at hR
   simp only [ql7,qlP,qlR,qlT]at hR⊢
   repeat' first|refine .A ?_|refine .B ?_|refine .C ?_|refine .G ?_|refine .J ?_|refine .t6 ?_|refine .P (hR _) ?_|refine .F ?_|refine .Y ?_|fail
   rfl
 | some p =>
   obtain⟨t,g⟩:=p
   obtain⟨h1,h2,_⟩:=qlW hU
   rw [hU]at hR
   simp only [ql7,qlP,qlR,qlT]at hR⊢
   have hT:=fun lo=>qlZ lo h (a:=t) g (by omega)
   by_cases hl:0≤l∧l≤64
   ·rw [decide_eq_true hl]at hM
    rw [if_pos hl]
    obtain⟨k,rfl⟩:∃k:Nat,l=k:=⟨l.toNat,by omega⟩
    by_cases ht:t=0
    ·rw [if_pos ht]
     repeat' first|refine .A ?_|refine .B ?_|refine .C ?_|refine .D ?_|refine .G ?_|refine .J ?_|refine .t5 ?_|refine .f6 ?_|refine .P (hR _) ?_|refine .P (hM _) ?_|refine .P (hT _) ?_|refine .F ?_|refine .Y ?_|fail
     rfl
    ·rw [if_neg ht]
     rw [Int.toNat_natCast]
     have hB:=fun lo=>ql5 lo h t h2 k
     have hg:=qme h2
     generalize qlO g=g' at hB hg⊢
     have hW:=fun lo=>ql4 lo h (t:=k) (g:=g') (by omega) hg
     have hs:IntKind.i64.wrap ((t:Int)-1)=(t:Int)-1:=qiL (by omega) (by omega)
     repeat' first|refine .A ?_|refine .B ?_|refine .D ?_|refine .F ?_|refine .G ?_|refine .H ?_|refine .J ?_|refine .f5 ?_|refine .f6 ?_|(show EG _ _ (⟨_,.call _ _,_,_⟩::_) _ _ _ _ _ _;first|refine .P (hR _) ?_|refine .P (hM _) ?_|refine .P (hT _) ?_|refine .P (hB _) ?_|refine .P (hW _) ?_)|refine .Y ?_|fail
     simp only [hs]
     rfl
   ·rw [decide_eq_false hl]at hM
    rw [if_neg hl]
    repeat' first|refine .A ?_|refine .B ?_|refine .C ?_|refine .D ?_|refine .G ?_|refine .J ?_|refine .f6 ?_|refine .P (hR _) ?_|refine .P (hM _) ?_|refine .F ?_|refine .Y ?_|fail
    rfl

theorem qmg (lo:Nat)(h:qab)(w s:Int):qfV En lo Id.zbG [I w,I s] h=some (qlV (qlU w s),h):=by
 have hR:=fun lo=>qmc lo h w
 refine qgy rfl Fn.zbG rfl rfl ?_
 unfold ql8 at hR
 unfold qlU qlV
 cases hU:qlM w with
 | none =>
   rw [hU]at hR
   simp only [ql7,qlP,qlR,qlT]at hR⊢
   repeat' first|refine .A ?_|refine .B ?_|refine .C ?_|refine .G ?_|refine .J ?_|refine .t6 ?_|refine .P (hR _) ?_|refine .F ?_|refine .Y ?_|fail
   rfl
 | some p =>
   obtain⟨t,g⟩:=p
   obtain⟨h1,h2,_⟩:=qlW hU
   rw [hU]at hR
   simp only [ql7,qlP,qlR,qlT]at hR⊢
   have hT:=fun lo=>qlZ lo h (a:=t) g (by omega)
   by_cases h0:0≤s
   ·by_cases hs:s≤63
    ·rw [if_pos ⟨h0,hs⟩]
     obtain⟨k,rfl⟩:∃k:Nat,s=k:=⟨s.toNat,by omega⟩
     rw [Int.toNat_natCast]
     have hB:=fun lo=>ql5 lo h t h2 (k+1)
     have hg:=qme h2
     generalize qlO g=g' at hB hg⊢
     have hW:=fun lo=>ql4 lo h (t:=k+1) (g:=g') (by omega) hg
     repeat' first|refine .A ?_|refine .B ?_|refine .D ?_|refine .F ?_|refine .G ?_|refine .H ?_|refine .J ?_|refine .f1 ?_|refine .f4 ?_|refine .f6 ?_|refine .n2 ?_|refine .P (hR _) ?_|refine .P (hT _) ?_|refine .P (hB _) ?_|refine .P (hW _) ?_|refine .Y ?_|fail
     rfl
    ·rw [if_neg (fun g=>hs g.2)]
     repeat' first|refine .A ?_|refine .B ?_|refine .C ?_|refine .D ?_|refine .G ?_|refine .J ?_|refine .f1 ?_|refine .t4 ?_|refine .f6 ?_|refine .P (hR _) ?_|refine .F ?_|refine .Y ?_|fail
     rfl
   ·rw [if_neg (fun g=>h0 g.1)]
    repeat' first|refine .A ?_|refine .B ?_|refine .C ?_|refine .D ?_|refine .G ?_|refine .J ?_|refine .t1 ?_|refine .f6 ?_|refine .P (hR _) ?_|refine .F ?_|refine .Y ?_|fail
    rfl
end
end Go.Proofs.YtdinebegmppnoaaGreat

/- Entries changed: by the program, and by the document. -/
namespace Go.Proofs.YtdinebegmppnoaaGreat
open Go Go.Ir

def chE (w:Int)(F:Ent→Int×Ent):Int×Int :=
 match qjZ w with
 | none=>(0,2)
 | some e=>if e.lv then(if(F e).1=0 then(if(F e).2.may then((qj0 (F e).2:Nat),0)else(0,1))else(0,(F e).1))else(0,1)
def qmh (e:Ent):Int×Ent:=if e.lk then(1,e)else if e.p=7 then(7,e)else(0,{e with p:=IntKind.i64.wrap (e.p+1)})
def qmi (e:Ent):Int×Ent:=if e.p=0 then(8,e)else(0,{e with p:=IntKind.i64.wrap (e.p-1)})
def qmj (b:Int)(e:Ent):Int×Ent:=if b < -15∨15<b then(1,e)else(0,{e with u:=IntKind.i64.wrap (e.u+b)})
def qmk (r:Int×Int):Value := .tuple #[I r.1,I r.2]

theorem qml (h:qab)(k k':Blk):(h ++ [k]).set h.length k'=h ++ [k']:=by rw [List.set_append_right _ _ (Nat.le_refl _),Nat.sub_self];rfl

theorem qmm {lo:Nat}{h:qab}{w:Int}{F:Ent→Int×Ent}{G:Ent→qab}{fn:Nat}{caps:Array Value}(hlo:lo≤h.length)
  (hf:∀e,qfV En lo fn (.pointer (some ⟨h.length,0,none⟩)::caps.toList) (h ++ [.row e.cs false])=some (I (F e).1,G e)) (hg:∀e,(G e)[h.length]? = some (.row (F e).2.cs false)) :
  qfV En lo Id.zbe [I w,.func (.func fn) #[] caps] h=some (qmk (chE w F),match qjZ w with|none=>h ++ [.row Ent.zero.cs false]|some e=>if e.lv then G e else h ++ [.row e.cs false]):=by
 have hU:=fun lo h=>qkb lo h w
 have hcat:∀k:Blk,(h ++ [k])[h.length]? = some k:=fun k=>List.getElem?_concat_length
 cases hu:qjZ w with
 | none =>
   rw [hu]at hU
   have hst:stN lo (h ++ [.row [I 0,I 0,I 0,I 0,.bool false,.bool false] false]) ⟨h.length,0,none⟩ (qaf (.agg Ent.zero.cs.toArray))=some (h ++ [.row Ent.zero.cs false]) :=
    (qis (w:=Ent.zero.cs) (hcat _) hlo (Nat.le_of_ble_eq_true rfl) rfl).trans (by rw [qml])
   have hch:chE w F=(0,2):=by unfold chE;rw [hu]
   rw [hch]
   refine qgx rfl Fn.zbe rfl rfl ?_
   repeat' first|refine .A ?_|refine .B ?_|refine .C ?_|refine .G ?_|refine .J ?_|refine .t6 ?_|refine .P (hU _ _) ?_|refine .S hst ?_|refine .F ?_|refine .Y ?_|fail
   rfl
 | some e =>
   rw [hu]at hU
   have hst:stN lo (h ++ [.row [I 0,I 0,I 0,I 0,.bool false,.bool false] false]) ⟨h.length,0,none⟩ (qaf (.agg e.cs.toArray))=some (h ++ [.row e.cs false]) :=
    (qis (w:=e.cs) (hcat _) hlo (Nat.le_of_ble_eq_true rfl) rfl).trans (by rw [qml])
   have l5:qav (h ++ [.row e.cs false]) none ⟨h.length,0+5,none⟩=some (.bool e.lv):=qiq (hcat _) rfl
   have hC:=hf e
   have l6:qav (G e) (some 6) ⟨h.length,0,none⟩=some (.agg (F e).2.cs.toArray):=qir (hg e) (Nat.le_of_ble_eq_true rfl) rfl
   have hP:=fun lo=>qkd lo (G e) (F e).2
   unfold pkV at hP
   have hch:chE w F=if e.lv then(if(F e).1=0 then(if(F e).2.may then(((qj0 (F e).2:Nat):Int),(0:Int))else(0,1))else(0,(F e).1))else(0,1):=by unfold chE;rw [hu]
   rw [hch]
   generalize hFe:F e=r at hC l6 hP⊢
   obtain⟨c,e'⟩:=r
   have hC:qfV En lo fn (.pointer (some ⟨h.length,0,none⟩)::caps.toList) (h ++ [.row e.cs false])=some (I c,G e):=hC
   have l6:qav (G e) (some 6) ⟨h.length,0,none⟩=some (.agg e'.cs.toArray):=l6
   have hP:∀lo,qfV En lo Id.zaX [.agg e'.cs.toArray] (G e)=some (if e'.may then .tuple #[N (qj0 e'),I 0]else .tuple #[I 0,I 1],G e):=hP
   show qfV En lo Id.zbe [I w,.func (.func fn) #[] caps] h=some (qmk (if e.lv then(if c=0 then(if e'.may then(((qj0 e':Nat):Int),(0:Int))else(0,1))else(0,c))else(0,1)),if e.lv then G e else h ++ [.row e.cs false])
   generalize e.lv=lv at *
   cases lv with
   | false =>
     rw [if_neg (by simp),if_neg (by simp)]
     refine qgx rfl Fn.zbe rfl rfl ?_
     repeat' first|refine .A ?_|refine .B ?_|refine .C ?_|refine .D ?_|refine .G ?_|refine .J ?_|refine .f6 ?_|refine .L l5 ?_|refine .P (hU _ _) ?_|refine .S hst ?_|refine .F ?_|refine .Y ?_|fail
     rfl
   | true =>
     rw [if_pos rfl,if_pos rfl]
     by_cases hc0:c=0
     ·rw [if_pos hc0]
      subst hc0
      by_cases hm:e'.may
      ·rw [if_pos hm]
       simp only [if_pos hm]at hP
       refine qgx rfl Fn.zbe rfl rfl ?_
       repeat' first|refine .A ?_|refine .B ?_|refine .D ?_|refine .F ?_|refine .G ?_|refine .H ?_|refine .J ?_|refine .f6 ?_|refine .L l5 ?_|refine .L l6 ?_|refine .P (hU _ _) ?_|refine .P (hP _) ?_|refine .callv rfl rfl rfl rfl (hC) ?_|refine .S hst ?_|refine .Y ?_|fail
       rfl
      ·rw [if_neg hm]
       simp only [if_neg hm]at hP
       refine qgx rfl Fn.zbe rfl rfl ?_
       repeat' first|refine .A ?_|refine .B ?_|refine .D ?_|refine .F ?_|refine .G ?_|refine .H ?_|refine .J ?_|refine .f6 ?_|refine .L l5 ?_|refine .L l6 ?_|refine .P (hU _ _) ?_|refine .P (hP _) ?_|refine .callv rfl rfl rfl rfl (hC) ?_|refine .S hst ?_|refine .Y ?_|fail
       rfl
     ·rw [if_neg hc0]
      refine qgx rfl Fn.zbe rfl rfl ?_
      repeat' first|refine .A ?_|refine .B ?_|refine .C ?_|refine .D ?_|refine .F ?_|refine .G ?_|refine .H ?_|refine .J ?_|refine .t6 ?_|refine .f6 ?_|refine .L l5 ?_|refine .P (hU _ _) ?_|refine .callv rfl rfl rfl rfl (hC) ?_|refine .S hst ?_|refine .Y ?_|fail
      rfl

section
variable {lo:Nat}{h:qab}{e:Ent}
theorem qmn (hlo:lo≤h.length)(e:Ent):qfV En lo Id.zaZ [.pointer (some ⟨h.length,0,none⟩)] (h ++ [.row e.cs false])=some (I (qmh e).1,h ++ [.row (qmh e).2.cs false]):=by
 have hcat:∀k:Blk,(h ++ [k])[h.length]? = some k:=fun k=>List.getElem?_concat_length
 have l4:qav (h ++ [.row e.cs false]) none ⟨h.length,0+4,none⟩=some (.bool e.lk):=qiq (hcat _) rfl
 have l2:qav (h ++ [.row e.cs false]) none ⟨h.length,0+2,none⟩=some (I e.p):=qiq (hcat _) rfl
 have hst:stN lo (h ++ [.row e.cs false]) ⟨h.length,0+2,none⟩ (qaf (I (IntKind.i64.wrap (e.p+1))))=some (h ++ [.row ({e with p:=IntKind.i64.wrap (e.p+1)} : Ent).cs false]) :=
  (qis (w:=({e with p:=IntKind.i64.wrap (e.p+1)} : Ent).cs) (hcat _) hlo (Nat.le_of_ble_eq_true rfl) rfl).trans (by rw [qml])
 cases hk:e.lk with
 | true =>
   rw [hk]at l4
   have hF:qmh e=(1,e):=by unfold qmh;rw [hk];rfl
   rw [hF]
   refine qgx rfl Fn.zaZ rfl rfl ?_
   repeat' first|refine .A ?_|refine .B ?_|refine .C ?_|refine .G ?_|refine .J ?_|refine .L l4 ?_|refine .F ?_|refine .Y ?_|fail
   rfl
 | false =>
   rw [hk]at l4
   by_cases h7:e.p=7
   ·have hF:qmh e=(7,e):=by unfold qmh;rw [hk,if_neg (by simp),if_pos h7]
    rw [hF]
    refine qgx rfl Fn.zaZ rfl rfl ?_
    repeat' first|refine .A ?_|refine .B ?_|refine .C ?_|refine .D ?_|refine .G ?_|refine .J ?_|refine .t5 ?_|refine .L l4 ?_|refine .L l2 ?_|refine .F ?_|refine .Y ?_|fail
    rfl
   ·have hF:qmh e=(0,{e with p:=IntKind.i64.wrap (e.p+1)}):=by unfold qmh;rw [hk,if_neg (by simp),if_neg h7]
    rw [hF]
    refine qgx rfl Fn.zaZ rfl rfl ?_
    repeat' first|refine .A ?_|refine .B ?_|refine .D ?_|refine .F ?_|refine .G ?_|refine .H ?_|refine .J ?_|refine .f5 ?_|refine .L l4 ?_|refine .L l2 ?_|refine .S hst ?_|refine .Y ?_|fail
    rfl
theorem qmo (hlo:lo≤h.length)(e:Ent):qfV En lo Id.zbc [.pointer (some ⟨h.length,0,none⟩)] (h ++ [.row e.cs false])=some (I (qmi e).1,h ++ [.row (qmi e).2.cs false]):=by
 have hcat:∀k:Blk,(h ++ [k])[h.length]? = some k:=fun k=>List.getElem?_concat_length
 have l2:qav (h ++ [.row e.cs false]) none ⟨h.length,0+2,none⟩=some (I e.p):=qiq (hcat _) rfl
 have hst:stN lo (h ++ [.row e.cs false]) ⟨h.length,0+2,none⟩ (qaf (I (IntKind.i64.wrap (e.p-1))))=some (h ++ [.row ({e with p:=IntKind.i64.wrap (e.p-1)} : Ent).cs false]) :=
  (qis (w:=({e with p:=IntKind.i64.wrap (e.p-1)} : Ent).cs) (hcat _) hlo (Nat.le_of_ble_eq_true rfl) rfl).trans (by rw [qml])
 by_cases h7:e.p=0
 ·have hF:qmi e=(8,e):=by unfold qmi;rw [if_pos h7]
  rw [hF]
  refine qgx rfl Fn.zbc rfl rfl ?_
  repeat' first|refine .A ?_|refine .B ?_|refine .C ?_|refine .J ?_|refine .t5 ?_|refine .L l2 ?_|refine .F ?_|refine .Y ?_|fail
  rfl
 ·have hF:qmi e=(0,{e with p:=IntKind.i64.wrap (e.p-1)}):=by unfold qmi;rw [if_neg h7]
  rw [hF]
  refine qgx rfl Fn.zbc rfl rfl ?_
  repeat' first|refine .A ?_|refine .B ?_|refine .D ?_|refine .F ?_|refine .J ?_|refine .f5 ?_|refine .L l2 ?_|refine .S hst ?_|refine .Y ?_|fail
  rfl
theorem qmp (b:Int)(hlo:lo≤(h ++ [Blk.row [I b] false]).length)(e:Ent):qfV En lo Id.zaQ [.pointer (some ⟨(h ++ [Blk.row [I b] false]).length,0,none⟩),.pointer (some ⟨h.length,0,none⟩)] (h ++ [Blk.row [I b] false] ++ [.row e.cs false])=some (I (qmj b e).1,h ++ [Blk.row [I b] false] ++ [.row (qmj b e).2.cs false]):=by
 have hcb:(h ++ [Blk.row [I b] false] ++ [.row e.cs false])[h.length]? = some (.row [I b] false):=by
  rw [List.getElem?_append_left (by simp)];exact List.getElem?_concat_length
 have lb:qav (h ++ [Blk.row [I b] false] ++ [.row e.cs false]) none ⟨h.length,0,none⟩=some (I b):=qiq hcb rfl
 generalize h ++ [Blk.row [I b] false]=h1 at *
 have hcat:∀k:Blk,(h1 ++ [k])[h1.length]? = some k:=fun k=>List.getElem?_concat_length
 have l3:qav (h1 ++ [.row e.cs false]) none ⟨h1.length,0+3,none⟩=some (I e.u):=qiq (hcat _) rfl
 have hst:stN lo (h1 ++ [.row e.cs false]) ⟨h1.length,0+3,none⟩ (qaf (I (IntKind.i64.wrap (e.u+b))))=some (h1 ++ [.row ({e with u:=IntKind.i64.wrap (e.u+b)} : Ent).cs false]) :=
  (qis (w:=({e with u:=IntKind.i64.wrap (e.u+b)} : Ent).cs) (hcat _) hlo (Nat.le_of_ble_eq_true rfl) rfl).trans (by rw [qml])
 refine qgx rfl Fn.zaQ rfl rfl ?_
 unfold qmj
 by_cases h1':b < -15
 ·rw [if_pos (.inl h1')]
  repeat' first|refine .A ?_|refine .B ?_|refine .C ?_|refine .J ?_|refine .t1 ?_|refine .L lb ?_|refine .D ?_|refine .F ?_|refine .Y ?_|fail
  rfl
 ·by_cases h2':15<b
  ·rw [if_pos (.inr h2')]
   repeat' first|refine .A ?_|refine .B ?_|refine .C ?_|refine .J ?_|refine .f1 ?_|refine .t3 ?_|refine .L lb ?_|refine .F ?_|refine .Y ?_|fail
   rfl
  ·rw [if_neg (by omega)]
   repeat' first|refine .A ?_|refine .B ?_|refine .D ?_|refine .F ?_|refine .J ?_|refine .f1 ?_|refine .f3 ?_|refine .L lb ?_|refine .L l3 ?_|refine .S hst ?_|refine .Y ?_|fail
   rfl

theorem qmq (lo:Nat)(h:qab)(w:Int):qfV En lo Id.zaY [I w] h=some (qmk (chE w qmh),h):=by
 have hC:=qmm (lo:=h.length) (h:=h) (w:=w) (F:=qmh) (G:=fun e=>h ++ [.row (qmh e).2.cs false]) (fn:=Id.zaZ) (caps := #[]) (Nat.le_refl _) (fun e=>qmn (Nat.le_refl _) e) (fun e=>List.getElem?_concat_length)
 refine qgy rfl Fn.zaY rfl rfl ?_
 unfold qmk at hC⊢
 repeat' first|refine .A ?_|refine .B ?_|refine .J ?_|refine .P hC ?_|refine .F ?_|refine .Y ?_|fail
 rfl
theorem qmr (lo:Nat)(h:qab)(w:Int):qfV En lo Id.zbb [I w] h=some (qmk (chE w qmi),h):=by
 have hC:=qmm (lo:=h.length) (h:=h) (w:=w) (F:=qmi) (G:=fun e=>h ++ [.row (qmi e).2.cs false]) (fn:=Id.zbc) (caps := #[]) (Nat.le_refl _) (fun e=>qmo (Nat.le_refl _) e) (fun e=>List.getElem?_concat_length)
 refine qgy rfl Fn.zbb rfl rfl ?_
 unfold qmk at hC⊢
 repeat' first|refine .A ?_|refine .B ?_|refine .J ?_|refine .P hC ?_|refine .F ?_|refine .Y ?_|fail
 rfl
theorem qms (lo:Nat)(h:qab)(w b:Int):qfV En lo Id.zaP [I w,I b] h=some (qmk (chE w (qmj b)),h):=by
 have hC:=qmm (lo:=h.length) (h:=h ++ [.row [I b] false]) (w:=w) (F:=qmj b) (G:=fun e=>h ++ [.row [I b] false] ++ [.row (qmj b e).2.cs false]) (fn:=Id.zaQ) (caps := #[.pointer (some ⟨h.length,0,none⟩)]) (by simp) (fun e=>qmp b (by simp) e) (fun e=>List.getElem?_concat_length)
 refine qgy rfl Fn.zaP rfl rfl ?_
 unfold qmk at hC⊢
 repeat' first|refine .A ?_|refine .B ?_|refine .J ?_|refine .P hC ?_|refine .F ?_|refine .Y ?_|fail
 rfl
end
end Go.Proofs.YtdinebegmppnoaaGreat

/- Entries, changed, locked, moved. -/
namespace Go.Proofs.YtdinebegmppnoaaGreat
open Go Go.Ir

def chV (w:Int)(f:Ent→Ent):Value :=
 match qjZ w with
 | none => .tuple #[I 0,I 2]
 | some e=>if e.lv then pkV (f e)else .tuple #[I 0,I 1]

theorem qmt {lo:Nat}{H:qab}{b c:Nat}{on:Bool}{e:Ent}(hb:H[b]? = some (.row [.bool on] false))(hc:H[c]? = some (.row e.cs false))(hlo:lo≤c) :
  qfV En lo Id.zaS [.pointer (some ⟨c,0,none⟩),.pointer (some ⟨b,0,none⟩)] H=some (I 0,H.set c (.row ({e with lk:=on} : Ent).cs false)):=by
 have l1:qav H none ⟨b,0,none⟩=some (.bool on):=qiq hb rfl
 have hst:stN lo H ⟨c,0+4,none⟩ (qaf (.bool on))=some (H.set c (.row ({e with lk:=on} : Ent).cs false)):=qis hc hlo (Nat.le_of_ble_eq_true rfl) rfl
 refine qgx rfl Fn.zaS rfl rfl ?_
 repeat' (first|(show ER _ _ _ _ _ _ _;first|refine .seq ?_|refine .reg ?_|refine .yes rfl ?_|refine .no rfl ?_|refine .skip ?_|refine .block ?_|refine .endB ?_|refine .exit rfl ?_|refine .br rfl (fun hc => ?_) (fun hc => ?_)|refine .scope ?_|refine .inScope ?_|refine .label ?_|refine .ret rfl ?_|refine .nil rfl ?_)|(show EG _ _ _ _ _ _ _ _ _;first|refine .mov rfl rfl ?_|refine .lload rfl rfl rfl rfl ?_|refine .laddr rfl rfl rfl ?_|(show EG _ _ (⟨_,.bin _ _ _,_,_⟩::_) _ _ _ _ _ _;first|refine .lss rfl rfl rfl (fun hc => ?_) (fun hc => ?_)|refine .leq rfl rfl rfl (fun hc => ?_) (fun hc => ?_)|refine .gtr rfl rfl rfl (fun hc => ?_) (fun hc => ?_)|refine .geq rfl rfl rfl (fun hc => ?_) (fun hc => ?_)|refine .eql rfl rfl rfl (fun hc => ?_) (fun hc => ?_)|refine .neq rfl rfl rfl (fun hc => ?_) (fun hc => ?_))|refine .load rfl rfl (l1) ?_|refine .store rfl rfl rfl rfl rfl hst ?_|refine .skip rfl ?_|refine .fin ?_|refine .go rfl rfl rfl ?_|refine .gono rfl rfl rfl ?_|refine .skipn rfl ?_))
 rfl
theorem qmu {lo:Nat}{H:qab}{b c:Nat}{to:Int}{e:Ent}(hb:H[b]? = some (.row [I to] false))(hc:H[c]? = some (.row e.cs false))(hlo:lo≤c)(hbc:b≠c) :
  qfV En lo Id.zaU [.pointer (some ⟨c,0,none⟩),.pointer (some ⟨b,0,none⟩)] H=some (I 0,H.set c (.row ({e with o:=to,lk:=false} : Ent).cs false)):=by
 have l1:qav H none ⟨b,0,none⟩=some (I to):=qiq hb rfl
 have h1:stN lo H ⟨c,0+0,none⟩ (qaf (I to))=some (H.set c (.row ({e with o:=to} : Ent).cs false)):=qis hc hlo (Nat.le_of_ble_eq_true rfl) rfl
 have h2:stN lo (H.set c (.row ({e with o:=to} : Ent).cs false)) ⟨c,0+4,none⟩ (qaf (.bool false))=some (H.set c (.row ({e with o:=to,lk:=false} : Ent).cs false)) :=
  (qis (qim (qip hc)) hlo (Nat.le_of_ble_eq_true rfl) rfl).trans (by rw [List.set_set];rfl)
 refine qgx rfl Fn.zaU rfl rfl ?_
 repeat' (first|(show ER _ _ _ _ _ _ _;first|refine .seq ?_|refine .reg ?_|refine .yes rfl ?_|refine .no rfl ?_|refine .skip ?_|refine .block ?_|refine .endB ?_|refine .exit rfl ?_|refine .br rfl (fun hc => ?_) (fun hc => ?_)|refine .scope ?_|refine .inScope ?_|refine .label ?_|refine .ret rfl ?_|refine .nil rfl ?_)|(show EG _ _ _ _ _ _ _ _ _;first|refine .mov rfl rfl ?_|refine .lload rfl rfl rfl rfl ?_|refine .laddr rfl rfl rfl ?_|(show EG _ _ (⟨_,.bin _ _ _,_,_⟩::_) _ _ _ _ _ _;first|refine .lss rfl rfl rfl (fun hc => ?_) (fun hc => ?_)|refine .leq rfl rfl rfl (fun hc => ?_) (fun hc => ?_)|refine .gtr rfl rfl rfl (fun hc => ?_) (fun hc => ?_)|refine .geq rfl rfl rfl (fun hc => ?_) (fun hc => ?_)|refine .eql rfl rfl rfl (fun hc => ?_) (fun hc => ?_)|refine .neq rfl rfl rfl (fun hc => ?_) (fun hc => ?_))|refine .load rfl rfl (l1) ?_|refine .store rfl rfl rfl rfl rfl h1 ?_|refine .store rfl rfl rfl rfl rfl h2 ?_|refine .skip rfl ?_|refine .fin ?_|refine .go rfl rfl rfl ?_|refine .gono rfl rfl rfl ?_|refine .skipn rfl ?_))
 rfl

theorem qmv (w:Int)(f:Ent→Ent):qmk (chE w fun e=>(0,f e))=chV w f:=by
 unfold chE chV pkV
 cases qjZ w with
 | none=>rfl
 | some e =>
   simp only
   cases e.lv with
   | false=>rfl
   | true =>
     rw [if_pos rfl,if_pos rfl]
     by_cases h:(f e).may
     ·rw [if_pos h,if_pos h];rfl
     ·rw [if_neg h,if_neg h];rfl
theorem qmw (lo:Nat)(h:qab)(w:Int)(on:Bool):qfV En lo Id.zaR [I w,.bool on] h=some (chV w fun e => {e with lk:=on},h):=by
 have hcb:∀k:Blk,(h ++ [Blk.row [.bool on] false] ++ [k])[h.length]? = some (.row [.bool on] false):=fun k=>by rw [List.getElem?_append_left (by simp)];exact List.getElem?_concat_length
 have hC:=qmm (lo:=h.length) (h:=h ++ [Blk.row [.bool on] false]) (w:=w) (F:=fun e=>(0,{e with lk:=on})) (G:=fun e=>h ++ [Blk.row [.bool on] false] ++ [.row ({e with lk:=on} : Ent).cs false]) (fn:=Id.zaS) (caps := #[.pointer (some ⟨h.length,0,none⟩)]) (by simp)
  (fun e=>(qmt (hcb _) List.getElem?_concat_length (by simp)).trans (by rw [qml])) (fun e=>List.getElem?_concat_length)
 rw [←qmv]
 refine qgy rfl Fn.zaR rfl rfl ?_
 repeat' (first|(show ER _ _ _ _ _ _ _;first|refine .seq ?_|refine .reg ?_|refine .yes rfl ?_|refine .no rfl ?_|refine .skip ?_|refine .block ?_|refine .endB ?_|refine .exit rfl ?_|refine .br rfl (fun hc => ?_) (fun hc => ?_)|refine .scope ?_|refine .inScope ?_|refine .label ?_|refine .ret rfl ?_|refine .nil rfl ?_)|(show EG _ _ _ _ _ _ _ _ _;first|refine .mov rfl rfl ?_|refine .lload rfl rfl rfl rfl ?_|refine .laddr rfl rfl rfl ?_|(show EG _ _ (⟨_,.bin _ _ _,_,_⟩::_) _ _ _ _ _ _;first|refine .lss rfl rfl rfl (fun hc => ?_) (fun hc => ?_)|refine .leq rfl rfl rfl (fun hc => ?_) (fun hc => ?_)|refine .gtr rfl rfl rfl (fun hc => ?_) (fun hc => ?_)|refine .geq rfl rfl rfl (fun hc => ?_) (fun hc => ?_)|refine .eql rfl rfl rfl (fun hc => ?_) (fun hc => ?_)|refine .neq rfl rfl rfl (fun hc => ?_) (fun hc => ?_))|refine .call rfl rfl (hC) ?_|refine .skip rfl ?_|refine .fin ?_|refine .go rfl rfl rfl ?_|refine .gono rfl rfl rfl ?_|refine .skipn rfl ?_))
 rfl
theorem qmx (lo:Nat)(h:qab)(w to:Int):qfV En lo Id.zaT [I w,I to] h=some (chV w fun e => {e with o:=to,lk:=false},h):=by
 have hcb:∀k:Blk,(h ++ [Blk.row [I to] false] ++ [k])[h.length]? = some (.row [I to] false):=fun k=>by rw [List.getElem?_append_left (by simp)];exact List.getElem?_concat_length
 have hC:=qmm (lo:=h.length) (h:=h ++ [Blk.row [I to] false]) (w:=w) (F:=fun e=>(0,{e with o:=to,lk:=false})) (G:=fun e=>h ++ [Blk.row [I to] false] ++ [.row ({e with o:=to,lk:=false} : Ent).cs false]) (fn:=Id.zaU) (caps := #[.pointer (some ⟨h.length,0,none⟩)]) (by simp)
  (fun e=>(qmu (hcb _) List.getElem?_concat_length (by simp) (by simp)).trans (by rw [qml])) (fun e=>List.getElem?_concat_length)
 rw [←qmv]
 refine qgy rfl Fn.zaT rfl rfl ?_
 repeat' (first|(show ER _ _ _ _ _ _ _;first|refine .seq ?_|refine .reg ?_|refine .yes rfl ?_|refine .no rfl ?_|refine .skip ?_|refine .block ?_|refine .endB ?_|refine .exit rfl ?_|refine .br rfl (fun hc => ?_) (fun hc => ?_)|refine .scope ?_|refine .inScope ?_|refine .label ?_|refine .ret rfl ?_|refine .nil rfl ?_)|(show EG _ _ _ _ _ _ _ _ _;first|refine .mov rfl rfl ?_|refine .lload rfl rfl rfl rfl ?_|refine .laddr rfl rfl rfl ?_|(show EG _ _ (⟨_,.bin _ _ _,_,_⟩::_) _ _ _ _ _ _;first|refine .lss rfl rfl rfl (fun hc => ?_) (fun hc => ?_)|refine .leq rfl rfl rfl (fun hc => ?_) (fun hc => ?_)|refine .gtr rfl rfl rfl (fun hc => ?_) (fun hc => ?_)|refine .geq rfl rfl rfl (fun hc => ?_) (fun hc => ?_)|refine .eql rfl rfl rfl (fun hc => ?_) (fun hc => ?_)|refine .neq rfl rfl rfl (fun hc => ?_) (fun hc => ?_))|refine .call rfl rfl (hC) ?_|refine .skip rfl ?_|refine .fin ?_|refine .go rfl rfl rfl ?_|refine .gono rfl rfl rfl ?_|refine .skipn rfl ?_))
 rfl
end Go.Proofs.YtdinebegmppnoaaGreat

