/- A thread's steps keep words in their range, and rows their lengths. -/
import Derived.Test.YtlgnnpkdhbhdgaaGreatThreadQ2
set_option linter.all false
namespace Go.Proofs.YtlgnnpkdhbhdgaaGreat
open Go Go.Ir
def qp9 (n:Int):inR (w64 n):=by unfold inR w64;rw [IntKind.wrap_i64];omega
def qqa {n:Nat}(h:n<2 ^ 62):inR (n:Int):=by unfold inR;omega
def qqb:inR 0:=by unfold inR;omega
def qqc (w:Int)(F:Ent->Int×Ent):inR (chE w F).1:=by
 unfold chE
 split
 ·exact qqb
 ·split
  ·split
   ·split
    ·rename_i h
     exact qqa (Nat.lt_trans (qkd h) (by decide))
    ·exact qqb
   ·exact qqb
  ·exact qqb
def qqd (e:Ent):inR (qpd e):=by
 unfold qpd
 split
 ·rename_i h
  exact qqa (Nat.lt_trans (qkd h) (by decide))
 ·exact qqb
def qqe (w l:Int):inR (ql2 w l).1:=by
 unfold ql2 ql1
 split
 ·exact qqb
 ·rename_i p h
  have hh:=ql6 (t:=p.1) (g:=p.2) h
  have:=qmo hh.2.1
  split
  ·split
   ·exact qqb
   ·refine qqa ?_
    unfold qlX
    omega
  ·exact qqb
def qqf (w s:Int):inR (ql4 w s).1/\inR (ql4 w s).2.1:=by
 unfold ql4 ql3
 split
 ·exact⟨qqb,qqb⟩
 ·rename_i p h
  have hh:=ql6 (t:=p.1) (g:=p.2) h
  have:=qmo hh.2.1
  split
  ·refine⟨qqa ?_,qqa ?_⟩
   ·unfold qlX;omega
   ·omega
  ·exact⟨qqb,qqb⟩
def Mx.rg:Mx->Prop
 | .al s=>inR s.word/\inR s.p.to/\inR s.q.to
 | .fe s=>inR s.p.to
 | .pn s=>inR s.to
 | _=>True
variable {c:Cfg}{ws bs:List Int}
def qqg {s:Sk}(h:Rng ws)(ht:inR s.to):Rng (qnM c s ws).2.1/\inR (qnM c s ws).1.to/\(qnM c s ws).2.1.length=ws.length:=by
 unfold qnM
 repeat' split
 all_goals first|exact⟨h,ht,rfl⟩|exact⟨h,qqe _ _,rfl⟩|exact⟨qnY h _ ht,ht,qi7 _ _ _⟩
def qqh {s:Sk}(h:Rng ws)(ht:inR s.to):Rng (qnN c s ws).2.1/\inR (qnN c s ws).1.to/\(qnN c s ws).2.1.length=ws.length:=by
 unfold qnN
 repeat' split
 all_goals first|exact⟨h,ht,rfl⟩|exact⟨qnY h _ (qqf _ _).2,(qqf _ _).1,qi7 _ _ _⟩|exact⟨qnY h _ ht,ht,qi7 _ _ _⟩
def qqi (ws bs:List Int)(m:Mx)(ws' bs':List Int):Prop:=Rng ws'/\m.rg/\ws'.length=ws.length/\bs'.length=bs.length
def qqj (o:Op4):(mkM o).rg/\(mkM o).ok:=by
 unfold mkM
 repeat' split
 all_goals first|exact⟨trivial,o.hr⟩|exact⟨⟨qqb,qqb,qqb⟩,o.nr⟩|exact⟨qqb,o.hr⟩|exact⟨trivial,trivial⟩
def qqk {s:Wr}(h:Rng ws):Rng (wrS c s ws bs).2.1/\(wrS c s ws bs).2.1.length=ws.length/\(wrS c s ws bs).2.2.1.length=bs.length:=by
 unfold wrS
 repeat' split
 all_goals first|exact⟨h,rfl,rfl⟩|exact⟨qnY h _ (qqc _ _),qi7 _ _ _,rfl⟩|exact⟨h,rfl,qi7 _ _ _⟩
def qql (s:Pn)(o:Option Ent)(ht:inR s.to):inR (qoS s o).1.to:=by
 unfold qoS
 repeat' split
 all_goals first|exact ht|(unfold qoR;split<;>first|exact ht|exact qqc _ _)
def qqm {s:Pn}(h:Rng ws)(ht:inR s.to):Rng (pnS c s ws).2.1/\inR (pnS c s ws).1.to/\(pnS c s ws).2.1.length=ws.length:=by
 unfold pnS
 repeat' split
 all_goals first|exact⟨h,ht,rfl⟩|exact⟨qnY h _ ht,ht,qi7 _ _ _⟩|exact⟨h,qql _ _ ht,rfl⟩
def qqn (s:Fe)(o:Option Ent):(qo1 s o).1.p=s.p:=by
 unfold qo1
 repeat' split
 all_goals rfl
def qqo {s:Fe}(h:Rng ws)(ht:inR s.p.to):Rng (qo2 s (qnN c s.p ws)).2.1/\inR (qo2 s (qnN c s.p ws)).1.p.to/\(qo2 s (qnN c s.p ws)).2.1.length=ws.length:=by
 have:=qqh (c:=c) h ht
 unfold qo2
 split<;>exact this
def qqp {s:Fe}(h:Rng ws)(ht:inR s.p.to):Rng (feS c s ws).2.1/\inR (feS c s ws).1.p.to/\(feS c s ws).2.1.length=ws.length:=by
 unfold feS
 repeat' split
 all_goals first|exact⟨h,ht,rfl⟩|exact⟨h,by rw [qqn];exact ht,rfl⟩|exact⟨qnY h _ (qqc _ _),qqb,qi7 _ _ _⟩|exact⟨qnY h _ (qqc _ _),ht,qi7 _ _ _⟩|exact qqo h ht
def qqq {s:Al}(h:Rng ws)(hw:inR s.word)(hp:inR s.p.to)(hq:inR s.q.to):Rng (qpf s (qnM c s.p ws)).2/\(Mx.al (qpf s (qnM c s.p ws)).1).rg/\(qpf s (qnM c s.p ws)).2.length=ws.length:=by
 have:=qqg (c:=c) h hp
 unfold qpf
 repeat' split
 all_goals exact⟨this.1,⟨hw,this.2.1,hq⟩,this.2.2⟩
def qqr {s:Al}(h:Rng ws)(hw:inR s.word)(hp:inR s.p.to)(hq:inR s.q.to):Rng (qpg s (qnN c s.q ws)).2/\(Mx.al (qpg s (qnN c s.q ws)).1).rg/\(qpg s (qnN c s.q ws)).2.length=ws.length:=by
 have:=qqh (c:=c) h hq
 unfold qpg
 split
 all_goals exact⟨this.1,⟨hw,hp,this.2.1⟩,this.2.2⟩
def qqs {s:Al}{o:Option Ent}(hw:inR s.word)(hp:inR s.p.to)(hq:inR s.q.to):(Mx.al (qph s o)).rg:=by
 unfold qph
 repeat' split
 all_goals first|exact⟨hw,hp,hq⟩|exact⟨qqd _,hp,hq⟩
def qqt {s:Al}(h:Rng ws)(hn:inR s.n)(hw:inR s.word)(hp:inR s.p.to)(hq:inR s.q.to):Rng (alS c s ws bs).2.1/\(Mx.al (alS c s ws bs).1).rg/\(alS c s ws bs).2.1.length=ws.length/\(alS c s ws bs).2.2.1.length=bs.length:=by
 unfold alS
 by_cases h0:s.nx=0
 ·rw [if_pos h0];exact⟨h,⟨hw,hp,hq⟩,rfl,rfl⟩
 rw [if_neg h0]
 by_cases h1:s.nx=1
 ·rw [if_pos h1]
  by_cases g:qpc s.n=0
  ·rw [if_pos g];exact⟨h,⟨hw,hp,hq⟩,rfl,rfl⟩
  ·rw [if_neg g];exact⟨h,⟨hw,hp,hq⟩,rfl,rfl⟩
 rw [if_neg h1]
 by_cases h2:s.nx=2
 ·rw [if_pos h2]
  by_cases g:qjh ws 2 s.seen=true
  ·rw [if_pos g];exact⟨qnY h _ (qp9 _),⟨hw,hp,hq⟩,qi7 _ _ _,rfl⟩
  ·rw [if_neg g];exact⟨h,⟨hw,hp,hq⟩,rfl,rfl⟩
 rw [if_neg h2]
 by_cases h3:s.nx=3
 ·rw [if_pos h3]
  exact⟨(qqq h hw hp hq).1,(qqq h hw hp hq).2.1,(qqq h hw hp hq).2.2,rfl⟩
 rw [if_neg h3]
 by_cases h4:s.nx=4
 ·rw [if_pos h4]
  by_cases g:qi5 ws 0<0\/w64 (c.A-qpc s.n)<qi5 ws 0
  ·rw [if_pos g];exact⟨h,⟨hw,hp,qqb⟩,rfl,rfl⟩
  ·rw [if_neg g];exact⟨h,⟨hw,hp,hq⟩,rfl,rfl⟩
 rw [if_neg h4]
 by_cases h5:s.nx=5
 ·rw [if_pos h5]
  by_cases g:qjh ws 0 s.f=true
  ·rw [if_pos g];exact⟨qnY h _ (qp9 _),⟨hw,hp,hq⟩,qi7 _ _ _,rfl⟩
  ·rw [if_neg g];exact⟨h,⟨hw,hp,hq⟩,rfl,rfl⟩
 rw [if_neg h5]
 by_cases h6:s.nx=6
 ·rw [if_pos h6]
  exact⟨(qqr h hw hp hq).1,(qqr h hw hp hq).2.1,(qqr h hw hp hq).2.2,rfl⟩
 rw [if_neg h6]
 by_cases h7:s.nx=7
 ·rw [if_pos h7]
  by_cases g:w64 (s.at_+1)=qpc s.n
  ·rw [if_pos g];exact⟨h,⟨hw,hp,hq⟩,rfl,qi7 _ _ _⟩
  ·rw [if_neg g];exact⟨h,⟨hw,hp,hq⟩,rfl,qi7 _ _ _⟩
 rw [if_neg h7]
 by_cases h8:s.nx=8
 ·rw [if_pos h8];exact⟨qnY h _ hn,⟨hw,hp,hq⟩,qi7 _ _ _,rfl⟩
 rw [if_neg h8]
 by_cases h9:s.nx=9
 ·rw [if_pos h9];exact⟨h,qqs hw hp hq,rfl,rfl⟩
 rw [if_neg h9]
 by_cases h10:s.nx=10
 ·rw [if_pos h10]
  by_cases g:s.kept=0
  ·rw [if_pos g];exact⟨qnY h _ hw,⟨hw,hp,hq⟩,qi7 _ _ _,rfl⟩
  ·rw [if_neg g];exact⟨h,⟨hw,hp,hq⟩,rfl,rfl⟩
 rw [if_neg h10]
 by_cases h11:s.nx=11
 ·rw [if_pos h11];exact⟨h,⟨hw,hp,hq⟩,rfl,rfl⟩
 rw [if_neg h11]
 by_cases g:qjh ws 2 s.seen=true
 ·rw [if_pos g];exact⟨qnY h _ (qp9 _),⟨hw,hp,hq⟩,qi7 _ _ _,rfl⟩
 ·rw [if_neg g];exact⟨h,⟨hw,hp,hq⟩,rfl,rfl⟩
def qqu {m:Mx}(h:Rng ws)(hr:m.rg)(hk:m.ok):qqi ws bs (mxS c m ws bs).1 (mxS c m ws bs).2.1 (mxS c m ws bs).2.2.1:=by
 cases m with
 | al s=>exact qqt h hk hr.1 hr.2.1 hr.2.2
 | fe s =>
   have:=qqp (c:=c) (s:=s) h hr
   exact⟨this.1,this.2.1,this.2.2,rfl⟩
 | rd s=>exact⟨h,trivial,rfl,rfl⟩
 | wr s =>
   have:=qqk (c:=c) (s:=s) (bs:=bs) h
   exact⟨this.1,trivial,this.2.1,this.2.2⟩
 | pn s =>
   have:=qqm (c:=c) (s:=s) h hr
   exact⟨this.1,this.2.1,this.2.2,rfl⟩
 | no=>exact⟨h,trivial,rfl,rfl⟩
def Th.rg (t:Th):Prop:=t.m.rg/\t.m.ok
def qqv (t:Th)(r:Mx×List Int×List Int×Option (Int×Int)):(thW t r).1.m=r.1/\(thW t r).2.1=r.2.1/\(thW t r).2.2.1=r.2.2.1:=by
 unfold thW
 split<;>exact⟨rfl,rfl,rfl⟩
def qqw {t:Th}(h:Rng ws)(hr:t.rg):Rng (thS c t ws bs).2.1/\(thS c t ws bs).1.rg/\(thS c t ws bs).2.1.length=ws.length/\(thS c t ws bs).2.2.1.length=bs.length:=by
 unfold thS
 split
 ·exact⟨h,hr,rfl,rfl⟩
 ·split
  ·exact⟨h,hr,rfl,rfl⟩
  split
  ·exact⟨qnY h _ (qp9 _),qqj _,qi7 _ _ _,rfl⟩
  split
  ·have hw:=qqv t (mxS c t.m ws bs)
   have hk:=qqu (c:=c) (bs:=bs) h hr.1 hr.2
   rw [hw.2.1,hw.2.2]
   exact⟨hk.1,by unfold Th.rg;rw [hw.1];exact⟨hk.2.1,qpR hr.2⟩,hk.2.2.1,hk.2.2.2⟩
  ·exact⟨qnY h _ qqb,hr,qi7 _ _ _,rfl⟩
end Go.Proofs.YtlgnnpkdhbhdgaaGreat
namespace Go.Proofs.YtlgnnpkdhbhdgaaGreat
open Go Go.Ir
def mxH:Mx->Option (Int×Int)
 | .al s=>if s.cl then some (s.f,qpc s.n)else none
 | _=>none
def thH (t:Th):Option (Int×Int):=if t.nx=2 then mxH t.m else none
def qqx:Option (Int×Int)->Value
 | some p => .tuple #[I p.1,I p.2,.bool true]
 | none => .tuple #[I 0,I 0,.bool false]
section
variable {H:qab}{b ob:Nat}{c:Cfg}{t:Th}{cb:CB}{ws bs:List Int}{own:List Nat}
def qqy (H:qab):qfU En 0 Id.zaa [.pointer none] H=some (qqx none,H):=callR_iff.2 ⟨60,by kernel_rfl⟩
def qqz {s:Al}{k:Nat}(h:AlP H own c s k):qfU En 0 Id.zaa [qkt k] H=some (qqx (mxH (.al s)),H):=by
 obtain⟨tt,gv,hr,_⟩:=h.row
 have l15:qau H none ⟨k,0+15,none⟩=some (.bool s.cl):=qiC hr rfl
 have l11:qau H none ⟨k,0+11,none⟩=some (I s.f):=qiC hr rfl
 have l6:qau H none ⟨k,0+6,none⟩=some (I (qpc s.n)):=qiC hr rfl
 rcases Bool.eq_false_or_eq_true s.cl with h|h
 ·rw [h]at l15
  have e1:mxH (.al s)=some (s.f,qpc s.n):=if_pos h
  rw [e1]
  refine qgw rfl Fn.zaa rfl rfl ?_
  repeat' first|refine .A ?_|refine .B ?_|refine .D ?_|refine .F ?_|refine .J ?_|refine .L l15 ?_|refine .L l11 ?_|refine .L l6 ?_|refine .Y ?_|fail
  rfl
 ·rw [h]at l15
  have e1:mxH (.al s)=none:=if_neg (by rw [h];decide)
  rw [e1]
  refine qgw rfl Fn.zaa rfl rfl ?_
  repeat' first|refine .A ?_|refine .B ?_|refine .C ?_|refine .J ?_|refine .L l15 ?_|refine .F ?_|refine .Y ?_|fail
  rfl
def qqA {m:Mx}{k:Nat}(h:MxP H own c k m):qfU En 0 Id.zaa [mxA k m] H=some (qqx (mxH m),H):=by
 cases m with
 | al s=>exact qqz h
 | _=>exact qqy H
def qqB (hP:ThP H own ob cb c t b):qfU En 0 Id.zdA [qkt b] H=some (qqx (thH t),H):=by
 obtain⟨ov,ev,mv,av,hr,_,_,hwk⟩:=hP.row
 have l5:qau H none ⟨b,0+5,none⟩=some (I t.nx):=qiC hr rfl
 have l8:qau H none ⟨b,0+8,none⟩=some av:=qiC hr rfl
 unfold thH
 by_cases h2:t.nx=2
 ·rw [if_pos h2]
  obtain⟨k,mo,rfl,rfl,_,_,hM⟩:=hwk h2
  have hh:=qqA hM
  generalize mxA k t.m=pv at l8 hh
  generalize mxH t.m=o at hh
  cases o with
  | none =>
    simp only [qqx]at hh
    refine qgw rfl Fn.zdA rfl rfl ?_
    repeat' first|refine .A ?_|refine .B ?_|refine .D ?_|refine .F ?_|refine .J ?_|refine .f6 ?_|refine .L l5 ?_|refine .L l8 ?_|refine .P hh ?_|refine .Y ?_|fail
    rfl
  | some p =>
    simp only [qqx]at hh
    refine qgw rfl Fn.zdA rfl rfl ?_
    repeat' first|refine .A ?_|refine .B ?_|refine .D ?_|refine .F ?_|refine .J ?_|refine .f6 ?_|refine .L l5 ?_|refine .L l8 ?_|refine .P hh ?_|refine .Y ?_|fail
    rfl
 ·rw [if_neg h2]
  refine qgw rfl Fn.zdA rfl rfl ?_
  repeat' first|refine .A ?_|refine .B ?_|refine .C ?_|refine .J ?_|refine .t6 ?_|refine .L l5 ?_|refine .F ?_|refine .Y ?_|fail
  rfl
def qqC (hP:ThP H own ob cb c t b):qfU En 0 Id.zdz [qkt b] H=some (.bool t.ops.isEmpty,H):=by
 obtain⟨ov,ev,mv,av,hr,hops,_,_⟩:=hP.row
 obtain⟨a,k,hov⟩:=hops.len
 cases ho:t.ops with
 | nil=>rw [ho]at hov;exact qp0 hr hov
 | cons o r=>rw [ho]at hov;exact qp1 hr hov
end
structure Ev where
 t:Int
 b:Bool
 d:Int
 h:Int
 f:Int
 n:Int
 cd:Int
 nn:Int
def Ev.cs (e:Ev):List Value := [I e.t,.bool e.b,I e.d,I e.h,I e.f,I e.n,I e.cd,I e.nn]
section
variable {h H:qab}{b ob:Nat}{c:Cfg}{t:Th}{cb:CB}{ws bs:List Int}{own:List Nat}
end
def qqD (lo:Nat){h:qab}{v:Value}{l:List Op4}(hlo:lo<=h.length)(hv:Sl h 4 v (ocs l))(ht:qiF v l.length)(hb:l.length*32<=2 ^ 47) :
  ∃v' H',qfU En lo Id.zdf [v] h=some (v',H')/\Ext h H'/\(∀ob,(l≠[]->ob=h.length+1)->OpsV H' v' l ob)/\(l≠[]->h.length+1<H'.length):=by
 rcases ht with⟨rfl,h0⟩|⟨a,cap,rfl,hs,hc⟩
 ·have he:l = []:=List.length_eq_zero_iff.1 h0
  subst he
  refine⟨.slice none 0 0,h, ?_,.refl _,fun _ _ => .inl ⟨rfl,none,0,rfl,fun _=>rfl,(fun x hx=>nomatch hx)⟩,fun h=>absurd rfl h⟩
  refine qgw rfl Fn.zdf rfl rfl ?_
  repeat' first|refine .A ?_|refine .B ?_|refine .C ?_|refine .J ?_|refine .F ?_|refine .Y ?_|fail
  rfl
 ·have hx:Ext h (h ++ [Blk.row [] false]):=(Ext.refl h).app _
  by_cases h0:l.length=0
  ·have he:l = []:=List.length_eq_zero_iff.1 h0
   subst he
   have ha:qaE lo 4 32 (h ++ [Blk.row [] false]) (.slice (some ⟨h.length,0,none⟩) 0 0) (.slice (some a) 0 cap)=some (.slice (some ⟨h.length,0,none⟩) 0 0,h ++ [Blk.row [] false]):=by
    simp [qaE,qaB,qaC]
   refine⟨.slice (some ⟨h.length,0,none⟩) 0 0,h ++ [Blk.row [] false], ?_,hx,fun _ _ => .inl ⟨rfl,_,_,rfl,(fun h=>nomatch h),(fun x hx=>by injection hx with e;subst e;exact⟨rfl,zzR _⟩)⟩,fun h=>absurd rfl h⟩
   refine qgw rfl Fn.zdf rfl rfl ?_
   repeat' first|refine .A ?_|refine .B ?_|refine .D ?_|refine .F ?_|refine .J ?_|refine .U ha ?_|refine .Y ?_|fail
   rfl
  ·have hl0:l≠[]:=fun e=>h0 (by rw [e];rfl)
   have hel:(ocs l).length=l.length:=qnZ l
   rcases hv.2 with⟨h1,_⟩|⟨a',cap',h1,h2⟩
   ·rw [h1]at hel;exact absurd hel.symm h0
   ·rw [hel]at h1 h2
    injection h1 with e1 _ e3
    injection e1 with e1
    subst e1 e3
    have hsr:qaC (h ++ [Blk.row [] false]) 4 l.length (.slice (some a) l.length cap)=some (ocs l).flatten:=by
     unfold qaC
     simp only
     rw [if_neg h0]
     exact qgE hx h2
    have ha:qaE lo 4 32 (h ++ [Blk.row [] false]) (.slice (some ⟨h.length,0,none⟩) 0 0) (.slice (some a) l.length cap)=some (.slice (some (loose (h.length+1) 0)) l.length 4,h ++ [Blk.row [] false] ++ [Blk.row (ocs l).flatten false]):=by
     simp only [qaE,qaB,hsr]
     rw [if_pos (.inr ⟨trivial,rfl,by omega,by omega⟩),if_neg (by omega)]
     simp [qaC]
    have hfl:((ocs l).flatten).length=l.length*4:=by rw [qgz (qn0 l),hel]
    refine⟨.slice (some (loose (h.length+1) 0)) l.length 4,h ++ [Blk.row [] false] ++ [Blk.row (ocs l).flatten false], ?_,hx.app _,fun ob hob => .inr ⟨0,(ocs l).flatten,by rw [hob hl0],by
     rw [hob hl0];rw [zzB (by simp)];simp,by omega,by rw [List.drop_zero,<-hfl,List.take_length]⟩,fun _=>by simp⟩
    refine qgw rfl Fn.zdf rfl rfl ?_
    repeat' first|refine .A ?_|refine .B ?_|refine .D ?_|refine .F ?_|refine .J ?_|refine .U ha ?_|refine .Y ?_|fail
    rfl
def qqE {c:Cfg}(hm:c.may){num:Int}(h:¬0<=qjF c num):qjF c num = -1:=by
 unfold qjF at h|-
 split at h
 ·unfold Cfg.may at hm;omega
 ·rename_i g;rw [if_neg g]
def th0 (num:Int)(l:List Op4):Th:=⟨num,l,0,0,.no,0,0⟩
def qqF (num:Int)(l:List Op4):(th0 num l).rg:=⟨trivial,trivial⟩
def qqG (c:Cfg)(num:Int)(l:List Op4):List Op4:=if 0<=qjF c num then l else []
def tr0 (c:Cfg)(num:Int)(ov:Value):List Value := [I c.A,I c.S,I c.T,I num,ov,I 0,.pointer none,.nilIface,.pointer none,I 0,I 0]
def qqH {h:qab}{v:Value}{l:List Op4}{c:Cfg}(cb:CB)(num:Int)(hm:c.may)(hcb:cb.P<h.length/\cb.W<h.length/\cb.Y<h.length)(hv:Sl h 4 v (ocs l))(ht:qiF v l.length)(hb:l.length*32<=2 ^ 47) :
  ∃H',qfU En 0 Id.zdy [.agg c.cs.toArray,I num,v] h=some (qkt h.length,H')/\Ext h H'/\((qqG c num l = []/\∀ob,ThP H' [h.length] ob cb c (th0 num (qqG c num l)) h.length)\/∃ob,h.length<ob/\ob<H'.length/\ThP H' [h.length] ob cb c (th0 num (qqG c num l)) h.length):=by
 have hx:Ext h (h ++ [.row (tr0 c num (.slice none 0 0)) false]):=(Ext.refl h).app _
 have hfar:∀ob,h.length<ob->ob∉qoZ [h.length] cb:=fun ob hob hh=>by
  simp only [qoZ,List.cons_append,List.nil_append,List.mem_cons,List.mem_nil_iff,or_false]at hh
  omega
 have hO:=fun lo=>qjt lo (h ++ [.row (tr0 c num (.slice none 0 0)) false]) hm
 have hN:=fun lo=>qjG lo (h ++ [.row (tr0 c num (.slice none 0 0)) false]) hm num
 by_cases hge:0<=qjF c num
 ·rw [show qqG c num l=l from if_pos hge]
  have hge':=hge
  generalize qjF c num=nn at hN hge'
  obtain⟨v',H1,hC,hx1,hs1,hl1⟩:=qqD 0 (h:=h ++ [.row (tr0 c num (.slice none 0 0)) false]) (zzZ _) (hv.ext hx) ht hb
  have hr:H1[h.length]? = some (.row (tr0 c num (.slice none 0 0)) false):=by
   rw [hx1.2 h.length (by rw [zzM,List.length_singleton];omega)]
   exact zzC
  rw [zzM,List.length_singleton]at hs1 hl1
  have hlen:=(hs1 (h.length+1+1) fun _=>rfl).len
  obtain⟨a,k,hve⟩:=hlen
  have hst:stN 0 H1 ⟨h.length,0+4,none⟩ (qaf v')=some (H1.set h.length (.row (tr0 c num v') false)):=by subst hve;exact qiE hr (zzZ _) (zzL rfl) rfl
  have mk:∀ob,(l≠[]->ob∉qoZ [h.length] cb)->OpsV (H1.set h.length (.row (tr0 c num v') false)) v' l ob->ThP (H1.set h.length (.row (tr0 c num v') false)) [h.length] ob cb c (th0 num l) h.length:=fun ob hf ho=>⟨by simp,fun _=>hge,by simp [th0],hf,v',.pointer none,.nilIface,.pointer none,qiy (qiB hr),ho,fun h=>by simp [th0]at h,fun h=>by simp [th0]at h⟩
  refine⟨H1.set h.length (.row (tr0 c num v') false), ?_,⟨by rw [zzQ];exact Nat.le_trans hx.1 hx1.1,fun i hi => ?_⟩, ?_⟩
  ·subst hve
   refine qgw rfl Fn.zdy rfl rfl ?_
   repeat' first|refine .A ?_|refine .B ?_|refine .C ?_|refine .J ?_|refine .t4 ?_|refine .t5 ?_|refine .P (hO _) ?_|refine .P (hN _) ?_|refine .P hC ?_|refine .S hst ?_|refine .F ?_|refine .Y ?_|fail
   rfl
  ·rw [zzN (by omega),hx1.2 i (by rw [zzM];omega),hx.2 i hi]
  ·by_cases hl:l = []
   ·refine .inl ⟨hl,fun ob=>mk ob (fun q=>absurd hl q) ?_⟩
    rcases hs1 H1.length (fun q=>absurd hl q)with q|⟨off,cs,_,q,_⟩
    ·exact .inl q
    ·rw [zzE (zzR _)]at q;cases q
   ·exact .inr ⟨h.length+1+1,by omega,by rw [zzQ];exact hl1 hl,mk _ (fun _=>hfar _ (by omega)) ((hs1 _ fun _=>rfl).keep (zzN (by omega)))⟩
 ·rw [show qqG c num l = []from if_neg hge]
  have hlt:=qqE hm hge
  rw [hlt]at hN
  refine⟨_, ?_,hx,.inl ⟨rfl,fun ob=>⟨by simp,fun h=>absurd rfl h,by simp [th0],fun h=>absurd rfl h,.slice none 0 0,.pointer none,.nilIface,.pointer none,zzC,.inl ⟨rfl,none,0,rfl,fun _=>rfl,(fun x hx=>nomatch hx)⟩,fun h=>by simp [th0]at h,fun h=>by simp [th0]at h⟩⟩⟩
  refine qgw rfl Fn.zdy rfl rfl ?_
  repeat' first|refine .A ?_|refine .B ?_|refine .D ?_|refine .F ?_|refine .J ?_|refine .f4 ?_|refine .t5 ?_|refine .P (hO _) ?_|refine .P (hN _) ?_|refine .Y ?_|fail
  rfl
def wag (H:qab)(own:List Nat):List Nat:=own.filter (fun x=>decide (x<H.length))
def mem_fil {H:qab}{own:List Nat}{x:Nat} : x∈wag H own↔x∈own/\x<H.length:=by simp [wag]
def qqI {H:qab}{own:List Nat}{x:Nat}{k:Blk}(h:x∈own)(hr:H[x]? = some k):x∈wag H own:=mem_fil.2 ⟨h,qiB hr⟩
def qqJ {H:qab}{own:List Nat}{cb:CB}{x:Nat}(h:x∈qoZ (wag H own) cb):x∈qoZ own cb:=by
 rcases List.mem_append.1 h with g|g
 ·exact List.mem_append_left _ (mem_fil.1 g).1
 ·exact List.mem_append_right _ g
section
variable {H H':qab}{b ob:Nat}{c:Cfg}{t:Th}{cb:CB}{ws bs:List Int}{own:List Nat}
def MxP.wag {k:Nat} : ∀{m:Mx},MxP H own c k m->MxP H (wag H own) c k m
 | .al s,h=>by
   obtain⟨h1,h2,t,gv,h3,h4,h5,h6,h7⟩:=h
   refine⟨qqI h1 h3,h2,t,gv,h3,h4,h5,qqI h6 h4,fun h => ?_⟩
   obtain⟨q,q1,q2,q3,q4,q5⟩:=h7 h
   exact⟨q,q1,q2,q3,q4,qqI q5 q2⟩
 | .fe s,h=>by
   obtain⟨h1,to,more,gv,h2,h3,h4⟩:=h
   refine⟨qqI h1 h2,to,more,gv,h2,h3,fun a1 a2 a3 => ?_⟩
   obtain⟨q,q1,q2,q3,q4⟩:=h4 a1 a2 a3
   exact⟨q,q1,q2,q3,qqI q4 q2⟩
 | .rd s,h=>⟨qqI h.1 h.2,h.2⟩
 | .wr s,h=>⟨qqI h.1 h.2,h.2⟩
 | .pn s,h=>⟨qqI h.1 h.2,h.2⟩
 | .no,_=>trivial
def ThP.wag (h:ThP H own ob cb c t b):ThP H (wag H own) ob cb c t b:=by
 obtain⟨ov,ev,mv,av,hr,ho,he,hw⟩:=h.row
 refine⟨qqI h.mem hr,h.note,h.nx,fun a hm=>h.far a (qqJ hm),ov,ev,mv,av,hr,ho,fun a => ?_,fun a => ?_⟩
 ·obtain⟨e,e1,e2,e3,e4⟩:=he a
  exact⟨e,e1,qqI e2 e4,e3,e4⟩
 ·obtain⟨k,mo,e1,e2,e3,e4,e5⟩:=hw a
  exact⟨k,Go.Proofs.YtlgnnpkdhbhdgaaGreat.wag H mo,e1,e2,fun x hx=>mem_fil.2 ⟨e3 x (mem_fil.1 hx).1,(mem_fil.1 hx).2⟩,fun hb=>e4 (mem_fil.1 hb).1,e5.wag⟩
def ThP.keep (h:ThP H own ob cb c t b)(hk:∀x∈own,H'[x]? = H[x]?)(hob:H'[ob]? = H[ob]?):ThP H' own ob cb c t b:=by
 obtain⟨ov,ev,mv,av,hr,ho,he,hw⟩:=h.row
 refine⟨h.mem,h.note,h.nx,h.far,ov,ev,mv,av,(hk _ h.mem).trans hr,ho.keep hob,fun a => ?_,fun a => ?_⟩
 ·obtain⟨e,e1,e2,e3,e4⟩:=he a
  exact⟨e,e1,e2,e3,(hk _ e2).trans e4⟩
 ·obtain⟨k,mo,e1,e2,e3,e4,e5⟩:=hw a
  exact⟨k,mo,e1,e2,e3,e4,e5.keep fun x hx=>hk x (e3 x hx)⟩
def MxR.wag {k:Nat} : ∀{m:Mx},MxR H own c k m->MxR H (wag H own) c k m
 | .al s,h=>by
   obtain⟨h1,h2,pv,gv,h3,h4,h5⟩:=h
   refine⟨qqI h1 h3,h2,pv,gv,h3,fun h => ?_,fun h => ?_⟩
   ·obtain⟨q,q1,q2,q3,q4⟩:=h4 h
    exact⟨q,q1,q2,q3,qqI q4 q2⟩
   ·obtain⟨q,q1,q2,q3,q4⟩:=h5 h
    exact⟨q,q1,q2,q3,qqI q4 q2⟩
 | .fe s,h=>by
   obtain⟨h1,⟨gv,h2,h3⟩,h4,h5⟩:=h
   refine⟨qqI h1 h2,⟨gv,h2,fun a1 a2 a3 => ?_⟩,h4,h5⟩
   obtain⟨q,q1,q2,q3,q4⟩:=h3 a1 a2 a3
   exact⟨q,q1,q2,q3,qqI q4 q2⟩
 | .rd s,h=>by
   obtain⟨h1,kp,bb,h2,h3⟩:=h
   exact⟨qqI h1 h2,kp,bb,h2,h3⟩
 | .wr s,h=>by
   obtain⟨h1,e,h2,h3⟩:=h
   exact⟨qqI h1 h2,e,h2,h3⟩
 | .pn s,h=>by
   obtain⟨h1,h2,h3⟩:=h
   exact⟨qqI h1 h2,h2,h3⟩
 | .no,_=>trivial
def ThR.wag (h:ThR H own ob cb c t b):ThR H (wag H own) ob cb c t b:=by
 obtain⟨L,at_,ov,ev,xv,hr,ho,g1,g2,g3,g4,he,hw⟩:=h.row
 refine⟨qqI h.mem hr,h.note,h.nx,L,at_,ov,ev,xv,hr,ho,g1,g2,g3,fun a hm=>g4 a (qqJ hm),fun a => ?_,fun a => ?_⟩
 ·obtain⟨e,e1,e2,e3,e4⟩:=he a
  exact⟨e,e1,qqI e2 e4,e3,e4⟩
 ·obtain⟨x,k,mo,d,e1,e2,e3,e4,e5,e6⟩:=hw a
  exact⟨x,k,Go.Proofs.YtlgnnpkdhbhdgaaGreat.wag H mo,d,e1,qqI e2 e6.row,e3,fun x hx=>mem_fil.2 ⟨e4 x (mem_fil.1 hx).1,(mem_fil.1 hx).2⟩,fun hb=>e5 (mem_fil.1 hb).1,⟨e6.row,e6.d,e6.ok,e6.my.wag,fun hb=>e6.no (mem_fil.1 hb).1⟩⟩
def ThR.keep (h:ThR H own ob cb c t b)(hk:∀x∈own,H'[x]? = H[x]?)(hob:H'[ob]? = H[ob]?):ThR H' own ob cb c t b:=by
 obtain⟨L,at_,ov,ev,xv,hr,ho,g1,g2,g3,g4,he,hw⟩:=h.row
 refine⟨h.mem,h.note,h.nx,L,at_,ov,ev,xv,(hk _ h.mem).trans hr,ho.keep hob,g1,g2,g3,g4,fun a => ?_,fun a => ?_⟩
 ·obtain⟨e,e1,e2,e3,e4⟩:=he a
  exact⟨e,e1,e2,e3,(hk _ e2).trans e4⟩
 ·obtain⟨x,k,mo,d,e1,e2,e3,e4,e5,e6⟩:=hw a
  exact⟨x,k,mo,d,e1,e2,e3,e4,e5,e6.keep (fun y hy=>hk y (e4 y hy)) (hk x e2)⟩
end
def PT (H:qab)(g:Nat->Nat)(c:Cfg)(cb:CB)(i:Nat)(t:Th)(b:Nat):Prop :=
 ∃own ob,ThP H own ob cb c t b/\(∀x∈own,x<H.length/\g x=4+2*i)/\((t.ops = []/\ob∈own)\/(ob<H.length/\g ob=0))
structure PInv (H:qab)(g:Nat->Nat)(c:Cfg)(cb:CB)(ws bs:List Int)(ts:List Th)(pb:List Nat):Prop where
 cells:IsC H cb ws bs
 tc:g cb.P=2/\g cb.W=2/\g cb.Y=2
 len:pb.length=ts.length
 th:∀i t b,ts[i]? = some t->pb[i]? = some b->PT H g c cb i t b
def RT (H:qab)(g:Nat->Nat)(c:Cfg)(cb:CB)(i:Nat)(t:Th)(b:Nat):Prop :=
 ∃own ob,ThR H own ob cb c t b/\(∀x∈own,x<H.length/\g x=5+2*i)/\ob<H.length/\g ob=0
structure RInv (H:qab)(g:Nat->Nat)(c:Cfg)(cb:CB)(ws bs:List Int)(ts:List Th)(pb:List Nat):Prop where
 cells:IsR H cb ws bs
 tc:g cb.P=3/\g cb.W=3/\g cb.Y=3
 len:pb.length=ts.length
 th:∀i t b,ts[i]? = some t->pb[i]? = some b->RT H g c cb i t b
structure Stp (T:Nat->Prop)(H H':qab)(g g':Nat->Nat):Prop where
 len:H.length<=H'.length
 tag:∀x,x<H.length->g' x=g x
 same:∀x,x<H.length->T (g x)->H'[x]? = H[x]?
def TP (n:Nat):Prop:=n%2=1\/n=0
def Stp.mono {T T':Nat->Prop}{H H':qab}{g g':Nat->Nat}(h:Stp T H H' g g')(hT:∀n,T' n->T n):Stp T' H H' g g':=⟨h.len,h.tag,fun x hx ht=>h.same x hx (hT _ ht)⟩
section
variable {H H':qab}{g g':Nat->Nat}{c:Cfg}{cb:CB}{ws bs:List Int}{ts:List Th}{pb:List Nat}{i b:Nat}{t:Th}
def PT.keep {T:Nat->Prop}(h:PT H g c cb i t b)(s:Stp T H H' g g')(h0:T 0)(hi:T (4+2*i)):PT H' g' c cb i t b:=by
 obtain⟨own,ob,h1,h2,h3⟩:=h
 have hk:∀x∈own,H'[x]? = H[x]? := fun x hx=>s.same x (h2 x hx).1 (by rw [(h2 x hx).2];exact hi)
 refine⟨own,ob,h1.keep hk (h3.elim (fun q=>hk ob q.2) fun q=>s.same ob q.1 (by rw [q.2];exact h0)),fun x hx=>⟨Nat.lt_of_lt_of_le (h2 x hx).1 s.len,(s.tag x (h2 x hx).1).trans (h2 x hx).2⟩,h3.imp id fun q=>⟨Nat.lt_of_lt_of_le q.1 s.len,(s.tag ob q.1).trans q.2⟩⟩
def PInv.keep {T:Nat->Prop}(h:PInv H g c cb ws bs ts pb)(s:Stp T H H' g g')(h0:T 0)(h2:T 2)(hi:∀i,T (4+2*i)):PInv H' g' c cb ws bs ts pb:=by
 have lc:=ltC h.cells
 obtain⟨st,hp⟩:=h.cells.p
 refine⟨⟨⟨st,(s.same _ lc.1 (by rw [h.tc.1];exact h2)).trans hp⟩,(s.same _ lc.2.1 (by rw [h.tc.2.1];exact h2)).trans h.cells.w,(s.same _ lc.2.2 (by rw [h.tc.2.2];exact h2)).trans h.cells.y,h.cells.pw,h.cells.py,h.cells.wy,h.cells.byte⟩,
  ⟨(s.tag _ lc.1).trans h.tc.1,(s.tag _ lc.2.1).trans h.tc.2.1,(s.tag _ lc.2.2).trans h.tc.2.2⟩,h.len,fun i t b ht hb=>(h.th i t b ht hb).keep s h0 (hi i)⟩
def RT.keep {T:Nat->Prop}(h:RT H g c cb i t b)(s:Stp T H H' g g')(h0:T 0)(hi:T (5+2*i)):RT H' g' c cb i t b:=by
 obtain⟨own,ob,h1,h2,h3,h4⟩:=h
 refine⟨own,ob,h1.keep (fun x hx=>s.same x (h2 x hx).1 (by rw [(h2 x hx).2];exact hi)) (s.same ob h3 (by rw [h4];exact h0)),fun x hx=>⟨Nat.lt_of_lt_of_le (h2 x hx).1 s.len,(s.tag x (h2 x hx).1).trans (h2 x hx).2⟩,Nat.lt_of_lt_of_le h3 s.len,(s.tag ob h3).trans h4⟩
def RInv.keep {T:Nat->Prop}(h:RInv H g c cb ws bs ts pb)(s:Stp T H H' g g')(h0:T 0)(h2:T 3)(hi:∀i,T (5+2*i)):RInv H' g' c cb ws bs ts pb:=by
 have lc:=ltR h.cells
 obtain⟨st,hp⟩:=h.cells.p
 refine⟨⟨⟨st,(s.same _ lc.1 (by rw [h.tc.1];exact h2)).trans hp⟩,(s.same _ lc.2.1 (by rw [h.tc.2.1];exact h2)).trans h.cells.w,(s.same _ lc.2.2 (by rw [h.tc.2.2];exact h2)).trans h.cells.y,h.cells.pw,h.cells.py,h.cells.wy,h.cells.byte⟩,
  ⟨(s.tag _ lc.1).trans h.tc.1,(s.tag _ lc.2.1).trans h.tc.2.1,(s.tag _ lc.2.2).trans h.tc.2.2⟩,h.len,fun i t b ht hb=>(h.th i t b ht hb).keep s h0 (hi i)⟩
def qqK (H:qab)(g:Nat->Nat)(k:Nat):Nat->Nat:=fun x=>if x<H.length then g x else k
def qqL {x k:Nat}(h:x<H.length):qqK H g k x=g x:=if_pos h
def qqM {x k:Nat}(h:H.length<=x):qqK H g k x=k:=if_neg (by omega)
def qqN {own own':List Nat}{k e:Nat}(hg:Grew H H' own own' cb)(ho:∀x∈own,g x=k)(hc:g cb.P=e/\g cb.W=e/\g cb.Y=e):Stp (fun n=>n≠k/\n≠e) H H' g (qqK H g k) :=
 ⟨hg.yz.len,fun x hx=>qqL hx,fun x hx ht=>hg.yz.same x hx fun hm=>by
   unfold qoZ at hm
   simp only [List.mem_append,List.mem_cons,List.mem_nil_iff,or_false]at hm
   rcases hm with h|rfl|rfl|rfl
   ·exact ht.1 (ho x h)
   ·exact ht.2 hc.1
   ·exact ht.2 hc.2.1
   ·exact ht.2 hc.2.2⟩
def qqO (h:t.ops = []):(thS c t ws bs).1.ops = []:=by unfold thS;rw [h];exact h
def qqP (hm:c.may)(h:PInv H g c cb ws bs ts pb)(ht:ts[i]? = some t)(hb:pb[i]? = some b) :
  ∃v H' g',qfU En 0 Id.zdB [qkt b,ifC cb] H=some (v,H')/\SlN H H' v (thS c t ws bs).2.2.2/\PInv H' g' c cb (thS c t ws bs).2.1 (thS c t ws bs).2.2.1 (ts.set i (thS c t ws bs).1) pb/\Stp TP H H' g g'/\(∀x,H.length<=x->g' x=4+2*i):=by
 obtain⟨own,ob,hP,h2,h3⟩:=h.th i t b ht hb
 have hA:Apart own cb:=fun x hx=>⟨fun e=>by have:=(h2 x hx).2;rw [e,h.tc.1]at this;omega,fun e=>by have:=(h2 x hx).2;rw [e,h.tc.2.1]at this;omega,fun e=>by have:=(h2 x hx).2;rw [e,h.tc.2.2]at this;omega⟩
 obtain⟨v,own',H',hC,hS,hP',hC',hg⟩:=qp7 hP h.cells hA hm
 have st:=qqN (g:=g) (k:=4+2*i) (e:=2) hg (fun x hx=>(h2 x hx).2) h.tc
 refine⟨v,H',qqK H g (4+2*i),hC,hS,⟨hC', ?_,by rw [zzQ];exact h.len,fun j u d hu hd => ?_⟩,st.mono fun n hn => ?_,fun x hx=>qqM hx⟩
 ·have lc:=ltC h.cells
  rw [qqL lc.1,qqL lc.2.1,qqL lc.2.2]
  exact h.tc
 ·by_cases hj:i=j
  ·subst hj
   have hil:=(zzS.1 ht).1
   rw [List.getElem?_set_self hil]at hu
   injection hu with hu
   rw [hb]at hd
   injection hd with hd
   subst hu hd
   refine⟨wag H' own',ob,hP'.wag,fun x hx => ?_,h3.imp (fun q=>⟨qqO q.1,mem_fil.2 ⟨hg.sub ob q.2,Nat.lt_of_lt_of_le (h2 ob q.2).1 hg.yz.len⟩⟩) fun q=>⟨Nat.lt_of_lt_of_le q.1 hg.yz.len,(qqL q.1).trans q.2⟩⟩
   obtain⟨hx1,hx2⟩:=mem_fil.1 hx
   refine⟨hx2, ?_⟩
   rcases hg.new x hx1 with q|q
   ·rw [qqL (h2 x q).1];exact(h2 x q).2
   ·exact qqM q
  ·rw [zzN hj]at hu
   exact(h.th j u d hu hd).keep st ⟨by omega,by omega⟩ ⟨by omega,by omega⟩
 ·rcases hn with hn|hn<;>exact⟨by omega,by omega⟩
end
def Arr (H:qab)(v:Value)(l:List Nat)(k:Nat):Prop :=
 (l = []/\v = .slice none 0 0)\/(l≠[]/\v = .slice (some (loose k 0)) l.length 1/\H[k]? = some (.row (l.map qkt) false))
def Arr.keep {H H':qab}{v:Value}{l:List Nat}{k:Nat}(h:Arr H v l k)(hk:l≠[]->H'[k]? = H[k]?):Arr H' v l k:=by
 rcases h with h|⟨h1,h2,h3⟩
 ·exact .inl h
 ·exact .inr ⟨h1,h2,(hk h1).trans h3⟩
def Arr.lt {H:qab}{v:Value}{l:List Nat}{k:Nat}(h:Arr H v l k)(h0:l≠[]):k<H.length:=by
 rcases h with h|⟨h1,h2,h3⟩
 ·exact absurd h.1 h0
 ·exact qiB h3
def Arr.len {H:qab}{v:Value}{l:List Nat}{k:Nat}(h:Arr H v l k):∃a c,v = .slice a l.length c:=by
 rcases h with⟨rfl,h⟩|⟨h1,h2,h3⟩
 ·exact⟨none,0,h⟩
 ·exact⟨_,_,h2⟩
def Arr.at {H:qab}{v:Value}{l:List Nat}{k:Nat}(h:Arr H v l k){i b:Nat}(hi:l[i]? = some b):v = .slice (some (loose k 0)) l.length 1/\∀H',H'[k]? = H[k]?->qau H' none ⟨k,0+i*1,none⟩=some (qkt b):=by
 rcases h with⟨rfl,_⟩|⟨h1,h2,h3⟩
 ·simp at hi
 ·exact⟨h2,fun H' hk=>qiC (hk.trans h3) (by rw [Nat.zero_add,Nat.mul_one,List.getElem?_map,hi];rfl)⟩
def qqQ {H:qab}{v:Value}{l:List Nat}{k:Nat}(h:Arr H v l k)(p:Nat)(hl:l.length<1000) :
  ∃v' k' H',qaE 0 1 8 (H ++ [.row [qkt p] false]) v (.slice (some ⟨H.length,0,none⟩) 1 1)=some (v',H')/\Arr H' v' (l ++ [p]) k'/\H.length<k'/\k'<H'.length/\H.length<=H'.length/\∀x,x<H.length->(l = []\/x≠k)->H'[x]? = H[x]? := by
 have hsrc:∀m,m=1->qaC (H ++ [.row [qkt p] false]) 1 m (.slice (some ⟨H.length,0,none⟩) 1 1)=some [qkt p]:=fun m hm=>by
  subst hm
  unfold qaC
  simp only
  rw [if_neg (by decide)]
  exact qgD (a:=⟨H.length,0,none⟩) (cs := [qkt p]) (ro:=false) (zzC) rfl rfl
 rcases h with⟨rfl,rfl⟩|⟨h0,rfl,h3⟩
 ·refine⟨.slice (some (loose (H ++ [Blk.row [qkt p] false]).length 0)) 1 1,(H ++ [Blk.row [qkt p] false]).length,H ++ [Blk.row [qkt p] false] ++ [Blk.row [qkt p] false], ?_,.inr ⟨by simp,rfl,by rw [zzC];rfl⟩,by simp,by simp,by simp<;>omega,fun x hx _=>by
   rw [List.append_assoc,zzA hx]⟩
  simp only [qaE,qaB,Nat.zero_add,hsrc 1 rfl]
  rw [if_pos (.inl ⟨by omega,by decide⟩)]
  simp
 ·have hbl:=qiB h3
  have h3':(H ++ [Blk.row [qkt p] false])[k]? = some (.row (l.map qkt) false):=by rw [zzA hbl];exact h3
  have hln:¬l.length=0:=fun e=>h0 (List.length_eq_zero_iff.1 e)
  have hold:qaC (H ++ [.row [qkt p] false]) 1 l.length (.slice (some (loose k 0)) l.length 1)=some (l.map qkt):=by
   unfold qaC
   simp only
   rw [if_neg hln]
   exact qgD (a:=loose k 0) h3' rfl (by simp)
  refine⟨.slice (some (loose (H ++ [Blk.row [qkt p] false]).length 0)) (l.length+1) 1,(H ++ [Blk.row [qkt p] false]).length,(H ++ [Blk.row [qkt p] false]).set k Blk.dead ++ [Blk.row (l.map qkt ++ [qkt p]) false], ?_,
   .inr ⟨by simp,by simp, ?_⟩,by simp,by simp,by simp<;>omega,fun x hx hk => ?_⟩
  ·simp only [qaE,qaB,hsrc 1 rfl]
   rw [if_pos (.inl ⟨by omega,by decide⟩)]
   simp only [loose]at hold h3'|-
   simp only [hold,h3']
   simp
  ·rw [zzB (by simp)]
   simp
  ·have hkx:x≠k:=hk.resolve_left h0
   rw [zzA (by rw [zzQ,zzM];omega),zzN (Ne.symm hkx),zzA hx]
section
variable {H:qab}{g:Nat->Nat}{c:Cfg}{cb:CB}{ws bs:List Int}{ts:List Th}{pb:List Nat}
def PInv.push {H':qab}{g':Nat->Nat}{t:Th}{b:Nat}(h:PInv H' g' c cb ws bs ts pb)(hn:PT H' g' c cb ts.length t b):PInv H' g' c cb ws bs (ts ++ [t]) (pb ++ [b]):=by
 refine⟨h.cells,h.tc,by simp [h.len],fun i u d hu hd => ?_⟩
 by_cases hi:i<ts.length
 ·rw [zzA hi]at hu
  rw [zzA (by rw [h.len];exact hi)]at hd
  exact h.th i u d hu hd
 ·have hl:=(zzS.1 hu).1
  rw [zzM,List.length_singleton]at hl
  have he:i=ts.length:=by omega
  subst he
  rw [zzC]at hu
  rw [<-h.len,zzC]at hd
  injection hu with hu
  injection hd with hd
  subst hu hd
  exact hn
def RInv.push {H':qab}{g':Nat->Nat}{t:Th}{b:Nat}(h:RInv H' g' c cb ws bs ts pb)(hn:RT H' g' c cb ts.length t b):RInv H' g' c cb ws bs (ts ++ [t]) (pb ++ [b]):=by
 refine⟨h.cells,h.tc,by simp [h.len],fun i u d hu hd => ?_⟩
 by_cases hi:i<ts.length
 ·rw [zzA hi]at hu
  rw [zzA (by rw [h.len];exact hi)]at hd
  exact h.th i u d hu hd
 ·have hl:=(zzS.1 hu).1
  rw [zzM,List.length_singleton]at hl
  have he:i=ts.length:=by omega
  subst he
  rw [zzC]at hu
  rw [<-h.len,zzC]at hd
  injection hu with hu
  injection hd with hd
  subst hu hd
  exact hn
def qqR (H:qab)(g:Nat->Nat)(k:Nat):Nat->Nat:=fun x=>if x<H.length then g x else if x=H.length then k else 0
def qqS {k x:Nat}(h:x<H.length):qqR H g k x=g x:=if_pos h
def qqT {k:Nat} : qqR H g k H.length=k:=(if_neg (Nat.lt_irrefl _)).trans (if_pos rfl)
def qqU {k x:Nat}(h:H.length<x):qqR H g k x=0:=(if_neg (by omega)).trans (if_neg (by omega))
def qqV {H':qab}{k:Nat}(hx:Ext H H'):Stp (fun _=>True) H H' g (qqR H g k):=⟨hx.1,fun x h=>qqS h,fun x h _=>hx.2 x h⟩
def qqW {H':qab}{l:List Nat}{k:Nat}(hk:l≠[]->g k=1)(hl:H.length<=H'.length)(hs:∀x,x<H.length->(l = []\/x≠k)->H'[x]? = H[x]?):Stp (fun n=>n≠1) H H' g (qqK H g 1) :=
 ⟨hl,fun x h=>qqL h,fun x h ht=>hs x h (Decidable.byContradiction fun hn=>ht (by
   have h1:l≠[]:=fun e=>hn (.inl e)
   have h2:x=k:=Decidable.byContradiction fun e=>hn (.inr e)
   rw [h2];exact hk h1))⟩
def qqX {v a:Value}{l:List Op4}{ka:Nat}(hm:c.may)(h:PInv H g c cb ws bs ts pb)(hv:Sl H 4 v (ocs l))(ht:qiF v l.length)(hb:l.length*32<=2 ^ 47)(hA:Arr H a pb ka)(hka:pb≠[]->g ka=1)(hl:pb.length<1000) :
  ∃H1 a' H2 k' g',qfU En 0 Id.zdy [.agg c.cs.toArray,I pb.length,v] H=some (qkt H.length,H1)/\qaE 0 1 8 (H1 ++ [.row [qkt H.length] false]) a (.slice (some ⟨H1.length,0,none⟩) 1 1)=some (a',H2)/\
   PInv H2 g' c cb ws bs (ts ++ [th0 pb.length (qqG c pb.length l)]) (pb ++ [H.length])/\Arr H2 a' (pb ++ [H.length]) k'/\g' k'=1/\H.length<=k'/\H.length<=H2.length/\(∀x,x<H.length->g' x=g x)/\(∀x,x<H.length->(pb = []\/x≠ka)->H2[x]? = H[x]?)/\Ext H H1:=by
 have lc:=ltC h.cells
 obtain⟨H1,hN,hx1,hor⟩:=qqH cb (pb.length:Int) hm lc hv ht hb
 have st1:=qqV (g:=g) (k:=4+2*pb.length) hx1
 have h1:=h.keep st1 trivial trivial (fun _=>trivial)
 have hle:=hx1.1
 have hpt:PT H1 (qqR H g (4+2*pb.length)) c cb ts.length (th0 pb.length (qqG c pb.length l)) H.length:=by
  have key:∀ob,ThP H1 [H.length] ob cb c (th0 pb.length (qqG c pb.length l)) H.length->∀x∈[H.length],x<H1.length/\qqR H g (4+2*pb.length) x=4+2*ts.length:=fun ob hP x hx=>by
   obtain⟨_,_,_,_,hr,_⟩:=hP.row
   rw [List.mem_singleton]at hx
   subst hx
   exact⟨qiB hr,by rw [qqT,h.len]⟩
  rcases hor with⟨e,q⟩|⟨ob,a1,a2,q⟩
  ·exact⟨[H.length],H.length,q _,key 0 (q 0),.inl ⟨e,by simp⟩⟩
  ·exact⟨[H.length],ob,q,key _ q,.inr ⟨a2,qqU a1⟩⟩
 have h2:=h1.push hpt
 have hA1:Arr H1 a pb ka:=hA.keep fun hne=>hx1.2 _ (hA.lt hne)
 have hka1:pb≠[]->qqR H g (4+2*pb.length) ka=1:=fun hne=>by rw [qqS (hA.lt hne)];exact hka hne
 obtain⟨a',k',H2,hap,hA2,hk1,hk2,hl2,hs2⟩:=qqQ hA1 H.length hl
 have st2:=qqW hka1 hl2 hs2
 refine⟨H1,a',H2,k',_,hN,hap,h2.keep st2 (by decide) (by decide) (fun i=>by omega),hA2,qqM (by omega),by omega,by omega,fun x hx=>by rw [st2.tag x (by omega),qqS hx],fun x hx hh => ?_,hx1⟩
 rw [hs2 x (by omega) hh,hx1.2 x hx]
end
end Go.Proofs.YtlgnnpkdhbhdgaaGreat
