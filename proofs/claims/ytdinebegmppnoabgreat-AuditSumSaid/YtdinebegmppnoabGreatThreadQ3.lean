/- A thread's steps keep words in their range, and rows their lengths. -/
import Derived.Test.YtdinebegmppnoabGreatThreadQ2
set_option linter.unusedVariables false
set_option linter.unusedSimpArgs false

namespace Go.Proofs.YtdinebegmppnoabGreat
open Go Go.Ir

variable {c:Cfg}{ws bs:List Int}
end Go.Proofs.YtdinebegmppnoabGreat

/- What a thread holds, and whether it is done: by both. -/
namespace Go.Proofs.YtdinebegmppnoabGreat
open Go Go.Ir

def mxH:Mx→Option (Int×Int)
 | .al s=>if s.cl then some (s.f,qo6 s.n)else none
 | _=>none
def thH (t:Th):Option (Int×Int):=if t.nx=2 then mxH t.m else none
def qpZ:Option (Int×Int)→Value
 | some p => .tuple #[I p.1,I p.2,.bool true]
 | none => .tuple #[I 0,I 0,.bool false]

section
variable {H:qab}{b ob:Nat}{c:Cfg}{t:Th}{cb:CB}{ws bs:List Int}{own:List Nat}
theorem qp0 (H:qab):qfV En 0 Id.zaa [.pointer none] H=some (qpZ none,H):=callR_iff.2 ⟨60,by kernel_rfl⟩
theorem qp1 {s:Al}{k:Nat}(h:AlP H own c s k):qfV En 0 Id.zaa [qku k] H=some (qpZ (mxH (.al s)),H):=by
 obtain⟨tt,gv,hr,_⟩:=h.row
 have l15:qav H none ⟨k,0+15,none⟩=some (.bool s.cl):=qiD hr rfl
 have l11:qav H none ⟨k,0+11,none⟩=some (I s.f):=qiD hr rfl
 have l6:qav H none ⟨k,0+6,none⟩=some (I (qo6 s.n)):=qiD hr rfl
 rcases Bool.eq_false_or_eq_true s.cl with h|h
 ·rw [h]at l15
  have e1:mxH (.al s)=some (s.f,qo6 s.n):=if_pos h
  rw [e1]
  refine qgx rfl Fn.zaa rfl rfl ?_
  repeat' first|refine .A ?_|refine .B ?_|refine .D ?_|refine .F ?_|refine .J ?_|refine .L l15 ?_|refine .L l11 ?_|refine .L l6 ?_|refine .Y ?_|fail
  rfl
 ·rw [h]at l15
  have e1:mxH (.al s)=none:=if_neg (by rw [h];decide)
  rw [e1]
  refine qgx rfl Fn.zaa rfl rfl ?_
  repeat' first|refine .A ?_|refine .B ?_|refine .C ?_|refine .J ?_|refine .L l15 ?_|refine .F ?_|refine .Y ?_|fail
  rfl
theorem qp2 {m:Mx}{k:Nat}(h:MxP H own c k m):qfV En 0 Id.zaa [mxA k m] H=some (qpZ (mxH m),H):=by
 cases m with
 | al s=>exact qp1 h
 | _=>exact qp0 H
theorem qp3 (hP:ThP H own ob cb c t b):qfV En 0 Id.zdj [qku b] H=some (qpZ (thH t),H):=by
 obtain⟨ov,ev,mv,av,hr,_,_,hwk⟩:=hP.row
 have l5:qav H none ⟨b,0+5,none⟩=some (I t.nx):=qiD hr rfl
 have l8:qav H none ⟨b,0+8,none⟩=some av:=qiD hr rfl
 unfold thH
 by_cases h2:t.nx=2
 ·rw [if_pos h2]
  obtain⟨k,mo,rfl,rfl,_,_,hM⟩:=hwk h2
  have hh:=qp2 hM
  generalize mxA k t.m=pv at l8 hh
  generalize mxH t.m=o at hh
  cases o with
  | none =>
    simp only [qpZ]at hh
    refine qgx rfl Fn.zdj rfl rfl ?_
    repeat' first|refine .A ?_|refine .B ?_|refine .D ?_|refine .F ?_|refine .J ?_|refine .f6 ?_|refine .L l5 ?_|refine .L l8 ?_|refine .P hh ?_|refine .Y ?_|fail
    rfl
  | some p =>
    simp only [qpZ]at hh
    refine qgx rfl Fn.zdj rfl rfl ?_
    repeat' first|refine .A ?_|refine .B ?_|refine .D ?_|refine .F ?_|refine .J ?_|refine .f6 ?_|refine .L l5 ?_|refine .L l8 ?_|refine .P hh ?_|refine .Y ?_|fail
    rfl
 ·rw [if_neg h2]
  refine qgx rfl Fn.zdj rfl rfl ?_
  repeat' first|refine .A ?_|refine .B ?_|refine .C ?_|refine .J ?_|refine .t6 ?_|refine .L l5 ?_|refine .F ?_|refine .Y ?_|fail
  rfl
theorem qp4 (hP:ThP H own ob cb c t b):qfV En 0 Id.zdi [qku b] H=some (.bool t.ops.isEmpty,H):=by
 obtain⟨ov,ev,mv,av,hr,hops,_,_⟩:=hP.row
 obtain⟨a,k,hov⟩:=hops.len
 cases ho:t.ops with
 | nil=>rw [ho]at hov;exact qpQ hr hov
 | cons o r=>rw [ho]at hov;exact qpR hr hov

end
end Go.Proofs.YtdinebegmppnoabGreat

/- Events held against each other; whether a thread is busy. -/
namespace Go.Proofs.YtdinebegmppnoabGreat
open Go Go.Ir

structure Ev where
 t:Int
 b:Bool
 d:Int
 h:Int
 f:Int
 n:Int
 cd:Int
 nn:Int
def Ev.cs (e:Ev):List Value := [I e.t,.bool e.b,I e.d,I e.h,I e.f,I e.n,I e.cd,I e.nn]
section
variable {h H:qab}{b ob:Nat}{c:Cfg}{t:Th}{cb:CB}{ws bs:List Int}{own:List Nat}
end
end Go.Proofs.YtdinebegmppnoabGreat

/- Threads made: by both. -/
namespace Go.Proofs.YtdinebegmppnoabGreat
open Go Go.Ir

theorem qp5 (lo:Nat){h:qab}{v:Value}{l:List Op4}(hlo:lo≤h.length)(hv:Sl h 4 v (ocs l))(ht:qiG v l.length)(hb:l.length*32≤2 ^ 47) :
  ∃v' H',qfV En lo Id.zcO [v] h=some (v',H')∧Ext h H'∧(∀ob,(l≠[]→ob=h.length+1)→OpsV H' v' l ob)∧(l≠[]→h.length+1<H'.length):=by
 rcases ht with⟨rfl,h0⟩|⟨a,cap,rfl,hs,hc⟩
 ·have he:l = []:=List.length_eq_zero_iff.1 h0
  subst he
  refine⟨.slice none 0 0,h, ?_,.refl _,fun _ _ => .inl ⟨rfl,none,0,rfl,fun _=>rfl,(fun x hx=>nomatch hx)⟩,fun h=>absurd rfl h⟩
  refine qgx rfl Fn.zcO rfl rfl ?_
  repeat' first|refine .A ?_|refine .B ?_|refine .C ?_|refine .J ?_|refine .F ?_|refine .Y ?_|fail
  rfl
 ·have hx:Ext h (h ++ [Blk.row [] false]):=(Ext.refl h).app _
  by_cases h0:l.length=0
  ·have he:l = []:=List.length_eq_zero_iff.1 h0
   subst he
   have ha:qaF lo 4 32 (h ++ [Blk.row [] false]) (.slice (some ⟨h.length,0,none⟩) 0 0) (.slice (some a) 0 cap)=some (.slice (some ⟨h.length,0,none⟩) 0 0,h ++ [Blk.row [] false]):=by
    simp [qaF,qaC,qaD]
   refine⟨.slice (some ⟨h.length,0,none⟩) 0 0,h ++ [Blk.row [] false], ?_,hx,fun _ _ => .inl ⟨rfl,_,_,rfl,(fun h=>nomatch h),(fun x hx=>by injection hx with e;subst e;exact⟨rfl,Nat.le_refl _⟩)⟩,fun h=>absurd rfl h⟩
   refine qgx rfl Fn.zcO rfl rfl ?_
   repeat' first|refine .A ?_|refine .B ?_|refine .D ?_|refine .F ?_|refine .J ?_|refine .U ha ?_|refine .Y ?_|fail
   rfl
  ·have hl0:l≠[]:=fun e=>h0 (by rw [e];rfl)
   have hel:(ocs l).length=l.length:=qnY l
   rcases hv.2 with⟨h1,_⟩|⟨a',cap',h1,h2⟩
   ·rw [h1]at hel;exact absurd hel.symm h0
   ·rw [hel]at h1 h2
    injection h1 with e1 _ e3
    injection e1 with e1
    subst e1 e3
    have hsr:qaD (h ++ [Blk.row [] false]) 4 l.length (.slice (some a) l.length cap)=some (ocs l).flatten:=by
     unfold qaD
     simp only
     rw [if_neg h0]
     exact qgF hx h2
    have ha:qaF lo 4 32 (h ++ [Blk.row [] false]) (.slice (some ⟨h.length,0,none⟩) 0 0) (.slice (some a) l.length cap)=some (.slice (some (loose (h.length+1) 0)) l.length 4,h ++ [Blk.row [] false] ++ [Blk.row (ocs l).flatten false]):=by
     simp only [qaF,qaC,hsr]
     rw [if_pos (.inr ⟨trivial,rfl,by omega,by omega⟩),if_neg (by omega)]
     simp [qaD]
    have hfl:((ocs l).flatten).length=l.length*4:=by rw [qgA (qnZ l),hel]
    refine⟨.slice (some (loose (h.length+1) 0)) l.length 4,h ++ [Blk.row [] false] ++ [Blk.row (ocs l).flatten false], ?_,hx.app _,fun ob hob => .inr ⟨0,(ocs l).flatten,by rw [hob hl0],by
     rw [hob hl0];rw [List.getElem?_append_right (by simp)];simp,by omega,by rw [List.drop_zero,←hfl,List.take_length]⟩,fun _=>by simp⟩
    refine qgx rfl Fn.zcO rfl rfl ?_
    repeat' first|refine .A ?_|refine .B ?_|refine .D ?_|refine .F ?_|refine .J ?_|refine .U ha ?_|refine .Y ?_|fail
    rfl

theorem qp6 {c:Cfg}(hm:c.may){num:Int}(h:¬0≤qjG c num):qjG c num = -1:=by
 unfold qjG at h⊢
 split at h
 ·unfold Cfg.may at hm;omega
 ·rename_i g;rw [if_neg g]
def th0 (num:Int)(l:List Op4):Th:=⟨num,l,0,0,.no,0,0⟩
def qp7 (c:Cfg)(num:Int)(l:List Op4):List Op4:=if 0≤qjG c num then l else []
def tr0 (c:Cfg)(num:Int)(ov:Value):List Value := [I c.A,I c.S,I c.T,I num,ov,I 0,.pointer none,.nilIface,.pointer none,I 0,I 0]
theorem qp8 {h:qab}{v:Value}{l:List Op4}{c:Cfg}(cb:CB)(num:Int)(hm:c.may)(hcb:cb.P<h.length∧cb.W<h.length∧cb.Y<h.length)(hv:Sl h 4 v (ocs l))(ht:qiG v l.length)(hb:l.length*32≤2 ^ 47) :
  ∃H',qfV En 0 Id.zdh [.agg c.cs.toArray,I num,v] h=some (qku h.length,H')∧Ext h H'∧((qp7 c num l = []∧∀ob,ThP H' [h.length] ob cb c (th0 num (qp7 c num l)) h.length)∨∃ob,h.length<ob∧ob<H'.length∧ThP H' [h.length] ob cb c (th0 num (qp7 c num l)) h.length):=by
 have hx:Ext h (h ++ [.row (tr0 c num (.slice none 0 0)) false]):=(Ext.refl h).app _
 have hfar:∀ob,h.length<ob→ob∉qoU [h.length] cb:=fun ob hob hh=>by
  simp only [qoU,List.cons_append,List.nil_append,List.mem_cons,List.mem_nil_iff,or_false]at hh
  omega
 have hO:=fun lo=>qju lo (h ++ [.row (tr0 c num (.slice none 0 0)) false]) hm
 have hN:=fun lo=>qjH lo (h ++ [.row (tr0 c num (.slice none 0 0)) false]) hm num
 by_cases hge:0≤qjG c num
 ·rw [show qp7 c num l=l from if_pos hge]
  have hge':=hge
  generalize qjG c num=nn at hN hge'
  obtain⟨v',H1,hC,hx1,hs1,hl1⟩:=qp5 0 (h:=h ++ [.row (tr0 c num (.slice none 0 0)) false]) (Nat.zero_le _) (hv.ext hx) ht hb
  have hr:H1[h.length]? = some (.row (tr0 c num (.slice none 0 0)) false):=by
   rw [hx1.2 h.length (by rw [List.length_append,List.length_singleton];omega)]
   exact List.getElem?_concat_length
  rw [List.length_append,List.length_singleton]at hs1 hl1
  have hlen:=(hs1 (h.length+1+1) fun _=>rfl).len
  obtain⟨a,k,hve⟩:=hlen
  have hst:stN 0 H1 ⟨h.length,0+4,none⟩ (qaf v')=some (H1.set h.length (.row (tr0 c num v') false)):=by subst hve;exact qiF hr (Nat.zero_le _) (Nat.le_of_ble_eq_true rfl) rfl
  have mk:∀ob,(l≠[]→ob∉qoU [h.length] cb)→OpsV (H1.set h.length (.row (tr0 c num v') false)) v' l ob→ThP (H1.set h.length (.row (tr0 c num v') false)) [h.length] ob cb c (th0 num l) h.length:=fun ob hf ho=>⟨by simp,fun _=>hge,by simp [th0],hf,v',.pointer none,.nilIface,.pointer none,qiz (qiC hr),ho,fun h=>by simp [th0]at h,fun h=>by simp [th0]at h⟩
  refine⟨H1.set h.length (.row (tr0 c num v') false), ?_,⟨by rw [List.length_set];exact Nat.le_trans hx.1 hx1.1,fun i hi => ?_⟩, ?_⟩
  ·subst hve
   refine qgx rfl Fn.zdh rfl rfl ?_
   repeat' first|refine .A ?_|refine .B ?_|refine .C ?_|refine .J ?_|refine .t4 ?_|refine .t5 ?_|refine .P (hO _) ?_|refine .P (hN _) ?_|refine .P hC ?_|refine .S hst ?_|refine .F ?_|refine .Y ?_|fail
   rfl
  ·rw [List.getElem?_set_ne (by omega),hx1.2 i (by rw [List.length_append];omega),hx.2 i hi]
  ·by_cases hl:l = []
   ·refine .inl ⟨hl,fun ob=>mk ob (fun q=>absurd hl q) ?_⟩
    rcases hs1 H1.length (fun q=>absurd hl q)with q|⟨off,cs,_,q,_⟩
    ·exact .inl q
    ·rw [List.getElem?_eq_none (Nat.le_refl _)]at q;cases q
   ·exact .inr ⟨h.length+1+1,by omega,by rw [List.length_set];exact hl1 hl,mk _ (fun _=>hfar _ (by omega)) ((hs1 _ fun _=>rfl).keep (List.getElem?_set_ne (by omega)))⟩
 ·rw [show qp7 c num l = []from if_neg hge]
  have hlt:=qp6 hm hge
  rw [hlt]at hN
  refine⟨_, ?_,hx,.inl ⟨rfl,fun ob=>⟨by simp,fun h=>absurd rfl h,by simp [th0],fun h=>absurd rfl h,.slice none 0 0,.pointer none,.nilIface,.pointer none,List.getElem?_concat_length,.inl ⟨rfl,none,0,rfl,fun _=>rfl,(fun x hx=>nomatch hx)⟩,fun h=>by simp [th0]at h,fun h=>by simp [th0]at h⟩⟩⟩
  refine qgx rfl Fn.zdh rfl rfl ?_
  repeat' first|refine .A ?_|refine .B ?_|refine .D ?_|refine .F ?_|refine .J ?_|refine .f4 ?_|refine .t5 ?_|refine .P (hO _) ?_|refine .P (hN _) ?_|refine .Y ?_|fail
  rfl

end Go.Proofs.YtdinebegmppnoabGreat

/- The document's cells as they are at first. -/
namespace Go.Proofs.YtdinebegmppnoabGreat
open Go Go.Ir

end Go.Proofs.YtdinebegmppnoabGreat

/- Many threads: each with its own blocks, by both. -/
namespace Go.Proofs.YtdinebegmppnoabGreat
open Go Go.Ir

def fil (H:qab)(own:List Nat):List Nat:=own.filter (fun x=>decide (x<H.length))
theorem mem_fil {H:qab}{own:List Nat}{x:Nat} : x∈fil H own↔x∈own∧x<H.length:=by simp [fil]
theorem qp9 {H:qab}{own:List Nat}{x:Nat}{k:Blk}(h:x∈own)(hr:H[x]? = some k):x∈fil H own:=mem_fil.2 ⟨h,qiC hr⟩
theorem qqa {H:qab}{own:List Nat}{cb:CB}{x:Nat}(h:x∈qoU (fil H own) cb):x∈qoU own cb:=by
 rcases List.mem_append.1 h with g|g
 ·exact List.mem_append_left _ (mem_fil.1 g).1
 ·exact List.mem_append_right _ g

section
variable {H H':qab}{b ob:Nat}{c:Cfg}{t:Th}{cb:CB}{ws bs:List Int}{own:List Nat}
theorem MxP.fil {k:Nat} : ∀{m:Mx},MxP H own c k m→MxP H (fil H own) c k m
 | .al s,h=>by
   obtain⟨h1,h2,t,gv,h3,h4,h5,h6,h7⟩:=h
   refine⟨qp9 h1 h3,h2,t,gv,h3,h4,h5,qp9 h6 h4,fun h => ?_⟩
   obtain⟨q,q1,q2,q3,q4,q5⟩:=h7 h
   exact⟨q,q1,q2,q3,q4,qp9 q5 q2⟩
 | .fe s,h=>by
   obtain⟨h1,to,more,gv,h2,h3,h4⟩:=h
   refine⟨qp9 h1 h2,to,more,gv,h2,h3,fun a1 a2 a3 => ?_⟩
   obtain⟨q,q1,q2,q3,q4⟩:=h4 a1 a2 a3
   exact⟨q,q1,q2,q3,qp9 q4 q2⟩
 | .rd s,h=>⟨qp9 h.1 h.2,h.2⟩
 | .wr s,h=>⟨qp9 h.1 h.2,h.2⟩
 | .pn s,h=>⟨qp9 h.1 h.2,h.2⟩
 | .no,_=>trivial
theorem ThP.fil (h:ThP H own ob cb c t b):ThP H (fil H own) ob cb c t b:=by
 obtain⟨ov,ev,mv,av,hr,ho,he,hw⟩:=h.row
 refine⟨qp9 h.mem hr,h.note,h.nx,fun a hm=>h.far a (qqa hm),ov,ev,mv,av,hr,ho,fun a => ?_,fun a => ?_⟩
 ·obtain⟨e,e1,e2,e3,e4⟩:=he a
  exact⟨e,e1,qp9 e2 e4,e3,e4⟩
 ·obtain⟨k,mo,e1,e2,e3,e4,e5⟩:=hw a
  exact⟨k,Go.Proofs.YtdinebegmppnoabGreat.fil H mo,e1,e2,fun x hx=>mem_fil.2 ⟨e3 x (mem_fil.1 hx).1,(mem_fil.1 hx).2⟩,fun hb=>e4 (mem_fil.1 hb).1,e5.fil⟩
theorem ThP.keep (h:ThP H own ob cb c t b)(hk:∀x∈own,H'[x]? = H[x]?)(hob:H'[ob]? = H[ob]?):ThP H' own ob cb c t b:=by
 obtain⟨ov,ev,mv,av,hr,ho,he,hw⟩:=h.row
 refine⟨h.mem,h.note,h.nx,h.far,ov,ev,mv,av,(hk _ h.mem).trans hr,ho.keep hob,fun a => ?_,fun a => ?_⟩
 ·obtain⟨e,e1,e2,e3,e4⟩:=he a
  exact⟨e,e1,e2,e3,(hk _ e2).trans e4⟩
 ·obtain⟨k,mo,e1,e2,e3,e4,e5⟩:=hw a
  exact⟨k,mo,e1,e2,e3,e4,e5.keep fun x hx=>hk x (e3 x hx)⟩
theorem MxR.fil {k:Nat} : ∀{m:Mx},MxR H own c k m→MxR H (fil H own) c k m
 | .al s,h=>by
   obtain⟨h1,h2,pv,gv,h3,h4,h5⟩:=h
   refine⟨qp9 h1 h3,h2,pv,gv,h3,fun h => ?_,fun h => ?_⟩
   ·obtain⟨q,q1,q2,q3,q4⟩:=h4 h
    exact⟨q,q1,q2,q3,qp9 q4 q2⟩
   ·obtain⟨q,q1,q2,q3,q4⟩:=h5 h
    exact⟨q,q1,q2,q3,qp9 q4 q2⟩
 | .fe s,h=>by
   obtain⟨h1,⟨gv,h2,h3⟩,h4,h5⟩:=h
   refine⟨qp9 h1 h2,⟨gv,h2,fun a1 a2 a3 => ?_⟩,h4,h5⟩
   obtain⟨q,q1,q2,q3,q4⟩:=h3 a1 a2 a3
   exact⟨q,q1,q2,q3,qp9 q4 q2⟩
 | .rd s,h=>by
   obtain⟨h1,kp,bb,h2,h3⟩:=h
   exact⟨qp9 h1 h2,kp,bb,h2,h3⟩
 | .wr s,h=>by
   obtain⟨h1,e,h2,h3⟩:=h
   exact⟨qp9 h1 h2,e,h2,h3⟩
 | .pn s,h=>by
   obtain⟨h1,h2,h3⟩:=h
   exact⟨qp9 h1 h2,h2,h3⟩
 | .no,_=>trivial
theorem ThR.fil (h:ThR H own ob cb c t b):ThR H (fil H own) ob cb c t b:=by
 obtain⟨L,at_,ov,ev,xv,hr,ho,g1,g2,g3,g4,he,hw⟩:=h.row
 refine⟨qp9 h.mem hr,h.note,h.nx,L,at_,ov,ev,xv,hr,ho,g1,g2,g3,fun a hm=>g4 a (qqa hm),fun a => ?_,fun a => ?_⟩
 ·obtain⟨e,e1,e2,e3,e4⟩:=he a
  exact⟨e,e1,qp9 e2 e4,e3,e4⟩
 ·obtain⟨x,k,mo,d,e1,e2,e3,e4,e5,e6⟩:=hw a
  exact⟨x,k,Go.Proofs.YtdinebegmppnoabGreat.fil H mo,d,e1,qp9 e2 e6.row,e3,fun x hx=>mem_fil.2 ⟨e4 x (mem_fil.1 hx).1,(mem_fil.1 hx).2⟩,fun hb=>e5 (mem_fil.1 hb).1,⟨e6.row,e6.d,e6.ok,e6.my.fil,fun hb=>e6.no (mem_fil.1 hb).1⟩⟩
theorem ThR.keep (h:ThR H own ob cb c t b)(hk:∀x∈own,H'[x]? = H[x]?)(hob:H'[ob]? = H[ob]?):ThR H' own ob cb c t b:=by
 obtain⟨L,at_,ov,ev,xv,hr,ho,g1,g2,g3,g4,he,hw⟩:=h.row
 refine⟨h.mem,h.note,h.nx,L,at_,ov,ev,xv,(hk _ h.mem).trans hr,ho.keep hob,g1,g2,g3,g4,fun a => ?_,fun a => ?_⟩
 ·obtain⟨e,e1,e2,e3,e4⟩:=he a
  exact⟨e,e1,e2,e3,(hk _ e2).trans e4⟩
 ·obtain⟨x,k,mo,d,e1,e2,e3,e4,e5,e6⟩:=hw a
  exact⟨x,k,mo,d,e1,e2,e3,e4,e5,e6.keep (fun y hy=>hk y (e4 y hy)) (hk x e2)⟩
end

def PT (H:qab)(g:Nat→Nat)(c:Cfg)(cb:CB)(i:Nat)(t:Th)(b:Nat):Prop :=
 ∃own ob,ThP H own ob cb c t b∧(∀x∈own,x<H.length∧g x=4+2*i)∧((t.ops = []∧ob∈own)∨(ob<H.length∧g ob=0))
structure PInv (H:qab)(g:Nat→Nat)(c:Cfg)(cb:CB)(ws bs:List Int)(ts:List Th)(pb:List Nat):Prop where
 cells:IsC H cb ws bs
 tc:g cb.P=2∧g cb.W=2∧g cb.Y=2
 len:pb.length=ts.length
 th:∀i t b,ts[i]? = some t→pb[i]? = some b→PT H g c cb i t b
def RT (H:qab)(g:Nat→Nat)(c:Cfg)(cb:CB)(i:Nat)(t:Th)(b:Nat):Prop :=
 ∃own ob,ThR H own ob cb c t b∧(∀x∈own,x<H.length∧g x=5+2*i)∧ob<H.length∧g ob=0
structure RInv (H:qab)(g:Nat→Nat)(c:Cfg)(cb:CB)(ws bs:List Int)(ts:List Th)(pb:List Nat):Prop where
 cells:IsR H cb ws bs
 tc:g cb.P=3∧g cb.W=3∧g cb.Y=3
 len:pb.length=ts.length
 th:∀i t b,ts[i]? = some t→pb[i]? = some b→RT H g c cb i t b
structure Stp (T:Nat→Prop)(H H':qab)(g g':Nat→Nat):Prop where
 len:H.length≤H'.length
 tag:∀x,x<H.length→g' x=g x
 same:∀x,x<H.length→T (g x)→H'[x]? = H[x]?
def TP (n:Nat):Prop:=n%2=1∨n=0
theorem Stp.mono {T T':Nat→Prop}{H H':qab}{g g':Nat→Nat}(h:Stp T H H' g g')(hT:∀n,T' n→T n):Stp T' H H' g g':=⟨h.len,h.tag,fun x hx ht=>h.same x hx (hT _ ht)⟩

section
variable {H H':qab}{g g':Nat→Nat}{c:Cfg}{cb:CB}{ws bs:List Int}{ts:List Th}{pb:List Nat}{i b:Nat}{t:Th}
theorem PT.keep {T:Nat→Prop}(h:PT H g c cb i t b)(s:Stp T H H' g g')(h0:T 0)(hi:T (4+2*i)):PT H' g' c cb i t b:=by
 obtain⟨own,ob,h1,h2,h3⟩:=h
 have hk:∀x∈own,H'[x]? = H[x]? := fun x hx=>s.same x (h2 x hx).1 (by rw [(h2 x hx).2];exact hi)
 refine⟨own,ob,h1.keep hk (h3.elim (fun q=>hk ob q.2) fun q=>s.same ob q.1 (by rw [q.2];exact h0)),fun x hx=>⟨Nat.lt_of_lt_of_le (h2 x hx).1 s.len,(s.tag x (h2 x hx).1).trans (h2 x hx).2⟩,h3.imp id fun q=>⟨Nat.lt_of_lt_of_le q.1 s.len,(s.tag ob q.1).trans q.2⟩⟩
theorem PInv.keep {T:Nat→Prop}(h:PInv H g c cb ws bs ts pb)(s:Stp T H H' g g')(h0:T 0)(h2:T 2)(hi:∀i,T (4+2*i)):PInv H' g' c cb ws bs ts pb:=by
 have lc:=ltC h.cells
 obtain⟨st,hp⟩:=h.cells.p
 refine⟨⟨⟨st,(s.same _ lc.1 (by rw [h.tc.1];exact h2)).trans hp⟩,(s.same _ lc.2.1 (by rw [h.tc.2.1];exact h2)).trans h.cells.w,(s.same _ lc.2.2 (by rw [h.tc.2.2];exact h2)).trans h.cells.y,h.cells.pw,h.cells.py,h.cells.wy,h.cells.byte⟩,
  ⟨(s.tag _ lc.1).trans h.tc.1,(s.tag _ lc.2.1).trans h.tc.2.1,(s.tag _ lc.2.2).trans h.tc.2.2⟩,h.len,fun i t b ht hb=>(h.th i t b ht hb).keep s h0 (hi i)⟩
theorem RT.keep {T:Nat→Prop}(h:RT H g c cb i t b)(s:Stp T H H' g g')(h0:T 0)(hi:T (5+2*i)):RT H' g' c cb i t b:=by
 obtain⟨own,ob,h1,h2,h3,h4⟩:=h
 refine⟨own,ob,h1.keep (fun x hx=>s.same x (h2 x hx).1 (by rw [(h2 x hx).2];exact hi)) (s.same ob h3 (by rw [h4];exact h0)),fun x hx=>⟨Nat.lt_of_lt_of_le (h2 x hx).1 s.len,(s.tag x (h2 x hx).1).trans (h2 x hx).2⟩,Nat.lt_of_lt_of_le h3 s.len,(s.tag ob h3).trans h4⟩
theorem RInv.keep {T:Nat→Prop}(h:RInv H g c cb ws bs ts pb)(s:Stp T H H' g g')(h0:T 0)(h2:T 3)(hi:∀i,T (5+2*i)):RInv H' g' c cb ws bs ts pb:=by
 have lc:=ltR h.cells
 obtain⟨st,hp⟩:=h.cells.p
 refine⟨⟨⟨st,(s.same _ lc.1 (by rw [h.tc.1];exact h2)).trans hp⟩,(s.same _ lc.2.1 (by rw [h.tc.2.1];exact h2)).trans h.cells.w,(s.same _ lc.2.2 (by rw [h.tc.2.2];exact h2)).trans h.cells.y,h.cells.pw,h.cells.py,h.cells.wy,h.cells.byte⟩,
  ⟨(s.tag _ lc.1).trans h.tc.1,(s.tag _ lc.2.1).trans h.tc.2.1,(s.tag _ lc.2.2).trans h.tc.2.2⟩,h.len,fun i t b ht hb=>(h.th i t b ht hb).keep s h0 (hi i)⟩

def qqb (H:qab)(g:Nat→Nat)(k:Nat):Nat→Nat:=fun x=>if x<H.length then g x else k
theorem qqc {x k:Nat}(h:x<H.length):qqb H g k x=g x:=if_pos h
theorem qqd {x k:Nat}(h:H.length≤x):qqb H g k x=k:=if_neg (by omega)

theorem qqe {own own':List Nat}{k e:Nat}(hg:Grew H H' own own' cb)(ho:∀x∈own,g x=k)(hc:g cb.P=e∧g cb.W=e∧g cb.Y=e):Stp (fun n=>n≠k∧n≠e) H H' g (qqb H g k) :=
 ⟨hg.chg.len,fun x hx=>qqc hx,fun x hx ht=>hg.chg.same x hx fun hm=>by
   unfold qoU at hm
   simp only [List.mem_append,List.mem_cons,List.mem_nil_iff,or_false]at hm
   rcases hm with h|rfl|rfl|rfl
   ·exact ht.1 (ho x h)
   ·exact ht.2 hc.1
   ·exact ht.2 hc.2.1
   ·exact ht.2 hc.2.2⟩

theorem qqf (h:t.ops = []):(thS c t ws bs).1.ops = []:=by unfold thS;rw [h];exact h
theorem qqg (hm:c.may)(h:PInv H g c cb ws bs ts pb)(ht:ts[i]? = some t)(hb:pb[i]? = some b) :
  ∃v H' g',qfV En 0 Id.zdk [qku b,ifC cb] H=some (v,H')∧SlN H H' v (thS c t ws bs).2.2.2∧PInv H' g' c cb (thS c t ws bs).2.1 (thS c t ws bs).2.2.1 (ts.set i (thS c t ws bs).1) pb∧Stp TP H H' g g'∧(∀x,H.length≤x→g' x=4+2*i):=by
 obtain⟨own,ob,hP,h2,h3⟩:=h.th i t b ht hb
 have hA:Apart own cb:=fun x hx=>⟨fun e=>by have:=(h2 x hx).2;rw [e,h.tc.1]at this;omega,fun e=>by have:=(h2 x hx).2;rw [e,h.tc.2.1]at this;omega,fun e=>by have:=(h2 x hx).2;rw [e,h.tc.2.2]at this;omega⟩
 obtain⟨v,own',H',hC,hS,hP',hC',hg⟩:=qpX hP h.cells hA hm
 have st:=qqe (g:=g) (k:=4+2*i) (e:=2) hg (fun x hx=>(h2 x hx).2) h.tc
 refine⟨v,H',qqb H g (4+2*i),hC,hS,⟨hC', ?_,by rw [List.length_set];exact h.len,fun j u d hu hd => ?_⟩,st.mono fun n hn => ?_,fun x hx=>qqd hx⟩
 ·have lc:=ltC h.cells
  rw [qqc lc.1,qqc lc.2.1,qqc lc.2.2]
  exact h.tc
 ·by_cases hj:i=j
  ·subst hj
   have hil:=(List.getElem?_eq_some_iff.1 ht).1
   rw [List.getElem?_set_self hil]at hu
   injection hu with hu
   rw [hb]at hd
   injection hd with hd
   subst hu hd
   refine⟨fil H' own',ob,hP'.fil,fun x hx => ?_,h3.imp (fun q=>⟨qqf q.1,mem_fil.2 ⟨hg.sub ob q.2,Nat.lt_of_lt_of_le (h2 ob q.2).1 hg.chg.len⟩⟩) fun q=>⟨Nat.lt_of_lt_of_le q.1 hg.chg.len,(qqc q.1).trans q.2⟩⟩
   obtain⟨hx1,hx2⟩:=mem_fil.1 hx
   refine⟨hx2, ?_⟩
   rcases hg.new x hx1 with q|q
   ·rw [qqc (h2 x q).1];exact(h2 x q).2
   ·exact qqd q
  ·rw [List.getElem?_set_ne hj]at hu
   exact(h.th j u d hu hd).keep st ⟨by omega,by omega⟩ ⟨by omega,by omega⟩
 ·rcases hn with hn|hn<;>exact⟨by omega,by omega⟩
end
end Go.Proofs.YtdinebegmppnoabGreat

/- Rows of pointers to threads; threads made one behind the other. -/
namespace Go.Proofs.YtdinebegmppnoabGreat
open Go Go.Ir

def Arr (H:qab)(v:Value)(l:List Nat)(k:Nat):Prop :=
 (l = []∧v = .slice none 0 0)∨(l≠[]∧v = .slice (some (loose k 0)) l.length 1∧H[k]? = some (.row (l.map qku) false))
theorem Arr.keep {H H':qab}{v:Value}{l:List Nat}{k:Nat}(h:Arr H v l k)(hk:l≠[]→H'[k]? = H[k]?):Arr H' v l k:=by
 rcases h with h|⟨h1,h2,h3⟩
 ·exact .inl h
 ·exact .inr ⟨h1,h2,(hk h1).trans h3⟩
theorem Arr.lt {H:qab}{v:Value}{l:List Nat}{k:Nat}(h:Arr H v l k)(h0:l≠[]):k<H.length:=by
 rcases h with h|⟨h1,h2,h3⟩
 ·exact absurd h.1 h0
 ·exact qiC h3
theorem Arr.len {H:qab}{v:Value}{l:List Nat}{k:Nat}(h:Arr H v l k):∃a c,v = .slice a l.length c:=by
 rcases h with⟨rfl,h⟩|⟨h1,h2,h3⟩
 ·exact⟨none,0,h⟩
 ·exact⟨_,_,h2⟩
theorem Arr.at {H:qab}{v:Value}{l:List Nat}{k:Nat}(h:Arr H v l k){i b:Nat}(hi:l[i]? = some b):v = .slice (some (loose k 0)) l.length 1∧∀H',H'[k]? = H[k]?→qav H' none ⟨k,0+i*1,none⟩=some (qku b):=by
 rcases h with⟨rfl,_⟩|⟨h1,h2,h3⟩
 ·simp at hi
 ·exact⟨h2,fun H' hk=>qiD (hk.trans h3) (by rw [Nat.zero_add,Nat.mul_one,List.getElem?_map,hi];rfl)⟩
theorem qqh {H:qab}{v:Value}{l:List Nat}{k:Nat}(h:Arr H v l k)(p:Nat)(hl:l.length<1000) :
  ∃v' k' H',qaF 0 1 8 (H ++ [.row [qku p] false]) v (.slice (some ⟨H.length,0,none⟩) 1 1)=some (v',H')∧Arr H' v' (l ++ [p]) k'∧H.length<k'∧k'<H'.length∧H.length≤H'.length∧∀x,x<H.length→(l = []∨x≠k)→H'[x]? = H[x]? := by
 have hsrc:∀m,m=1→qaD (H ++ [.row [qku p] false]) 1 m (.slice (some ⟨H.length,0,none⟩) 1 1)=some [qku p]:=fun m hm=>by
  subst hm
  unfold qaD
  simp only
  rw [if_neg (by decide)]
  exact qgE (a:=⟨H.length,0,none⟩) (cs := [qku p]) (ro:=false) (List.getElem?_concat_length) rfl rfl
 rcases h with⟨rfl,rfl⟩|⟨h0,rfl,h3⟩
 ·refine⟨.slice (some (loose (H ++ [Blk.row [qku p] false]).length 0)) 1 1,(H ++ [Blk.row [qku p] false]).length,H ++ [Blk.row [qku p] false] ++ [Blk.row [qku p] false], ?_,.inr ⟨by simp,rfl,by rw [List.getElem?_concat_length];rfl⟩,by simp,by simp,by simp<;>omega,fun x hx _=>by
   rw [List.append_assoc,List.getElem?_append_left hx]⟩
  simp only [qaF,qaC,Nat.zero_add,hsrc 1 rfl]
  rw [if_pos (.inl ⟨by omega,by decide⟩)]
  simp
 ·have hbl:=qiC h3
  have h3':(H ++ [Blk.row [qku p] false])[k]? = some (.row (l.map qku) false):=by rw [List.getElem?_append_left hbl];exact h3
  have hln:¬l.length=0:=fun e=>h0 (List.length_eq_zero_iff.1 e)
  have hold:qaD (H ++ [.row [qku p] false]) 1 l.length (.slice (some (loose k 0)) l.length 1)=some (l.map qku):=by
   unfold qaD
   simp only
   rw [if_neg hln]
   exact qgE (a:=loose k 0) h3' rfl (by simp)
  refine⟨.slice (some (loose (H ++ [Blk.row [qku p] false]).length 0)) (l.length+1) 1,(H ++ [Blk.row [qku p] false]).length,(H ++ [Blk.row [qku p] false]).set k Blk.dead ++ [Blk.row (l.map qku ++ [qku p]) false], ?_,
   .inr ⟨by simp,by simp, ?_⟩,by simp,by simp,by simp<;>omega,fun x hx hk => ?_⟩
  ·simp only [qaF,qaC,hsrc 1 rfl]
   rw [if_pos (.inl ⟨by omega,by decide⟩)]
   simp only [loose]at hold h3'⊢
   simp only [hold,h3']
   simp
  ·rw [List.getElem?_append_right (by simp)]
   simp
  ·have hkx:x≠k:=hk.resolve_left h0
   rw [List.getElem?_append_left (by rw [List.length_set,List.length_append];omega),List.getElem?_set_ne (Ne.symm hkx),List.getElem?_append_left hx]

section
variable {H:qab}{g:Nat→Nat}{c:Cfg}{cb:CB}{ws bs:List Int}{ts:List Th}{pb:List Nat}
theorem PInv.push {H':qab}{g':Nat→Nat}{t:Th}{b:Nat}(h:PInv H' g' c cb ws bs ts pb)(hn:PT H' g' c cb ts.length t b):PInv H' g' c cb ws bs (ts ++ [t]) (pb ++ [b]):=by
 refine⟨h.cells,h.tc,by simp [h.len],fun i u d hu hd => ?_⟩
 by_cases hi:i<ts.length
 ·rw [List.getElem?_append_left hi]at hu
  rw [List.getElem?_append_left (by rw [h.len];exact hi)]at hd
  exact h.th i u d hu hd
 ·have hl:=(List.getElem?_eq_some_iff.1 hu).1
  rw [List.length_append,List.length_singleton]at hl
  have he:i=ts.length:=by omega
  subst he
  rw [List.getElem?_concat_length]at hu
  rw [←h.len,List.getElem?_concat_length]at hd
  injection hu with hu
  injection hd with hd
  subst hu hd
  exact hn
theorem RInv.push {H':qab}{g':Nat→Nat}{t:Th}{b:Nat}(h:RInv H' g' c cb ws bs ts pb)(hn:RT H' g' c cb ts.length t b):RInv H' g' c cb ws bs (ts ++ [t]) (pb ++ [b]):=by
 refine⟨h.cells,h.tc,by simp [h.len],fun i u d hu hd => ?_⟩
 by_cases hi:i<ts.length
 ·rw [List.getElem?_append_left hi]at hu
  rw [List.getElem?_append_left (by rw [h.len];exact hi)]at hd
  exact h.th i u d hu hd
 ·have hl:=(List.getElem?_eq_some_iff.1 hu).1
  rw [List.length_append,List.length_singleton]at hl
  have he:i=ts.length:=by omega
  subst he
  rw [List.getElem?_concat_length]at hu
  rw [←h.len,List.getElem?_concat_length]at hd
  injection hu with hu
  injection hd with hd
  subst hu hd
  exact hn

def qqi (H:qab)(g:Nat→Nat)(k:Nat):Nat→Nat:=fun x=>if x<H.length then g x else if x=H.length then k else 0
theorem qqj {k x:Nat}(h:x<H.length):qqi H g k x=g x:=if_pos h
theorem qqk {k:Nat} : qqi H g k H.length=k:=(if_neg (Nat.lt_irrefl _)).trans (if_pos rfl)
theorem qql {k x:Nat}(h:H.length<x):qqi H g k x=0:=(if_neg (by omega)).trans (if_neg (by omega))
theorem qqm {H':qab}{k:Nat}(hx:Ext H H'):Stp (fun _=>True) H H' g (qqi H g k):=⟨hx.1,fun x h=>qqj h,fun x h _=>hx.2 x h⟩
theorem qqn {H':qab}{l:List Nat}{k:Nat}(hk:l≠[]→g k=1)(hl:H.length≤H'.length)(hs:∀x,x<H.length→(l = []∨x≠k)→H'[x]? = H[x]?):Stp (fun n=>n≠1) H H' g (qqb H g 1) :=
 ⟨hl,fun x h=>qqc h,fun x h ht=>hs x h (Decidable.byContradiction fun hn=>ht (by
   have h1:l≠[]:=fun e=>hn (.inl e)
   have h2:x=k:=Decidable.byContradiction fun e=>hn (.inr e)
   rw [h2];exact hk h1))⟩

theorem qqo {v a:Value}{l:List Op4}{ka:Nat}(hm:c.may)(h:PInv H g c cb ws bs ts pb)(hv:Sl H 4 v (ocs l))(ht:qiG v l.length)(hb:l.length*32≤2 ^ 47)(hA:Arr H a pb ka)(hka:pb≠[]→g ka=1)(hl:pb.length<1000) :
  ∃H1 a' H2 k' g',qfV En 0 Id.zdh [.agg c.cs.toArray,I pb.length,v] H=some (qku H.length,H1)∧qaF 0 1 8 (H1 ++ [.row [qku H.length] false]) a (.slice (some ⟨H1.length,0,none⟩) 1 1)=some (a',H2)∧
   PInv H2 g' c cb ws bs (ts ++ [th0 pb.length (qp7 c pb.length l)]) (pb ++ [H.length])∧Arr H2 a' (pb ++ [H.length]) k'∧g' k'=1∧H.length≤k'∧H.length≤H2.length∧(∀x,x<H.length→g' x=g x)∧(∀x,x<H.length→(pb = []∨x≠ka)→H2[x]? = H[x]?)∧Ext H H1:=by
 have lc:=ltC h.cells
 obtain⟨H1,hN,hx1,hor⟩:=qp8 cb (pb.length:Int) hm lc hv ht hb
 have st1:=qqm (g:=g) (k:=4+2*pb.length) hx1
 have h1:=h.keep st1 trivial trivial (fun _=>trivial)
 have hle:=hx1.1
 have hpt:PT H1 (qqi H g (4+2*pb.length)) c cb ts.length (th0 pb.length (qp7 c pb.length l)) H.length:=by
  have key:∀ob,ThP H1 [H.length] ob cb c (th0 pb.length (qp7 c pb.length l)) H.length→∀x∈[H.length],x<H1.length∧qqi H g (4+2*pb.length) x=4+2*ts.length:=fun ob hP x hx=>by
   obtain⟨_,_,_,_,hr,_⟩:=hP.row
   rw [List.mem_singleton]at hx
   subst hx
   exact⟨qiC hr,by rw [qqk,h.len]⟩
  rcases hor with⟨e,q⟩|⟨ob,a1,a2,q⟩
  ·exact⟨[H.length],H.length,q _,key 0 (q 0),.inl ⟨e,by simp⟩⟩
  ·exact⟨[H.length],ob,q,key _ q,.inr ⟨a2,qql a1⟩⟩
 have h2:=h1.push hpt
 have hA1:Arr H1 a pb ka:=hA.keep fun hne=>hx1.2 _ (hA.lt hne)
 have hka1:pb≠[]→qqi H g (4+2*pb.length) ka=1:=fun hne=>by rw [qqj (hA.lt hne)];exact hka hne
 obtain⟨a',k',H2,hap,hA2,hk1,hk2,hl2,hs2⟩:=qqh hA1 H.length hl
 have st2:=qqn hka1 hl2 hs2
 refine⟨H1,a',H2,k',_,hN,hap,h2.keep st2 (by decide) (by decide) (fun i=>by omega),hA2,qqd (by omega),by omega,by omega,fun x hx=>by rw [st2.tag x (by omega),qqj hx],fun x hx hh => ?_,hx1⟩
 rw [hs2 x (by omega) hh,hx1.2 x hx]
end
end Go.Proofs.YtdinebegmppnoabGreat

