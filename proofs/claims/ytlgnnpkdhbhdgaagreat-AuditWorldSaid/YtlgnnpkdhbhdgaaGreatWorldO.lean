/- Objects: what a thread's machine does to them. Plain. -/
import Derived.Test.YtlgnnpkdhbhdgaaGreatWorldL
import Derived.Test.YtlgnnpkdhbhdgaaGreatSoundW
set_option linter.all false
namespace Go.Proofs.YtlgnnpkdhbhdgaaGreat
open Go Go.Ir
def szI (c:Cfg)(ws:List Int)(x:Nat):Int:=qi5 ws (qjx c x 1)
def LO (c:Cfg)(ws:List Int)(x:Nat)(e:Ent):Prop:=(x:Int)<c.S/\en c ws x=some e/\e.lv=true
def quj (w w':Option Ent):Prop:=w'=w\/∃e',w'=some e'/\(e'.lv=false\/∃e,w=some e/\e.lv=true/\e'.o=e.o/\e'.g=e.g/\e'.lk=e.lk)
def EW (c:Cfg)(ws ws':List Int):Prop:=∀x:Nat,(x:Int)<c.S->quj (en c ws x) (en c ws' x)
structure Qt (c:Cfg)(ws ws':List Int):Prop where
 ew:EW c ws ws'
 sz:∀x e,LO c ws x e->szI c ws' x=szI c ws x
 w0:qi5 ws' 0=qi5 ws 0
 w2:qi5 ws' 2=qi5 ws 2
structure Qe (c:Cfg)(ws ws':List Int):Prop where
 ew:EW c ws ws'
 sz:∀x e,LO c ws x e->szI c ws' x=szI c ws x
def Qt.qe {c:Cfg}{ws ws':List Int}(q:Qt c ws ws'):Qe c ws ws':=⟨q.ew,q.sz⟩
section
variable {c:Cfg}{ws ws' bs:List Int}{L:List Nat}{own:Nat->Option Nat}{n i:Nat}
def Qt.refl:Qt c ws ws:=⟨fun x _ => .inl rfl,fun x e _=>rfl,rfl,rfl⟩
def quk (hm:c.may){k v:Int}(hk:k<4+c.T):Qe c ws (qi6 ws k v):=by
 unfold Cfg.may at hm
 refine⟨fun x hx => .inl ?_,fun x e h => ?_⟩
 ·unfold en
  rw [qtq (by have:=qtv (c:=c) (s:=x) (k:=0) (by omega) hx (by omega) (by omega);omega)]
 ·exact qtq (by have:=qtv (c:=c) (s:=x) (k:=1) (by omega) h.1 (by omega) (by omega);omega)
def qul (hm:c.may){k v:Int}(hk:k<4+c.T)(h0:k≠0)(h2:k≠2):Qt c ws (qi6 ws k v) :=
 ⟨(quk hm hk).ew,(quk hm hk).sz,qtq h0,qtq h2⟩
def qum (hm:c.may)(t k:Int)(hk:0<=k/\k<=2):qjx c t k≠0/\qjx c t k≠2:=by
 unfold Cfg.may at hm
 unfold qjx
 split<;>omega
def qun (hm:c.may)(t v:Int):Qt c ws (qi6 ws (qjx c t 2) v):=by
 have g:=qum hm t 2 (by omega)
 unfold Cfg.may at hm
 refine⟨fun x hx => .inl ?_,fun x e h => ?_,qtq g.1,qtq g.2⟩
 ·unfold en
  rw [qtq (qtt (by omega) hx (by omega) (by omega) (by omega) (by omega))]
 ·exact qtq (qtt (by omega) h.1 (by omega) (by omega) (by omega) (by omega))
def qup (hm:c.may){t:Nat}{v:Int}(hd:∀e,¬LO c ws t e):Qt c ws (qi6 ws (qjx c t 1) v):=by
 have g:=qum hm t 1 (by omega)
 unfold Cfg.may at hm
 refine⟨fun x hx => .inl ?_,fun x e h => ?_,qtq g.1,qtq g.2⟩
 ·unfold en
  rw [qtq (qtt (by omega) hx (by omega) (by omega) (by omega) (by omega))]
 ·refine qtq fun q => ?_
  have:=qtu (c:=c) (s:=x) (t:=t) (k:=1) (by omega) h.1 (by omega) (by omega) q
  have:t=x:=by omega
  subst this
  exact hd e h
def quq (hm:c.may){t w v:Int}(hc:qjh ws (qjx c t 0) w=true)(hk:quj (qkb w) (qkb v)):Qt c ws (qi6 ws (qjx c t 0) v):=by
 have g:=qum hm t 0 (by omega)
 unfold Cfg.may at hm
 have hg:=qts hc
 refine⟨fun x hx => ?_,fun x e h=>qtq (qtt (by omega) h.1 (by omega) (by omega) (by omega) (by omega)),qtq g.1,qtq g.2⟩
 unfold en
 by_cases q:qjx c t 0=qjx c x 0
 ·rw [<-q,qtr hg.1 hg.2.1,hg.2.2]
  exact hk
 ·rw [qtq q]
  exact .inl rfl
def qur:qkb 0=some Ent.zero:=by decide
def qus {F:Ent->Int×Ent}(hF:∀e:Ent,(F e).1=0->(F e).2.lv=false\/((F e).2.o=e.o/\(F e).2.g=e.g/\(F e).2.lk=e.lk))(w:Int):quj (qkb w) (qkb (chE w F).1):=by
 unfold chE
 cases hu:qkb w with
 | none=>exact .inr ⟨_,qur,.inl rfl⟩
 | some e =>
   simp only
   by_cases h1:e.lv=true
   ·rw [if_pos h1]
    by_cases h2:(F e).1=0
    ·rw [if_pos h2]
     by_cases h3:(F e).2.may
     ·rw [if_pos h3]
      refine .inr ⟨_,qkf h3, ?_⟩
      rcases hF e h2 with q|q
      ·exact .inl q
      ·exact .inr ⟨e,rfl,h1,q⟩
     ·rw [if_neg h3];exact .inr ⟨_,qur,.inl rfl⟩
    ·rw [if_neg h2];exact .inr ⟨_,qur,.inl rfl⟩
   ·rw [if_neg h1];exact .inr ⟨_,qur,.inl rfl⟩
def qut (w:Int):quj (qkb w) (qkb (chE w qoc).1):=qus (fun e h=>by
 unfold qoc at h|-
 split
 ·rename_i q;rw [if_pos q]at h;simp at h
 ·exact .inl rfl) w
def quu (w b:Int):quj (qkb w) (qkb (chE w (qmt b)).1):=qus (fun e h=>by rw [qtS h];exact .inr ⟨rfl,rfl,rfl⟩) w
def quv (w:Int)(un:Bool):quj (qkb w) (qkb (chE w (qoP un)).1):=qus (fun e h=>by
 refine .inr ?_
 cases un with
 | true =>
   have h:(qms e).1=0:=h
   show(qms e).2.o=e.o/\(qms e).2.g=e.g/\(qms e).2.lk=e.lk
   unfold qms
   split<;>exact⟨rfl,rfl,rfl⟩
 | false =>
   show(qmr e).2.o=e.o/\(qmr e).2.g=e.g/\(qmr e).2.lk=e.lk
   unfold qmr
   repeat' split
   all_goals exact⟨rfl,rfl,rfl⟩) w
def quw (hm:c.may)(s:Sk):Qt c ws (qnM c s ws).2.1:=by
 have hm':=hm
 unfold Cfg.may at hm'
 unfold qnM
 repeat' split
 all_goals first|exact Qt.refl|exact qul hm (by omega) (by omega) (by omega)
def qux (hm:c.may)(s:Sk):Qt c ws (qnN c s ws).2.1:=by
 have hm':=hm
 unfold Cfg.may at hm'
 unfold qnN
 repeat' split
 all_goals first|exact Qt.refl|exact qul hm (by omega) (by omega) (by omega)|exact qun hm _ _
def quy (hm:c.may)(s:Fe):Qt c ws (feS c s ws).2.1:=by
 unfold feS
 split
 ·exact Qt.refl
 split
 ·split<;>exact Qt.refl
 split
 ·split
  ·rename_i hc
   split<;>exact quq hm hc (qut _)
  ·exact Qt.refl
 ·have:=qux (ws:=ws) hm s.p
  unfold qo2
  split<;>exact this
def quz (hm:c.may)(s:Wr):Qt c ws (wrS c s ws bs).2.1:=by
 unfold wrS
 split
 ·split<;>exact Qt.refl
 split
 ·split
  ·rename_i hc;exact quq hm hc (quu _ _)
  ·exact Qt.refl
 split
 ·split<;>exact Qt.refl
 split
 ·exact Qt.refl
 split
 ·exact Qt.refl
 split
 ·split
  ·exact Qt.refl
  ·split
   ·rename_i hc;exact quq hm hc (quu _ _)
   ·exact Qt.refl
 split<;>exact Qt.refl
def quA (hm:c.may){s:Pn}(h:PnJ c s):Qt c ws (pnS c s ws).2.1:=by
 unfold pnS
 by_cases h0:s.nx=0
 ·rw [if_pos h0];exact Qt.refl
 rw [if_neg h0]
 by_cases h1:s.nx=1
 ·rw [if_pos h1];split<;>exact Qt.refl
 rw [if_neg h1]
 split
 ·rename_i hc
  show Qt c ws (qi6 ws (pnG c s) s.to)
  rw [(h.to h0 h1).1]
  exact quq hm hc (quv _ _)
 ·exact Qt.refl
structure AO (c:Cfg)(ws:List Int)(a:Al):Prop where
 sz:2<=a.nx->a.nx<=10->1<=a.n/\a.n<=256
 room:a.nx=5->0<=a.f/\a.f+qpc a.n<=c.A
 size:a.nx=9\/a.nx=10->qi5 ws (qjx c a.slot 1)=a.n
 cl:a.cl=true↔(7<=a.nx/\a.nx<=10)
def pnA (a:Al):Prop:=3<=a.nx/\a.nx<=12
def clA (a:Al):Prop:=7<=a.nx/\a.nx<=10
inductive AlK (c:Cfg)(ws:List Int)(own:Nat->Option Nat)(i:Nat)(a a':Al)(ws':List Int):Prop
 | quiet (q:Qt c ws ws') (p:pnA a'↔pnA a) (k:clA a'->clA a/\a'.f=a.f)
 | up (q:Qe c ws ws') (w0:qi5 ws' 0=qi5 ws 0) (p:¬pnA a) (p':pnA a') (k:¬clA a') (w2:qi5 ws' 2=w64 (qi5 ws 2+1))
 | down (q:Qe c ws ws') (w0:qi5 ws' 0=qi5 ws 0) (p:pnA a) (p':¬pnA a') (k:¬clA a') (w2:qi5 ws' 2=w64 (qi5 ws 2 + -1))
 | claim (q:Qe c ws ws') (w2:qi5 ws' 2=qi5 ws 2) (p:pnA a) (p':pnA a') (k:clA a') (f:a'.f=qi5 ws 0) (r:0<=a'.f/\a'.f+qpc a'.n<=c.A) (w0:qi5 ws' 0=a'.f+qpc a'.n)
 | war (x:Nat) (g:Int) (ho:own i=some x) (he:en c ws' x=some ⟨a.f,g,0,0,false,true⟩) (hs:szI c ws' x=a.n) (hy:∀y:Nat,(y:Int)<c.S->y≠x->en c ws' y=en c ws y) (sz:∀x:Nat,szI c ws' x=szI c ws x) (w0:qi5 ws' 0=qi5 ws 0) (w2:qi5 ws' 2=qi5 ws 2) (p:pnA a) (p':pnA a') (k:clA a) (k':¬clA a')
end
section
variable {c:Cfg}{ws bs:List Int}{L:List Nat}{own:Nat->Option Nat}{n i:Nat}
def nq {P:Prop}{a b:Int}(q:a=b)(h:(a==b)=false:=by rfl):P:=absurd q (fun e=>by rw [e,beq_self_eq_true]at h;cases h)
def nl {P:Prop}{a b:Int}(q:a<=b)(h:decide (a<=b)=false:=by rfl):P:=absurd q (of_decide_eq_false h)
def no2 {P:Prop}{a b d:Int}(q:a=b\/a=d)(h:(a==b||a==d)=false:=by rfl):P:=by
 rw [Bool.or_eq_false_iff]at h
 rcases q with q|q
 ·exact nq q h.1
 ·exact nq q h.2
def quB {n:Int}(h:qpc n≠0):1<=n/\n<=256:=by
 unfold qpc at h
 split at h
 ·assumption
 ·exact absurd rfl h
def quC {a:Al}{ws:List Int}(h:a.nx<2\/10<a.nx)(hc:a.cl=false):AO c ws a :=
 ⟨fun _ _=>by omega,fun _=>by omega,fun _=>by omega,⟨(fun q=>by rw [hc]at q;cases q),fun q=>by omega⟩⟩
def quD {a:Al}{ws:List Int}(h:a.nx=2\/a.nx=3\/a.nx=4\/a.nx=6)(hc:a.cl=false)(hn:1<=a.n/\a.n<=256):AO c ws a :=
 ⟨fun _ _=>hn,fun _=>by omega,fun _=>by omega,⟨(fun q=>by rw [hc]at q;cases q),fun q=>by omega⟩⟩
def quE {a:Al}(h:AO c ws a)(hk:¬(7<=a.nx/\a.nx<=10)):a.cl=false:=by
 cases q:a.cl with
 | false=>rfl
 | true=>exact absurd (h.cl.1 q) hk
def quF {a:Al}(h:AO c ws a)(hk:7<=a.nx/\a.nx<=10):a.cl=true:=h.cl.2 hk
def quG (hm:c.may)(s:SI c ws L own n){a:Al}(h:AI c ws a)(ao:AO c ws a)(ho:own i=qtE c (.al a)) :
  AO c (alS c a ws bs).2.1 (alS c a ws bs).1/\(alS c a ws bs).1.n=a.n/\AlK c ws own i a (alS c a ws bs).1 (alS c a ws bs).2.1:=by
 have hm':=hm
 unfold Cfg.may at hm'
 have hnx:=h.nx
 unfold alS
 by_cases h0:a.nx=0
 ·rw [if_pos h0]
  exact⟨ao,rfl,.quiet .refl Iff.rfl fun k=>⟨k,rfl⟩⟩
 rw [if_neg h0]
 by_cases h1:a.nx=1
 ·rw [if_pos h1]
  have hc:=quE ao (by omega)
  by_cases hb:qpc a.n=0
  ·rw [if_pos hb]
   exact⟨quC (.inl (by show(0:Int)<2;decide)) hc,rfl,.quiet .refl (by unfold pnA;simp only;omega) fun k=>by unfold clA at k;simp only at k;omega⟩
  ·rw [if_neg hb]
   exact⟨quD (.inl rfl) hc (quB hb),rfl,.quiet .refl (by unfold pnA;simp only;omega) fun k=>by unfold clA at k;simp only at k;omega⟩
 rw [if_neg h1]
 by_cases h2:a.nx=2
 ·rw [if_pos h2]
  have hc:=quE ao (by omega)
  have hn:=ao.sz (by omega) (by omega)
  by_cases hb:qjh ws 2 a.seen=true
  ·rw [if_pos hb]
   have hg:=qts hb
   refine⟨quD (.inr (.inl rfl)) hc hn,rfl,.up (quk hm (by omega)) (qtq (by decide)) (by unfold pnA;omega) (by unfold pnA;simp only;omega) (by unfold clA;simp only;omega) ?_⟩
   show qi5 (qi6 ws 2 (w64 (a.seen+1))) 2=_
   rw [qtr hg.1 hg.2.1,hg.2.2]
  ·rw [if_neg hb]
   exact⟨quC (.inl (by show(1:Int)<2;decide)) hc,rfl,.quiet .refl (by unfold pnA;simp only;omega) fun k=>by unfold clA at k;simp only at k;omega⟩
 rw [if_neg h2]
 by_cases h3:a.nx=3
 ·rw [if_pos h3]
  have hc:=quE ao (by omega)
  have hn:=ao.sz (by omega) (by omega)
  have hq:=quw (c:=c) (ws:=ws) hm a.p
  show AO c (qpf a (qnM c a.p ws)).2 (qpf a (qnM c a.p ws)).1/\(qpf a (qnM c a.p ws)).1.n=a.n/\AlK c ws own i a (qpf a (qnM c a.p ws)).1 (qpf a (qnM c a.p ws)).2
  unfold qpf
  split
  ·split
   ·exact⟨quC (.inr (by show(10:Int)<11;decide)) hc,rfl,.quiet hq (by unfold pnA;simp only;omega) fun k=>by unfold clA at k;simp only at k;omega⟩
   ·exact⟨quD (.inr (.inr (.inl rfl))) hc hn,rfl,.quiet hq (by unfold pnA;simp only;omega) fun k=>by unfold clA at k;simp only at k;omega⟩
  ·exact⟨quD (.inr (.inl h3)) hc hn,rfl,.quiet hq Iff.rfl fun k=>by have k:7<=a.nx/\a.nx<=10:=k;omega⟩
 rw [if_neg h3]
 by_cases h4:a.nx=4
 ·rw [if_pos h4]
  have hc:=quE ao (by omega)
  have hn:=ao.sz (by omega) (by omega)
  have hbr:=qtL a.n
  by_cases hf:qi5 ws 0<0\/w64 (c.A-qpc a.n)<qi5 ws 0
  ·rw [if_pos hf]
   exact⟨quD (.inr (.inr (.inr rfl))) hc hn,rfl,.quiet .refl (by unfold pnA;simp only;omega) fun k=>by unfold clA at k;simp only at k;omega⟩
  ·rw [if_neg hf]
   have hw:w64 (c.A-qpc a.n)=c.A-qpc a.n:=qiX (by omega) (by omega)
   rw [hw]at hf
   exact⟨⟨fun _ _=>hn,fun _=>by show 0<=qi5 ws 0/\qi5 ws 0+qpc a.n<=c.A;omega,fun q=>by simp only at q;omega,⟨(fun q=>by have q:a.cl=true:=q;rw [hc]at q;cases q),fun q=>by have q:7<=(5:Int)/\(5:Int)<=10:=q;omega⟩⟩,rfl,.quiet .refl (by unfold pnA;simp only;omega) fun k=>by unfold clA at k;simp only at k;omega⟩
 rw [if_neg h4]
 by_cases h5:a.nx=5
 ·rw [if_pos h5]
  have hc:=quE ao (by omega)
  have hn:=ao.sz (by omega) (by omega)
  have hr:=ao.room h5
  have hbr:=qtL a.n
  by_cases hb:qjh ws 0 a.f=true
  ·rw [if_pos hb]
   have hg:=qts hb
   refine⟨⟨fun _ _=>hn,fun q=>by simp only at q;omega,fun q=>by simp only at q;omega,⟨fun _=>by simp only;omega,fun _=>rfl⟩⟩,rfl,.claim (quk hm (by omega)) (qtq (by decide)) (by unfold pnA;omega) (by unfold pnA;simp only;omega) (by unfold clA;simp only;omega) hg.2.2.symm hr ?_⟩
   show qi5 (qi6 ws 0 (w64 (a.f+qpc a.n))) 0=a.f+qpc a.n
   rw [qtr hg.1 hg.2.1]
   exact qiX (by omega) (by omega)
  ·rw [if_neg hb]
   exact⟨quD (.inr (.inr (.inl rfl))) hc hn,rfl,.quiet .refl (by unfold pnA;simp only;omega) fun k=>by unfold clA at k;simp only at k;omega⟩
 rw [if_neg h5]
 by_cases h6:a.nx=6
 ·rw [if_pos h6]
  have hc:=quE ao (by omega)
  have hn:=ao.sz (by omega) (by omega)
  have hq:=qux (c:=c) (ws:=ws) hm a.q
  show AO c (qpg a (qnN c a.q ws)).2 (qpg a (qnN c a.q ws)).1/\(qpg a (qnN c a.q ws)).1.n=a.n/\AlK c ws own i a (qpg a (qnN c a.q ws)).1 (qpg a (qnN c a.q ws)).2
  unfold qpg
  split
  ·exact⟨quC (.inr (by show(10:Int)<11;decide)) hc,rfl,.quiet hq (by unfold pnA;simp only;omega) fun k=>by unfold clA at k;simp only at k;omega⟩
  ·exact⟨quD (.inr (.inr (.inr h6))) hc hn,rfl,.quiet hq Iff.rfl fun k=>by have k:7<=a.nx/\a.nx<=10:=k;omega⟩
 rw [if_neg h6]
 by_cases h7:a.nx=7
 ·rw [if_pos h7]
  have hc:=quF ao (by omega)
  have hn:=ao.sz (by omega) (by omega)
  split
  ·exact⟨⟨fun _ _=>hn,fun q=>by simp only at q;omega,fun q=>by simp only at q;omega,⟨fun _=>by simp only;omega,fun _=>hc⟩⟩,rfl,.quiet .refl (by unfold pnA;simp only;omega) fun k=>⟨by unfold clA;omega,rfl⟩⟩
  ·exact⟨⟨fun _ _=>hn,fun q=>by simp only at q;omega,fun q=>by simp only at q;omega,⟨fun _=>by simp only;omega,fun _=>hc⟩⟩,rfl,.quiet .refl Iff.rfl fun k=>⟨by unfold clA;omega,rfl⟩⟩
 rw [if_neg h7]
 have hown:∀q:4<=a.nx/\a.nx<=10,own i=some a.slot.toNat:=fun q=>ho.trans (if_pos q)
 by_cases h8:a.nx=8
 ·rw [if_pos h8]
  have hc:=quF ao (by omega)
  have hn:=ao.sz (by omega) (by omega)
  have hs:=h.slot (by omega) (by omega)
  have o1:=hown (by omega)
  obtain⟨hx,_,y,y1,y2⟩:=s.ow i _ o1
  have si:=qtB s hm hx (k:=1) (by omega)
  have sn:((a.slot.toNat:Nat):Int)=a.slot:=by omega
  have hq:=qup (ws:=ws) hm (t:=a.slot.toNat) (v:=a.n) (fun e he=>by
   have:=he.2.1
   rw [y1]at this
   injection this with this
   subst this
   have:=he.2.2
   rw [y2]at this
   cases this)
  rw [sn]at hq si
  exact⟨⟨fun _ _=>hn,fun q=>by simp only at q;omega,fun _=>qtr (by omega) si.2,⟨fun _=>by simp only;omega,fun _=>hc⟩⟩,rfl,.quiet hq (by unfold pnA;simp only;omega) fun k=>⟨by unfold clA;omega,rfl⟩⟩
 rw [if_neg h8]
 by_cases h9:a.nx=9
 ·rw [if_pos h9]
  have hc:=quF ao (by omega)
  have hn:=ao.sz (by omega) (by omega)
  have hz:=ao.size (.inl h9)
  have e:(qph a (qkb (qi5 ws (qjx c a.slot 0)))).nx=10/\(qph a (qkb (qi5 ws (qjx c a.slot 0)))).n=a.n/\(qph a (qkb (qi5 ws (qjx c a.slot 0)))).f=a.f/\(qph a (qkb (qi5 ws (qjx c a.slot 0)))).cl=a.cl/\(qph a (qkb (qi5 ws (qjx c a.slot 0)))).slot=a.slot:=by
   unfold qph
   repeat' split
   all_goals exact⟨rfl,rfl,rfl,rfl,rfl⟩
  generalize qph a (qkb (qi5 ws (qjx c a.slot 0)))=a' at e
  obtain⟨e1,e2,e3,e4,e5⟩:=e
  exact⟨⟨fun _ _=>by show 1<=a'.n/\_;rw [e2];exact hn,fun q=>by have q:a'.nx=5:=q;omega,fun _=>by show qi5 ws (qjx c a'.slot 1)=a'.n;rw [e5,e2];exact hz,⟨fun _=>by show 7<=a'.nx/\a'.nx<=10;omega,fun _=>e4.trans hc⟩⟩,e2,.quiet .refl (by unfold pnA;simp only;omega) fun k=>⟨by unfold clA;omega,e3⟩⟩
 rw [if_neg h9]
 by_cases ha:a.nx=10
 ·rw [if_pos ha]
  have hs:=h.slot (by omega) (by omega)
  have o1:=hown (by omega)
  have hx:=(s.ow i _ o1).1
  have si:=qtB s hm hx (k:=0) (by omega)
  have sn:((a.slot.toNat:Nat):Int)=a.slot:=by omega
  have hk0:a.kept=0:=h.kept (by omega) (by omega) (by omega)
  have hz:=ao.size (.inr ha)
  obtain⟨e,q1,q2,q3,q4,q5⟩:=h.pub ha
  have g:=qum hm a.slot 0 (by omega)
  refine⟨quC (.inr (by show(10:Int)<11;decide)) rfl,rfl,.war a.slot.toNat e.g o1 ?_ ?_ (fun y hy hyx => ?_) (fun y => ?_) ?_ ?_ (by unfold pnA;omega) (by unfold pnA;simp only;omega) (by unfold clA;omega) (by unfold clA;simp only;omega)⟩
  ·show en c (if a.kept=0 then qi6 ws (qjx c a.slot 0) a.word else ws) _=_
   rw [if_pos hk0]
   unfold en
   rw [sn]at si|-
   rw [qtr (by omega) si.2,q4]
   exact qkf q5
  ·show szI c (if a.kept=0 then qi6 ws (qjx c a.slot 0) a.word else ws) _=_
   rw [if_pos hk0]
   unfold szI
   rw [sn,qtq (qtt hs.1 hs.2 (by omega) (by omega) (by omega) (by omega))]
   exact hz
  ·show en c (if a.kept=0 then qi6 ws (qjx c a.slot 0) a.word else ws) _=_
   rw [if_pos hk0]
   unfold en
   rw [qtq fun q=>hyx (by
    have:=qtu (c:=c) (s:=y) (t:=a.slot) (k:=0) (by omega) hy (by omega) (by omega) q
    omega)]
  ·show szI c (if a.kept=0 then qi6 ws (qjx c a.slot 0) a.word else ws) _=_
   rw [if_pos hk0]
   unfold szI
   refine qtq fun q => ?_
   unfold qjx at q
   rw [if_pos hs]at q
   split at q<;>omega
  ·show qi5 (if a.kept=0 then qi6 ws (qjx c a.slot 0) a.word else ws) 0=_
   rw [if_pos hk0]
   exact qtq g.1
  ·show qi5 (if a.kept=0 then qi6 ws (qjx c a.slot 0) a.word else ws) 2=_
   rw [if_pos hk0]
   exact qtq g.2
 rw [if_neg ha]
 have hc:=quE ao (by omega)
 by_cases hb:a.nx=11
 ·rw [if_pos hb]
  exact⟨quC (.inr (by show(10:Int)<12;decide)) hc,rfl,.quiet .refl (by unfold pnA;simp only;omega) fun k=>by unfold clA at k;simp only at k;omega⟩
 rw [if_neg hb]
 have h12:a.nx=12:=by omega
 by_cases hcs:qjh ws 2 a.seen=true
 ·rw [if_pos hcs]
  have hg:=qts hcs
  refine⟨quC (.inl (by show(0:Int)<2;decide)) hc,rfl,.down (quk hm (by omega)) (qtq (by decide)) (by unfold pnA;omega) (by unfold pnA;simp only;omega) (by unfold clA;simp only;omega) ?_⟩
  show qi5 (qi6 ws 2 (w64 (a.seen + -1))) 2=_
  rw [qtr hg.1 hg.2.1,hg.2.2]
 ·rw [if_neg hcs]
  exact⟨quC (.inr (by show(10:Int)<11;decide)) hc,rfl,.quiet .refl (by unfold pnA;simp only;omega) fun k=>by unfold clA at k;simp only at k;omega⟩
end
def Qz (c:Cfg)(o:Option Nat)(ws ws':List Int):Prop:=∀x:Nat,(x:Int)<c.S->o≠some x->szI c ws' x=szI c ws x
def pnM:Mx->Bool
 | .al a=>decide (3<=a.nx/\a.nx<=12)
 | _=>false
def clM:Mx->Option (Int×Int)
 | .al a=>if 7<=a.nx/\a.nx<=10 then some (a.f,qpc a.n)else none
 | _=>none
def pnB (t:Th):Bool:=if t.nx=2 then pnM t.m else false
def clR (t:Th):Option (Int×Int):=if t.nx=2 then clM t.m else none
def TAO (c:Cfg)(ws:List Int)(t:Th):Prop:=∀a,t.nx=2->t.m = .al a->AO c ws a
inductive TK (c:Cfg)(ws:List Int)(own:Nat->Option Nat)(i:Nat)(p p':Bool)(k k':Option (Int×Int))(ws':List Int):Prop
 | quiet (q:Qt c ws ws') (hp:p'=p) (hk:k'=none\/k'=k)
 | up (q:Qe c ws ws') (w0:qi5 ws' 0=qi5 ws 0) (hp:p=false) (hp':p'=true) (hk:k'=none) (w2:qi5 ws' 2=w64 (qi5 ws 2+1))
 | down (q:Qe c ws ws') (w0:qi5 ws' 0=qi5 ws 0) (hp:p=true) (hp':p'=false) (hk:k'=none) (w2:qi5 ws' 2=w64 (qi5 ws 2 + -1))
 | claim (q:Qe c ws ws') (w2:qi5 ws' 2=qi5 ws 2) (hp:p=true) (hp':p'=true) (f b:Int) (hk:k'=some (f,b)) (hf:f=qi5 ws 0) (h0:0<=f) (hb:8<=b/\b<=256) (hA:f+b<=c.A) (w0:qi5 ws' 0=f+b)
 | war (x:Nat) (f g z:Int) (ho:own i=some x) (he:en c ws' x=some ⟨f,g,0,0,false,true⟩) (hs:szI c ws' x=z) (hz:1<=z/\z<=256) (hy:∀y:Nat,(y:Int)<c.S->y≠x->en c ws' y=en c ws y) (sz:∀x:Nat,szI c ws' x=szI c ws x) (w0:qi5 ws' 0=qi5 ws 0) (w2:qi5 ws' 2=qi5 ws 2) (hp:p=true) (hp':p'=true) (hk:k=some (f,qpc z)) (hk':k'=none)
section
variable {c:Cfg}{ws ws' bs:List Int}{L:List Nat}{own:Nat->Option Nat}{n i:Nat}{o:Option Nat}
def Qz.refl:Qz c o ws ws:=fun _ _ _=>rfl
def quH (hm:c.may){k v:Int}(hk:k<4+c.T):Qz c o ws (qi6 ws k v):=fun x hx _=>by
 unfold Cfg.may at hm
 exact qtq (by have:=qtv (c:=c) (s:=x) (k:=1) (by omega) hx (by omega) (by omega);omega)
def quI (hm:c.may){t j v:Int}(hj:j=0\/j=2):Qz c o ws (qi6 ws (qjx c t j) v):=fun x hx _=>by
 unfold Cfg.may at hm
 exact qtq (qtt (by omega) hx (by omega) (by omega) (by omega) (by omega))
def quJ (hm:c.may)(s:Sk):Qz c o ws (qnM c s ws).2.1:=by
 have hm':=hm
 unfold Cfg.may at hm'
 unfold qnM
 repeat' split
 all_goals first|exact Qz.refl|exact quH hm (by omega)
def quK (hm:c.may)(s:Sk):Qz c o ws (qnN c s ws).2.1:=by
 have hm':=hm
 unfold Cfg.may at hm'
 unfold qnN
 repeat' split
 all_goals first|exact Qz.refl|exact quH hm (by omega)|exact quI hm (.inr rfl)
def quL (hm:c.may)(s:Fe):Qz c o ws (feS c s ws).2.1:=by
 unfold feS
 split
 ·exact Qz.refl
 split
 ·split<;>exact Qz.refl
 split
 ·split
  ·split<;>exact quI hm (.inl rfl)
  ·exact Qz.refl
 ·have:=quK (o:=o) (ws:=ws) hm s.p
  unfold qo2
  split<;>exact this
def quM (hm:c.may)(s:Wr):Qz c o ws (wrS c s ws bs).2.1:=by
 unfold wrS
 split
 ·split<;>exact Qz.refl
 split
 ·split
  ·exact quI hm (.inl rfl)
  ·exact Qz.refl
 split
 ·split<;>exact Qz.refl
 split
 ·exact Qz.refl
 split
 ·exact Qz.refl
 split
 ·split
  ·exact Qz.refl
  ·split
   ·exact quI hm (.inl rfl)
   ·exact Qz.refl
 split<;>exact Qz.refl
def quN (hm:c.may)(s:Pn):Qz c o ws (pnS c s ws).2.1:=by
 unfold pnS
 split
 ·exact Qz.refl
 split
 ·split<;>exact Qz.refl
 split
 ·exact quI hm (.inl rfl)
 ·exact Qz.refl
def quO (hm:c.may){a:Al}(h:AI c ws a)(ho:own i=qtE c (.al a)):Qz c (own i) ws (alS c a ws bs).2.1:=by
 have hm':=hm
 unfold Cfg.may at hm'
 have hnx:=h.nx
 unfold alS
 by_cases h0:a.nx=0
 ·rw [if_pos h0];exact Qz.refl
 rw [if_neg h0]
 by_cases h1:a.nx=1
 ·rw [if_pos h1];split<;>exact Qz.refl
 rw [if_neg h1]
 by_cases h2:a.nx=2
 ·rw [if_pos h2];split
  ·exact quH hm (by omega)
  ·exact Qz.refl
 rw [if_neg h2]
 by_cases h3:a.nx=3
 ·rw [if_pos h3]
  have hq:=quJ (c:=c) (ws:=ws) (o:=own i) hm a.p
  show Qz c (own i) ws (qpf a (qnM c a.p ws)).2
  unfold qpf
  repeat' split
  all_goals exact hq
 rw [if_neg h3]
 by_cases h4:a.nx=4
 ·rw [if_pos h4];split<;>exact Qz.refl
 rw [if_neg h4]
 by_cases h5:a.nx=5
 ·rw [if_pos h5];split
  ·exact quH hm (by omega)
  ·exact Qz.refl
 rw [if_neg h5]
 by_cases h6:a.nx=6
 ·rw [if_pos h6]
  have hq:=quK (c:=c) (ws:=ws) (o:=own i) hm a.q
  show Qz c (own i) ws (qpg a (qnN c a.q ws)).2
  unfold qpg
  repeat' split
  all_goals exact hq
 rw [if_neg h6]
 by_cases h7:a.nx=7
 ·rw [if_pos h7];split<;>exact Qz.refl
 rw [if_neg h7]
 by_cases h8:a.nx=8
 ·rw [if_pos h8]
  have hs:=h.slot (by omega) (by omega)
  have o1:own i=some a.slot.toNat:=ho.trans (if_pos (by omega))
  refine fun x hx hn=>qtq fun q=>hn ?_
  have:=qtu (c:=c) (s:=x) (t:=a.slot) (k:=1) (by omega) hx (by omega) (by omega) q
  rw [o1,this];rfl
 rw [if_neg h8]
 by_cases h9:a.nx=9
 ·rw [if_pos h9];exact Qz.refl
 rw [if_neg h9]
 by_cases h10:a.nx=10
 ·rw [if_pos h10]
  show Qz c (own i) ws (if a.kept=0 then _ else _)
  split
  ·exact quI hm (.inl rfl)
  ·exact Qz.refl
 rw [if_neg h10]
 by_cases h11:a.nx=11
 ·rw [if_pos h11];exact Qz.refl
 rw [if_neg h11]
 split
 ·exact quH hm (by omega)
 ·exact Qz.refl
def quP (hm:c.may){m:Mx}(h:MI c ws m)(ho:own i=qtE c m):Qz c (own i) ws (mxS c m ws bs).2.1:=by
 cases m with
 | al a=>exact quO hm h ho
 | fe a=>exact quL hm a
 | rd a=>exact Qz.refl
 | wr a=>exact quM hm a
 | pn a=>exact quN hm a
 | no=>exact Qz.refl
def quQ {t:Th}{r:Mx×List Int×List Int×Option (Int×Int)} : (thW t r).2.1=r.2.1:=by
 unfold thW;split<;>rfl
def quR (hm:c.may)(k:Int):qjF c k<4+c.T/\qjF c k≠0/\qjF c k≠2:=by
 unfold Cfg.may at hm
 unfold qjF
 split<;>omega
def quS (hm:c.may){t:Th}(h:TInv c ws t)(ho:own i=qt3 c t):Qz c (own i) ws (thS c t ws bs).2.1:=by
 unfold thS
 split
 ·exact Qz.refl
 split
 ·exact Qz.refl
 split
 ·exact quH hm (quR hm _).1
 split
 ·rename_i h2
  rw [quQ]
  exact quP hm (h h2) (ho.trans (if_pos h2))
 ·exact quH hm (quR hm _).1
def AO.qz {a:Al}(h:AO c ws a){j:Nat}(s:SI c ws L own n)(q:Qz c (own i) ws ws')(hj:j≠i)(ho:own j=qtE c (.al a))(hi:AI c ws a):AO c ws' a:=by
 refine⟨h.sz,h.room,fun z => ?_,h.cl⟩
 have hs:=hi.slot (by omega) (by omega)
 have o1:own j=some a.slot.toNat:=ho.trans (if_pos (by omega))
 have:=q a.slot.toNat (by omega) fun e=>hj (s.inj j i _ o1 e)
 unfold szI at this
 rw [qtP hs.1]at this
 rw [this]
 exact h.size z
def quT {n:Int}(h:1<=n/\n<=256):8<=qpc n/\qpc n<=256:=by
 unfold qpc qkq
 rw [if_pos h]
 omega
def quU {a:Al}(h:(alS c a ws bs).2.2.2≠none):(alS c a ws bs).1.nx=0:=by
 revert h
 have no:∀{P:Prop},(none:Option (Int×Int))≠none->P:=fun h=>absurd rfl h
 unfold alS
 by_cases h0:a.nx=0
 ·rw [if_pos h0];exact fun _=>h0
 rw [if_neg h0]
 by_cases h1:a.nx=1
 ·rw [if_pos h1];split
  ·exact fun _=>rfl
  ·exact fun h=>no h
 rw [if_neg h1]
 by_cases h2:a.nx=2
 ·rw [if_pos h2];split<;>exact fun h=>no h
 rw [if_neg h2]
 by_cases h3:a.nx=3
 ·rw [if_pos h3];exact fun h=>no h
 rw [if_neg h3]
 by_cases h4:a.nx=4
 ·rw [if_pos h4];split<;>exact fun h=>no h
 rw [if_neg h4]
 by_cases h5:a.nx=5
 ·rw [if_pos h5];split<;>exact fun h=>no h
 rw [if_neg h5]
 by_cases h6:a.nx=6
 ·rw [if_pos h6];exact fun h=>no h
 rw [if_neg h6]
 by_cases h7:a.nx=7
 ·rw [if_pos h7];split<;>exact fun h=>no h
 rw [if_neg h7]
 by_cases h8:a.nx=8
 ·rw [if_pos h8];exact fun h=>no h
 rw [if_neg h8]
 by_cases h9:a.nx=9
 ·rw [if_pos h9];exact fun h=>no h
 rw [if_neg h9]
 by_cases h10:a.nx=10
 ·rw [if_pos h10];exact fun h=>no h
 rw [if_neg h10]
 by_cases h11:a.nx=11
 ·rw [if_pos h11];exact fun h=>no h
 rw [if_neg h11]
 split
 ·exact fun _=>rfl
 ·exact fun h=>no h
def quV {a:Al}(h:clA a):clM (.al a)=some (a.f,qpc a.n):=if_pos h
def quW {a:Al}(h:¬clA a):clM (.al a)=none:=if_neg h
def quX {a:Al}(h:pnA a):pnM (.al a)=true:=zzT h
def quY {a:Al}(h:¬pnA a):pnM (.al a)=false:=zzF h
def quZ {a a':Al}(h:AlK c ws own i a a' ws')(ao:AO c ws a)(ao':AO c ws' a')(hn:a'.n=a.n):TK c ws own i (pnM (.al a)) (pnM (.al a')) (clM (.al a)) (clM (.al a')) ws':=by
 cases h with
 | quiet q p k =>
   refine .quiet q (decide_eq_decide.2 p) ?_
   by_cases hk:clA a'
   ·obtain⟨k1,k2⟩:=k hk
    rw [quV hk,quV k1,k2,hn]
    exact .inr rfl
   ·exact .inl (quW hk)
 | up q w0 p p' k w2=>exact .up q w0 (quY p) (quX p') (quW k) w2
 | down q w0 p p' k w2=>exact .down q w0 (quX p) (quY p') (quW k) w2
 | claim q w2 p p' k f r w0 =>
   have hz:=quT (ao'.sz (by unfold clA at k;omega) (by unfold clA at k;omega))
   exact .claim q w2 (quX p) (quX p') a'.f (qpc a'.n) (quV k) f r.1 hz r.2 w0
 | war x g ho he hs hy sz w0 w2 p p' k k' =>
   exact .war x a.f g a.n ho he hs (ao.sz (by unfold clA at k;omega) (by unfold clA at k;omega)) hy sz w0 w2 (quX p) (quX p') (quV k) (quW k')
def qu0 (hm:c.may)(s:SI c ws L own n){m:Mx}(h:MI c ws m)(ho:own i=qtE c m)(ao:∀a,m = .al a->AO c ws a) :
  (∀a,(mxS c m ws bs).1 = .al a->AO c (mxS c m ws bs).2.1 a)/\TK c ws own i (pnM m) (pnM (mxS c m ws bs).1) (clM m) (clM (mxS c m ws bs).1) (mxS c m ws bs).2.1:=by
 cases m with
 | al a =>
   obtain⟨a1,a2,a3⟩:=quG (bs:=bs) hm s h (ao a rfl) ho
   exact⟨fun b hb=>by injection hb with hb;subst hb;exact a1,quZ a3 (ao a rfl) a1 a2⟩
 | fe a=>exact⟨(fun b hb=>by cases hb),.quiet (quy hm a) rfl (.inl rfl)⟩
 | rd a=>exact⟨(fun b hb=>by cases hb),.quiet .refl rfl (.inl rfl)⟩
 | wr a=>exact⟨(fun b hb=>by cases hb),.quiet (quz hm a) rfl (.inl rfl)⟩
 | pn a=>exact⟨(fun b hb=>by cases hb),.quiet (quA hm h) rfl (.inl rfl)⟩
 | no=>exact⟨(fun b hb=>by cases hb),.quiet .refl rfl (.inl rfl)⟩
def qu1 {m:Mx}(h:(mxS c m ws bs).2.2.2≠none):pnM (mxS c m ws bs).1=false/\clM (mxS c m ws bs).1=none:=by
 cases m with
 | al a =>
   have h0:=quU (c:=c) (ws:=ws) (bs:=bs) (a:=a) h
   exact⟨quY (by unfold pnA;omega),quW (by unfold clA;omega)⟩
 | fe a=>exact⟨rfl,rfl⟩
 | rd a=>exact⟨rfl,rfl⟩
 | wr a=>exact⟨rfl,rfl⟩
 | pn a=>exact⟨rfl,rfl⟩
 | no=>exact⟨rfl,rfl⟩
def qu2 (o:Op4):pnM (mkM o)=false/\clM (mkM o)=none/\∀a ws,mkM o = .al a->AO c ws a:=by
 unfold mkM
 repeat' split
 all_goals first|exact⟨rfl,rfl,fun a ws h=>by injection h with h;subst h;exact quC (.inl (by show(1:Int)<2;decide)) rfl⟩|exact⟨rfl,rfl,(fun a ws h=>by cases h)⟩
def qu3 (hm:c.may)(s:SI c ws L own n){t:Th}(h:TInv c ws t)(ho:own i=qt3 c t)(ao:TAO c ws t) :
  TAO c (thS c t ws bs).2.1 (thS c t ws bs).1/\TK c ws own i (pnB t) (pnB (thS c t ws bs).1) (clR t) (clR (thS c t ws bs).1) (thS c t ws bs).2.1:=by
 have nn:=quR hm t.num
 unfold thS
 split
 ·exact⟨ao,.quiet .refl rfl (.inr rfl)⟩
 rename_i o r _
 split
 ·rename_i h0
  refine⟨(fun a q=>by have q:(1:Int)=2:=q;omega),.quiet .refl ?_ (.inl ?_)⟩
  ·unfold pnB;rw [if_neg (by omega:¬t.nx=2)];rfl
  ·exact if_neg (by show ¬(1:Int)=2;decide)
 split
 ·rename_i h1
  obtain⟨e1,e2,e3⟩:=qu2 (c:=c) o
  refine⟨fun a _ q=>e3 a _ q,.quiet (qul hm nn.1 nn.2.1 nn.2.2) ?_ (.inl ?_)⟩
  ·unfold pnB;rw [if_neg (by omega:¬t.nx=2)];exact(if_pos rfl).trans e1
  ·exact(if_pos rfl).trans e2
 split
 ·rename_i h2
  obtain⟨a1,a2⟩:=qu0 (bs:=bs) hm s (h h2) (ho.trans (if_pos h2)) (fun a q=>ao a h2 q)
  have hd:=qu1 (c:=c) (ws:=ws) (bs:=bs) (m:=t.m)
  have ep:pnB t=pnM t.m:=if_pos h2
  have ek:clR t=clM t.m:=if_pos h2
  rw [ep,ek]
  unfold thW
  cases hr:(mxS c t.m ws bs).2.2.2 with
  | none =>
    refine⟨fun a _ q=>a1 a q, ?_⟩
    have e1:pnB {t with m:=(mxS c t.m ws bs).1} = pnM (mxS c t.m ws bs).1:=if_pos h2
    have e2:clR {t with m:=(mxS c t.m ws bs).1} = clM (mxS c t.m ws bs).1:=if_pos h2
    show TK c ws own i _ (pnB {t with m:=(mxS c t.m ws bs).1}) _ (clR {t with m:=(mxS c t.m ws bs).1}) _
    rw [e1,e2]
    exact a2
  | some q =>
    obtain⟨d1,d2⟩:=hd (by rw [hr];simp)
    rw [d1,d2]at a2
    refine⟨fun a z=>by have z:(3:Int)=2:=z;omega, ?_⟩
    exact a2
 ·rename_i h0 h1 h2
  refine⟨(fun a q=>by have q:(0:Int)=2:=q;omega),.quiet (qul hm nn.1 nn.2.1 nn.2.2) ?_ (.inl ?_)⟩
  ·unfold pnB;rw [if_neg h2];rfl
  ·exact if_neg (by show ¬(0:Int)=2;decide)
end
def exI (c:Cfg)(ws:List Int)(x:Nat):Int:=qpc (szI c ws x)
inductive Rg (c:Cfg)(ws:List Int)(ts:List Th):Nat ⊕ Nat->Int->Int->Prop
 | ob (x:Nat) (e:Ent) (h:LO c ws x e):Rg c ws ts (.inl x) e.o (e.o+exI c ws x)
 | cl (i:Nat) (t:Th) (f b:Int) (h:ts[i]? = some t) (k:clR t=some (f,b)):Rg c ws ts (.inr i) f (f+b)
def qu4 (ts:List Th):Nat:=(ts.filter pnB).length
structure OI (c:Cfg)(ws:List Int)(ts:List Th):Prop where
 sz:∀x e,LO c ws x e->1<=szI c ws x/\szI c ws x<=256
 inn:∀k lo hi,Rg c ws ts k lo hi->0<=lo/\hi<=qi5 ws 0
 waE:∀k k' lo hi lo' hi',Rg c ws ts k lo hi->Rg c ws ts k' lo' hi'->k≠k'->hi<=lo'\/hi'<=lo
 top:0<=qi5 ws 0/\qi5 ws 0<=c.A
 al:∀(i:Nat) t,ts[i]? = some t->TAO c ws t
 pend:qi5 ws 2=qu4 ts
 few:ts.length<=4
section
variable {c:Cfg}{ws ws' bs:List Int}{ts:List Th}{L L':List Nat}{own own':Nat->Option Nat}{n n' i:Nat}{t t':Th}
def qu5 {α:Type}{l:List α}{i j:Nat}{a b:α}(h:(l.set i a)[j]? = some b):(j=i/\b=a)\/(j≠i/\l[j]? = some b):=by
 by_cases hj:j=i
 ·subst hj
  have:=(zzS.1 h).1
  rw [zzQ]at this
  rw [List.getElem?_set_self this]at h
  injection h with h
  exact .inl ⟨rfl,h.symm⟩
 ·rw [zzN (Ne.symm hj)]at h
  exact .inr ⟨hj,h⟩
def qu6 {f b:Int}(h:clR t=some (f,b)):t.nx=2/\∃a,t.m = .al a/\clA a/\f=a.f/\b=qpc a.n:=by
 unfold clR at h
 split at h
 ·rename_i h2
  refine⟨h2, ?_⟩
  unfold clM at h
  split at h
  ·rename_i a ha
   split at h
   ·rename_i hk
    injection h with h
    injection h with h1 h2
    exact⟨a,ha,hk,h1.symm,h2.symm⟩
   ·cases h
  ·cases h
 ·cases h
def qu7 {f b:Int}(h:clR t=some (f,b)):pnB t=true:=by
 obtain⟨h2,a,ha,hk,_⟩:=qu6 h
 unfold pnB
 rw [if_pos h2,ha]
 exact quX (by unfold clA at hk;unfold pnA;omega)
def OI.len (h:OI c ws ts){k:Nat ⊕ Nat}{lo hi:Int}(r:Rg c ws ts k lo hi):lo+8<=hi/\hi<=lo+256:=by
 cases r with
 | ob x e h1 =>
   have:=quT (h.sz x e h1)
   unfold exI
   omega
 | cl j u f b h1 h2 =>
   obtain⟨h3,a,ha,hk,_,rfl⟩:=qu6 h2
   have:=quT (((h.al j u h1) a h3 ha).sz (by unfold clA at hk;omega) (by unfold clA at hk;omega))
   omega
structure EvO (c:Cfg)(ws:List Int)(ts:List Th)(own:Nat->Option Nat)(i:Nat)(ws':List Int)(ts':List Th):Prop where
 lo:∀x e',LO c ws' x e'->(∃e,LO c ws x e/\e'.o=e.o/\e'.g=e.g/\e'.lk=e.lk/\szI c ws' x=szI c ws x)\/
  (own i=some x/\e'.lk=false/\(1<=szI c ws' x/\szI c ws' x<=256)/\Rg c ws ts (.inr i) e'.o (e'.o+exI c ws' x)/\∀lo hi,¬Rg c ws' ts' (.inr i) lo hi)
 cl:∀j lo hi,Rg c ws' ts' (.inr j) lo hi->Rg c ws ts (.inr j) lo hi\/(j=i/\lo=qi5 ws 0/\hi=qi5 ws' 0/\lo+8<=hi)
 w0:qi5 ws 0<=qi5 ws' 0/\qi5 ws' 0<=c.A
def qu8 {ts:List Th}{ws ws':List Int}{j:Nat}(hj:j≠i){lo hi:Int}(r:Rg c ws' (ts.set i t') (.inr j) lo hi):Rg c ws ts (.inr j) lo hi:=by
 cases r with
 | cl j u f b h k=>exact .cl _ u _ _ (by rw [zzN (Ne.symm hj)]at h;exact h) k
def qu9 {ts:List Th}{ws':List Int}(hi:i<ts.length){lo hi':Int}(r:Rg c ws' (ts.set i t') (.inr i) lo hi'):∃b,clR t'=some (lo,b)/\hi'=lo+b:=by
 cases r with
 | cl j u f b h k =>
   rw [List.getElem?_set_self hi]at h
   injection h with h
   subst h
   exact⟨b,k,rfl⟩
def qva {x:Nat}{e':Ent}(q:Qe c ws ws')(h:LO c ws' x e'):∃e,LO c ws x e/\e'.o=e.o/\e'.g=e.g/\e'.lk=e.lk/\szI c ws' x=szI c ws x:=by
 obtain⟨h1,h2,h3⟩:=h
 rcases q.ew x h1 with z|⟨e2,z,z2⟩
 ·have:LO c ws x e':=⟨h1,z.symm.trans h2,h3⟩
  exact⟨e',this,rfl,rfl,rfl,q.sz x e' this⟩
 ·rw [h2]at z
  injection z with z
  subst z
  rcases z2 with z2|⟨e,y1,y2,y3,y4,y5⟩
  ·rw [h3]at z2;cases z2
  ·exact⟨e,⟨h1,y1,y2⟩,y3,y4,y5,q.sz x e ⟨h1,y1,y2⟩⟩
def qvb (h:OI c ws ts)(ht:ts[i]? = some t)(k:TK c ws own i (pnB t) (pnB t') (clR t) (clR t') ws'):EvO c ws ts own i ws' (ts.set i t'):=by
 have hil:=(zzS.1 ht).1
 have htop:=h.top
 cases k with
 | quiet q hp hk =>
   have ew:=q.w0
   refine⟨fun x e' l => .inl (qva q.qe l),fun j lo hi r => .inl ?_,by omega⟩
   by_cases hj:j=i
   ·subst hj
    obtain⟨b,r1,rfl⟩:=qu9 hil r
    rcases hk with hk|hk
    ·rw [hk]at r1;cases r1
    ·exact .cl j t lo b ht (hk.symm.trans r1)
   ·exact qu8 hj r
 | up q w0 hp hp' hk w2 =>
   refine⟨fun x e' l => .inl (qva q l),fun j lo hi r => .inl ?_,by omega⟩
   by_cases hj:j=i
   ·subst hj
    obtain⟨b,r1,rfl⟩:=qu9 hil r
    rw [hk]at r1;cases r1
   ·exact qu8 hj r
 | down q w0 hp hp' hk w2 =>
   refine⟨fun x e' l => .inl (qva q l),fun j lo hi r => .inl ?_,by omega⟩
   by_cases hj:j=i
   ·subst hj
    obtain⟨b,r1,rfl⟩:=qu9 hil r
    rw [hk]at r1;cases r1
   ·exact qu8 hj r
 | claim q w2 hp hp' f b hk hf h0 hb hA w0 =>
   refine⟨fun x e' l => .inl (qva q l),fun j lo hi r => ?_,by omega⟩
   by_cases hj:j=i
   ·subst hj
    obtain⟨b',r1,rfl⟩:=qu9 hil r
    rw [hk]at r1
    injection r1 with r1
    injection r1 with r1 r2
    subst r1 r2
    exact .inr ⟨rfl,hf,w0.symm,by omega⟩
   ·exact .inl (qu8 hj r)
 | war x f g z ho he hs hz hy sz w0 w2 hp hp' hk hk' =>
   refine⟨fun y e' l => ?_,fun j lo hi r => .inl ?_,by omega⟩
   ·by_cases hxy:y=x
    ·subst hxy
     have h2:=l.2.1
     rw [he]at h2
     injection h2 with h2
     subst h2
     refine .inr ⟨ho,rfl,by rw [hs];exact hz, ?_,fun lo hi r => ?_⟩
     ·unfold exI
      rw [hs]
      exact .cl i t f _ ht hk
     ·obtain⟨b,r1,_⟩:=qu9 hil r
      rw [hk']at r1;cases r1
    ·exact .inl ⟨e',⟨l.1,(hy y l.1 hxy).symm.trans l.2.1,l.2.2⟩,rfl,rfl,rfl,sz y⟩
   ·by_cases hj:j=i
    ·subst hj
     obtain⟨b,r1,rfl⟩:=qu9 hil r
     rw [hk']at r1;cases r1
    ·exact qu8 hj r
def qvc {ts:List Th}{i:Nat}{t t':Th}(ht:ts[i]? = some t):qu4 (ts.set i t')+(if pnB t then 1 else 0)=qu4 ts+(if pnB t' then 1 else 0):=by
 induction ts generalizing i with
 | nil=>simp at ht
 | cons a r ih =>
   unfold qu4
   cases i with
   | zero =>
     simp only [List.getElem?_cons_zero,Option.some.injEq]at ht
     subst ht
     rw [List.set_cons_zero,List.filter_cons,List.filter_cons]
     split<;>split<;>simp<;>omega
   | succ j =>
     rw [List.getElem?_cons_succ]at ht
     have:=ih ht
     unfold qu4 at this
     rw [List.set_cons_succ,List.filter_cons,List.filter_cons]
     split
     ·simp only [List.length_cons];omega
     ·exact this
def qvd (ts:List Th):qu4 ts<=ts.length:=List.length_filter_le ..
def EvO.was {ts':List Th}(v:EvO c ws ts own i ws' ts'){k:Nat ⊕ Nat}{lo hi:Int}(r:Rg c ws' ts' k lo hi) :
  Rg c ws ts k lo hi\/(k = .inr i/\lo=qi5 ws 0/\hi=qi5 ws' 0/\lo+8<=hi)\/(∃x,k = .inl x/\own i=some x/\Rg c ws ts (.inr i) lo hi/\∀lo hi,¬Rg c ws' ts' (.inr i) lo hi):=by
 cases r with
 | ob x e' l =>
   rcases v.lo x e' l with⟨e,h1,h2,h3,h4,h5⟩|⟨h1,h2,h3,h4,h5⟩
   ·refine .inl ?_
    unfold exI
    rw [h5,h2]
    exact .ob x e h1
   ·exact .inr (.inr ⟨x,rfl,h1,h4,h5⟩)
 | cl j u f b h1 h2 =>
   rcases v.cl _ _ _ (.cl _ u _ _ h1 h2)with h|⟨h3,h4,h5,h6⟩
   ·exact .inl h
   ·subst h3
    exact .inr (.inl ⟨rfl,h4,h5,h6⟩)
def qve (hm:c.may)(h:OI c ws ts)(ht:ts[i]? = some t)(k:TK c ws own i (pnB t) (pnB t') (clR t) (clR t') ws')(ao:TAO c ws' t')(oth:∀(j:Nat) u,j≠i->ts[j]? = some u->TAO c ws' u):OI c ws' (ts.set i t'):=by
 have v:=qvb h ht k
 have hil:=(zzS.1 ht).1
 have w0:=v.w0
 have htop:=h.top
 have old:∀k lo hi,Rg c ws ts k lo hi->0<=lo/\hi<=qi5 ws' 0:=fun k lo hi r=>by have:=h.inn k lo hi r;omega
 refine⟨fun x e' l => ?_,fun k lo hi r => ?_,fun k k' lo hi lo' hi' r r' hne => ?_,by omega,fun j u hu => ?_, ?_,by rw [zzQ];exact h.few⟩
 ·rcases v.lo x e' l with⟨e,h1,_,_,_,h5⟩|⟨_,_,h3,_⟩
  ·rw [h5];exact h.sz x e h1
  ·exact h3
 ·rcases v.was r with z|⟨_,z1,z2,z3⟩|⟨x,_,_,z,_⟩
  ·exact old k lo hi z
  ·omega
  ·exact old _ lo hi z
 ·rcases v.was r with z|⟨z0,z1,z2,z3⟩|⟨x,z0,z1,z,z3⟩
  ·rcases v.was r' with y|⟨y0,y1,y2,y3⟩|⟨y,y0,y1,y2,y3⟩
   ·exact h.waE k k' lo hi lo' hi' z y hne
   ·have:=h.inn k lo hi z;omega
   ·refine h.waE k (.inr i) lo hi lo' hi' z y2 fun q => ?_
    subst q
    exact y3 lo hi r
  ·rcases v.was r' with y|⟨y0,y1,y2,y3⟩|⟨y,y0,y1,y2,y3⟩
   ·have:=h.inn k' lo' hi' y;omega
   ·exact absurd (z0.trans y0.symm) hne
   ·subst z0
    exact absurd r (y3 lo hi)
  ·rcases v.was r' with y|⟨y0,y1,y2,y3⟩|⟨y,y0,y1,y2,y3⟩
   ·refine h.waE (.inr i) k' lo hi lo' hi' z y fun q => ?_
    subst q
    exact z3 lo' hi' r'
   ·subst y0
    exact absurd r' (z3 lo' hi')
   ·rw [z1]at y1
    injection y1 with y1
    subst y1
    exact absurd (z0.trans y0.symm) hne
 ·rcases qu5 hu with⟨_,rfl⟩|⟨q1,q2⟩
  ·exact ao
  ·exact oth j u q1 q2
 ·have hc:=qvc (t':=t') ht
  have hl:=qvd ts
  have hl':=qvd (ts.set i t')
  rw [zzQ]at hl'
  have hf:=h.few
  have hpn:=h.pend
  cases k with
  | quiet q hp hk =>
    rw [hp]at hc
    have:=q.w2
    omega
  | up q w0 hp hp' hk w2 =>
    rw [hp,hp']at hc
    simp at hc
    rw [w2,hpn]
    have:w64 ((qu4 ts:Int)+1)=(qu4 ts:Int)+1:=qiX (by omega) (by omega)
    omega
  | down q w0 hp hp' hk w2 =>
    rw [hp,hp']at hc
    simp at hc
    rw [w2,hpn]
    have:w64 ((qu4 ts:Int) + -1)=(qu4 ts:Int) + -1:=qiX (by omega) (by omega)
    omega
  | claim q w2 hp hp' f b hk hf h0 hb hA w0 =>
    rw [hp,hp']at hc
    omega
  | war x f g z ho he hs hz hy sz w0 w2 hp hp' hk hk' =>
    rw [hp,hp']at hc
    omega
end
def Avl (L:List Nat)(own:Nat->Option Nat)(x:Nat):Prop:=x∈L\/∃k,own k=some x
structure Rec (c:Cfg)(ws:List Int)(L:List Nat)(own:Nat->Option Nat)(x:Nat)(γ:Int):Prop where
 ge:∀e,en c ws x=some e->γ<=e.g
 av:Avl L own x->∀e,en c ws x=some e->γ<e.g
def Cov (c:Cfg)(ws:List Int)(l:List Obj)(g:Nat->Int)(x:Nat)(e:Ent):Prop:=∃o∈l,o.s=(x:Int)/\o.o=e.o/\o.n=exI c ws x/\g x=e.g
def RecO (c:Cfg)(ws:List Int)(L:List Nat)(own:Nat->Option Nat)(g:Nat->Int)(o:Obj):Prop :=
 Rec c ws L own o.s.toNat (g o.s.toNat)/\∀e,LO c ws o.s.toNat e->e.g=g o.s.toNat->o.n=exI c ws o.s.toNat
def TopO (c:Cfg)(ws:List Int)(ts:List Th)(top:Int):Prop:=0<=top/\top<=qi5 ws 0/\∀k lo hi,Rg c ws ts k lo hi->hi<=top\/top<=lo
def ClO (c:Cfg)(ws:List Int)(ts:List Th)(top:Int):Prop:=∀i lo hi,Rg c ws ts (.inr i) lo hi->top<=lo
def qvf (c:Cfg)(ws:List Int)(m:Mc):Prop:=∀x e,LO c ws x e->e.o<m.top->e.o+exI c ws x<=m.dest\/(Cov c ws (m.ya.drop m.yx.toNat) m.g x e/\m.dest<=e.o)
def qvg (c:Cfg)(ws:List Int):Prop:=∀x e,LO c ws x e->e.lk=false
structure PO (c:Cfg)(ws:List Int)(ts:List Th)(L:List Nat)(own:Nat->Option Nat)(m:Mc):Prop where
 ini:m.next=1\/m.next=2->m.dest=0/\m.yx=0/\m.ya = []/\m.slot=0
 top:2<=m.next->TopO c ws ts m.top
 cl:3<=m.next->ClO c ws ts m.top
 recs:3<=m.next->∀o∈m.ya,o.o<m.top/\RecO c ws L own m.g o
 scan:m.next=3\/m.next=4->m.dest=0/\m.yx=0/\(∀o∈m.ya,o.s<m.slot)/\∀x e,LO c ws x e->e.o<m.top->(x:Int)<m.slot->Cov c ws m.ya m.g x e
 e4:m.next=4->m.e.o<m.top/\Rec c ws L own m.slot.toNat m.e.g/\∀e,LO c ws m.slot.toNat e->e.o<m.top->e.g=m.e.g/\e.o=m.e.o
 waq:5<=m.next->m.ya.Pairwise fun a b=>a.o<=b.o
 mid:5<=m.next->qvf c ws m
 way:6<=m.next->m.next<=9->m.dest<(qnr m).o/\∃e,qkb m.word=some e/\e.o=(qnr m).o/\e.g=m.g (qnr m).s.toNat
 fin:10<=m.next->(m.ya.length:Int)<=m.yx/\m.dest<m.top
 lk:∀x e,LO c ws x e->e.lk=true->7<=m.next/\m.next<=9/\(qnr m).s=(x:Int)
section
variable {c:Cfg}{ws ws' bs:List Int}{ts ts':List Th}{L L':List Nat}{own own':Nat->Option Nat}{n n' i:Nat}{m:Mc}
def Rec.step {x:Nat}{γ:Int}(h:Rec c ws L own x γ)(hx:(x:Int)<c.S)(s:SI c ws L own n)(mo:Mono c ws ws')(av:Av c ws ws' L L' own own'):Rec c ws' L' own' x γ:=by
 obtain⟨e,he⟩:=s.valid x hx
 have h1:=h.ge e he
 refine⟨fun e' he' => ?_,fun a e' he' => ?_⟩
 ·have:=(mo x e e' hx he he').1;omega
 ·have m:=(mo x e e' hx he he').1
  rcases av x a with q|q
  ·have:=h.av q e he;omega
  ·have:=q e e' he he';omega
def qvh {x:Nat}{e:Ent}(s:SI c ws L own n)(l:LO c ws x e):Rec c ws L own x e.g:=by
 have same:∀e',en c ws x=some e'->e'=e:=fun e' h=>by
  rw [l.2.1]at h
  injection h with h
  exact h.symm
 refine⟨fun e' h=>by rw [same e' h];exact Int.le_refl _,fun a e' h => ?_⟩
 have hl:=l.2.2
 rcases a with a|⟨k,a⟩
 ·obtain⟨e2,h1,h2⟩:=s.yP x a
  rw [same e2 h1,hl]at h2;cases h2
 ·obtain⟨_,_,e2,h1,h2⟩:=s.ow k x a
  rw [same e2 h1,hl]at h2;cases h2
def RecO.step {o:Obj}{g:Nat->Int}(h:RecO c ws L own g o)(h0:0<=o.s/\o.s<c.S)(s:SI c ws L own n)(v:EvO c ws ts own i ws' ts')(mo:Mono c ws ws')(av:Av c ws ws' L L' own own'):RecO c ws' L' own' g o:=by
 have hx:((o.s.toNat:Nat):Int)<c.S:=by omega
 refine⟨h.1.step hx s mo av,fun e' l q => ?_⟩
 rcases v.lo _ e' l with⟨e,h1,h2,h3,h4,h5⟩|⟨h1,_⟩
 ·rw [h.2 e h1 (by omega)]
  unfold exI
  rw [h5]
 ·obtain⟨e,he⟩:=s.valid _ hx
  have:=h.1.av (.inr ⟨i,h1⟩) e he
  have:=(mo _ e e' hx he l.2.1).1
  omega
def TopO.step {top:Int}(h:TopO c ws ts top)(v:EvO c ws ts own i ws' ts'):TopO c ws' ts' top:=by
 have w0:=v.w0
 obtain⟨h1,h2,h3⟩:=h
 refine⟨h1,by omega,fun k lo hi r => ?_⟩
 rcases v.was r with z|⟨_,z1,z2,z3⟩|⟨x,_,_,z,_⟩
 ·exact h3 k lo hi z
 ·omega
 ·exact h3 _ lo hi z
def ClO.step {top:Int}(h:ClO c ws ts top)(ht:top<=qi5 ws 0)(v:EvO c ws ts own i ws' ts'):ClO c ws' ts' top:=fun j lo hi r=>by
 rcases v.cl j lo hi r with z|⟨_,z,_⟩
 ·exact h j lo hi z
 ·omega
def EvO.below {top:Int}(h:ClO c ws ts top)(v:EvO c ws ts own i ws' ts'){x:Nat}{e':Ent}(l:LO c ws' x e')(ht:e'.o<top):∃e,LO c ws x e/\e'.o=e.o/\e'.g=e.g/\e'.lk=e.lk/\exI c ws' x=exI c ws x:=by
 rcases v.lo x e' l with⟨e,h1,h2,h3,h4,h5⟩|⟨_,_,_,h4,_⟩
 ·exact⟨e,h1,h2,h3,h4,by unfold exI;rw [h5]⟩
 ·have:=h i _ _ h4
  omega
def Cov.to {l:List Obj}{g:Nat->Int}{x:Nat}{e e':Ent}(h:Cov c ws l g x e)(h1:e'.o=e.o)(h2:e'.g=e.g)(h3:exI c ws' x=exI c ws x):Cov c ws' l g x e':=by
 obtain⟨o,a,b,d,f,k⟩:=h
 exact⟨o,a,b,d.trans h1.symm,f.trans h3.symm,k.trans h2.symm⟩
def qvi (s:SI c ws L own n)(p:PI c ws m)(P:PO c ws ts L own m)(v:EvO c ws ts own i ws' ts')(mo:Mono c ws ws')(av:Av c ws ws' L L' own own'):PO c ws' ts' L' own' m:=by
 have hc:=p.cfg
 have hso:∀o∈m.ya,0<=o.s/\o.s<c.S:=fun o ho=>by have:=p.wg.1.ya o ho;rw [hc]at this;exact this
 refine⟨P.ini,fun h=>(P.top h).step v,fun h=>(P.cl h).step (P.top (by omega)).2.1 v,fun h o ho=>⟨(P.recs h o ho).1,(P.recs h o ho).2.step (hso o ho) s v mo av⟩,fun h => ?_,fun h => ?_,P.waq,fun h => ?_,P.way,P.fin,fun x e' l q => ?_⟩
 ·obtain⟨a,b,d,f⟩:=P.scan h
  refine⟨a,b,d,fun x e' l ht hx => ?_⟩
  obtain⟨e,h1,h2,h3,h4,h5⟩:=v.below (P.cl (by omega)) l ht
  exact(f x e h1 (by omega) hx).to h2 h3 h5
 ·obtain⟨a,b,d⟩:=P.e4 h
  have hs:=p.wg.1.scan (by omega)
  refine⟨a,b.step (by rw [hc]at hs;omega) s mo av,fun e' l ht => ?_⟩
  obtain⟨e,h1,h2,h3,h4,h5⟩:=v.below (P.cl (by omega)) l ht
  have:=d e h1 (by omega)
  omega
 ·intro x e' l ht
  obtain⟨e,h1,h2,h3,h4,h5⟩:=v.below (P.cl (by omega)) l ht
  rcases P.mid h x e h1 (by omega)with z|⟨z1,z2⟩
  ·exact .inl (by omega)
  ·exact .inr ⟨z1.to h2 h3 h5,by omega⟩
 ·rcases v.lo x e' l with⟨e,h1,h2,h3,h4,h5⟩|⟨_,h2,_⟩
  ·exact P.lk x e h1 (h4.symm.trans q)
  ·rw [h2]at q;cases q
def qvj (h:OI c ws ts)(q:Qt c ws ws'):EvO c ws ts own i ws' ts:=by
 have:=h.top
 have:=q.w0
 refine⟨fun x e' l => .inl (qva q.qe l),fun j lo hi r => .inl ?_,by omega⟩
 cases r with
 | cl j u f b h k=>exact .cl _ u _ _ h k
def qvk {k:Nat ⊕ Nat}{lo hi:Int}(v:EvO c ws ts own ts.length ws' ts)(r:Rg c ws' ts k lo hi):Rg c ws ts k lo hi:=by
 have no:∀lo hi,¬Rg c ws ts (.inr ts.length) lo hi:=fun lo hi r=>by
  cases r with
  | cl j u f b h k=>rw [zzE (zzR _)]at h;cases h
 have no':∀lo hi,¬Rg c ws' ts (.inr ts.length) lo hi:=fun lo hi r=>by
  cases r with
  | cl j u f b h k=>rw [zzE (zzR _)]at h;cases h
 rcases v.was r with z|⟨z,_⟩|⟨x,_,_,z,_⟩
 ·exact z
 ·subst z;exact absurd r (no' _ _)
 ·exact absurd z (no _ _)
def qvl (h:OI c ws ts)(q:Qt c ws ws')(z:∀x:Int,qi5 ws' (qjx c x 1)=qi5 ws (qjx c x 1)):OI c ws' ts:=by
 have v:EvO c ws ts (fun _=>none) ts.length ws' ts:=qvj h q
 refine⟨fun x e' l => ?_,fun k lo hi r => ?_,fun k k' lo hi lo' hi' r r' hne=>h.waE k k' lo hi lo' hi' (qvk v r) (qvk v r') hne,by rw [q.w0];exact h.top,fun j t ht a h1 h2 => ?_,by rw [q.w2];exact h.pend,h.few⟩
 ·obtain⟨e,h1,_,_,_,h5⟩:=qva q.qe l
  rw [h5];exact h.sz x e h1
 ·rw [q.w0];exact h.inn k lo hi (qvk v r)
 ·have ao:=h.al j t ht a h1 h2
  exact⟨ao.sz,ao.room,fun q=>by rw [z];exact ao.size q,ao.cl⟩
end
def PoR (c:Cfg)(ws:List Int)(ts:List Th)(L:List Nat)(own:Nat->Option Nat)(r:Mc×Option Int):Prop:=(r.2=none->PO c ws ts L own r.1)/\∀n,r.2=some n->qvg c ws
structure qvm (c:Cfg)(ws:List Int)(ts:List Th)(L:List Nat)(own:Nat->Option Nat)(m:Mc):Prop where
 top:TopO c ws ts m.top
 cl:ClO c ws ts m.top
 recs:∀o∈m.ya,o.o<m.top/\RecO c ws L own m.g o
 waq:m.ya.Pairwise fun a b=>a.o<=b.o
 mid:qvf c ws m
 waz:qvg c ws
structure qvn (c:Cfg)(ws:List Int)(ts:List Th)(L:List Nat)(own:Nat->Option Nat)(m:Mc):Prop where
 top:TopO c ws ts m.top
 cl:ClO c ws ts m.top
 recs:∀o∈m.ya,o.o<m.top/\RecO c ws L own m.g o
 zero:m.dest=0/\m.yx=0
 slots:∀o∈m.ya,o.s<m.slot+1
 cov:∀x e,LO c ws x e->e.o<m.top->(x:Int)<m.slot+1->Cov c ws m.ya m.g x e
 waz:qvg c ws
section
variable {c:Cfg}{ws ws' bs:List Int}{ts ts':List Th}{L L':List Nat}{own own':Nat->Option Nat}{n n' i:Nat}{m:Mc}
def qvo (P:PO c ws ts L own m)(h:m.next<7\/9<m.next):qvg c ws:=fun x e l=>by
 cases q:e.lk with
 | false=>rfl
 | true=>have:=P.lk x e l q;omega
def qvp (h:qvm c ws ts L own m):PoR c ws ts L own (qmR m):=by
 have lk:∀{P:Prop} x e,LO c ws x e->e.lk=true->P:=fun x e l q=>by rw [h.waz x e l]at q;cases q
 unfold qmR
 split
 ·refine⟨fun _ => ?_,fun n q=>by cases q⟩
  exact⟨(no2 ·),fun _=>h.top,fun _=>h.cl,fun _=>h.recs,(no2 ·),(nq ·),fun _=>h.waq,fun _=>h.mid,(nl ·),(nl ·),fun x e l q=>lk x e l q⟩
 ·rename_i h1
  split
  ·exact⟨(fun q=>by cases q),fun n q=>h.waz⟩
  ·rename_i h2
   refine⟨fun _ => ?_,fun n q=>by cases q⟩
   exact⟨(no2 ·),fun _=>h.top,fun _=>h.cl,fun _=>h.recs,(no2 ·),(nq ·),fun _=>h.waq,fun _=>h.mid,fun _ q=>by have q:(10:Int)<=9:=q;omega,fun _=>⟨by show(m.ya.length:Int)<=m.yx;omega,by show m.dest<m.top;omega⟩,fun x e l q=>lk x e l q⟩
def qvq {x:Nat}{e:Ent}(l:LO c ws x e):0<=e.o/\e.o<=4096:=by
 have:=qog l.2.1
 unfold Ent.may at this
 omega
def Cov.mono {l l':List Obj}{g:Nat->Int}{x:Nat}{e:Ent}(h:Cov c ws l g x e)(hs:∀o∈l,o∈l'):Cov c ws l' g x e:=by
 obtain⟨o,a,b⟩:=h
 exact⟨o,hs o a,b⟩
def qvr (hs:0<=m.slot/\m.slot<64)(hc:m.c=c)(h:qvn c ws ts L own m):PoR c ws ts L own (qmU m):=by
 have hw:w64 (m.slot+1)=m.slot+1:=qiX (by omega) (by omega)
 have lk:∀{P:Prop} x e,LO c ws x e->e.lk=true->P:=fun x e l q=>by rw [h.waz x e l]at q;cases q
 unfold qmU
 rw [hw]
 split
 ·refine⟨fun _ => ?_,fun n q=>by cases q⟩
  exact⟨(no2 ·),fun _=>h.top,fun _=>h.cl,fun _=>h.recs,fun _=>⟨h.zero.1,h.zero.2,h.slots,h.cov⟩,(nq ·),(nl ·),(nl ·),(nl ·),(nl ·),fun x e l q=>lk x e l q⟩
 ·rename_i h1
  refine qvp (m := {m with slot:=m.slot+1,ya:=qkN m.ya}) ⟨h.top,h.cl,fun o ho=>h.recs o ((qk2 m.ya).mem_iff.1 ho), ?_,fun x e l q => ?_,h.waz⟩
  ·exact(qk4 m.ya).imp fun {a b} z=>by
    unfold Le ltP at z
    omega
  ·have q:e.o<m.top:=q
   refine .inr ⟨?_,by show m.dest<=e.o;rw [h.zero.1];exact(qvq l).1⟩
   show Cov c ws ((qkN m.ya).drop m.yx.toNat) m.g x e
   rw [h.zero.2]
   have hx:=l.1
   rw [hc]at h1
   exact(h.cov x e l q (by omega)).mono fun o ho=>(qk2 m.ya).mem_iff.2 ho
variable {x0:Nat}{v:Int}{e e':Ent}
def qvs (hm:c.may)(s:SI c ws L own n)(hx:(x0:Int)<c.S)(hv:qkb v=some e'):en c (qi6 ws (qjx c x0 0) v) x0=some e':=by
 have si:=qtB s hm hx (k:=0) (by omega)
 unfold en
 rw [qtr (by omega) si.2]
 exact hv
def qvt (hm:c.may)(hx:(x0:Int)<c.S){y:Nat}(hy:y≠x0):en c (qi6 ws (qjx c x0 0) v) y=en c ws y:=by
 unfold Cfg.may at hm
 unfold en
 rw [qtq fun q=>hy ?_]
 have:=qtu (c:=c) (s:=x0) (t:=y) (k:=0) (by omega) hx (by omega) (by omega) q.symm
 omega
def qvu (hm:c.may)(hx:(x0:Int)<c.S)(t:Int):qi5 (qi6 ws (qjx c x0 0) v) (qjx c t 1)=qi5 ws (qjx c t 1):=by
 unfold Cfg.may at hm
 exact qtq fun q=>qtt (c:=c) (s:=x0) (t:=t) (j:=1) (k:=0) (by omega) hx (by omega) (by omega) (by omega) (by omega) q.symm
def qvv (hm:c.may){k:Int}(hk:k=0\/k=2):qi5 (qi6 ws (qjx c x0 0) v) k=qi5 ws k:=by
 have:=qum hm x0 0 (by omega)
 exact qtq (by omega)
def qvw (hm:c.may)(s:SI c ws L own n)(l:LO c ws x0 e)(hv:qkb v=some e'){y:Nat}{e2:Ent}(k:LO c (qi6 ws (qjx c x0 0) v) y e2):(y=x0/\e2=e')\/(y≠x0/\LO c ws y e2):=by
 by_cases hy:y=x0
 ·subst hy
  have:=k.2.1
  rw [qvs hm s l.1 hv]at this
  injection this with this
  exact .inl ⟨rfl,this.symm⟩
 ·exact .inr ⟨hy,k.1,(qvt hm l.1 hy).symm.trans k.2.1,k.2.2⟩
def qvx (hm:c.may)(s:SI c ws L own n)(l:LO c ws x0 e)(hv:qkb v=some e'){k:Nat ⊕ Nat}{lo hi:Int}(r:Rg c (qi6 ws (qjx c x0 0) v) ts k lo hi) :
  (k≠.inl x0/\Rg c ws ts k lo hi)\/(k = .inl x0/\lo=e'.o/\hi=e'.o+exI c ws x0):=by
 cases r with
 | ob y e2 q =>
   have hz:exI c (qi6 ws (qjx c x0 0) v) y=exI c ws y:=by unfold exI szI;rw [qvu hm l.1]
   rw [hz]
   rcases qvw hm s l hv q with⟨rfl,rfl⟩|⟨z1,z2⟩
   ·exact .inr ⟨rfl,rfl,rfl⟩
   ·exact .inl ⟨fun q=>z1 (by injection q),.ob y e2 z2⟩
 | cl j u f b h1 h2=>exact .inl ⟨(fun q=>by cases q),.cl _ u _ _ h1 h2⟩
def qvy (hm:c.may)(s:SI c ws L own n)(h:OI c ws ts)(l:LO c ws x0 e)(hv:qkb v=some e')(h0:0<=e'.o/\e'.o<=e.o)(ap:∀k lo hi,Rg c ws ts k lo hi->k≠.inl x0->e'.o+exI c ws x0<=lo\/hi<=e'.o):OI c (qi6 ws (qjx c x0 0) v) ts:=by
 have e0:=qvv (ws:=ws) (x0:=x0) (v:=v) hm (k:=0) (.inl rfl)
 refine⟨fun y e2 q => ?_,fun k lo hi r => ?_,fun k k' lo hi lo' hi' r r' hne => ?_,by rw [e0];exact h.top,fun j t ht a h1 h2 => ?_,by rw [qvv hm (.inr rfl)];exact h.pend,h.few⟩
 ·unfold szI
  rw [qvu hm l.1]
  rcases qvw hm s l hv q with⟨rfl,_⟩|⟨_,z2⟩
  ·exact h.sz _ e l
  ·exact h.sz y e2 z2
 ·rw [e0]
  rcases qvx hm s l hv r with⟨_,z⟩|⟨_,z1,z2⟩
  ·exact h.inn k lo hi z
  ·have:=h.inn _ _ _ (.ob x0 e l);omega
 ·rcases qvx hm s l hv r with⟨z0,z⟩|⟨z0,z1,z2⟩
  ·rcases qvx hm s l hv r' with⟨y0,y⟩|⟨y0,y1,y2⟩
   ·exact h.waE k k' lo hi lo' hi' z y hne
   ·have:=ap k lo hi z z0;omega
  ·rcases qvx hm s l hv r' with⟨y0,y⟩|⟨y0,y1,y2⟩
   ·have:=ap k' lo' hi' y y0;omega
   ·exact absurd (z0.trans y0.symm) hne
 ·have ao:=h.al j t ht a h1 h2
  exact⟨ao.sz,ao.room,fun q=>by rw [qvu hm l.1];exact ao.size q,ao.cl⟩
def qvz (hm:c.may)(s:SI c ws L own n){top:Int}(h:TopO c ws ts top)(l:LO c ws x0 e)(hv:qkb v=some e')(hr:e'.o+exI c ws x0<=top\/top<=e'.o):TopO c (qi6 ws (qjx c x0 0) v) ts top:=by
 obtain⟨h1,h2,h3⟩:=h
 refine⟨h1,by rw [qvv hm (.inl rfl)];exact h2,fun k lo hi r => ?_⟩
 rcases qvx hm s l hv r with⟨_,z⟩|⟨_,z1,z2⟩
 ·exact h3 k lo hi z
 ·omega
def qvA (hm:c.may)(s:SI c ws L own n){top:Int}(h:ClO c ws ts top)(l:LO c ws x0 e)(hv:qkb v=some e'):ClO c (qi6 ws (qjx c x0 0) v) ts top:=fun j lo hi r=>by
 rcases qvx hm s l hv r with⟨_,z⟩|⟨z,_⟩
 ·exact h j lo hi z
 ·cases z
def qvB (hm:c.may)(s:SI c ws L own n){o:Obj}{g:Nat->Int}(h:RecO c ws L own g o)(h0:0<=o.s/\o.s<c.S)(l:LO c ws x0 e)(hv:qkb v=some e')(hg:e'.g=e.g)
  (mo:Mono c ws (qi6 ws (qjx c x0 0) v)) (av:Av c ws (qi6 ws (qjx c x0 0) v) L L' own own'):RecO c (qi6 ws (qjx c x0 0) v) L' own' g o:=by
 refine⟨h.1.step (by omega) s mo av,fun e2 q q2 => ?_⟩
 have hz:exI c (qi6 ws (qjx c x0 0) v) o.s.toNat=exI c ws o.s.toNat:=by unfold exI szI;rw [qvu hm l.1]
 rw [hz]
 rcases qvw hm s l hv q with⟨z1,rfl⟩|⟨_,z2⟩
 ·exact h.2 e (by rw [z1];exact l) (by omega)
 ·exact h.2 e2 z2 q2
end
section
variable {c:Cfg}{ws ws' bs:List Int}{ts ts':List Th}{L L':List Nat}{own own':Nat->Option Nat}{n n' i:Nat}{m:Mc}
def qvC (h:OI c ws ts)(h2:qi5 ws 2=0):∀i lo hi,¬Rg c ws ts (.inr i) lo hi:=fun i lo hi r=>by
 cases r with
 | cl j u f b h1 k =>
   have hp:=h.pend
   rw [h2]at hp
   have hm:u∈ts.filter pnB:=List.mem_filter.2 ⟨List.mem_of_getElem? h1,qu7 k⟩
   have:=List.length_pos_of_mem hm
   unfold qu4 at hp
   omega
def qvD (h0:0<=m.yx)(h1:m.yx<m.ya.length):m.ya.drop m.yx.toNat=qnr m::m.ya.drop (m.yx+1).toNat:=by
 have hc:=qnw h0 h1
 have hl:m.yx.toNat<m.ya.length:=by omega
 rw [List.drop_eq_getElem_cons hl,show(m.yx+1).toNat=m.yx.toNat+1 by omega]
 rw [zzG hl]at hc
 injection hc with hc
 rw [hc]
def qvE (h0:0<=m.yx)(h1:m.yx<m.ya.length)(hs:m.ya.Pairwise fun a b=>a.o<=b.o):∀o∈m.ya.drop (m.yx+1).toNat,(qnr m).o<=o.o:=by
 have:=hs.sublist (List.drop_sublist m.yx.toNat m.ya)
 rw [qvD h0 h1]at this
 exact(List.pairwise_cons.1 this).1
def qvF (hm:c.may)(s:SI c ws L own n)(p:PI c ws m)(h:OI c ws ts)(P:PO c ws ts L own m)(hn:m.next=5):PoR c ws ts L own (qnd m ws (qnr m)):=by
 have hm':=hm
 unfold Cfg.may at hm'
 have hc:=p.cfg
 have hl:=p.wg.1.look (by omega) (by omega)
 have h0:=p.wg.1.at_
 have hl64:=p.wg.2.1
 have hmem:=List.mem_of_getElem? (qnw h0 hl)
 have hs:=p.wg.1.ya _ hmem
 rw [hc]at hs
 have ho:=p.ya _ hmem
 obtain⟨hlow,hrec⟩:=P.recs (by omega) _ hmem
 have hmid:=P.mid (by omega)
 have hnl:=qvo P (.inl (by omega))
 have hd:=qvD h0 hl
 have hsr:=qvE h0 hl (P.waq (by omega))
 have ha:w64 (m.yx+1)=m.yx+1:=qiX (by omega) (by omega)
 have hdest:=p.dest
 have hwo:w64 ((qnr m).o+(qnr m).n)=(qnr m).o+(qnr m).n:=qiX (by omega) (by omega)
 generalize hco:qnr m=o at hmem hs ho hlow hrec hd hsr hwo|-
 have hen:en c ws o.s.toNat=qkb (qi5 ws (qjx m.c o.s 0)):=by unfold en;rw [hc,qtP hs.1]
 have hxs:((o.s.toNat:Nat):Int)=o.s:=qtP hs.1
 -- the next object's turn, with a dest of its own
 have go:∀(w d:Int),(∀x e,LO c ws x e->e.o<m.top->e.o+exI c ws x<=d\/(Cov c ws (m.ya.drop (m.yx+1).toNat) m.g x e/\d<=e.o))->PoR c ws ts L own (qnb {m with word:=w,dest:=d}):=fun w d hv=>by
  unfold qnb
  show PoR c ws ts L own (qmR {m with word:=w,dest:=d,yx:=w64 (m.yx+1)})
  rw [ha]
  exact qvp ⟨P.top (by omega),P.cl (by omega),P.recs (by omega),P.waq (by omega),hv,hnl⟩
 have stale:(∀e,LO c ws o.s.toNat e->e.g=m.g o.s.toNat->e.o≠o.o)->∀w,PoR c ws ts L own (qnb {m with word:=w}):=fun q w=>go w m.dest fun x e l ht=>by
  rcases hmid x e l ht with z|⟨⟨o2,z1,z2,z3,z4,z5⟩,y⟩
  ·exact .inl z
  ·rw [hd]at z1
   rcases List.mem_cons.1 z1 with rfl|z1
   ·exfalso
    have hx:o2.s.toNat=x:=by omega
    exact q e (by rw [hx];exact l) (by rw [hx];exact z5.symm) z3.symm
   ·exact .inr ⟨⟨o2,z1,z2,z3,z4,z5⟩,y⟩
 unfold qnd
 cases hu:qkb (qi5 ws (qjx m.c o.s 0))with
 | none =>
   exact stale (fun e l _ _=>by
    have:=l.2.1
    rw [hen,hu]at this;cases this) _
 | some e =>
   simp only
   have same:∀e',LO c ws o.s.toNat e'->e'=e:=fun e' l=>by
    have:=l.2.1
    rw [hen,hu]at this
    injection this with this
    exact this.symm
   by_cases g1:e.lv=false\/e.g≠m.g o.s.toNat\/e.o≠o.o
   ·rw [if_pos g1]
    refine stale (fun e' l q1 q2 => ?_) _
    have:=same e' l
    subst this
    rcases g1 with g1|g1|g1
    ·have:=l.2.2;rw [g1]at this;cases this
    ·exact g1 q1
    ·exact g1 q2
   ·rw [if_neg g1]
    have lv:e.lv=true:=by
     cases q:e.lv with
     | true=>rfl
     | false=>exact absurd (.inl q) g1
    have hg:e.g=m.g o.s.toNat:=Classical.byContradiction fun q=>g1 (.inr (.inl q))
    have heo:e.o=o.o:=Classical.byContradiction fun q=>g1 (.inr (.inr q))
    have l:LO c ws o.s.toNat e:=⟨by omega,hen.trans hu,lv⟩
    have hon:=hrec.2 e l hg
    by_cases g2:0<e.p+e.u\/e.lk=true\/e.o<=m.dest
    ·rw [if_pos g2]
     refine go _ (qm9 m.dest (w64 (o.o+o.n))) fun x e2 l2 ht => ?_
     rw [hwo,hon]
     have mx:qm9 m.dest (o.o+exI c ws o.s.toNat)=if m.dest<o.o+exI c ws o.s.toNat then o.o+exI c ws o.s.toNat else m.dest:=rfl
     rw [mx]
     have hx0:=hmid _ e l (by omega)
     rcases hmid x e2 l2 ht with z|⟨⟨o2,z1,z2,z3,z4,z5⟩,y⟩
     ·refine .inl ?_
      split<;>omega
     ·rw [hd]at z1
      rcases List.mem_cons.1 z1 with rfl|z1
      ·have hx:o2.s.toNat=x:=by omega
       subst hx
       have:=same e2 l2
       subst this
       refine .inl ?_
       split<;>omega
      ·by_cases hx:x=o.s.toNat
       ·subst hx
        have:=same e2 l2
        subst this
        refine .inl ?_
        split<;>omega
       ·have h8:=h.len (.ob x e2 l2)
        have hle:=hsr o2 z1
        refine .inr ⟨⟨o2,z1,z2,z3,z4,z5⟩, ?_⟩
        rcases h.waE _ _ _ _ _ _ (.ob x e2 l2) (.ob _ e l) (fun q=>hx (by injection q))with q|q
        ·omega
        ·split<;>omega
    ·rw [if_neg g2]
     refine⟨fun _ => ?_,fun k q=>by cases q⟩
     refine⟨(no2 ·),fun _=>P.top (by omega),fun _=>P.cl (by omega),fun _=>P.recs (by omega),(no2 ·),(nq ·),fun _=>P.waq (by omega),fun _=>hmid,fun _ _ => ?_,(nl ·),fun x e l q=>by rw [hnl x e l]at q;cases q⟩
     have ec:qnr (onM {m with word:=qi5 ws (qjx m.c o.s 0)} 6).1=qnr m:=rfl
     rw [ec,hco]
     exact⟨by show m.dest<o.o;omega,e,hu,heo,hg⟩
end
section
variable {c:Cfg}{ws ws' bs:List Int}{ts ts':List Th}{L L':List Nat}{own own':Nat->Option Nat}{n n' i:Nat}{m:Mc}
def qvG (hm:c.may)(s:SI c ws L own n)(p:PI c ws m)(P:PO c ws ts L own m)(hn:m.next=3):PoR c ws ts L own (qm4 m ws):=by
 have hc:=p.cfg
 have hsl:=(p.wg.1.scan (by omega)).2
 have hsS:=hsl.2.1
 rw [hc]at hsS
 unfold Cfg.may at hm
 have hxs:((m.slot.toNat:Nat):Int)=m.slot:=qtP hsl.1
 have hen:en c ws m.slot.toNat=qkb (qi5 ws (qjx m.c m.slot 0)):=by unfold en;rw [hc,hxs]
 have hnl:=qvo P (.inl (by omega))
 obtain⟨z1,z2,z3,z4⟩:=P.scan (.inl hn)
 have sc:∀e0:Ent,(∀e,LO c ws m.slot.toNat e->e.o<m.top->False)->PoR c ws ts L own (qmU {m with e:=e0}):=fun e0 q =>
  qvr (m := {m with e:=e0}) (by show 0<=m.slot/\m.slot<64;omega) hc ⟨P.top (by omega),P.cl (by omega),P.recs (by omega),⟨z1,z2⟩,fun o ho=>by have:=z3 o ho;show o.s<m.slot+1;omega,fun x e l ht hx=>by
   have hx:(x:Int)<m.slot+1:=hx
   by_cases hxx:(x:Int)=m.slot
   ·have:x=m.slot.toNat:=by omega
    subst this
    exact(q e l ht).elim
   ·exact z4 x e l ht (by omega),hnl⟩
 unfold qm4
 cases hu:qkb (qi5 ws (qjx m.c m.slot 0))with
 | none =>
   refine sc _ fun e l _ => ?_
   have:=l.2.1
   rw [hen,hu]at this;cases this
 | some e =>
   simp only
   by_cases g:e.lv=true/\e.o<m.top
   ·rw [if_pos g]
    have l:LO c ws m.slot.toNat e:=⟨by omega,hen.trans hu,g.1⟩
    refine⟨fun _ => ?_,fun k q=>by cases q⟩
    refine⟨(no2 ·),fun _=>P.top (by omega),fun _=>P.cl (by omega),fun _=>P.recs (by omega),fun _=>⟨z1,z2,z3,z4⟩,fun _=>⟨g.2,qvh s l,fun e2 l2 ht => ?_⟩,(nl ·),(nl ·),(nl ·),(nl ·),fun x e l q=>by rw [hnl x e l]at q;cases q⟩
    have h2:=l2.2.1
    have h1:=l.2.1
    have h2:en c ws m.slot.toNat=some e2:=h2
    rw [h1]at h2
    injection h2 with h2
    subst h2
    exact⟨rfl,rfl⟩
   ·rw [if_neg g]
    refine sc _ fun e2 l ht=>g ?_
    have h2:=l.2.1
    rw [hen,hu]at h2
    injection h2 with h2
    subst h2
    exact⟨l.2.2,ht⟩
def qvH (hm:c.may)(s:SI c ws L own n)(p:PI c ws m)(h:OI c ws ts)(P:PO c ws ts L own m)(hn:m.next=4):PoR c ws ts L own (qm2 m ws):=by
 have hc:=p.cfg
 have hsl:=(p.wg.1.scan (by omega)).2
 have hsS:=hsl.2.1
 rw [hc]at hsS
 unfold Cfg.may at hm
 have hxs:((m.slot.toNat:Nat):Int)=m.slot:=qtP hsl.1
 have hz:szI c ws m.slot.toNat=qi5 ws (qjx m.c m.slot 1):=by unfold szI;rw [hc,hxs]
 have hnl:=qvo P (.inl (by omega))
 obtain⟨z1,z2,z3,z4⟩:=P.scan (.inr hn)
 obtain⟨y1,y2,y3⟩:=P.e4 hn
 have hso:=p.wg.1.ya
 unfold qm2
 by_cases g:1<=qi5 ws (qjx m.c m.slot 1)/\qi5 ws (qjx m.c m.slot 1)<=256
 ·rw [if_pos g]
  have hex:qkq (qi5 ws (qjx m.c m.slot 1))=exI c ws m.slot.toNat:=by
   unfold exI qpc
   rw [hz,if_pos g]
  have g1:∀o∈m.ya,(if o.s.toNat=m.slot.toNat then m.e.g else m.g o.s.toNat)=m.g o.s.toNat:=fun o ho=>by
   have:=z3 o ho
   have:=(hso o ho).1
   exact if_neg (by omega)
  refine qvr (m := {m with ya:=m.ya ++ [⟨m.slot,m.e.o,qkq (qi5 ws (qjx m.c m.slot 1)),false⟩],g:=fun j=>if j=m.slot.toNat then m.e.g else m.g j}) (by show 0<=m.slot/\m.slot<64;omega) hc ⟨P.top (by omega),P.cl (by omega),fun o ho => ?_,⟨z1,z2⟩,fun o ho => ?_,fun x e l ht hx => ?_,hnl⟩
  ·rcases List.mem_append.1 ho with q|q
   ·obtain⟨a,b⟩:=P.recs (by omega) o q
    refine⟨a, ?_⟩
    show RecO c ws L own (fun j=>if j=m.slot.toNat then m.e.g else m.g j) o
    unfold RecO at b|-
    simp only
    rw [g1 o q]
    exact b
   ·rw [List.mem_singleton]at q
    subst q
    refine⟨y1, ?_⟩
    show RecO c ws L own (fun j=>if j=m.slot.toNat then m.e.g else m.g j) ⟨m.slot,m.e.o,qkq (qi5 ws (qjx m.c m.slot 1)),false⟩
    unfold RecO
    simp only [if_true]
    exact⟨y2,fun _ _ _=>hex⟩
  ·show o.s<m.slot+1
   rcases List.mem_append.1 ho with q|q
   ·have:=z3 o q;omega
   ·rw [List.mem_singleton]at q
    subst q
    show m.slot<m.slot+1
    omega
  ·have hx:(x:Int)<m.slot+1:=hx
   have ht:e.o<m.top:=ht
   by_cases hxx:(x:Int)=m.slot
   ·have:x=m.slot.toNat:=by omega
    subst this
    obtain⟨q1,q2⟩:=y3 e l ht
    exact⟨⟨m.slot,m.e.o,qkq (qi5 ws (qjx m.c m.slot 1)),false⟩,List.mem_append_right _ (List.mem_singleton.2 rfl),hxs.symm,q2.symm,hex,(if_pos rfl).trans q1.symm⟩
   ·obtain⟨o,a1,a2,a3,a4,a5⟩:=z4 x e l ht (by omega)
    exact⟨o,List.mem_append_left _ a1,a2,a3,a4,(if_neg (by omega)).trans a5⟩
 ·rw [if_neg g]
  refine qvr (by omega) hc ⟨P.top (by omega),P.cl (by omega),P.recs (by omega),⟨z1,z2⟩,fun o ho=>by have:=z3 o ho;omega,fun x e l ht hx => ?_,hnl⟩
  by_cases hxx:(x:Int)=m.slot
  ·have:x=m.slot.toNat:=by omega
   subst this
   have:=h.sz _ e l
   rw [hz]at this
   exact absurd this g
  ·exact z4 x e l ht (by omega)
structure qvI (c:Cfg)(ws:List Int)(m:Mc)(o:Obj)(e:Ent):Prop where
 cur:qnr m=o
 mem:o∈m.ya
 s:0<=o.s/\o.s<c.S
 lo:LO c ws o.s.toNat e
 eo:e.o=o.o
 g:e.g=m.g o.s.toNat
 n:o.n=exI c ws o.s.toNat
 dest:m.dest<e.o
 top:e.o<m.top
def qvJ (hm:c.may)(p:PI c ws m)(P:PO c ws ts L own m)(h6:6<=m.next)(h9:m.next<=9)(hw:qi5 ws (qjx c (qnr m).s 0)=m.word)(hv:∀e,qkb m.word=some e->e.lv=true):∃o e,qvI c ws m o e/\qkb m.word=some e:=by
 have hl:=p.wg.1.look (by omega) (by omega)
 have h0:=p.wg.1.at_
 have hmem:=List.mem_of_getElem? (qnw h0 hl)
 have hs:=p.wg.1.ya _ hmem
 rw [p.cfg]at hs
 obtain⟨d,e,e1,e2,e3⟩:=P.way h6 h9
 obtain⟨hlow,hrec⟩:=P.recs (by omega) _ hmem
 have hx:(((qnr m).s.toNat:Nat):Int)=(qnr m).s:=qtP hs.1
 have l:LO c ws (qnr m).s.toNat e:=⟨by omega,by unfold en;rw [hx,hw];exact e1,hv e e1⟩
 exact⟨qnr m,e,⟨rfl,hmem,hs,l,e2,e3,hrec.2 e l e3,by omega,by omega⟩,e1⟩
def qvK (p:PI c ws m)(h:OI c ws ts)(P:PO c ws ts L own m)(h6:6<=m.next)(h9:m.next<=9){o:Obj}{e:Ent}(w:qvI c ws m o e) :
  (∀k lo hi,Rg c ws ts k lo hi->k≠.inl o.s.toNat->e.o+exI c ws o.s.toNat<=lo\/hi<=m.dest)/\e.o+exI c ws o.s.toNat<=m.top:=by
 have hl:=p.wg.1.look (by omega) (by omega)
 have h0:=p.wg.1.at_
 have hd:=qvD h0 hl
 have hsr:=qvE h0 hl (P.waq (by omega))
 rw [w.cur]at hd hsr
 obtain⟨t1,t2,t3⟩:=P.top (by omega)
 have r0:=Rg.ob (ts:=ts) o.s.toNat e w.lo
 have htop:=w.top
 have h8:=h.len r0
 have heo:=w.eo
 have ht:e.o+exI c ws o.s.toNat<=m.top:=by
  rcases t3 _ _ _ r0 with q|q
  ·exact q
  ·omega
 refine⟨fun k lo hi r hk => ?_,ht⟩
 cases r with
 | ob x e2 l2 =>
   by_cases ht2:e2.o<m.top
   ·rcases P.mid (by omega) x e2 l2 ht2 with z|⟨⟨o2,z1,z2,z3,z4,z5⟩,y⟩
    ·exact .inr z
    ·rw [hd]at z1
     rcases List.mem_cons.1 z1 with rfl|z1
     ·exact absurd (by rw [z2];rfl) hk
     ·have:=hsr o2 z1
      rcases h.waE _ _ _ _ _ _ (.ob x e2 l2) r0 hk with q|q
      ·have:=h.len (.ob (ts:=ts) x e2 l2);omega
      ·exact .inl q
   ·exact .inl (by omega)
 | cl j u f b h1 h2=>exact .inl (by have:=P.cl (by omega) _ _ _ (.cl _ u _ _ h1 h2);omega)
end
section
variable {c:Cfg}{ws ws' bs:List Int}{ts ts':List Th}{L L':List Nat}{own own':Nat->Option Nat}{n n' i:Nat}{m:Mc}
def qvL {e:Ent}(h:e.may)(hl:e.lv=true)(h0:e.p=0)(h1:e.u=0):(qm7 e).may:=by
 unfold Ent.may at h|-
 unfold qm7
 refine⟨h.1,h.2.1,h.2.2.1,h.2.2.2.1,h.2.2.2.2.1,h.2.2.2.2.2.1,h.2.2.2.2.2.2.1,h.2.2.2.2.2.2.2.1,fun _=>by show e.p+e.u=0;omega,fun q=>by have q:e.lv=false:=q;rw [hl]at q;cases q⟩
def qvM {e:Ent}{d:Int}(h:e.may)(hl:e.lv=true)(hd:0<=d/\d<=4096):(qm8 d e).may:=by
 unfold Ent.may at h|-
 unfold qm8
 exact⟨hd.1,hd.2,h.2.2.1,h.2.2.2.1,h.2.2.2.2.1,h.2.2.2.2.2.1,h.2.2.2.2.2.2.1,h.2.2.2.2.2.2.2.1,fun q=>(by cases q),fun q=>by have q:e.lv=false:=q;rw [hl]at q;cases q⟩
def qvN (hm:c.may)(s:SI c ws L own n)(p:PI c ws m)(h:OI c ws ts)(P:PO c ws ts L own m)(hn:m.next=6)
  (mo:Mono c ws (qnf m ws (qnr m)).2) (av:Av c ws (qnf m ws (qnr m)).2 L L' own own'):OI c (qnf m ws (qnr m)).2 ts/\PoR c (qnf m ws (qnr m)).2 ts L' own' (qnf m ws (qnr m)).1:=by
 have hc:=p.cfg
 have hnl:=qvo P (.inl (by omega))
 unfold qnf at mo av|-
 by_cases hb:qjh ws (qjx m.c (qnr m).s 0) m.word=true
 ·rw [if_pos hb]at mo av|-
  have hw:=(qts hb).2.2
  rw [hc]at hw
  obtain⟨_,e0,f1,f2,f3,f4,f5⟩:=p.word hn
  obtain⟨o,e,w,u⟩:=qvJ hm p P (by omega) (by omega) hw (fun e q=>by rw [f1]at q;injection q with q;subst q;exact f2)
  rw [f1]at u
  injection u with u
  subst u
  have hv:=qt9 (F:=qm7) f1 f2 (qvL (qog f1) f2 f4 f5)
  have ea:qjx m.c (qnr m).s 0=qjx c ((o.s.toNat:Nat):Int) 0:=by rw [hc,w.cur,qtP w.s.1]
  rw [ea]at mo av|-
  generalize chA m.word qm7=v at hv mo av
  obtain⟨wa,wt⟩:=qvK p h P (by omega) (by omega) w
  have r0:=Rg.ob (ts:=ts) o.s.toNat e0 w.lo
  have hz:∀y,exI c (qi6 ws (qjx c ((o.s.toNat:Nat):Int) 0) v) y=exI c ws y:=fun y=>by unfold exI szI;rw [qvu hm w.lo.1]
  refine⟨qvy hm s h w.lo hv ⟨(qvq w.lo).1,Int.le_refl _⟩ fun k lo hi r hk => ?_,fun _ => ?_,fun k q=>by cases q⟩
  ·show e0.o+exI c ws o.s.toNat<=lo\/hi<=e0.o
   rcases h.waE _ _ _ _ _ _ r r0 hk with q|q
   ·exact .inr q
   ·exact .inl q
  ·have hso:=p.wg.1.ya
   rw [hc]at hso
   refine⟨(no2 ·),fun _=>qvz hm s (P.top (by omega)) w.lo hv (.inl wt),fun _=>qvA hm s (P.cl (by omega)) w.lo hv,fun _ o2 ho=>⟨(P.recs (by omega) o2 ho).1,qvB hm s (P.recs (by omega) o2 ho).2 (hso o2 ho) w.lo hv rfl mo av⟩,(no2 ·),(nq ·),fun _=>P.waq (by omega),fun _ x e2 q ht => ?_,fun _ _ => ?_,(nl ·),fun x e2 q q2 => ?_⟩
   ·rw [hz]
    have ht:e2.o<m.top:=ht
    rcases qvw hm s w.lo hv q with⟨rfl,rfl⟩|⟨_,l2⟩
    ·rcases P.mid (by omega) _ e0 w.lo ht with z|⟨z1,z2⟩
     ·exact .inl z
     ·exact .inr ⟨z1.to rfl rfl (hz _),z2⟩
    ·rcases P.mid (by omega) x e2 l2 ht with z|⟨z1,z2⟩
     ·exact .inl z
     ·exact .inr ⟨z1.to rfl rfl (hz _),z2⟩
   ·show m.dest<(qnr m).o/\∃e,qkb v=some e/\e.o=(qnr m).o/\e.g=m.g (qnr m).s.toNat
    rw [w.cur]
    have w1:=w.dest
    have w2:=w.eo
    exact⟨by omega,_,hv,w.eo,w.g⟩
   ·show(7:Int)<=7/\(7:Int)<=9/\(qnr m).s=(x:Int)
    rcases qvw hm s w.lo hv q with⟨rfl,_⟩|⟨_,l2⟩
    ·rw [w.cur]
     exact⟨by omega,by omega,(qtP w.s.1).symm⟩
    ·rw [hnl x e2 l2]at q2;cases q2
 ·rw [if_neg hb]at mo av|-
  have P':=qvi s p P (qvj (i:=0) h .refl) mo av
  refine⟨h,fun _ => ?_,fun k q=>by cases q⟩
  exact⟨(no2 ·),fun _=>P'.top (by omega),fun _=>P'.cl (by omega),fun _=>P'.recs (by omega),(no2 ·),(nq ·),fun _=>P'.waq (by omega),fun _=>P'.mid (by omega),(nl ·),(nl ·),fun x e l q=>by rw [hnl x e l]at q;cases q⟩
def qvO (P:PO c ws ts L own m)(h7:7<=m.next)(h9:m.next<=9){k a b:Int}(k7:7<=k)(k9:k<=9):PO c ws ts L own {m with next:=k,i:=a,b:=b} := by
 refine⟨fun q=>by have q:k=1\/k=2:=q;omega,fun _=>P.top (by omega),fun _=>P.cl (by omega),fun _=>P.recs (by omega),fun q=>by have q:k=3\/k=4:=q;omega,fun q=>by have q:k=4:=q;omega,fun _=>P.waq (by omega),fun _=>P.mid (by omega),fun _ _=>P.way (by omega) h9,fun q=>by have q:10<=k:=q;omega,fun x e l q=>⟨k7,k9,(P.lk x e l q).2.2⟩⟩
def qvP (hm:c.may)(s:SI c ws L own n)(p:PI c ws m)(h:OI c ws ts)(P:PO c ws ts L own m)(hn:m.next=9)
  (mo:Mono c ws (qnj m ws (qnr m)).2) (av:Av c ws (qnj m ws (qnr m)).2 L L' own own'):OI c (qnj m ws (qnr m)).2 ts/\PoR c (qnj m ws (qnr m)).2 ts L' own' (qnj m ws (qnr m)).1:=by
 have hc:=p.cfg
 obtain⟨d1,hw,e0,f1,f2,f3⟩:=p.lock (by omega) (by omega)
 obtain⟨o,e,w,u⟩:=qvJ hm p P (by omega) (by omega) hw (fun e q=>by rw [f1]at q;injection q with q;subst q;exact f2)
 rw [f1]at u
 injection u with u
 subst u
 have hdest:=p.dest
 have hv:=qt9 (F:=qm8 m.dest) f1 f2 (qvM (qog f1) f2 ⟨hdest.1,d1⟩)
 have ea:qjx m.c (qnr m).s 0=qjx c ((o.s.toNat:Nat):Int) 0:=by rw [hc,w.cur,qtP w.s.1]
 unfold qnj at mo av|-
 simp only at mo av|-
 rw [ea]at mo av|-
 rw [w.cur]
 generalize chA m.word (qm8 m.dest)=v at hv mo av
 obtain⟨wa,wt⟩:=qvK p h P (by omega) (by omega) w
 have hz:∀y,exI c (qi6 ws (qjx c ((o.s.toNat:Nat):Int) 0) v) y=exI c ws y:=fun y=>by unfold exI szI;rw [qvu hm w.lo.1]
 have w1:=w.dest
 have w2:=w.eo
 have w3:=w.n
 have hso:=p.wg.1.ya
 rw [hc]at hso
 have hl:=p.wg.1.look (by omega) (by omega)
 have h0:=p.wg.1.at_
 have hl64:=p.wg.2.1
 have hd:=qvD h0 hl
 rw [w.cur]at hd
 have ha:w64 (m.yx+1)=m.yx+1:=qiX (by omega) (by omega)
 have hno:=p.ya o w.mem
 have hwo:w64 (m.dest+o.n)=m.dest+o.n:=qiX (by omega) (by omega)
 refine⟨qvy hm s h w.lo hv ⟨hdest.1,by show m.dest<=e0.o;omega⟩ fun k lo hi r hk => ?_, ?_⟩
 ·show m.dest+exI c ws o.s.toNat<=lo\/hi<=m.dest
  rcases wa k lo hi r hk with q|q
  ·exact .inl (by omega)
  ·exact .inr q
 ·unfold qnb
  rw [hwo]
  show PoR c _ ts L' own' (qmR {m with dest:=m.dest+o.n,moved:=w64 (m.moved+1),yx:=w64 (m.yx+1)})
  rw [ha]
  refine qvp ⟨qvz hm s (P.top (by omega)) w.lo hv (.inl (by show m.dest+exI c ws o.s.toNat<=m.top;omega)),qvA hm s (P.cl (by omega)) w.lo hv,fun o2 ho=>⟨(P.recs (by omega) o2 ho).1,qvB hm s (P.recs (by omega) o2 ho).2 (hso o2 ho) w.lo hv rfl mo av⟩,P.waq (by omega),fun x e2 q ht => ?_,fun x e2 q => ?_⟩
  ·rw [hz]
   have ht:e2.o<m.top:=ht
   show e2.o+exI c ws x<=m.dest+o.n\/(Cov c _ (m.ya.drop (m.yx+1).toNat) m.g x e2/\m.dest+o.n<=e2.o)
   rcases qvw hm s w.lo hv q with⟨rfl,rfl⟩|⟨hx,l2⟩
   ·exact .inl (by show m.dest+exI c ws o.s.toNat<=m.dest+o.n;omega)
   ·have r2:=Rg.ob (ts:=ts) x e2 l2
    have h8:=h.len r2
    rcases P.mid (by omega) x e2 l2 ht with z|⟨⟨o2,z1,z2,z3,z4,z5⟩,y⟩
    ·exact .inl (by omega)
    ·rw [hd]at z1
     rcases List.mem_cons.1 z1 with rfl|z1
     ·exact absurd (by omega) hx
     ·refine .inr ⟨⟨o2,z1,z2,z3,z4.trans (hz x).symm,z5⟩, ?_⟩
      rcases wa _ _ _ r2 (fun q=>hx (by injection q))with q|q
      ·omega
      ·omega
  ·rcases qvw hm s w.lo hv q with⟨_,rfl⟩|⟨hx,l2⟩
   ·rfl
   ·cases q2:e2.lk with
    | false=>rfl
    | true =>
      have:=(P.lk x e2 l2 q2).2.2
      rw [w.cur]at this
      exact absurd (by omega) hx
def qvQ (hm:c.may)(t:Tn):Qt c ws (qnn c t ws).2/\∀x:Int,qi5 (qnn c t ws).2 (qjx c x 1)=qi5 ws (qjx c x 1):=by
 have hm':=hm
 unfold Cfg.may at hm'
 have k3:∀v,Qt c ws (qi6 ws 3 v)/\∀x:Int,qi5 (qi6 ws 3 v) (qjx c x 1)=qi5 ws (qjx c x 1):=fun v =>
  ⟨qul hm (by omega) (by omega) (by omega),fun x=>qtq (by unfold qjx;split<;>omega)⟩
 have id:Qt c ws ws/\∀x:Int,qi5 ws (qjx c x 1)=qi5 ws (qjx c x 1):=⟨.refl,fun _=>rfl⟩
 unfold qnn
 split
 ·exact id
 split
 ·exact id
 split
 ·show Qt c ws (if qjh ws 3 t.ep then qi6 ws 3 (w64 (t.ep+1))else ws)/\∀x:Int,qi5 (if qjh ws 3 t.ep then qi6 ws 3 (w64 (t.ep+1))else ws) (qjx c x 1)=qi5 ws (qjx c x 1)
  split
  ·exact k3 _
  ·exact id
 split
 ·exact id
 ·exact id
def qvR (P:PO c ws ts L own m)(hn:m.next=10){k:Int}(hk:k=10\/k=11)(t:Option Tn):PO c ws ts L own {m with next:=k,turn:=t} := by
 have hnl:=qvo P (.inr (by omega))
 refine⟨fun q=>by have q:k=1\/k=2:=q;omega,fun _=>P.top (by omega),fun _=>P.cl (by omega),fun _=>P.recs (by omega),fun q=>by have q:k=3\/k=4:=q;omega,fun q=>by have q:k=4:=q;omega,fun _=>P.waq (by omega),fun _=>P.mid (by omega),fun _ q=>by have q:k<=9:=q;omega,fun _=>P.fin (by omega),fun x e l q=>by rw [hnl x e l]at q;cases q⟩
def qvS (hm:c.may)(p:PI c ws m)(h:OI c ws ts)(P:PO c ws ts L own m)(hn:m.next=11)(hb:qjh ws 0 m.top=true):OI c (qi6 ws 0 m.dest) ts:=by
 have hm':=hm
 unfold Cfg.may at hm'
 have hg:=qts hb
 have q:Qe c ws (qi6 ws 0 m.dest):=quk hm (by omega)
 have w0:qi5 (qi6 ws 0 m.dest) 0=m.dest:=qtr hg.1 hg.2.1
 have w2:qi5 (qi6 ws 0 m.dest) 2=qi5 ws 2:=qtq (by decide)
 have hsz:∀x:Int,qi5 (qi6 ws 0 m.dest) (qjx c x 1)=qi5 ws (qjx c x 1):=fun x=>qtq (by have:=qum hm x 1 (by omega);omega)
 have hz:∀y,exI c (qi6 ws 0 m.dest) y=exI c ws y:=fun y=>by unfold exI szI;rw [hsz]
 obtain⟨f1,f2⟩:=P.fin (by omega)
 have htop:=h.top
 have hdest:=p.dest
 have nocl:∀j lo hi,¬Rg c ws ts (.inr j) lo hi:=fun j lo hi r=>by
  have:=P.cl (by omega) j lo hi r
  have:=(h.inn _ _ _ r).2
  have:=h.len r
  omega
 have was:∀k lo hi,Rg c (qi6 ws 0 m.dest) ts k lo hi->Rg c ws ts k lo hi:=fun k lo hi r=>by
  cases r with
  | ob x e' l =>
    obtain⟨e,h1,h2,_⟩:=qva q l
    rw [hz,h2]
    exact .ob x e h1
  | cl j u f b h1 h2=>exact .cl _ u _ _ h1 h2
 refine⟨fun x e' l => ?_,fun k lo hi r => ?_,fun k k' lo hi lo' hi' r r' hne=>h.waE k k' lo hi lo' hi' (was _ _ _ r) (was _ _ _ r') hne,by omega,fun j t ht a h1 h2 => ?_,by rw [w2];exact h.pend,h.few⟩
 ·obtain⟨e,h1,_,_,_,h5⟩:=qva q l
  rw [h5];exact h.sz x e h1
 ·have r1:=was _ _ _ r
  refine⟨(h.inn _ _ _ r1).1, ?_⟩
  rw [w0]
  cases r1 with
  | ob x e l =>
    have hi:=(h.inn _ _ _ (.ob (ts:=ts) x e l)).2
    have h8:=h.len (.ob (ts:=ts) x e l)
    rcases P.mid (by omega) x e l (by omega)with z|⟨⟨o2,z1,_⟩,_⟩
    ·exact z
    ·rw [List.drop_eq_nil_of_le (by omega)]at z1
     cases z1
  | cl j u f b h1 h2=>exact absurd (.cl _ u _ _ h1 h2) (nocl _ _ _)
 ·have ao:=h.al j t ht a h1 h2
  exact⟨ao.sz,ao.room,fun q=>by rw [hsz];exact ao.size q,ao.cl⟩
def qvT (hm:c.may)(s:SI c ws L own n)(p:PI c ws m)(h:OI c ws ts)(P:PO c ws ts L own m)(s':SI c (qns m ws bs).2.1 L' own' n')(mo:Mono c ws (qns m ws bs).2.1)(av:Av c ws (qns m ws bs).2.1 L L' own own') :
  OI c (qns m ws bs).2.1 ts/\PoR c (qns m ws bs).2.1 ts L' own' (qns m ws bs).1:=by
 have hnx:=p.wg.1.next
 have hn0:=p.wg.2.2
 have hc:=p.cfg
 unfold qns at s' mo av|-
 by_cases h1:m.next=1
 ·rw [if_pos h1]at s' mo av|-
  have P':=qvi s p P (qvj (i:=0) h .refl) mo av
  have hnl:=qvo P' (.inl (by omega))
  have ht:=h.top
  refine⟨h,fun _ => ?_,fun k q=>by cases q⟩
  exact⟨fun _=>P'.ini (.inl h1),fun _=>⟨ht.1,Int.le_refl _,fun k lo hi r => .inl (h.inn _ _ _ r).2⟩,(nl ·),(nl ·),(no2 ·),(nq ·),(nl ·),(nl ·),(nl ·),(nl ·),fun x e l q=>by rw [hnl x e l]at q;cases q⟩
 rw [if_neg h1]at s' mo av|-
 by_cases h2:m.next=2
 ·rw [if_pos h2]at s' mo av|-
  have P':=qvi s p P (qvj (i:=0) h .refl) mo av
  have hnl:=qvo P' (.inl (by omega))
  refine⟨h, ?_⟩
  show PoR c ws ts L' own' (if qi5 ws 2≠0 then qmQ m else onM m 3)
  by_cases g:qi5 ws 2≠0
  ·rw [if_pos g];exact⟨(fun q=>by cases q),fun _ _=>hnl⟩
  ·rw [if_neg g]
   have g0:qi5 ws 2=0:=Classical.byContradiction g
   obtain⟨i1,i2,i3,i4⟩:=P'.ini (.inr h2)
   refine⟨fun _ => ?_,fun k q=>by cases q⟩
   exact⟨(no2 ·),fun _=>P'.top (by omega),fun _ j lo hi r=>absurd r (qvC h g0 j lo hi),(fun _ o ho=>by have ho:o∈m.ya:=ho;rw [i3]at ho;cases ho),fun _=>⟨i1,i2,(fun o ho=>by have ho:o∈m.ya:=ho;rw [i3]at ho;cases ho),fun x e l _ hx=>by have hx:(x:Int)<m.slot:=hx;omega⟩,(nq ·),(nl ·),(nl ·),(nl ·),(nl ·),fun x e l q=>by rw [hnl x e l]at q;cases q⟩
 rw [if_neg h2]at s' mo av|-
 by_cases h3:m.next=3
 ·rw [if_pos h3]at s' mo av|-
  exact⟨h,qvG hm s' p (qvi s p P (qvj (i:=0) h .refl) mo av) h3⟩
 rw [if_neg h3]at s' mo av|-
 by_cases h4:m.next=4
 ·rw [if_pos h4]at s' mo av|-
  exact⟨h,qvH hm s' p h (qvi s p P (qvj (i:=0) h .refl) mo av) h4⟩
 rw [if_neg h4]at s' mo av|-
 by_cases h5:m.next=5
 ·rw [if_pos h5]at s' mo av|-
  exact⟨h,qvF hm s' p h (qvi s p P (qvj (i:=0) h .refl) mo av) h5⟩
 rw [if_neg h5]at s' mo av|-
 by_cases h6:m.next=6
 ·rw [if_pos h6]at s' mo av|-
  exact qvN hm s p h P h6 mo av
 rw [if_neg h6]at s' mo av|-
 by_cases h7:m.next=7
 ·rw [if_pos h7]at s' mo av|-
  have P':=qvi s p P (qvj (i:=0) h .refl) mo av
  exact⟨h,fun _=>qvO P' (by omega) (by omega) (k:=8) (by omega) (by omega),fun k q=>by cases q⟩
 rw [if_neg h7]at s' mo av|-
 by_cases h8:m.next=8
 ·rw [if_pos h8]at s' mo av|-
  have P':=qvi s p P (qvj (i:=0) h .refl) mo av
  refine⟨h,fun _ => ?_,fun k q=>by cases q⟩
  show PO c ws ts L' own' {m with next:=if w64 (m.i+1)<(qnr m).n then 7 else 9,i:=w64 (m.i+1),b:=m.b}
  exact qvO P' (by omega) (by omega) (by split<;>omega) (by split<;>omega)
 rw [if_neg h8]at s' mo av|-
 by_cases h9:m.next=9
 ·rw [if_pos h9]at s' mo av|-
  exact qvP hm s p h P h9 mo av
 rw [if_neg h9]at s' mo av|-
 by_cases h10:m.next=10
 ·rw [if_pos h10]at s' mo av|-
  have mo:Mono c ws (qnn m.c (m.turn.getD ⟨0,0,0⟩) ws).2:=mo
  have av:Av c ws (qnn m.c (m.turn.getD ⟨0,0,0⟩) ws).2 L L' own own':=av
  generalize m.turn.getD ⟨0,0,0⟩=t at mo av
  have tq:=qvQ (ws:=ws) hm t
  rw [hc]at mo av
  have P':=qvi s p P (qvj (i:=0) h tq.1) mo av
  have hnl:=qvo P' (.inr (by omega))
  show OI c (qnn m.c t ws).2 ts/\PoR c (qnn m.c t ws).2 ts L' own' (qnp m t ws).1
  rw [hc]
  refine⟨qvl h tq.1 tq.2, ?_⟩
  unfold qnp
  simp only
  split
  ·exact⟨fun _=>qvR P' h10 (.inl rfl) _,fun k q=>by cases q⟩
  split
  ·exact⟨(fun q=>by cases q),fun _ _=>hnl⟩
  ·exact⟨fun _=>qvR P' h10 (.inr rfl) _,fun k q=>by cases q⟩
 rw [if_neg h10]at s' mo av|-
 have h11:m.next=11:=by omega
 have P2:=qvo P (.inr (by omega))
 show OI c (if qjh ws 0 m.top then qi6 ws 0 m.dest else ws) ts/\PoR c (if qjh ws 0 m.top then qi6 ws 0 m.dest else ws) ts L' own' (qmQ {m with low:=qjh ws 0 m.top})
 by_cases hb:qjh ws 0 m.top=true
 ·rw [if_pos hb]
  refine⟨qvS hm p h P h11 hb,fun q=>(by cases q),fun _ _ x e l => ?_⟩
  have hm':=hm
  unfold Cfg.may at hm'
  obtain⟨e2,h1,_,_,h4,_⟩:=qva (quk (c:=c) (ws:=ws) (k:=0) (v:=m.dest) hm (by omega)) l
  rw [h4];exact P2 x e2 h1
 ·rw [if_neg hb]
  exact⟨h,fun q=>(by cases q),fun _ _=>P2⟩
end
structure WO (c:Cfg)(w:Wst)(n:Nat)(L:List Nat):Prop where
 ws:WS c w n L
 oi:OI c w.ws w.ts
 po:PO c w.ws w.ts L (qub c w.ts) w.m
section
variable {c:Cfg}{ws ws' bs:List Int}{ts ts':List Th}{L L':List Nat}{own own':Nat->Option Nat}{n n' i:Nat}
def qvU (h:qvg c ws):PO c ws ts L own (mc0 c) :=
 ⟨fun _=>⟨rfl,rfl,rfl,rfl⟩,(nl ·),(nl ·),(nl ·),(no2 ·),(nq ·),(nl ·),(nl ·),(nl ·),(nl ·),fun x e l q=>by rw [h x e l]at q;cases q⟩
def qvV {w:Wst}(hm:c.may)(h:WO c w n L)(hn:n<4294967294)(k:Int):∃L',WO c (qrb c w k).1 (n+1) L':=by
 obtain⟨L',a,b,d⟩:=que hm h.ws hn k
 unfold qrb at a b d|-
 split
 ·exact⟨L,h.ws.stay,h.oi,h.po⟩
 ·rename_i h1
  rw [if_neg h1]at a b d
  split
  ·rename_i h2
   rw [if_pos h2]at a b d
   have et:(qq9 c w).ts=w.ts/\(qq9 c w).ws=(qns w.m w.ws w.bs).2.1:=by
    unfold qq9
    cases(qns w.m w.ws w.bs).1.2<;>exact⟨rfl,rfl⟩
   have a:WS c (qq9 c w) (n+1) L':=a
   have b:Mono c w.ws (qq9 c w).ws:=b
   have d:Av c w.ws (qq9 c w).ws L L' (qub c w.ts) (qub c (qq9 c w).ts):=d
   have asi:=a.si
   rw [et.2]at b
   rw [et.1,et.2]at d asi
   obtain⟨o1,o2,o3⟩:=qvT (bs:=w.bs) hm h.ws.si h.ws.pi h.oi h.po asi b d
   refine⟨L',a, ?_, ?_⟩
   ·show OI c (qq9 c w).ws (qq9 c w).ts
    rw [et.1,et.2];exact o1
   ·show PO c (qq9 c w).ws (qq9 c w).ts L' (qub c (qq9 c w).ts) (qq9 c w).m
    rw [et.1,et.2]
    unfold qq9
    cases hz:(qns w.m w.ws w.bs).1.2 with
    | none=>exact o2 hz
    | some r=>exact qvU (o3 r hz)
  ·rename_i h2
   rw [if_neg h2]at a b d
   cases hk:w.ts[k.toNat]? with
   | none=>exact⟨L,h.ws.stay,h.oi,h.po⟩
   | some t =>
     rw [hk]at a b d
     simp only at a b d|-
     by_cases ho:t.ops = []
     ·rw [if_pos ho];exact⟨L,h.ws.stay,h.oi,h.po⟩
     ·rw [if_neg ho]at a b d|-
      have hw:=h.ws
      have hown:qub c w.ts k.toNat=qt3 c t:=by unfold qub;rw [hk]
      obtain⟨t1,t2⟩:=qu3 (bs:=w.bs) hm hw.si (hw.th _ t hk) hown (h.oi.al _ t hk)
      have v:=qvb h.oi hk t2
      have oth:∀(j:Nat) u,j≠k.toNat->w.ts[j]? = some u->TAO c (thS c t w.ws w.bs).2.1 u:=fun j u hj hu x q1 q2=>by
       have mi:=hw.th j u hu q1
       rw [q2]at mi
       have hq:=quS (bs:=w.bs) hm (hw.th _ t hk) hown
       refine(h.oi.al j u hu x q1 q2).qz (i:=k.toNat) (own:=qub c w.ts) hw.si hq hj ?_ mi
       unfold qub
       rw [hu]
       show(if u.nx=2 then qtE c u.m else none)=_
       rw [if_pos q1,q2]
      have o1:=qve hm h.oi hk t2 t1 oth
      exact⟨L',a,o1,qvi hw.si hw.pi h.po v b d⟩
def qvW {c:Cfg}(hm:c.may){k:Nat}(h0:k≠1)(h1:(k:Int)<4+c.T):qi5 (qjJ c) k=0:=by
 unfold Cfg.may at hm
 have hl:((qjJ c).length:Int)=qi2 c:=by rw [qjL];unfold qi2;omega
 unfold qi2 at hl
 unfold qi5
 rw [if_pos ⟨by omega,by omega⟩,show((k:Int)).toNat=k by omega,List.getD_eq_getElem?_getD]
 unfold qjJ
 rw [zzN (Ne.symm h0),qjM c 0 (by unfold qi2;omega)]
 unfold qjI
 rw [if_neg (by omega)]
 rfl
def qvX {c:Cfg}{l:List (Value×List Op4)}{i:Nat}{t:Th}(h:(w0 c l).ts[i]? = some t):t.nx=0:=by
 obtain⟨j,_,rfl⟩:=List.mem_map.1 (List.mem_of_getElem? h)
 rfl
def qvY {c:Cfg}(hm:c.may)(l:List (Value×List Op4)):WO c (w0 c l) 0 (List.range' 0 c.S.toNat):=by
 have hm':=hm
 unfold Cfg.may at hm'
 have nolo:∀x e,¬LO c (w0 c l).ws x e:=fun x e q=>by
  have h1:=q.2.1
  have h2:en c (w0 c l).ws x=some Ent.zero:=quh hm q.1
  rw [h2]at h1
  injection h1 with h1
  subst h1
  have:=q.2.2
  cases this
 have nocl:∀(i:Nat) t,(w0 c l).ts[i]? = some t->clR t=none/\pnB t=false:=fun i t ht=>by
  have:=qvX ht
  exact⟨if_neg (by omega),if_neg (by omega)⟩
 have norg:∀k lo hi,¬Rg c (w0 c l).ws (w0 c l).ts k lo hi:=fun k lo hi r=>by
  cases r with
  | ob x e q=>exact nolo x e q
  | cl j u f b h1 h2=>rw [(nocl j u h1).1]at h2;cases h2
 have z0:qi5 (w0 c l).ws 0=0:=qvW hm (k:=0) (by omega) (by omega)
 have z2:qi5 (w0 c l).ws 2=0:=qvW hm (k:=2) (by omega) (by omega)
 refine⟨qui hm l,⟨fun x e q=>absurd q (nolo x e),fun k lo hi r=>absurd r (norg k lo hi),fun k k' lo hi lo' hi' r _ _=>absurd r (norg k lo hi),by omega,fun i t ht a q => ?_, ?_, ?_⟩,qvU fun x e q=>absurd q (nolo x e)⟩
 ·have:=qvX ht
  omega
 ·rw [z2]
  have:(w0 c l).ts.filter pnB = []:=List.filter_eq_nil_iff.2 fun t ht=>by
   obtain⟨i,hi,he⟩:=List.getElem_of_mem ht
   rw [(nocl i t (by rw [zzG hi,he])).2]
   simp
  unfold qu4
  rw [this]
  rfl
 ·show(tsW c l c.T.toNat).length<=4
  simp [tsW];omega
end
def fdX (c:Cfg)(ws:List Int)(x:Nat)(e:Ent):Fd:=⟨⟨(x:Int),e.o,exI c ws x,decide (0<e.p)⟩,e⟩
section
variable {c:Cfg}{ws ws' bs:List Int}{ts ts':List Th}{L L':List Nat}{own own':Nat->Option Nat}{n n' i:Nat}{m:Mc}
def qvZ (s:SI c ws L own n)(h:OI c ws ts):∀k:Nat,(k:Int)<=c.S->∃l,fdL ws c k=some l/\(∀a∈l,∃x e,LO c ws x e/\x<k/\a=fdX c ws x e)/\(l.Pairwise fun a b=>a.x.s<b.x.s)/\∀x e,LO c ws x e->x<k->fdX c ws x e∈l
 | 0,_=>⟨[],rfl,(fun a ha=>by cases ha),.nil,fun x e _ hx=>absurd hx (Nat.not_lt_zero _)⟩
 | k+1,hk=>by
   obtain⟨l,h1,h2,h3,h4⟩:=qvZ s h k (by omega)
   obtain⟨e,he⟩:=s.valid k (by omega)
   have hf:fdS ws c k=fdO k (qi5 ws (qjx c k 1)) (some e):=by
    unfold fdS
    rw [show qkb (qi5 ws (qjx c k 0))=some e from he]
   have e1:fdL ws c (k+1)=fdA ws c k (some l):=by rw [fdL,h1]
   rw [e1]
   show ∃l',fdB l (fdS ws c k)=some l'/\_
   rw [hf]
   unfold fdO
   simp only
   by_cases hl:e.lv=false
   ·rw [if_pos hl]
    refine⟨l,by simp [fdB],fun a ha => ?_,h3,fun x e2 q hx => ?_⟩
    ·obtain⟨x,e2,a1,a2,a3⟩:=h2 a ha
     exact⟨x,e2,a1,by omega,a3⟩
    ·by_cases hxk:x=k
     ·subst hxk
      have:=q.2.1
      rw [he]at this
      injection this with this
      subst this
      have:=q.2.2
      rw [hl]at this;cases this
     ·exact h4 x e2 q (by omega)
   ·rw [if_neg hl]
    have lo:LO c ws k e:=⟨by omega,he,by simpa using hl⟩
    have hz:=h.sz k e lo
    have hz':1<=qi5 ws (qjx c k 1)/\qi5 ws (qjx c k 1)<=256:=hz
    have hex:qkq (qi5 ws (qjx c k 1))=exI c ws k:=by
     unfold exI qpc szI
     rw [if_pos hz']
    rw [if_pos hz',hex]
    refine⟨l ++ [fdX c ws k e],rfl,fun a ha => ?_, ?_,fun x e2 q hx => ?_⟩
    ·rcases List.mem_append.1 ha with ha|ha
     ·obtain⟨x,e2,a1,a2,a3⟩:=h2 a ha
      exact⟨x,e2,a1,by omega,a3⟩
     ·rw [List.mem_singleton]at ha
      exact⟨k,e,lo,by omega,ha⟩
    ·refine List.pairwise_append.2 ⟨h3,List.pairwise_singleton _ _,fun a ha b hb => ?_⟩
     rw [List.mem_singleton]at hb
     obtain⟨x,e2,a1,a2,a3⟩:=h2 a ha
     rw [a3,hb]
     show(x:Int)<(k:Int)
     omega
    ·by_cases hxk:x=k
     ·subst hxk
      have:=q.2.1
      rw [he]at this
      injection this with this
      subst this
      exact List.mem_append_right _ (List.mem_singleton.2 rfl)
     ·exact List.mem_append_left _ (h4 x e2 q (by omega))
def qv0 (hm:c.may)(s:SI c ws L own n)(h:OI c ws ts):qsk ws c=0/\(∀a∈qsj ws c,∃x e,LO c ws x e/\a=fdX c ws x e)/\((qsj ws c).Pairwise fun a b=>a.x.s<b.x.s)/\∀x e,LO c ws x e->fdX c ws x e∈qsj ws c:=by
 have hm':=hm
 unfold Cfg.may at hm'
 have hp:qsi ws c:=⟨hm,by rw [s.len];unfold qi2;omega⟩
 obtain⟨l,h1,h2,h3,h4⟩:=qvZ s h c.S.toNat (by omega)
 have e1:qsj ws c=l:=by unfold qsj;rw [if_pos hp,h1];rfl
 rw [e1]
 refine⟨by unfold qsk fdE;rw [if_pos hp,h1];rfl,fun a ha => ?_,h3,fun x e q=>h4 x e q (by have:=q.1;omega)⟩
 obtain⟨x,e,a1,_,a3⟩:=h2 a ha
 exact⟨x,e,a1,a3⟩
def qv1 {v:Mv}{is:Bool}{l:List Fd}(h:∀a∈l,(qsA v is a).2=true):qsD v is l=some (l.map fun a=>(qsA v is a).1):=by
 have:∀i,i<=l.length->qsD v is (l.take i)=some ((l.take i).map fun a=>(qsA v is a).1):=by
  intro i
  induction i with
  | zero=>intro _;rfl
  | succ i ih =>
    intro hi
    rw [qsF v is (by omega),ih (by omega),List.take_succ_eq_append_getElem (by omega),List.map_append]
    unfold qsC qsB
    simp only
    rw [if_pos (h _ (List.getElem_mem _))]
    rfl
 have:=this l.length (zzR _)
 rwa [List.take_length]at this
def qv2 (hT:0<=c.T):∀(L:List Nat) (t k:Nat),Chain c ws t L->L.length<=k->qsm ws c k t=L.map (fun x:Nat=>(x:Int))
 | [],t,k,h,_=>by
   have h:t=0:=h
   subst h
   cases k with
   | zero=>rfl
   | succ k=>rw [qsm,if_neg (by omega)];rfl
 | x::r,t,k,h,hk=>by
   obtain⟨h1,h2,t',h3,h4⟩:=h
   subst h1
   cases k with
   | zero=>simp at hk
   | succ k =>
     rw [qsm,if_pos (by omega)]
     have e1:(((x+1:Nat):Int)-1)=(x:Int):=by omega
     have h3:qi5 ws (qjx c (x:Nat) 2)=t':=h3
     rw [e1,h3,qv2 hT r t' k h4 (by simpa using hk)]
     rfl
def qv3:∀{k:Nat} {L:List Nat},L.Nodup->(∀x∈L,x<k)->L.length<=k
 | 0,L,h,hx=>by
   cases L with
   | nil=>exact zzR _
   | cons a r=>exact absurd (hx a List.mem_cons_self) (Nat.not_lt_zero _)
 | k+1,L,h,hx=>by
   by_cases hk:k∈L
   ·have:=qv3 (k:=k) (h.erase k) fun x q=>by
     have q:=(h.mem_erase_iff).1 q
     have:=hx x q.2
     omega
    rw [List.length_erase_of_mem hk]at this
    omega
   ·have:=qv3 (k:=k) h fun x q=>by
     have:=hx x q
     have:x≠k:=fun e=>hk (e▸q)
     omega
    omega
def qv4 (hm:c.may)(s:SI c ws L own n)(h:OI c ws ts):qsK ((qsj ws c).map (·.x.s)) (qso ws c):=by
 have hm':=hm
 unfold Cfg.may at hm'
 obtain⟨t,g,h1,_,h3⟩:=s.head
 have hl:L.length<=c.S.toNat:=qv3 s.nodup fun x hx=>by have:=h3.lt x hx;omega
 have e1:qso ws c=L.map (fun x:Nat=>(x:Int)):=by
  unfold qso
  rw [h1]
  exact qv2 (by omega) L t _ h3 hl
 rw [e1]
 refine fun j v hv => ?_
 rw [List.getElem?_map]at hv
 cases hj:L[j]? with
 | none=>rw [hj]at hv;cases hv
 | some x =>
   rw [hj]at hv
   have hv:some (x:Int)=some v:=hv
   injection hv with hv
   subst hv
   refine⟨fun q => ?_,fun k hk q => ?_⟩
   ·obtain⟨a,ha,hax⟩:=List.mem_map.1 q
    obtain⟨y,e,l,rfl⟩:=(qv0 hm s h).2.1 a ha
    have hax:(y:Int)=(x:Int):=hax
    have:y=x:=by omega
    subst this
    obtain⟨e2,f1,f2⟩:=s.yP y (List.mem_of_getElem? hj)
    have:=l.2.1
    rw [f1]at this
    injection this with this
    subst this
    have:=l.2.2
    rw [f2]at this;cases this
   ·rw [List.getElem?_map]at q
    cases hk2:L[k]? with
    | none=>rw [hk2]at q;cases q
    | some y =>
      rw [hk2]at q
      have q:some (y:Int)=some (x:Int):=q
      injection q with q
      have:y=x:=by omega
      subst this
      obtain⟨k1,k2⟩:=zzS.1 hk2
      obtain⟨j1,j2⟩:=zzS.1 hj
      exact absurd (k2.trans j2.symm) (List.pairwise_iff_getElem.1 s.nodup k j k1 j1 hk)
end
section
variable {c:Cfg}{w:Wst}{L:List Nat}{n:Nat}
def qv5 {x y:Obj}(hx:0<=x.o/\1<=x.n/\x.o+x.n<=8192)(hy:0<=y.o/\1<=y.n/\y.o+y.n<=8192)(h:x.o+x.n<=y.o\/y.o+y.n<=x.o):qrx x y=false:=by
 have w1:IntKind.i64.wrap (y.o-x.o)=y.o-x.o:=qiX (by omega) (by omega)
 have w2:IntKind.i64.wrap (x.o-y.o)=x.o-y.o:=qiX (by omega) (by omega)
 have h1:qrw x y.o=false:=by
  unfold qrw
  rw [w1,Bool.and_eq_false_iff,Bool.and_eq_false_iff]
  simp only [decide_eq_false_iff_not]
  omega
 have h2:qrw y x.o=false:=by
  unfold qrw
  rw [w2,Bool.and_eq_false_iff,Bool.and_eq_false_iff]
  simp only [decide_eq_false_iff_not]
  omega
 unfold qrx
 rw [h1,h2]
 simp
def qv6 {top:Int}{l:List Obj}(h0:0<=top/\top<=4096)(h:∀o∈l,0<=o.o/\1<=o.n/\o.o+o.n<=top)(hp:l.Pairwise fun x y=>x.o+x.n<=y.o\/y.o+y.n<=x.o):okP top l:=by
 refine⟨h0.1,h0.2,fun i k x y hki hx hy => ?_,fun i x hx => ?_⟩
 ·obtain⟨i1,i2⟩:=zzS.1 hx
  obtain⟨k1,k2⟩:=zzS.1 hy
  have a:=List.pairwise_iff_getElem.1 hp k i k1 i1 hki
  rw [i2,k2]at a
  have b:=h x (List.mem_of_getElem? hx)
  have d:=h y (List.mem_of_getElem? hy)
  exact qv5 (by omega) (by omega) (by omega)
 ·have b:=h x (List.mem_of_getElem? hx)
  have e:IntKind.i64.wrap (top-x.n)=top-x.n:=qiX (by omega) (by omega)
  refine⟨b.1,b.2.1,by omega,by rw [e];omega⟩
def qv7 {ws:List Int}{t:Th}(ao:TAO c ws t):thH t=clR t:=by
 unfold thH clR
 split
 ·rename_i h2
  unfold mxH clM
  cases hm:t.m with
  | al a =>
    simp only
    have hc:=(ao a h2 hm).cl
    by_cases hk:7<=a.nx/\a.nx<=10
    ·rw [if_pos hk,if_pos (hc.2 hk)]
    ·rw [if_neg hk,if_neg fun q=>hk (hc.1 q)]
  | fe a=>rfl
  | rd a=>rfl
  | wr a=>rfl
  | pn a=>rfl
  | no=>rfl
 ·rfl
def qv8 (hm:c.may)(h:WO c w n L)(hu:qs4 w.m=true):∃o e,qvI c w.ws w.m o e:=by
 have hu:7<=w.m.next/\w.m.next<=9:=of_decide_eq_true hu
 obtain⟨_,hw,e0,f1,f2,f3⟩:=h.ws.pi.lock hu.1 hu.2
 obtain⟨o,e,a,_⟩:=qvJ hm h.ws.pi h.po (by omega) hu.2 hw (fun e q=>by rw [f1]at q;injection q with q;subst q;exact f2)
 exact⟨o,e,a⟩
def MvK (m:Mc)(x:Nat):Prop:=qs4 m=true/\(qnr m).s=(x:Int)
def Sg (c:Cfg)(w:Wst)(k:Nat ⊕ Nat)(lo hi:Int):Prop:=∃lo0,Rg c w.ws w.ts k lo0 hi/\((lo=lo0/\∀x,k = .inl x->¬MvK w.m x)\/∃x,k = .inl x/\MvK w.m x/\lo=w.m.dest)
def qv9 (hm:c.may)(h:WO c w n L){x:Nat}(k:MvK w.m x){lo hi:Int}(r:Rg c w.ws w.ts (.inl x) lo hi) :
  (∀k lo' hi',Rg c w.ws w.ts k lo' hi'->k≠.inl x->hi<=lo'\/hi'<=w.m.dest)/\w.m.dest<lo:=by
 have hu:7<=w.m.next/\w.m.next<=9:=of_decide_eq_true k.1
 obtain⟨o,e,a⟩:=qv8 hm h k.1
 obtain⟨b,_⟩:=qvK h.ws.pi h.oi h.po (by omega) hu.2 a
 have hx:o.s.toNat=x:=by have:=k.2;rw [a.cur]at this;omega
 have al:=a.lo
 have ad:=a.dest
 rw [hx]at b al
 cases r with
 | ob x e2 l2 =>
   have:=l2.2.1
   rw [al.2.1]at this
   injection this with this
   subst this
   exact⟨b,ad⟩
def qwa (hm:c.may)(h:WO c w n L){k k':Nat ⊕ Nat}{lo hi lo' hi':Int}(r:Sg c w k lo hi)(r':Sg c w k' lo' hi')(hk:k≠k'):hi<=lo'\/hi'<=lo:=by
 obtain⟨l0,r,q⟩:=r
 obtain⟨l1,r',q'⟩:=r'
 rcases q with⟨rfl,q⟩|⟨x,rfl,q,rfl⟩
 ·rcases q' with⟨rfl,q'⟩|⟨y,rfl,q',rfl⟩
  ·exact h.oi.waE _ _ _ _ _ _ r r' hk
  ·rcases(qv9 hm h q' r').1 _ _ _ r hk with z|z
   ·exact .inr z
   ·exact .inl z
 ·rcases q' with⟨rfl,q'⟩|⟨y,rfl,q',rfl⟩
  ·exact(qv9 hm h q r).1 _ _ _ r' (Ne.symm hk)
  ·exfalso
   apply hk
   have a:=q.2
   have b:=q'.2
   congr 1
   omega
def qwb (hm:c.may)(h:WO c w n L){k:Nat ⊕ Nat}{lo hi:Int}(r:Sg c w k lo hi):0<=lo/\lo+8<=hi/\hi<=qi5 w.ws 0:=by
 obtain⟨l0,r,q⟩:=r
 have a:=h.oi.inn _ _ _ r
 have b:=h.oi.len r
 have d:=h.ws.pi.dest
 rcases q with⟨rfl,q⟩|⟨x,rfl,q,rfl⟩
 ·omega
 ·have:=(qv9 hm h q r).2
  omega
def qwc (hm:c.may)(h:WO c w n L){x:Nat}{e:Ent}(l:LO c w.ws x e):(qsA (mvW w.m) (qs4 w.m) (fdX c w.ws x e)).2=true/\
  Sg c w (.inl x) (qsA (mvW w.m) (qs4 w.m) (fdX c w.ws x e)).1.o ((qsA (mvW w.m) (qs4 w.m) (fdX c w.ws x e)).1.o+(qsA (mvW w.m) (qs4 w.m) (fdX c w.ws x e)).1.n):=by
 have r:=Rg.ob (ts:=w.ts) x e l
 have ein:=h.oi.inn _ _ _ r
 have elen:=h.oi.len r
 have etop:=h.oi.top
 have hm':=hm
 unfold Cfg.may at hm'
 unfold qsA
 by_cases hl:(fdX c w.ws x e).e.lk=false
 ·rw [if_pos hl]
  have hl:e.lk=false:=hl
  refine⟨rfl,e.o,r,.inl ⟨rfl,fun y hy k => ?_⟩⟩
  injection hy with hy
  subst hy
  obtain⟨o,e2,a⟩:=qv8 hm h k.1
  have hx:o.s.toNat=x:=by have:=k.2;rw [a.cur]at this;omega
  have al:=a.lo
  rw [hx]at al
  have:=l.2.1
  rw [al.2.1]at this
  injection this with this
  subst this
  -- the one that is moved is locked
  have hu:7<=w.m.next/\w.m.next<=9:=of_decide_eq_true k.1
  obtain⟨_,hw,e0,f1,_,f3⟩:=h.ws.pi.lock hu.1 hu.2
  have hen:en c w.ws x=some e0:=by
   unfold en
   rw [<-k.2,hw];exact f1
  rw [al.2.1]at hen
  injection hen with hen
  subst hen
  rw [hl]at f3;cases f3
 ·rw [if_neg hl]
  have hl:e.lk=true:=by
   cases q:e.lk with
   | true=>rfl
   | false=>exact absurd q hl
  obtain⟨h7,h9,hcs⟩:=h.po.lk x e l hl
  have hu:qs4 w.m=true:=zzT ⟨h7,h9⟩
  have k:MvK w.m x:=⟨hu,hcs⟩
  obtain⟨o,e2,a⟩:=qv8 hm h hu
  have hx:o.s.toNat=x:=by have:=a.cur;rw [this]at hcs;omega
  have al:=a.lo
  have an:=a.n
  rw [hx]at al an
  have:=l.2.1
  rw [al.2.1]at this
  injection this with this
  subst this
  have ad:=a.dest
  have ao:=a.eo
  have hcur:=a.cur
  have hos:o.s=(x:Int):=by rw [<-hcur];exact hcs
  have hdest:=h.ws.pi.dest
  have mv:mvW w.m=⟨(x:Int),e2.o,w.m.dest,exI c w.ws x⟩:=by
   unfold mvW
   rw [hu,if_pos rfl,hcur,hos,<-ao,an]
  rw [mv]
  simp only
  rw [if_neg (by rw [hu];show ¬(true=false\/(x:Int)≠x\/e2.o≠e2.o\/exI c w.ws x≠exI c w.ws x\/e2.o<=w.m.dest);simp;omega)]
  have w1:IntKind.i64.wrap (e2.o+exI c w.ws x)=e2.o+exI c w.ws x:=qiX (by omega) (by omega)
  have w2:IntKind.i64.wrap (e2.o+exI c w.ws x-w.m.dest)=e2.o+exI c w.ws x-w.m.dest:=qiX (by omega) (by omega)
  rw [w1,w2]
  refine⟨rfl, ?_⟩
  show Sg c w (.inl x) w.m.dest (w.m.dest+(e2.o+exI c w.ws x-w.m.dest))
  rw [show w.m.dest+(e2.o+exI c w.ws x-w.m.dest)=e2.o+exI c w.ws x by omega]
  exact⟨e2.o,r,.inr ⟨x,rfl,k,rfl⟩⟩
def qwd {t:Th}{ws:List Int}(ao:TAO c ws t){o:Obj}(h:o∈hoW t):clR t=some (o.o,o.n):=by
 unfold hoW at h
 rw [qv7 ao]at h
 cases hc:clR t with
 | none=>rw [hc]at h;cases h
 | some p =>
   rw [hc]at h
   rw [List.mem_singleton]at h
   subst h
   rfl
def qwe (h:OI c w.ws w.ts){o:Obj}(ho:o∈qs6 w.ts):∃i t,w.ts[i]? = some t/\o∈hoW t/\Rg c w.ws w.ts (.inr i) o.o (o.o+o.n):=by
 unfold qs6 at ho
 obtain⟨l,hl,hol⟩:=List.mem_flatten.1 ho
 obtain⟨t,ht,rfl⟩:=List.mem_map.1 hl
 obtain⟨i,hi,he⟩:=List.getElem_of_mem ht
 have hit:w.ts[i]? = some t:=by rw [zzG hi,he]
 exact⟨i,t,hit,hol,.cl i t _ _ hit (qwd (h.al i t hit) hol)⟩
def qwf {i:Nat}{lo hi:Int}(r:Rg c w.ws w.ts (.inr i) lo hi):Sg c w (.inr i) lo hi:=⟨lo,r,.inl ⟨rfl,fun x q=>by cases q⟩⟩
def qwg (t:Th){R:Obj->Obj->Prop} : (hoW t).Pairwise R:=by
 unfold hoW
 split
 ·exact List.pairwise_singleton _ _
 ·exact .nil
def qwh (h:OI c w.ws w.ts):(qs6 w.ts).Pairwise fun x y=>x.o+x.n<=y.o\/y.o+y.n<=x.o:=by
 unfold qs6
 refine List.pairwise_flatten.2 ⟨fun l hl => ?_, ?_⟩
 ·obtain⟨t,_,rfl⟩:=List.mem_map.1 hl
  exact qwg t
 ·rw [List.pairwise_map,List.pairwise_iff_getElem]
  intro i j hi hj hij x hx y hy
  have a:=qwd (h.al i _ (zzG hi)) hx
  have b:=qwd (h.al j _ (zzG hj)) hy
  refine h.waE (.inr i) (.inr j) _ _ _ _ (.cl i _ _ _ (zzG hi) a) (.cl j _ _ _ (zzG hj) b) fun q => ?_
  injection q with q
  omega
def qwi (hm:c.may)(h:WO c w n L):qsV w.ws c (mvW w.m) (qs4 w.m) (qs6 w.ts)=0:=by
 obtain⟨e1,e2,e3,e4⟩:=qv0 hm h.ws.si h.oi
 have hm':=hm
 unfold Cfg.may at hm'
 have htop:=h.oi.top
 refine qsY e1 (qv1 fun a ha => ?_) ⟨htop.1,htop.2,fun q => ?_,qrD (qv6 (by omega) (fun o ho => ?_) ?_),qv4 hm h.ws.si h.oi⟩
 ·obtain⟨x,e,l,rfl⟩:=e2 a ha
  exact(qwc hm h l).1
 ·obtain⟨q1,q2⟩:=q
  obtain⟨o,e,a⟩:=qv8 hm h q1
  have hu:7<=w.m.next/\w.m.next<=9:=of_decide_eq_true q1
  obtain⟨_,hw,e0,f1,_,f3⟩:=h.ws.pi.lock hu.1 hu.2
  have hen:en c w.ws o.s.toNat=some e0:=by
   unfold en
   rw [qtP a.s.1,<-a.cur,hw];exact f1
  rw [a.lo.2.1]at hen
  injection hen with hen
  subst hen
  have hmem:fdX c w.ws o.s.toNat e∈(qsj w.ws c).filter (fun a=>a.e.lk):=List.mem_filter.2 ⟨e4 _ _ a.lo,f3⟩
  have:=List.length_pos_of_mem hmem
  unfold lkN at q2
  omega
 ·rcases List.mem_append.1 ho with ho|ho
  ·obtain⟨a,ha,rfl⟩:=List.mem_map.1 ho
   obtain⟨x,e,l,rfl⟩:=e2 a ha
   have:=qwb hm h (qwc hm h l).2
   omega
  ·obtain⟨i,t,_,_,r⟩:=qwe h.oi ho
   have:=qwb hm h (qwf r)
   omega
 ·refine List.pairwise_append.2 ⟨?_,qwh h.oi,fun x hx y hy => ?_⟩
  ·rw [List.pairwise_map]
   refine e3.imp_of_mem fun {a b} ha hb hab => ?_
   obtain⟨x,e,l,rfl⟩:=e2 a ha
   obtain⟨y,f,k,rfl⟩:=e2 b hb
   have hab:(x:Int)<(y:Int):=hab
   exact qwa hm h (qwc hm h l).2 (qwc hm h k).2 fun q=>by
    injection q with q
    omega
  ·obtain⟨a,ha,rfl⟩:=List.mem_map.1 hx
   obtain⟨x,e,l,rfl⟩:=e2 a ha
   obtain⟨i,t,_,_,r⟩:=qwe h.oi hy
   exact qwa hm h (qwc hm h l).2 (qwf r) fun q=>by cases q
end
end Go.Proofs.YtlgnnpkdhbhdgaaGreat
