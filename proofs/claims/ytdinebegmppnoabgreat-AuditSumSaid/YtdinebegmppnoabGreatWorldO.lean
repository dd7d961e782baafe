/- Objects: what a thread's machine does to them. Plain. -/
import Derived.Test.YtdinebegmppnoabGreatWorldL
import Derived.Test.YtdinebegmppnoabGreatSoundW
set_option linter.unusedVariables false
set_option linter.unusedSimpArgs false

namespace Go.Proofs.YtdinebegmppnoabGreat
open Go Go.Ir

def szI (c:Cfg)(ws:List Int)(x:Nat):Int:=qi6 ws (qjy c x 1)
def LO (c:Cfg)(ws:List Int)(x:Nat)(e:Ent):Prop:=(x:Int)<c.S∧en c ws x=some e∧e.lv=true
def qr9 (w w':Option Ent):Prop:=w'=w∨∃e',w'=some e'∧(e'.lv=false∨∃e,w=some e∧e.lv=true∧e'.o=e.o∧e'.g=e.g∧e'.lk=e.lk)
def EW (c:Cfg)(ws ws':List Int):Prop:=∀x:Nat,(x:Int)<c.S→qr9 (en c ws x) (en c ws' x)
structure Qt (c:Cfg)(ws ws':List Int):Prop where
 ew:EW c ws ws'
 sz:∀x e,LO c ws x e→szI c ws' x=szI c ws x
 w0:qi6 ws' 0=qi6 ws 0
 w2:qi6 ws' 2=qi6 ws 2
structure Qe (c:Cfg)(ws ws':List Int):Prop where
 ew:EW c ws ws'
 sz:∀x e,LO c ws x e→szI c ws' x=szI c ws x
theorem Qt.qe {c:Cfg}{ws ws':List Int}(q:Qt c ws ws'):Qe c ws ws':=⟨q.ew,q.sz⟩

section
variable {c:Cfg}{ws ws' bs:List Int}{L:List Nat}{own:Nat→Option Nat}{n i:Nat}
theorem Qt.refl:Qt c ws ws:=⟨fun x _ => .inl rfl,fun x e _=>rfl,rfl,rfl⟩
theorem qsa (hm:c.may){k v:Int}(hk:k<4+c.T):Qe c ws (qi7 ws k v):=by
 unfold Cfg.may at hm
 refine⟨fun x hx => .inl ?_,fun x e h => ?_⟩
 ·unfold en
  rw [qrg (by have:=qrl (c:=c) (s:=x) (k:=0) (by omega) hx (by omega) (by omega);omega)]
 ·exact qrg (by have:=qrl (c:=c) (s:=x) (k:=1) (by omega) h.1 (by omega) (by omega);omega)
theorem qsb (hm:c.may){k v:Int}(hk:k<4+c.T)(h0:k≠0)(h2:k≠2):Qt c ws (qi7 ws k v) :=
 ⟨(qsa hm hk).ew,(qsa hm hk).sz,qrg h0,qrg h2⟩
theorem qsc (hm:c.may)(t k:Int)(hk:0≤k∧k≤2):qjy c t k≠0∧qjy c t k≠2:=by
 unfold Cfg.may at hm
 unfold qjy
 split<;>omega
theorem qsd (hm:c.may)(t v:Int):Qt c ws (qi7 ws (qjy c t 2) v):=by
 have g:=qsc hm t 2 (by omega)
 unfold Cfg.may at hm
 refine⟨fun x hx => .inl ?_,fun x e h => ?_,qrg g.1,qrg g.2⟩
 ·unfold en
  rw [qrg (qrj (by omega) hx (by omega) (by omega) (by omega) (by omega))]
 ·exact qrg (qrj (by omega) h.1 (by omega) (by omega) (by omega) (by omega))
theorem qse (hm:c.may){t:Nat}{v:Int}(hd:∀e,¬LO c ws t e):Qt c ws (qi7 ws (qjy c t 1) v):=by
 have g:=qsc hm t 1 (by omega)
 unfold Cfg.may at hm
 refine⟨fun x hx => .inl ?_,fun x e h => ?_,qrg g.1,qrg g.2⟩
 ·unfold en
  rw [qrg (qrj (by omega) hx (by omega) (by omega) (by omega) (by omega))]
 ·refine qrg fun q => ?_
  have:=qrk (c:=c) (s:=x) (t:=t) (k:=1) (by omega) h.1 (by omega) (by omega) q
  have:t=x:=by omega
  subst this
  exact hd e h
theorem qsf (hm:c.may){t w v:Int}(hc:qji ws (qjy c t 0) w=true)(hk:qr9 (qkc w) (qkc v)):Qt c ws (qi7 ws (qjy c t 0) v):=by
 have g:=qsc hm t 0 (by omega)
 unfold Cfg.may at hm
 have hg:=qri hc
 refine⟨fun x hx => ?_,fun x e h=>qrg (qrj (by omega) h.1 (by omega) (by omega) (by omega) (by omega)),qrg g.1,qrg g.2⟩
 unfold en
 by_cases q:qjy c t 0=qjy c x 0
 ·rw [←q,qrh hg.1 hg.2.1,hg.2.2]
  exact hk
 ·rw [qrg q]
  exact .inl rfl
theorem qsg:qkc 0=some Ent.zero:=by decide
theorem qsh {F:Ent→Int×Ent}(hF:∀e:Ent,(F e).1=0→(F e).2.lv=false∨((F e).2.o=e.o∧(F e).2.g=e.g∧(F e).2.lk=e.lk))(w:Int):qr9 (qkc w) (qkc (chE w F).1):=by
 unfold chE
 cases hu:qkc w with
 | none=>exact .inr ⟨_,qsg,.inl rfl⟩
 | some e =>
   simp only
   by_cases h1:e.lv=true
   ·rw [if_pos h1]
    by_cases h2:(F e).1=0
    ·rw [if_pos h2]
     by_cases h3:(F e).2.may
     ·rw [if_pos h3]
      refine .inr ⟨_,qkg h3, ?_⟩
      rcases hF e h2 with q|q
      ·exact .inl q
      ·exact .inr ⟨e,rfl,h1,q⟩
     ·rw [if_neg h3];exact .inr ⟨_,qsg,.inl rfl⟩
    ·rw [if_neg h2];exact .inr ⟨_,qsg,.inl rfl⟩
   ·rw [if_neg h1];exact .inr ⟨_,qsg,.inl rfl⟩
theorem qsi (w:Int):qr9 (qkc w) (qkc (chE w qob).1):=qsh (fun e h=>by
 unfold qob at h⊢
 split
 ·rename_i q;rw [if_pos q]at h;simp at h
 ·exact .inl rfl) w
theorem qsj (w b:Int):qr9 (qkc w) (qkc (chE w (qmt b)).1):=qsh (fun e h=>by rw [qrI h];exact .inr ⟨rfl,rfl,rfl⟩) w
theorem qsk (w:Int)(un:Bool):qr9 (qkc w) (qkc (chE w (qoL un)).1):=qsh (fun e h=>by
 refine .inr ?_
 cases un with
 | true =>
   have h:(qms e).1=0:=h
   show(qms e).2.o=e.o∧(qms e).2.g=e.g∧(qms e).2.lk=e.lk
   unfold qms
   split<;>exact⟨rfl,rfl,rfl⟩
 | false =>
   show(qmr e).2.o=e.o∧(qmr e).2.g=e.g∧(qmr e).2.lk=e.lk
   unfold qmr
   repeat' split
   all_goals exact⟨rfl,rfl,rfl⟩) w
theorem qsl (hm:c.may)(s:Sk):Qt c ws (qnM c s ws).2.1:=by
 have hm':=hm
 unfold Cfg.may at hm'
 unfold qnM
 repeat' split
 all_goals first|exact Qt.refl|exact qsb hm (by omega) (by omega) (by omega)
theorem qsm (hm:c.may)(s:Sk):Qt c ws (qnN c s ws).2.1:=by
 have hm':=hm
 unfold Cfg.may at hm'
 unfold qnN
 repeat' split
 all_goals first|exact Qt.refl|exact qsb hm (by omega) (by omega) (by omega)|exact qsd hm _ _
theorem qsn (hm:c.may)(s:Fe):Qt c ws (feS c s ws).2.1:=by
 unfold feS
 split
 ·exact Qt.refl
 split
 ·split<;>exact Qt.refl
 split
 ·split
  ·rename_i hc
   split<;>exact qsf hm hc (qsi _)
  ·exact Qt.refl
 ·have:=qsm (ws:=ws) hm s.p
  unfold qoX
  split<;>exact this
theorem qso (hm:c.may)(s:Wr):Qt c ws (wrS c s ws bs).2.1:=by
 unfold wrS
 split
 ·split<;>exact Qt.refl
 split
 ·split
  ·rename_i hc;exact qsf hm hc (qsj _ _)
  ·exact Qt.refl
 split
 ·split<;>exact Qt.refl
 split
 ·exact Qt.refl
 split
 ·exact Qt.refl
 split
 ·split
  ·exact Qt.refl
  ·split
   ·rename_i hc;exact qsf hm hc (qsj _ _)
   ·exact Qt.refl
 split<;>exact Qt.refl
theorem qsp (hm:c.may){s:Pn}(h:PnJ c s):Qt c ws (pnS c s ws).2.1:=by
 unfold pnS
 by_cases h0:s.nx=0
 ·rw [if_pos h0];exact Qt.refl
 rw [if_neg h0]
 by_cases h1:s.nx=1
 ·rw [if_pos h1];split<;>exact Qt.refl
 rw [if_neg h1]
 split
 ·rename_i hc
  show Qt c ws (qi7 ws (pnG c s) s.to)
  rw [(h.to h0 h1).1]
  exact qsf hm hc (qsk _ _)
 ·exact Qt.refl

structure AO (c:Cfg)(ws:List Int)(a:Al):Prop where
 sz:2≤a.nx→a.nx≤10→1≤a.n∧a.n≤256
 room:a.nx=5→0≤a.f∧a.f+qo6 a.n≤c.A
 size:a.nx=9∨a.nx=10→qi6 ws (qjy c a.slot 1)=a.n
 cl:a.cl=true↔(7≤a.nx∧a.nx≤10)
def pnA (a:Al):Prop:=3≤a.nx∧a.nx≤12
def clA (a:Al):Prop:=7≤a.nx∧a.nx≤10
inductive AlK (c:Cfg)(ws:List Int)(own:Nat→Option Nat)(i:Nat)(a a':Al)(ws':List Int):Prop
 | quiet (q:Qt c ws ws') (p:pnA a'↔pnA a) (k:clA a'→clA a∧a'.f=a.f)
 | up (q:Qe c ws ws') (w0:qi6 ws' 0=qi6 ws 0) (p:¬pnA a) (p':pnA a') (k:¬clA a') (w2:qi6 ws' 2=w64 (qi6 ws 2+1))
 | down (q:Qe c ws ws') (w0:qi6 ws' 0=qi6 ws 0) (p:pnA a) (p':¬pnA a') (k:¬clA a') (w2:qi6 ws' 2=w64 (qi6 ws 2 + -1))
 | claim (q:Qe c ws ws') (w2:qi6 ws' 2=qi6 ws 2) (p:pnA a) (p':pnA a') (k:clA a') (f:a'.f=qi6 ws 0) (r:0≤a'.f∧a'.f+qo6 a'.n≤c.A) (w0:qi6 ws' 0=a'.f+qo6 a'.n)
 | publ (x:Nat) (g:Int) (ho:own i=some x) (he:en c ws' x=some ⟨a.f,g,0,0,false,true⟩) (hs:szI c ws' x=a.n) (hy:∀y:Nat,(y:Int)<c.S→y≠x→en c ws' y=en c ws y) (sz:∀x:Nat,szI c ws' x=szI c ws x) (w0:qi6 ws' 0=qi6 ws 0) (w2:qi6 ws' 2=qi6 ws 2) (p:pnA a) (p':pnA a') (k:clA a) (k':¬clA a')
end
end Go.Proofs.YtdinebegmppnoabGreat

/- Objects: an Alloc's step. Plain. -/
namespace Go.Proofs.YtdinebegmppnoabGreat
open Go Go.Ir

section
variable {c:Cfg}{ws bs:List Int}{L:List Nat}{own:Nat→Option Nat}{n i:Nat}
theorem nq {P:Prop}{a b:Int}(q:a=b)(h:(a==b)=false:=by rfl):P:=absurd q (fun e=>by rw [e,beq_self_eq_true]at h;cases h)
theorem nl {P:Prop}{a b:Int}(q:a≤b)(h:decide (a≤b)=false:=by rfl):P:=absurd q (of_decide_eq_false h)
theorem no2 {P:Prop}{a b d:Int}(q:a=b∨a=d)(h:(a==b||a==d)=false:=by rfl):P:=by
 rw [Bool.or_eq_false_iff]at h
 rcases q with q|q
 ·exact nq q h.1
 ·exact nq q h.2
theorem qsq {n:Int}(h:qo6 n≠0):1≤n∧n≤256:=by
 unfold qo6 at h
 split at h
 ·assumption
 ·exact absurd rfl h
theorem qsr {a:Al}{ws:List Int}(h:a.nx<2∨10<a.nx)(hc:a.cl=false):AO c ws a :=
 ⟨fun _ _=>by omega,fun _=>by omega,fun _=>by omega,⟨(fun q=>by rw [hc]at q;cases q),fun q=>by omega⟩⟩
theorem qss {a:Al}{ws:List Int}(h:a.nx=2∨a.nx=3∨a.nx=4∨a.nx=6)(hc:a.cl=false)(hn:1≤a.n∧a.n≤256):AO c ws a :=
 ⟨fun _ _=>hn,fun _=>by omega,fun _=>by omega,⟨(fun q=>by rw [hc]at q;cases q),fun q=>by omega⟩⟩
theorem qst {a:Al}(h:AO c ws a)(hk:¬(7≤a.nx∧a.nx≤10)):a.cl=false:=by
 cases q:a.cl with
 | false=>rfl
 | true=>exact absurd (h.cl.1 q) hk
theorem qsu {a:Al}(h:AO c ws a)(hk:7≤a.nx∧a.nx≤10):a.cl=true:=h.cl.2 hk

theorem qsv (hm:c.may)(s:SI c ws L own n){a:Al}(h:AI c ws a)(ao:AO c ws a)(ho:own i=qru c (.al a)) :
  AO c (alS c a ws bs).2.1 (alS c a ws bs).1∧(alS c a ws bs).1.n=a.n∧AlK c ws own i a (alS c a ws bs).1 (alS c a ws bs).2.1:=by
 have hm':=hm
 unfold Cfg.may at hm'
 have hnx:=h.nx
 unfold alS
 by_cases h0:a.nx=0
 ·rw [if_pos h0]
  exact⟨ao,rfl,.quiet .refl Iff.rfl fun k=>⟨k,rfl⟩⟩
 rw [if_neg h0]
 by_cases h1:a.nx=1
 ·rw [if_pos h1]
  have hc:=qst ao (by omega)
  by_cases hb:qo6 a.n=0
  ·rw [if_pos hb]
   exact⟨qsr (.inl (by show(0:Int)<2;decide)) hc,rfl,.quiet .refl (by unfold pnA;simp only;omega) fun k=>by unfold clA at k;simp only at k;omega⟩
  ·rw [if_neg hb]
   exact⟨qss (.inl rfl) hc (qsq hb),rfl,.quiet .refl (by unfold pnA;simp only;omega) fun k=>by unfold clA at k;simp only at k;omega⟩
 rw [if_neg h1]
 by_cases h2:a.nx=2
 ·rw [if_pos h2]
  have hc:=qst ao (by omega)
  have hn:=ao.sz (by omega) (by omega)
  by_cases hb:qji ws 2 a.seen=true
  ·rw [if_pos hb]
   have hg:=qri hb
   refine⟨qss (.inr (.inl rfl)) hc hn,rfl,.up (qsa hm (by omega)) (qrg (by decide)) (by unfold pnA;omega) (by unfold pnA;simp only;omega) (by unfold clA;simp only;omega) ?_⟩
   show qi6 (qi7 ws 2 (w64 (a.seen+1))) 2=_
   rw [qrh hg.1 hg.2.1,hg.2.2]
  ·rw [if_neg hb]
   exact⟨qsr (.inl (by show(1:Int)<2;decide)) hc,rfl,.quiet .refl (by unfold pnA;simp only;omega) fun k=>by unfold clA at k;simp only at k;omega⟩
 rw [if_neg h2]
 by_cases h3:a.nx=3
 ·rw [if_pos h3]
  have hc:=qst ao (by omega)
  have hn:=ao.sz (by omega) (by omega)
  have hq:=qsl (c:=c) (ws:=ws) hm a.p
  show AO c (qo9 a (qnM c a.p ws)).2 (qo9 a (qnM c a.p ws)).1∧(qo9 a (qnM c a.p ws)).1.n=a.n∧AlK c ws own i a (qo9 a (qnM c a.p ws)).1 (qo9 a (qnM c a.p ws)).2
  unfold qo9
  split
  ·split
   ·exact⟨qsr (.inr (by show(10:Int)<11;decide)) hc,rfl,.quiet hq (by unfold pnA;simp only;omega) fun k=>by unfold clA at k;simp only at k;omega⟩
   ·exact⟨qss (.inr (.inr (.inl rfl))) hc hn,rfl,.quiet hq (by unfold pnA;simp only;omega) fun k=>by unfold clA at k;simp only at k;omega⟩
  ·exact⟨qss (.inr (.inl h3)) hc hn,rfl,.quiet hq Iff.rfl fun k=>by have k:7≤a.nx∧a.nx≤10:=k;omega⟩
 rw [if_neg h3]
 by_cases h4:a.nx=4
 ·rw [if_pos h4]
  have hc:=qst ao (by omega)
  have hn:=ao.sz (by omega) (by omega)
  have hbr:=qrB a.n
  by_cases hf:qi6 ws 0<0∨w64 (c.A-qo6 a.n)<qi6 ws 0
  ·rw [if_pos hf]
   exact⟨qss (.inr (.inr (.inr rfl))) hc hn,rfl,.quiet .refl (by unfold pnA;simp only;omega) fun k=>by unfold clA at k;simp only at k;omega⟩
  ·rw [if_neg hf]
   have hw:w64 (c.A-qo6 a.n)=c.A-qo6 a.n:=qiY (by omega) (by omega)
   rw [hw]at hf
   exact⟨⟨fun _ _=>hn,fun _=>by show 0≤qi6 ws 0∧qi6 ws 0+qo6 a.n≤c.A;omega,fun q=>by simp only at q;omega,⟨(fun q=>by have q:a.cl=true:=q;rw [hc]at q;cases q),fun q=>by have q:7≤(5:Int)∧(5:Int)≤10:=q;omega⟩⟩,rfl,.quiet .refl (by unfold pnA;simp only;omega) fun k=>by unfold clA at k;simp only at k;omega⟩
 rw [if_neg h4]
 by_cases h5:a.nx=5
 ·rw [if_pos h5]
  have hc:=qst ao (by omega)
  have hn:=ao.sz (by omega) (by omega)
  have hr:=ao.room h5
  have hbr:=qrB a.n
  by_cases hb:qji ws 0 a.f=true
  ·rw [if_pos hb]
   have hg:=qri hb
   refine⟨⟨fun _ _=>hn,fun q=>by simp only at q;omega,fun q=>by simp only at q;omega,⟨fun _=>by simp only;omega,fun _=>rfl⟩⟩,rfl,.claim (qsa hm (by omega)) (qrg (by decide)) (by unfold pnA;omega) (by unfold pnA;simp only;omega) (by unfold clA;simp only;omega) hg.2.2.symm hr ?_⟩
   show qi6 (qi7 ws 0 (w64 (a.f+qo6 a.n))) 0=a.f+qo6 a.n
   rw [qrh hg.1 hg.2.1]
   exact qiY (by omega) (by omega)
  ·rw [if_neg hb]
   exact⟨qss (.inr (.inr (.inl rfl))) hc hn,rfl,.quiet .refl (by unfold pnA;simp only;omega) fun k=>by unfold clA at k;simp only at k;omega⟩
 rw [if_neg h5]
 by_cases h6:a.nx=6
 ·rw [if_pos h6]
  have hc:=qst ao (by omega)
  have hn:=ao.sz (by omega) (by omega)
  have hq:=qsm (c:=c) (ws:=ws) hm a.q
  show AO c (qpa a (qnN c a.q ws)).2 (qpa a (qnN c a.q ws)).1∧(qpa a (qnN c a.q ws)).1.n=a.n∧AlK c ws own i a (qpa a (qnN c a.q ws)).1 (qpa a (qnN c a.q ws)).2
  unfold qpa
  split
  ·exact⟨qsr (.inr (by show(10:Int)<11;decide)) hc,rfl,.quiet hq (by unfold pnA;simp only;omega) fun k=>by unfold clA at k;simp only at k;omega⟩
  ·exact⟨qss (.inr (.inr (.inr h6))) hc hn,rfl,.quiet hq Iff.rfl fun k=>by have k:7≤a.nx∧a.nx≤10:=k;omega⟩
 rw [if_neg h6]
 by_cases h7:a.nx=7
 ·rw [if_pos h7]
  have hc:=qsu ao (by omega)
  have hn:=ao.sz (by omega) (by omega)
  split
  ·exact⟨⟨fun _ _=>hn,fun q=>by simp only at q;omega,fun q=>by simp only at q;omega,⟨fun _=>by simp only;omega,fun _=>hc⟩⟩,rfl,.quiet .refl (by unfold pnA;simp only;omega) fun k=>⟨by unfold clA;omega,rfl⟩⟩
  ·exact⟨⟨fun _ _=>hn,fun q=>by simp only at q;omega,fun q=>by simp only at q;omega,⟨fun _=>by simp only;omega,fun _=>hc⟩⟩,rfl,.quiet .refl Iff.rfl fun k=>⟨by unfold clA;omega,rfl⟩⟩
 rw [if_neg h7]
 have hown:∀q:4≤a.nx∧a.nx≤10,own i=some a.slot.toNat:=fun q=>ho.trans (if_pos q)
 by_cases h8:a.nx=8
 ·rw [if_pos h8]
  have hc:=qsu ao (by omega)
  have hn:=ao.sz (by omega) (by omega)
  have hs:=h.slot (by omega) (by omega)
  have o1:=hown (by omega)
  obtain⟨hx,_,y,y1,y2⟩:=s.ow i _ o1
  have si:=qrr s hm hx (k:=1) (by omega)
  have sn:((a.slot.toNat:Nat):Int)=a.slot:=by omega
  have hq:=qse (ws:=ws) hm (t:=a.slot.toNat) (v:=a.n) (fun e he=>by
   have:=he.2.1
   rw [y1]at this
   injection this with this
   subst this
   have:=he.2.2
   rw [y2]at this
   cases this)
  rw [sn]at hq si
  exact⟨⟨fun _ _=>hn,fun q=>by simp only at q;omega,fun _=>qrh (by omega) si.2,⟨fun _=>by simp only;omega,fun _=>hc⟩⟩,rfl,.quiet hq (by unfold pnA;simp only;omega) fun k=>⟨by unfold clA;omega,rfl⟩⟩
 rw [if_neg h8]
 by_cases h9:a.nx=9
 ·rw [if_pos h9]
  have hc:=qsu ao (by omega)
  have hn:=ao.sz (by omega) (by omega)
  have hz:=ao.size (.inl h9)
  have e:(qpb a (qkc (qi6 ws (qjy c a.slot 0)))).nx=10∧(qpb a (qkc (qi6 ws (qjy c a.slot 0)))).n=a.n∧(qpb a (qkc (qi6 ws (qjy c a.slot 0)))).f=a.f∧(qpb a (qkc (qi6 ws (qjy c a.slot 0)))).cl=a.cl∧(qpb a (qkc (qi6 ws (qjy c a.slot 0)))).slot=a.slot:=by
   unfold qpb
   repeat' split
   all_goals exact⟨rfl,rfl,rfl,rfl,rfl⟩
  generalize qpb a (qkc (qi6 ws (qjy c a.slot 0)))=a' at e
  obtain⟨e1,e2,e3,e4,e5⟩:=e
  exact⟨⟨fun _ _=>by show 1≤a'.n∧_;rw [e2];exact hn,fun q=>by have q:a'.nx=5:=q;omega,fun _=>by show qi6 ws (qjy c a'.slot 1)=a'.n;rw [e5,e2];exact hz,⟨fun _=>by show 7≤a'.nx∧a'.nx≤10;omega,fun _=>e4.trans hc⟩⟩,e2,.quiet .refl (by unfold pnA;simp only;omega) fun k=>⟨by unfold clA;omega,e3⟩⟩
 rw [if_neg h9]
 by_cases ha:a.nx=10
 ·rw [if_pos ha]
  have hs:=h.slot (by omega) (by omega)
  have o1:=hown (by omega)
  have hx:=(s.ow i _ o1).1
  have si:=qrr s hm hx (k:=0) (by omega)
  have sn:((a.slot.toNat:Nat):Int)=a.slot:=by omega
  have hk0:a.kept=0:=h.kept (by omega) (by omega) (by omega)
  have hz:=ao.size (.inr ha)
  obtain⟨e,q1,q2,q3,q4,q5⟩:=h.pub ha
  have g:=qsc hm a.slot 0 (by omega)
  refine⟨qsr (.inr (by show(10:Int)<11;decide)) rfl,rfl,.publ a.slot.toNat e.g o1 ?_ ?_ (fun y hy hyx => ?_) (fun y => ?_) ?_ ?_ (by unfold pnA;omega) (by unfold pnA;simp only;omega) (by unfold clA;omega) (by unfold clA;simp only;omega)⟩
  ·show en c (if a.kept=0 then qi7 ws (qjy c a.slot 0) a.word else ws) _=_
   rw [if_pos hk0]
   unfold en
   rw [sn]at si⊢
   rw [qrh (by omega) si.2,q4]
   exact qkg q5
  ·show szI c (if a.kept=0 then qi7 ws (qjy c a.slot 0) a.word else ws) _=_
   rw [if_pos hk0]
   unfold szI
   rw [sn,qrg (qrj hs.1 hs.2 (by omega) (by omega) (by omega) (by omega))]
   exact hz
  ·show en c (if a.kept=0 then qi7 ws (qjy c a.slot 0) a.word else ws) _=_
   rw [if_pos hk0]
   unfold en
   rw [qrg fun q=>hyx (by
    have:=qrk (c:=c) (s:=y) (t:=a.slot) (k:=0) (by omega) hy (by omega) (by omega) q
    omega)]
  ·show szI c (if a.kept=0 then qi7 ws (qjy c a.slot 0) a.word else ws) _=_
   rw [if_pos hk0]
   unfold szI
   refine qrg fun q => ?_
   unfold qjy at q
   rw [if_pos hs]at q
   split at q<;>omega
  ·show qi6 (if a.kept=0 then qi7 ws (qjy c a.slot 0) a.word else ws) 0=_
   rw [if_pos hk0]
   exact qrg g.1
  ·show qi6 (if a.kept=0 then qi7 ws (qjy c a.slot 0) a.word else ws) 2=_
   rw [if_pos hk0]
   exact qrg g.2
 rw [if_neg ha]
 have hc:=qst ao (by omega)
 by_cases hb:a.nx=11
 ·rw [if_pos hb]
  exact⟨qsr (.inr (by show(10:Int)<12;decide)) hc,rfl,.quiet .refl (by unfold pnA;simp only;omega) fun k=>by unfold clA at k;simp only at k;omega⟩
 rw [if_neg hb]
 have h12:a.nx=12:=by omega
 by_cases hcs:qji ws 2 a.seen=true
 ·rw [if_pos hcs]
  have hg:=qri hcs
  refine⟨qsr (.inl (by show(0:Int)<2;decide)) hc,rfl,.down (qsa hm (by omega)) (qrg (by decide)) (by unfold pnA;omega) (by unfold pnA;simp only;omega) (by unfold clA;simp only;omega) ?_⟩
  show qi6 (qi7 ws 2 (w64 (a.seen + -1))) 2=_
  rw [qrh hg.1 hg.2.1,hg.2.2]
 ·rw [if_neg hcs]
  exact⟨qsr (.inr (by show(10:Int)<11;decide)) hc,rfl,.quiet .refl (by unfold pnA;simp only;omega) fun k=>by unfold clA at k;simp only at k;omega⟩
end
end Go.Proofs.YtdinebegmppnoabGreat

/- Objects: a thread's step. Plain. -/
namespace Go.Proofs.YtdinebegmppnoabGreat
open Go Go.Ir

def Qz (c:Cfg)(o:Option Nat)(ws ws':List Int):Prop:=∀x:Nat,(x:Int)<c.S→o≠some x→szI c ws' x=szI c ws x
def pnM:Mx→Bool
 | .al a=>decide (3≤a.nx∧a.nx≤12)
 | _=>false
def clM:Mx→Option (Int×Int)
 | .al a=>if 7≤a.nx∧a.nx≤10 then some (a.f,qo6 a.n)else none
 | _=>none
def pnB (t:Th):Bool:=if t.nx=2 then pnM t.m else false
def clR (t:Th):Option (Int×Int):=if t.nx=2 then clM t.m else none
def TAO (c:Cfg)(ws:List Int)(t:Th):Prop:=∀a,t.nx=2→t.m = .al a→AO c ws a
inductive TK (c:Cfg)(ws:List Int)(own:Nat→Option Nat)(i:Nat)(p p':Bool)(k k':Option (Int×Int))(ws':List Int):Prop
 | quiet (q:Qt c ws ws') (hp:p'=p) (hk:k'=none∨k'=k)
 | up (q:Qe c ws ws') (w0:qi6 ws' 0=qi6 ws 0) (hp:p=false) (hp':p'=true) (hk:k'=none) (w2:qi6 ws' 2=w64 (qi6 ws 2+1))
 | down (q:Qe c ws ws') (w0:qi6 ws' 0=qi6 ws 0) (hp:p=true) (hp':p'=false) (hk:k'=none) (w2:qi6 ws' 2=w64 (qi6 ws 2 + -1))
 | claim (q:Qe c ws ws') (w2:qi6 ws' 2=qi6 ws 2) (hp:p=true) (hp':p'=true) (f b:Int) (hk:k'=some (f,b)) (hf:f=qi6 ws 0) (h0:0≤f) (hb:8≤b∧b≤256) (hA:f+b≤c.A) (w0:qi6 ws' 0=f+b)
 | publ (x:Nat) (f g z:Int) (ho:own i=some x) (he:en c ws' x=some ⟨f,g,0,0,false,true⟩) (hs:szI c ws' x=z) (hz:1≤z∧z≤256) (hy:∀y:Nat,(y:Int)<c.S→y≠x→en c ws' y=en c ws y) (sz:∀x:Nat,szI c ws' x=szI c ws x) (w0:qi6 ws' 0=qi6 ws 0) (w2:qi6 ws' 2=qi6 ws 2) (hp:p=true) (hp':p'=true) (hk:k=some (f,qo6 z)) (hk':k'=none)

section
variable {c:Cfg}{ws ws' bs:List Int}{L:List Nat}{own:Nat→Option Nat}{n i:Nat}{o:Option Nat}
theorem Qz.refl:Qz c o ws ws:=fun _ _ _=>rfl
theorem qsw (hm:c.may){k v:Int}(hk:k<4+c.T):Qz c o ws (qi7 ws k v):=fun x hx _=>by
 unfold Cfg.may at hm
 exact qrg (by have:=qrl (c:=c) (s:=x) (k:=1) (by omega) hx (by omega) (by omega);omega)
theorem qsx (hm:c.may){t j v:Int}(hj:j=0∨j=2):Qz c o ws (qi7 ws (qjy c t j) v):=fun x hx _=>by
 unfold Cfg.may at hm
 exact qrg (qrj (by omega) hx (by omega) (by omega) (by omega) (by omega))
theorem qsy (hm:c.may)(s:Sk):Qz c o ws (qnM c s ws).2.1:=by
 have hm':=hm
 unfold Cfg.may at hm'
 unfold qnM
 repeat' split
 all_goals first|exact Qz.refl|exact qsw hm (by omega)
theorem qsz (hm:c.may)(s:Sk):Qz c o ws (qnN c s ws).2.1:=by
 have hm':=hm
 unfold Cfg.may at hm'
 unfold qnN
 repeat' split
 all_goals first|exact Qz.refl|exact qsw hm (by omega)|exact qsx hm (.inr rfl)
theorem qsA (hm:c.may)(s:Fe):Qz c o ws (feS c s ws).2.1:=by
 unfold feS
 split
 ·exact Qz.refl
 split
 ·split<;>exact Qz.refl
 split
 ·split
  ·split<;>exact qsx hm (.inl rfl)
  ·exact Qz.refl
 ·have:=qsz (o:=o) (ws:=ws) hm s.p
  unfold qoX
  split<;>exact this
theorem qsB (hm:c.may)(s:Wr):Qz c o ws (wrS c s ws bs).2.1:=by
 unfold wrS
 split
 ·split<;>exact Qz.refl
 split
 ·split
  ·exact qsx hm (.inl rfl)
  ·exact Qz.refl
 split
 ·split<;>exact Qz.refl
 split
 ·exact Qz.refl
 split
 ·exact Qz.refl
 split
 ·split
  ·exact Qz.refl
  ·split
   ·exact qsx hm (.inl rfl)
   ·exact Qz.refl
 split<;>exact Qz.refl
theorem qsC (hm:c.may)(s:Pn):Qz c o ws (pnS c s ws).2.1:=by
 unfold pnS
 split
 ·exact Qz.refl
 split
 ·split<;>exact Qz.refl
 split
 ·exact qsx hm (.inl rfl)
 ·exact Qz.refl
theorem qsD (hm:c.may){a:Al}(h:AI c ws a)(ho:own i=qru c (.al a)):Qz c (own i) ws (alS c a ws bs).2.1:=by
 have hm':=hm
 unfold Cfg.may at hm'
 have hnx:=h.nx
 unfold alS
 by_cases h0:a.nx=0
 ·rw [if_pos h0];exact Qz.refl
 rw [if_neg h0]
 by_cases h1:a.nx=1
 ·rw [if_pos h1];split<;>exact Qz.refl
 rw [if_neg h1]
 by_cases h2:a.nx=2
 ·rw [if_pos h2];split
  ·exact qsw hm (by omega)
  ·exact Qz.refl
 rw [if_neg h2]
 by_cases h3:a.nx=3
 ·rw [if_pos h3]
  have hq:=qsy (c:=c) (ws:=ws) (o:=own i) hm a.p
  show Qz c (own i) ws (qo9 a (qnM c a.p ws)).2
  unfold qo9
  repeat' split
  all_goals exact hq
 rw [if_neg h3]
 by_cases h4:a.nx=4
 ·rw [if_pos h4];split<;>exact Qz.refl
 rw [if_neg h4]
 by_cases h5:a.nx=5
 ·rw [if_pos h5];split
  ·exact qsw hm (by omega)
  ·exact Qz.refl
 rw [if_neg h5]
 by_cases h6:a.nx=6
 ·rw [if_pos h6]
  have hq:=qsz (c:=c) (ws:=ws) (o:=own i) hm a.q
  show Qz c (own i) ws (qpa a (qnN c a.q ws)).2
  unfold qpa
  repeat' split
  all_goals exact hq
 rw [if_neg h6]
 by_cases h7:a.nx=7
 ·rw [if_pos h7];split<;>exact Qz.refl
 rw [if_neg h7]
 by_cases h8:a.nx=8
 ·rw [if_pos h8]
  have hs:=h.slot (by omega) (by omega)
  have o1:own i=some a.slot.toNat:=ho.trans (if_pos (by omega))
  refine fun x hx hn=>qrg fun q=>hn ?_
  have:=qrk (c:=c) (s:=x) (t:=a.slot) (k:=1) (by omega) hx (by omega) (by omega) q
  rw [o1,this];rfl
 rw [if_neg h8]
 by_cases h9:a.nx=9
 ·rw [if_pos h9];exact Qz.refl
 rw [if_neg h9]
 by_cases h10:a.nx=10
 ·rw [if_pos h10]
  show Qz c (own i) ws (if a.kept=0 then _ else _)
  split
  ·exact qsx hm (.inl rfl)
  ·exact Qz.refl
 rw [if_neg h10]
 by_cases h11:a.nx=11
 ·rw [if_pos h11];exact Qz.refl
 rw [if_neg h11]
 split
 ·exact qsw hm (by omega)
 ·exact Qz.refl
theorem qsE (hm:c.may){m:Mx}(h:MI c ws m)(ho:own i=qru c m):Qz c (own i) ws (mxS c m ws bs).2.1:=by
 cases m with
 | al a=>exact qsD hm h ho
 | fe a=>exact qsA hm a
 | rd a=>exact Qz.refl
 | wr a=>exact qsB hm a
 | pn a=>exact qsC hm a
 | no=>exact Qz.refl
theorem qsF {t:Th}{r:Mx×List Int×List Int×Option (Int×Int)} : (thW t r).2.1=r.2.1:=by
 unfold thW;split<;>rfl
theorem qsG (hm:c.may)(k:Int):qjG c k<4+c.T∧qjG c k≠0∧qjG c k≠2:=by
 unfold Cfg.may at hm
 unfold qjG
 split<;>omega
theorem qsH (hm:c.may){t:Th}(h:TInv c ws t)(ho:own i=qrT c t):Qz c (own i) ws (thS c t ws bs).2.1:=by
 unfold thS
 split
 ·exact Qz.refl
 split
 ·exact Qz.refl
 split
 ·exact qsw hm (qsG hm _).1
 split
 ·rename_i h2
  rw [qsF]
  exact qsE hm (h h2) (ho.trans (if_pos h2))
 ·exact qsw hm (qsG hm _).1
theorem AO.qz {a:Al}(h:AO c ws a){j:Nat}(s:SI c ws L own n)(q:Qz c (own i) ws ws')(hj:j≠i)(ho:own j=qru c (.al a))(hi:AI c ws a):AO c ws' a:=by
 refine⟨h.sz,h.room,fun z => ?_,h.cl⟩
 have hs:=hi.slot (by omega) (by omega)
 have o1:own j=some a.slot.toNat:=ho.trans (if_pos (by omega))
 have:=q a.slot.toNat (by omega) fun e=>hj (s.inj j i _ o1 e)
 unfold szI at this
 rw [qrF hs.1]at this
 rw [this]
 exact h.size z

theorem qsI {n:Int}(h:1≤n∧n≤256):8≤qo6 n∧qo6 n≤256:=by
 unfold qo6 qkr
 rw [if_pos h]
 omega
theorem qsJ {a:Al}(h:(alS c a ws bs).2.2.2≠none):(alS c a ws bs).1.nx=0:=by
 revert h
 have no:∀{P:Prop},(none:Option (Int×Int))≠none→P:=fun h=>absurd rfl h
 unfold alS
 by_cases h0:a.nx=0
 ·rw [if_pos h0];exact fun _=>h0
 rw [if_neg h0]
 by_cases h1:a.nx=1
 ·rw [if_pos h1];split
  ·exact fun _=>rfl
  ·exact fun h=>no h
 rw [if_neg h1]
 by_cases h2:a.nx=2
 ·rw [if_pos h2];split<;>exact fun h=>no h
 rw [if_neg h2]
 by_cases h3:a.nx=3
 ·rw [if_pos h3];exact fun h=>no h
 rw [if_neg h3]
 by_cases h4:a.nx=4
 ·rw [if_pos h4];split<;>exact fun h=>no h
 rw [if_neg h4]
 by_cases h5:a.nx=5
 ·rw [if_pos h5];split<;>exact fun h=>no h
 rw [if_neg h5]
 by_cases h6:a.nx=6
 ·rw [if_pos h6];exact fun h=>no h
 rw [if_neg h6]
 by_cases h7:a.nx=7
 ·rw [if_pos h7];split<;>exact fun h=>no h
 rw [if_neg h7]
 by_cases h8:a.nx=8
 ·rw [if_pos h8];exact fun h=>no h
 rw [if_neg h8]
 by_cases h9:a.nx=9
 ·rw [if_pos h9];exact fun h=>no h
 rw [if_neg h9]
 by_cases h10:a.nx=10
 ·rw [if_pos h10];exact fun h=>no h
 rw [if_neg h10]
 by_cases h11:a.nx=11
 ·rw [if_pos h11];exact fun h=>no h
 rw [if_neg h11]
 split
 ·exact fun _=>rfl
 ·exact fun h=>no h
theorem qsK {a:Al}(h:clA a):clM (.al a)=some (a.f,qo6 a.n):=if_pos h
theorem qsL {a:Al}(h:¬clA a):clM (.al a)=none:=if_neg h
theorem qsM {a:Al}(h:pnA a):pnM (.al a)=true:=decide_eq_true h
theorem qsN {a:Al}(h:¬pnA a):pnM (.al a)=false:=decide_eq_false h
theorem qsO {a a':Al}(h:AlK c ws own i a a' ws')(ao:AO c ws a)(ao':AO c ws' a')(hn:a'.n=a.n):TK c ws own i (pnM (.al a)) (pnM (.al a')) (clM (.al a)) (clM (.al a')) ws':=by
 cases h with
 | quiet q p k =>
   refine .quiet q (decide_eq_decide.2 p) ?_
   by_cases hk:clA a'
   ·obtain⟨k1,k2⟩:=k hk
    rw [qsK hk,qsK k1,k2,hn]
    exact .inr rfl
   ·exact .inl (qsL hk)
 | up q w0 p p' k w2=>exact .up q w0 (qsN p) (qsM p') (qsL k) w2
 | down q w0 p p' k w2=>exact .down q w0 (qsM p) (qsN p') (qsL k) w2
 | claim q w2 p p' k f r w0 =>
   have hz:=qsI (ao'.sz (by unfold clA at k;omega) (by unfold clA at k;omega))
   exact .claim q w2 (qsM p) (qsM p') a'.f (qo6 a'.n) (qsK k) f r.1 hz r.2 w0
 | publ x g ho he hs hy sz w0 w2 p p' k k' =>
   exact .publ x a.f g a.n ho he hs (ao.sz (by unfold clA at k;omega) (by unfold clA at k;omega)) hy sz w0 w2 (qsM p) (qsM p') (qsK k) (qsL k')
theorem qsP (hm:c.may)(s:SI c ws L own n){m:Mx}(h:MI c ws m)(ho:own i=qru c m)(ao:∀a,m = .al a→AO c ws a) :
  (∀a,(mxS c m ws bs).1 = .al a→AO c (mxS c m ws bs).2.1 a)∧TK c ws own i (pnM m) (pnM (mxS c m ws bs).1) (clM m) (clM (mxS c m ws bs).1) (mxS c m ws bs).2.1:=by
 cases m with
 | al a =>
   obtain⟨a1,a2,a3⟩:=qsv (bs:=bs) hm s h (ao a rfl) ho
   exact⟨fun b hb=>by injection hb with hb;subst hb;exact a1,qsO a3 (ao a rfl) a1 a2⟩
 | fe a=>exact⟨(fun b hb=>by cases hb),.quiet (qsn hm a) rfl (.inl rfl)⟩
 | rd a=>exact⟨(fun b hb=>by cases hb),.quiet .refl rfl (.inl rfl)⟩
 | wr a=>exact⟨(fun b hb=>by cases hb),.quiet (qso hm a) rfl (.inl rfl)⟩
 | pn a=>exact⟨(fun b hb=>by cases hb),.quiet (qsp hm h) rfl (.inl rfl)⟩
 | no=>exact⟨(fun b hb=>by cases hb),.quiet .refl rfl (.inl rfl)⟩
theorem qsQ {m:Mx}(h:(mxS c m ws bs).2.2.2≠none):pnM (mxS c m ws bs).1=false∧clM (mxS c m ws bs).1=none:=by
 cases m with
 | al a =>
   have h0:=qsJ (c:=c) (ws:=ws) (bs:=bs) (a:=a) h
   exact⟨qsN (by unfold pnA;omega),qsL (by unfold clA;omega)⟩
 | fe a=>exact⟨rfl,rfl⟩
 | rd a=>exact⟨rfl,rfl⟩
 | wr a=>exact⟨rfl,rfl⟩
 | pn a=>exact⟨rfl,rfl⟩
 | no=>exact⟨rfl,rfl⟩
theorem qsR (o:Op4):pnM (mkM o)=false∧clM (mkM o)=none∧∀a ws,mkM o = .al a→AO c ws a:=by
 unfold mkM
 repeat' split
 all_goals first|exact⟨rfl,rfl,fun a ws h=>by injection h with h;subst h;exact qsr (.inl (by show(1:Int)<2;decide)) rfl⟩|exact⟨rfl,rfl,(fun a ws h=>by cases h)⟩
theorem qsS (hm:c.may)(s:SI c ws L own n){t:Th}(h:TInv c ws t)(ho:own i=qrT c t)(ao:TAO c ws t) :
  TAO c (thS c t ws bs).2.1 (thS c t ws bs).1∧TK c ws own i (pnB t) (pnB (thS c t ws bs).1) (clR t) (clR (thS c t ws bs).1) (thS c t ws bs).2.1:=by
 have nn:=qsG hm t.num
 unfold thS
 split
 ·exact⟨ao,.quiet .refl rfl (.inr rfl)⟩
 rename_i o r _
 split
 ·rename_i h0
  refine⟨(fun a q=>by have q:(1:Int)=2:=q;omega),.quiet .refl ?_ (.inl ?_)⟩
  ·unfold pnB;rw [if_neg (by omega:¬t.nx=2)];rfl
  ·exact if_neg (by show ¬(1:Int)=2;decide)
 split
 ·rename_i h1
  obtain⟨e1,e2,e3⟩:=qsR (c:=c) o
  refine⟨fun a _ q=>e3 a _ q,.quiet (qsb hm nn.1 nn.2.1 nn.2.2) ?_ (.inl ?_)⟩
  ·unfold pnB;rw [if_neg (by omega:¬t.nx=2)];exact(if_pos rfl).trans e1
  ·exact(if_pos rfl).trans e2
 split
 ·rename_i h2
  obtain⟨a1,a2⟩:=qsP (bs:=bs) hm s (h h2) (ho.trans (if_pos h2)) (fun a q=>ao a h2 q)
  have hd:=qsQ (c:=c) (ws:=ws) (bs:=bs) (m:=t.m)
  have ep:pnB t=pnM t.m:=if_pos h2
  have ek:clR t=clM t.m:=if_pos h2
  rw [ep,ek]
  unfold thW
  cases hr:(mxS c t.m ws bs).2.2.2 with
  | none =>
    refine⟨fun a _ q=>a1 a q, ?_⟩
    have e1:pnB {t with m:=(mxS c t.m ws bs).1} = pnM (mxS c t.m ws bs).1:=if_pos h2
    have e2:clR {t with m:=(mxS c t.m ws bs).1} = clM (mxS c t.m ws bs).1:=if_pos h2
    show TK c ws own i _ (pnB {t with m:=(mxS c t.m ws bs).1}) _ (clR {t with m:=(mxS c t.m ws bs).1}) _
    rw [e1,e2]
    exact a2
  | some q =>
    obtain⟨d1,d2⟩:=hd (by rw [hr];simp)
    rw [d1,d2]at a2
    refine⟨fun a z=>by have z:(3:Int)=2:=z;omega, ?_⟩
    exact a2
 ·rename_i h0 h1 h2
  refine⟨(fun a q=>by have q:(0:Int)=2:=q;omega),.quiet (qsb hm nn.1 nn.2.1 nn.2.2) ?_ (.inl ?_)⟩
  ·unfold pnB;rw [if_neg h2];rfl
  ·exact if_neg (by show ¬(0:Int)=2;decide)
end
end Go.Proofs.YtdinebegmppnoabGreat

/- Objects lie apart, and below the frontier: a thread's step keeps it. Plain. -/
namespace Go.Proofs.YtdinebegmppnoabGreat
open Go Go.Ir

def exI (c:Cfg)(ws:List Int)(x:Nat):Int:=qo6 (szI c ws x)
inductive Rg (c:Cfg)(ws:List Int)(ts:List Th):Nat ⊕ Nat→Int→Int→Prop
 | ob (x:Nat) (e:Ent) (h:LO c ws x e):Rg c ws ts (.inl x) e.o (e.o+exI c ws x)
 | cl (i:Nat) (t:Th) (f b:Int) (h:ts[i]? = some t) (k:clR t=some (f,b)):Rg c ws ts (.inr i) f (f+b)
def qsT (ts:List Th):Nat:=(ts.filter pnB).length
structure OI (c:Cfg)(ws:List Int)(ts:List Th):Prop where
 sz:∀x e,LO c ws x e→1≤szI c ws x∧szI c ws x≤256
 inn:∀k lo hi,Rg c ws ts k lo hi→0≤lo∧hi≤qi6 ws 0
 dis:∀k k' lo hi lo' hi',Rg c ws ts k lo hi→Rg c ws ts k' lo' hi'→k≠k'→hi≤lo'∨hi'≤lo
 top:0≤qi6 ws 0∧qi6 ws 0≤c.A
 al:∀(i:Nat) t,ts[i]? = some t→TAO c ws t
 pend:qi6 ws 2=qsT ts
 few:ts.length≤4

section
variable {c:Cfg}{ws ws' bs:List Int}{ts:List Th}{L L':List Nat}{own own':Nat→Option Nat}{n n' i:Nat}{t t':Th}
theorem qsU {α:Type}{l:List α}{i j:Nat}{a b:α}(h:(l.set i a)[j]? = some b):(j=i∧b=a)∨(j≠i∧l[j]? = some b):=by
 by_cases hj:j=i
 ·subst hj
  have:=(List.getElem?_eq_some_iff.1 h).1
  rw [List.length_set]at this
  rw [List.getElem?_set_self this]at h
  injection h with h
  exact .inl ⟨rfl,h.symm⟩
 ·rw [List.getElem?_set_ne (Ne.symm hj)]at h
  exact .inr ⟨hj,h⟩
theorem qsV {f b:Int}(h:clR t=some (f,b)):t.nx=2∧∃a,t.m = .al a∧clA a∧f=a.f∧b=qo6 a.n:=by
 unfold clR at h
 split at h
 ·rename_i h2
  refine⟨h2, ?_⟩
  unfold clM at h
  split at h
  ·rename_i a ha
   split at h
   ·rename_i hk
    injection h with h
    injection h with h1 h2
    exact⟨a,ha,hk,h1.symm,h2.symm⟩
   ·cases h
  ·cases h
 ·cases h
theorem qsW {f b:Int}(h:clR t=some (f,b)):pnB t=true:=by
 obtain⟨h2,a,ha,hk,_⟩:=qsV h
 unfold pnB
 rw [if_pos h2,ha]
 exact qsM (by unfold clA at hk;unfold pnA;omega)
theorem OI.len (h:OI c ws ts){k:Nat ⊕ Nat}{lo hi:Int}(r:Rg c ws ts k lo hi):lo+8≤hi∧hi≤lo+256:=by
 cases r with
 | ob x e h1 =>
   have:=qsI (h.sz x e h1)
   unfold exI
   omega
 | cl j u f b h1 h2 =>
   obtain⟨h3,a,ha,hk,_,rfl⟩:=qsV h2
   have:=qsI (((h.al j u h1) a h3 ha).sz (by unfold clA at hk;omega) (by unfold clA at hk;omega))
   omega

structure EvO (c:Cfg)(ws:List Int)(ts:List Th)(own:Nat→Option Nat)(i:Nat)(ws':List Int)(ts':List Th):Prop where
 lo:∀x e',LO c ws' x e'→(∃e,LO c ws x e∧e'.o=e.o∧e'.g=e.g∧e'.lk=e.lk∧szI c ws' x=szI c ws x)∨
  (own i=some x∧e'.lk=false∧(1≤szI c ws' x∧szI c ws' x≤256)∧Rg c ws ts (.inr i) e'.o (e'.o+exI c ws' x)∧∀lo hi,¬Rg c ws' ts' (.inr i) lo hi)
 cl:∀j lo hi,Rg c ws' ts' (.inr j) lo hi→Rg c ws ts (.inr j) lo hi∨(j=i∧lo=qi6 ws 0∧hi=qi6 ws' 0∧lo+8≤hi)
 w0:qi6 ws 0≤qi6 ws' 0∧qi6 ws' 0≤c.A

theorem qsX {ts:List Th}{ws ws':List Int}{j:Nat}(hj:j≠i){lo hi:Int}(r:Rg c ws' (ts.set i t') (.inr j) lo hi):Rg c ws ts (.inr j) lo hi:=by
 cases r with
 | cl j u f b h k=>exact .cl _ u _ _ (by rw [List.getElem?_set_ne (Ne.symm hj)]at h;exact h) k
theorem qsY {ts:List Th}{ws':List Int}(hi:i<ts.length){lo hi':Int}(r:Rg c ws' (ts.set i t') (.inr i) lo hi'):∃b,clR t'=some (lo,b)∧hi'=lo+b:=by
 cases r with
 | cl j u f b h k =>
   rw [List.getElem?_set_self hi]at h
   injection h with h
   subst h
   exact⟨b,k,rfl⟩
theorem qsZ {x:Nat}{e':Ent}(q:Qe c ws ws')(h:LO c ws' x e'):∃e,LO c ws x e∧e'.o=e.o∧e'.g=e.g∧e'.lk=e.lk∧szI c ws' x=szI c ws x:=by
 obtain⟨h1,h2,h3⟩:=h
 rcases q.ew x h1 with z|⟨e2,z,z2⟩
 ·have:LO c ws x e':=⟨h1,z.symm.trans h2,h3⟩
  exact⟨e',this,rfl,rfl,rfl,q.sz x e' this⟩
 ·rw [h2]at z
  injection z with z
  subst z
  rcases z2 with z2|⟨e,y1,y2,y3,y4,y5⟩
  ·rw [h3]at z2;cases z2
  ·exact⟨e,⟨h1,y1,y2⟩,y3,y4,y5,q.sz x e ⟨h1,y1,y2⟩⟩
theorem qs0 (h:OI c ws ts)(ht:ts[i]? = some t)(k:TK c ws own i (pnB t) (pnB t') (clR t) (clR t') ws'):EvO c ws ts own i ws' (ts.set i t'):=by
 have hil:=(List.getElem?_eq_some_iff.1 ht).1
 have htop:=h.top
 cases k with
 | quiet q hp hk =>
   have ew:=q.w0
   refine⟨fun x e' l => .inl (qsZ q.qe l),fun j lo hi r => .inl ?_,by omega⟩
   by_cases hj:j=i
   ·subst hj
    obtain⟨b,r1,rfl⟩:=qsY hil r
    rcases hk with hk|hk
    ·rw [hk]at r1;cases r1
    ·exact .cl j t lo b ht (hk.symm.trans r1)
   ·exact qsX hj r
 | up q w0 hp hp' hk w2 =>
   refine⟨fun x e' l => .inl (qsZ q l),fun j lo hi r => .inl ?_,by omega⟩
   by_cases hj:j=i
   ·subst hj
    obtain⟨b,r1,rfl⟩:=qsY hil r
    rw [hk]at r1;cases r1
   ·exact qsX hj r
 | down q w0 hp hp' hk w2 =>
   refine⟨fun x e' l => .inl (qsZ q l),fun j lo hi r => .inl ?_,by omega⟩
   by_cases hj:j=i
   ·subst hj
    obtain⟨b,r1,rfl⟩:=qsY hil r
    rw [hk]at r1;cases r1
   ·exact qsX hj r
 | claim q w2 hp hp' f b hk hf h0 hb hA w0 =>
   refine⟨fun x e' l => .inl (qsZ q l),fun j lo hi r => ?_,by omega⟩
   by_cases hj:j=i
   ·subst hj
    obtain⟨b',r1,rfl⟩:=qsY hil r
    rw [hk]at r1
    injection r1 with r1
    injection r1 with r1 r2
    subst r1 r2
    exact .inr ⟨rfl,hf,w0.symm,by omega⟩
   ·exact .inl (qsX hj r)
 | publ x f g z ho he hs hz hy sz w0 w2 hp hp' hk hk' =>
   refine⟨fun y e' l => ?_,fun j lo hi r => .inl ?_,by omega⟩
   ·by_cases hxy:y=x
    ·subst hxy
     have h2:=l.2.1
     rw [he]at h2
     injection h2 with h2
     subst h2
     refine .inr ⟨ho,rfl,by rw [hs];exact hz, ?_,fun lo hi r => ?_⟩
     ·unfold exI
      rw [hs]
      exact .cl i t f _ ht hk
     ·obtain⟨b,r1,_⟩:=qsY hil r
      rw [hk']at r1;cases r1
    ·exact .inl ⟨e',⟨l.1,(hy y l.1 hxy).symm.trans l.2.1,l.2.2⟩,rfl,rfl,rfl,sz y⟩
   ·by_cases hj:j=i
    ·subst hj
     obtain⟨b,r1,rfl⟩:=qsY hil r
     rw [hk']at r1;cases r1
    ·exact qsX hj r
theorem qs1 {ts:List Th}{i:Nat}{t t':Th}(ht:ts[i]? = some t):qsT (ts.set i t')+(if pnB t then 1 else 0)=qsT ts+(if pnB t' then 1 else 0):=by
 induction ts generalizing i with
 | nil=>simp at ht
 | cons a r ih =>
   unfold qsT
   cases i with
   | zero =>
     simp only [List.getElem?_cons_zero,Option.some.injEq]at ht
     subst ht
     rw [List.set_cons_zero,List.filter_cons,List.filter_cons]
     split<;>split<;>simp<;>omega
   | succ j =>
     rw [List.getElem?_cons_succ]at ht
     have:=ih ht
     unfold qsT at this
     rw [List.set_cons_succ,List.filter_cons,List.filter_cons]
     split
     ·simp only [List.length_cons];omega
     ·exact this
theorem qs2 (ts:List Th):qsT ts≤ts.length:=List.length_filter_le ..
theorem EvO.was {ts':List Th}(v:EvO c ws ts own i ws' ts'){k:Nat ⊕ Nat}{lo hi:Int}(r:Rg c ws' ts' k lo hi) :
  Rg c ws ts k lo hi∨(k = .inr i∧lo=qi6 ws 0∧hi=qi6 ws' 0∧lo+8≤hi)∨(∃x,k = .inl x∧own i=some x∧Rg c ws ts (.inr i) lo hi∧∀lo hi,¬Rg c ws' ts' (.inr i) lo hi):=by
 cases r with
 | ob x e' l =>
   rcases v.lo x e' l with⟨e,h1,h2,h3,h4,h5⟩|⟨h1,h2,h3,h4,h5⟩
   ·refine .inl ?_
    unfold exI
    rw [h5,h2]
    exact .ob x e h1
   ·exact .inr (.inr ⟨x,rfl,h1,h4,h5⟩)
 | cl j u f b h1 h2 =>
   rcases v.cl _ _ _ (.cl _ u _ _ h1 h2)with h|⟨h3,h4,h5,h6⟩
   ·exact .inl h
   ·subst h3
    exact .inr (.inl ⟨rfl,h4,h5,h6⟩)
theorem qs3 (hm:c.may)(h:OI c ws ts)(ht:ts[i]? = some t)(k:TK c ws own i (pnB t) (pnB t') (clR t) (clR t') ws')(ao:TAO c ws' t')(oth:∀(j:Nat) u,j≠i→ts[j]? = some u→TAO c ws' u):OI c ws' (ts.set i t'):=by
 have v:=qs0 h ht k
 have hil:=(List.getElem?_eq_some_iff.1 ht).1
 have w0:=v.w0
 have htop:=h.top
 have old:∀k lo hi,Rg c ws ts k lo hi→0≤lo∧hi≤qi6 ws' 0:=fun k lo hi r=>by have:=h.inn k lo hi r;omega
 refine⟨fun x e' l => ?_,fun k lo hi r => ?_,fun k k' lo hi lo' hi' r r' hne => ?_,by omega,fun j u hu => ?_, ?_,by rw [List.length_set];exact h.few⟩
 ·rcases v.lo x e' l with⟨e,h1,_,_,_,h5⟩|⟨_,_,h3,_⟩
  ·rw [h5];exact h.sz x e h1
  ·exact h3
 ·rcases v.was r with z|⟨_,z1,z2,z3⟩|⟨x,_,_,z,_⟩
  ·exact old k lo hi z
  ·omega
  ·exact old _ lo hi z
 ·rcases v.was r with z|⟨z0,z1,z2,z3⟩|⟨x,z0,z1,z,z3⟩
  ·rcases v.was r' with y|⟨y0,y1,y2,y3⟩|⟨y,y0,y1,y2,y3⟩
   ·exact h.dis k k' lo hi lo' hi' z y hne
   ·have:=h.inn k lo hi z;omega
   ·refine h.dis k (.inr i) lo hi lo' hi' z y2 fun q => ?_
    subst q
    exact y3 lo hi r
  ·rcases v.was r' with y|⟨y0,y1,y2,y3⟩|⟨y,y0,y1,y2,y3⟩
   ·have:=h.inn k' lo' hi' y;omega
   ·exact absurd (z0.trans y0.symm) hne
   ·subst z0
    exact absurd r (y3 lo hi)
  ·rcases v.was r' with y|⟨y0,y1,y2,y3⟩|⟨y,y0,y1,y2,y3⟩
   ·refine h.dis (.inr i) k' lo hi lo' hi' z y fun q => ?_
    subst q
    exact z3 lo' hi' r'
   ·subst y0
    exact absurd r' (z3 lo' hi')
   ·rw [z1]at y1
    injection y1 with y1
    subst y1
    exact absurd (z0.trans y0.symm) hne
 ·rcases qsU hu with⟨_,rfl⟩|⟨q1,q2⟩
  ·exact ao
  ·exact oth j u q1 q2
 ·have hc:=qs1 (t':=t') ht
  have hl:=qs2 ts
  have hl':=qs2 (ts.set i t')
  rw [List.length_set]at hl'
  have hf:=h.few
  have hpn:=h.pend
  cases k with
  | quiet q hp hk =>
    rw [hp]at hc
    have:=q.w2
    omega
  | up q w0 hp hp' hk w2 =>
    rw [hp,hp']at hc
    simp at hc
    rw [w2,hpn]
    have:w64 ((qsT ts:Int)+1)=(qsT ts:Int)+1:=qiY (by omega) (by omega)
    omega
  | down q w0 hp hp' hk w2 =>
    rw [hp,hp']at hc
    simp at hc
    rw [w2,hpn]
    have:w64 ((qsT ts:Int) + -1)=(qsT ts:Int) + -1:=qiY (by omega) (by omega)
    omega
  | claim q w2 hp hp' f b hk hf h0 hb hA w0 =>
    rw [hp,hp']at hc
    omega
  | publ x f g z ho he hs hz hy sz w0 w2 hp hp' hk hk' =>
    rw [hp,hp']at hc
    omega
end
end Go.Proofs.YtdinebegmppnoabGreat

/- Objects, and the pass that is under way: what a thread's step keeps. Plain. -/
namespace Go.Proofs.YtdinebegmppnoabGreat
open Go Go.Ir

def Avl (L:List Nat)(own:Nat→Option Nat)(x:Nat):Prop:=x∈L∨∃k,own k=some x
structure Rec (c:Cfg)(ws:List Int)(L:List Nat)(own:Nat→Option Nat)(x:Nat)(γ:Int):Prop where
 ge:∀e,en c ws x=some e→γ≤e.g
 av:Avl L own x→∀e,en c ws x=some e→γ<e.g
def Cov (c:Cfg)(ws:List Int)(l:List Obj)(g:Nat→Int)(x:Nat)(e:Ent):Prop:=∃o∈l,o.s=(x:Int)∧o.o=e.o∧o.n=exI c ws x∧g x=e.g
def RecO (c:Cfg)(ws:List Int)(L:List Nat)(own:Nat→Option Nat)(g:Nat→Int)(o:Obj):Prop :=
 Rec c ws L own o.s.toNat (g o.s.toNat)∧∀e,LO c ws o.s.toNat e→e.g=g o.s.toNat→o.n=exI c ws o.s.toNat
def TopO (c:Cfg)(ws:List Int)(ts:List Th)(top:Int):Prop:=0≤top∧top≤qi6 ws 0∧∀k lo hi,Rg c ws ts k lo hi→hi≤top∨top≤lo
def ClO (c:Cfg)(ws:List Int)(ts:List Th)(top:Int):Prop:=∀i lo hi,Rg c ws ts (.inr i) lo hi→top≤lo
def qs4 (c:Cfg)(ws:List Int)(m:Mc):Prop:=∀x e,LO c ws x e→e.o<m.top→e.o+exI c ws x≤m.dest∨(Cov c ws (m.objs.drop m.att.toNat) m.g x e∧m.dest≤e.o)
def qs5 (c:Cfg)(ws:List Int):Prop:=∀x e,LO c ws x e→e.lk=false
structure PO (c:Cfg)(ws:List Int)(ts:List Th)(L:List Nat)(own:Nat→Option Nat)(m:Mc):Prop where
 ini:m.next=1∨m.next=2→m.dest=0∧m.att=0∧m.objs = []∧m.slot=0
 top:2≤m.next→TopO c ws ts m.top
 cl:3≤m.next→ClO c ws ts m.top
 recs:3≤m.next→∀o∈m.objs,o.o<m.top∧RecO c ws L own m.g o
 scan:m.next=3∨m.next=4→m.dest=0∧m.att=0∧(∀o∈m.objs,o.s<m.slot)∧∀x e,LO c ws x e→e.o<m.top→(x:Int)<m.slot→Cov c ws m.objs m.g x e
 e4:m.next=4→m.e.o<m.top∧Rec c ws L own m.slot.toNat m.e.g∧∀e,LO c ws m.slot.toNat e→e.o<m.top→e.g=m.e.g∧e.o=m.e.o
 srt:5≤m.next→m.objs.Pairwise fun a b=>a.o≤b.o
 mid:5≤m.next→qs4 c ws m
 way:6≤m.next→m.next≤9→m.dest<(qnr m).o∧∃e,qkc m.word=some e∧e.o=(qnr m).o∧e.g=m.g (qnr m).s.toNat
 fin:10≤m.next→(m.objs.length:Int)≤m.att∧m.dest<m.top
 lk:∀x e,LO c ws x e→e.lk=true→7≤m.next∧m.next≤9∧(qnr m).s=(x:Int)

section
variable {c:Cfg}{ws ws' bs:List Int}{ts ts':List Th}{L L':List Nat}{own own':Nat→Option Nat}{n n' i:Nat}{m:Mc}
theorem Rec.step {x:Nat}{γ:Int}(h:Rec c ws L own x γ)(hx:(x:Int)<c.S)(s:SI c ws L own n)(mo:Mono c ws ws')(av:Av c ws ws' L L' own own'):Rec c ws' L' own' x γ:=by
 obtain⟨e,he⟩:=s.valid x hx
 have h1:=h.ge e he
 refine⟨fun e' he' => ?_,fun a e' he' => ?_⟩
 ·have:=(mo x e e' hx he he').1;omega
 ·have m:=(mo x e e' hx he he').1
  rcases av x a with q|q
  ·have:=h.av q e he;omega
  ·have:=q e e' he he';omega
theorem qs6 {x:Nat}{e:Ent}(s:SI c ws L own n)(l:LO c ws x e):Rec c ws L own x e.g:=by
 have same:∀e',en c ws x=some e'→e'=e:=fun e' h=>by
  rw [l.2.1]at h
  injection h with h
  exact h.symm
 refine⟨fun e' h=>by rw [same e' h];exact Int.le_refl _,fun a e' h => ?_⟩
 have hl:=l.2.2
 rcases a with a|⟨k,a⟩
 ·obtain⟨e2,h1,h2⟩:=s.ldead x a
  rw [same e2 h1,hl]at h2;cases h2
 ·obtain⟨_,_,e2,h1,h2⟩:=s.ow k x a
  rw [same e2 h1,hl]at h2;cases h2
theorem RecO.step {o:Obj}{g:Nat→Int}(h:RecO c ws L own g o)(h0:0≤o.s∧o.s<c.S)(s:SI c ws L own n)(v:EvO c ws ts own i ws' ts')(mo:Mono c ws ws')(av:Av c ws ws' L L' own own'):RecO c ws' L' own' g o:=by
 have hx:((o.s.toNat:Nat):Int)<c.S:=by omega
 refine⟨h.1.step hx s mo av,fun e' l q => ?_⟩
 rcases v.lo _ e' l with⟨e,h1,h2,h3,h4,h5⟩|⟨h1,_⟩
 ·rw [h.2 e h1 (by omega)]
  unfold exI
  rw [h5]
 ·obtain⟨e,he⟩:=s.valid _ hx
  have:=h.1.av (.inr ⟨i,h1⟩) e he
  have:=(mo _ e e' hx he l.2.1).1
  omega
theorem TopO.step {top:Int}(h:TopO c ws ts top)(v:EvO c ws ts own i ws' ts'):TopO c ws' ts' top:=by
 have w0:=v.w0
 obtain⟨h1,h2,h3⟩:=h
 refine⟨h1,by omega,fun k lo hi r => ?_⟩
 rcases v.was r with z|⟨_,z1,z2,z3⟩|⟨x,_,_,z,_⟩
 ·exact h3 k lo hi z
 ·omega
 ·exact h3 _ lo hi z
theorem ClO.step {top:Int}(h:ClO c ws ts top)(ht:top≤qi6 ws 0)(v:EvO c ws ts own i ws' ts'):ClO c ws' ts' top:=fun j lo hi r=>by
 rcases v.cl j lo hi r with z|⟨_,z,_⟩
 ·exact h j lo hi z
 ·omega
theorem EvO.below {top:Int}(h:ClO c ws ts top)(v:EvO c ws ts own i ws' ts'){x:Nat}{e':Ent}(l:LO c ws' x e')(ht:e'.o<top):∃e,LO c ws x e∧e'.o=e.o∧e'.g=e.g∧e'.lk=e.lk∧exI c ws' x=exI c ws x:=by
 rcases v.lo x e' l with⟨e,h1,h2,h3,h4,h5⟩|⟨_,_,_,h4,_⟩
 ·exact⟨e,h1,h2,h3,h4,by unfold exI;rw [h5]⟩
 ·have:=h i _ _ h4
  omega
theorem Cov.to {l:List Obj}{g:Nat→Int}{x:Nat}{e e':Ent}(h:Cov c ws l g x e)(h1:e'.o=e.o)(h2:e'.g=e.g)(h3:exI c ws' x=exI c ws x):Cov c ws' l g x e':=by
 obtain⟨o,a,b,d,f,k⟩:=h
 exact⟨o,a,b,d.trans h1.symm,f.trans h3.symm,k.trans h2.symm⟩
theorem qs7 (s:SI c ws L own n)(p:PI c ws m)(P:PO c ws ts L own m)(v:EvO c ws ts own i ws' ts')(mo:Mono c ws ws')(av:Av c ws ws' L L' own own'):PO c ws' ts' L' own' m:=by
 have hc:=p.cfg
 have hso:∀o∈m.objs,0≤o.s∧o.s<c.S:=fun o ho=>by have:=p.wg.1.objs o ho;rw [hc]at this;exact this
 refine⟨P.ini,fun h=>(P.top h).step v,fun h=>(P.cl h).step (P.top (by omega)).2.1 v,fun h o ho=>⟨(P.recs h o ho).1,(P.recs h o ho).2.step (hso o ho) s v mo av⟩,fun h => ?_,fun h => ?_,P.srt,fun h => ?_,P.way,P.fin,fun x e' l q => ?_⟩
 ·obtain⟨a,b,d,f⟩:=P.scan h
  refine⟨a,b,d,fun x e' l ht hx => ?_⟩
  obtain⟨e,h1,h2,h3,h4,h5⟩:=v.below (P.cl (by omega)) l ht
  exact(f x e h1 (by omega) hx).to h2 h3 h5
 ·obtain⟨a,b,d⟩:=P.e4 h
  have hs:=p.wg.1.scan (by omega)
  refine⟨a,b.step (by rw [hc]at hs;omega) s mo av,fun e' l ht => ?_⟩
  obtain⟨e,h1,h2,h3,h4,h5⟩:=v.below (P.cl (by omega)) l ht
  have:=d e h1 (by omega)
  omega
 ·intro x e' l ht
  obtain⟨e,h1,h2,h3,h4,h5⟩:=v.below (P.cl (by omega)) l ht
  rcases P.mid h x e h1 (by omega)with z|⟨z1,z2⟩
  ·exact .inl (by omega)
  ·exact .inr ⟨z1.to h2 h3 h5,by omega⟩
 ·rcases v.lo x e' l with⟨e,h1,h2,h3,h4,h5⟩|⟨_,h2,_⟩
  ·exact P.lk x e h1 (h4.symm.trans q)
  ·rw [h2]at q;cases q
theorem qs8 (h:OI c ws ts)(q:Qt c ws ws'):EvO c ws ts own i ws' ts:=by
 have:=h.top
 have:=q.w0
 refine⟨fun x e' l => .inl (qsZ q.qe l),fun j lo hi r => .inl ?_,by omega⟩
 cases r with
 | cl j u f b h k=>exact .cl _ u _ _ h k
theorem qs9 {k:Nat ⊕ Nat}{lo hi:Int}(v:EvO c ws ts own ts.length ws' ts)(r:Rg c ws' ts k lo hi):Rg c ws ts k lo hi:=by
 have no:∀lo hi,¬Rg c ws ts (.inr ts.length) lo hi:=fun lo hi r=>by
  cases r with
  | cl j u f b h k=>rw [List.getElem?_eq_none (Nat.le_refl _)]at h;cases h
 have no':∀lo hi,¬Rg c ws' ts (.inr ts.length) lo hi:=fun lo hi r=>by
  cases r with
  | cl j u f b h k=>rw [List.getElem?_eq_none (Nat.le_refl _)]at h;cases h
 rcases v.was r with z|⟨z,_⟩|⟨x,_,_,z,_⟩
 ·exact z
 ·subst z;exact absurd r (no' _ _)
 ·exact absurd z (no _ _)
theorem qta (h:OI c ws ts)(q:Qt c ws ws')(z:∀x:Int,qi6 ws' (qjy c x 1)=qi6 ws (qjy c x 1)):OI c ws' ts:=by
 have v:EvO c ws ts (fun _=>none) ts.length ws' ts:=qs8 h q
 refine⟨fun x e' l => ?_,fun k lo hi r => ?_,fun k k' lo hi lo' hi' r r' hne=>h.dis k k' lo hi lo' hi' (qs9 v r) (qs9 v r') hne,by rw [q.w0];exact h.top,fun j t ht a h1 h2 => ?_,by rw [q.w2];exact h.pend,h.few⟩
 ·obtain⟨e,h1,_,_,_,h5⟩:=qsZ q.qe l
  rw [h5];exact h.sz x e h1
 ·rw [q.w0];exact h.inn k lo hi (qs9 v r)
 ·have ao:=h.al j t ht a h1 h2
  exact⟨ao.sz,ao.room,fun q=>by rw [z];exact ao.size q,ao.cl⟩
end
end Go.Proofs.YtdinebegmppnoabGreat

/- Objects, and a pass: what its next object needs. Plain. -/
namespace Go.Proofs.YtdinebegmppnoabGreat
open Go Go.Ir

def PoR (c:Cfg)(ws:List Int)(ts:List Th)(L:List Nat)(own:Nat→Option Nat)(r:Mc×Option Int):Prop:=(r.2=none→PO c ws ts L own r.1)∧∀n,r.2=some n→qs5 c ws
structure qtb (c:Cfg)(ws:List Int)(ts:List Th)(L:List Nat)(own:Nat→Option Nat)(m:Mc):Prop where
 top:TopO c ws ts m.top
 cl:ClO c ws ts m.top
 recs:∀o∈m.objs,o.o<m.top∧RecO c ws L own m.g o
 srt:m.objs.Pairwise fun a b=>a.o≤b.o
 mid:qs4 c ws m
 nolk:qs5 c ws
structure qtc (c:Cfg)(ws:List Int)(ts:List Th)(L:List Nat)(own:Nat→Option Nat)(m:Mc):Prop where
 top:TopO c ws ts m.top
 cl:ClO c ws ts m.top
 recs:∀o∈m.objs,o.o<m.top∧RecO c ws L own m.g o
 zero:m.dest=0∧m.att=0
 slots:∀o∈m.objs,o.s<m.slot+1
 cov:∀x e,LO c ws x e→e.o<m.top→(x:Int)<m.slot+1→Cov c ws m.objs m.g x e
 nolk:qs5 c ws

section
variable {c:Cfg}{ws ws' bs:List Int}{ts ts':List Th}{L L':List Nat}{own own':Nat→Option Nat}{n n' i:Nat}{m:Mc}
theorem qtd (P:PO c ws ts L own m)(h:m.next<7∨9<m.next):qs5 c ws:=fun x e l=>by
 cases q:e.lk with
 | false=>rfl
 | true=>have:=P.lk x e l q;omega
theorem qte (h:qtb c ws ts L own m):PoR c ws ts L own (qmR m):=by
 have lk:∀{P:Prop} x e,LO c ws x e→e.lk=true→P:=fun x e l q=>by rw [h.nolk x e l]at q;cases q
 unfold qmR
 split
 ·refine⟨fun _ => ?_,fun n q=>by cases q⟩
  exact⟨(no2 ·),fun _=>h.top,fun _=>h.cl,fun _=>h.recs,(no2 ·),(nq ·),fun _=>h.srt,fun _=>h.mid,(nl ·),(nl ·),fun x e l q=>lk x e l q⟩
 ·rename_i h1
  split
  ·exact⟨(fun q=>by cases q),fun n q=>h.nolk⟩
  ·rename_i h2
   refine⟨fun _ => ?_,fun n q=>by cases q⟩
   exact⟨(no2 ·),fun _=>h.top,fun _=>h.cl,fun _=>h.recs,(no2 ·),(nq ·),fun _=>h.srt,fun _=>h.mid,fun _ q=>by have q:(10:Int)≤9:=q;omega,fun _=>⟨by show(m.objs.length:Int)≤m.att;omega,by show m.dest<m.top;omega⟩,fun x e l q=>lk x e l q⟩
theorem qtf {x:Nat}{e:Ent}(l:LO c ws x e):0≤e.o∧e.o≤4096:=by
 have:=qof l.2.1
 unfold Ent.may at this
 omega
theorem Cov.mono {l l':List Obj}{g:Nat→Int}{x:Nat}{e:Ent}(h:Cov c ws l g x e)(hs:∀o∈l,o∈l'):Cov c ws l' g x e:=by
 obtain⟨o,a,b⟩:=h
 exact⟨o,hs o a,b⟩
theorem qtg (hs:0≤m.slot∧m.slot<64)(hc:m.c=c)(h:qtc c ws ts L own m):PoR c ws ts L own (qmU m):=by
 have hw:w64 (m.slot+1)=m.slot+1:=qiY (by omega) (by omega)
 have lk:∀{P:Prop} x e,LO c ws x e→e.lk=true→P:=fun x e l q=>by rw [h.nolk x e l]at q;cases q
 unfold qmU
 rw [hw]
 split
 ·refine⟨fun _ => ?_,fun n q=>by cases q⟩
  exact⟨(no2 ·),fun _=>h.top,fun _=>h.cl,fun _=>h.recs,fun _=>⟨h.zero.1,h.zero.2,h.slots,h.cov⟩,(nq ·),(nl ·),(nl ·),(nl ·),(nl ·),fun x e l q=>lk x e l q⟩
 ·rename_i h1
  refine qte (m := {m with slot:=m.slot+1,objs:=qkO m.objs}) ⟨h.top,h.cl,fun o ho=>h.recs o ((qk3 m.objs).mem_iff.1 ho), ?_,fun x e l q => ?_,h.nolk⟩
  ·exact(qk5 m.objs).imp fun {a b} z=>by
    unfold Le ltP at z
    omega
  ·have q:e.o<m.top:=q
   refine .inr ⟨?_,by show m.dest≤e.o;rw [h.zero.1];exact(qtf l).1⟩
   show Cov c ws ((qkO m.objs).drop m.att.toNat) m.g x e
   rw [h.zero.2]
   have hx:=l.1
   rw [hc]at h1
   exact(h.cov x e l q (by omega)).mono fun o ho=>(qk3 m.objs).mem_iff.2 ho

variable {x0:Nat}{v:Int}{e e':Ent}
theorem qth (hm:c.may)(s:SI c ws L own n)(hx:(x0:Int)<c.S)(hv:qkc v=some e'):en c (qi7 ws (qjy c x0 0) v) x0=some e':=by
 have si:=qrr s hm hx (k:=0) (by omega)
 unfold en
 rw [qrh (by omega) si.2]
 exact hv
theorem qti (hm:c.may)(hx:(x0:Int)<c.S){y:Nat}(hy:y≠x0):en c (qi7 ws (qjy c x0 0) v) y=en c ws y:=by
 unfold Cfg.may at hm
 unfold en
 rw [qrg fun q=>hy ?_]
 have:=qrk (c:=c) (s:=x0) (t:=y) (k:=0) (by omega) hx (by omega) (by omega) q.symm
 omega
theorem qtj (hm:c.may)(hx:(x0:Int)<c.S)(t:Int):qi6 (qi7 ws (qjy c x0 0) v) (qjy c t 1)=qi6 ws (qjy c t 1):=by
 unfold Cfg.may at hm
 exact qrg fun q=>qrj (c:=c) (s:=x0) (t:=t) (j:=1) (k:=0) (by omega) hx (by omega) (by omega) (by omega) (by omega) q.symm
theorem qtk (hm:c.may){k:Int}(hk:k=0∨k=2):qi6 (qi7 ws (qjy c x0 0) v) k=qi6 ws k:=by
 have:=qsc hm x0 0 (by omega)
 exact qrg (by omega)
theorem qtl (hm:c.may)(s:SI c ws L own n)(l:LO c ws x0 e)(hv:qkc v=some e'){y:Nat}{e2:Ent}(k:LO c (qi7 ws (qjy c x0 0) v) y e2):(y=x0∧e2=e')∨(y≠x0∧LO c ws y e2):=by
 by_cases hy:y=x0
 ·subst hy
  have:=k.2.1
  rw [qth hm s l.1 hv]at this
  injection this with this
  exact .inl ⟨rfl,this.symm⟩
 ·exact .inr ⟨hy,k.1,(qti hm l.1 hy).symm.trans k.2.1,k.2.2⟩
theorem qtm (hm:c.may)(s:SI c ws L own n)(l:LO c ws x0 e)(hv:qkc v=some e'){k:Nat ⊕ Nat}{lo hi:Int}(r:Rg c (qi7 ws (qjy c x0 0) v) ts k lo hi) :
  (k≠.inl x0∧Rg c ws ts k lo hi)∨(k = .inl x0∧lo=e'.o∧hi=e'.o+exI c ws x0):=by
 cases r with
 | ob y e2 q =>
   have hz:exI c (qi7 ws (qjy c x0 0) v) y=exI c ws y:=by unfold exI szI;rw [qtj hm l.1]
   rw [hz]
   rcases qtl hm s l hv q with⟨rfl,rfl⟩|⟨z1,z2⟩
   ·exact .inr ⟨rfl,rfl,rfl⟩
   ·exact .inl ⟨fun q=>z1 (by injection q),.ob y e2 z2⟩
 | cl j u f b h1 h2=>exact .inl ⟨(fun q=>by cases q),.cl _ u _ _ h1 h2⟩
theorem qtn (hm:c.may)(s:SI c ws L own n)(h:OI c ws ts)(l:LO c ws x0 e)(hv:qkc v=some e')(h0:0≤e'.o∧e'.o≤e.o)(ap:∀k lo hi,Rg c ws ts k lo hi→k≠.inl x0→e'.o+exI c ws x0≤lo∨hi≤e'.o):OI c (qi7 ws (qjy c x0 0) v) ts:=by
 have e0:=qtk (ws:=ws) (x0:=x0) (v:=v) hm (k:=0) (.inl rfl)
 refine⟨fun y e2 q => ?_,fun k lo hi r => ?_,fun k k' lo hi lo' hi' r r' hne => ?_,by rw [e0];exact h.top,fun j t ht a h1 h2 => ?_,by rw [qtk hm (.inr rfl)];exact h.pend,h.few⟩
 ·unfold szI
  rw [qtj hm l.1]
  rcases qtl hm s l hv q with⟨rfl,_⟩|⟨_,z2⟩
  ·exact h.sz _ e l
  ·exact h.sz y e2 z2
 ·rw [e0]
  rcases qtm hm s l hv r with⟨_,z⟩|⟨_,z1,z2⟩
  ·exact h.inn k lo hi z
  ·have:=h.inn _ _ _ (.ob x0 e l);omega
 ·rcases qtm hm s l hv r with⟨z0,z⟩|⟨z0,z1,z2⟩
  ·rcases qtm hm s l hv r' with⟨y0,y⟩|⟨y0,y1,y2⟩
   ·exact h.dis k k' lo hi lo' hi' z y hne
   ·have:=ap k lo hi z z0;omega
  ·rcases qtm hm s l hv r' with⟨y0,y⟩|⟨y0,y1,y2⟩
   ·have:=ap k' lo' hi' y y0;omega
   ·exact absurd (z0.trans y0.symm) hne
 ·have ao:=h.al j t ht a h1 h2
  exact⟨ao.sz,ao.room,fun q=>by rw [qtj hm l.1];exact ao.size q,ao.cl⟩
theorem qto (hm:c.may)(s:SI c ws L own n){top:Int}(h:TopO c ws ts top)(l:LO c ws x0 e)(hv:qkc v=some e')(hr:e'.o+exI c ws x0≤top∨top≤e'.o):TopO c (qi7 ws (qjy c x0 0) v) ts top:=by
 obtain⟨h1,h2,h3⟩:=h
 refine⟨h1,by rw [qtk hm (.inl rfl)];exact h2,fun k lo hi r => ?_⟩
 rcases qtm hm s l hv r with⟨_,z⟩|⟨_,z1,z2⟩
 ·exact h3 k lo hi z
 ·omega
theorem qtp (hm:c.may)(s:SI c ws L own n){top:Int}(h:ClO c ws ts top)(l:LO c ws x0 e)(hv:qkc v=some e'):ClO c (qi7 ws (qjy c x0 0) v) ts top:=fun j lo hi r=>by
 rcases qtm hm s l hv r with⟨_,z⟩|⟨z,_⟩
 ·exact h j lo hi z
 ·cases z
theorem qtq (hm:c.may)(s:SI c ws L own n){o:Obj}{g:Nat→Int}(h:RecO c ws L own g o)(h0:0≤o.s∧o.s<c.S)(l:LO c ws x0 e)(hv:qkc v=some e')(hg:e'.g=e.g)
  (mo:Mono c ws (qi7 ws (qjy c x0 0) v)) (av:Av c ws (qi7 ws (qjy c x0 0) v) L L' own own'):RecO c (qi7 ws (qjy c x0 0) v) L' own' g o:=by
 refine⟨h.1.step (by omega) s mo av,fun e2 q q2 => ?_⟩
 have hz:exI c (qi7 ws (qjy c x0 0) v) o.s.toNat=exI c ws o.s.toNat:=by unfold exI szI;rw [qtj hm l.1]
 rw [hz]
 rcases qtl hm s l hv q with⟨z1,rfl⟩|⟨_,z2⟩
 ·exact h.2 e (by rw [z1];exact l) (by omega)
 ·exact h.2 e2 z2 q2
end
end Go.Proofs.YtdinebegmppnoabGreat

/- Objects, and a pass's step. Plain. -/
namespace Go.Proofs.YtdinebegmppnoabGreat
open Go Go.Ir

section
variable {c:Cfg}{ws ws' bs:List Int}{ts ts':List Th}{L L':List Nat}{own own':Nat→Option Nat}{n n' i:Nat}{m:Mc}
theorem qtr (h:OI c ws ts)(h2:qi6 ws 2=0):∀i lo hi,¬Rg c ws ts (.inr i) lo hi:=fun i lo hi r=>by
 cases r with
 | cl j u f b h1 k =>
   have hp:=h.pend
   rw [h2]at hp
   have hm:u∈ts.filter pnB:=List.mem_filter.2 ⟨List.mem_of_getElem? h1,qsW k⟩
   have:=List.length_pos_of_mem hm
   unfold qsT at hp
   omega
theorem qts (h0:0≤m.att)(h1:m.att<m.objs.length):m.objs.drop m.att.toNat=qnr m::m.objs.drop (m.att+1).toNat:=by
 have hc:=qnw h0 h1
 have hl:m.att.toNat<m.objs.length:=by omega
 rw [List.drop_eq_getElem_cons hl,show(m.att+1).toNat=m.att.toNat+1 by omega]
 rw [List.getElem?_eq_getElem hl]at hc
 injection hc with hc
 rw [hc]
theorem qtt (h0:0≤m.att)(h1:m.att<m.objs.length)(hs:m.objs.Pairwise fun a b=>a.o≤b.o):∀o∈m.objs.drop (m.att+1).toNat,(qnr m).o≤o.o:=by
 have:=hs.sublist (List.drop_sublist m.att.toNat m.objs)
 rw [qts h0 h1]at this
 exact(List.pairwise_cons.1 this).1
theorem qtu (hm:c.may)(s:SI c ws L own n)(p:PI c ws m)(h:OI c ws ts)(P:PO c ws ts L own m)(hn:m.next=5):PoR c ws ts L own (qnd m ws (qnr m)):=by
 have hm':=hm
 unfold Cfg.may at hm'
 have hc:=p.cfg
 have hl:=p.wg.1.look (by omega) (by omega)
 have h0:=p.wg.1.at_
 have hl64:=p.wg.2.1
 have hmem:=List.mem_of_getElem? (qnw h0 hl)
 have hs:=p.wg.1.objs _ hmem
 rw [hc]at hs
 have ho:=p.objs _ hmem
 obtain⟨hlow,hrec⟩:=P.recs (by omega) _ hmem
 have hmid:=P.mid (by omega)
 have hnl:=qtd P (.inl (by omega))
 have hd:=qts h0 hl
 have hsr:=qtt h0 hl (P.srt (by omega))
 have ha:w64 (m.att+1)=m.att+1:=qiY (by omega) (by omega)
 have hdest:=p.dest
 have hwo:w64 ((qnr m).o+(qnr m).n)=(qnr m).o+(qnr m).n:=qiY (by omega) (by omega)
 generalize hco:qnr m=o at hmem hs ho hlow hrec hd hsr hwo⊢
 have hen:en c ws o.s.toNat=qkc (qi6 ws (qjy m.c o.s 0)):=by unfold en;rw [hc,qrF hs.1]
 have hxs:((o.s.toNat:Nat):Int)=o.s:=qrF hs.1
 -- the next object's turn, with a dest of its own
 have go:∀(w d:Int),(∀x e,LO c ws x e→e.o<m.top→e.o+exI c ws x≤d∨(Cov c ws (m.objs.drop (m.att+1).toNat) m.g x e∧d≤e.o))→PoR c ws ts L own (qnb {m with word:=w,dest:=d}):=fun w d hv=>by
  unfold qnb
  show PoR c ws ts L own (qmR {m with word:=w,dest:=d,att:=w64 (m.att+1)})
  rw [ha]
  exact qte ⟨P.top (by omega),P.cl (by omega),P.recs (by omega),P.srt (by omega),hv,hnl⟩
 have stale:(∀e,LO c ws o.s.toNat e→e.g=m.g o.s.toNat→e.o≠o.o)→∀w,PoR c ws ts L own (qnb {m with word:=w}):=fun q w=>go w m.dest fun x e l ht=>by
  rcases hmid x e l ht with z|⟨⟨o2,z1,z2,z3,z4,z5⟩,y⟩
  ·exact .inl z
  ·rw [hd]at z1
   rcases List.mem_cons.1 z1 with rfl|z1
   ·exfalso
    have hx:o2.s.toNat=x:=by omega
    exact q e (by rw [hx];exact l) (by rw [hx];exact z5.symm) z3.symm
   ·exact .inr ⟨⟨o2,z1,z2,z3,z4,z5⟩,y⟩
 unfold qnd
 cases hu:qkc (qi6 ws (qjy m.c o.s 0))with
 | none =>
   exact stale (fun e l _ _=>by
    have:=l.2.1
    rw [hen,hu]at this;cases this) _
 | some e =>
   simp only
   have same:∀e',LO c ws o.s.toNat e'→e'=e:=fun e' l=>by
    have:=l.2.1
    rw [hen,hu]at this
    injection this with this
    exact this.symm
   by_cases g1:e.lv=false∨e.g≠m.g o.s.toNat∨e.o≠o.o
   ·rw [if_pos g1]
    refine stale (fun e' l q1 q2 => ?_) _
    have:=same e' l
    subst this
    rcases g1 with g1|g1|g1
    ·have:=l.2.2;rw [g1]at this;cases this
    ·exact g1 q1
    ·exact g1 q2
   ·rw [if_neg g1]
    have lv:e.lv=true:=by
     cases q:e.lv with
     | true=>rfl
     | false=>exact absurd (.inl q) g1
    have hg:e.g=m.g o.s.toNat:=Classical.byContradiction fun q=>g1 (.inr (.inl q))
    have heo:e.o=o.o:=Classical.byContradiction fun q=>g1 (.inr (.inr q))
    have l:LO c ws o.s.toNat e:=⟨by omega,hen.trans hu,lv⟩
    have hon:=hrec.2 e l hg
    by_cases g2:0<e.p+e.u∨e.lk=true∨e.o≤m.dest
    ·rw [if_pos g2]
     refine go _ (qm9 m.dest (w64 (o.o+o.n))) fun x e2 l2 ht => ?_
     rw [hwo,hon]
     have mx:qm9 m.dest (o.o+exI c ws o.s.toNat)=if m.dest<o.o+exI c ws o.s.toNat then o.o+exI c ws o.s.toNat else m.dest:=rfl
     rw [mx]
     have hx0:=hmid _ e l (by omega)
     rcases hmid x e2 l2 ht with z|⟨⟨o2,z1,z2,z3,z4,z5⟩,y⟩
     ·refine .inl ?_
      split<;>omega
     ·rw [hd]at z1
      rcases List.mem_cons.1 z1 with rfl|z1
      ·have hx:o2.s.toNat=x:=by omega
       subst hx
       have:=same e2 l2
       subst this
       refine .inl ?_
       split<;>omega
      ·by_cases hx:x=o.s.toNat
       ·subst hx
        have:=same e2 l2
        subst this
        refine .inl ?_
        split<;>omega
       ·have h8:=h.len (.ob x e2 l2)
        have hle:=hsr o2 z1
        refine .inr ⟨⟨o2,z1,z2,z3,z4,z5⟩, ?_⟩
        rcases h.dis _ _ _ _ _ _ (.ob x e2 l2) (.ob _ e l) (fun q=>hx (by injection q))with q|q
        ·omega
        ·split<;>omega
    ·rw [if_neg g2]
     refine⟨fun _ => ?_,fun k q=>by cases q⟩
     refine⟨(no2 ·),fun _=>P.top (by omega),fun _=>P.cl (by omega),fun _=>P.recs (by omega),(no2 ·),(nq ·),fun _=>P.srt (by omega),fun _=>hmid,fun _ _ => ?_,(nl ·),fun x e l q=>by rw [hnl x e l]at q;cases q⟩
     have ec:qnr (onM {m with word:=qi6 ws (qjy m.c o.s 0)} 6).1=qnr m:=rfl
     rw [ec,hco]
     exact⟨by show m.dest<o.o;omega,e,hu,heo,hg⟩
end
end Go.Proofs.YtdinebegmppnoabGreat

/- Objects, and a pass's step: all of it. Plain. -/
namespace Go.Proofs.YtdinebegmppnoabGreat
open Go Go.Ir

section
variable {c:Cfg}{ws ws' bs:List Int}{ts ts':List Th}{L L':List Nat}{own own':Nat→Option Nat}{n n' i:Nat}{m:Mc}
theorem qtv (hm:c.may)(s:SI c ws L own n)(p:PI c ws m)(P:PO c ws ts L own m)(hn:m.next=3):PoR c ws ts L own (qm4 m ws):=by
 have hc:=p.cfg
 have hsl:=(p.wg.1.scan (by omega)).2
 have hsS:=hsl.2.1
 rw [hc]at hsS
 unfold Cfg.may at hm
 have hxs:((m.slot.toNat:Nat):Int)=m.slot:=qrF hsl.1
 have hen:en c ws m.slot.toNat=qkc (qi6 ws (qjy m.c m.slot 0)):=by unfold en;rw [hc,hxs]
 have hnl:=qtd P (.inl (by omega))
 obtain⟨z1,z2,z3,z4⟩:=P.scan (.inl hn)
 have sc:∀e0:Ent,(∀e,LO c ws m.slot.toNat e→e.o<m.top→False)→PoR c ws ts L own (qmU {m with e:=e0}):=fun e0 q =>
  qtg (m := {m with e:=e0}) (by show 0≤m.slot∧m.slot<64;omega) hc ⟨P.top (by omega),P.cl (by omega),P.recs (by omega),⟨z1,z2⟩,fun o ho=>by have:=z3 o ho;show o.s<m.slot+1;omega,fun x e l ht hx=>by
   have hx:(x:Int)<m.slot+1:=hx
   by_cases hxx:(x:Int)=m.slot
   ·have:x=m.slot.toNat:=by omega
    subst this
    exact(q e l ht).elim
   ·exact z4 x e l ht (by omega),hnl⟩
 unfold qm4
 cases hu:qkc (qi6 ws (qjy m.c m.slot 0))with
 | none =>
   refine sc _ fun e l _ => ?_
   have:=l.2.1
   rw [hen,hu]at this;cases this
 | some e =>
   simp only
   by_cases g:e.lv=true∧e.o<m.top
   ·rw [if_pos g]
    have l:LO c ws m.slot.toNat e:=⟨by omega,hen.trans hu,g.1⟩
    refine⟨fun _ => ?_,fun k q=>by cases q⟩
    refine⟨(no2 ·),fun _=>P.top (by omega),fun _=>P.cl (by omega),fun _=>P.recs (by omega),fun _=>⟨z1,z2,z3,z4⟩,fun _=>⟨g.2,qs6 s l,fun e2 l2 ht => ?_⟩,(nl ·),(nl ·),(nl ·),(nl ·),fun x e l q=>by rw [hnl x e l]at q;cases q⟩
    have h2:=l2.2.1
    have h1:=l.2.1
    have h2:en c ws m.slot.toNat=some e2:=h2
    rw [h1]at h2
    injection h2 with h2
    subst h2
    exact⟨rfl,rfl⟩
   ·rw [if_neg g]
    refine sc _ fun e2 l ht=>g ?_
    have h2:=l.2.1
    rw [hen,hu]at h2
    injection h2 with h2
    subst h2
    exact⟨l.2.2,ht⟩
theorem qtw (hm:c.may)(s:SI c ws L own n)(p:PI c ws m)(h:OI c ws ts)(P:PO c ws ts L own m)(hn:m.next=4):PoR c ws ts L own (qm2 m ws):=by
 have hc:=p.cfg
 have hsl:=(p.wg.1.scan (by omega)).2
 have hsS:=hsl.2.1
 rw [hc]at hsS
 unfold Cfg.may at hm
 have hxs:((m.slot.toNat:Nat):Int)=m.slot:=qrF hsl.1
 have hz:szI c ws m.slot.toNat=qi6 ws (qjy m.c m.slot 1):=by unfold szI;rw [hc,hxs]
 have hnl:=qtd P (.inl (by omega))
 obtain⟨z1,z2,z3,z4⟩:=P.scan (.inr hn)
 obtain⟨y1,y2,y3⟩:=P.e4 hn
 have hso:=p.wg.1.objs
 unfold qm2
 by_cases g:1≤qi6 ws (qjy m.c m.slot 1)∧qi6 ws (qjy m.c m.slot 1)≤256
 ·rw [if_pos g]
  have hex:qkr (qi6 ws (qjy m.c m.slot 1))=exI c ws m.slot.toNat:=by
   unfold exI qo6
   rw [hz,if_pos g]
  have g1:∀o∈m.objs,(if o.s.toNat=m.slot.toNat then m.e.g else m.g o.s.toNat)=m.g o.s.toNat:=fun o ho=>by
   have:=z3 o ho
   have:=(hso o ho).1
   exact if_neg (by omega)
  refine qtg (m := {m with objs:=m.objs ++ [⟨m.slot,m.e.o,qkr (qi6 ws (qjy m.c m.slot 1)),false⟩],g:=fun j=>if j=m.slot.toNat then m.e.g else m.g j}) (by show 0≤m.slot∧m.slot<64;omega) hc ⟨P.top (by omega),P.cl (by omega),fun o ho => ?_,⟨z1,z2⟩,fun o ho => ?_,fun x e l ht hx => ?_,hnl⟩
  ·rcases List.mem_append.1 ho with q|q
   ·obtain⟨a,b⟩:=P.recs (by omega) o q
    refine⟨a, ?_⟩
    show RecO c ws L own (fun j=>if j=m.slot.toNat then m.e.g else m.g j) o
    unfold RecO at b⊢
    simp only
    rw [g1 o q]
    exact b
   ·rw [List.mem_singleton]at q
    subst q
    refine⟨y1, ?_⟩
    show RecO c ws L own (fun j=>if j=m.slot.toNat then m.e.g else m.g j) ⟨m.slot,m.e.o,qkr (qi6 ws (qjy m.c m.slot 1)),false⟩
    unfold RecO
    simp only [if_true]
    exact⟨y2,fun _ _ _=>hex⟩
  ·show o.s<m.slot+1
   rcases List.mem_append.1 ho with q|q
   ·have:=z3 o q;omega
   ·rw [List.mem_singleton]at q
    subst q
    show m.slot<m.slot+1
    omega
  ·have hx:(x:Int)<m.slot+1:=hx
   have ht:e.o<m.top:=ht
   by_cases hxx:(x:Int)=m.slot
   ·have:x=m.slot.toNat:=by omega
    subst this
    obtain⟨q1,q2⟩:=y3 e l ht
    exact⟨⟨m.slot,m.e.o,qkr (qi6 ws (qjy m.c m.slot 1)),false⟩,List.mem_append_right _ (List.mem_singleton.2 rfl),hxs.symm,q2.symm,hex,(if_pos rfl).trans q1.symm⟩
   ·obtain⟨o,a1,a2,a3,a4,a5⟩:=z4 x e l ht (by omega)
    exact⟨o,List.mem_append_left _ a1,a2,a3,a4,(if_neg (by omega)).trans a5⟩
 ·rw [if_neg g]
  refine qtg (by omega) hc ⟨P.top (by omega),P.cl (by omega),P.recs (by omega),⟨z1,z2⟩,fun o ho=>by have:=z3 o ho;omega,fun x e l ht hx => ?_,hnl⟩
  by_cases hxx:(x:Int)=m.slot
  ·have:x=m.slot.toNat:=by omega
   subst this
   have:=h.sz _ e l
   rw [hz]at this
   exact absurd this g
  ·exact z4 x e l ht (by omega)
structure qtx (c:Cfg)(ws:List Int)(m:Mc)(o:Obj)(e:Ent):Prop where
 cur:qnr m=o
 mem:o∈m.objs
 s:0≤o.s∧o.s<c.S
 lo:LO c ws o.s.toNat e
 eo:e.o=o.o
 g:e.g=m.g o.s.toNat
 n:o.n=exI c ws o.s.toNat
 dest:m.dest<e.o
 top:e.o<m.top
theorem qty (hm:c.may)(p:PI c ws m)(P:PO c ws ts L own m)(h6:6≤m.next)(h9:m.next≤9)(hw:qi6 ws (qjy c (qnr m).s 0)=m.word)(hv:∀e,qkc m.word=some e→e.lv=true):∃o e,qtx c ws m o e∧qkc m.word=some e:=by
 have hl:=p.wg.1.look (by omega) (by omega)
 have h0:=p.wg.1.at_
 have hmem:=List.mem_of_getElem? (qnw h0 hl)
 have hs:=p.wg.1.objs _ hmem
 rw [p.cfg]at hs
 obtain⟨d,e,e1,e2,e3⟩:=P.way h6 h9
 obtain⟨hlow,hrec⟩:=P.recs (by omega) _ hmem
 have hx:(((qnr m).s.toNat:Nat):Int)=(qnr m).s:=qrF hs.1
 have l:LO c ws (qnr m).s.toNat e:=⟨by omega,by unfold en;rw [hx,hw];exact e1,hv e e1⟩
 exact⟨qnr m,e,⟨rfl,hmem,hs,l,e2,e3,hrec.2 e l e3,by omega,by omega⟩,e1⟩
theorem qtz (p:PI c ws m)(h:OI c ws ts)(P:PO c ws ts L own m)(h6:6≤m.next)(h9:m.next≤9){o:Obj}{e:Ent}(w:qtx c ws m o e) :
  (∀k lo hi,Rg c ws ts k lo hi→k≠.inl o.s.toNat→e.o+exI c ws o.s.toNat≤lo∨hi≤m.dest)∧e.o+exI c ws o.s.toNat≤m.top:=by
 have hl:=p.wg.1.look (by omega) (by omega)
 have h0:=p.wg.1.at_
 have hd:=qts h0 hl
 have hsr:=qtt h0 hl (P.srt (by omega))
 rw [w.cur]at hd hsr
 obtain⟨t1,t2,t3⟩:=P.top (by omega)
 have r0:=Rg.ob (ts:=ts) o.s.toNat e w.lo
 have htop:=w.top
 have h8:=h.len r0
 have heo:=w.eo
 have ht:e.o+exI c ws o.s.toNat≤m.top:=by
  rcases t3 _ _ _ r0 with q|q
  ·exact q
  ·omega
 refine⟨fun k lo hi r hk => ?_,ht⟩
 cases r with
 | ob x e2 l2 =>
   by_cases ht2:e2.o<m.top
   ·rcases P.mid (by omega) x e2 l2 ht2 with z|⟨⟨o2,z1,z2,z3,z4,z5⟩,y⟩
    ·exact .inr z
    ·rw [hd]at z1
     rcases List.mem_cons.1 z1 with rfl|z1
     ·exact absurd (by rw [z2];rfl) hk
     ·have:=hsr o2 z1
      rcases h.dis _ _ _ _ _ _ (.ob x e2 l2) r0 hk with q|q
      ·have:=h.len (.ob (ts:=ts) x e2 l2);omega
      ·exact .inl q
   ·exact .inl (by omega)
 | cl j u f b h1 h2=>exact .inl (by have:=P.cl (by omega) _ _ _ (.cl _ u _ _ h1 h2);omega)
end
end Go.Proofs.YtdinebegmppnoabGreat

/- Objects, and a pass's step: lock, move, lower. Plain. -/
namespace Go.Proofs.YtdinebegmppnoabGreat
open Go Go.Ir

section
variable {c:Cfg}{ws ws' bs:List Int}{ts ts':List Th}{L L':List Nat}{own own':Nat→Option Nat}{n n' i:Nat}{m:Mc}
theorem qtA {e:Ent}(h:e.may)(hl:e.lv=true)(h0:e.p=0)(h1:e.u=0):(qm7 e).may:=by
 unfold Ent.may at h⊢
 unfold qm7
 refine⟨h.1,h.2.1,h.2.2.1,h.2.2.2.1,h.2.2.2.2.1,h.2.2.2.2.2.1,h.2.2.2.2.2.2.1,h.2.2.2.2.2.2.2.1,fun _=>by show e.p+e.u=0;omega,fun q=>by have q:e.lv=false:=q;rw [hl]at q;cases q⟩
theorem qtB {e:Ent}{d:Int}(h:e.may)(hl:e.lv=true)(hd:0≤d∧d≤4096):(qm8 d e).may:=by
 unfold Ent.may at h⊢
 unfold qm8
 exact⟨hd.1,hd.2,h.2.2.1,h.2.2.2.1,h.2.2.2.2.1,h.2.2.2.2.2.1,h.2.2.2.2.2.2.1,h.2.2.2.2.2.2.2.1,fun q=>(by cases q),fun q=>by have q:e.lv=false:=q;rw [hl]at q;cases q⟩
theorem qtC (hm:c.may)(s:SI c ws L own n)(p:PI c ws m)(h:OI c ws ts)(P:PO c ws ts L own m)(hn:m.next=6)
  (mo:Mono c ws (qnf m ws (qnr m)).2) (av:Av c ws (qnf m ws (qnr m)).2 L L' own own'):OI c (qnf m ws (qnr m)).2 ts∧PoR c (qnf m ws (qnr m)).2 ts L' own' (qnf m ws (qnr m)).1:=by
 have hc:=p.cfg
 have hnl:=qtd P (.inl (by omega))
 unfold qnf at mo av⊢
 by_cases hb:qji ws (qjy m.c (qnr m).s 0) m.word=true
 ·rw [if_pos hb]at mo av⊢
  have hw:=(qri hb).2.2
  rw [hc]at hw
  obtain⟨_,e0,f1,f2,f3,f4,f5⟩:=p.word hn
  obtain⟨o,e,w,u⟩:=qty hm p P (by omega) (by omega) hw (fun e q=>by rw [f1]at q;injection q with q;subst q;exact f2)
  rw [f1]at u
  injection u with u
  subst u
  have hv:=qrZ (F:=qm7) f1 f2 (qtA (qof f1) f2 f4 f5)
  have ea:qjy m.c (qnr m).s 0=qjy c ((o.s.toNat:Nat):Int) 0:=by rw [hc,w.cur,qrF w.s.1]
  rw [ea]at mo av⊢
  generalize chA m.word qm7=v at hv mo av
  obtain⟨wa,wt⟩:=qtz p h P (by omega) (by omega) w
  have r0:=Rg.ob (ts:=ts) o.s.toNat e0 w.lo
  have hz:∀y,exI c (qi7 ws (qjy c ((o.s.toNat:Nat):Int) 0) v) y=exI c ws y:=fun y=>by unfold exI szI;rw [qtj hm w.lo.1]
  refine⟨qtn hm s h w.lo hv ⟨(qtf w.lo).1,Int.le_refl _⟩ fun k lo hi r hk => ?_,fun _ => ?_,fun k q=>by cases q⟩
  ·show e0.o+exI c ws o.s.toNat≤lo∨hi≤e0.o
   rcases h.dis _ _ _ _ _ _ r r0 hk with q|q
   ·exact .inr q
   ·exact .inl q
  ·have hso:=p.wg.1.objs
   rw [hc]at hso
   refine⟨(no2 ·),fun _=>qto hm s (P.top (by omega)) w.lo hv (.inl wt),fun _=>qtp hm s (P.cl (by omega)) w.lo hv,fun _ o2 ho=>⟨(P.recs (by omega) o2 ho).1,qtq hm s (P.recs (by omega) o2 ho).2 (hso o2 ho) w.lo hv rfl mo av⟩,(no2 ·),(nq ·),fun _=>P.srt (by omega),fun _ x e2 q ht => ?_,fun _ _ => ?_,(nl ·),fun x e2 q q2 => ?_⟩
   ·rw [hz]
    have ht:e2.o<m.top:=ht
    rcases qtl hm s w.lo hv q with⟨rfl,rfl⟩|⟨_,l2⟩
    ·rcases P.mid (by omega) _ e0 w.lo ht with z|⟨z1,z2⟩
     ·exact .inl z
     ·exact .inr ⟨z1.to rfl rfl (hz _),z2⟩
    ·rcases P.mid (by omega) x e2 l2 ht with z|⟨z1,z2⟩
     ·exact .inl z
     ·exact .inr ⟨z1.to rfl rfl (hz _),z2⟩
   ·show m.dest<(qnr m).o∧∃e,qkc v=some e∧e.o=(qnr m).o∧e.g=m.g (qnr m).s.toNat
    rw [w.cur]
    have w1:=w.dest
    have w2:=w.eo
    exact⟨by omega,_,hv,w.eo,w.g⟩
   ·show(7:Int)≤7∧(7:Int)≤9∧(qnr m).s=(x:Int)
    rcases qtl hm s w.lo hv q with⟨rfl,_⟩|⟨_,l2⟩
    ·rw [w.cur]
     exact⟨by omega,by omega,(qrF w.s.1).symm⟩
    ·rw [hnl x e2 l2]at q2;cases q2
 ·rw [if_neg hb]at mo av⊢
  have P':=qs7 s p P (qs8 (i:=0) h .refl) mo av
  refine⟨h,fun _ => ?_,fun k q=>by cases q⟩
  exact⟨(no2 ·),fun _=>P'.top (by omega),fun _=>P'.cl (by omega),fun _=>P'.recs (by omega),(no2 ·),(nq ·),fun _=>P'.srt (by omega),fun _=>P'.mid (by omega),(nl ·),(nl ·),fun x e l q=>by rw [hnl x e l]at q;cases q⟩
theorem qtD (P:PO c ws ts L own m)(h7:7≤m.next)(h9:m.next≤9){k a b:Int}(k7:7≤k)(k9:k≤9):PO c ws ts L own {m with next:=k,i:=a,b:=b} := by
 refine⟨fun q=>by have q:k=1∨k=2:=q;omega,fun _=>P.top (by omega),fun _=>P.cl (by omega),fun _=>P.recs (by omega),fun q=>by have q:k=3∨k=4:=q;omega,fun q=>by have q:k=4:=q;omega,fun _=>P.srt (by omega),fun _=>P.mid (by omega),fun _ _=>P.way (by omega) h9,fun q=>by have q:10≤k:=q;omega,fun x e l q=>⟨k7,k9,(P.lk x e l q).2.2⟩⟩
theorem qtE (hm:c.may)(s:SI c ws L own n)(p:PI c ws m)(h:OI c ws ts)(P:PO c ws ts L own m)(hn:m.next=9)
  (mo:Mono c ws (qnj m ws (qnr m)).2) (av:Av c ws (qnj m ws (qnr m)).2 L L' own own'):OI c (qnj m ws (qnr m)).2 ts∧PoR c (qnj m ws (qnr m)).2 ts L' own' (qnj m ws (qnr m)).1:=by
 have hc:=p.cfg
 obtain⟨d1,hw,e0,f1,f2,f3⟩:=p.lock (by omega) (by omega)
 obtain⟨o,e,w,u⟩:=qty hm p P (by omega) (by omega) hw (fun e q=>by rw [f1]at q;injection q with q;subst q;exact f2)
 rw [f1]at u
 injection u with u
 subst u
 have hdest:=p.dest
 have hv:=qrZ (F:=qm8 m.dest) f1 f2 (qtB (qof f1) f2 ⟨hdest.1,d1⟩)
 have ea:qjy m.c (qnr m).s 0=qjy c ((o.s.toNat:Nat):Int) 0:=by rw [hc,w.cur,qrF w.s.1]
 unfold qnj at mo av⊢
 simp only at mo av⊢
 rw [ea]at mo av⊢
 rw [w.cur]
 generalize chA m.word (qm8 m.dest)=v at hv mo av
 obtain⟨wa,wt⟩:=qtz p h P (by omega) (by omega) w
 have hz:∀y,exI c (qi7 ws (qjy c ((o.s.toNat:Nat):Int) 0) v) y=exI c ws y:=fun y=>by unfold exI szI;rw [qtj hm w.lo.1]
 have w1:=w.dest
 have w2:=w.eo
 have w3:=w.n
 have hso:=p.wg.1.objs
 rw [hc]at hso
 have hl:=p.wg.1.look (by omega) (by omega)
 have h0:=p.wg.1.at_
 have hl64:=p.wg.2.1
 have hd:=qts h0 hl
 rw [w.cur]at hd
 have ha:w64 (m.att+1)=m.att+1:=qiY (by omega) (by omega)
 have hno:=p.objs o w.mem
 have hwo:w64 (m.dest+o.n)=m.dest+o.n:=qiY (by omega) (by omega)
 refine⟨qtn hm s h w.lo hv ⟨hdest.1,by show m.dest≤e0.o;omega⟩ fun k lo hi r hk => ?_, ?_⟩
 ·show m.dest+exI c ws o.s.toNat≤lo∨hi≤m.dest
  rcases wa k lo hi r hk with q|q
  ·exact .inl (by omega)
  ·exact .inr q
 ·unfold qnb
  rw [hwo]
  show PoR c _ ts L' own' (qmR {m with dest:=m.dest+o.n,moved:=w64 (m.moved+1),att:=w64 (m.att+1)})
  rw [ha]
  refine qte ⟨qto hm s (P.top (by omega)) w.lo hv (.inl (by show m.dest+exI c ws o.s.toNat≤m.top;omega)),qtp hm s (P.cl (by omega)) w.lo hv,fun o2 ho=>⟨(P.recs (by omega) o2 ho).1,qtq hm s (P.recs (by omega) o2 ho).2 (hso o2 ho) w.lo hv rfl mo av⟩,P.srt (by omega),fun x e2 q ht => ?_,fun x e2 q => ?_⟩
  ·rw [hz]
   have ht:e2.o<m.top:=ht
   show e2.o+exI c ws x≤m.dest+o.n∨(Cov c _ (m.objs.drop (m.att+1).toNat) m.g x e2∧m.dest+o.n≤e2.o)
   rcases qtl hm s w.lo hv q with⟨rfl,rfl⟩|⟨hx,l2⟩
   ·exact .inl (by show m.dest+exI c ws o.s.toNat≤m.dest+o.n;omega)
   ·have r2:=Rg.ob (ts:=ts) x e2 l2
    have h8:=h.len r2
    rcases P.mid (by omega) x e2 l2 ht with z|⟨⟨o2,z1,z2,z3,z4,z5⟩,y⟩
    ·exact .inl (by omega)
    ·rw [hd]at z1
     rcases List.mem_cons.1 z1 with rfl|z1
     ·exact absurd (by omega) hx
     ·refine .inr ⟨⟨o2,z1,z2,z3,z4.trans (hz x).symm,z5⟩, ?_⟩
      rcases wa _ _ _ r2 (fun q=>hx (by injection q))with q|q
      ·omega
      ·omega
  ·rcases qtl hm s w.lo hv q with⟨_,rfl⟩|⟨hx,l2⟩
   ·rfl
   ·cases q2:e2.lk with
    | false=>rfl
    | true =>
      have:=(P.lk x e2 l2 q2).2.2
      rw [w.cur]at this
      exact absurd (by omega) hx
theorem qtF (hm:c.may)(t:Tn):Qt c ws (qnn c t ws).2∧∀x:Int,qi6 (qnn c t ws).2 (qjy c x 1)=qi6 ws (qjy c x 1):=by
 have hm':=hm
 unfold Cfg.may at hm'
 have k3:∀v,Qt c ws (qi7 ws 3 v)∧∀x:Int,qi6 (qi7 ws 3 v) (qjy c x 1)=qi6 ws (qjy c x 1):=fun v =>
  ⟨qsb hm (by omega) (by omega) (by omega),fun x=>qrg (by unfold qjy;split<;>omega)⟩
 have id:Qt c ws ws∧∀x:Int,qi6 ws (qjy c x 1)=qi6 ws (qjy c x 1):=⟨.refl,fun _=>rfl⟩
 unfold qnn
 split
 ·exact id
 split
 ·exact id
 split
 ·show Qt c ws (if qji ws 3 t.ep then qi7 ws 3 (w64 (t.ep+1))else ws)∧∀x:Int,qi6 (if qji ws 3 t.ep then qi7 ws 3 (w64 (t.ep+1))else ws) (qjy c x 1)=qi6 ws (qjy c x 1)
  split
  ·exact k3 _
  ·exact id
 split
 ·exact id
 ·exact id
theorem qtG (P:PO c ws ts L own m)(hn:m.next=10){k:Int}(hk:k=10∨k=11)(t:Option Tn):PO c ws ts L own {m with next:=k,turn:=t} := by
 have hnl:=qtd P (.inr (by omega))
 refine⟨fun q=>by have q:k=1∨k=2:=q;omega,fun _=>P.top (by omega),fun _=>P.cl (by omega),fun _=>P.recs (by omega),fun q=>by have q:k=3∨k=4:=q;omega,fun q=>by have q:k=4:=q;omega,fun _=>P.srt (by omega),fun _=>P.mid (by omega),fun _ q=>by have q:k≤9:=q;omega,fun _=>P.fin (by omega),fun x e l q=>by rw [hnl x e l]at q;cases q⟩
theorem qtH (hm:c.may)(p:PI c ws m)(h:OI c ws ts)(P:PO c ws ts L own m)(hn:m.next=11)(hb:qji ws 0 m.top=true):OI c (qi7 ws 0 m.dest) ts:=by
 have hm':=hm
 unfold Cfg.may at hm'
 have hg:=qri hb
 have q:Qe c ws (qi7 ws 0 m.dest):=qsa hm (by omega)
 have w0:qi6 (qi7 ws 0 m.dest) 0=m.dest:=qrh hg.1 hg.2.1
 have w2:qi6 (qi7 ws 0 m.dest) 2=qi6 ws 2:=qrg (by decide)
 have hsz:∀x:Int,qi6 (qi7 ws 0 m.dest) (qjy c x 1)=qi6 ws (qjy c x 1):=fun x=>qrg (by have:=qsc hm x 1 (by omega);omega)
 have hz:∀y,exI c (qi7 ws 0 m.dest) y=exI c ws y:=fun y=>by unfold exI szI;rw [hsz]
 obtain⟨f1,f2⟩:=P.fin (by omega)
 have htop:=h.top
 have hdest:=p.dest
 have nocl:∀j lo hi,¬Rg c ws ts (.inr j) lo hi:=fun j lo hi r=>by
  have:=P.cl (by omega) j lo hi r
  have:=(h.inn _ _ _ r).2
  have:=h.len r
  omega
 have was:∀k lo hi,Rg c (qi7 ws 0 m.dest) ts k lo hi→Rg c ws ts k lo hi:=fun k lo hi r=>by
  cases r with
  | ob x e' l =>
    obtain⟨e,h1,h2,_⟩:=qsZ q l
    rw [hz,h2]
    exact .ob x e h1
  | cl j u f b h1 h2=>exact .cl _ u _ _ h1 h2
 refine⟨fun x e' l => ?_,fun k lo hi r => ?_,fun k k' lo hi lo' hi' r r' hne=>h.dis k k' lo hi lo' hi' (was _ _ _ r) (was _ _ _ r') hne,by omega,fun j t ht a h1 h2 => ?_,by rw [w2];exact h.pend,h.few⟩
 ·obtain⟨e,h1,_,_,_,h5⟩:=qsZ q l
  rw [h5];exact h.sz x e h1
 ·have r1:=was _ _ _ r
  refine⟨(h.inn _ _ _ r1).1, ?_⟩
  rw [w0]
  cases r1 with
  | ob x e l =>
    have hi:=(h.inn _ _ _ (.ob (ts:=ts) x e l)).2
    have h8:=h.len (.ob (ts:=ts) x e l)
    rcases P.mid (by omega) x e l (by omega)with z|⟨⟨o2,z1,_⟩,_⟩
    ·exact z
    ·rw [List.drop_eq_nil_of_le (by omega)]at z1
     cases z1
  | cl j u f b h1 h2=>exact absurd (.cl _ u _ _ h1 h2) (nocl _ _ _)
 ·have ao:=h.al j t ht a h1 h2
  exact⟨ao.sz,ao.room,fun q=>by rw [hsz];exact ao.size q,ao.cl⟩
theorem qtI (hm:c.may)(s:SI c ws L own n)(p:PI c ws m)(h:OI c ws ts)(P:PO c ws ts L own m)(s':SI c (qns m ws bs).2.1 L' own' n')(mo:Mono c ws (qns m ws bs).2.1)(av:Av c ws (qns m ws bs).2.1 L L' own own') :
  OI c (qns m ws bs).2.1 ts∧PoR c (qns m ws bs).2.1 ts L' own' (qns m ws bs).1:=by
 have hnx:=p.wg.1.next
 have hn0:=p.wg.2.2
 have hc:=p.cfg
 unfold qns at s' mo av⊢
 by_cases h1:m.next=1
 ·rw [if_pos h1]at s' mo av⊢
  have P':=qs7 s p P (qs8 (i:=0) h .refl) mo av
  have hnl:=qtd P' (.inl (by omega))
  have ht:=h.top
  refine⟨h,fun _ => ?_,fun k q=>by cases q⟩
  exact⟨fun _=>P'.ini (.inl h1),fun _=>⟨ht.1,Int.le_refl _,fun k lo hi r => .inl (h.inn _ _ _ r).2⟩,(nl ·),(nl ·),(no2 ·),(nq ·),(nl ·),(nl ·),(nl ·),(nl ·),fun x e l q=>by rw [hnl x e l]at q;cases q⟩
 rw [if_neg h1]at s' mo av⊢
 by_cases h2:m.next=2
 ·rw [if_pos h2]at s' mo av⊢
  have P':=qs7 s p P (qs8 (i:=0) h .refl) mo av
  have hnl:=qtd P' (.inl (by omega))
  refine⟨h, ?_⟩
  show PoR c ws ts L' own' (if qi6 ws 2≠0 then qmQ m else onM m 3)
  by_cases g:qi6 ws 2≠0
  ·rw [if_pos g];exact⟨(fun q=>by cases q),fun _ _=>hnl⟩
  ·rw [if_neg g]
   have g0:qi6 ws 2=0:=Classical.byContradiction g
   obtain⟨i1,i2,i3,i4⟩:=P'.ini (.inr h2)
   refine⟨fun _ => ?_,fun k q=>by cases q⟩
   exact⟨(no2 ·),fun _=>P'.top (by omega),fun _ j lo hi r=>absurd r (qtr h g0 j lo hi),(fun _ o ho=>by have ho:o∈m.objs:=ho;rw [i3]at ho;cases ho),fun _=>⟨i1,i2,(fun o ho=>by have ho:o∈m.objs:=ho;rw [i3]at ho;cases ho),fun x e l _ hx=>by have hx:(x:Int)<m.slot:=hx;omega⟩,(nq ·),(nl ·),(nl ·),(nl ·),(nl ·),fun x e l q=>by rw [hnl x e l]at q;cases q⟩
 rw [if_neg h2]at s' mo av⊢
 by_cases h3:m.next=3
 ·rw [if_pos h3]at s' mo av⊢
  exact⟨h,qtv hm s' p (qs7 s p P (qs8 (i:=0) h .refl) mo av) h3⟩
 rw [if_neg h3]at s' mo av⊢
 by_cases h4:m.next=4
 ·rw [if_pos h4]at s' mo av⊢
  exact⟨h,qtw hm s' p h (qs7 s p P (qs8 (i:=0) h .refl) mo av) h4⟩
 rw [if_neg h4]at s' mo av⊢
 by_cases h5:m.next=5
 ·rw [if_pos h5]at s' mo av⊢
  exact⟨h,qtu hm s' p h (qs7 s p P (qs8 (i:=0) h .refl) mo av) h5⟩
 rw [if_neg h5]at s' mo av⊢
 by_cases h6:m.next=6
 ·rw [if_pos h6]at s' mo av⊢
  exact qtC hm s p h P h6 mo av
 rw [if_neg h6]at s' mo av⊢
 by_cases h7:m.next=7
 ·rw [if_pos h7]at s' mo av⊢
  have P':=qs7 s p P (qs8 (i:=0) h .refl) mo av
  exact⟨h,fun _=>qtD P' (by omega) (by omega) (k:=8) (by omega) (by omega),fun k q=>by cases q⟩
 rw [if_neg h7]at s' mo av⊢
 by_cases h8:m.next=8
 ·rw [if_pos h8]at s' mo av⊢
  have P':=qs7 s p P (qs8 (i:=0) h .refl) mo av
  refine⟨h,fun _ => ?_,fun k q=>by cases q⟩
  show PO c ws ts L' own' {m with next:=if w64 (m.i+1)<(qnr m).n then 7 else 9,i:=w64 (m.i+1),b:=m.b}
  exact qtD P' (by omega) (by omega) (by split<;>omega) (by split<;>omega)
 rw [if_neg h8]at s' mo av⊢
 by_cases h9:m.next=9
 ·rw [if_pos h9]at s' mo av⊢
  exact qtE hm s p h P h9 mo av
 rw [if_neg h9]at s' mo av⊢
 by_cases h10:m.next=10
 ·rw [if_pos h10]at s' mo av⊢
  have mo:Mono c ws (qnn m.c (m.turn.getD ⟨0,0,0⟩) ws).2:=mo
  have av:Av c ws (qnn m.c (m.turn.getD ⟨0,0,0⟩) ws).2 L L' own own':=av
  generalize m.turn.getD ⟨0,0,0⟩=t at mo av
  have tq:=qtF (ws:=ws) hm t
  rw [hc]at mo av
  have P':=qs7 s p P (qs8 (i:=0) h tq.1) mo av
  have hnl:=qtd P' (.inr (by omega))
  show OI c (qnn m.c t ws).2 ts∧PoR c (qnn m.c t ws).2 ts L' own' (qnp m t ws).1
  rw [hc]
  refine⟨qta h tq.1 tq.2, ?_⟩
  unfold qnp
  simp only
  split
  ·exact⟨fun _=>qtG P' h10 (.inl rfl) _,fun k q=>by cases q⟩
  split
  ·exact⟨(fun q=>by cases q),fun _ _=>hnl⟩
  ·exact⟨fun _=>qtG P' h10 (.inr rfl) _,fun k q=>by cases q⟩
 rw [if_neg h10]at s' mo av⊢
 have h11:m.next=11:=by omega
 have P2:=qtd P (.inr (by omega))
 show OI c (if qji ws 0 m.top then qi7 ws 0 m.dest else ws) ts∧PoR c (if qji ws 0 m.top then qi7 ws 0 m.dest else ws) ts L' own' (qmQ {m with low:=qji ws 0 m.top})
 by_cases hb:qji ws 0 m.top=true
 ·rw [if_pos hb]
  refine⟨qtH hm p h P h11 hb,fun q=>(by cases q),fun _ _ x e l => ?_⟩
  have hm':=hm
  unfold Cfg.may at hm'
  obtain⟨e2,h1,_,_,h4,_⟩:=qsZ (qsa (c:=c) (ws:=ws) (k:=0) (v:=m.dest) hm (by omega)) l
  rw [h4];exact P2 x e2 h1
 ·rw [if_neg hb]
  exact⟨h,fun q=>(by cases q),fun _ _=>P2⟩
end
end Go.Proofs.YtdinebegmppnoabGreat

/- Objects: a world's picks keep them apart. Plain. -/
namespace Go.Proofs.YtdinebegmppnoabGreat
open Go Go.Ir

structure WO (c:Cfg)(w:Wst)(n:Nat)(L:List Nat):Prop where
 ws:WS c w n L
 oi:OI c w.ws w.ts
 po:PO c w.ws w.ts L (qr1 c w.ts) w.m
section
variable {c:Cfg}{ws ws' bs:List Int}{ts ts':List Th}{L L':List Nat}{own own':Nat→Option Nat}{n n' i:Nat}
theorem qtJ (h:qs5 c ws):PO c ws ts L own (mc0 c) :=
 ⟨fun _=>⟨rfl,rfl,rfl,rfl⟩,(nl ·),(nl ·),(nl ·),(no2 ·),(nq ·),(nl ·),(nl ·),(nl ·),(nl ·),fun x e l q=>by rw [h x e l]at q;cases q⟩
theorem qtK {w:Wst}(hm:c.may)(h:WO c w n L)(hn:n<4294967294)(k:Int):∃L',WO c (qqC c w k).1 (n+1) L':=by
 obtain⟨L',a,b,d⟩:=qr4 hm h.ws hn k
 unfold qqC at a b d⊢
 split
 ·exact⟨L,h.ws.stay,h.oi,h.po⟩
 ·rename_i h1
  rw [if_neg h1]at a b d
  split
  ·rename_i h2
   rw [if_pos h2]at a b d
   have et:(qqA c w).ts=w.ts∧(qqA c w).ws=(qns w.m w.ws w.bs).2.1:=by
    unfold qqA
    cases(qns w.m w.ws w.bs).1.2<;>exact⟨rfl,rfl⟩
   have a:WS c (qqA c w) (n+1) L':=a
   have b:Mono c w.ws (qqA c w).ws:=b
   have d:Av c w.ws (qqA c w).ws L L' (qr1 c w.ts) (qr1 c (qqA c w).ts):=d
   have asi:=a.si
   rw [et.2]at b
   rw [et.1,et.2]at d asi
   obtain⟨o1,o2,o3⟩:=qtI (bs:=w.bs) hm h.ws.si h.ws.pi h.oi h.po asi b d
   refine⟨L',a, ?_, ?_⟩
   ·show OI c (qqA c w).ws (qqA c w).ts
    rw [et.1,et.2];exact o1
   ·show PO c (qqA c w).ws (qqA c w).ts L' (qr1 c (qqA c w).ts) (qqA c w).m
    rw [et.1,et.2]
    unfold qqA
    cases hz:(qns w.m w.ws w.bs).1.2 with
    | none=>exact o2 hz
    | some r=>exact qtJ (o3 r hz)
  ·rename_i h2
   rw [if_neg h2]at a b d
   cases hk:w.ts[k.toNat]? with
   | none=>exact⟨L,h.ws.stay,h.oi,h.po⟩
   | some t =>
     rw [hk]at a b d
     simp only at a b d⊢
     by_cases ho:t.ops = []
     ·rw [if_pos ho];exact⟨L,h.ws.stay,h.oi,h.po⟩
     ·rw [if_neg ho]at a b d⊢
      have hw:=h.ws
      have hown:qr1 c w.ts k.toNat=qrT c t:=by unfold qr1;rw [hk]
      obtain⟨t1,t2⟩:=qsS (bs:=w.bs) hm hw.si (hw.th _ t hk) hown (h.oi.al _ t hk)
      have v:=qs0 h.oi hk t2
      have oth:∀(j:Nat) u,j≠k.toNat→w.ts[j]? = some u→TAO c (thS c t w.ws w.bs).2.1 u:=fun j u hj hu x q1 q2=>by
       have mi:=hw.th j u hu q1
       rw [q2]at mi
       have hq:=qsH (bs:=w.bs) hm (hw.th _ t hk) hown
       refine(h.oi.al j u hu x q1 q2).qz (i:=k.toNat) (own:=qr1 c w.ts) hw.si hq hj ?_ mi
       unfold qr1
       rw [hu]
       show(if u.nx=2 then qru c u.m else none)=_
       rw [if_pos q1,q2]
      have o1:=qs3 hm h.oi hk t2 t1 oth
      exact⟨L',a,o1,qs7 hw.si hw.pi h.po v b d⟩
theorem qtL {c:Cfg}(hm:c.may){k:Nat}(h0:k≠1)(h1:(k:Int)<4+c.T):qi6 (qjK c) k=0:=by
 unfold Cfg.may at hm
 have hl:((qjK c).length:Int)=qi3 c:=by rw [qjM];unfold qi3;omega
 unfold qi3 at hl
 unfold qi6
 rw [if_pos ⟨by omega,by omega⟩,show((k:Int)).toNat=k by omega,List.getD_eq_getElem?_getD]
 unfold qjK
 rw [List.getElem?_set_ne (Ne.symm h0),qjN c 0 (by unfold qi3;omega)]
 unfold qjJ
 rw [if_neg (by omega)]
 rfl
theorem qtM {c:Cfg}{l:List (Value×List Op4)}{i:Nat}{t:Th}(h:(w0 c l).ts[i]? = some t):t.nx=0:=by
 obtain⟨j,_,rfl⟩:=List.mem_map.1 (List.mem_of_getElem? h)
 rfl
theorem qtN {c:Cfg}(hm:c.may)(l:List (Value×List Op4)):WO c (w0 c l) 0 (List.range' 0 c.S.toNat):=by
 have hm':=hm
 unfold Cfg.may at hm'
 have nolo:∀x e,¬LO c (w0 c l).ws x e:=fun x e q=>by
  have h1:=q.2.1
  have h2:en c (w0 c l).ws x=some Ent.zero:=qr7 hm q.1
  rw [h2]at h1
  injection h1 with h1
  subst h1
  have:=q.2.2
  cases this
 have nocl:∀(i:Nat) t,(w0 c l).ts[i]? = some t→clR t=none∧pnB t=false:=fun i t ht=>by
  have:=qtM ht
  exact⟨if_neg (by omega),if_neg (by omega)⟩
 have norg:∀k lo hi,¬Rg c (w0 c l).ws (w0 c l).ts k lo hi:=fun k lo hi r=>by
  cases r with
  | ob x e q=>exact nolo x e q
  | cl j u f b h1 h2=>rw [(nocl j u h1).1]at h2;cases h2
 have z0:qi6 (w0 c l).ws 0=0:=qtL hm (k:=0) (by omega) (by omega)
 have z2:qi6 (w0 c l).ws 2=0:=qtL hm (k:=2) (by omega) (by omega)
 refine⟨qr8 hm l,⟨fun x e q=>absurd q (nolo x e),fun k lo hi r=>absurd r (norg k lo hi),fun k k' lo hi lo' hi' r _ _=>absurd r (norg k lo hi),by omega,fun i t ht a q => ?_, ?_, ?_⟩,qtJ fun x e q=>absurd q (nolo x e)⟩
 ·have:=qtM ht
  omega
 ·rw [z2]
  have:(w0 c l).ts.filter pnB = []:=List.filter_eq_nil_iff.2 fun t ht=>by
   obtain⟨i,hi,he⟩:=List.getElem_of_mem ht
   rw [(nocl i t (by rw [List.getElem?_eq_getElem hi,he])).2]
   simp
  unfold qsT
  rw [this]
  rfl
 ·show(tsW c l c.T.toNat).length≤4
  simp [tsW];omega
end
end Go.Proofs.YtdinebegmppnoabGreat

/- A world is sound: its audit. Plain. -/
namespace Go.Proofs.YtdinebegmppnoabGreat
open Go Go.Ir

def fdX (c:Cfg)(ws:List Int)(x:Nat)(e:Ent):Fd:=⟨⟨(x:Int),e.o,exI c ws x,decide (0<e.p)⟩,e⟩
section
variable {c:Cfg}{ws ws' bs:List Int}{ts ts':List Th}{L L':List Nat}{own own':Nat→Option Nat}{n n' i:Nat}{m:Mc}
theorem qtO (s:SI c ws L own n)(h:OI c ws ts):∀k:Nat,(k:Int)≤c.S→∃l,fdL ws c k=some l∧(∀a∈l,∃x e,LO c ws x e∧x<k∧a=fdX c ws x e)∧(l.Pairwise fun a b=>a.x.s<b.x.s)∧∀x e,LO c ws x e→x<k→fdX c ws x e∈l
 | 0,_=>⟨[],rfl,(fun a ha=>by cases ha),.nil,fun x e _ hx=>absurd hx (Nat.not_lt_zero _)⟩
 | k+1,hk=>by
   obtain⟨l,h1,h2,h3,h4⟩:=qtO s h k (by omega)
   obtain⟨e,he⟩:=s.valid k (by omega)
   have hf:fdS ws c k=fdO k (qi6 ws (qjy c k 1)) (some e):=by
    unfold fdS
    rw [show qkc (qi6 ws (qjy c k 0))=some e from he]
   have e1:fdL ws c (k+1)=fdA ws c k (some l):=by rw [fdL,h1]
   rw [e1]
   show ∃l',fdB l (fdS ws c k)=some l'∧_
   rw [hf]
   unfold fdO
   simp only
   by_cases hl:e.lv=false
   ·rw [if_pos hl]
    refine⟨l,by simp [fdB],fun a ha => ?_,h3,fun x e2 q hx => ?_⟩
    ·obtain⟨x,e2,a1,a2,a3⟩:=h2 a ha
     exact⟨x,e2,a1,by omega,a3⟩
    ·by_cases hxk:x=k
     ·subst hxk
      have:=q.2.1
      rw [he]at this
      injection this with this
      subst this
      have:=q.2.2
      rw [hl]at this;cases this
     ·exact h4 x e2 q (by omega)
   ·rw [if_neg hl]
    have lo:LO c ws k e:=⟨by omega,he,by simpa using hl⟩
    have hz:=h.sz k e lo
    have hz':1≤qi6 ws (qjy c k 1)∧qi6 ws (qjy c k 1)≤256:=hz
    have hex:qkr (qi6 ws (qjy c k 1))=exI c ws k:=by
     unfold exI qo6 szI
     rw [if_pos hz']
    rw [if_pos hz',hex]
    refine⟨l ++ [fdX c ws k e],rfl,fun a ha => ?_, ?_,fun x e2 q hx => ?_⟩
    ·rcases List.mem_append.1 ha with ha|ha
     ·obtain⟨x,e2,a1,a2,a3⟩:=h2 a ha
      exact⟨x,e2,a1,by omega,a3⟩
     ·rw [List.mem_singleton]at ha
      exact⟨k,e,lo,by omega,ha⟩
    ·refine List.pairwise_append.2 ⟨h3,List.pairwise_singleton _ _,fun a ha b hb => ?_⟩
     rw [List.mem_singleton]at hb
     obtain⟨x,e2,a1,a2,a3⟩:=h2 a ha
     rw [a3,hb]
     show(x:Int)<(k:Int)
     omega
    ·by_cases hxk:x=k
     ·subst hxk
      have:=q.2.1
      rw [he]at this
      injection this with this
      subst this
      exact List.mem_append_right _ (List.mem_singleton.2 rfl)
     ·exact List.mem_append_left _ (h4 x e2 q (by omega))
theorem qtP (hm:c.may)(s:SI c ws L own n)(h:OI c ws ts):qqU ws c=0∧(∀a∈qqT ws c,∃x e,LO c ws x e∧a=fdX c ws x e)∧((qqT ws c).Pairwise fun a b=>a.x.s<b.x.s)∧∀x e,LO c ws x e→fdX c ws x e∈qqT ws c:=by
 have hm':=hm
 unfold Cfg.may at hm'
 have hp:qqS ws c:=⟨hm,by rw [s.len];unfold qi3;omega⟩
 obtain⟨l,h1,h2,h3,h4⟩:=qtO s h c.S.toNat (by omega)
 have e1:qqT ws c=l:=by unfold qqT;rw [if_pos hp,h1];rfl
 rw [e1]
 refine⟨by unfold qqU fdE;rw [if_pos hp,h1];rfl,fun a ha => ?_,h3,fun x e q=>h4 x e q (by have:=q.1;omega)⟩
 obtain⟨x,e,a1,_,a3⟩:=h2 a ha
 exact⟨x,e,a1,a3⟩
end
end Go.Proofs.YtdinebegmppnoabGreat

/- A world's audit finds nothing; the bytes of all objects. Plain. -/
namespace Go.Proofs.YtdinebegmppnoabGreat
open Go Go.Ir

section
variable {c:Cfg}{w:Wst}{L:List Nat}{n:Nat}
theorem qtQ {ws:List Int}{t:Th}(ao:TAO c ws t):thH t=clR t:=by
 unfold thH clR
 split
 ·rename_i h2
  unfold mxH clM
  cases hm:t.m with
  | al a =>
    simp only
    have hc:=(ao a h2 hm).cl
    by_cases hk:7≤a.nx∧a.nx≤10
    ·rw [if_pos hk,if_pos (hc.2 hk)]
    ·rw [if_neg hk,if_neg fun q=>hk (hc.1 q)]
  | fe a=>rfl
  | rd a=>rfl
  | wr a=>rfl
  | pn a=>rfl
  | no=>rfl
 ·rfl
theorem qtR {t:Th}{ws:List Int}(ao:TAO c ws t){o:Obj}(h:o∈hoW t):clR t=some (o.o,o.n):=by
 unfold hoW at h
 rw [qtQ ao]at h
 cases hc:clR t with
 | none=>rw [hc]at h;cases h
 | some p =>
   rw [hc]at h
   rw [List.mem_singleton]at h
   subst h
   rfl
theorem qtS (h:OI c w.ws w.ts){o:Obj}(ho:o∈qq0 w.ts):∃i t,w.ts[i]? = some t∧o∈hoW t∧Rg c w.ws w.ts (.inr i) o.o (o.o+o.n):=by
 unfold qq0 at ho
 obtain⟨l,hl,hol⟩:=List.mem_flatten.1 ho
 obtain⟨t,ht,rfl⟩:=List.mem_map.1 hl
 obtain⟨i,hi,he⟩:=List.getElem_of_mem ht
 have hit:w.ts[i]? = some t:=by rw [List.getElem?_eq_getElem hi,he]
 exact⟨i,t,hit,hol,.cl i t _ _ hit (qtR (h.al i t hit) hol)⟩
theorem qtT (t:Th){R:Obj→Obj→Prop} : (hoW t).Pairwise R:=by
 unfold hoW
 split
 ·exact List.pairwise_singleton _ _
 ·exact .nil
theorem qtU (h:OI c w.ws w.ts):(qq0 w.ts).Pairwise fun x y=>x.o+x.n≤y.o∨y.o+y.n≤x.o:=by
 unfold qq0
 refine List.pairwise_flatten.2 ⟨fun l hl => ?_, ?_⟩
 ·obtain⟨t,_,rfl⟩:=List.mem_map.1 hl
  exact qtT t
 ·rw [List.pairwise_map,List.pairwise_iff_getElem]
  intro i j hi hj hij x hx y hy
  have a:=qtR (h.al i _ (List.getElem?_eq_getElem hi)) hx
  have b:=qtR (h.al j _ (List.getElem?_eq_getElem hj)) hy
  refine h.dis (.inr i) (.inr j) _ _ _ _ (.cl i _ _ _ (List.getElem?_eq_getElem hi) a) (.cl j _ _ _ (List.getElem?_eq_getElem hj) b) fun q => ?_
  injection q with q
  omega
theorem qtV (lo hi:Nat):∀W,hi≤W→lo≤hi→(List.range W).countP (fun r=>decide (lo≤r∧r<hi))=hi-lo:=by
 have gen:∀W,(List.range W).countP (fun r=>decide (lo≤r∧r<hi))=min hi W-min lo (min hi W):=by
  intro W
  induction W with
  | zero=>simp
  | succ W ih =>
    rw [List.range_succ,List.countP_append,ih,List.countP_singleton]
    by_cases q:lo≤W∧W<hi
    ·rw [decide_eq_true q];simp;omega
    ·rw [decide_eq_false q];simp;omega
 intro W h1 h2
 rw [gen]
 omega
def qtW (l:List (Nat×Nat)):Nat:=(l.map fun p=>p.2-p.1).sum
theorem qtX:∀(l:List (Nat×Nat)) (W:Nat),(∀p∈l,p.1≤p.2∧p.2≤W)→(l.Pairwise fun p q=>p.2≤q.1∨q.2≤p.1)→qtW l≤(List.range W).countP (fun r=>l.any fun p=>decide (p.1≤r∧r<p.2))
 | [],W,_,_=>by simp [qtW]
 | p::l,W,h,hp=>by
   have ih:=qtX l W (fun q hq=>h q (List.mem_cons_of_mem _ hq)) (List.pairwise_cons.1 hp).2
   have hd:=(List.pairwise_cons.1 hp).1
   have h0:=h p List.mem_cons_self
   have e1:qtW (p::l)=(p.2-p.1)+qtW l:=by simp [qtW]
   have split:∀R:List Nat,R.countP (fun r=>(p::l).any fun p=>decide (p.1≤r∧r<p.2))=R.countP (fun r=>decide (p.1≤r∧r<p.2))+R.countP (fun r=>l.any fun p=>decide (p.1≤r∧r<p.2)):=by
    intro R
    induction R with
    | nil=>rfl
    | cons r R ih =>
      rw [List.countP_cons,List.countP_cons,List.countP_cons,ih,List.any_cons]
      by_cases q:p.1≤r∧r<p.2
      ·have hno:(l.any fun p=>decide (p.1≤r∧r<p.2))=false:=by
        rw [List.any_eq_false]
        intro x hx
        have:=hd x hx
        simp only [decide_eq_true_eq]
        omega
       rw [hno,decide_eq_true q]
       simp
       omega
      ·rw [decide_eq_false q,Bool.false_or]
       simp
       omega
   rw [split,qtV p.1 p.2 W h0.2 h0.1,e1]
   omega
theorem qtY {l:List (Nat×Nat)}{W:Nat}(h:∀p∈l,p.1≤p.2∧p.2≤W)(hp:l.Pairwise fun p q=>p.2≤q.1∨q.2≤p.1):qtW l≤W :=
 Nat.le_trans (qtX l W h hp) (by have:=List.countP_le_length (l:=List.range W) (p:=fun r=>l.any fun p=>decide (p.1≤r∧r<p.2));rwa [List.length_range]at this)
def qtZ (l:List Obj):Int:=(l.map fun o=>o.n).sum
theorem qt0:∀{l:List Obj},(∀o∈l,0≤o.o∧1≤o.n)→qtZ l=qtW (l.map fun o=>(o.o.toNat,(o.o+o.n).toNat))
 | [],_=>rfl
 | o::l,h=>by
   have ih:=qt0 (l:=l) fun x hx=>h x (List.mem_cons_of_mem _ hx)
   have h0:=h o List.mem_cons_self
   unfold qtZ qtW at *
   rw [List.map_cons,List.sum_cons,ih,List.map_cons,List.map_cons,List.sum_cons]
   simp only
   omega
theorem qt1 {l:List Obj}{top:Int}(h:∀o∈l,0≤o.o∧1≤o.n∧o.o+o.n≤top)(hp:l.Pairwise fun x y=>x.o+x.n≤y.o∨y.o+y.n≤x.o)(h0:0≤top):qtZ l≤top:=by
 rw [qt0 fun o ho=>by have:=h o ho;omega]
 have:=qtY (l:=l.map fun o=>(o.o.toNat,(o.o+o.n).toNat)) (W:=top.toNat) (fun p hp=>by
  obtain⟨o,ho,rfl⟩:=List.mem_map.1 hp
  have:=h o ho
  simp only
  omega) (by
  rw [List.pairwise_map]
  refine hp.imp_of_mem fun {a b} ha hb hab => ?_
  have:=h a ha
  have:=h b hb
  simp only
  omega)
 omega
theorem qt2 (hm:c.may)(h:WO c w n L):qqU w.ws c=0∧qtZ (qqY w.ws c)+qtZ (qq0 w.ts)≤qi6 w.ws 0∧∀o∈qqY w.ws c++qq0 w.ts,1≤o.n∧o.n≤4096:=by
 obtain⟨e1,e2,e3,e4⟩:=qtP hm h.ws.si h.oi
 have htop:=h.oi.top
 have hm':=hm
 unfold Cfg.may at hm'
 have es:qtZ (qqY w.ws c)+qtZ (qq0 w.ts)=qtZ (qqY w.ws c++qq0 w.ts):=by
  unfold qtZ
  rw [List.map_append,List.sum_append]
 have fit:∀o∈qqY w.ws c++qq0 w.ts,0≤o.o∧1≤o.n∧o.o+o.n≤qi6 w.ws 0:=fun o ho=>by
  rcases List.mem_append.1 ho with ho|ho
  ·obtain⟨a,ha,rfl⟩:=List.mem_map.1 ho
   obtain⟨x,e,l,rfl⟩:=e2 a ha
   have a:=h.oi.inn _ _ _ (.ob x e l)
   have b:=h.oi.len (.ob x e l)
   show 0≤e.o∧1≤exI c w.ws x∧e.o+exI c w.ws x≤qi6 w.ws 0
   omega
  ·obtain⟨i,t,_,_,r⟩:=qtS h.oi ho
   have a:=h.oi.inn _ _ _ r
   have b:=h.oi.len r
   omega
 rw [es]
 refine⟨e1,qt1 fit (List.pairwise_append.2 ⟨?_,qtU h.oi,fun x hx y hy => ?_⟩) htop.1,fun o ho=>by have:=fit o ho;omega⟩
 ·unfold qqY
  rw [List.pairwise_map]
  refine e3.imp_of_mem fun {a b} ha hb hab => ?_
  obtain⟨x,e,l,rfl⟩:=e2 a ha
  obtain⟨y,f,k,rfl⟩:=e2 b hb
  have hab:(x:Int)<(y:Int):=hab
  exact h.oi.dis _ _ _ _ _ _ (.ob x e l) (.ob y f k) fun q=>by
   injection q with q
   omega
 ·obtain⟨a,ha,rfl⟩:=List.mem_map.1 hx
  obtain⟨x,e,l,rfl⟩:=e2 a ha
  obtain⟨i,t,_,_,r⟩:=qtS h.oi hy
  exact h.oi.dis _ _ _ _ _ _ (.ob x e l) r fun q=>by cases q
end
end Go.Proofs.YtdinebegmppnoabGreat

