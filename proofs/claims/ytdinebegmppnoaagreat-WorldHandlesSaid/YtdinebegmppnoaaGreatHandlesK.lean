/- What threads tell is a history, and each op is asked in its order: plain. -/
import Derived.Test.YtdinebegmppnoaaGreatHandlesQ
import Derived.Test.YtdinebegmppnoaaGreatHandlesJ
import Derived.Test.YtdinebegmppnoaaGreatThreadQ3
import Derived.Test.YtdinebegmppnoaaGreatHandlesL
set_option linter.unusedVariables false
set_option linter.unusedSimpArgs false

namespace Go.Proofs.YtdinebegmppnoaaGreat
open Go Go.Ir

def Low (c:Cfg)(ws ws':List Int):Prop:=∀j,4≤j→j<4+c.T→qiT ws' j=qiT ws j
section
variable {c:Cfg}{ws bs:List Int}
theorem Low.refl:Low c ws ws:=fun _ _ _=>rfl
theorem qse {i v:Int}(h:i<4):Low c ws (qiU ws i v):=fun j h1 h2=>qqJ (by omega)
theorem qsf (hT:0≤c.T){t k v:Int}(hk:0≤k):Low c ws (qiU ws (qjl c t k) v):=fun j h1 h2=>qqJ (by
 unfold qjl
 split<;>omega)
theorem qsg (hT:0≤c.T)(s:Sk):Low c ws (qnC c s ws).2.1:=by
 unfold qnC
 repeat' split
 all_goals first|exact Low.refl|exact qse (by omega)
theorem qsh (hT:0≤c.T)(s:Sk):Low c ws (qnD c s ws).2.1:=by
 unfold qnD
 repeat' split
 all_goals first|exact Low.refl|exact qse (by omega)|exact qsf hT (by omega)
theorem qsi (hT:0≤c.T)(s:Al):Low c ws (alS c s ws bs).2.1:=by
 unfold alS
 by_cases h0:s.nx=0
 ·rw [if_pos h0];exact Low.refl
 rw [if_neg h0]
 by_cases h1:s.nx=1
 ·rw [if_pos h1];split<;>exact Low.refl
 rw [if_neg h1]
 by_cases h2:s.nx=2
 ·rw [if_pos h2];split
  ·exact qse (by omega)
  ·exact Low.refl
 rw [if_neg h2]
 by_cases h3:s.nx=3
 ·rw [if_pos h3]
  have:=qsg (c:=c) (ws:=ws) hT s.p
  show Low c ws (qoZ s (qnC c s.p ws)).2
  unfold qoZ
  repeat' split
  all_goals exact this
 rw [if_neg h3]
 by_cases h4:s.nx=4
 ·rw [if_pos h4];split<;>exact Low.refl
 rw [if_neg h4]
 by_cases h5:s.nx=5
 ·rw [if_pos h5];split
  ·exact qse (by omega)
  ·exact Low.refl
 rw [if_neg h5]
 by_cases h6:s.nx=6
 ·rw [if_pos h6]
  have:=qsh (c:=c) (ws:=ws) hT s.q
  show Low c ws (qo0 s (qnD c s.q ws)).2
  unfold qo0
  repeat' split
  all_goals exact this
 rw [if_neg h6]
 by_cases h7:s.nx=7
 ·rw [if_pos h7];split<;>exact Low.refl
 rw [if_neg h7]
 by_cases h8:s.nx=8
 ·rw [if_pos h8];exact qsf hT (by omega)
 rw [if_neg h8]
 by_cases h9:s.nx=9
 ·rw [if_pos h9];exact Low.refl
 rw [if_neg h9]
 by_cases ha:s.nx=10
 ·rw [if_pos ha]
  show Low c ws (if s.kept=0 then qiU ws (qjl c s.slot 0) s.word else ws)
  split
  ·exact qsf hT (by omega)
  ·exact Low.refl
 rw [if_neg ha]
 by_cases hb:s.nx=11
 ·rw [if_pos hb];exact Low.refl
 rw [if_neg hb]
 split
 ·exact qse (by omega)
 ·exact Low.refl
theorem qsj (hT:0≤c.T)(s:Fe):Low c ws (feS c s ws).2.1:=by
 unfold feS
 split
 ·exact Low.refl
 split
 ·split<;>exact Low.refl
 split
 ·split
  ·split<;>exact qsf hT (by omega)
  ·exact Low.refl
 ·have:=qsh (c:=c) (ws:=ws) hT s.p
  unfold qoN
  split<;>exact this
theorem qsk (hT:0≤c.T)(s:Wr):Low c ws (wrS c s ws bs).2.1:=by
 unfold wrS wrG
 repeat' split
 all_goals first|exact Low.refl|exact qsf hT (by omega)
theorem qsl (hT:0≤c.T)(s:Pn):Low c ws (pnS c s ws).2.1:=by
 unfold pnS pnG
 repeat' split
 all_goals first|exact Low.refl|exact qsf hT (by omega)
theorem qsm (hT:0≤c.T)(m:Mx):Low c ws (mxS c m ws bs).2.1:=by
 cases m with
 | al s=>exact qsi hT s
 | fe s=>exact qsj hT s
 | rd s=>exact Low.refl
 | wr s=>exact qsk hT s
 | pn s=>exact qsl hT s
 | no=>exact Low.refl
end

abbrev Op:=Int×Int×Int×Int
def opT (o:Op4):Op:=(o.d,o.h,o.f,o.n)
def evO (e:Evt):Op:=(e.d,e.h,e.o,e.n)
def qsn (t:Int)(e:Evt):Bool:=e.th==t && !e.bk
def qso (t:Int)(l:List Evt):List Op:=(l.filter (qsn t)).map evO
theorem qsp (t:Int)(l k:List Evt):qso t (l++k)=qso t l++qso t k:=by unfold qso;rw [List.filter_append,List.map_append]
theorem qsq (t:Int)(l k:List Evt):qrP t (l++k)=qrP t l+qrP t k:=by unfold qrP;exact List.countP_append

structure TI (c:Cfg)(ws:List Int)(l:List Evt)(p:List Op4)(i:Nat)(t:Th):Prop where
 num:t.num=i
 cnt:qrP i l%2=if t.nx=0 then 0 else 1
 ops:∃k,t.ops=p.drop k∧qso i l=(p.take (k+(if t.nx=0 then 0 else 1))).map opT∧(t.nx≠0→k<p.length)
 note:(i:Int)<c.T→qiT ws (4+i)≠0→t.nx≠0
structure HI (c:Cfg)(ws:List Int)(l:List Evt)(ps:Nat→List Op4)(ts:List Th):Prop where
 ok:qrQ l
 four:ts.length≤4
 thr:∀e∈l,0≤e.th∧e.th<ts.length
 th:∀(i:Nat) t,ts[i]? = some t→TI c ws l (ps i) i t

def qsr (n:Int)(o:Op4):Evt:=⟨n,false,o.d,o.h,o.f,o.n,0,0⟩
def qss (n cd nn:Int):Evt:=⟨n,true,0,0,0,0,cd,nn⟩

theorem TI.other {c:Cfg}{ws ws':List Int}{l es:List Evt}{p:List Op4}{j:Nat}{u:Th}(h:TI c ws l p j u)(he:∀e∈es,e.th≠j)(hw:(j:Int)<c.T→qiT ws' (4+j)=qiT ws (4+j)):TI c ws' (l++es) p j u:=by
 have h0:qrP j es=0:=by
  unfold qrP
  rw [List.countP_eq_zero]
  intro e hm
  simp [he e hm]
 have h1:qso j es = []:=by
  unfold qso
  rw [List.map_eq_nil_iff,List.filter_eq_nil_iff]
  intro e hm
  simp [qsn,he e hm]
 refine⟨h.num,by rw [qsq,h0];exact h.cnt, ?_,fun hj hn=>h.note hj (by rw [←hw hj];exact hn)⟩
 rw [qsp,h1,List.append_nil]
 exact h.ops

theorem qst {c:Cfg}{ws bs:List Int}{l:List Evt}{ps:Nat→List Op4}{ts:List Th}{i:Nat}{t:Th}(hT:0≤c.T)(hN:∀i:Nat,ps i≠[]→(i:Int)<c.T)(h:HI c ws l ps ts)(ht:ts[i]? = some t) :
  ∃es,(thS c t ws bs).2.2.2=vcs es∧es.length≤1∧HI c (thS c t ws bs).2.1 (l++es) ps (ts.set i (thS c t ws bs).1):=by
 have hi:=(List.getElem?_eq_some_iff.1 ht).1
 have h4:=h.four
 have T:=h.th i t ht
 -- joins: the thread's own part, then the others'
 have join:∀(t':Th) (ws':List Int) (es:List Evt),(∀e∈es,e.th=i)→qrQ (l++es)→TI c ws' (l++es) (ps i) i t'→(∀j:Nat,j≠i→(j:Int)<c.T→qiT ws' (4+j)=qiT ws (4+j))→HI c ws' (l++es) ps (ts.set i t'):=fun t' ws' es e1 e2 e3 e4=>by
  refine⟨e2,by rw [List.length_set];exact h4,fun e he => ?_,fun j u hu => ?_⟩
  ·rw [List.length_set]
   rcases List.mem_append.1 he with q|q
   ·exact h.thr e q
   ·rw [e1 e q];omega
  by_cases hj:i=j
  ·subst hj
   rw [List.getElem?_set_self hi]at hu
   injection hu with hu
   subst hu
   exact e3
  ·rw [List.getElem?_set_ne hj]at hu
   exact(h.th j u hu).other (fun e he q=>hj (by have:=e1 e he;omega)) (e4 j (Ne.symm hj))
 have okN:qrQ (l ++ []):=by rw [List.append_nil];exact h.ok
 have lo:∀ws',Low c ws ws'→∀j:Nat,j≠i→(j:Int)<c.T→qiT ws' (4+j)=qiT ws (4+j):=fun ws' hl j _ hj=>hl (4+j) (by omega) (by omega)
 obtain⟨k,k1,k2,k3⟩:=T.ops
 cases ho:t.ops with
 | nil =>
   have e:thS c t ws bs=(t,ws,bs,[]):=by unfold thS;rw [ho]
   rw [e]
   refine⟨[],rfl,Nat.zero_le _,join t ws [] (fun e he=>by cases he) okN ?_ (fun j _ _=>rfl)⟩
   rw [List.append_nil]
   exact T
 | cons o r =>
   have hkl:k<(ps i).length:=by
    rw [ho]at k1
    have:=congrArg List.length k1
    rw [List.length_cons,List.length_drop]at this
    omega
   have hko:(ps i)[k]? = some o:=by
    have:((ps i).drop k)[0]? = some o:=by rw [←k1,ho];rfl
    rwa [List.getElem?_drop,Nat.add_zero]at this
   have hkr:(ps i).drop (k+1)=r:=by
    rw [ho]at k1
    rw [←List.drop_drop,←k1];rfl
   have hiT:(i:Int)<c.T:=hN i fun q=>by rw [q]at hkl;simp at hkl
   have htk:((ps i).take (k+1)).map opT=((ps i).take k).map opT ++ [opT o]:=by
    obtain⟨_,he⟩:=List.getElem?_eq_some_iff.1 hko
    rw [List.take_succ_eq_append_getElem hkl,List.map_append,he];rfl
   by_cases n0:t.nx=0
   ·have e:thS c t ws bs=({t with ep:=qiT ws 3,nx:=1},ws,bs,[evA t.num o]):=by unfold thS;rw [ho];simp only;rw [if_pos n0]
    rw [e]
    have hc:=T.cnt
    rw [if_pos n0]at hc k2
    refine⟨[qsr i o],by show [evA t.num o] = [Evt.cs _];rw [T.num];rfl,Nat.le_refl _,join _ _ _ (fun e he=>by rw [List.mem_singleton]at he;rw [he];rfl) ?_ ⟨T.num, ?_,⟨k, ?_, ?_,fun _=>hkl⟩,fun _ _=>by show(1:Int)≠0;decide⟩ (fun j _ _=>rfl)⟩
    ·rw [qrX]
     refine⟨h.ok, ?_⟩
     unfold okR
     rw [Bool.and_eq_true,Bool.and_eq_true,Bool.and_eq_true]
     refine⟨⟨⟨decide_eq_true (by show(0:Int)≤(i:Int);omega),decide_eq_true (by show(i:Int)<4;omega)⟩, ?_⟩,rfl⟩
     show(false==decide (qrP (i:Int) l%2=1))=true
     rw [hc];rfl
    ·rw [qsq]
     have:qrP i [qsr i o]=1:=by simp [qrP,qsr]
     rw [this,if_neg (show ¬(1:Int)=0 by decide)]
     omega
    ·exact k1
    ·rw [qsp,k2,if_neg (show ¬(1:Int)=0 by decide),htk]
     have:qso i [qsr i o] = [opT o]:=by simp [qso,qsn,qsr,evO,opT]
     rw [this,Nat.add_zero]
   have hc:=T.cnt
   rw [if_neg n0]at hc k2
   by_cases n1:t.nx=1
   ·have e:thS c t ws bs=({t with m:=mkM o,nx:=2},qiU ws (qjt c t.num) (w64 (t.ep+1)),bs,[]):=by unfold thS;rw [ho];simp only;rw [if_neg n0,if_pos n1]
    rw [e]
    refine⟨[],rfl,Nat.zero_le _,join _ _ _ (fun e he=>by cases he) okN ⟨T.num, ?_,⟨k, ?_, ?_,fun _=>hkl⟩,fun _ _=>by show(2:Int)≠0;decide⟩ (fun j hj hjT => ?_)⟩
    ·rw [List.append_nil,if_neg (show ¬(2:Int)=0 by decide)];exact hc
    ·exact k1
    ·rw [List.append_nil,if_neg (show ¬(2:Int)=0 by decide)];exact k2
    ·refine qqJ ?_
     rw [T.num]
     unfold qjt
     split<;>omega
   by_cases n2:t.nx=2
   ·have e:thS c t ws bs=thW t (mxS c t.m ws bs):=by unfold thS;rw [ho];simp only;rw [if_neg n0,if_neg n1,if_pos n2]
    have hlo:=qsm (c:=c) (ws:=ws) (bs:=bs) hT t.m
    rw [e]
    unfold thW
    split
    ·refine⟨[],rfl,Nat.zero_le _,join _ _ _ (fun e he=>by cases he) okN ⟨T.num, ?_,⟨k,k1, ?_,fun _=>hkl⟩,fun _ _=>n0⟩ (lo _ hlo)⟩
     ·rw [List.append_nil];show _=if t.nx=0 then 0 else 1;rw [if_neg n0];exact hc
     ·rw [List.append_nil];show _=((ps i).take (k+if t.nx=0 then 0 else 1)).map opT;rw [if_neg n0];exact k2
    ·refine⟨[],rfl,Nat.zero_le _,join _ _ _ (fun e he=>by cases he) okN ⟨T.num, ?_,⟨k,k1, ?_,fun _=>hkl⟩,fun _ _=>by show(3:Int)≠0;decide⟩ (lo _ hlo)⟩
     ·rw [List.append_nil,if_neg (show ¬(3:Int)=0 by decide)];exact hc
     ·rw [List.append_nil,if_neg (show ¬(3:Int)=0 by decide)];exact k2
   ·have e:thS c t ws bs=({t with ops:=r,nx:=0},qiU ws (qjt c t.num) 0,bs,[evB t.num t.cd t.nn]):=by unfold thS;rw [ho];simp only;rw [if_neg n0,if_neg n1,if_neg n2]
    rw [e]
    refine⟨[qss i t.cd t.nn],by show [evB t.num t.cd t.nn] = [Evt.cs _];rw [T.num];rfl,Nat.le_refl _,join _ _ _ (fun e he=>by rw [List.mem_singleton]at he;rw [he];rfl) ?_ ⟨T.num, ?_,⟨k+1, ?_, ?_,fun q=>absurd rfl q⟩,fun hj hn=>absurd ?_ hn⟩ (fun j hj hjT => ?_)⟩
    ·rw [qrX]
     refine⟨h.ok, ?_⟩
     unfold okR
     rw [Bool.and_eq_true,Bool.and_eq_true,Bool.and_eq_true]
     refine⟨⟨⟨decide_eq_true (by show(0:Int)≤(i:Int);omega),decide_eq_true (by show(i:Int)<4;omega)⟩, ?_⟩,rfl⟩
     show(true==decide (qrP (i:Int) l%2=1))=true
     rw [hc];rfl
    ·rw [qsq]
     have:qrP i [qss i t.cd t.nn]=1:=by simp [qrP,qss]
     rw [this,if_pos rfl]
     omega
    ·exact hkr.symm
    ·rw [qsp,k2,if_pos rfl,Nat.add_zero]
     have:qso i [qss i t.cd t.nn] = []:=by simp [qso,qsn,qss]
     rw [this,List.append_nil]
    ·show qiT (qiU ws (qjt c t.num) 0) (4+(i:Int))=0
     have e1:qjt c i=4+(i:Int):=by unfold qjt;rw [if_pos ⟨by omega,hiT⟩]
     rw [T.num,e1]
     by_cases hr:(4:Int)+(i:Int)<ws.length
     ·exact qqK (by omega) hr
     ·have hs:qiU ws (4+(i:Int)) 0=ws:=if_neg (by omega)
      rw [hs]
      exact if_neg (by omega)
    ·refine qqJ ?_
     rw [T.num]
     unfold qjt
     split<;>omega

end Go.Proofs.YtdinebegmppnoaaGreat

/- Handles that are told: a step of a thread. Plain. -/
namespace Go.Proofs.YtdinebegmppnoaaGreat
open Go Go.Ir

def Tld (c:Cfg)(ws:List Int)(L:List Nat)(own:Nat→Option Nat)(h:Int):Prop :=
 ∃(x:Nat) (g:Int) (e:Ent),(x:Int)<c.S∧h=qoY x g∧0≤g∧en c ws x=some e∧g≤e.g∧(g=e.g→x∉L∧∀k,own k≠some x)
def qsu (a:Al)(h:Int):Prop:=(a.nx=11∨a.nx=12)∧a.kept=0∧h=qoY a.slot a.gen
def qsv (t:Th)(h:Int):Prop:=∃o r,t.ops=o::r∧o.d=0∧((t.nx=2∧∃a,t.m = .al a∧qsu a h)∨(t.nx≠0∧t.nx≠1∧t.nx≠2∧t.cd=0∧h=t.nn))
def KI (t:Th):Prop:=t.nx=2→∀o r,t.ops=o::r→o.d=0→∃a,t.m = .al a∧(a.nx=6→a.kept≠0)
def New (c:Cfg)(ws ws':List Int)(own:Nat→Option Nat)(i:Nat)(h:Int):Prop :=
 ∃(x:Nat) (e e':Ent),own i=some x∧en c ws x=some e∧en c ws' x=some e'∧e'.lv=true∧e'.g=e.g∧h=qoY x e.g

section
variable {c:Cfg}{ws ws' bs:List Int}{L L':List Nat}{own own':Nat→Option Nat}{n n' i:Nat}
theorem qsw {x y:Nat}{g k:Int}(hx:(x:Int)<64)(hy:(y:Int)<64)(hg:0≤g∧g≤1000)(hk:0≤k∧k≤1000)(h:qoY x g=qoY y k):x=y∧g=k:=by
 unfold qoY hnd at h
 rw [if_pos (by omega),if_pos (by omega)]at h
 omega
theorem qsx {x:Nat}{e:Ent}(h:en c ws x=some e):0≤e.g∧e.g≤1000:=by
 have:=qn5 h
 unfold Ent.may at this
 omega
theorem Tld.keep {h:Int}(t:Tld c ws L own h)(s:SI c ws' L' own' n')(hm:Mono c ws ws')(ha:Av c ws ws' L L' own own'):Tld c ws' L' own' h:=by
 obtain⟨x,g,e,h1,h2,h3,h4,h5,h6⟩:=t
 obtain⟨e',h7⟩:=s.valid x h1
 have:=(hm x e e' h1 h4 h7).1
 refine⟨x,g,e',h1,h2,h3,h7,by omega,fun q => ?_⟩
 have hno:=h6 (by omega)
 have key:¬(x∈L'∨∃k,own' k=some x):=fun z=>by
  rcases ha x z with(w|⟨k,w⟩)|w
  ·exact hno.1 w
  ·exact hno.2 k w
  ·have:=w e e' h4 h7
   omega
 exact⟨fun z=>key (.inl z),fun k z=>key (.inr ⟨k,z⟩)⟩
theorem New.ne {h k:Int}(hm:c.may)(s:SI c ws L own n)(w:New c ws ws' own i h)(t:Tld c ws L own k):k≠h:=fun q=>by
 obtain⟨x,e,e',w1,w2,w3,w4,w5,rfl⟩:=w
 obtain⟨y,g,d,h1,h2,h3,h4,h5,h6⟩:=t
 have hx:=(s.ow i x w1).1
 have a:=qsx w2
 have b:=qsx h4
 unfold Cfg.may at hm
 have z:=qsw (x:=y) (y:=x) (by omega) (by omega) (by omega) a (h2.symm.trans q)
 obtain⟨rfl,rfl⟩:=z
 rw [w2]at h4
 injection h4 with h4
 subst h4
 exact(h6 rfl).2 i w1
theorem New.tld {h:Int}(s:SI c ws L own n)(s':SI c ws' L' own' n')(w:New c ws ws' own i h):Tld c ws' L' own' h:=by
 obtain⟨x,e,e',w1,w2,w3,w4,w5,rfl⟩:=w
 have hx:=(s.ow i x w1).1
 have a:=qsx w2
 refine⟨x,e.g,e',hx,rfl,a.1,w3,by omega,fun _=>⟨fun z => ?_,fun k z => ?_⟩⟩
 ·obtain⟨y,q1,q2⟩:=s'.ldead x z
  rw [w3]at q1
  injection q1 with q1
  subst q1
  rw [w4]at q2;cases q2
 ·obtain⟨_,_,y,q1,q2⟩:=s'.ow k x z
  rw [w3]at q1
  injection q1 with q1
  subst q1
  rw [w4]at q2;cases q2

theorem qsy {a:Al}{h:Int}{P:Prop}(h1:a.nx≠11)(h2:a.nx≠12)(p:qsu a h):P:=by
 rcases p.1 with q|q
 ·exact absurd q h1
 ·exact absurd q h2
theorem qsz (hm:c.may)(s:SI c ws L own n){a:Al}(h:AI c ws a)(ho:own i=qqX c (.al a))(hk:a.nx=6→a.kept≠0) :
  ((alS c a ws bs).1.nx=6→(alS c a ws bs).1.kept≠0)∧(∀k,qsu (alS c a ws bs).1 k→qsu a k∨New c ws (alS c a ws bs).2.1 own i k)∧(∀q,(alS c a ws bs).2.2.2=some q→q.1=0→qsu a q.2):=by
 have hnx:=h.nx
 have no:∀(q:Int×Int),(none:Option (Int×Int))=some q→q.1=0→qsu a q.2:=fun q h=>by cases h
 unfold alS
 by_cases h0:a.nx=0
 ·rw [if_pos h0]
  exact⟨hk,fun k p => .inl p,fun q e z=>by injection e with e;subst e;cases z⟩
 rw [if_neg h0]
 by_cases h1:a.nx=1
 ·rw [if_pos h1]
  split
  ·exact⟨fun q=>absurd q (by show ¬(0:Int)=6;decide),fun k p=>qsy (by show ¬(0:Int)=11;decide) (by show ¬(0:Int)=12;decide) p,fun q e z=>by injection e with e;subst e;cases z⟩
  ·exact⟨fun q=>absurd q (by show ¬(2:Int)=6;decide),fun k p=>qsy (by show ¬(2:Int)=11;decide) (by show ¬(2:Int)=12;decide) p,no⟩
 rw [if_neg h1]
 by_cases h2:a.nx=2
 ·rw [if_pos h2]
  split
  ·exact⟨fun q=>absurd q (by show ¬(3:Int)=6;decide),fun k p=>qsy (by show ¬(3:Int)=11;decide) (by show ¬(3:Int)=12;decide) p,no⟩
  ·exact⟨fun q=>absurd q (by show ¬(1:Int)=6;decide),fun k p=>qsy (by show ¬(1:Int)=11;decide) (by show ¬(1:Int)=12;decide) p,no⟩
 rw [if_neg h2]
 by_cases h3:a.nx=3
 ·rw [if_pos h3]
  refine⟨?_,fun k p => ?_,no⟩
  ·show(qoZ a (qnC c a.p ws)).1.nx=6→_
   unfold qoZ
   repeat' split
   ·exact fun q=>absurd q (by show ¬(11:Int)=6;decide)
   ·exact fun q=>absurd q (by show ¬(4:Int)=6;decide)
   ·exact fun q=>absurd (show a.nx=6 from q) (by omega)
  ·have p:qsu (qoZ a (qnC c a.p ws)).1 k:=p
   unfold qoZ at p
   by_cases g1:(qnC c a.p ws).2.2.2.2=true
   ·rw [if_pos g1]at p
    by_cases g2:(qnC c a.p ws).2.2.2.1≠0
    ·rw [if_pos g2]at p
     exact absurd p.2.1 g2
    ·rw [if_neg g2]at p
     exact qsy (by show ¬(4:Int)=11;decide) (by show ¬(4:Int)=12;decide) p
   ·rw [if_neg g1]at p
    exact qsy (by show ¬a.nx=11;omega) (by show ¬a.nx=12;omega) p
 rw [if_neg h3]
 by_cases h4:a.nx=4
 ·rw [if_pos h4]
  split
  ·exact⟨fun _=>by show(10:Int)≠0;decide,fun k p=>qsy (by show ¬(6:Int)=11;decide) (by show ¬(6:Int)=12;decide) p,no⟩
  ·exact⟨fun q=>absurd q (by show ¬(5:Int)=6;decide),fun k p=>qsy (by show ¬(5:Int)=11;decide) (by show ¬(5:Int)=12;decide) p,no⟩
 rw [if_neg h4]
 by_cases h5:a.nx=5
 ·rw [if_pos h5]
  split
  ·exact⟨fun q=>absurd q (by show ¬(7:Int)=6;decide),fun k p=>qsy (by show ¬(7:Int)=11;decide) (by show ¬(7:Int)=12;decide) p,no⟩
  ·exact⟨fun q=>absurd q (by show ¬(4:Int)=6;decide),fun k p=>qsy (by show ¬(4:Int)=11;decide) (by show ¬(4:Int)=12;decide) p,no⟩
 rw [if_neg h5]
 by_cases h6:a.nx=6
 ·rw [if_pos h6]
  have hk6:=hk h6
  refine⟨?_,fun k p => ?_,no⟩
  ·show(qo0 a (qnD c a.q ws)).1.nx=6→(qo0 a (qnD c a.q ws)).1.kept≠0
   unfold qo0
   split<;>exact fun _=>hk6
  ·have p:qsu (qo0 a (qnD c a.q ws)).1 k:=p
   have:(qo0 a (qnD c a.q ws)).1.kept=a.kept:=by unfold qo0;split<;>rfl
   exact absurd (this.symm.trans p.2.1) hk6
 rw [if_neg h6]
 by_cases h7:a.nx=7
 ·rw [if_pos h7]
  split
  ·exact⟨fun q=>absurd q (by show ¬(8:Int)=6;decide),fun k p=>qsy (by show ¬(8:Int)=11;decide) (by show ¬(8:Int)=12;decide) p,no⟩
  ·exact⟨fun q=>absurd (show a.nx=6 from q) h6,fun k p=>qsy (by show ¬a.nx=11;omega) (by show ¬a.nx=12;omega) p,no⟩
 rw [if_neg h7]
 by_cases h8:a.nx=8
 ·rw [if_pos h8]
  exact⟨fun q=>absurd q (by show ¬(9:Int)=6;decide),fun k p=>qsy (by show ¬(9:Int)=11;decide) (by show ¬(9:Int)=12;decide) p,no⟩
 rw [if_neg h8]
 by_cases h9:a.nx=9
 ·rw [if_pos h9]
  have e10:(qo1 a (qjZ (qiT ws (qjl c a.slot 0)))).nx=10:=by
   unfold qo1
   repeat' split
   all_goals rfl
  exact⟨fun q=>absurd (e10.symm.trans q) (by decide),fun k p=>qsy (by rw [show(_:Al).nx=10 from e10];decide) (by rw [show(_:Al).nx=10 from e10];decide) p,no⟩
 rw [if_neg h9]
 by_cases ha:a.nx=10
 ·rw [if_pos ha]
  refine⟨fun q=>absurd q (by show ¬(11:Int)=6;decide),fun k p => .inr ?_,no⟩
  have hk0:a.kept=0:=h.kept (by omega) (by omega) (by omega)
  have hs:=h.slot (by omega) (by omega)
  have ho:own i=some a.slot.toNat:=ho.trans (if_pos (by omega))
  obtain⟨e,q1,q2,q3,q4,q5⟩:=h.pub ha
  have hx:((a.slot.toNat:Nat):Int)<c.S:=by omega
  have si:=qqU s hm hx (k:=0) (by omega)
  have sn:((a.slot.toNat:Nat):Int)=a.slot:=by omega
  refine⟨a.slot.toNat,e,⟨a.f,e.g,0,0,false,true⟩,ho,q1, ?_,rfl,rfl, ?_⟩
  ·show en c (if a.kept=0 then qiU ws (qjl c a.slot 0) a.word else ws) _=_
   rw [if_pos hk0]
   unfold en
   rw [sn]at si⊢
   rw [qqK (by omega) si.2,q4]
   exact qj3 q5
  ·rw [sn,←q3]
   exact p.2.2
 rw [if_neg ha]
 by_cases hb:a.nx=11
 ·rw [if_pos hb]
  exact⟨fun q=>absurd q (by show ¬(12:Int)=6;decide),fun k p => .inl ⟨.inl hb,p.2.1,p.2.2⟩,no⟩
 rw [if_neg hb]
 have hc:a.nx=12:=by omega
 split
 ·refine⟨fun q=>absurd q (by show ¬(0:Int)=6;decide),fun k p=>qsy (by show ¬(0:Int)=11;decide) (by show ¬(0:Int)=12;decide) p,fun q e z => ?_⟩
  injection e with e
  subst e
  unfold qo2 at z⊢
  by_cases hk0:a.kept=0
  ·rw [if_neg (fun q=>q hk0)]
   exact⟨.inr hc,hk0,rfl⟩
  ·rw [if_pos hk0]at z
   exact absurd z hk0
 ·exact⟨fun q=>absurd q (by show ¬(11:Int)=6;decide),fun k p => .inl ⟨.inr hc,p.2.1,p.2.2⟩,no⟩
end
end Go.Proofs.YtdinebegmppnoaaGreat

/- Handles that are told: none twice. Plain. -/
namespace Go.Proofs.YtdinebegmppnoaaGreat
open Go Go.Ir

def qsA (i:Int)(l:List Evt):Option Evt:=(l.filter (fun e=>e.th==i)).getLast?
theorem qsB {i:Int}{l:List Evt}{e:Evt} : qsA i (l ++ [e])=if e.th=i then some e else qsA i l:=by
 unfold qsA
 rw [List.filter_append]
 by_cases h:e.th=i
 ·rw [if_pos h,List.filter_cons_of_pos (by simp [h]),List.filter_nil,List.getLast?_append];rfl
 ·rw [if_neg h,List.filter_cons_of_neg (by simp [h]),List.filter_nil,List.append_nil]
def TolE (l:List Evt)(q:Nat)(h:Int):Prop:=∃b e,l[q]? = some b∧b.bk=true∧b.rc=0∧b.rn=h∧qsA b.th (l.take q)=some e∧e.d=0
theorem TolE.lt {l:List Evt}{q:Nat}{h:Int}(t:TolE l q h):q<l.length:=by
 obtain⟨b,e,h1,_⟩:=t
 exact(List.getElem?_eq_some_iff.1 h1).1
theorem TolE.one {l:List Evt}{x:Evt}{q:Nat}{h:Int}(t:TolE (l ++ [x]) q h):TolE l q h∨(q=l.length∧x.bk=true∧x.rc=0∧x.rn=h∧∃e,qsA x.th l=some e∧e.d=0):=by
 obtain⟨b,e,h1,h2,h3,h4,h5,h6⟩:=t
 by_cases hq:q<l.length
 ·rw [List.getElem?_append_left hq]at h1
  rw [List.take_append_of_le_length (by omega)]at h5
  exact .inl ⟨b,e,h1,h2,h3,h4,h5,h6⟩
 ·have:=(List.getElem?_eq_some_iff.1 h1).1
  rw [List.length_append,List.length_singleton]at this
  have hq:q=l.length:=by omega
  subst hq
  rw [List.getElem?_append_right (Nat.le_refl _),Nat.sub_self]at h1
  injection h1 with h1
  subst h1
  rw [List.take_left]at h5
  exact .inr ⟨rfl,h2,h3,h4,e,h5,h6⟩

structure HT (c:Cfg)(ws:List Int)(L:List Nat)(own:Nat→Option Nat)(l:List Evt)(ts:List Th):Prop where
 te:∀q h,TolE l q h→Tld c ws L own h
 ti:∀q q' h,TolE l q h→TolE l q' h→q=q'
 pt:∀(i:Nat) t h,ts[i]? = some t→qsv t h→Tld c ws L own h
 px:∀(i:Nat) t h q,ts[i]? = some t→qsv t h→¬TolE l q h
 pi:∀(i j:Nat) t u h,ts[i]? = some t→ts[j]? = some u→qsv t h→qsv u h→i=j
 ki:∀(i:Nat) t,ts[i]? = some t→KI t
 lq:∀(i:Nat) t,ts[i]? = some t→t.nx≠0→∃o r e,t.ops=o::r∧qsA i l=some e∧e.d=o.d

theorem qsC {es:List Evt}(h:vcs es = []):es = []:=List.map_eq_nil_iff.1 h
theorem qsD {es:List Evt}{v:List Value}(h:vcs es = [v]):∃e,es = [e]∧e.cs=v:=by
 unfold vcs at h
 cases es with
 | nil=>cases h
 | cons e r =>
   rw [List.map_cons]at h
   injection h with h1 h2
   exact⟨e,by rw [List.map_eq_nil_iff.1 h2],h1⟩
theorem qsE {e:Evt}{n:Int}{o:Op4}(h:e.cs=evA n o):e=qsr n o:=by
 obtain⟨a,b,d,f,g,i,j,k⟩:=e
 unfold Evt.cs evA at h
 simp only [List.cons.injEq,Value.int.injEq,Value.bool.injEq,and_true,true_and]at h
 obtain⟨rfl,rfl,rfl,rfl,rfl,rfl,rfl,rfl⟩:=h
 rfl
theorem qsF {e:Evt}{n cd nn:Int}(h:e.cs=evB n cd nn):e=qss n cd nn:=by
 obtain⟨a,b,d,f,g,i,j,k⟩:=e
 unfold Evt.cs evB at h
 simp only [List.cons.injEq,Value.int.injEq,Value.bool.injEq,and_true,true_and]at h
 obtain⟨rfl,rfl,rfl,rfl,rfl,rfl,rfl,rfl⟩:=h
 rfl

section
variable {c:Cfg}{ws ws' bs:List Int}{L L':List Nat}{own own':Nat→Option Nat}{n n' i:Nat}
theorem qsG {o:Op4}(h:o.d=0):∃a,mkM o = .al a∧(a.nx=6→a.kept≠0):=by
 unfold mkM
 rw [if_pos h]
 exact⟨_,rfl,fun q=>absurd q (by show ¬(1:Int)=6;decide)⟩
theorem qsH (hm:c.may)(s:SI c ws L own n){t:Th}(h:TInv c ws t)(ho:own i=qrm c t)(hk:KI t){es:List Evt}(he:(thS c t ws bs).2.2.2=vcs es) :
  KI (thS c t ws bs).1∧
  ((es = []∧(∀k,qsv (thS c t ws bs).1 k→qsv t k∨New c ws (thS c t ws bs).2.1 own i k)∧(t.nx=0→(thS c t ws bs).1.nx=0)∧(thS c t ws bs).1.ops=t.ops)∨
   (∃o r,t.ops=o::r∧es = [qsr t.num o]∧(thS c t ws bs).1.ops=t.ops∧∀k,¬qsv (thS c t ws bs).1 k)∨
   (∃o r,t.ops=o::r∧t.nx≠0∧es = [qss t.num t.cd t.nn]∧(thS c t ws bs).1.nx=0∧(∀k,¬qsv (thS c t ws bs).1 k)∧(o.d=0→t.cd=0→qsv t t.nn))):=by
 unfold thS at he⊢
 cases hops:t.ops with
 | nil =>
   rw [hops]at he
   exact⟨hk,.inl ⟨qsC he.symm,fun k p => .inl p,fun q=>q,hops⟩⟩
 | cons o r =>
   rw [hops]at he
   simp only at he⊢
   by_cases h0:t.nx=0
   ·rw [if_pos h0]at he⊢
    obtain⟨e,rfl,e2⟩:=qsD he.symm
    have e2:=qsE e2
    subst e2
    refine⟨fun q=>absurd q (by show ¬(1:Int)=2;decide),.inr (.inl ⟨o,r,rfl,rfl,rfl,fun k p => ?_⟩)⟩
    obtain⟨_,_,_,_,p⟩:=p
    rcases p with⟨p,_⟩|⟨_,p,_⟩
    ·exact absurd p (by show ¬(1:Int)=2;decide)
    ·exact p rfl
   rw [if_neg h0]at he⊢
   by_cases h1:t.nx=1
   ·rw [if_pos h1]at he⊢
    refine⟨fun _ o' r' hq hd => ?_,.inl ⟨qsC he.symm,fun k p => ?_,fun q=>absurd q h0,rfl⟩⟩
    ·have hq:o::r=o'::r':=hq
     injection hq with hq _
     subst hq
     exact qsG hd
    ·obtain⟨o',r',q1,q2,p⟩:=p
     have q1:o::r=o'::r':=q1
     injection q1 with q1 _
     subst q1
     rcases p with⟨_,a,p1,p2⟩|⟨_,_,p,_⟩
     ·have p1:mkM o = .al a:=p1
      unfold mkM at p1
      rw [if_pos q2]at p1
      injection p1 with p1
      subst p1
      exact qsy (by show ¬(1:Int)=11;decide) (by show ¬(1:Int)=12;decide) p2
     ·exact absurd rfl p
   rw [if_neg h1]at he⊢
   by_cases h2:t.nx=2
   ·rw [if_pos h2]at he⊢
    have hev:(thW t (mxS c t.m ws bs)).2.2.2 = []:=by unfold thW;split<;>rfl
    have hes:es = []:=qsC (he.symm.trans hev)
    by_cases hd:o.d=0
    ·obtain⟨a,ha,hk6⟩:=hk h2 o r hops hd
     have hI:AI c ws a:=by have:=h h2;rw [ha]at this;exact this
     have hoa:own i=qqX c (.al a):=by rw [←ha];exact ho.trans (if_pos h2)
     have hp:=qsz (bs:=bs) hm s hI hoa hk6
     have hx:mxS c t.m ws bs=(.al (alS c a ws bs).1,(alS c a ws bs).2.1,(alS c a ws bs).2.2.1,(alS c a ws bs).2.2.2):=by rw [ha];rfl
     rw [hx]
     generalize alS c a ws bs=R at hp
     obtain⟨a',w',b',oc⟩:=R
     cases oc with
     | none =>
       refine⟨fun _ o' r' _ _=>⟨a',rfl,hp.1⟩,.inl ⟨hes,fun k p => ?_,fun q=>absurd q h0,hops⟩⟩
       obtain⟨o',r',q1,q2,p⟩:=p
       rcases p with⟨_,a2,p1,p2⟩|⟨_,_,p,_⟩
       ·have p1:Mx.al a' = .al a2:=p1
        injection p1 with p1
        subst p1
        rcases hp.2.1 k p2 with z|z
        ·exact .inl ⟨o,r,hops,hd,.inl ⟨h2,a,ha,z⟩⟩
        ·exact .inr z
       ·exact absurd h2 p
     | some q =>
       refine⟨fun q=>absurd q (by show ¬(3:Int)=2;decide),.inl ⟨hes,fun k p => ?_,fun q=>absurd q h0,hops⟩⟩
       obtain⟨o',r',q1,q2,p⟩:=p
       rcases p with⟨p,_⟩|⟨_,_,_,p1,p2⟩
       ·exact absurd p (by show ¬(3:Int)=2;decide)
       ·have z:=hp.2.2 q rfl p1
        have p2:k=q.2:=p2
        subst p2
        exact .inl ⟨o,r,hops,hd,.inl ⟨h2,a,ha,z⟩⟩
    ·generalize mxS c t.m ws bs=R
     have hno:∀(t':Th),t'.ops=t.ops→∀k,¬qsv t' k:=fun t' e k p=>by
      obtain⟨o',r',q1,q2,_⟩:=p
      rw [e,hops]at q1
      injection q1 with q1 _
      subst q1
      exact hd q2
     have hki:∀(t':Th),t'.ops=t.ops→KI t':=fun t' e _ o' r' q1 q2=>by
      rw [e,hops]at q1
      injection q1 with q1 _
      subst q1
      exact absurd q2 hd
     have hop:(thW t R).1.ops=t.ops:=by unfold thW;split<;>rfl
     exact⟨hki _ hop,.inl ⟨hes,fun k p=>absurd p (hno _ hop k),fun q=>absurd q h0,hop.trans hops⟩⟩
   ·rw [if_neg h2]at he⊢
    obtain⟨e,rfl,e2⟩:=qsD he.symm
    have e2:=qsF e2
    subst e2
    refine⟨fun q=>absurd q (by show ¬(0:Int)=2;decide),.inr (.inr ⟨o,r,rfl,h0,rfl,rfl,fun k p => ?_,fun hd hc=>⟨o,r,hops,hd,.inr ⟨h0,h1,h2,hc,rfl⟩⟩⟩)⟩
    obtain⟨_,_,_,_,p⟩:=p
    rcases p with⟨p,_⟩|⟨p,_⟩
    ·exact absurd p (by show ¬(0:Int)=2;decide)
    ·exact p rfl
end
end Go.Proofs.YtdinebegmppnoaaGreat

/- Handles that are told: a pick tells none twice. Plain. -/
namespace Go.Proofs.YtdinebegmppnoaaGreat
open Go Go.Ir

section
variable {c:Cfg}{ws ws' bs:List Int}{L L':List Nat}{own own':Nat→Option Nat}{n n' i:Nat}
theorem qsI {α:Type}{l:List α}{i j:Nat}{a b:α}(h:(l.set i a)[j]? = some b):(j=i∧b=a)∨(j≠i∧l[j]? = some b):=by
 by_cases hj:j=i
 ·subst hj
  have:=(List.getElem?_eq_some_iff.1 h).1
  rw [List.length_set]at this
  rw [List.getElem?_set_self this]at h
  injection h with h
  exact .inl ⟨rfl,h.symm⟩
 ·rw [List.getElem?_set_ne (Ne.symm hj)]at h
  exact .inr ⟨hj,h⟩
theorem HT.step {l es:List Evt}{ts:List Th}{t:Th}(hm:c.may)(s:SI c ws L own n)(H:HT c ws L own l ts)(ht:ts[i]? = some t)(hn:t.num=i)(hI:TInv c ws t)(ho:own i=qrm c t)(he:(thS c t ws bs).2.2.2=vcs es)
  (s':SI c (thS c t ws bs).2.1 L' own' n') (mo:Mono c ws (thS c t ws bs).2.1) (av:Av c ws (thS c t ws bs).2.1 L L' own own'):HT c (thS c t ws bs).2.1 L' own' (l++es) (ts.set i (thS c t ws bs).1):=by
 have hp:=qsH hm s hI ho (H.ki i t ht) he
 generalize thS c t ws bs=R at hp s' mo av
 obtain⟨t',w',b',ev⟩:=R
 simp only at hp s' mo av⊢
 have kp:∀h,Tld c ws L own h→Tld c w' L' own' h:=fun h q=>q.keep s' mo av
 obtain⟨hki,hp⟩:=hp
 have ki:∀(j:Nat) u,(ts.set i t')[j]? = some u→KI u:=fun j u hu=>by
  rcases qsI hu with⟨_,rfl⟩|⟨_,q⟩
  ·exact hki
  ·exact H.ki j u q
 rcases hp with⟨rfl,h1,h2,h3⟩|⟨o,r,h0,rfl,h1,h2⟩|⟨o,r,h0,h1,rfl,h2,h3,h4⟩
 ·rw [List.append_nil]
  refine⟨fun q h e=>kp h (H.te q h e),H.ti,fun j u h hu p => ?_,fun j u h q hu p e => ?_,fun j k u v h hu hv p q => ?_,ki,fun j u hu hz => ?_⟩
  ·rcases qsI hu with⟨_,rfl⟩|⟨_,g⟩
   ·rcases h1 h p with z|z
    ·exact kp h (H.pt i t h ht z)
    ·exact z.tld s s'
   ·exact kp h (H.pt j u h g p)
  ·rcases qsI hu with⟨_,rfl⟩|⟨_,g⟩
   ·rcases h1 h p with z|z
    ·exact H.px i t h q ht z e
    ·exact z.ne hm s (H.te q h e) rfl
   ·exact H.px j u h q g p e
  ·rcases qsI hu with⟨rfl,rfl⟩|⟨a1,a2⟩
   ·rcases qsI hv with⟨rfl,rfl⟩|⟨b1,b2⟩
    ·rfl
    ·rcases h1 h p with z|z
     ·exact absurd (H.pi _ k t v h ht b2 z q) (Ne.symm b1)
     ·exact absurd rfl (z.ne hm s (H.pt k v h b2 q))
   ·rcases qsI hv with⟨rfl,rfl⟩|⟨b1,b2⟩
    ·rcases h1 h q with z|z
     ·exact absurd (H.pi j _ u t h a2 ht p z) a1
     ·exact absurd rfl (z.ne hm s (H.pt j u h a2 p))
    ·exact H.pi j k u v h a2 b2 p q
  ·rcases qsI hu with⟨rfl,rfl⟩|⟨a1,a2⟩
   ·rw [h3]
    exact H.lq _ t ht fun q=>hz (h2 q)
   ·exact H.lq j u a2 hz
 ·have tl:∀q h,TolE (l ++ [qsr t.num o]) q h→TolE l q h:=fun q h e=>by
   rcases e.one with z|⟨_,z,_⟩
   ·exact z
   ·cases z
  refine⟨fun q h e=>kp h (H.te q h (tl q h e)),fun q q' h e e'=>H.ti q q' h (tl q h e) (tl q' h e'),fun j u h hu p => ?_,fun j u h q hu p e => ?_,fun j k u v h hu hv p q => ?_,ki,fun j u hu hz => ?_⟩
  ·rcases qsI hu with⟨_,rfl⟩|⟨_,g⟩
   ·exact absurd p (h2 h)
   ·exact kp h (H.pt j u h g p)
  ·rcases qsI hu with⟨_,rfl⟩|⟨_,g⟩
   ·exact absurd p (h2 h)
   ·exact H.px j u h q g p (tl q h e)
  ·rcases qsI hu with⟨rfl,rfl⟩|⟨a1,a2⟩
   ·exact absurd p (h2 h)
   ·rcases qsI hv with⟨rfl,rfl⟩|⟨b1,b2⟩
    ·exact absurd q (h2 h)
    ·exact H.pi j k u v h a2 b2 p q
  ·rw [qsB]
   rcases qsI hu with⟨rfl,rfl⟩|⟨a1,a2⟩
   ·exact⟨o,r,_,h1.trans h0,if_pos hn,rfl⟩
   ·rw [if_neg (by show ¬t.num=j;omega)]
    exact H.lq j u a2 hz
 ·have tl:∀q h,TolE (l ++ [qss t.num t.cd t.nn]) q h→TolE l q h∨(q=l.length∧h=t.nn∧qsv t h):=fun q h e=>by
   rcases e.one with z|⟨z1,_,z2,z3,e,z4,z5⟩
   ·exact .inl z
   ·obtain⟨o',r',e',a1,a2,a3⟩:=H.lq i t ht h1
    have z4:qsA t.num l=some e:=z4
    rw [hn,a2]at z4
    injection z4 with z4
    subst z4
    rw [h0]at a1
    injection a1 with a1 _
    have z3:t.nn=h:=z3
    subst z3
    exact .inr ⟨z1,rfl,h4 (by rw [a1,←a3];exact z5) z2⟩
  refine⟨fun q h e => ?_,fun q q' h e e' => ?_,fun j u h hu p => ?_,fun j u h q hu p e => ?_,fun j k u v h hu hv p q => ?_,ki,fun j u hu hz => ?_⟩
  ·rcases tl q h e with z|⟨_,_,z⟩
   ·exact kp h (H.te q h z)
   ·exact kp h (H.pt i t h ht z)
  ·rcases tl q h e with z|⟨z1,_,z⟩
   ·rcases tl q' h e' with y|⟨_,_,y⟩
    ·exact H.ti q q' h z y
    ·exact absurd z (H.px i t h q ht y)
   ·rcases tl q' h e' with y|⟨y1,_,y⟩
    ·exact absurd y (H.px i t h q' ht z)
    ·rw [z1,y1]
  ·rcases qsI hu with⟨_,rfl⟩|⟨_,g⟩
   ·exact absurd p (h3 h)
   ·exact kp h (H.pt j u h g p)
  ·rcases qsI hu with⟨_,rfl⟩|⟨g1,g⟩
   ·exact absurd p (h3 h)
   ·rcases tl q h e with z|⟨_,_,z⟩
    ·exact H.px j u h q g p z
    ·exact g1 (H.pi j i u t h g ht p z)
  ·rcases qsI hu with⟨rfl,rfl⟩|⟨a1,a2⟩
   ·exact absurd p (h3 h)
   ·rcases qsI hv with⟨rfl,rfl⟩|⟨b1,b2⟩
    ·exact absurd q (h3 h)
    ·exact H.pi j k u v h a2 b2 p q
  ·rw [qsB]
   rcases qsI hu with⟨rfl,rfl⟩|⟨a1,a2⟩
   ·exact absurd h2 hz
   ·rw [if_neg (by show ¬t.num=j;omega)]
    exact H.lq j u a2 hz
theorem HT.keep {l:List Evt}{ts:List Th}(H:HT c ws L own l ts)(s':SI c ws' L' own' n')(mo:Mono c ws ws')(av:Av c ws ws' L L' own own'):HT c ws' L' own' l ts :=
 ⟨fun q h e=>(H.te q h e).keep s' mo av,H.ti,fun i t h ht p=>(H.pt i t h ht p).keep s' mo av,H.px,H.pi,H.ki,H.lq⟩

theorem qsJ (hT:0≤c.T){m:Mc}(hm:m.c=c):Low c ws (qni m ws bs).2.1:=by
 unfold qni
 by_cases h1:m.next=1
 ·rw [if_pos h1];exact Low.refl
 rw [if_neg h1]
 by_cases h2:m.next=2
 ·rw [if_pos h2];exact Low.refl
 rw [if_neg h2]
 by_cases h3:m.next=3
 ·rw [if_pos h3];exact Low.refl
 rw [if_neg h3]
 by_cases h4:m.next=4
 ·rw [if_pos h4];exact Low.refl
 rw [if_neg h4]
 by_cases h5:m.next=5
 ·rw [if_pos h5];exact Low.refl
 rw [if_neg h5]
 by_cases h6:m.next=6
 ·rw [if_pos h6]
  show Low c ws (qm5 m ws (qnh m)).2
  unfold qm5
  rw [hm]
  split
  ·exact qsf hT (by omega)
  ·exact Low.refl
 rw [if_neg h6]
 by_cases h7:m.next=7
 ·rw [if_pos h7];exact Low.refl
 rw [if_neg h7]
 by_cases h8:m.next=8
 ·rw [if_pos h8];exact Low.refl
 rw [if_neg h8]
 by_cases h9:m.next=9
 ·rw [if_pos h9]
  show Low c ws (qiU ws (qjl m.c (qnh m).s 0) (chA m.word (qmY m.dest)))
  rw [hm]
  exact qsf hT (by omega)
 rw [if_neg h9]
 by_cases ha:m.next=10
 ·rw [if_pos ha]
  show Low c ws (qnd m.c (m.turn.getD ⟨0,0,0⟩) ws).2
  unfold qnd
  repeat' split
  all_goals first|exact Low.refl|exact qse (by omega)
 rw [if_neg ha]
 show Low c ws (if qi5 ws 0 m.top then qiU ws 0 m.dest else ws)
 split
 ·exact qse (by omega)
 ·exact Low.refl
theorem HI.low {l:List Evt}{ps:Nat→List Op4}{ts:List Th}(h:HI c ws l ps ts)(lo:Low c ws ws'):HI c ws' l ps ts :=
 ⟨h.ok,h.four,h.thr,fun i t ht=>by
   have T:=h.th i t ht
   exact⟨T.num,T.cnt,T.ops,fun hi hn=>T.note hi (by rw [←lo (4+i) (by omega) (by omega)];exact hn)⟩⟩

structure WHI (c:Cfg)(w:Wst)(n:Nat)(ps:Nat→List Op4)(l:List Evt):Prop where
 evs:w.evs=vcs l
 all:∃L,WS c w n L∧HT c w.ws L (qru c w.ts) l w.ts
 hi:HI c w.ws l ps w.ts
theorem WHI.stay {w:Wst}{ps:Nat→List Op4}{l:List Evt}(h:WHI c w n ps l):WHI c w (n+1) ps l:=by
 obtain⟨L,a,b⟩:=h.all
 exact⟨h.evs,⟨L,a.stay,b⟩,h.hi⟩
theorem qsK {w:Wst}{ps:Nat→List Op4}{l:List Evt}(hm:c.may)(hN:∀i:Nat,ps i≠[]→(i:Int)<c.T)(h:WHI c w n ps l)(hn:n<4294967294)(k:Int) :
  (∃l',WHI c (qqn c w k).1 (n+1) ps l')∧Mono c w.ws (qqn c w k).1.ws:=by
 have hT:0≤c.T:=by unfold Cfg.may at hm;omega
 obtain⟨L,hw,ht⟩:=h.all
 obtain⟨L',a,b,d⟩:=qrx hm hw hn k
 refine⟨?_,b⟩
 unfold qqn at a b d⊢
 split
 ·exact⟨l,h.stay⟩
 ·rename_i h1
  rw [if_neg h1]at a b d
  split
  ·rename_i h2
   rw [if_pos h2]at a b d
   have et:(qql c w).ts=w.ts∧(qql c w).evs=w.evs∧(qql c w).ws=(qni w.m w.ws w.bs).2.1:=by
    unfold qql
    cases(qni w.m w.ws w.bs).1.2<;>exact⟨rfl,rfl,rfl⟩
   have a:WS c (qql c w) (n+1) L':=a
   have b:Mono c w.ws (qql c w).ws:=b
   have d:Av c w.ws (qql c w).ws L L' (qru c w.ts) (qru c (qql c w).ts):=d
   have asi:=a.si
   refine⟨l,et.2.1.trans h.evs,⟨L',a, ?_⟩, ?_⟩
   ·show HT c (qql c w).ws L' (qru c (qql c w).ts) l (qql c w).ts
    rw [et.1]at asi d⊢
    exact ht.keep asi b d
   ·show HI c (qql c w).ws l ps (qql c w).ts
    rw [et.1,et.2.2]
    exact h.hi.low (qsJ hT hw.pi.cfg)
  ·rename_i h2
   rw [if_neg h2]at a b d
   cases hk:w.ts[k.toNat]? with
   | none=>exact⟨l,h.stay⟩
   | some t =>
     rw [hk]at a b d
     simp only at a b d⊢
     by_cases ho:t.ops = []
     ·rw [if_pos ho];exact⟨l,h.stay⟩
     ·rw [if_neg ho]at a b d⊢
      obtain⟨es,e1,e2,e3⟩:=qst (bs:=w.bs) hT hN h.hi hk
      have hil:=(List.getElem?_eq_some_iff.1 hk).1
      refine⟨l++es, ?_,⟨L',a, ?_⟩,e3⟩
      ·show w.evs++(thS c t w.ws w.bs).2.2.2=_
       rw [h.evs,e1,qr1]
      ·exact ht.step hm hw.si hk (h.hi.th _ t hk).num (hw.th _ t hk) (by unfold qru;rw [hk]) e1 a.si b d
end
end Go.Proofs.YtdinebegmppnoaaGreat

/- Handles that are told: of calls. Plain. -/
namespace Go.Proofs.YtdinebegmppnoaaGreat
open Go Go.Ir

theorem qsL {n:Nat}{l:List Evt}{a:Nat}{x:Kall}(h:x∈qrT n l a):∃e,l[a]? = some e∧e.bk=false∧x=mkC n l a e:=by
 unfold qrT at h
 cases hl:l[a]? with
 | none=>rw [hl]at h;cases h
 | some e =>
   rw [hl]at h
   simp only at h
   cases hb:e.bk with
   | true=>rw [hb]at h;cases h
   | false =>
     rw [hb]at h
     exact⟨e,rfl,hb,List.mem_singleton.1 h⟩
theorem qsM (n:Nat)(l:List Evt)(a:Nat)(e:Evt):(mkC n l a e).fr=a:=by unfold mkC;split<;>rfl
theorem qsN {n:Nat}{l:List Evt} : ∀{m:Nat} {x:Kall},x∈qrU n l m→∃a e,a<m∧l[a]? = some e∧e.bk=false∧x=mkC n l a e
 | 0,x,h=>by cases h
 | m+1,x,h=>by
   rw [qrV]at h
   rcases List.mem_append.1 h with h|h
   ·obtain⟨a,e,h1,h2⟩:=qsN h
    exact⟨a,e,by omega,h2⟩
   ·obtain⟨e,h2⟩:=qsL h
    exact⟨m,e,by omega,h2⟩
theorem qsO (n:Nat)(l:List Evt):∀m,(qrU n l m).Pairwise fun x y=>x.fr<y.fr
 | 0=>List.Pairwise.nil
 | m+1=>by
   rw [qrV,List.pairwise_append]
   refine⟨qsO n l m, ?_,fun x hx y hy => ?_⟩
   ·unfold qrT
    split
    ·split
     ·exact List.Pairwise.nil
     ·exact List.pairwise_singleton _ _
    ·exact List.Pairwise.nil
   ·obtain⟨a,e,h1,_,_,rfl⟩:=qsN hx
    obtain⟨e',_,_,rfl⟩:=qsL hy
    rw [qsM,qsM]
    omega
theorem qsP (t:Int):∀(r:List Evt) (j k:Nat),j+k<qrR t r j→∀e,r[k]? = some e→e.th≠t
 | [],j,k,h,e,he=>by cases he
 | x::r,j,0,h,e,he=>by
   injection he with he
   subst he
   intro q
   unfold qrR at h
   rw [if_pos q]at h
   omega
 | x::r,j,k+1,h,e,he=>by
   unfold qrR at h
   split at h
   ·omega
   ·exact qsP t r (j+1) k (by omega) e he
theorem qsQ (t:Int):∀(r:List Evt) (j:Nat) (e:Evt),r[qrR t r j-j]? = some e→e.th=t
 | [],j,e,he=>by simp at he
 | x::r,j,e,he=>by
   unfold qrR at he
   split at he
   ·rename_i q
    rw [Nat.sub_self]at he
    injection he with he
    rw [←he];exact q
   ·have:=(qrY t r (j+1)).1
    rw [show qrR t r (j+1)-j=(qrR t r (j+1)-(j+1))+1 by omega]at he
    exact qsQ t r (j+1) e he
theorem qsR {l:List Evt}{t:Int}{a k:Nat}{e:Evt}(h1:a<k)(h2:k<qrS l t a)(he:l[k]? = some e):e.th≠t:=by
 unfold qrS at h2
 refine qsP t (l.drop (a+1)) (a+1) (k-(a+1)) (by omega) e ?_
 rw [List.getElem?_drop,show a+1+(k-(a+1))=k by omega]
 exact he
theorem qsS {l:List Evt}{t:Int}{a:Nat}{e:Evt}(ha:a<l.length)(he:l[qrS l t a]? = some e):e.th=t:=by
 have h:=(qrZ (t:=t) ha).1
 unfold qrS at h he
 refine qsQ t (l.drop (a+1)) (a+1) e ?_
 rw [List.getElem?_drop,show a+1+(qrR t (l.drop (a+1)) (a+1)-(a+1))=qrR t (l.drop (a+1)) (a+1) by omega]
 exact he
theorem qsT {l:List Evt}{t:Int}{a:Nat}{e:Evt}(he:l[a]? = some e)(ht:e.th=t):∀q,a<q→q≤qrS l t a→q≤l.length→qsA t (l.take q)=some e∧qrP t (l.take q)=qrP t (l.take a)+1
 | 0,h,_,_=>by omega
 | q+1,h,h2,h3=>by
   have hx:l[q]? = some l[q]:=List.getElem?_eq_getElem (by omega)
   have hs:l.take (q+1)=l.take q ++ [l[q]]:=List.take_succ_eq_append_getElem (by omega)
   rw [qr2 hx,hs,qsB]
   by_cases hq:q=a
   ·subst hq
    rw [hx]at he
    injection he with he
    rw [he,if_pos ht,if_pos ht]
    exact⟨rfl,rfl⟩
   ·have hn:=qsR (t:=t) (a:=a) (k:=q) (by omega) (by omega) hx
    rw [if_neg hn,if_neg hn]
    exact qsT he ht q (by omega) (by omega) (by omega)
theorem qsU {l:List Evt}(hok:qrQ l){a:Nat}{e:Evt}(he:l[a]? = some e)(hb:e.bk=false){n:Nat}(hd:(mkC n l a e).dn=true)(h0:(mkC n l a e).od=0)(hc:(mkC n l a e).rc=0) :
  TolE l (qrS l e.th a) (mkC n l a e).rn:=by
 have ha:=(List.getElem?_eq_some_iff.1 he).1
 have hq:=qrZ (t:=e.th) ha
 unfold mkC at hd h0 hc⊢
 cases hg:l[qrS l e.th a]? with
 | none=>rw [hg]at hd;cases hd
 | some b =>
   rw [hg]at h0 hc
   simp only at h0 hc⊢
   have hbt:=qsS ha hg
   have hql:=(List.getElem?_eq_some_iff.1 hg).1
   have hu:=qsT he rfl _ hq.1 (Nat.le_refl _) (by omega)
   have o1:=hok a e he
   have o2:=hok _ b hg
   unfold okR at o1 o2
   rw [hbt,hu.2]at o2
   rw [hb]at o1
   have bb:b.bk=true:=by
    cases q:b.bk with
    | true=>rfl
    | false =>
      rw [q]at o2
      simp only [Bool.and_eq_true,decide_eq_true_eq,beq_iff_eq]at o1 o2
      have z1:=o1.1.2
      have z2:=o2.1.2
      have z1:=of_decide_eq_false z1.symm
      have z2:=of_decide_eq_false z2.symm
      omega
   exact⟨b,e,hg,bb,hc,rfl,by rw [hbt];exact hu.1,h0⟩
theorem qsV {l:List Evt}(hok:qrQ l)(ti:∀q q' h,TolE l q h→TolE l q' h→q=q'){n i k:Nat}{x y:Kall}(hx:(qrU n l l.length)[i]? = some x)(hy:(qrU n l l.length)[k]? = some y)(hki:k<i)
  (d1:x.dn=true) (d2:y.dn=true) (z1:x.od=0) (z2:y.od=0) (r1:x.rc=0) (r2:y.rc=0) (r:x.rn=y.rn):False:=by
 have pw:=qsO n l l.length
 rw [List.pairwise_iff_getElem]at pw
 obtain⟨hil,hxe⟩:=List.getElem?_eq_some_iff.1 hx
 obtain⟨hkl,hye⟩:=List.getElem?_eq_some_iff.1 hy
 have hlt:=pw k i hkl hil hki
 rw [hxe,hye]at hlt
 obtain⟨a,e,a1,a2,a3,rfl⟩:=qsN (List.mem_of_getElem? hx)
 obtain⟨b,f,b1,b2,b3,rfl⟩:=qsN (List.mem_of_getElem? hy)
 rw [qsM,qsM]at hlt
 have t1:=qsU hok a2 a3 d1 z1 r1
 have t2:=qsU hok b2 b3 d2 z2 r2
 rw [r]at t1
 have q:=ti _ _ _ t1 t2
 have l1:=t1.lt
 obtain⟨z,g1⟩:∃z,l[qrS l e.th a]? = some z:=⟨_,List.getElem?_eq_getElem l1⟩
 have s1:=qsS a1 g1
 have g2:=g1
 rw [q]at g2
 have s2:=qsS b1 g2
 have ha:=qrZ (t:=e.th) a1
 exact qsR (t:=f.th) (a:=b) (k:=a) (by omega) (by omega) a2 (by rw [←s1,s2])
end Go.Proofs.YtdinebegmppnoaaGreat

