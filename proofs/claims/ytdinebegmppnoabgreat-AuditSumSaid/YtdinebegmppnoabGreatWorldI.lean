/- Rows that are built; blocks that stay; ops of many threads. -/
import Derived.Test.YtdinebegmppnoabGreatThreadQ3
import Derived.Test.YtdinebegmppnoabGreatWorldM2
import Derived.Test.YtdinebegmppnoabGreatThreadP1
set_option linter.unusedVariables false
set_option linter.unusedSimpArgs false

namespace Go.Proofs.YtdinebegmppnoabGreat
open Go Go.Ir

def OutB (H:qab)(v:Value)(es:List (List Value))(k:Nat):Prop :=
 (∀e∈es,e.length=8)∧((es = []∧v = .slice none 0 0)∨(es≠[]∧v = .slice (some (loose k 0)) es.length 8∧H[k]? = some (.row es.flatten false)))
theorem OutB.sl {H:qab}{v:Value}{es:List (List Value)}{k:Nat}(o:OutB H v es k):Sl H 8 v es:=by
 refine⟨o.1, ?_⟩
 rcases o.2 with⟨h1,h2⟩|⟨h0,h1,h3⟩
 ·exact .inl ⟨h1,none,0,h2⟩
 ·exact .inr ⟨_,_,h1,qgE (a:=loose k 0) h3 rfl (qgA o.1).symm⟩
theorem OutB.keep {H H':qab}{v:Value}{es:List (List Value)}{k:Nat}(o:OutB H v es k)(h:es≠[]→H'[k]? = H[k]?):OutB H' v es k:=by
 refine⟨o.1, ?_⟩
 rcases o.2 with h1|⟨h0,h1,h3⟩
 ·exact .inl h1
 ·exact .inr ⟨h0,h1,(h h0).trans h3⟩
theorem OutB.lt {H:qab}{v:Value}{es:List (List Value)}{k:Nat}(o:OutB H v es k)(h:es≠[]):k<H.length:=by
 rcases o.2 with h1|⟨h0,h1,h3⟩
 ·exact absurd h1.1 h
 ·exact qiC h3
theorem OutB.same {H:qab}{v:Value}{es:List (List Value)}{k:Nat}(o:OutB H v es k):qaQ v v=true:=by
 rcases o.2 with⟨_,rfl⟩|⟨_,rfl,_⟩<;>simp [qaQ,qaP,qaO]
theorem OutB.one {H:qab}{v:Value}{es:List (List Value)}{k:Nat}(o:OutB H v es k):qaf v = [v]:=by
 rcases o.2 with⟨_,rfl⟩|⟨_,rfl,_⟩<;>rfl
theorem Arr.same {H:qab}{v:Value}{l:List Nat}{k:Nat}(h:Arr H v l k):qaQ v v=true:=by
 rcases h with⟨_,rfl⟩|⟨_,rfl,_⟩<;>simp [qaQ,qaP,qaO]
theorem Arr.one {H:qab}{v:Value}{l:List Nat}{k:Nat}(h:Arr H v l k):qaf v = [v]:=by
 rcases h with⟨_,rfl⟩|⟨_,rfl,_⟩<;>rfl
theorem qqp {H:qab}{v u:Value}{es fs:List (List Value)}{k:Nat}(o:OutB H v es k)(s:Sl H 8 u fs)(hn:es.length+fs.length≤2 ^ 30) :
  ∃v' k' H',qaF 0 8 64 H v u=some (v',H')∧OutB H' v' (es++fs) k'∧((es≠[]∧k'=k)∨H.length≤k')∧H.length≤H'.length∧∀x,x<H.length→(es = []∨x≠k)→H'[x]? = H[x]? := by
 have hall:∀x∈es++fs,x.length=8:=fun x hx=>by
  rcases List.mem_append.1 hx with hx|hx
  ·exact o.1 x hx
  ·exact s.1 x hx
 by_cases hf:fs = []
 ·subst hf
  obtain⟨ub,uc,hu⟩:=s.len
  subst hu
  rw [List.append_nil]
  rcases o.2 with⟨h1,h2⟩|⟨h0,h1,h3⟩
  ·subst h1 h2
   exact⟨.slice none 0 0,H.length,H,by cases ub<;>simp [qaF,qaC,qaD],⟨o.1,.inl ⟨rfl,rfl⟩⟩,.inr (Nat.le_refl _),Nat.le_refl _,fun _ _ _=>rfl⟩
  ·refine⟨v,k,H, ?_,o,.inl ⟨h0,rfl⟩,Nat.le_refl _,fun _ _ _=>rfl⟩
   subst h1
   have hle:es.length≤2 ^ 30:=by simpa using hn
   simp only [qaF,qaC,List.length_nil,Nat.add_zero]
   rw [if_pos (.inl ⟨hle,by decide⟩)]
   cases ub<;>simp [qaD,loose]
 ·rcases s.2 with⟨h1,_⟩|⟨a,cap,h1,h2⟩
  ·exact absurd h1 hf
  subst h1
  have hf0:¬fs.length=0:=fun e=>hf (List.length_eq_zero_iff.1 e)
  have hsrc:qaD H 8 fs.length (.slice (some a) fs.length cap)=some fs.flatten:=by
   unfold qaD
   simp only
   rw [if_neg hf0]
   exact h2
  rcases o.2 with⟨h1,h2⟩|⟨h0,h1,h3⟩
  ·subst h1 h2
   refine⟨.slice (some (loose H.length 0)) fs.length 8,H.length,H ++ [.row fs.flatten false], ?_,⟨hall,.inr ⟨hf,rfl,by rw [List.getElem?_concat_length];rfl⟩⟩,.inr (Nat.le_refl _),by simp,fun x hx _=>List.getElem?_append_left hx⟩
   simp only [qaF,qaC,hsrc,List.length_nil,Nat.zero_add]
   rw [if_pos (.inl ⟨by simpa using hn,by decide⟩),if_neg hf0]
  ·subst h1
   have hbl:=qiC h3
   have hel:¬es.length=0:=fun e=>h0 (List.length_eq_zero_iff.1 e)
   have hold:qaD H 8 es.length (.slice (some (loose k 0)) es.length 8)=some es.flatten:=by
    unfold qaD
    simp only
    rw [if_neg hel]
    exact qgE (a:=loose k 0) h3 rfl (qgA o.1).symm
   refine⟨.slice (some (loose H.length 0)) (es.length+fs.length) 8,H.length,H.set k .dead ++ [.row (es.flatten++fs.flatten) false], ?_,⟨hall,.inr ⟨by simp [h0],by simp, ?_⟩⟩,.inr (Nat.le_refl _),by simp,fun x hx hk => ?_⟩
   ·simp only [qaF,qaC,hsrc]
    rw [if_pos (.inl ⟨hn,by decide⟩)]
    simp only [loose]at hold h3⊢
    simp only [hold,h3,if_neg hf0]
    simp
   ·rw [List.getElem?_append_right (by simp)]
    simp
   ·have hkx:x≠k:=hk.resolve_left h0
    rw [List.getElem?_append_left (by rw [List.length_set];exact hx),List.getElem?_set_ne (Ne.symm hkx)]

def Calm0 (H H':qab)(g g':Nat→Nat):Prop:=H.length≤H'.length∧∀x,x<H.length→g' x=g x∧(g x=0∨g x=3→H'[x]? = H[x]?)
theorem Calm0.refl (H:qab)(g:Nat→Nat):Calm0 H H g g:=⟨Nat.le_refl _,fun x _=>⟨rfl,fun _=>rfl⟩⟩
theorem Calm0.trans {H H1 H2:qab}{g g1 g2:Nat→Nat}(a:Calm0 H H1 g g1)(b:Calm0 H1 H2 g1 g2):Calm0 H H2 g g2 :=
 ⟨Nat.le_trans a.1 b.1,fun x hx=>by
   have hx1:=Nat.lt_of_lt_of_le hx a.1
   exact⟨((b.2 x hx1).1).trans (a.2 x hx).1,fun h=>((b.2 x hx1).2 (by rw [(a.2 x hx).1];exact h)).trans ((a.2 x hx).2 h)⟩⟩
theorem Stp.calm0 {T:Nat→Prop}{H H':qab}{g g':Nat→Nat}(s:Stp T H H' g g')(h0:T 0)(h3:T 3):Calm0 H H' g g' :=
 ⟨s.len,fun x hx=>⟨s.tag x hx,fun h=>s.same x hx (by rcases h with h|h<;>rw [h]<;>assumption)⟩⟩
theorem PInv.cells' {T:Nat→Prop}{H H':qab}{g g':Nat→Nat}{c:Cfg}{cb:CB}{ws bs ws' bs':List Int}{ts:List Th}{pb:List Nat}(h:PInv H g c cb ws bs ts pb)(hC:IsC H' cb ws' bs')(s:Stp T H H' g g')(h0:T 0)(hi:∀i,T (4+2*i)):PInv H' g' c cb ws' bs' ts pb :=
 have lc:=ltC h.cells
 ⟨hC,⟨(s.tag _ lc.1).trans h.tc.1,(s.tag _ lc.2.1).trans h.tc.2.1,(s.tag _ lc.2.2).trans h.tc.2.2⟩,h.len,fun i t b ht hb=>(h.th i t b ht hb).keep s h0 (hi i)⟩

structure Pgs (h:qab)(v:Value)(l:List (Value×List Op4)):Prop where
 sl:Sl h 1 v (l.map fun p => [p.1])
 each:∀p∈l,Sl h 4 p.1 (ocs p.2)∧qiG p.1 p.2.length∧p.2.length*32≤2 ^ 47
theorem Pgs.ext {h h':qab}{v:Value}{l:List (Value×List Op4)}(p:Pgs h v l)(e:Ext h h'):Pgs h' v l:=⟨p.sl.ext e,fun q hq=>⟨(p.each q hq).1.ext e,(p.each q hq).2⟩⟩
theorem Pgs.at {h:qab}{v:Value}{l:List (Value×List Op4)}(p:Pgs h v l){i:Nat}{q:Value×List Op4}(hi:l[i]? = some q) :
  ∃a cap,v = .slice (some a) l.length cap∧qav h none ⟨a.block,a.off+i*1,none⟩=some q.1:=by
 obtain⟨a,cap,h1,h2,_⟩:=p.sl.at (i:=i) (e := [q.1]) (by rw [List.getElem?_map,hi];rfl)
 rw [List.length_map]at h1
 exact⟨a,cap,h1,h2 0 q.1 rfl⟩

def qqq (l:List (Value×List Op4))(i:Nat):List Op4:=match l[i]? with|some q=>q.2|none => []
def tsW (c:Cfg)(l:List (Value×List Op4))(n:Nat):List Th:=(List.range n).map fun(i:Nat)=>th0 i (qp7 c i (qqq l i))
theorem qqr (c:Cfg)(l:List (Value×List Op4))(n:Nat):tsW c l (n+1)=tsW c l n ++ [th0 n (qp7 c n (qqq l n))]:=by
 unfold tsW
 rw [List.range_succ,List.map_append]
 rfl
def Old (h H:qab)(g:Nat→Nat):Prop:=h.length≤H.length∧∀x,x<h.length→g x=0∧H[x]? = h[x]?
theorem Old.ext {h H:qab}{g:Nat→Nat}(o:Old h H g):Ext h H:=⟨o.1,fun x hx=>(o.2 x hx).2⟩
theorem Old.calm {h H H':qab}{g g':Nat→Nat}(o:Old h H g)(s:Calm0 H H' g g'):Old h H' g' :=
 ⟨Nat.le_trans o.1 s.1,fun x hx=>by
   have hx1:=Nat.lt_of_lt_of_le hx o.1
   exact⟨(s.2 x hx1).1.trans (o.2 x hx).1,((s.2 x hx1).2 (.inl (o.2 x hx).1)).trans (o.2 x hx).2⟩⟩
def kcs (l:List Int):List (List Value):=l.map fun n => [I n]
theorem qqs (l:List Int):(kcs l).length=l.length:=by simp [kcs]
theorem qqt {h:qab}{v:Value}{l:List Int}(hv:Sl h 1 v (kcs l)){i:Nat}{q:Int}(hi:l[i]? = some q) :
  ∃a cap,v = .slice (some a) l.length cap∧qav h none ⟨a.block,a.off+i*1,none⟩=some (I q):=by
 obtain⟨a,cap,h1,h2,_⟩:=hv.at (i:=i) (e := [I q]) (by unfold kcs;rw [List.getElem?_map,hi];rfl)
 rw [qqs]at h1
 exact⟨a,cap,h1,h2 0 _ rfl⟩
def qqu (l:List (Value×List Op4)):Nat:=(l.map fun p=>p.2.length).sum
theorem qqv {l:List (Value×List Op4)}{i:Nat}{q:Value×List Op4}(hi:l[i]? = some q):qqu (l.take (i+1))=qqu (l.take i)+q.2.length:=by
 obtain⟨hil,he⟩:=List.getElem?_eq_some_iff.1 hi
 rw [List.take_succ_eq_append_getElem hil,he]
 simp [qqu]
theorem qqw:∀{l:List (Value×List Op4)} {q:Value×List Op4},q∈l→q.2.length≤qqu l
 | p::r,q,h=>by
   have e:qqu (p::r)=p.2.length+qqu r:=by simp [qqu]
   rw [e]
   rcases List.mem_cons.1 h with rfl|h
   ·omega
   ·have:=qqw h;omega
theorem qqx {l:List (Value×List Op4)}{B:Nat}(h:∀p∈l,p.2.length≤B):qqu l≤l.length*B:=by
 induction l with
 | nil=>simp [qqu]
 | cons p r ih =>
   have e:qqu (p::r)=p.2.length+qqu r:=by simp [qqu]
   rw [e,List.length_cons,Nat.add_mul]
   have:=ih fun q hq=>h q (List.mem_cons_of_mem _ hq)
   have:=h p (List.mem_cons_self ..)
   omega

end Go.Proofs.YtdinebegmppnoabGreat

/- A world in the heap: cells, threads, a pass, a history; a step of its pass. -/
namespace Go.Proofs.YtdinebegmppnoabGreat
open Go Go.Ir

def PassI (H:qab)(g:Nat→Nat)(c:Cfg)(m:Mc)(M:Nat):Prop :=
 m.wg∧m.c=c∧∃own ov tv,McAt H own M m ov tv∧∀x∈own,g x=2005
theorem PassI.keep {T:Nat→Prop}{H H':qab}{g g':Nat→Nat}{c:Cfg}{m:Mc}{M:Nat}(h:PassI H g c m M)(s:Stp T H H' g g')(hT:T 2005):PassI H' g' c m M:=by
 obtain⟨h1,h2,own,ov,tv,h3,h4⟩:=h
 exact⟨h1,h2,own,ov,tv,h3.keep s.len (fun x hx=>s.same x (h3.lt x hx) (by rw [h4 x hx];exact hT)),fun x hx=>(s.tag x (h3.lt x hx)).trans (h4 x hx)⟩
def TW (n:Nat):Prop:=n≠2∧n≠2005
theorem qqy {H:qab}{g:Nat→Nat}{c:Cfg}{cb:CB}{ws bs:List Int}{ts:List Th}{pb:List Nat}{m:Mc}{M:Nat}(h:PInv H g c cb ws bs ts pb)(hp:PassI H g c m M) :
  ∃H' own ov tv,qfV En 0 Id.zaJ [qku M,ifC cb] H=some (qmL (qns m ws bs).1.2,H')∧PInv H' (qqb H g 2005) c cb (qns m ws bs).2.1 (qns m ws bs).2.2 ts pb∧McAt H' own M (qns m ws bs).1.1 ov tv∧(∀x∈own,qqb H g 2005 x=2005)∧Stp TW H H' g (qqb H g 2005):=by
 obtain⟨⟨hw,hf,h0⟩,hc,own,ov,tv,hM,hg⟩:=hp
 have d:Disj own cb:=fun b hb=>by
  have:=hg b hb
  refine⟨fun e => ?_,fun e => ?_,fun e => ?_⟩
  ·rw [e,h.tc.1]at this;omega
  ·rw [e,h.tc.2.1]at this;omega
  ·rw [e,h.tc.2.2]at this;omega
 obtain⟨v,H',hS,⟨hv,own',ov',tv',hA,hch,hn⟩,hC⟩:=qnt hM hw h.cells d (fun b _=>Nat.zero_le b) ⟨Nat.zero_le _,Nat.zero_le _,Nat.zero_le _⟩ h0
 subst hv
 have st:Stp TW H H' g (qqb H g 2005):=⟨hch.len,fun x hx=>qqc hx,fun x hx ht=>hch.same x hx fun hm=>by
  unfold qm1 at hm
  simp only [List.mem_append,List.mem_cons,List.not_mem_nil,or_false]at hm
  rcases hm with q|rfl|rfl|rfl
  ·exact ht.2 (hg x q)
  ·exact ht.1 h.tc.1
  ·exact ht.1 h.tc.2.1
  ·exact ht.1 h.tc.2.2⟩
 refine⟨H',own',ov',tv',hS,h.cells' hC st ⟨by decide,by decide⟩ (fun i=>⟨by omega,by omega⟩),hA,fun x hx => ?_,st⟩
 rcases hn x hx with q|q
 ·rw [qqc (hM.lt x q)];exact hg x q
 ·exact qqd q

structure Wst where
 ts:List Th
 ws:List Int
 bs:List Int
 m:Mc
 evs:List (List Value)
 pa:Int
 mo:Int
 lw:Int
def qqz (c:Cfg)(cb:CB)(tv hv:Value)(M:Nat)(a b d:Int):List Value := [qjc cb,I c.A,I c.S,I c.T,tv,qku M,hv,I a,I b,I d]
structure WInv (H:qab)(g:Nat→Nat)(c:Cfg)(cb:CB)(B:Nat)(w:Wst)(pb:List Nat)(M ka kh:Nat)(tv hv:Value):Prop where
 row:H[B]? = some (.row (qqz c cb tv hv M w.pa w.mo w.lw) false)
 gB:g B=1
 p:PInv H g c cb w.ws w.bs w.ts pb
 ps:PassI H g c w.m M
 arr:Arr H tv pb ka
 ga:pb≠[]→g ka=1∧ka≠B
 out:OutB H hv w.evs kh
 gh:w.evs≠[]→g kh=1∧kh≠B∧(pb≠[]→kh≠ka)
 len:(pb.length:Int)=c.T
theorem WInv.keep {T:Nat→Prop}{H H':qab}{g g':Nat→Nat}{c:Cfg}{cb:CB}{B:Nat}{w:Wst}{pb:List Nat}{M ka kh:Nat}{tv hv:Value}(h:WInv H g c cb B w pb M ka kh tv hv)(s:Stp T H H' g g')(h0:T 0)(h1:T 1)(h2:T 2)(h5:T 2005)(hi:∀i,T (4+2*i)):WInv H' g' c cb B w pb M ka kh tv hv :=
 have hB:=qiC h.row
 ⟨(s.same B hB (by rw [h.gB];exact h1)).trans h.row,(s.tag B hB).trans h.gB,h.p.keep s h0 h2 hi,h.ps.keep s h5,h.arr.keep fun q=>s.same ka (h.arr.lt q) (by rw [(h.ga q).1];exact h1),fun q=>⟨(s.tag ka (h.arr.lt q)).trans (h.ga q).1,(h.ga q).2⟩,
   h.out.keep fun q=>s.same kh (h.out.lt q) (by rw [(h.gh q).1];exact h1),fun q=>⟨(s.tag kh (h.out.lt q)).trans (h.gh q).1,(h.gh q).2⟩,h.len⟩

def qqA (c:Cfg)(w:Wst):Wst :=
 match (qns w.m w.ws w.bs).1.2 with
 | none => {w with m:=(qns w.m w.ws w.bs).1.1,ws:=(qns w.m w.ws w.bs).2.1,bs:=(qns w.m w.ws w.bs).2.2}
 | some n => {w with m:=mc0 c,ws:=(qns w.m w.ws w.bs).2.1,bs:=(qns w.m w.ws w.bs).2.2,pa:=w64 (w.pa+1),mo:=w64 (w.mo+n),lw:=if(qns w.m w.ws w.bs).1.1.low then w64 (w.lw+1)else w.lw}

section
variable {H:qab}{g:Nat→Nat}{c:Cfg}{cb:CB}{B:Nat}{w:Wst}{pb:List Nat}{M ka kh:Nat}{tv hv:Value}
theorem WInv.l0 (h:WInv H g c cb B w pb M ka kh tv hv):qav H none ⟨B,0+0,none⟩=some (qjc cb):=qiD h.row rfl
theorem WInv.l5 (h:WInv H g c cb B w pb M ka kh tv hv):qav H none ⟨B,0+5,none⟩=some (qku M):=qiD h.row rfl
theorem WInv.put {H':qab}{w':Wst}(h:WInv H g c cb B w pb M ka kh tv hv)(hl:H'.length=H.length)(hk:∀x,x≠B→H'[x]? = H[x]?)(hr:H'[B]? = some (.row (qqz c cb tv hv M w'.pa w'.mo w'.lw) false))(e1:w'.ts=w.ts)(e2:w'.ws=w.ws)(e3:w'.bs=w.bs)(e4:w'.m=w.m)(e5:w'.evs=w.evs):WInv H' g c cb B w' pb M ka kh tv hv:=by
 have st:Stp (fun n=>n≠1) H H' g g:=⟨Nat.le_of_eq hl.symm,fun x _=>rfl,fun x hx ht=>hk x fun e=>ht (by rw [e];exact h.gB)⟩
 refine⟨hr,h.gB, ?_, ?_,h.arr.keep fun q=>hk _ (h.ga q).2,h.ga, ?_, ?_,h.len⟩
 ·rw [e1,e2,e3];exact h.p.keep st (by decide) (by decide) (fun i=>by omega)
 ·rw [e4];exact h.ps.keep st (by decide)
 ·rw [e5];exact h.out.keep fun q=>hk _ (h.gh q).2.1
 ·rw [e5];exact h.gh

set_option maxHeartbeats 1600000 in
theorem qqB (hm:c.may)(h:WInv H g c cb B w pb M ka kh tv hv):∃H' g' M',qfV En 0 Id.zdt [qku B] H=some (.tuple #[],H')∧WInv H' g' c cb B (qqA c w) pb M' ka kh tv hv∧Calm0 H H' g g':=by
 obtain⟨H1,own,ov,xv,hS,p1,hA,hg1,st1⟩:=qqy h.p h.ps
 have hBl:=qiC h.row
 have r1:H1[B]? = some (.row (qqz c cb tv hv M w.pa w.mo w.lw) false):=(st1.same B hBl (by rw [h.gB];exact⟨by decide,by decide⟩)).trans h.row
 have hBo:B∉own:=fun q=>by
  have:=hg1 B q
  rw [st1.tag B hBl,h.gB]at this
  omega
 have ar1:Arr H1 tv pb ka:=h.arr.keep fun q=>st1.same ka (h.arr.lt q) (by rw [(h.ga q).1];exact⟨by decide,by decide⟩)
 have ga1:pb≠[]→qqb H g 2005 ka=1∧ka≠B:=fun q=>⟨(st1.tag ka (h.arr.lt q)).trans (h.ga q).1,(h.ga q).2⟩
 have ou1:OutB H1 hv w.evs kh:=h.out.keep fun q=>st1.same kh (h.out.lt q) (by rw [(h.gh q).1];exact⟨by decide,by decide⟩)
 have gh1:w.evs≠[]→qqb H g 2005 kh=1∧kh≠B∧(pb≠[]→kh≠ka):=fun q=>⟨(st1.tag kh (h.out.lt q)).trans (h.gh q).1,(h.gh q).2⟩
 have gB1:qqb H g 2005 B=1:=(st1.tag B hBl).trans h.gB
 have stay:=qnI (ws:=w.ws) (bs:=w.bs) h.ps.1 h.ps.2.1
 have l0:=h.l0
 have l5:=h.l5
 unfold qqA
 cases hr:(qns w.m w.ws w.bs).1.2 with
 | none =>
   rw [hr]at hS
   simp only
   have hq:=stay hr
   refine⟨H1,_,M, ?_,⟨r1,gB1,p1,⟨hq.1,hq.2,own,ov,xv,hA,hg1⟩,ar1,ga1,ou1,gh1,h.len⟩,st1.calm0 ⟨by decide,by decide⟩ ⟨by decide,by decide⟩⟩
   refine qgx rfl Fn.zdt rfl rfl ?_
   simp only [qmL]at hS
   repeat' first|refine .A ?_|refine .B ?_|refine .C ?_|refine .J ?_|refine .L l0 ?_|refine .L l5 ?_|refine .P hS ?_|refine .F ?_|refine .Y ?_|fail
   rfl
 | some n =>
   rw [hr]at hS
   simp only
   simp only [qmL]at hS
   have lt1:=qiC r1
   have a7:qav H1 none ⟨B,0+7,none⟩=some (I w.pa):=qiD r1 rfl
   have s7:stN 0 H1 ⟨B,0+7,none⟩ (qaf (I (w64 (w.pa+1))))=some (H1.set B (Blk.row (qqz c cb tv hv M (w64 (w.pa+1)) w.mo w.lw) false)):=qiF r1 (Nat.zero_le _) (Nat.le_of_ble_eq_true rfl) rfl
   have r2:(H1.set B (Blk.row (qqz c cb tv hv M (w64 (w.pa+1)) w.mo w.lw) false))[B]? = some (.row (qqz c cb tv hv M (w64 (w.pa+1)) w.mo w.lw) false):=qiz lt1
   have k2:∀x,x≠B→(H1.set B (Blk.row (qqz c cb tv hv M (w64 (w.pa+1)) w.mo w.lw) false))[x]? = H1[x]? := fun x hx=>List.getElem?_set_ne (Ne.symm hx)
   have n2:(H1.set B (Blk.row (qqz c cb tv hv M (w64 (w.pa+1)) w.mo w.lw) false)).length=H1.length:=List.length_set
   generalize H1.set B (Blk.row (qqz c cb tv hv M (w64 (w.pa+1)) w.mo w.lw) false)=H2 at s7 r2 k2 n2
   have a8:qav H2 none ⟨B,0+8,none⟩=some (I w.mo):=qiD r2 rfl
   have s8:stN 0 H2 ⟨B,0+8,none⟩ (qaf (I (w64 (w.mo+n))))=some (H2.set B (Blk.row (qqz c cb tv hv M (w64 (w.pa+1)) (w64 (w.mo+n)) w.lw) false)):=qiF r2 (Nat.zero_le _) (Nat.le_of_ble_eq_true rfl) rfl
   have r3:(H2.set B (Blk.row (qqz c cb tv hv M (w64 (w.pa+1)) (w64 (w.mo+n)) w.lw) false))[B]? = some (.row (qqz c cb tv hv M (w64 (w.pa+1)) (w64 (w.mo+n)) w.lw) false):=qiz (qiC r2)
   have k3:∀x,x≠B→(H2.set B (Blk.row (qqz c cb tv hv M (w64 (w.pa+1)) (w64 (w.mo+n)) w.lw) false))[x]? = H1[x]? := fun x hx=>(List.getElem?_set_ne (Ne.symm hx)).trans (k2 x hx)
   have n3:(H2.set B (Blk.row (qqz c cb tv hv M (w64 (w.pa+1)) (w64 (w.mo+n)) w.lw) false)).length=H1.length:=List.length_set.trans n2
   generalize H2.set B (Blk.row (qqz c cb tv hv M (w64 (w.pa+1)) (w64 (w.mo+n)) w.lw) false)=H3 at s8 r3 k3 n3
   have a5:qav H3 none ⟨B,0+5,none⟩=some (qku M):=qiD r3 rfl
   have hA3:McAt H3 own M (qns w.m w.ws w.bs).1.1 ov xv:=hA.keep (Nat.le_of_eq n3.symm) fun x hx=>k3 x fun e=>hBo (e▸hx)
   have hL:=qnK (lo:=0) hA3
   have a9:qav H3 none ⟨B,0+9,none⟩=some (I w.lw):=qiD r3 rfl
   have fin:∀(H4:qab) (lw':Int),H4[B]? = some (.row (qqz c cb tv hv M (w64 (w.pa+1)) (w64 (w.mo+n)) lw') false)→(∀x,x≠B→H4[x]? = H1[x]?)→H4.length=H1.length→
     stN 0 (H4 ++ [Blk.row (qmJ (mc0 c) qnx qny) false]) ⟨B,0+5,none⟩ (qaf (qku H4.length))=some ((H4 ++ [Blk.row (qmJ (mc0 c) qnx qny) false]).set B (Blk.row (qqz c cb tv hv H4.length (w64 (w.pa+1)) (w64 (w.mo+n)) lw') false))∧
     ∃g',WInv ((H4 ++ [Blk.row (qmJ (mc0 c) qnx qny) false]).set B (Blk.row (qqz c cb tv hv H4.length (w64 (w.pa+1)) (w64 (w.mo+n)) lw') false)) g' c cb B {w with m:=mc0 c,ws:=(qns w.m w.ws w.bs).2.1,bs:=(qns w.m w.ws w.bs).2.2,pa:=w64 (w.pa+1),mo:=w64 (w.mo+n),lw:=lw'} pb H4.length ka kh tv hv∧
      Calm0 H ((H4 ++ [Blk.row (qmJ (mc0 c) qnx qny) false]).set B (Blk.row (qqz c cb tv hv H4.length (w64 (w.pa+1)) (w64 (w.mo+n)) lw') false)) g g':=fun H4 lw' r4 k4 n4=>by
    have r5:(H4 ++ [Blk.row (qmJ (mc0 c) qnx qny) false])[B]? = some (.row (qqz c cb tv hv M (w64 (w.pa+1)) (w64 (w.mo+n)) lw') false):=qiB r4
    refine⟨qiF r5 (Nat.zero_le _) (Nat.le_of_ble_eq_true rfl) rfl,qqb H1 (qqb H g 2005) 2005, ?_⟩
    have k6:∀x,x<H1.length→x≠B→((H4 ++ [Blk.row (qmJ (mc0 c) qnx qny) false]).set B (Blk.row (qqz c cb tv hv H4.length (w64 (w.pa+1)) (w64 (w.mo+n)) lw') false))[x]? = H1[x]? := fun x hx hb=>by
     rw [List.getElem?_set_ne (Ne.symm hb),List.getElem?_append_left (by omega)]
     exact k4 x hb
    have st6:Stp (fun n=>n≠1) H1 ((H4 ++ [Blk.row (qmJ (mc0 c) qnx qny) false]).set B (Blk.row (qqz c cb tv hv H4.length (w64 (w.pa+1)) (w64 (w.mo+n)) lw') false)) (qqb H g 2005) (qqb H1 (qqb H g 2005) 2005):=⟨by simp;omega,fun x hx=>qqc hx,fun x hx ht=>k6 x hx fun e=>ht (by rw [e];exact gB1)⟩
    refine⟨⟨qiz (qiC r5),(st6.tag B lt1).trans gB1,p1.keep st6 (by decide) (by decide) (fun i=>by omega),⟨qnJ hm,rfl,[H4.length],qnx,qny,(qnA H4 c).keep (by simp) fun x hx => ?_,fun x hx => ?_⟩,ar1.keep fun q=>k6 ka (ar1.lt q) (ga1 q).2,fun q=>⟨(st6.tag ka (ar1.lt q)).trans (ga1 q).1,(ga1 q).2⟩,ou1.keep fun q=>k6 kh (ou1.lt q) (gh1 q).2.1,fun q=>⟨(st6.tag kh (ou1.lt q)).trans (gh1 q).1,(gh1 q).2⟩,h.len⟩,(st1.calm0 ⟨by decide,by decide⟩ ⟨by decide,by decide⟩).trans (st6.calm0 (by decide) (by decide))⟩
    ·rw [List.mem_singleton]at hx
     subst hx
     exact List.getElem?_set_ne (by omega)
    ·rw [List.mem_singleton]at hx
     subst hx
     exact qqd (by omega)
   cases hlow:(qns w.m w.ws w.bs).1.1.low with
   | false =>
     rw [hlow]at hL
     obtain⟨s5,g',hW,hc0⟩:=fin H3 w.lw r3 k3 n3
     have a1:qav H3 (some 3) ⟨B,0+1,none⟩=some (.agg c.cs.toArray):=qiE r3 (Nat.le_of_ble_eq_true rfl) rfl
     have hN:=fun lo=>qnz lo H3 hm
     refine⟨_,g',H3.length, ?_,hW,hc0⟩
     refine qgx rfl Fn.zdt rfl rfl ?_
     repeat' first|refine .A ?_|refine .B ?_|refine .D ?_|refine .F ?_|refine .nil rfl ?_|refine .C ?_|(show EG _ _ (⟨_,.load _ _,_,_⟩::_) _ _ _ _ _ _;first|refine .L l0 ?_|refine .L l5 ?_|refine .L a7 ?_|refine .L a8 ?_|refine .L a5 ?_|refine .L a1 ?_)|refine .P hS ?_|refine .P hL ?_|refine .P (hN _) ?_|refine .S s7 ?_|refine .S s8 ?_|refine .S s5 ?_|refine .Y ?_|fail
     rfl
   | true =>
     rw [hlow]at hL
     have s9:stN 0 H3 ⟨B,0+9,none⟩ (qaf (I (w64 (w.lw+1))))=some (H3.set B (Blk.row (qqz c cb tv hv M (w64 (w.pa+1)) (w64 (w.mo+n)) (w64 (w.lw+1))) false)):=qiF r3 (Nat.zero_le _) (Nat.le_of_ble_eq_true rfl) rfl
     have r4:(H3.set B (Blk.row (qqz c cb tv hv M (w64 (w.pa+1)) (w64 (w.mo+n)) (w64 (w.lw+1))) false))[B]? = some (.row (qqz c cb tv hv M (w64 (w.pa+1)) (w64 (w.mo+n)) (w64 (w.lw+1))) false):=qiz (qiC r3)
     have k4:∀x,x≠B→(H3.set B (Blk.row (qqz c cb tv hv M (w64 (w.pa+1)) (w64 (w.mo+n)) (w64 (w.lw+1))) false))[x]? = H1[x]? := fun x hx=>(List.getElem?_set_ne (Ne.symm hx)).trans (k3 x hx)
     have n4:(H3.set B (Blk.row (qqz c cb tv hv M (w64 (w.pa+1)) (w64 (w.mo+n)) (w64 (w.lw+1))) false)).length=H1.length:=List.length_set.trans n3
     generalize H3.set B (Blk.row (qqz c cb tv hv M (w64 (w.pa+1)) (w64 (w.mo+n)) (w64 (w.lw+1))) false)=H4 at s9 r4 k4 n4
     obtain⟨s5,g',hW,hc0⟩:=fin H4 _ r4 k4 n4
     have a1:qav H4 (some 3) ⟨B,0+1,none⟩=some (.agg c.cs.toArray):=qiE r4 (Nat.le_of_ble_eq_true rfl) rfl
     have hN:=fun lo=>qnz lo H4 hm
     refine⟨_,g',H4.length, ?_,hW,hc0⟩
     refine qgx rfl Fn.zdt rfl rfl ?_
     repeat' first|refine .A ?_|refine .B ?_|refine .C ?_|refine .D ?_|refine .F ?_|refine .nil rfl ?_|(show EG _ _ (⟨_,.load _ _,_,_⟩::_) _ _ _ _ _ _;first|refine .L l0 ?_|refine .L l5 ?_|refine .L a7 ?_|refine .L a8 ?_|refine .L a5 ?_|refine .L a9 ?_|refine .L a1 ?_)|refine .P hS ?_|refine .P hL ?_|refine .P (hN _) ?_|refine .S s7 ?_|refine .S s8 ?_|refine .S s9 ?_|refine .S s5 ?_|refine .Y ?_|fail
     rfl
end
end Go.Proofs.YtdinebegmppnoabGreat

/- A world: a pick. -/
namespace Go.Proofs.YtdinebegmppnoabGreat
open Go Go.Ir

def wTh (c:Cfg)(w:Wst)(i:Nat)(t:Th):Wst := {w with ts:=w.ts.set i (thS c t w.ws w.bs).1,ws:=(thS c t w.ws w.bs).2.1,bs:=(thS c t w.ws w.bs).2.2.1,evs:=w.evs++(thS c t w.ws w.bs).2.2.2}
def qqC (c:Cfg)(w:Wst)(n:Int):Wst×Bool :=
 if n<0∨c.T<n then(w,false)
 else if n=c.T then(qqA c w,true)
 else match w.ts[n.toNat]? with
  | none=>(w,false)
  | some t=>if t.ops = []then(w,false)else(wTh c w n.toNat t,true)

section
variable {H:qab}{g:Nat→Nat}{c:Cfg}{cb:CB}{B:Nat}{w:Wst}{pb:List Nat}{M ka kh:Nat}{tv hv:Value}
theorem qqD (c:Cfg)(t:Th)(ws bs:List Int):(thS c t ws bs).2.2.2.length≤1:=by
 unfold thS
 split
 ·simp
 ·split
  ·simp
  ·split
   ·simp
   ·split
    ·unfold thW;split<;>simp
    ·simp
theorem WInv.ev (h:WInv H g c cb B w pb M ka kh tv hv){H':qab}{g':Nat→Nat}(st:Stp TP H H' g g'){ws bs:List Int}{ts:List Th}(p:PInv H' g' c cb ws bs ts pb):WInv H' g' c cb B {w with ts:=ts,ws:=ws,bs:=bs} pb M ka kh tv hv :=
 have hB:=qiC h.row
 ⟨(st.same B hB (by rw [h.gB];exact .inl rfl)).trans h.row,(st.tag B hB).trans h.gB,p,h.ps.keep st (.inl rfl),h.arr.keep fun q=>st.same ka (h.arr.lt q) (by rw [(h.ga q).1];exact .inl rfl),fun q=>⟨(st.tag ka (h.arr.lt q)).trans (h.ga q).1,(h.ga q).2⟩,
   h.out.keep fun q=>st.same kh (h.out.lt q) (by rw [(h.gh q).1];exact .inl rfl),fun q=>⟨(st.tag kh (h.out.lt q)).trans (h.gh q).1,(h.gh q).2⟩,h.len⟩

set_option maxHeartbeats 1600000 in
theorem qqE (hm:c.may)(h:WInv H g c cb B w pb M ka kh tv hv)(n:Int)(hev:w.evs.length≤2 ^ 29) :
  ∃H' g' M' kh' hv',qfV En 0 Id.zds [qku B,I n] H=some (.bool (qqC c w n).2,H')∧WInv H' g' c cb B (qqC c w n).1 pb M' ka kh' tv hv'∧Calm0 H H' g g':=by
 have l3:qav H none ⟨B,0+1+2,none⟩=some (I c.T):=qiD h.row rfl
 unfold qqC
 by_cases h1:n<0
 ·rw [if_pos (.inl h1)]
  refine⟨H,g,M,kh,hv, ?_,h,Calm0.refl _ _⟩
  refine qgx rfl Fn.zds rfl rfl ?_
  repeat' first|refine .A ?_|refine .B ?_|refine .C ?_|refine .G ?_|refine .J ?_|refine .t1 ?_|refine .D ?_|refine .F ?_|refine .Y ?_|fail
  rfl
 by_cases h2:c.T<n
 ·rw [if_pos (.inr h2)]
  refine⟨H,g,M,kh,hv, ?_,h,Calm0.refl _ _⟩
  refine qgx rfl Fn.zds rfl rfl ?_
  repeat' first|refine .A ?_|refine .B ?_|refine .C ?_|refine .G ?_|refine .J ?_|refine .f1 ?_|refine .t3 ?_|refine .L l3 ?_|refine .F ?_|refine .Y ?_|fail
  rfl
 rw [if_neg (by omega)]
 by_cases h3:n=c.T
 ·rw [if_pos h3]
  obtain⟨H',g',M',hS,hW,hc⟩:=qqB hm h
  refine⟨H',g',M',kh,hv, ?_,hW,hc⟩
  refine qgx rfl Fn.zds rfl rfl ?_
  repeat' first|refine .A ?_|refine .B ?_|refine .C ?_|refine .D ?_|refine .G ?_|refine .J ?_|refine .f1 ?_|refine .f3 ?_|refine .t5 ?_|refine .L l3 ?_|refine .P hS ?_|refine .F ?_|refine .Y ?_|fail
  rfl
 rw [if_neg h3]
 obtain⟨i,rfl⟩:∃i:Nat,n=i:=⟨n.toNat,by omega⟩
 have hlen:=h.len
 have hi:i<pb.length:=by omega
 have hit:i<w.ts.length:=by rw [←h.p.len];exact hi
 have hgp:pb[i]? = some pb[i]:=List.getElem?_eq_getElem hi
 have hgt:w.ts[i]? = some w.ts[i]:=List.getElem?_eq_getElem hit
 rw [Int.toNat_natCast,hgt]
 generalize pb[i]=b at hgp
 generalize w.ts[i]=t at hgt
 have hpe:pb≠[]:=fun e=>by rw [e]at hi;simp at hi
 obtain⟨own,ob,hT,_⟩:=h.p.th i t b hgt hgp
 have hD:=qp4 hT
 have hA:=h.arr.at hgp
 have l4:qav H none ⟨B,0+4,none⟩=some tv:=qiD h.row rfl
 have A0:=hA.2 H rfl
 have l0:=h.l0
 simp only
 cases ho:t.ops with
 | nil =>
   rw [if_pos rfl]
   rw [ho]at hD
   simp only [List.isEmpty_nil]at hD
   refine⟨H,g,M,kh,hv, ?_,h,Calm0.refl _ _⟩
   rw [hA.1]at l4
   refine qgx rfl Fn.zds rfl rfl ?_
   repeat' first|refine .A ?_|refine .B ?_|refine .C ?_|refine .D ?_|refine .G ?_|refine .J ?_|refine .f1 ?_|refine .f3 ?_|refine .f5 ?_|refine .L l3 ?_|refine .L l4 ?_|refine .L A0 ?_|refine .P hD ?_|refine .R hi ?_|refine .F ?_|refine .Y ?_|fail
   rfl
 | cons o r =>
   rw [if_neg (by simp)]
   rw [ho]at hD
   simp only [List.isEmpty_cons]at hD
   obtain⟨x,H1,g1,hS,hx,p1,st1,nw⟩:=qqg hm h.p hgt hgp
   have hW1:=h.ev st1 p1
   have hfl:=qqD c t w.ws w.bs
   obtain⟨v',k',H2,hap,hO2,hk2,hl2,hs2⟩:=qqp hW1.out hx.1 (by show w.evs.length+_≤_;omega)
   have lB:=qiC hW1.row
   have hBk:w.evs = []∨B≠kh:=by
    by_cases e:w.evs = []
    ·exact .inl e
    ·exact .inr fun q=>(h.gh e).2.1 q.symm
   have r2:H2[B]? = some (.row (qqz c cb tv hv M w.pa w.mo w.lw) false):=(hs2 B lB hBk).trans hW1.row
   have s6:stN 0 H2 ⟨B,0+6,none⟩ (qaf v')=some (H2.set B (.row (qqz c cb tv v' M w.pa w.mo w.lw) false)):=by
    have e:=hO2.one
    rw [e]
    exact qiF r2 (Nat.zero_le _) (Nat.le_of_ble_eq_true rfl) rfl
   have l6:qav H none ⟨B,0+6,none⟩=some hv:=qiD h.row rfl
   have m6:qav H1 none ⟨B,0+6,none⟩=some hv:=qiD hW1.row rfl
   have hsm:=h.out.same
   have hl1:=st1.len
   have st3:Stp (fun n=>n≠1) H1 (H2.set B (.row (qqz c cb tv v' M w.pa w.mo w.lw) false)) g1 (qqb H1 g1 1):=⟨by rw [List.length_set];exact hl2,fun y hy=>qqc hy,fun y hy ht=>by
    have hyB:y≠B:=fun e=>ht (by rw [e];exact hW1.gB)
    rw [List.getElem?_set_ne (Ne.symm hyB)]
    exact hs2 y hy (Decidable.byContradiction fun hn=>ht (by
     have q1:w.evs≠[]:=fun e=>hn (.inl e)
     have q2:y=kh:=Decidable.byContradiction fun e=>hn (.inr e)
     rw [q2];exact(hW1.gh q1).1))⟩
   refine⟨H2.set B (.row (qqz c cb tv v' M w.pa w.mo w.lw) false),qqb H1 g1 1,M,k',v', ?_,⟨qiz (qiC r2),(st3.tag B lB).trans hW1.gB,p1.keep st3 (by decide) (by decide) (fun i=>by omega),hW1.ps.keep st3 (by decide), ?_,fun q=>⟨(st3.tag ka (hW1.arr.lt q)).trans (hW1.ga q).1,(hW1.ga q).2⟩, ?_,fun q => ?_,h.len⟩,(st1.calm0 (.inr rfl) (.inl rfl)).trans (st3.calm0 (by decide) (by decide))⟩
   ·rw [hA.1]at l4
    obtain⟨vb,vc,hve⟩:=hO2.sl.len
    subst hve
    refine qgx rfl Fn.zds rfl rfl ?_
    repeat' first|refine .A ?_|refine .B ?_|refine .D ?_|refine .F ?_|refine .G ?_|refine .H ?_|refine .J ?_|refine .f1 ?_|refine .f3 ?_|refine .f5 ?_|refine .L l0 ?_|refine .L l3 ?_|refine .L l4 ?_|refine .L A0 ?_|refine .P hD ?_|refine .P hS ?_|refine .R hi ?_|refine .U hap ?_|refine .X m6 (qiI l6) hsm ?_|refine .S s6 ?_|refine .Y ?_|fail
    rfl
   ·exact hW1.arr.keep fun q=>by
     rw [List.getElem?_set_ne (Ne.symm (hW1.ga q).2)]
     refine hs2 ka (hW1.arr.lt q) ?_
     by_cases e:w.evs = []
     ·exact .inl e
     ·exact .inr fun e2=>(hW1.gh e).2.2 q e2.symm
   ·refine hO2.keep fun q=>List.getElem?_set_ne fun e => ?_
    rcases hk2 with⟨e1,e2⟩|e1
    ·exact(h.gh e1).2.1 (e2.symm.trans e.symm)
    ·omega
   ·rcases hk2 with⟨e1,rfl⟩|e1
    ·exact⟨(st3.tag k' (hW1.out.lt e1)).trans (hW1.gh e1).1,(hW1.gh e1).2⟩
    ·refine⟨qqd e1,by omega,fun q => ?_⟩
     have:=hW1.arr.lt q
     omega
end
end Go.Proofs.YtdinebegmppnoabGreat

/- A world is made. -/
namespace Go.Proofs.YtdinebegmppnoabGreat
open Go Go.Ir

def w0 (c:Cfg)(l:List (Value×List Op4)):Wst:=⟨tsW c l c.T.toNat,qjK c,List.replicate c.A.toNat 0,mc0 c,[],0,0,0⟩

def gW (n:Nat):Nat→Nat:=fun x=>if x<n then 0 else if x<n+3 then 2 else if x=n+3 then 2005 else 1

set_option maxHeartbeats 3200000 in
theorem qqF {h:qab}{c:Cfg}{v:Value}{l:List (Value×List Op4)}(hm:c.may)(hv:Pgs h v l)(hl:(l.length:Int)≤c.T) :
  ∃H' g' B cb pb M ka tv,qfV En 0 Id.zdn [.agg #[I c.A,I c.S,I c.T],v] h=some (.tuple #[qku B,I 0],H')∧WInv H' g' c cb B (w0 c l) pb M ka 0 tv (.slice none 0 0)∧Old h H' g'∧h.length≤B:=by
 have key:∃u H',qfV En 0 Id.zdn [.agg #[I c.A,I c.S,I c.T],v] h=some (u,H')∧∃g' B cb pb M ka tv,u = .tuple #[qku B,I 0]∧WInv H' g' c cb B (w0 c l) pb M ka 0 tv (.slice none 0 0)∧Old h H' g'∧h.length≤B:=by
  have hm':=hm
  unfold Cfg.may at hm'
  have hO:=fun lo=>qju lo h hm
  have hWd:=fun lo=>qjv lo h hm
  refine Exists.elim (show ∃nw:Nat,qi3 c=nw∧1≤nw∧nw≤4096 from⟨(qi3 c).toNat,by unfold qi3;omega,by unfold qi3;omega,by unfold qi3;omega⟩) fun nw hnw => ?_
  refine Exists.elim (show ∃nb:Nat,c.A=nb∧nb≤4096 from⟨c.A.toNat,by omega,by omega⟩) fun nb hnb => ?_
  have hN:∀lo,qfV En lo Id.zas [I (qi3 c),I c.A] h=some (qjc (qjp h),qjo h nw nb):=fun lo=>by
   rw [hnw.1,hnb.1];exact qjs lo h hnw.2.1 hnw.2.2 hnb.2
  have hnh:=qjr h nw nb
  have hln:(qjo h nw nb).length=h.length+3:=by simp [qjo]
  have hM:=fun lo=>qnz lo (qjo h nw nb) hm
  have hMA:=qnA (qjo h nw nb) c
  have hCm:IsC (qjo h nw nb ++ [Blk.row (qmJ (mc0 c) qnx qny) false]) (qjp h) (List.replicate nw 0) (List.replicate nb 0):=hnh.1.app _
  have hxm:Ext h (qjo h nw nb ++ [Blk.row (qmJ (mc0 c) qnx qny) false]):=hnh.2.app _
  rw [hln]at hM hMA
  have hlm:(qjo h nw nb ++ [Blk.row (qmJ (mc0 c) qnx qny) false]).length=h.length+4:=by simp [hln]
  generalize qjo h nw nb ++ [Blk.row (qmJ (mc0 c) qnx qny) false]=H1 at hM hMA hCm hxm hlm
  have hC2:IsC (H1 ++ [.row (qqz c (qjp h) (.slice none 0 0) (.slice none 0 0) (h.length+3) 0 0 0) false]) (qjp h) (List.replicate nw 0) (List.replicate nb 0):=hCm.app _
  have hr2:(H1 ++ [Blk.row (qqz c (qjp h) (.slice none 0 0) (.slice none 0 0) (h.length+3) 0 0 0) false])[h.length+4]? = some (.row (qqz c (qjp h) (.slice none 0 0) (.slice none 0 0) (h.length+3) 0 0 0) false):=by
   rw [←hlm];exact List.getElem?_concat_length
  have hA2:McAt (H1 ++ [Blk.row (qqz c (qjp h) (.slice none 0 0) (.slice none 0 0) (h.length+3) 0 0 0) false]) [h.length+3] (h.length+3) (mc0 c) qnx qny:=hMA.keep (by simp) fun x hx=>List.getElem?_append_left (hMA.lt x hx)
  have hx2:Ext h (H1 ++ [Blk.row (qqz c (qjp h) (.slice none 0 0) (.slice none 0 0) (h.length+3) 0 0 0) false]):=hxm.app _
  have hl2:(H1 ++ [Blk.row (qqz c (qjp h) (.slice none 0 0) (.slice none 0 0) (h.length+3) 0 0 0) false]).length=h.length+5:=by simp [hlm]
  have k0:qav (H1 ++ [Blk.row (qqz c (qjp h) (.slice none 0 0) (.slice none 0 0) (h.length+3) 0 0 0) false]) none ⟨h.length+4,0+0,none⟩=some (qjc (qjp h)):=qiD hr2 rfl
  have hbox:H1.length=h.length+4:=hlm
  refine Exists.elim (qjQ (lo:=0) hm hC2 ⟨Nat.zero_le _,Nat.zero_le _⟩ (by rw [List.length_replicate,hnw.1];simp) (by rw [List.length_replicate,hnb.1])) fun H3 hq => ?_
  have hS:=hq.1
  have hC3:=hq.2.1
  have ho3:=hq.2.2
  clear hq
  have old3:∀x,x<h.length+5→x≠h.length+2→x≠h.length→H3[x]? = (H1 ++ [Blk.row (qqz c (qjp h) (.slice none 0 0) (.slice none 0 0) (h.length+3) 0 0 0) false])[x]? := fun x hx a b=>ho3.same x (by simp [qjp];omega)
  have hr3:H3[h.length+4]? = some (.row (qqz c (qjp h) (.slice none 0 0) (.slice none 0 0) (h.length+3) 0 0 0) false):=(old3 _ (by omega) (by omega) (by omega)).trans hr2
  have hl3:H3.length=h.length+5:=by rw [ho3.len];exact hl2
  have hA3:McAt H3 [h.length+3] (h.length+3) (mc0 c) qnx qny:=hA2.keep (by omega) fun x hx=>by
   rw [List.mem_singleton]at hx
   subst hx
   exact old3 _ (by omega) (by omega) (by omega)
  have O3:Old h H3 (gW h.length):=⟨by omega,fun x hx=>⟨if_pos hx,(old3 x (by omega) (by omega) (by omega)).trans (hx2.2 x hx)⟩⟩
  have hp3:PInv H3 (gW h.length) c (qjp h) (qjK c) (List.replicate c.A.toNat 0) [] []:=by
   refine⟨by rw [hnb.1];exact hC3, ?_,rfl,fun i t b ht=>by simp at ht⟩
   unfold gW qjp
   refine⟨?_, ?_, ?_⟩
   ·show(if h.length+2<h.length then 0 else if h.length+2<h.length+3 then 2 else _)=2
    rw [if_neg (by omega),if_pos (by omega)]
   ·show(if h.length<h.length then 0 else if h.length<h.length+3 then 2 else _)=2
    rw [if_neg (by omega),if_pos (by omega)]
   ·show(if h.length+1<h.length then 0 else if h.length+1<h.length+3 then 2 else _)=2
    rw [if_neg (by omega),if_pos (by omega)]
  have hs3:PassI H3 (gW h.length) c (mc0 c) (h.length+3):=⟨qnJ hm,rfl,_,_,_,hA3,fun x hx=>by
   rw [List.mem_singleton]at hx
   subst hx
   unfold gW
   rw [if_neg (by omega),if_neg (by omega),if_pos rfl]⟩
  have gB3:gW h.length (h.length+4)=1:=by
   unfold gW
   rw [if_neg (by omega),if_neg (by omega),if_neg (by omega)]
  refine Exists.elim hv.sl.len fun vb hq=>Exists.elim hq fun vc hve => ?_
  rw [List.length_map]at hve
  have hpv:=hv
  subst hve
  have hOv:=hO
  refine qiv rfl Fn.zdn rfl rfl ?_
  rw [Cfg.cs]at hO hM hS
  repeat' first|rw [hbox]|refine .A ?_|refine .B ?_|refine .D ?_|refine .F ?_|refine .G ?_|refine .C ?_|refine .f3 ?_|refine .f6 ?_|refine .L k0 ?_|(show EG _ _ (⟨_,.call _ _,_,_⟩::_) _ _ _ _ _ _;first|refine .P (hO _) ?_|refine .P (hWd _) ?_|refine .P (hN _) ?_|refine .P (hM _) ?_|refine .P hS ?_)|refine .Y ?_|fail
  refine .loop (fun n f H=>∃(i:Nat) (tv:Value) (pb:List Nat) (g:Nat→Nat) (ka:Nat),(n+i:Int)=c.T∧f = [(1,.slice vb l.length vc),(2,.agg #[I c.A,I c.S,I c.T]),(8,qku (h.length+4)),(43,I c.T),(44,N i)]∧
   H[h.length+4]? = some (.row (qqz c (qjp h) tv (.slice none 0 0) (h.length+3) 0 0 0) false)∧g (h.length+4)=1∧PInv H g c (qjp h) (qjK c) (List.replicate c.A.toNat 0) (tsW c l i) pb∧PassI H g c (mc0 c) (h.length+3)∧Arr H tv pb ka∧(pb≠[]→g ka=1∧ka≠h.length+4)∧pb.length=i∧Old h H g) (n:=c.T.toNat)
   ⟨0,.slice none 0 0,[],gW h.length,0,by omega,rfl,hr3,gB3,hp3,hs3,.inl ⟨rfl,rfl⟩,fun h=>absurd rfl h,rfl,O3⟩ ?_
  clear hr3 gB3 hp3 hs3 O3 hA3 old3 hS hC3 ho3 hl3
  rintro n f H ⟨i,tv,pb,g,ka,hn,rfl,hr,hgB,hp,hps,har,hga,hpi,hOl⟩ next
  by_cases hi:(i:Int)<c.T
  ·obtain⟨ov,hov,hsl,htg,hbd⟩:∃ov,(ov=(match l[i]? with|some q=>q.1|none => .slice none 0 0))∧Sl H 4 ov (ocs (qqq l i))∧qiG ov (qqq l i).length∧(qqq l i).length*32≤2 ^ 47:=by
    unfold qqq
    cases hq:l[i]? with
    | none=>exact⟨_,rfl,⟨by simp [ocs],.inl ⟨rfl,none,0,rfl⟩⟩,.inl ⟨rfl,rfl⟩,by simp⟩
    | some q =>
      have:=hv.each q (List.mem_of_getElem? hq)
      exact⟨_,rfl,this.1.ext hOl.ext,this.2.1,this.2.2⟩
   have hBl:=qiC hr
   refine Exists.elim (qqo hm hp hsl htg hbd har (fun q=>(hga q).1) (by omega)) fun H4 hq=>Exists.elim hq fun a' hq=>Exists.elim hq fun H5 hq=>Exists.elim hq fun k' hq=>Exists.elim hq fun g' hq => ?_
   have n1:=hq.1
   have ap:=hq.2.1
   have p5:=hq.2.2.1
   have ar5:=hq.2.2.2.1
   have t5:=hq.2.2.2.2.1
   have kk:=hq.2.2.2.2.2.1
   have l5:=hq.2.2.2.2.2.2.1
   have tg5:=hq.2.2.2.2.2.2.2.1
   have s5:=hq.2.2.2.2.2.2.2.2.1
   have x4:=hq.2.2.2.2.2.2.2.2.2
   clear hq
   have hr4:H4[h.length+4]? = some (.row (qqz c (qjp h) tv (.slice none 0 0) (h.length+3) 0 0 0) false):=(x4.2 _ hBl).trans hr
   have hka:pb = []∨h.length+4≠ka:=by
    by_cases e:pb = []
    ·exact .inl e
    ·exact .inr fun q=>(hga e).2 q.symm
   have hr5:H5[h.length+4]? = some (.row (qqz c (qjp h) tv (.slice none 0 0) (h.length+3) 0 0 0) false):=(s5 _ hBl hka).trans hr
   have m4:qav H4 none ⟨h.length+4,0+4,none⟩=some tv:=qiD hr4 rfl
   have l4:qav H none ⟨h.length+4,0+4,none⟩=some tv:=qiD hr rfl
   have hsm:=har.same
   have hst:stN 0 H5 ⟨h.length+4,0+4,none⟩ (qaf a')=some (H5.set (h.length+4) (Blk.row (qqz c (qjp h) a' (.slice none 0 0) (h.length+3) 0 0 0) false)):=by
    have e:=ar5.one
    rw [e]
    exact qiF hr5 (Nat.zero_le _) (Nat.le_of_ble_eq_true rfl) rfl
   have gB5:g' (h.length+4)=1:=(tg5 _ hBl).trans hgB
   have st6:Stp (fun n=>n≠1) H5 (H5.set (h.length+4) (Blk.row (qqz c (qjp h) a' (.slice none 0 0) (h.length+3) 0 0 0) false)) g' g':=⟨by simp,fun x _=>rfl,fun x hx ht=>List.getElem?_set_ne fun e=>ht (by rw [←e];exact gB5)⟩
   have st5:Stp (fun n=>n≠1) H H5 g g':=⟨l5,tg5,fun x hx ht=>s5 x hx (Decidable.byContradiction fun hn=>ht (by
    have q1:pb≠[]:=fun e=>hn (.inl e)
    have q2:x=ka:=Decidable.byContradiction fun e=>hn (.inr e)
    rw [q2];exact(hga q1).1))⟩
   have cont:∀va:Value,va = .slice vb l.length vc→∃(i':Nat) (tv:Value) (pb:List Nat) (g:Nat→Nat) (ka:Nat),((n-1:Nat)+i':Int)=c.T∧[(1,va),(2,Value.agg #[I c.A,I c.S,I c.T]),(8,qku (h.length+4)),(43,I c.T),(44,N (i+1))] = [(1,.slice vb l.length vc),(2,.agg #[I c.A,I c.S,I c.T]),(8,qku (h.length+4)),(43,I c.T),(44,N i')]∧
     (H5.set (h.length+4) (Blk.row (qqz c (qjp h) a' (.slice none 0 0) (h.length+3) 0 0 0) false))[h.length+4]? = some (.row (qqz c (qjp h) tv (.slice none 0 0) (h.length+3) 0 0 0) false)∧g (h.length+4)=1∧PInv (H5.set (h.length+4) (Blk.row (qqz c (qjp h) a' (.slice none 0 0) (h.length+3) 0 0 0) false)) g c (qjp h) (qjK c) (List.replicate c.A.toNat 0) (tsW c l i') pb∧PassI (H5.set (h.length+4) (Blk.row (qqz c (qjp h) a' (.slice none 0 0) (h.length+3) 0 0 0) false)) g c (mc0 c) (h.length+3)∧Arr (H5.set (h.length+4) (Blk.row (qqz c (qjp h) a' (.slice none 0 0) (h.length+3) 0 0 0) false)) tv pb ka∧(pb≠[]→g ka=1∧ka≠h.length+4)∧pb.length=i'∧Old h (H5.set (h.length+4) (Blk.row (qqz c (qjp h) a' (.slice none 0 0) (h.length+3) 0 0 0) false)) g:=fun va hva=>by
    subst hva
    refine⟨i+1,a',pb ++ [H.length],g',k',by omega,rfl,qiz (qiC hr5),gB5, ?_,(hps.keep st5 (by decide)).keep st6 (by decide),ar5.keep fun _=>List.getElem?_set_ne (by omega),fun _=>⟨t5,by omega⟩,by simp [hpi],(hOl.calm (st5.calm0 (by decide) (by decide))).calm (st6.calm0 (by decide) (by decide))⟩
    rw [qqr,←hpi]
    rw [hpi]at p5⊢
    exact p5.keep st6 (by decide) (by decide) (fun i=>by omega)
   rw [hpi]at n1
   refine Exists.elim ar5.len fun ab hq=>Exists.elim hq fun ac hae => ?_
   subst hae
   by_cases hil:i<l.length
   ·have hgi:l[i]? = some l[i]:=List.getElem?_eq_getElem hil
    generalize l[i]=q at hgi
    rw [hgi]at hov
    simp only at hov
    refine Exists.elim ((hpv.ext hOl.ext).at hgi) fun ad hq=>Exists.elim hq fun cap' hq => ?_
    have hva:=hq.1
    have I0:=hq.2
    clear hq
    injection hva with e1 e2 e3
    have cont:=cont _ rfl
    subst e1
    rw [←hov]at I0
    rw [Cfg.cs]at n1
    refine Exists.elim hsl.len fun qb hq=>Exists.elim hq fun qc hqe => ?_
    rw [hqe]at I0 n1
    repeat' first|refine .A ?_|refine .B ?_|refine .C ?_|refine .F ?_|refine .G ?_|refine .H ?_|refine .t1 ?_|refine .n2 ?_|refine .L I0 ?_|refine .P n1 ?_|refine .R hil ?_|refine .U ap ?_|refine .X m4 (qiI l4) hsm ?_|refine .S hst ?_|refine .Y ?_|fail
    exact next (n-1) _ _ (by omega) cont
   ·have hgi:l[i]? = none:=List.getElem?_eq_none (by omega)
    rw [hgi]at hov
    simp only at hov
    rw [hov]at n1
    rw [Cfg.cs]at n1
    repeat' first|refine .A ?_|refine .B ?_|refine .C ?_|refine .D ?_|refine .F ?_|refine .G ?_|refine .H ?_|refine .t1 ?_|refine .f1 ?_|refine .n2 ?_|refine .P n1 ?_|refine .U ap ?_|refine .X m4 (qiI l4) hsm ?_|refine .S hst ?_|refine .Y ?_|fail
    exact next (n-1) _ _ (by omega) (cont _ rfl)
  ·have hiT:i=c.T.toNat:=by omega
   repeat' first|refine .A ?_|refine .B ?_|refine .D ?_|refine .I ?_|refine .J ?_|refine .f1 ?_|refine .F ?_|fail
   refine⟨g,h.length+4,qjp h,pb,h.length+3,ka,tv,rfl,⟨hr,hgB, ?_,hps,har,hga,⟨by simp [w0],.inl ⟨rfl,rfl⟩⟩,fun h=>absurd rfl h,by omega⟩,hOl,by omega⟩
   show PInv H g c (qjp h) (qjK c) (List.replicate c.A.toNat 0) (tsW c l c.T.toNat) pb
   rw [←hiT]
   exact hp
 obtain⟨u,H',h1,g',B,cb,pb,M,ka,tv,rfl,h2⟩:=key
 exact⟨H',g',B,cb,pb,M,ka,tv,h1,h2⟩
end Go.Proofs.YtdinebegmppnoabGreat

/- Whether ops and picks are few. -/
namespace Go.Proofs.YtdinebegmppnoabGreat
open Go Go.Ir

set_option maxHeartbeats 1600000 in
theorem qqG (lo:Nat){h:qab}{v w:Value}{l:List (Value×List Op4)}{ks:List Int}{n0 most:Nat}(hn0:n0≤1000)(hmo:most≤1000)(hv:Pgs h v l)(hw:Sl h 1 w (kcs ks))(hl:l.length<4611686018427387904) :
  ∃r,qfV En lo Id.zcN [v,N n0,w,N most] h=some (.bool r,h)∧(r=true→l.length≤4∧(∀p∈l,p.2.length≤n0)∧ks.length≤most):=by
 have key:∃u H',qfV En lo Id.zcN [v,N n0,w,N most] h=some (u,H')∧H'=h∧∃r,u = .bool r∧(r=true→l.length≤4∧(∀p∈l,p.2.length≤n0)∧ks.length≤most):=by
  have hb4:∀p∈l,p.2.length≤4398046511104:=fun p hp=>by
   have:=(hv.each p hp).2.2
   omega
  refine Exists.elim hv.sl.len fun base hq=>Exists.elim hq fun cap hve => ?_
  rw [List.length_map]at hve
  refine Exists.elim hw.len fun wb hq=>Exists.elim hq fun wc hwe => ?_
  rw [qqs]at hwe
  have hpv:=hv
  subst hve hwe
  refine qiv rfl Fn.zcN rfl rfl ?_
  repeat' first|refine .A ?_|refine .B ?_|refine .G ?_|refine .F ?_|fail
  refine .loop (fun n f H=>∃(i:Nat) (s:Int),n+i=l.length∧f = [(0,.slice base l.length cap),(1,N n0),(2,.slice wb ks.length wc),(3,N most),(9,I s),(10,N i)]∧H=h∧(i≤4→s=qqu (l.take i))) (n:=l.length) ⟨0,0,rfl,rfl,rfl,fun _=>rfl⟩ ?_
  rintro n f H ⟨i,s,hn,rfl,rfl,hs⟩ next
  by_cases hi:i<l.length
  ·have hgi:l[i]? = some l[i]:=List.getElem?_eq_getElem hi
   generalize l[i]=q at hgi
   have hqm:=List.mem_of_getElem? hgi
   have hq4:=hb4 q hqm
   have hlt:=qqv hgi
   have hbt:qqu (l.take i)≤(l.take i).length*4398046511104:=qqx fun p hp=>hb4 p (List.mem_of_mem_take hp)
   have hbl:(l.take i).length=i:=by rw [List.length_take];omega
   rw [hbl]at hbt
   refine Exists.elim (hpv.at hgi) fun a hq=>Exists.elim hq fun cap' hq => ?_
   have hva:=hq.1
   have I0:=hq.2
   clear hq
   injection hva with e1 e2 e3
   subst e1
   refine Exists.elim (hv.each q hqm).1.len fun qb hq=>Exists.elim hq fun qc hqe => ?_
   rw [qnY]at hqe
   rw [hqe]at I0
   repeat' first|refine .A ?_|refine .B ?_|refine .C ?_|refine .F ?_|refine .G ?_|refine .H ?_|refine .t1 ?_|refine .n2 ?_|refine .L I0 ?_|refine .R hi ?_|refine .Y ?_|fail
   refine next (n-1) _ _ (by omega) ⟨i+1,_,by omega,rfl,rfl,fun h4 => ?_⟩
   rw [hs (by omega),hlt]
   have:i≤3:=by omega
   rw [qiY (by omega) (by have:i*4398046511104≤3*4398046511104:=Nat.mul_le_mul_right _ this;omega)]
   simp
  ·have hil:i=l.length:=by omega
   subst hil
   rw [List.take_length]at hs
   by_cases h20:s≤(n0:Int)
   ·by_cases h4:l.length≤4
    ·have hs4:=hs h4
     by_cases h3:ks.length≤most
     ·repeat' first|refine .A ?_|refine .B ?_|refine .D ?_|refine .I ?_|refine .J ?_|refine .f1 ?_|refine .t2 ?_|refine .F ?_|refine .Y ?_|fail
      exact⟨rfl,true,rfl,fun _=>⟨h4,fun p hp=>by have:=qqw hp;omega,h3⟩⟩
     ·repeat' first|refine .A ?_|refine .B ?_|refine .D ?_|refine .I ?_|refine .J ?_|refine .f1 ?_|refine .t2 ?_|refine .f2 ?_|refine .F ?_|refine .Y ?_|fail
      exact⟨rfl,false,rfl,fun h=>by cases h⟩
    ·repeat' first|refine .A ?_|refine .B ?_|refine .D ?_|refine .I ?_|refine .J ?_|refine .f1 ?_|refine .t2 ?_|refine .f2 ?_|refine .F ?_|refine .Y ?_|fail
     exact⟨rfl,false,rfl,fun h=>by cases h⟩
   ·repeat' first|refine .A ?_|refine .B ?_|refine .D ?_|refine .I ?_|refine .J ?_|refine .f1 ?_|refine .f2 ?_|refine .F ?_|refine .Y ?_|fail
    exact⟨rfl,false,rfl,fun h=>by cases h⟩
 obtain⟨u,_,h1,rfl,r,rfl,h2⟩:=key
 exact⟨r,h1,h2⟩
end Go.Proofs.YtdinebegmppnoabGreat

/- A world behind picks: words stay in their range, few events. -/
namespace Go.Proofs.YtdinebegmppnoabGreat
open Go Go.Ir

theorem qqH {H:qab}{g:Nat→Nat}{c:Cfg}{cb:CB}{B:Nat}{w:Wst}{pb:List Nat}{M ka kh:Nat}{tv hv:Value}(h:WInv H g c cb B w pb M ka kh tv hv)(lo:Nat):qfV En lo Id.zdo [qku B] H=some (qjc cb,H):=by
 have l0:=h.l0
 refine qgx rfl Fn.zdo rfl rfl ?_
 repeat' first|refine .A ?_|refine .B ?_|refine .D ?_|refine .F ?_|refine .J ?_|refine .L l0 ?_|refine .Y ?_|fail
 rfl

def qqI (c:Cfg)(w:Wst)(ks:List Int):Wst:=ks.foldl (fun w k=>(qqC c w k).1) w
theorem qqJ {c:Cfg}{w:Wst}{ks:List Int}{i:Nat}{q:Int}(h:ks[i]? = some q):qqI c w (ks.take (i+1))=(qqC c (qqI c w (ks.take i)) q).1:=by
 obtain⟨hil,he⟩:=List.getElem?_eq_some_iff.1 h
 unfold qqI
 rw [List.take_succ_eq_append_getElem hil,he,List.foldl_append]
 rfl
theorem qqK (c:Cfg)(w:Wst)(n:Int):(qqC c w n).1.evs.length≤w.evs.length+1:=by
 unfold qqC
 split
 ·exact Nat.le_succ _
 ·split
  ·show(qqA c w).evs.length≤_
   unfold qqA
   split<;>exact Nat.le_succ _
  ·split
   ·exact Nat.le_succ _
   ·rename_i t _
    split
    ·exact Nat.le_succ _
    ·show(w.evs++(thS c t w.ws w.bs).2.2.2).length≤_
     have:=qqD c t w.ws w.bs
     rw [List.length_append]
     omega
theorem qqL (c:Cfg)(w:Wst)(ks:List Int):(qqI c w ks).evs.length≤w.evs.length+ks.length:=by
 unfold qqI
 induction ks generalizing w with
 | nil=>exact Nat.le_refl _
 | cons k r ih =>
   rw [List.foldl_cons,List.length_cons]
   have:=ih (qqC c w k).1
   have:=qqK c w k
   omega
end Go.Proofs.YtdinebegmppnoabGreat

/- A world behind picks: words stay in their range, rows keep their lengths. Plain. -/
namespace Go.Proofs.YtdinebegmppnoabGreat
open Go Go.Ir

section
variable {m:Mc}{ws bs:List Int}{c:Cfg}
end

end Go.Proofs.YtdinebegmppnoabGreat

/- A world whose cells are looked at. -/
namespace Go.Proofs.YtdinebegmppnoabGreat
open Go Go.Ir

section
variable {H H':qab}{g:Nat→Nat}{c:Cfg}{cb:CB}{B:Nat}{w:Wst}{pb:List Nat}{M ka kh:Nat}{tv hv:Value}
theorem WInv.tick (h:WInv H g c cb B w pb M ka kh tv hv)(hC:IsC H' cb w.ws w.bs)(o:Only [cb.P] H H'):WInv H' g c cb B w pb M ka kh tv hv∧Stp (fun n=>n≠2) H H' g g:=by
 have st:Stp (fun n=>n≠2) H H' g g:=⟨Nat.le_of_eq o.len.symm,fun x _=>rfl,fun x hx ht=>o.same x fun q=>by
  rw [List.mem_singleton]at q
  exact ht (by rw [q];exact h.p.tc.1)⟩
 have hB:=qiC h.row
 exact⟨⟨(st.same B hB (by rw [h.gB];decide)).trans h.row,h.gB,h.p.cells' hC st (by decide) (fun i=>by omega),h.ps.keep st (by decide),h.arr.keep fun q=>st.same ka (h.arr.lt q) (by rw [(h.ga q).1];decide),h.ga,h.out.keep fun q=>st.same kh (h.out.lt q) (by rw [(h.gh q).1];decide),h.gh,h.len⟩,st⟩
theorem WInv.tickC (h:WInv H g c cb B w pb M ka kh tv hv)(hC:IsC H' cb w.ws w.bs)(o:Chg [cb.P] H H'):WInv H' (qqb H g 3) c cb B w pb M ka kh tv hv∧Stp (fun n=>n≠2) H H' g (qqb H g 3):=by
 have st:Stp (fun n=>n≠2) H H' g (qqb H g 3):=⟨o.len,fun x hx=>qqc hx,fun x hx ht=>o.same x hx fun q=>by
  rw [List.mem_singleton]at q
  exact ht (by rw [q];exact h.p.tc.1)⟩
 have hB:=qiC h.row
 have lc:=ltC h.p.cells
 exact⟨⟨(st.same B hB (by rw [h.gB];decide)).trans h.row,(st.tag B hB).trans h.gB,h.p.cells' hC st (by decide) (fun i=>by omega),h.ps.keep st (by decide),h.arr.keep fun q=>st.same ka (h.arr.lt q) (by rw [(h.ga q).1];decide),fun q=>⟨(st.tag ka (h.arr.lt q)).trans (h.ga q).1,(h.ga q).2⟩,
  h.out.keep fun q=>st.same kh (h.out.lt q) (by rw [(h.gh q).1];decide),fun q=>⟨(st.tag kh (h.out.lt q)).trans (h.gh q).1,(h.gh q).2⟩,h.len⟩,st⟩
theorem WInv.ext (h:WInv H g c cb B w pb M ka kh tv hv)(x:Ext H H'):WInv H' (qqb H g 3) c cb B w pb M ka kh tv hv∧Stp (fun _=>True) H H' g (qqb H g 3):=by
 have st:Stp (fun _=>True) H H' g (qqb H g 3):=⟨x.1,fun x hx=>qqc hx,fun y hy _=>x.2 y hy⟩
 exact⟨h.keep st trivial trivial trivial trivial (fun _=>trivial),st⟩
end
end Go.Proofs.YtdinebegmppnoabGreat

