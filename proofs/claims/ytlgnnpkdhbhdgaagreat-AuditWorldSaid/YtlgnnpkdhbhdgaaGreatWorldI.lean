/- Rows that are built; blocks that stay; ops of many threads. -/
import Derived.Test.YtlgnnpkdhbhdgaaGreatThreadQ3
import Derived.Test.YtlgnnpkdhbhdgaaGreatWorldM2
import Derived.Test.YtlgnnpkdhbhdgaaGreatThreadP1
set_option linter.all false
namespace Go.Proofs.YtlgnnpkdhbhdgaaGreat
open Go Go.Ir
def OutB (H:qab)(v:Value)(es:List (List Value))(k:Nat):Prop :=
 (∀e∈es,e.length=8)/\((es = []/\v = .slice none 0 0)\/(es≠[]/\v = .slice (some (loose k 0)) es.length 8/\H[k]? = some (.row es.flatten false)))
def OutB.sl {H:qab}{v:Value}{es:List (List Value)}{k:Nat}(o:OutB H v es k):Sl H 8 v es:=by
 refine⟨o.1, ?_⟩
 rcases o.2 with⟨h1,h2⟩|⟨h0,h1,h3⟩
 ·exact .inl ⟨h1,none,0,h2⟩
 ·exact .inr ⟨_,_,h1,qgD (a:=loose k 0) h3 rfl (qgz o.1).symm⟩
def OutB.keep {H H':qab}{v:Value}{es:List (List Value)}{k:Nat}(o:OutB H v es k)(h:es≠[]->H'[k]? = H[k]?):OutB H' v es k:=by
 refine⟨o.1, ?_⟩
 rcases o.2 with h1|⟨h0,h1,h3⟩
 ·exact .inl h1
 ·exact .inr ⟨h0,h1,(h h0).trans h3⟩
def OutB.lt {H:qab}{v:Value}{es:List (List Value)}{k:Nat}(o:OutB H v es k)(h:es≠[]):k<H.length:=by
 rcases o.2 with h1|⟨h0,h1,h3⟩
 ·exact absurd h1.1 h
 ·exact qiB h3
def OutB.same {H:qab}{v:Value}{es:List (List Value)}{k:Nat}(o:OutB H v es k):qaP v v=true:=by
 rcases o.2 with⟨_,rfl⟩|⟨_,rfl,_⟩<;>simp [qaP,qaO,qaN]
def OutB.one {H:qab}{v:Value}{es:List (List Value)}{k:Nat}(o:OutB H v es k):qaf v = [v]:=by
 rcases o.2 with⟨_,rfl⟩|⟨_,rfl,_⟩<;>rfl
def Arr.same {H:qab}{v:Value}{l:List Nat}{k:Nat}(h:Arr H v l k):qaP v v=true:=by
 rcases h with⟨_,rfl⟩|⟨_,rfl,_⟩<;>simp [qaP,qaO,qaN]
def Arr.one {H:qab}{v:Value}{l:List Nat}{k:Nat}(h:Arr H v l k):qaf v = [v]:=by
 rcases h with⟨_,rfl⟩|⟨_,rfl,_⟩<;>rfl
def qqY {H:qab}{v u:Value}{es fs:List (List Value)}{k:Nat}(o:OutB H v es k)(s:Sl H 8 u fs)(hn:es.length+fs.length<=2 ^ 30) :
  ∃v' k' H',qaE 0 8 64 H v u=some (v',H')/\OutB H' v' (es++fs) k'/\((es≠[]/\k'=k)\/H.length<=k')/\H.length<=H'.length/\∀x,x<H.length->(es = []\/x≠k)->H'[x]? = H[x]? := by
 have hall:∀x∈es++fs,x.length=8:=fun x hx=>by
  rcases List.mem_append.1 hx with hx|hx
  ·exact o.1 x hx
  ·exact s.1 x hx
 by_cases hf:fs = []
 ·subst hf
  obtain⟨ub,uc,hu⟩:=s.len
  subst hu
  rw [List.append_nil]
  rcases o.2 with⟨h1,h2⟩|⟨h0,h1,h3⟩
  ·subst h1 h2
   exact⟨.slice none 0 0,H.length,H,by cases ub<;>simp [qaE,qaB,qaC],⟨o.1,.inl ⟨rfl,rfl⟩⟩,.inr (zzR _),zzR _,fun _ _ _=>rfl⟩
  ·refine⟨v,k,H, ?_,o,.inl ⟨h0,rfl⟩,zzR _,fun _ _ _=>rfl⟩
   subst h1
   have hle:es.length<=2 ^ 30:=by simpa using hn
   simp only [qaE,qaB,List.length_nil,Nat.add_zero]
   rw [if_pos (.inl ⟨hle,by decide⟩)]
   cases ub<;>simp [qaC,loose]
 ·rcases s.2 with⟨h1,_⟩|⟨a,cap,h1,h2⟩
  ·exact absurd h1 hf
  subst h1
  have hf0:¬fs.length=0:=fun e=>hf (List.length_eq_zero_iff.1 e)
  have hsrc:qaC H 8 fs.length (.slice (some a) fs.length cap)=some fs.flatten:=by
   unfold qaC
   simp only
   rw [if_neg hf0]
   exact h2
  rcases o.2 with⟨h1,h2⟩|⟨h0,h1,h3⟩
  ·subst h1 h2
   refine⟨.slice (some (loose H.length 0)) fs.length 8,H.length,H ++ [.row fs.flatten false], ?_,⟨hall,.inr ⟨hf,rfl,by rw [zzC];rfl⟩⟩,.inr (zzR _),by simp,fun x hx _=>zzA hx⟩
   simp only [qaE,qaB,hsrc,List.length_nil,Nat.zero_add]
   rw [if_pos (.inl ⟨by simpa using hn,by decide⟩),if_neg hf0]
  ·subst h1
   have hbl:=qiB h3
   have hel:¬es.length=0:=fun e=>h0 (List.length_eq_zero_iff.1 e)
   have hold:qaC H 8 es.length (.slice (some (loose k 0)) es.length 8)=some es.flatten:=by
    unfold qaC
    simp only
    rw [if_neg hel]
    exact qgD (a:=loose k 0) h3 rfl (qgz o.1).symm
   refine⟨.slice (some (loose H.length 0)) (es.length+fs.length) 8,H.length,H.set k .dead ++ [.row (es.flatten++fs.flatten) false], ?_,⟨hall,.inr ⟨by simp [h0],by simp, ?_⟩⟩,.inr (zzR _),by simp,fun x hx hk => ?_⟩
   ·simp only [qaE,qaB,hsrc]
    rw [if_pos (.inl ⟨hn,by decide⟩)]
    simp only [loose]at hold h3|-
    simp only [hold,h3,if_neg hf0]
    simp
   ·rw [zzB (by simp)]
    simp
   ·have hkx:x≠k:=hk.resolve_left h0
    rw [zzA (by rw [zzQ];exact hx),zzN (Ne.symm hkx)]
def Calm0 (H H':qab)(g g':Nat->Nat):Prop:=H.length<=H'.length/\∀x,x<H.length->g' x=g x/\(g x=0\/g x=3->H'[x]? = H[x]?)
def Calm0.refl (H:qab)(g:Nat->Nat):Calm0 H H g g:=⟨zzR _,fun x _=>⟨rfl,fun _=>rfl⟩⟩
def Calm0.trans {H H1 H2:qab}{g g1 g2:Nat->Nat}(a:Calm0 H H1 g g1)(b:Calm0 H1 H2 g1 g2):Calm0 H H2 g g2 :=
 ⟨Nat.le_trans a.1 b.1,fun x hx=>by
   have hx1:=Nat.lt_of_lt_of_le hx a.1
   exact⟨((b.2 x hx1).1).trans (a.2 x hx).1,fun h=>((b.2 x hx1).2 (by rw [(a.2 x hx).1];exact h)).trans ((a.2 x hx).2 h)⟩⟩
def Stp.yZ {T:Nat->Prop}{H H':qab}{g g':Nat->Nat}(s:Stp T H H' g g')(h0:T 0)(h3:T 3):Calm0 H H' g g' :=
 ⟨s.len,fun x hx=>⟨s.tag x hx,fun h=>s.same x hx (by rcases h with h|h<;>rw [h]<;>assumption)⟩⟩
def PInv.cells' {T:Nat->Prop}{H H':qab}{g g':Nat->Nat}{c:Cfg}{cb:CB}{ws bs ws' bs':List Int}{ts:List Th}{pb:List Nat}(h:PInv H g c cb ws bs ts pb)(hC:IsC H' cb ws' bs')(s:Stp T H H' g g')(h0:T 0)(hi:∀i,T (4+2*i)):PInv H' g' c cb ws' bs' ts pb :=
 have lc:=ltC h.cells
 ⟨hC,⟨(s.tag _ lc.1).trans h.tc.1,(s.tag _ lc.2.1).trans h.tc.2.1,(s.tag _ lc.2.2).trans h.tc.2.2⟩,h.len,fun i t b ht hb=>(h.th i t b ht hb).keep s h0 (hi i)⟩
structure Pgs (h:qab)(v:Value)(l:List (Value×List Op4)):Prop where
 sl:Sl h 1 v (l.map fun p => [p.1])
 each:∀p∈l,Sl h 4 p.1 (ocs p.2)/\qiF p.1 p.2.length/\p.2.length*32<=2 ^ 47
def Pgs.ext {h h':qab}{v:Value}{l:List (Value×List Op4)}(p:Pgs h v l)(e:Ext h h'):Pgs h' v l:=⟨p.sl.ext e,fun q hq=>⟨(p.each q hq).1.ext e,(p.each q hq).2⟩⟩
def Pgs.at {h:qab}{v:Value}{l:List (Value×List Op4)}(p:Pgs h v l){i:Nat}{q:Value×List Op4}(hi:l[i]? = some q) :
  ∃a cap,v = .slice (some a) l.length cap/\qau h none ⟨a.block,a.off+i*1,none⟩=some q.1:=by
 obtain⟨a,cap,h1,h2,_⟩:=p.sl.at (i:=i) (e := [q.1]) (by rw [List.getElem?_map,hi];rfl)
 rw [List.length_map]at h1
 exact⟨a,cap,h1,h2 0 q.1 rfl⟩
def qqZ (l:List (Value×List Op4))(i:Nat):List Op4:=match l[i]? with|some q=>q.2|none => []
def tsW (c:Cfg)(l:List (Value×List Op4))(n:Nat):List Th:=(List.range n).map fun(i:Nat)=>th0 i (qqG c i (qqZ l i))
def qq0 (c:Cfg)(l:List (Value×List Op4))(n:Nat):tsW c l (n+1)=tsW c l n ++ [th0 n (qqG c n (qqZ l n))]:=by
 unfold tsW
 rw [List.range_succ,List.map_append]
 rfl
def Old (h H:qab)(g:Nat->Nat):Prop:=h.length<=H.length/\∀x,x<h.length->g x=0/\H[x]? = h[x]?
def Old.ext {h H:qab}{g:Nat->Nat}(o:Old h H g):Ext h H:=⟨o.1,fun x hx=>(o.2 x hx).2⟩
def Old.calm {h H H':qab}{g g':Nat->Nat}(o:Old h H g)(s:Calm0 H H' g g'):Old h H' g' :=
 ⟨Nat.le_trans o.1 s.1,fun x hx=>by
   have hx1:=Nat.lt_of_lt_of_le hx o.1
   exact⟨(s.2 x hx1).1.trans (o.2 x hx).1,((s.2 x hx1).2 (.inl (o.2 x hx).1)).trans (o.2 x hx).2⟩⟩
def kcs (l:List Int):List (List Value):=l.map fun n => [I n]
def qq1 (l:List Int):(kcs l).length=l.length:=by simp [kcs]
def qq2 {h:qab}{v:Value}{l:List Int}(hv:Sl h 1 v (kcs l)){i:Nat}{q:Int}(hi:l[i]? = some q) :
  ∃a cap,v = .slice (some a) l.length cap/\qau h none ⟨a.block,a.off+i*1,none⟩=some (I q):=by
 obtain⟨a,cap,h1,h2,_⟩:=hv.at (i:=i) (e := [I q]) (by unfold kcs;rw [List.getElem?_map,hi];rfl)
 rw [qq1]at h1
 exact⟨a,cap,h1,h2 0 _ rfl⟩
def qq3 (l:List (Value×List Op4)):Nat:=(l.map fun p=>p.2.length).sum
def qq4 {l:List (Value×List Op4)}{i:Nat}{q:Value×List Op4}(hi:l[i]? = some q):qq3 (l.take (i+1))=qq3 (l.take i)+q.2.length:=by
 obtain⟨hil,he⟩:=zzS.1 hi
 rw [List.take_succ_eq_append_getElem hil,he]
 simp [qq3]
def qq5:∀{l:List (Value×List Op4)} {q:Value×List Op4},q∈l->q.2.length<=qq3 l
 | p::r,q,h=>by
   have e:qq3 (p::r)=p.2.length+qq3 r:=by simp [qq3]
   rw [e]
   rcases List.mem_cons.1 h with rfl|h
   ·omega
   ·have:=qq5 h;omega
def qq6 {l:List (Value×List Op4)}{B:Nat}(h:∀p∈l,p.2.length<=B):qq3 l<=l.length*B:=by
 induction l with
 | nil=>simp [qq3]
 | cons p r ih =>
   have e:qq3 (p::r)=p.2.length+qq3 r:=by simp [qq3]
   rw [e,List.length_cons,Nat.add_mul]
   have:=ih fun q hq=>h q (List.mem_cons_of_mem _ hq)
   have:=h p (List.mem_cons_self ..)
   omega
def PassI (H:qab)(g:Nat->Nat)(c:Cfg)(m:Mc)(M:Nat):Prop :=
 m.wg/\m.c=c/\∃own ov tv,McAt H own M m ov tv/\∀x∈own,g x=2005
def PassI.keep {T:Nat->Prop}{H H':qab}{g g':Nat->Nat}{c:Cfg}{m:Mc}{M:Nat}(h:PassI H g c m M)(s:Stp T H H' g g')(hT:T 2005):PassI H' g' c m M:=by
 obtain⟨h1,h2,own,ov,tv,h3,h4⟩:=h
 exact⟨h1,h2,own,ov,tv,h3.keep s.len (fun x hx=>s.same x (h3.lt x hx) (by rw [h4 x hx];exact hT)),fun x hx=>(s.tag x (h3.lt x hx)).trans (h4 x hx)⟩
def TW (n:Nat):Prop:=n≠2/\n≠2005
def qq7 {H:qab}{g:Nat->Nat}{c:Cfg}{cb:CB}{ws bs:List Int}{ts:List Th}{pb:List Nat}{m:Mc}{M:Nat}(h:PInv H g c cb ws bs ts pb)(hp:PassI H g c m M) :
  ∃H' own ov tv,qfU En 0 Id.zaJ [qkt M,ifC cb] H=some (qmL (qns m ws bs).1.2,H')/\PInv H' (qqK H g 2005) c cb (qns m ws bs).2.1 (qns m ws bs).2.2 ts pb/\McAt H' own M (qns m ws bs).1.1 ov tv/\(∀x∈own,qqK H g 2005 x=2005)/\Stp TW H H' g (qqK H g 2005):=by
 obtain⟨⟨hw,hf,h0⟩,hc,own,ov,tv,hM,hg⟩:=hp
 have d:Disj own cb:=fun b hb=>by
  have:=hg b hb
  refine⟨fun e => ?_,fun e => ?_,fun e => ?_⟩
  ·rw [e,h.tc.1]at this;omega
  ·rw [e,h.tc.2.1]at this;omega
  ·rw [e,h.tc.2.2]at this;omega
 obtain⟨v,H',hS,⟨hv,own',ov',tv',hA,hch,hn⟩,hC⟩:=qnt hM hw h.cells d (fun b _=>zzZ b) ⟨zzZ _,zzZ _,zzZ _⟩ h0
 subst hv
 have st:Stp TW H H' g (qqK H g 2005):=⟨hch.len,fun x hx=>qqL hx,fun x hx ht=>hch.same x hx fun hm=>by
  unfold qm1 at hm
  simp only [List.mem_append,List.mem_cons,List.not_mem_nil,or_false]at hm
  rcases hm with q|rfl|rfl|rfl
  ·exact ht.2 (hg x q)
  ·exact ht.1 h.tc.1
  ·exact ht.1 h.tc.2.1
  ·exact ht.1 h.tc.2.2⟩
 refine⟨H',own',ov',tv',hS,h.cells' hC st ⟨by decide,by decide⟩ (fun i=>⟨by omega,by omega⟩),hA,fun x hx => ?_,st⟩
 rcases hn x hx with q|q
 ·rw [qqL (hM.lt x q)];exact hg x q
 ·exact qqM q
structure Wst where
 ts:List Th
 ws:List Int
 bs:List Int
 m:Mc
 evs:List (List Value)
 pa:Int
 mo:Int
 lw:Int
def qq8 (c:Cfg)(cb:CB)(tv hv:Value)(M:Nat)(a b d:Int):List Value := [qjb cb,I c.A,I c.S,I c.T,tv,qkt M,hv,I a,I b,I d]
structure WInv (H:qab)(g:Nat->Nat)(c:Cfg)(cb:CB)(B:Nat)(w:Wst)(pb:List Nat)(M ka kh:Nat)(tv hv:Value):Prop where
 row:H[B]? = some (.row (qq8 c cb tv hv M w.pa w.mo w.lw) false)
 gB:g B=1
 p:PInv H g c cb w.ws w.bs w.ts pb
 ps:PassI H g c w.m M
 arr:Arr H tv pb ka
 ga:pb≠[]->g ka=1/\ka≠B
 out:OutB H hv w.evs kh
 gh:w.evs≠[]->g kh=1/\kh≠B/\(pb≠[]->kh≠ka)
 len:(pb.length:Int)=c.T
def WInv.keep {T:Nat->Prop}{H H':qab}{g g':Nat->Nat}{c:Cfg}{cb:CB}{B:Nat}{w:Wst}{pb:List Nat}{M ka kh:Nat}{tv hv:Value}(h:WInv H g c cb B w pb M ka kh tv hv)(s:Stp T H H' g g')(h0:T 0)(h1:T 1)(h2:T 2)(h5:T 2005)(hi:∀i,T (4+2*i)):WInv H' g' c cb B w pb M ka kh tv hv :=
 have hB:=qiB h.row
 ⟨(s.same B hB (by rw [h.gB];exact h1)).trans h.row,(s.tag B hB).trans h.gB,h.p.keep s h0 h2 hi,h.ps.keep s h5,h.arr.keep fun q=>s.same ka (h.arr.lt q) (by rw [(h.ga q).1];exact h1),fun q=>⟨(s.tag ka (h.arr.lt q)).trans (h.ga q).1,(h.ga q).2⟩,
   h.out.keep fun q=>s.same kh (h.out.lt q) (by rw [(h.gh q).1];exact h1),fun q=>⟨(s.tag kh (h.out.lt q)).trans (h.gh q).1,(h.gh q).2⟩,h.len⟩
def qq9 (c:Cfg)(w:Wst):Wst :=
 match (qns w.m w.ws w.bs).1.2 with
 | none => {w with m:=(qns w.m w.ws w.bs).1.1,ws:=(qns w.m w.ws w.bs).2.1,bs:=(qns w.m w.ws w.bs).2.2}
 | some n => {w with m:=mc0 c,ws:=(qns w.m w.ws w.bs).2.1,bs:=(qns w.m w.ws w.bs).2.2,pa:=w64 (w.pa+1),mo:=w64 (w.mo+n),lw:=if(qns w.m w.ws w.bs).1.1.low then w64 (w.lw+1)else w.lw}
section
variable {H:qab}{g:Nat->Nat}{c:Cfg}{cb:CB}{B:Nat}{w:Wst}{pb:List Nat}{M ka kh:Nat}{tv hv:Value}
def WInv.l0 (h:WInv H g c cb B w pb M ka kh tv hv):qau H none ⟨B,0+0,none⟩=some (qjb cb):=qiC h.row rfl
def WInv.l5 (h:WInv H g c cb B w pb M ka kh tv hv):qau H none ⟨B,0+5,none⟩=some (qkt M):=qiC h.row rfl
def WInv.put {H':qab}{w':Wst}(h:WInv H g c cb B w pb M ka kh tv hv)(hl:H'.length=H.length)(hk:∀x,x≠B->H'[x]? = H[x]?)(hr:H'[B]? = some (.row (qq8 c cb tv hv M w'.pa w'.mo w'.lw) false))(e1:w'.ts=w.ts)(e2:w'.ws=w.ws)(e3:w'.bs=w.bs)(e4:w'.m=w.m)(e5:w'.evs=w.evs):WInv H' g c cb B w' pb M ka kh tv hv:=by
 have st:Stp (fun n=>n≠1) H H' g g:=⟨Nat.le_of_eq hl.symm,fun x _=>rfl,fun x hx ht=>hk x fun e=>ht (by rw [e];exact h.gB)⟩
 refine⟨hr,h.gB, ?_, ?_,h.arr.keep fun q=>hk _ (h.ga q).2,h.ga, ?_, ?_,h.len⟩
 ·rw [e1,e2,e3];exact h.p.keep st (by decide) (by decide) (fun i=>by omega)
 ·rw [e4];exact h.ps.keep st (by decide)
 ·rw [e5];exact h.out.keep fun q=>hk _ (h.gh q).2.1
 ·rw [e5];exact h.gh
set_option maxHeartbeats 1600000 in
def qra (hm:c.may)(h:WInv H g c cb B w pb M ka kh tv hv):∃H' g' M',qfU En 0 Id.zdK [qkt B] H=some (.tuple #[],H')/\WInv H' g' c cb B (qq9 c w) pb M' ka kh tv hv/\Calm0 H H' g g':=by
 obtain⟨H1,own,ov,xv,hS,p1,hA,hg1,st1⟩:=qq7 h.p h.ps
 have hBl:=qiB h.row
 have r1:H1[B]? = some (.row (qq8 c cb tv hv M w.pa w.mo w.lw) false):=(st1.same B hBl (by rw [h.gB];exact⟨by decide,by decide⟩)).trans h.row
 have hBo:B∉own:=fun q=>by
  have:=hg1 B q
  rw [st1.tag B hBl,h.gB]at this
  omega
 have ar1:Arr H1 tv pb ka:=h.arr.keep fun q=>st1.same ka (h.arr.lt q) (by rw [(h.ga q).1];exact⟨by decide,by decide⟩)
 have ga1:pb≠[]->qqK H g 2005 ka=1/\ka≠B:=fun q=>⟨(st1.tag ka (h.arr.lt q)).trans (h.ga q).1,(h.ga q).2⟩
 have ou1:OutB H1 hv w.evs kh:=h.out.keep fun q=>st1.same kh (h.out.lt q) (by rw [(h.gh q).1];exact⟨by decide,by decide⟩)
 have gh1:w.evs≠[]->qqK H g 2005 kh=1/\kh≠B/\(pb≠[]->kh≠ka):=fun q=>⟨(st1.tag kh (h.out.lt q)).trans (h.gh q).1,(h.gh q).2⟩
 have gB1:qqK H g 2005 B=1:=(st1.tag B hBl).trans h.gB
 have stay:=qnI (ws:=w.ws) (bs:=w.bs) h.ps.1 h.ps.2.1
 have l0:=h.l0
 have l5:=h.l5
 unfold qq9
 cases hr:(qns w.m w.ws w.bs).1.2 with
 | none =>
   rw [hr]at hS
   simp only
   have hq:=stay hr
   refine⟨H1,_,M, ?_,⟨r1,gB1,p1,⟨hq.1,hq.2,own,ov,xv,hA,hg1⟩,ar1,ga1,ou1,gh1,h.len⟩,st1.yZ ⟨by decide,by decide⟩ ⟨by decide,by decide⟩⟩
   refine qgw rfl Fn.zdK rfl rfl ?_
   simp only [qmL]at hS
   repeat' first|refine .A ?_|refine .B ?_|refine .C ?_|refine .J ?_|refine .L l0 ?_|refine .L l5 ?_|refine .P hS ?_|refine .F ?_|refine .Y ?_|fail
   rfl
 | some n =>
   rw [hr]at hS
   simp only
   simp only [qmL]at hS
   have lt1:=qiB r1
   have a7:qau H1 none ⟨B,0+7,none⟩=some (I w.pa):=qiC r1 rfl
   have s7:stN 0 H1 ⟨B,0+7,none⟩ (qaf (I (w64 (w.pa+1))))=some (H1.set B (Blk.row (qq8 c cb tv hv M (w64 (w.pa+1)) w.mo w.lw) false)):=qiE r1 (zzZ _) (zzL rfl) rfl
   have r2:(H1.set B (Blk.row (qq8 c cb tv hv M (w64 (w.pa+1)) w.mo w.lw) false))[B]? = some (.row (qq8 c cb tv hv M (w64 (w.pa+1)) w.mo w.lw) false):=qiy lt1
   have k2:∀x,x≠B->(H1.set B (Blk.row (qq8 c cb tv hv M (w64 (w.pa+1)) w.mo w.lw) false))[x]? = H1[x]? := fun x hx=>zzN (Ne.symm hx)
   have n2:(H1.set B (Blk.row (qq8 c cb tv hv M (w64 (w.pa+1)) w.mo w.lw) false)).length=H1.length:=zzQ
   generalize H1.set B (Blk.row (qq8 c cb tv hv M (w64 (w.pa+1)) w.mo w.lw) false)=H2 at s7 r2 k2 n2
   have a8:qau H2 none ⟨B,0+8,none⟩=some (I w.mo):=qiC r2 rfl
   have s8:stN 0 H2 ⟨B,0+8,none⟩ (qaf (I (w64 (w.mo+n))))=some (H2.set B (Blk.row (qq8 c cb tv hv M (w64 (w.pa+1)) (w64 (w.mo+n)) w.lw) false)):=qiE r2 (zzZ _) (zzL rfl) rfl
   have r3:(H2.set B (Blk.row (qq8 c cb tv hv M (w64 (w.pa+1)) (w64 (w.mo+n)) w.lw) false))[B]? = some (.row (qq8 c cb tv hv M (w64 (w.pa+1)) (w64 (w.mo+n)) w.lw) false):=qiy (qiB r2)
   have k3:∀x,x≠B->(H2.set B (Blk.row (qq8 c cb tv hv M (w64 (w.pa+1)) (w64 (w.mo+n)) w.lw) false))[x]? = H1[x]? := fun x hx=>(zzN (Ne.symm hx)).trans (k2 x hx)
   have n3:(H2.set B (Blk.row (qq8 c cb tv hv M (w64 (w.pa+1)) (w64 (w.mo+n)) w.lw) false)).length=H1.length:=zzQ.trans n2
   generalize H2.set B (Blk.row (qq8 c cb tv hv M (w64 (w.pa+1)) (w64 (w.mo+n)) w.lw) false)=H3 at s8 r3 k3 n3
   have a5:qau H3 none ⟨B,0+5,none⟩=some (qkt M):=qiC r3 rfl
   have hA3:McAt H3 own M (qns w.m w.ws w.bs).1.1 ov xv:=hA.keep (Nat.le_of_eq n3.symm) fun x hx=>k3 x fun e=>hBo (e▸hx)
   have hL:=qnK (lo:=0) hA3
   have a9:qau H3 none ⟨B,0+9,none⟩=some (I w.lw):=qiC r3 rfl
   have fin:∀(H4:qab) (lw':Int),H4[B]? = some (.row (qq8 c cb tv hv M (w64 (w.pa+1)) (w64 (w.mo+n)) lw') false)->(∀x,x≠B->H4[x]? = H1[x]?)->H4.length=H1.length->
     stN 0 (H4 ++ [Blk.row (qmJ (mc0 c) qnx qny) false]) ⟨B,0+5,none⟩ (qaf (qkt H4.length))=some ((H4 ++ [Blk.row (qmJ (mc0 c) qnx qny) false]).set B (Blk.row (qq8 c cb tv hv H4.length (w64 (w.pa+1)) (w64 (w.mo+n)) lw') false))/\
     ∃g',WInv ((H4 ++ [Blk.row (qmJ (mc0 c) qnx qny) false]).set B (Blk.row (qq8 c cb tv hv H4.length (w64 (w.pa+1)) (w64 (w.mo+n)) lw') false)) g' c cb B {w with m:=mc0 c,ws:=(qns w.m w.ws w.bs).2.1,bs:=(qns w.m w.ws w.bs).2.2,pa:=w64 (w.pa+1),mo:=w64 (w.mo+n),lw:=lw'} pb H4.length ka kh tv hv/\
      Calm0 H ((H4 ++ [Blk.row (qmJ (mc0 c) qnx qny) false]).set B (Blk.row (qq8 c cb tv hv H4.length (w64 (w.pa+1)) (w64 (w.mo+n)) lw') false)) g g':=fun H4 lw' r4 k4 n4=>by
    have r5:(H4 ++ [Blk.row (qmJ (mc0 c) qnx qny) false])[B]? = some (.row (qq8 c cb tv hv M (w64 (w.pa+1)) (w64 (w.mo+n)) lw') false):=qiA r4
    refine⟨qiE r5 (zzZ _) (zzL rfl) rfl,qqK H1 (qqK H g 2005) 2005, ?_⟩
    have k6:∀x,x<H1.length->x≠B->((H4 ++ [Blk.row (qmJ (mc0 c) qnx qny) false]).set B (Blk.row (qq8 c cb tv hv H4.length (w64 (w.pa+1)) (w64 (w.mo+n)) lw') false))[x]? = H1[x]? := fun x hx hb=>by
     rw [zzN (Ne.symm hb),zzA (by omega)]
     exact k4 x hb
    have st6:Stp (fun n=>n≠1) H1 ((H4 ++ [Blk.row (qmJ (mc0 c) qnx qny) false]).set B (Blk.row (qq8 c cb tv hv H4.length (w64 (w.pa+1)) (w64 (w.mo+n)) lw') false)) (qqK H g 2005) (qqK H1 (qqK H g 2005) 2005):=⟨by simp;omega,fun x hx=>qqL hx,fun x hx ht=>k6 x hx fun e=>ht (by rw [e];exact gB1)⟩
    refine⟨⟨qiy (qiB r5),(st6.tag B lt1).trans gB1,p1.keep st6 (by decide) (by decide) (fun i=>by omega),⟨qnJ hm,rfl,[H4.length],qnx,qny,(qnA H4 c).keep (by simp) fun x hx => ?_,fun x hx => ?_⟩,ar1.keep fun q=>k6 ka (ar1.lt q) (ga1 q).2,fun q=>⟨(st6.tag ka (ar1.lt q)).trans (ga1 q).1,(ga1 q).2⟩,ou1.keep fun q=>k6 kh (ou1.lt q) (gh1 q).2.1,fun q=>⟨(st6.tag kh (ou1.lt q)).trans (gh1 q).1,(gh1 q).2⟩,h.len⟩,(st1.yZ ⟨by decide,by decide⟩ ⟨by decide,by decide⟩).trans (st6.yZ (by decide) (by decide))⟩
    ·rw [List.mem_singleton]at hx
     subst hx
     exact zzN (by omega)
    ·rw [List.mem_singleton]at hx
     subst hx
     exact qqM (by omega)
   cases hlow:(qns w.m w.ws w.bs).1.1.low with
   | false =>
     rw [hlow]at hL
     obtain⟨s5,g',hW,hc0⟩:=fin H3 w.lw r3 k3 n3
     have a1:qau H3 (some 3) ⟨B,0+1,none⟩=some (.agg c.cs.toArray):=qiD r3 (zzL rfl) rfl
     have hN:=fun lo=>qnz lo H3 hm
     refine⟨_,g',H3.length, ?_,hW,hc0⟩
     refine qgw rfl Fn.zdK rfl rfl ?_
     repeat' first|refine .A ?_|refine .B ?_|refine .D ?_|refine .F ?_|refine .nil rfl ?_|refine .C ?_|(show EG _ _ (⟨_,.load _ _,_,_⟩::_) _ _ _ _ _ _;first|refine .L l0 ?_|refine .L l5 ?_|refine .L a7 ?_|refine .L a8 ?_|refine .L a5 ?_|refine .L a1 ?_)|refine .P hS ?_|refine .P hL ?_|refine .P (hN _) ?_|refine .S s7 ?_|refine .S s8 ?_|refine .S s5 ?_|refine .Y ?_|fail
     rfl
   | true =>
     rw [hlow]at hL
     have s9:stN 0 H3 ⟨B,0+9,none⟩ (qaf (I (w64 (w.lw+1))))=some (H3.set B (Blk.row (qq8 c cb tv hv M (w64 (w.pa+1)) (w64 (w.mo+n)) (w64 (w.lw+1))) false)):=qiE r3 (zzZ _) (zzL rfl) rfl
     have r4:(H3.set B (Blk.row (qq8 c cb tv hv M (w64 (w.pa+1)) (w64 (w.mo+n)) (w64 (w.lw+1))) false))[B]? = some (.row (qq8 c cb tv hv M (w64 (w.pa+1)) (w64 (w.mo+n)) (w64 (w.lw+1))) false):=qiy (qiB r3)
     have k4:∀x,x≠B->(H3.set B (Blk.row (qq8 c cb tv hv M (w64 (w.pa+1)) (w64 (w.mo+n)) (w64 (w.lw+1))) false))[x]? = H1[x]? := fun x hx=>(zzN (Ne.symm hx)).trans (k3 x hx)
     have n4:(H3.set B (Blk.row (qq8 c cb tv hv M (w64 (w.pa+1)) (w64 (w.mo+n)) (w64 (w.lw+1))) false)).length=H1.length:=zzQ.trans n3
     generalize H3.set B (Blk.row (qq8 c cb tv hv M (w64 (w.pa+1)) (w64 (w.mo+n)) (w64 (w.lw+1))) false)=H4 at s9 r4 k4 n4
     obtain⟨s5,g',hW,hc0⟩:=fin H4 _ r4 k4 n4
     have a1:qau H4 (some 3) ⟨B,0+1,none⟩=some (.agg c.cs.toArray):=qiD r4 (zzL rfl) rfl
     have hN:=fun lo=>qnz lo H4 hm
     refine⟨_,g',H4.length, ?_,hW,hc0⟩
     refine qgw rfl Fn.zdK rfl rfl ?_
     repeat' first|refine .A ?_|refine .B ?_|refine .C ?_|refine .D ?_|refine .F ?_|refine .nil rfl ?_|(show EG _ _ (⟨_,.load _ _,_,_⟩::_) _ _ _ _ _ _;first|refine .L l0 ?_|refine .L l5 ?_|refine .L a7 ?_|refine .L a8 ?_|refine .L a5 ?_|refine .L a9 ?_|refine .L a1 ?_)|refine .P hS ?_|refine .P hL ?_|refine .P (hN _) ?_|refine .S s7 ?_|refine .S s8 ?_|refine .S s9 ?_|refine .S s5 ?_|refine .Y ?_|fail
     rfl
end
def wTh (c:Cfg)(w:Wst)(i:Nat)(t:Th):Wst := {w with ts:=w.ts.set i (thS c t w.ws w.bs).1,ws:=(thS c t w.ws w.bs).2.1,bs:=(thS c t w.ws w.bs).2.2.1,evs:=w.evs++(thS c t w.ws w.bs).2.2.2}
def qrb (c:Cfg)(w:Wst)(n:Int):Wst×Bool :=
 if n<0\/c.T<n then(w,false)
 else if n=c.T then(qq9 c w,true)
 else match w.ts[n.toNat]? with
  | none=>(w,false)
  | some t=>if t.ops = []then(w,false)else(wTh c w n.toNat t,true)
section
variable {H:qab}{g:Nat->Nat}{c:Cfg}{cb:CB}{B:Nat}{w:Wst}{pb:List Nat}{M ka kh:Nat}{tv hv:Value}
def qrc (c:Cfg)(t:Th)(ws bs:List Int):(thS c t ws bs).2.2.2.length<=1:=by
 unfold thS
 split
 ·simp
 ·split
  ·simp
  ·split
   ·simp
   ·split
    ·unfold thW;split<;>simp
    ·simp
def WInv.ev (h:WInv H g c cb B w pb M ka kh tv hv){H':qab}{g':Nat->Nat}(st:Stp TP H H' g g'){ws bs:List Int}{ts:List Th}(p:PInv H' g' c cb ws bs ts pb):WInv H' g' c cb B {w with ts:=ts,ws:=ws,bs:=bs} pb M ka kh tv hv :=
 have hB:=qiB h.row
 ⟨(st.same B hB (by rw [h.gB];exact .inl rfl)).trans h.row,(st.tag B hB).trans h.gB,p,h.ps.keep st (.inl rfl),h.arr.keep fun q=>st.same ka (h.arr.lt q) (by rw [(h.ga q).1];exact .inl rfl),fun q=>⟨(st.tag ka (h.arr.lt q)).trans (h.ga q).1,(h.ga q).2⟩,
   h.out.keep fun q=>st.same kh (h.out.lt q) (by rw [(h.gh q).1];exact .inl rfl),fun q=>⟨(st.tag kh (h.out.lt q)).trans (h.gh q).1,(h.gh q).2⟩,h.len⟩
set_option maxHeartbeats 1600000 in
def qrd (hm:c.may)(h:WInv H g c cb B w pb M ka kh tv hv)(n:Int)(hev:w.evs.length<=2 ^ 29) :
  ∃H' g' M' kh' hv',qfU En 0 Id.zdJ [qkt B,I n] H=some (.bool (qrb c w n).2,H')/\WInv H' g' c cb B (qrb c w n).1 pb M' ka kh' tv hv'/\Calm0 H H' g g':=by
 have l3:qau H none ⟨B,0+1+2,none⟩=some (I c.T):=qiC h.row rfl
 unfold qrb
 by_cases h1:n<0
 ·rw [if_pos (.inl h1)]
  refine⟨H,g,M,kh,hv, ?_,h,Calm0.refl _ _⟩
  refine qgw rfl Fn.zdJ rfl rfl ?_
  repeat' first|refine .A ?_|refine .B ?_|refine .C ?_|refine .G ?_|refine .J ?_|refine .t1 ?_|refine .D ?_|refine .F ?_|refine .Y ?_|fail
  rfl
 by_cases h2:c.T<n
 ·rw [if_pos (.inr h2)]
  refine⟨H,g,M,kh,hv, ?_,h,Calm0.refl _ _⟩
  refine qgw rfl Fn.zdJ rfl rfl ?_
  repeat' first|refine .A ?_|refine .B ?_|refine .C ?_|refine .G ?_|refine .J ?_|refine .f1 ?_|refine .t3 ?_|refine .L l3 ?_|refine .F ?_|refine .Y ?_|fail
  rfl
 rw [if_neg (by omega)]
 by_cases h3:n=c.T
 ·rw [if_pos h3]
  obtain⟨H',g',M',hS,hW,hc⟩:=qra hm h
  refine⟨H',g',M',kh,hv, ?_,hW,hc⟩
  refine qgw rfl Fn.zdJ rfl rfl ?_
  repeat' first|refine .A ?_|refine .B ?_|refine .C ?_|refine .D ?_|refine .G ?_|refine .J ?_|refine .f1 ?_|refine .f3 ?_|refine .t5 ?_|refine .L l3 ?_|refine .P hS ?_|refine .F ?_|refine .Y ?_|fail
  rfl
 rw [if_neg h3]
 obtain⟨i,rfl⟩:∃i:Nat,n=i:=⟨n.toNat,by omega⟩
 have hlen:=h.len
 have hi:i<pb.length:=by omega
 have hit:i<w.ts.length:=by rw [<-h.p.len];exact hi
 have hgp:pb[i]? = some pb[i]:=zzG hi
 have hgt:w.ts[i]? = some w.ts[i]:=zzG hit
 rw [Int.toNat_natCast,hgt]
 generalize pb[i]=b at hgp
 generalize w.ts[i]=t at hgt
 have hpe:pb≠[]:=fun e=>by rw [e]at hi;simp at hi
 obtain⟨own,ob,hT,_⟩:=h.p.th i t b hgt hgp
 have hD:=qqC hT
 have hA:=h.arr.at hgp
 have l4:qau H none ⟨B,0+4,none⟩=some tv:=qiC h.row rfl
 have A0:=hA.2 H rfl
 have l0:=h.l0
 simp only
 cases ho:t.ops with
 | nil =>
   rw [if_pos rfl]
   rw [ho]at hD
   simp only [List.isEmpty_nil]at hD
   refine⟨H,g,M,kh,hv, ?_,h,Calm0.refl _ _⟩
   rw [hA.1]at l4
   refine qgw rfl Fn.zdJ rfl rfl ?_
   repeat' first|refine .A ?_|refine .B ?_|refine .C ?_|refine .D ?_|refine .G ?_|refine .J ?_|refine .f1 ?_|refine .f3 ?_|refine .f5 ?_|refine .L l3 ?_|refine .L l4 ?_|refine .L A0 ?_|refine .P hD ?_|refine .R hi ?_|refine .F ?_|refine .Y ?_|fail
   rfl
 | cons o r =>
   rw [if_neg (by simp)]
   rw [ho]at hD
   simp only [List.isEmpty_cons]at hD
   obtain⟨x,H1,g1,hS,hx,p1,st1,nw⟩:=qqP hm h.p hgt hgp
   have hW1:=h.ev st1 p1
   have hfl:=qrc c t w.ws w.bs
   obtain⟨v',k',H2,hap,hO2,hk2,hl2,hs2⟩:=qqY hW1.out hx.1 (by show w.evs.length+_<=_;omega)
   have lB:=qiB hW1.row
   have hBk:w.evs = []\/B≠kh:=by
    by_cases e:w.evs = []
    ·exact .inl e
    ·exact .inr fun q=>(h.gh e).2.1 q.symm
   have r2:H2[B]? = some (.row (qq8 c cb tv hv M w.pa w.mo w.lw) false):=(hs2 B lB hBk).trans hW1.row
   have s6:stN 0 H2 ⟨B,0+6,none⟩ (qaf v')=some (H2.set B (.row (qq8 c cb tv v' M w.pa w.mo w.lw) false)):=by
    have e:=hO2.one
    rw [e]
    exact qiE r2 (zzZ _) (zzL rfl) rfl
   have l6:qau H none ⟨B,0+6,none⟩=some hv:=qiC h.row rfl
   have m6:qau H1 none ⟨B,0+6,none⟩=some hv:=qiC hW1.row rfl
   have hsm:=h.out.same
   have hl1:=st1.len
   have st3:Stp (fun n=>n≠1) H1 (H2.set B (.row (qq8 c cb tv v' M w.pa w.mo w.lw) false)) g1 (qqK H1 g1 1):=⟨by rw [zzQ];exact hl2,fun y hy=>qqL hy,fun y hy ht=>by
    have hyB:y≠B:=fun e=>ht (by rw [e];exact hW1.gB)
    rw [zzN (Ne.symm hyB)]
    exact hs2 y hy (Decidable.byContradiction fun hn=>ht (by
     have q1:w.evs≠[]:=fun e=>hn (.inl e)
     have q2:y=kh:=Decidable.byContradiction fun e=>hn (.inr e)
     rw [q2];exact(hW1.gh q1).1))⟩
   refine⟨H2.set B (.row (qq8 c cb tv v' M w.pa w.mo w.lw) false),qqK H1 g1 1,M,k',v', ?_,⟨qiy (qiB r2),(st3.tag B lB).trans hW1.gB,p1.keep st3 (by decide) (by decide) (fun i=>by omega),hW1.ps.keep st3 (by decide), ?_,fun q=>⟨(st3.tag ka (hW1.arr.lt q)).trans (hW1.ga q).1,(hW1.ga q).2⟩, ?_,fun q => ?_,h.len⟩,(st1.yZ (.inr rfl) (.inl rfl)).trans (st3.yZ (by decide) (by decide))⟩
   ·rw [hA.1]at l4
    obtain⟨vb,vc,hve⟩:=hO2.sl.len
    subst hve
    refine qgw rfl Fn.zdJ rfl rfl ?_
    repeat' first|refine .A ?_|refine .B ?_|refine .D ?_|refine .F ?_|refine .G ?_|refine .H ?_|refine .J ?_|refine .f1 ?_|refine .f3 ?_|refine .f5 ?_|refine .L l0 ?_|refine .L l3 ?_|refine .L l4 ?_|refine .L A0 ?_|refine .P hD ?_|refine .P hS ?_|refine .R hi ?_|refine .U hap ?_|refine .X m6 (qiH l6) hsm ?_|refine .S s6 ?_|refine .Y ?_|fail
    rfl
   ·exact hW1.arr.keep fun q=>by
     rw [zzN (Ne.symm (hW1.ga q).2)]
     refine hs2 ka (hW1.arr.lt q) ?_
     by_cases e:w.evs = []
     ·exact .inl e
     ·exact .inr fun e2=>(hW1.gh e).2.2 q e2.symm
   ·refine hO2.keep fun q=>zzN fun e => ?_
    rcases hk2 with⟨e1,e2⟩|e1
    ·exact(h.gh e1).2.1 (e2.symm.trans e.symm)
    ·omega
   ·rcases hk2 with⟨e1,rfl⟩|e1
    ·exact⟨(st3.tag k' (hW1.out.lt e1)).trans (hW1.gh e1).1,(hW1.gh e1).2⟩
    ·refine⟨qqM e1,by omega,fun q => ?_⟩
     have:=hW1.arr.lt q
     omega
end
def w0 (c:Cfg)(l:List (Value×List Op4)):Wst:=⟨tsW c l c.T.toNat,qjJ c,List.replicate c.A.toNat 0,mc0 c,[],0,0,0⟩
def gW (n:Nat):Nat->Nat:=fun x=>if x<n then 0 else if x<n+3 then 2 else if x=n+3 then 2005 else 1
set_option maxHeartbeats 3200000 in
def qre {h:qab}{c:Cfg}{v:Value}{l:List (Value×List Op4)}(hm:c.may)(hv:Pgs h v l)(hl:(l.length:Int)<=c.T) :
  ∃H' g' B cb pb M ka tv,qfU En 0 Id.zdE [.agg #[I c.A,I c.S,I c.T],v] h=some (.tuple #[qkt B,I 0],H')/\WInv H' g' c cb B (w0 c l) pb M ka 0 tv (.slice none 0 0)/\Old h H' g'/\h.length<=B:=by
 have key:∃u H',qfU En 0 Id.zdE [.agg #[I c.A,I c.S,I c.T],v] h=some (u,H')/\∃g' B cb pb M ka tv,u = .tuple #[qkt B,I 0]/\WInv H' g' c cb B (w0 c l) pb M ka 0 tv (.slice none 0 0)/\Old h H' g'/\h.length<=B:=by
  have hm':=hm
  unfold Cfg.may at hm'
  have hO:=fun lo=>qjt lo h hm
  have hWd:=fun lo=>qju lo h hm
  refine zzX (show ∃nw:Nat,qi2 c=nw/\1<=nw/\nw<=4096 from⟨(qi2 c).toNat,by unfold qi2;omega,by unfold qi2;omega,by unfold qi2;omega⟩) fun nw hnw => ?_
  refine zzX (show ∃nb:Nat,c.A=nb/\nb<=4096 from⟨c.A.toNat,by omega,by omega⟩) fun nb hnb => ?_
  have hN:∀lo,qfU En lo Id.zas [I (qi2 c),I c.A] h=some (qjb (qjo h),qjn h nw nb):=fun lo=>by
   rw [hnw.1,hnb.1];exact qjr lo h hnw.2.1 hnw.2.2 hnb.2
  have hnh:=qjq h nw nb
  have hln:(qjn h nw nb).length=h.length+3:=by simp [qjn]
  have hM:=fun lo=>qnz lo (qjn h nw nb) hm
  have hMA:=qnA (qjn h nw nb) c
  have hCm:IsC (qjn h nw nb ++ [Blk.row (qmJ (mc0 c) qnx qny) false]) (qjo h) (List.replicate nw 0) (List.replicate nb 0):=hnh.1.app _
  have hxm:Ext h (qjn h nw nb ++ [Blk.row (qmJ (mc0 c) qnx qny) false]):=hnh.2.app _
  rw [hln]at hM hMA
  have hlm:(qjn h nw nb ++ [Blk.row (qmJ (mc0 c) qnx qny) false]).length=h.length+4:=by simp [hln]
  generalize qjn h nw nb ++ [Blk.row (qmJ (mc0 c) qnx qny) false]=H1 at hM hMA hCm hxm hlm
  have hC2:IsC (H1 ++ [.row (qq8 c (qjo h) (.slice none 0 0) (.slice none 0 0) (h.length+3) 0 0 0) false]) (qjo h) (List.replicate nw 0) (List.replicate nb 0):=hCm.app _
  have hr2:(H1 ++ [Blk.row (qq8 c (qjo h) (.slice none 0 0) (.slice none 0 0) (h.length+3) 0 0 0) false])[h.length+4]? = some (.row (qq8 c (qjo h) (.slice none 0 0) (.slice none 0 0) (h.length+3) 0 0 0) false):=by
   rw [<-hlm];exact zzC
  have hA2:McAt (H1 ++ [Blk.row (qq8 c (qjo h) (.slice none 0 0) (.slice none 0 0) (h.length+3) 0 0 0) false]) [h.length+3] (h.length+3) (mc0 c) qnx qny:=hMA.keep (by simp) fun x hx=>zzA (hMA.lt x hx)
  have hx2:Ext h (H1 ++ [Blk.row (qq8 c (qjo h) (.slice none 0 0) (.slice none 0 0) (h.length+3) 0 0 0) false]):=hxm.app _
  have hl2:(H1 ++ [Blk.row (qq8 c (qjo h) (.slice none 0 0) (.slice none 0 0) (h.length+3) 0 0 0) false]).length=h.length+5:=by simp [hlm]
  have k0:qau (H1 ++ [Blk.row (qq8 c (qjo h) (.slice none 0 0) (.slice none 0 0) (h.length+3) 0 0 0) false]) none ⟨h.length+4,0+0,none⟩=some (qjb (qjo h)):=qiC hr2 rfl
  have hbox:H1.length=h.length+4:=hlm
  refine zzX (qjP (lo:=0) hm hC2 ⟨zzZ _,zzZ _⟩ (by rw [List.length_replicate,hnw.1];simp) (by rw [List.length_replicate,hnb.1])) fun H3 hq => ?_
  have hS:=hq.1
  have hC3:=hq.2.1
  have ho3:=hq.2.2
  clear hq
  have old3:∀x,x<h.length+5->x≠h.length+2->x≠h.length->H3[x]? = (H1 ++ [Blk.row (qq8 c (qjo h) (.slice none 0 0) (.slice none 0 0) (h.length+3) 0 0 0) false])[x]? := fun x hx a b=>ho3.same x (by simp [qjo];omega)
  have hr3:H3[h.length+4]? = some (.row (qq8 c (qjo h) (.slice none 0 0) (.slice none 0 0) (h.length+3) 0 0 0) false):=(old3 _ (by omega) (by omega) (by omega)).trans hr2
  have hl3:H3.length=h.length+5:=by rw [ho3.len];exact hl2
  have hA3:McAt H3 [h.length+3] (h.length+3) (mc0 c) qnx qny:=hA2.keep (by omega) fun x hx=>by
   rw [List.mem_singleton]at hx
   subst hx
   exact old3 _ (by omega) (by omega) (by omega)
  have O3:Old h H3 (gW h.length):=⟨by omega,fun x hx=>⟨if_pos hx,(old3 x (by omega) (by omega) (by omega)).trans (hx2.2 x hx)⟩⟩
  have hp3:PInv H3 (gW h.length) c (qjo h) (qjJ c) (List.replicate c.A.toNat 0) [] []:=by
   refine⟨by rw [hnb.1];exact hC3, ?_,rfl,fun i t b ht=>by simp at ht⟩
   unfold gW qjo
   refine⟨?_, ?_, ?_⟩
   ·show(if h.length+2<h.length then 0 else if h.length+2<h.length+3 then 2 else _)=2
    rw [if_neg (by omega),if_pos (by omega)]
   ·show(if h.length<h.length then 0 else if h.length<h.length+3 then 2 else _)=2
    rw [if_neg (by omega),if_pos (by omega)]
   ·show(if h.length+1<h.length then 0 else if h.length+1<h.length+3 then 2 else _)=2
    rw [if_neg (by omega),if_pos (by omega)]
  have hs3:PassI H3 (gW h.length) c (mc0 c) (h.length+3):=⟨qnJ hm,rfl,_,_,_,hA3,fun x hx=>by
   rw [List.mem_singleton]at hx
   subst hx
   unfold gW
   rw [if_neg (by omega),if_neg (by omega),if_pos rfl]⟩
  have gB3:gW h.length (h.length+4)=1:=by
   unfold gW
   rw [if_neg (by omega),if_neg (by omega),if_neg (by omega)]
  refine zzX hv.sl.len fun vb hq=>zzX hq fun vc hve => ?_
  rw [List.length_map]at hve
  have hpv:=hv
  subst hve
  have hOv:=hO
  refine qiu rfl Fn.zdE rfl rfl ?_
  rw [Cfg.cs]at hO hM hS
  repeat' first|rw [hbox]|refine .A ?_|refine .B ?_|refine .D ?_|refine .F ?_|refine .G ?_|refine .C ?_|refine .f3 ?_|refine .f6 ?_|refine .L k0 ?_|(show EG _ _ (⟨_,.call _ _,_,_⟩::_) _ _ _ _ _ _;first|refine .P (hO _) ?_|refine .P (hWd _) ?_|refine .P (hN _) ?_|refine .P (hM _) ?_|refine .P hS ?_)|refine .Y ?_|fail
  refine .loop (fun n f H=>∃(i:Nat) (tv:Value) (pb:List Nat) (g:Nat->Nat) (ka:Nat),(n+i:Int)=c.T/\f = [(1,.slice vb l.length vc),(2,.agg #[I c.A,I c.S,I c.T]),(8,qkt (h.length+4)),(43,I c.T),(44,N i)]/\
   H[h.length+4]? = some (.row (qq8 c (qjo h) tv (.slice none 0 0) (h.length+3) 0 0 0) false)/\g (h.length+4)=1/\PInv H g c (qjo h) (qjJ c) (List.replicate c.A.toNat 0) (tsW c l i) pb/\PassI H g c (mc0 c) (h.length+3)/\Arr H tv pb ka/\(pb≠[]->g ka=1/\ka≠h.length+4)/\pb.length=i/\Old h H g) (n:=c.T.toNat)
   ⟨0,.slice none 0 0,[],gW h.length,0,by omega,rfl,hr3,gB3,hp3,hs3,.inl ⟨rfl,rfl⟩,fun h=>absurd rfl h,rfl,O3⟩ ?_
  clear hr3 gB3 hp3 hs3 O3 hA3 old3 hS hC3 ho3 hl3
  rintro n f H ⟨i,tv,pb,g,ka,hn,rfl,hr,hgB,hp,hps,har,hga,hpi,hOl⟩ next
  by_cases hi:(i:Int)<c.T
  ·obtain⟨ov,hov,hsl,htg,hbd⟩:∃ov,(ov=(match l[i]? with|some q=>q.1|none => .slice none 0 0))/\Sl H 4 ov (ocs (qqZ l i))/\qiF ov (qqZ l i).length/\(qqZ l i).length*32<=2 ^ 47:=by
    unfold qqZ
    cases hq:l[i]? with
    | none=>exact⟨_,rfl,⟨by simp [ocs],.inl ⟨rfl,none,0,rfl⟩⟩,.inl ⟨rfl,rfl⟩,by simp⟩
    | some q =>
      have:=hv.each q (List.mem_of_getElem? hq)
      exact⟨_,rfl,this.1.ext hOl.ext,this.2.1,this.2.2⟩
   have hBl:=qiB hr
   refine zzX (qqX hm hp hsl htg hbd har (fun q=>(hga q).1) (by omega)) fun H4 hq=>zzX hq fun a' hq=>zzX hq fun H5 hq=>zzX hq fun k' hq=>zzX hq fun g' hq => ?_
   have n1:=hq.1
   have ap:=hq.2.1
   have p5:=hq.2.2.1
   have ar5:=hq.2.2.2.1
   have t5:=hq.2.2.2.2.1
   have kk:=hq.2.2.2.2.2.1
   have l5:=hq.2.2.2.2.2.2.1
   have tg5:=hq.2.2.2.2.2.2.2.1
   have s5:=hq.2.2.2.2.2.2.2.2.1
   have x4:=hq.2.2.2.2.2.2.2.2.2
   clear hq
   have hr4:H4[h.length+4]? = some (.row (qq8 c (qjo h) tv (.slice none 0 0) (h.length+3) 0 0 0) false):=(x4.2 _ hBl).trans hr
   have hka:pb = []\/h.length+4≠ka:=by
    by_cases e:pb = []
    ·exact .inl e
    ·exact .inr fun q=>(hga e).2 q.symm
   have hr5:H5[h.length+4]? = some (.row (qq8 c (qjo h) tv (.slice none 0 0) (h.length+3) 0 0 0) false):=(s5 _ hBl hka).trans hr
   have m4:qau H4 none ⟨h.length+4,0+4,none⟩=some tv:=qiC hr4 rfl
   have l4:qau H none ⟨h.length+4,0+4,none⟩=some tv:=qiC hr rfl
   have hsm:=har.same
   have hst:stN 0 H5 ⟨h.length+4,0+4,none⟩ (qaf a')=some (H5.set (h.length+4) (Blk.row (qq8 c (qjo h) a' (.slice none 0 0) (h.length+3) 0 0 0) false)):=by
    have e:=ar5.one
    rw [e]
    exact qiE hr5 (zzZ _) (zzL rfl) rfl
   have gB5:g' (h.length+4)=1:=(tg5 _ hBl).trans hgB
   have st6:Stp (fun n=>n≠1) H5 (H5.set (h.length+4) (Blk.row (qq8 c (qjo h) a' (.slice none 0 0) (h.length+3) 0 0 0) false)) g' g':=⟨by simp,fun x _=>rfl,fun x hx ht=>zzN fun e=>ht (by rw [<-e];exact gB5)⟩
   have st5:Stp (fun n=>n≠1) H H5 g g':=⟨l5,tg5,fun x hx ht=>s5 x hx (Decidable.byContradiction fun hn=>ht (by
    have q1:pb≠[]:=fun e=>hn (.inl e)
    have q2:x=ka:=Decidable.byContradiction fun e=>hn (.inr e)
    rw [q2];exact(hga q1).1))⟩
   have cont:∀va:Value,va = .slice vb l.length vc->∃(i':Nat) (tv:Value) (pb:List Nat) (g:Nat->Nat) (ka:Nat),((n-1:Nat)+i':Int)=c.T/\[(1,va),(2,Value.agg #[I c.A,I c.S,I c.T]),(8,qkt (h.length+4)),(43,I c.T),(44,N (i+1))] = [(1,.slice vb l.length vc),(2,.agg #[I c.A,I c.S,I c.T]),(8,qkt (h.length+4)),(43,I c.T),(44,N i')]/\
     (H5.set (h.length+4) (Blk.row (qq8 c (qjo h) a' (.slice none 0 0) (h.length+3) 0 0 0) false))[h.length+4]? = some (.row (qq8 c (qjo h) tv (.slice none 0 0) (h.length+3) 0 0 0) false)/\g (h.length+4)=1/\PInv (H5.set (h.length+4) (Blk.row (qq8 c (qjo h) a' (.slice none 0 0) (h.length+3) 0 0 0) false)) g c (qjo h) (qjJ c) (List.replicate c.A.toNat 0) (tsW c l i') pb/\PassI (H5.set (h.length+4) (Blk.row (qq8 c (qjo h) a' (.slice none 0 0) (h.length+3) 0 0 0) false)) g c (mc0 c) (h.length+3)/\Arr (H5.set (h.length+4) (Blk.row (qq8 c (qjo h) a' (.slice none 0 0) (h.length+3) 0 0 0) false)) tv pb ka/\(pb≠[]->g ka=1/\ka≠h.length+4)/\pb.length=i'/\Old h (H5.set (h.length+4) (Blk.row (qq8 c (qjo h) a' (.slice none 0 0) (h.length+3) 0 0 0) false)) g:=fun va hva=>by
    subst hva
    refine⟨i+1,a',pb ++ [H.length],g',k',by omega,rfl,qiy (qiB hr5),gB5, ?_,(hps.keep st5 (by decide)).keep st6 (by decide),ar5.keep fun _=>zzN (by omega),fun _=>⟨t5,by omega⟩,by simp [hpi],(hOl.calm (st5.yZ (by decide) (by decide))).calm (st6.yZ (by decide) (by decide))⟩
    rw [qq0,<-hpi]
    rw [hpi]at p5|-
    exact p5.keep st6 (by decide) (by decide) (fun i=>by omega)
   rw [hpi]at n1
   refine zzX ar5.len fun ab hq=>zzX hq fun ac hae => ?_
   subst hae
   by_cases hil:i<l.length
   ·have hgi:l[i]? = some l[i]:=zzG hil
    generalize l[i]=q at hgi
    rw [hgi]at hov
    simp only at hov
    refine zzX ((hpv.ext hOl.ext).at hgi) fun ad hq=>zzX hq fun cap' hq => ?_
    have hva:=hq.1
    have I0:=hq.2
    clear hq
    injection hva with e1 e2 e3
    have cont:=cont _ rfl
    subst e1
    rw [<-hov]at I0
    rw [Cfg.cs]at n1
    refine zzX hsl.len fun qb hq=>zzX hq fun qc hqe => ?_
    rw [hqe]at I0 n1
    repeat' first|refine .A ?_|refine .B ?_|refine .C ?_|refine .F ?_|refine .G ?_|refine .H ?_|refine .t1 ?_|refine .n2 ?_|refine .L I0 ?_|refine .P n1 ?_|refine .R hil ?_|refine .U ap ?_|refine .X m4 (qiH l4) hsm ?_|refine .S hst ?_|refine .Y ?_|fail
    exact next (n-1) _ _ (by omega) cont
   ·have hgi:l[i]? = none:=zzE (by omega)
    rw [hgi]at hov
    simp only at hov
    rw [hov]at n1
    rw [Cfg.cs]at n1
    repeat' first|refine .A ?_|refine .B ?_|refine .C ?_|refine .D ?_|refine .F ?_|refine .G ?_|refine .H ?_|refine .t1 ?_|refine .f1 ?_|refine .n2 ?_|refine .P n1 ?_|refine .U ap ?_|refine .X m4 (qiH l4) hsm ?_|refine .S hst ?_|refine .Y ?_|fail
    exact next (n-1) _ _ (by omega) (cont _ rfl)
  ·have hiT:i=c.T.toNat:=by omega
   repeat' first|refine .A ?_|refine .B ?_|refine .D ?_|refine .I ?_|refine .J ?_|refine .f1 ?_|refine .F ?_|fail
   refine⟨g,h.length+4,qjo h,pb,h.length+3,ka,tv,rfl,⟨hr,hgB, ?_,hps,har,hga,⟨by simp [w0],.inl ⟨rfl,rfl⟩⟩,fun h=>absurd rfl h,by omega⟩,hOl,by omega⟩
   show PInv H g c (qjo h) (qjJ c) (List.replicate c.A.toNat 0) (tsW c l c.T.toNat) pb
   rw [<-hiT]
   exact hp
 obtain⟨u,H',h1,g',B,cb,pb,M,ka,tv,rfl,h2⟩:=key
 exact⟨H',g',B,cb,pb,M,ka,tv,h1,h2⟩
set_option maxHeartbeats 1600000 in
def qrf (lo:Nat){h:qab}{v w:Value}{l:List (Value×List Op4)}{ks:List Int}{n0 most:Nat}(hn0:n0<=1000)(hmo:most<=1000)(hv:Pgs h v l)(hw:Sl h 1 w (kcs ks))(hl:l.length<4611686018427387904) :
  ∃r,qfU En lo Id.zde [v,N n0,w,N most] h=some (.bool r,h)/\(r=true->l.length<=4/\(∀p∈l,p.2.length<=n0)/\ks.length<=most):=by
 have key:∃u H',qfU En lo Id.zde [v,N n0,w,N most] h=some (u,H')/\H'=h/\∃r,u = .bool r/\(r=true->l.length<=4/\(∀p∈l,p.2.length<=n0)/\ks.length<=most):=by
  have hb4:∀p∈l,p.2.length<=4398046511104:=fun p hp=>by
   have:=(hv.each p hp).2.2
   omega
  refine zzX hv.sl.len fun base hq=>zzX hq fun cap hve => ?_
  rw [List.length_map]at hve
  refine zzX hw.len fun wb hq=>zzX hq fun wc hwe => ?_
  rw [qq1]at hwe
  have hpv:=hv
  subst hve hwe
  refine qiu rfl Fn.zde rfl rfl ?_
  repeat' first|refine .A ?_|refine .B ?_|refine .G ?_|refine .F ?_|fail
  refine .loop (fun n f H=>∃(i:Nat) (s:Int),n+i=l.length/\f = [(0,.slice base l.length cap),(1,N n0),(2,.slice wb ks.length wc),(3,N most),(9,I s),(10,N i)]/\H=h/\(i<=4->s=qq3 (l.take i))) (n:=l.length) ⟨0,0,rfl,rfl,rfl,fun _=>rfl⟩ ?_
  rintro n f H ⟨i,s,hn,rfl,rfl,hs⟩ next
  by_cases hi:i<l.length
  ·have hgi:l[i]? = some l[i]:=zzG hi
   generalize l[i]=q at hgi
   have hqm:=List.mem_of_getElem? hgi
   have hq4:=hb4 q hqm
   have hlt:=qq4 hgi
   have hbt:qq3 (l.take i)<=(l.take i).length*4398046511104:=qq6 fun p hp=>hb4 p (List.mem_of_mem_take hp)
   have hbl:(l.take i).length=i:=by rw [List.length_take];omega
   rw [hbl]at hbt
   refine zzX (hpv.at hgi) fun a hq=>zzX hq fun cap' hq => ?_
   have hva:=hq.1
   have I0:=hq.2
   clear hq
   injection hva with e1 e2 e3
   subst e1
   refine zzX (hv.each q hqm).1.len fun qb hq=>zzX hq fun qc hqe => ?_
   rw [qnZ]at hqe
   rw [hqe]at I0
   repeat' first|refine .A ?_|refine .B ?_|refine .C ?_|refine .F ?_|refine .G ?_|refine .H ?_|refine .t1 ?_|refine .n2 ?_|refine .L I0 ?_|refine .R hi ?_|refine .Y ?_|fail
   refine next (n-1) _ _ (by omega) ⟨i+1,_,by omega,rfl,rfl,fun h4 => ?_⟩
   rw [hs (by omega),hlt]
   have:i<=3:=by omega
   rw [qiX (by omega) (by have:i*4398046511104<=3*4398046511104:=Nat.mul_le_mul_right _ this;omega)]
   simp
  ·have hil:i=l.length:=by omega
   subst hil
   rw [List.take_length]at hs
   by_cases h20:s<=(n0:Int)
   ·by_cases h4:l.length<=4
    ·have hs4:=hs h4
     by_cases h3:ks.length<=most
     ·repeat' first|refine .A ?_|refine .B ?_|refine .D ?_|refine .I ?_|refine .J ?_|refine .f1 ?_|refine .t2 ?_|refine .F ?_|refine .Y ?_|fail
      exact⟨rfl,true,rfl,fun _=>⟨h4,fun p hp=>by have:=qq5 hp;omega,h3⟩⟩
     ·repeat' first|refine .A ?_|refine .B ?_|refine .D ?_|refine .I ?_|refine .J ?_|refine .f1 ?_|refine .t2 ?_|refine .f2 ?_|refine .F ?_|refine .Y ?_|fail
      exact⟨rfl,false,rfl,fun h=>by cases h⟩
    ·repeat' first|refine .A ?_|refine .B ?_|refine .D ?_|refine .I ?_|refine .J ?_|refine .f1 ?_|refine .t2 ?_|refine .f2 ?_|refine .F ?_|refine .Y ?_|fail
     exact⟨rfl,false,rfl,fun h=>by cases h⟩
   ·repeat' first|refine .A ?_|refine .B ?_|refine .D ?_|refine .I ?_|refine .J ?_|refine .f1 ?_|refine .f2 ?_|refine .F ?_|refine .Y ?_|fail
    exact⟨rfl,false,rfl,fun h=>by cases h⟩
 obtain⟨u,_,h1,rfl,r,rfl,h2⟩:=key
 exact⟨r,h1,h2⟩
def qrg {H:qab}{g:Nat->Nat}{c:Cfg}{cb:CB}{B:Nat}{w:Wst}{pb:List Nat}{M ka kh:Nat}{tv hv:Value}(h:WInv H g c cb B w pb M ka kh tv hv)(lo:Nat):qfU En lo Id.zdF [qkt B] H=some (qjb cb,H):=by
 have l0:=h.l0
 refine qgw rfl Fn.zdF rfl rfl ?_
 repeat' first|refine .A ?_|refine .B ?_|refine .D ?_|refine .F ?_|refine .J ?_|refine .L l0 ?_|refine .Y ?_|fail
 rfl
def qrh (c:Cfg)(w:Wst)(ks:List Int):Wst:=ks.foldl (fun w k=>(qrb c w k).1) w
def qri {c:Cfg}{w:Wst}{ks:List Int}{i:Nat}{q:Int}(h:ks[i]? = some q):qrh c w (ks.take (i+1))=(qrb c (qrh c w (ks.take i)) q).1:=by
 obtain⟨hil,he⟩:=zzS.1 h
 unfold qrh
 rw [List.take_succ_eq_append_getElem hil,he,List.foldl_append]
 rfl
def qrj (c:Cfg)(w:Wst)(n:Int):(qrb c w n).1.evs.length<=w.evs.length+1:=by
 unfold qrb
 split
 ·exact Nat.le_succ _
 ·split
  ·show(qq9 c w).evs.length<=_
   unfold qq9
   split<;>exact Nat.le_succ _
  ·split
   ·exact Nat.le_succ _
   ·rename_i t _
    split
    ·exact Nat.le_succ _
    ·show(w.evs++(thS c t w.ws w.bs).2.2.2).length<=_
     have:=qrc c t w.ws w.bs
     rw [zzM]
     omega
def qrk (c:Cfg)(w:Wst)(ks:List Int):(qrh c w ks).evs.length<=w.evs.length+ks.length:=by
 unfold qrh
 induction ks generalizing w with
 | nil=>exact zzR _
 | cons k r ih =>
   rw [List.foldl_cons,List.length_cons]
   have:=ih (qrb c w k).1
   have:=qrj c w k
   omega
def qrl (w:Int)(f:Ent->Ent):inR (chA w f):=by
 unfold chA
 split
 ·exact qqb
 ·split
  ·split
   ·rename_i h
    exact qqa (Nat.lt_trans (qkd h) (by decide))
   ·exact qqb
  ·exact qqb
def qrm {a b:Int}(ha:inR a)(hb:inR b):inR (qm9 a b):=by
 unfold qm9
 split
 ·exact hb
 ·exact ha
def qrn (m:Mc):(qmR m).1.dest=m.dest:=by
 unfold qmR
 split
 ·rfl
 ·split<;>rfl
def qro (m:Mc):(qmU m).1.dest=m.dest:=by
 unfold qmU
 split
 ·rfl
 ·exact qrn _
def qrp (m:Mc):(qnb m).1.dest=m.dest:=qrn _
section
variable {m:Mc}{ws bs:List Int}{c:Cfg}
def qrq {t:Tn}(h:Rng ws):Rng (qnn c t ws).2/\(qnn c t ws).2.length=ws.length:=by
 unfold qnn
 repeat' split
 all_goals first|exact⟨h,rfl⟩|exact⟨qnY h _ (qp9 _),qi7 _ _ _⟩
def qrr (h:Rng ws)(hd:inR m.dest):Rng (qns m ws bs).2.1/\inR (qns m ws bs).1.1.dest/\(qns m ws bs).2.1.length=ws.length/\(qns m ws bs).2.2.length=bs.length:=by
 unfold qns
 by_cases h1:m.next=1
 ·rw [if_pos h1];exact⟨h,hd,rfl,rfl⟩
 by_cases h2:m.next=2
 ·rw [if_neg h1,if_pos h2]
  refine⟨h, ?_,rfl,rfl⟩
  show inR (if qi5 ws 2≠0 then qmQ m else onM m 3).1.dest
  split<;>exact hd
 by_cases h3:m.next=3
 ·rw [if_neg h1,if_neg h2,if_pos h3]
  refine⟨h, ?_,rfl,rfl⟩
  show inR (qm4 m ws).1.dest
  unfold qm4
  split
  ·split
   ·exact hd
   ·rw [qro];exact hd
  ·rw [qro];exact hd
 by_cases h4:m.next=4
 ·rw [if_neg h1,if_neg h2,if_neg h3,if_pos h4]
  refine⟨h, ?_,rfl,rfl⟩
  show inR (qm2 m ws).1.dest
  unfold qm2
  split<;>(rw [qro];exact hd)
 by_cases h5:m.next=5
 ·rw [if_neg h1,if_neg h2,if_neg h3,if_neg h4,if_pos h5]
  refine⟨h, ?_,rfl,rfl⟩
  show inR (qnd m ws (qnr m)).1.dest
  unfold qnd
  split
  ·rw [qrp];exact hd
  ·split
   ·rw [qrp];exact hd
   ·split
    ·rw [qrp];exact qrm hd (qp9 _)
    ·exact hd
 by_cases h6:m.next=6
 ·rw [if_neg h1,if_neg h2,if_neg h3,if_neg h4,if_neg h5,if_pos h6]
  show Rng (qnf m ws (qnr m)).2/\inR (qnf m ws (qnr m)).1.1.dest/\(qnf m ws (qnr m)).2.length=ws.length/\bs.length=bs.length
  unfold qnf
  split
  ·exact⟨qnY h _ (qrl _ _),hd,qi7 _ _ _,rfl⟩
  ·exact⟨h,hd,rfl,rfl⟩
 by_cases h7:m.next=7
 ·rw [if_neg h1,if_neg h2,if_neg h3,if_neg h4,if_neg h5,if_neg h6,if_pos h7];exact⟨h,hd,rfl,rfl⟩
 by_cases h8:m.next=8
 ·rw [if_neg h1,if_neg h2,if_neg h3,if_neg h4,if_neg h5,if_neg h6,if_neg h7,if_pos h8]
  exact⟨h,hd,rfl,qi7 _ _ _⟩
 by_cases h9:m.next=9
 ·rw [if_neg h1,if_neg h2,if_neg h3,if_neg h4,if_neg h5,if_neg h6,if_neg h7,if_neg h8,if_pos h9]
  refine⟨qnY h _ (qrl _ _), ?_,qi7 _ _ _,rfl⟩
  show inR (qnb {m with dest:=w64 (m.dest+(qnr m).n),moved:=w64 (m.moved+1)}).1.dest
  rw [qrp]
  exact qp9 _
 by_cases ha:m.next=10
 ·rw [if_neg h1,if_neg h2,if_neg h3,if_neg h4,if_neg h5,if_neg h6,if_neg h7,if_neg h8,if_neg h9,if_pos ha]
  have ht:=qrq (c:=m.c) (t:=m.turn.getD ⟨0,0,0⟩) h
  refine⟨ht.1, ?_,ht.2,rfl⟩
  show inR (qnp m (m.turn.getD ⟨0,0,0⟩) ws).1.1.dest
  unfold qnp
  split
  ·exact hd
  ·split<;>exact hd
 ·rw [if_neg h1,if_neg h2,if_neg h3,if_neg h4,if_neg h5,if_neg h6,if_neg h7,if_neg h8,if_neg h9,if_neg ha]
  show Rng (if qjh ws 0 m.top then qi6 ws 0 m.dest else ws)/\inR m.dest/\(if qjh ws 0 m.top then qi6 ws 0 m.dest else ws).length=ws.length/\bs.length=bs.length
  split
  ·exact⟨qnY h _ hd,hd,qi7 _ _ _,rfl⟩
  ·exact⟨h,hd,rfl,rfl⟩
end
def Wst.rg (w:Wst):Prop:=Rng w.ws/\inR w.m.dest/\∀t∈w.ts,t.rg
def qrs {c:Cfg}{w:Wst}(h:w.rg)(n:Int):(qrb c w n).1.rg/\(qrb c w n).1.ws.length=w.ws.length/\(qrb c w n).1.bs.length=w.bs.length:=by
 unfold qrb
 split
 ·exact⟨h,rfl,rfl⟩
 ·split
  ·show(qq9 c w).rg/\(qq9 c w).ws.length=_/\(qq9 c w).bs.length=_
   have hs:=qrr (m:=w.m) (ws:=w.ws) (bs:=w.bs) h.1 h.2.1
   unfold qq9
   split
   ·exact⟨⟨hs.1,hs.2.1,h.2.2⟩,hs.2.2.1,hs.2.2.2⟩
   ·exact⟨⟨hs.1,qqb,h.2.2⟩,hs.2.2.1,hs.2.2.2⟩
  ·split
   ·exact⟨h,rfl,rfl⟩
   ·rename_i t ht
    split
    ·exact⟨h,rfl,rfl⟩
    ·have hk:=qqw (c:=c) (bs:=w.bs) h.1 (h.2.2 t (List.mem_of_getElem? ht))
     refine⟨⟨hk.1,h.2.1,fun u hu => ?_⟩,hk.2.2.1,hk.2.2.2⟩
     rcases List.mem_or_eq_of_mem_set hu with hu|hu
     ·exact h.2.2 u hu
     ·rw [hu];exact hk.2.1
def qrt {c:Cfg}{w:Wst}(h:w.rg)(ks:List Int):(qrh c w ks).rg/\(qrh c w ks).ws.length=w.ws.length/\(qrh c w ks).bs.length=w.bs.length:=by
 unfold qrh
 induction ks generalizing w with
 | nil=>exact⟨h,rfl,rfl⟩
 | cons k r ih =>
   rw [List.foldl_cons]
   have h1:=qrs (c:=c) h k
   have h2:=ih h1.1
   exact⟨h2.1,h2.2.1.trans h1.2.1,h2.2.2.trans h1.2.2⟩
def qru {c:Cfg}(hm:c.may):Rng (qjJ c):=by
 intro w hw
 unfold qjJ at hw
 unfold Cfg.may at hm
 rcases List.mem_or_eq_of_mem_set hw with h|h
 ·obtain⟨k,hk,rfl⟩:=List.mem_map.1 h
  unfold qjI
  split<;>omega
 ·omega
def qrv {c:Cfg}(hm:c.may)(l:List (Value×List Op4)):(w0 c l).rg:=by
 refine⟨qru hm,qqb,fun t ht => ?_⟩
 obtain⟨i,_,rfl⟩:=List.mem_map.1 ht
 exact qqF _ _
section
variable {H H':qab}{g:Nat->Nat}{c:Cfg}{cb:CB}{B:Nat}{w:Wst}{pb:List Nat}{M ka kh:Nat}{tv hv:Value}
def WInv.tickC (h:WInv H g c cb B w pb M ka kh tv hv)(hC:IsC H' cb w.ws w.bs)(o:Chg [cb.P] H H'):WInv H' (qqK H g 3) c cb B w pb M ka kh tv hv/\Stp (fun n=>n≠2) H H' g (qqK H g 3):=by
 have st:Stp (fun n=>n≠2) H H' g (qqK H g 3):=⟨o.len,fun x hx=>qqL hx,fun x hx ht=>o.same x hx fun q=>by
  rw [List.mem_singleton]at q
  exact ht (by rw [q];exact h.p.tc.1)⟩
 have hB:=qiB h.row
 have lc:=ltC h.p.cells
 exact⟨⟨(st.same B hB (by rw [h.gB];decide)).trans h.row,(st.tag B hB).trans h.gB,h.p.cells' hC st (by decide) (fun i=>by omega),h.ps.keep st (by decide),h.arr.keep fun q=>st.same ka (h.arr.lt q) (by rw [(h.ga q).1];decide),fun q=>⟨(st.tag ka (h.arr.lt q)).trans (h.ga q).1,(h.ga q).2⟩,
  h.out.keep fun q=>st.same kh (h.out.lt q) (by rw [(h.gh q).1];decide),fun q=>⟨(st.tag kh (h.out.lt q)).trans (h.gh q).1,(h.gh q).2⟩,h.len⟩,st⟩
def WInv.ext (h:WInv H g c cb B w pb M ka kh tv hv)(x:Ext H H'):WInv H' (qqK H g 3) c cb B w pb M ka kh tv hv/\Stp (fun _=>True) H H' g (qqK H g 3):=by
 have st:Stp (fun _=>True) H H' g (qqK H g 3):=⟨x.1,fun x hx=>qqL hx,fun y hy _=>x.2 y hy⟩
 exact⟨h.keep st trivial trivial trivial trivial (fun _=>trivial),st⟩
end
end Go.Proofs.YtlgnnpkdhbhdgaaGreat
