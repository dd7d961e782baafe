/- Regions: whatever order the edges allow. -/
import Derived.Test.YtlgnnpkdhbhdgaaGreatIrB
import Derived.Calls
import Derived.Orders
import Derived.Scope
set_option linter.all false
namespace Go.Ir
def qdP (call:qaM):Prop:=∀g vs h v h',call g vs h=some (v,h')->h.length<=h'.length
def qdQ {lo:Nat}{h h':qab}{a:Addr}{vs:List Value}(hs:stN lo h a vs=some h'):h'.length=h.length:=by
 unfold stN at hs
 split at hs<;>try (cases hs;done)
 obtain⟨_,hs⟩:=qc1 hs
 obtain⟨_,hs⟩:=qc1 hs
 obtain⟨_,rfl⟩:=qc0 hs
 simp
def qdR {lo esz bytes:Nat}{h h':qab}{x y v:Value}(hs:qaE lo esz bytes h x y=some (v,h')):h.length<=h'.length:=by
 unfold qaE at hs
 split at hs<;>try (cases hs;done)
 obtain⟨_,hs⟩:=qc1 hs
 split at hs<;>try (cases hs;done)
 split at hs
 ·split at hs
  ·injection hs with hs;injection hs with _ e;subst e;exact zzR _
  ·injection hs with hs;injection hs with _ e;subst e;simp
 ·split at hs
  ·split at hs
   ·split at hs
    ·injection hs with hs;injection hs with _ e;subst e;exact zzR _
    ·split at hs<;>try (cases hs;done)
     rename_i h1
     injection hs with hs;injection hs with _ e;subst e
     rw [qdQ h1];exact zzR _
   ·split at hs<;>try (cases hs;done)
    injection hs with hs;injection hs with _ e;subst e;simp
  ·split at hs
   ·injection hs with hs;injection hs with _ e;subst e;exact zzR _
   ·split at hs<;>try (cases hs;done)
    obtain⟨_,hs⟩:=qc0 hs
    injection hs with _ e;subst e;simp
def qdS {call:qaM}(hm:qdP call){lo:Nat}{o:IOp}{f:Fr}{h h':qab}{v:Value}(hv:yf call lo o f h=some (v,h')):h.length<=h'.length:=by
 have fin:∀{u:Value} {k:qab},(some (u,k):Option (Value×qab))=some (v,h')->h.length<=k.length->h.length<=h'.length:=fun e l=>by
  injection e with e;injection e with _ e;subst e;exact l
 cases o<;>simp only [yf]at hv
 case store n x y =>
  split at hv<;>try (cases hv;done)
  obtain⟨_,hv⟩:=qc1 hv
  split at hv<;>try (cases hv;done)
  rename_i h1
  exact fin hv (by rw [qdQ h1];exact zzR _)
 case call g args =>
  split at hv<;>try (cases hv;done)
  exact hm _ _ _ _ _ hv
 case yt x args =>
  split at hv<;>try (cases hv;done)
  split at hv<;>try (cases hv;done)
  exact hm _ _ _ _ _ hv
 case invoke tab x args =>
  split at hv<;>try (cases hv;done)
  split at hv<;>try (cases hv;done)
  exact hm _ _ _ _ _ hv
 case append esz bytes x y =>
  split at hv<;>try (cases hv;done)
  exact qdR hv
 case copy esz x y =>
  split at hv<;>try (cases hv;done)
  split at hv<;>try (cases hv;done)
  split at hv<;>try (cases hv;done)
  split at hv
  ·exact fin hv (zzR _)
  ·split at hv
   ·exact fin hv (zzR _)
   ·split at hv<;>try (cases hv;done)
    rename_i h1
    exact fin hv (by rw [qdQ h1];exact zzR _)
 case clear esz zero x =>
  split at hv<;>try (cases hv;done)
  split at hv
  ·exact fin hv (zzR _)
  ·split at hv
   ·exact fin hv (zzR _)
   ·split at hv<;>try (cases hv;done)
    rename_i h1
    exact fin hv (by rw [qdQ h1];exact zzR _)
 case yH m k x =>
  split at hv<;>try (cases hv;done)
  obtain⟨_,hv⟩:=qc1 hv
  split at hv<;>try (cases hv;done)
  split at hv<;>try (cases hv;done)
  exact fin hv (by simp)
 case yF m k =>
  split at hv<;>try (cases hv;done)
  obtain⟨_,hv⟩:=qc1 hv
  split at hv
  ·exact fin hv (zzR _)
  ·obtain⟨_,hv⟩:=qc1 hv
   split at hv<;>try (cases hv;done)
   split at hv<;>try (cases hv;done)
   exact fin hv (by simp)
 case lookup z ok m k =>
  split at hv<;>try (cases hv;done)
  obtain⟨_,hv⟩:=qc1 hv
  split at hv<;>try (cases hv;done)
  split at hv<;>try (cases hv;done)
  ·exact fin hv (zzR _)
  ·exact fin hv (zzR _)
 case ye nm tab x =>
  split at hv<;>try (cases hv;done)
  obtain⟨_,hv⟩:=qc1 hv
  split at hv<;>try (cases hv;done)
  split at hv<;>try (cases hv;done)
  exact fin hv (zzR _)
 case yn len esz x i =>
  split at hv<;>try (cases hv;done)
  split at hv<;>try (cases hv;done)
  ·obtain⟨_,hv⟩:=qc0 hv
   injection hv with _ e;subst e;exact zzR _
  ·obtain⟨_,hv⟩:=qc0 hv
   injection hv with _ e;subst e;exact zzR _
 case index len esz n x i =>
  split at hv<;>try (cases hv;done)
  obtain⟨_,hv⟩:=qc1 hv
  split at hv<;>try (cases hv;done)
  exact fin hv (zzR _)
 case yN x i =>
  split at hv<;>try (cases hv;done)
  obtain⟨_,hv⟩:=qc1 hv
  split at hv<;>try (cases hv;done)
  exact fin hv (zzR _)
 case len str x =>
  split at hv<;>try (cases hv;done)
  ·split at hv<;>try (cases hv;done)
   exact fin hv (zzR _)
  ·split at hv<;>try (cases hv;done)
   exact fin hv (zzR _)
 case yK=>exact fin hv (by simp)
 case box x =>
  split at hv<;>try (cases hv;done)
  obtain⟨_,hv⟩:=qc0 hv
  injection hv with _ e;subst e;simp
 case buildSlice esz len zero parts =>
  split at hv<;>try (cases hv;done)
  split at hv<;>try (cases hv;done)
  obtain⟨_,hv⟩:=qc0 hv
  injection hv with _ e;subst e;simp
 case yA esz bytes zero n c =>
  split at hv<;>try (cases hv;done)
  obtain⟨_,hv⟩:=qc0 hv
  injection hv with _ e;subst e;simp
 case yu s b off n x =>
  obtain⟨_,hv⟩:=qc1 hv
  split at hv<;>try (cases hv;done)
  obtain⟨_,hv⟩:=qc1 hv
  obtain⟨_,hv⟩:=qc0 hv
  injection hv with _ e;subst e;exact zzR _
 case yd s b off =>
  obtain⟨_,hv⟩:=qc1 hv
  split at hv<;>try (cases hv;done)
  exact fin hv (zzR _)
 case yc s b off n =>
  obtain⟨_,hv⟩:=qc1 hv
  split at hv<;>try (cases hv;done)
  split at hv<;>try (cases hv;done)
  exact fin hv (zzR _)
 case wac x y =>
  split at hv<;>try (cases hv;done)
  obtain⟨_,hv⟩:=qc0 hv
  injection hv with _ e;subst e;exact zzR _
 case yE m =>
  split at hv<;>try (cases hv;done)
  split at hv<;>try (cases hv;done)
  exact fin hv (zzR _)
 all_goals
  first
   | (split at hv<;>first|(cases hv;done)|(exact fin hv (zzR _))|(split at hv<;>first|(cases hv;done)|(exact fin hv (zzR _))))
def res (E:Emb)(n:Nat):Emb:=fun i=>if i<n then E i else none
def qdT {E:Emb}{n i:Nat}(h:i<n):res E n i=E i:=by simp [res,h]
def qdU {E:Emb}{n i:Nat}(h:n<=i):res E n i=none:=by simp [res];omega
def qdV {E:Emb}{n i:Nat}{e:Option Ent}(h:res E n i=some e):i<n/\E i=some e:=by
 unfold res at h
 split at h
 ·rename_i hi;exact⟨hi,h⟩
 ·cases h
def qdW {E:Emb}{n m:Nat}(h:n<=m):(res E n).le (res E m):=fun i e hi=>by
 obtain⟨h1,h2⟩:=qdV hi
 exact .inl (by rw [qdT (by omega)];exact h2)
def qdX {E:Emb}{n:Nat} : (res E n).le E:=fun i e hi => .inl (qdV hi).2
def qdY {E E':Emb}{n:Nat}(h:∀i,i<n->∀e,E i=some e->E' i=some e\/E' i=some none):(res E n).le (res E' n):=fun i e hi=>by
 obtain⟨h1,h2⟩:=qdV hi
 rw [qdT h1]
 exact h i h1 e h2
structure Tr (call:qaM)(lo:Nat)(cc:List COper)(ck:Nat->Nat)(f0:Fr)(h0:qab) where
 F:Nat->Fr
 H:Nat->qab
 HS:Nat->List qab
 V:Nat->Value
 W:Nat->Bool
 hF:F 0=f0
 hH:H 0=h0
 hHS:HS 0 = []
 step:∀(p:Nat) (c:COper),cc[p]? = some c->want c.guard (F p)=some (W p)/\F (p+1)=yG (F p) c.dst (V p)/\
  (W p=true->yf call lo c.io (F p) (H p)=some (V p,H (p+1))/\yj call lo c.io (F p) (V p) ((HS p).take (ck p))=true/\
    HS (p+1)=if qaQ c.io then H p::HS p else HS p)/\
  (W p=false->V p=qag/\H (p+1)=H p/\HS (p+1)=HS p)
def qdZ (c:COper)(k:Nat):IOper := {dst:=c.dst,op:=c.io,guard:=c.guard,wam:=k}
def qd0 {call:qaM}{lo:Nat} : ∀(cc:List COper) (ck:Nat->Nat) (f0 f1:Fr) (h0 h1:qab) (hs0:List qab),
  yw call lo (cc.mapIdx fun p c=>qdZ c (ck p)) f0 h0 hs0=some (f1,h1)->
  ∃(F:Nat->Fr) (H:Nat->qab) (HS:Nat->List qab) (V:Nat->Value) (W:Nat->Bool),F 0=f0/\H 0=h0/\HS 0=hs0/\F cc.length=f1/\H cc.length=h1/\
   ∀(p:Nat) (c:COper),cc[p]? = some c->want c.guard (F p)=some (W p)/\F (p+1)=yG (F p) c.dst (V p)/\
    (W p=true->yf call lo c.io (F p) (H p)=some (V p,H (p+1))/\yj call lo c.io (F p) (V p) ((HS p).take (ck p))=true/\
      HS (p+1)=if qaQ c.io then H p::HS p else HS p)/\
    (W p=false->V p=qag/\H (p+1)=H p/\HS (p+1)=HS p)
 | [],ck,f0,f1,h0,h1,hs0,h=>by
   simp [yw]at h
   obtain⟨rfl,rfl⟩:=h
   exact⟨fun _=>f0,fun _=>h0,fun _=>hs0,fun _=>qag,fun _=>true,rfl,rfl,rfl,rfl,rfl,fun p c hc=>by simp at hc⟩
 | c::cc,ck,f0,f1,h0,h1,hs0,h=>by
   have ih:=fun f0 h0 hs0 h=>qd0 (call:=call) (lo:=lo) cc (fun p=>ck (p+1)) f0 f1 h0 h1 hs0 h
   simp only [List.mapIdx_cons]at h
   simp only [yw,qdZ]at h
   cases hw:want c.guard f0 with
   | none=>rw [hw]at h;cases h
   | some b =>
     rw [hw]at h
     cases b with
     | false =>
       obtain⟨F,H,HS,V,W,e1,e2,e3,e4,e5,hst⟩:=ih _ _ _ h
       refine⟨fun p=>match p with|0=>f0|p+1=>F p,fun p=>match p with|0=>h0|p+1=>H p,fun p=>match p with|0=>hs0|p+1=>HS p,
        fun p=>match p with|0=>qag|p+1=>V p,fun p=>match p with|0=>false|p+1=>W p,rfl,rfl,rfl,e4,e5,fun p c' hc' => ?_⟩
       cases p with
       | zero =>
         simp at hc'
         subst hc'
         exact⟨hw,e1,fun h=>(by cases h),fun _=>⟨rfl,e2,e3⟩⟩
       | succ p=>exact hst p c' (by simpa using hc')
     | true =>
       simp only at h
       cases hi:yf call lo c.io f0 h0 with
       | none=>rw [hi]at h;cases h
       | some r =>
         obtain⟨v,h'⟩:=r
         rw [hi]at h
         simp only at h
         obtain⟨ha,h⟩:=qc1 h
         obtain⟨F,H,HS,V,W,e1,e2,e3,e4,e5,hst⟩:=ih _ _ _ h
         refine⟨fun p=>match p with|0=>f0|p+1=>F p,fun p=>match p with|0=>h0|p+1=>H p,fun p=>match p with|0=>hs0|p+1=>HS p,
          fun p=>match p with|0=>v|p+1=>V p,fun p=>match p with|0=>true|p+1=>W p,rfl,rfl,rfl,e4,e5,fun p c' hc' => ?_⟩
         cases p with
         | zero =>
           simp at hc'
           subst hc'
           exact⟨hw,e1,fun _=>⟨by rw [hi];simp [e2],ha,e3⟩,fun h=>(by cases h)⟩
         | succ p=>exact hst p c' (by simpa using hc')
def qd1 {call:qaM}{lo:Nat}{cc:List COper}{ck:Nat->Nat}{f0 f1:Fr}{h0 h1:qab}(h:yw call lo (cc.mapIdx fun p c=>qdZ c (ck p)) f0 h0 []=some (f1,h1)) :
  ∃T:Tr call lo cc ck f0 h0,T.F cc.length=f1/\T.H cc.length=h1:=by
 obtain⟨F,H,HS,V,W,e1,e2,e3,e4,e5,hst⟩:=qd0 cc ck f0 f1 h0 h1 [] h
 exact⟨⟨F,H,HS,V,W,e1,e2,e3,hst⟩,e4,e5⟩
section
variable {call:qaM}{lo:Nat}{cc:List COper}{ck:Nat->Nat}{f0:Fr}{h0:qab}
def Tr.L (T:Tr call lo cc ck f0 h0)(p:Nat):Nat:=(T.H p).length
def Tr.wal (T:Tr call lo cc ck f0 h0)(hm:qdP call){p:Nat}(hp:p<cc.length):T.L p<=T.L (p+1):=by
 obtain⟨h1,h2,h3,h4⟩:=T.step p cc[p] (by simp [hp])
 unfold Tr.L
 cases hw:T.W p with
 | true=>exact qdS hm (h3 hw).1
 | false=>rw [(h4 hw).2.1];exact zzR _
def Tr.yD (T:Tr call lo cc ck f0 h0)(hm:qdP call){p q:Nat}(hpq:p<=q)(hq:q<=cc.length):T.L p<=T.L q:=by
 induction q with
 | zero=>have:p=0:=by omega
         subst this;exact zzR _
 | succ q ih =>
   by_cases h:p=q+1
   ·subst h;exact zzR _
   ·exact Nat.le_trans (ih (by omega) (by omega)) (T.wal hm (by omega))
def qd2 (cc:List COper)(p:Nat):Option Nat:=(cc[p]?).bind COper.dst
def Tr.now (T:Tr call lo cc ck f0 h0)(S:Nat->Bool)(t:Nat):Nat->Option (Value×Nat)
 | 0=>(qaa f0 t).map fun v=>(v,T.L 0)
 | k+1=>if S k&&(qd2 cc k==some t)then some (T.V k,T.L (k+1))else T.now S t k
def qd3 (f:Fr)(d:Option Nat)(v:Value)(t:Nat):qaa (yG f d v) t=if d=some t then some v else qaa f t:=by
 cases d with
 | none=>simp [yG]
 | some d=>simp [yG,qaa]
def Tr.waB (T:Tr call lo cc ck f0 h0)(t:Nat):∀p,p<=cc.length->qaa (T.F p) t=(T.now (fun _=>true) t p).map (·.1)
 | 0,_=>by simp only [Tr.now,T.hF];cases qaa f0 t<;>rfl
 | p+1,hp=>by
   have ih:=T.waB t p (by omega)
   have hc:cc[p]? = some cc[p]:=zzG (by omega)
   obtain⟨h1,h2,h3,h4⟩:=T.step p cc[p] hc
   rw [h2,qd3]
   simp only [Tr.now,qd2,hc,Option.bind_some,Bool.true_and]
   by_cases hd:cc[p].dst=some t
   ·simp [hd]
   ·simp [hd,ih]
def Tr.yR (T:Tr call lo cc ck f0 h0){S S':Nat->Bool}{t:Nat} : ∀k,(∀q,q<k->qd2 cc q=some t->S q=S' q)->T.now S t k=T.now S' t k
 | 0,_=>rfl
 | k+1,h=>by
   simp only [Tr.now]
   rw [T.yR k (fun q hq hd=>h q (by omega) hd)]
   by_cases hd:qd2 cc k=some t
   ·rw [h k (by omega) hd]
   ·have:(qd2 cc k==some t)=false:=by simpa using hd
    simp [this]
def Tr.yU (T:Tr call lo cc ck f0 h0){S:Nat->Bool}{t k:Nat} : ∀m,k<=m->(∀q,k<=q->q<m->qd2 cc q=some t->S q=false)->T.now S t m=T.now S t k
 | 0,h,_=>by have:k=0:=by omega
             subst this;rfl
 | m+1,h,hs=>by
   by_cases hk:k=m+1
   ·subst hk;rfl
   ·simp only [Tr.now]
    have ih:=T.yU (S:=S) (t:=t) (k:=k) m (by omega) (fun q h1 h2 hd=>hs q h1 (by omega) hd)
    by_cases hd:qd2 cc m=some t
    ·simp [hs m (by omega) (by omega) hd,ih]
    ·have:(qd2 cc m==some t)=false:=by simpa using hd
     simp [this,ih]
def Tr.wak (T:Tr call lo cc ck f0 h0)(hm:qdP call){S:Nat->Bool}{t:Nat}{v:Value}{n:Nat} : ∀k,k<=cc.length->T.now S t k=some (v,n)->n<=T.L k
 | 0,_,h=>by
   simp only [Tr.now,Option.map_eq_some_iff]at h
   obtain⟨u,_,h⟩:=h
   injection h with _ h
   omega
 | k+1,hk,h=>by
   simp only [Tr.now]at h
   split at h
   ·injection h with h;injection h with _ h;omega
   ·exact Nat.le_trans (T.wak hm k (by omega) h) (T.wal hm (by omega))
def Tr.read (T:Tr call lo cc ck f0 h0)(hm:qdP call){S:Nat->Bool}{t p:Nat}(hp:p<=cc.length)(h1:∀q,q<p->qd2 cc q=some t->S q=true)
  (h2:∀q,p<=q->q<cc.length->qd2 cc q=some t->S q=false) {v:Value} (hv:qaa (T.F p) t=some v):∃n,n<=T.L p/\T.now S t cc.length=some (v,n):=by
 rw [T.waB t p hp]at hv
 rw [T.yU cc.length hp h2,T.yR (S':=fun _=>true) p h1]
 cases hn:T.now (fun _=>true) t p with
 | none=>rw [hn]at hv;cases hv
 | some r =>
   obtain⟨u,n⟩:=r
   rw [hn]at hv
   simp at hv
   subst hv
   exact⟨n,T.wak hm p hp hn,rfl⟩
def Tr.wav (T:Tr call lo cc ck f0 h0)(t:Nat){v:Value}(h:qaa (T.F cc.length) t=some v):∃n,T.now (fun _=>true) t cc.length=some (v,n):=by
 rw [T.waB t _ (zzR _)]at h
 cases hn:T.now (fun _=>true) t cc.length with
 | none=>rw [hn]at h;cases h
 | some r=>obtain⟨u,n⟩:=r;rw [hn]at h;simp at h;subst h;exact⟨n,rfl⟩
end
def qd4 (P:Program)(g:Nat):Prop:=∀args w,(callFunc g args).run P w = .ok (.enter g args) w
def qd5 (P:Program)(B0:Nat)(w0:World)(call:qaM):Prop :=
 ∀g vs h v h',call g vs h=some (v,h')->qd4 P g/\∀(E:Emb) (w:World) (cs:Array Value),Sim B0 w0 E h w->VRs E vs cs.toList->
  Calls P g cs w fun e w'=>∃c E',e = .returned c/\Sim B0 w0 E' h' w'/\Later E w E' w'/\VR E' v c
section
variable {P:Program}{LB:List Nat}{E:Emb}{f:Fr}{a:Act}{call:qaM}{lo:Nat}{h h':qab}{v:Value}{w w0:World}{B0:Nat}
def Sim.base (s:Sim B0 w0 E h w)(hB0:B0<=w0.heap.size):B0<=w.heap.size:=Nat.le_trans hB0 s.below.size
def qd6 {name:String}{t g:Nat}(h:(qba P name).lookup t=some g)(recv:Value)(w:World) :
  ∃r,r=recv/\(method (P.types.size+Made.depth) t recv name).run P w = .ok (g,r) w:=by
 have hm:(t,g)∈qba P name:=by
  generalize qba P name=l at h
  induction l with
  | nil=>simp at h
  | cons p l ih =>
    obtain⟨k,v⟩:=p
    simp only [List.lookup_cons]at h
    split at h
    ·rename_i he
     have:t=k:=by simpa using he
     injection h with h
     subst this h
     simp
    ·exact List.mem_cons_of_mem _ (ih h)
 simp only [qba,List.mem_filterMap]at hm
 obtain⟨t',ht',hm⟩:=hm
 split at hm<;>try (cases hm;done)
 rename_i i hi
 split at hm<;>try (cases hm;done)
 rename_i m hfind
 split at hm<;>try (cases hm;done)
 ·rename_i g' e hf hp hu
  injection hm with hm
  injection hm with e1 e2
  subst e1 e2
  refine⟨recv,rfl, ?_⟩
  have hmp:m.path.toList = []:=by
   have:m.path = #[]:=by simpa using hp
   rw [this]
  obtain⟨q,hq⟩:∃q,P.types.size+Made.depth=q+1:=⟨P.types.size+99,rfl⟩
  rw [hq]
  simp only [method,Sem.run_bind,run_typeInfo (w:=w) hi,Result.andThen_ok,hfind,hmp,follow,Sem.run_pure,hf,receiverAt,run_underlying hu]
  rfl
 ·rename_i g' e hf hp hu
  injection hm with hm
  injection hm with e1 e2
  subst e1 e2
  refine⟨recv,rfl, ?_⟩
  have hmp:m.path.toList = []:=by
   have:m.path = #[]:=by simpa using hp
   rw [this]
  obtain⟨q,hq⟩:∃q,P.types.size+Made.depth=q+1:=⟨P.types.size+99,rfl⟩
  rw [hq]
  simp only [method,Sem.run_bind,run_typeInfo (w:=w) hi,Result.andThen_ok,hfind,hmp,follow,Sem.run_pure,hf,receiverAt,run_underlying hu]
  rfl
def qd7 {ops:List Oper}{o:Oper}{io:IOp}(hc:NP P LB ops o io)(hp:qdI io=true)(hop:qbQ LB E f a o)(hcall:qd5 P B0 w0 call)
  (hv:yf call lo io f h=some (v,h')):∃g vs args,call g vs h=some (v,h')/\VRs E vs args.toList/\(execOp a.eval o).run P w = .ok (.enter g args) w:=by
 obtain⟨dst,op,ty,pos,after,guard⟩:=o
 cases hc<;>simp [qdI]at hp
 case call c g ho hcc hx =>
  simp only at ho
  subst ho
  obtain⟨cal,args,ts⟩:=c
  simp only at hcc
  subst hcc
  simp only [yf]at hv
  split at hv<;>try (cases hv;done)
  rename_i vs hvs
  have hen:=(hcall g vs h v h' hv).1
  have hr:=qbT (a:=a) hx (fun x hx=>hop x (by simp [Op.operands,Call.operands];right;simpa using hx)) hvs
  refine⟨g,vs,args.map a.eval,hv,by simpa using hr, ?_⟩
  have:=hen (args.map a.eval) w
  simp only [execOp,resolve,Act.eval,Deferred.ofValue,Sem.run_bind,Sem.run_pure,Result.andThen_ok,invoke]
  simpa using this
 case yt c x ho hcc h0 hx =>
  simp only at ho
  subst ho
  obtain⟨cal,args,ts⟩:=c
  simp only at hcc
  subst hcc
  simp only [yf]at hv
  split at hv<;>try (cases hv;done)
  rename_i fv vs hfv hvs
  split at hv<;>try (cases hv;done)
  rename_i g caps hcal
  have hen:=(hcall g _ h v h' hv).1
  have hr:=qbT (a:=a) hx (fun x hx=>hop x (by simp [Op.operands,Call.operands];right;simpa using hx)) hvs
  have hfr:=hop x (by simp [Op.operands,Call.operands]) h0 _ hfv
  generalize hce:a.eval x=cv at hfr
  unfold callee at hcal
  split at hcal<;>try (cases hcal;done)
  obtain⟨hz,hcal⟩:=qc0 hcal
  injection hcal with e1 e2
  subst e1 e2
  cases hfr with
  | func fn f0 f' c0 c' hf hcc =>
    have hz':f'.size=0:=by have:=hf.length;simp at this;omega
    have:f' = #[]:=Array.eq_empty_of_size_eq_zero hz'
    subst this
    refine⟨_,_,args.map a.eval++c',hv,by simpa using hr.app hcc, ?_⟩
    have:=hen (args.map a.eval++c') w
    simp only [execOp,resolve,hce,Deferred.ofValue,Sem.run_bind,Sem.run_pure,Result.andThen_ok,invoke]
    simpa using this
 case invoke c x name ho hcc h0 hx =>
  simp only at ho
  subst ho
  obtain⟨cal,args,ts⟩:=c
  simp only at hcc
  subst hcc
  simp only [yf]at hv
  split at hv<;>try (cases hv;done)
  rename_i t rv vs hfv hvs
  split at hv<;>try (cases hv;done)
  rename_i g hg
  have hen:=(hcall g _ h v h' hv).1
  have hr:=qbT (a:=a) hx (fun x hx=>hop x (by simp [Op.operands,Call.operands];right;simpa using hx)) hvs
  have hfr:=hop x (by simp [Op.operands,Call.operands]) h0 _ hfv
  generalize hce:a.eval x=cv at hfr
  cases hfr with
  | iface _ _ c hrv =>
    obtain⟨r,rfl,hm⟩:=qd6 hg c w
    refine⟨g,_,#[r]++args.map a.eval,hv,by simpa using VRs.cons _ _ _ _ hrv hr, ?_⟩
    have:=hen (#[r]++args.map a.eval) w
    simp only [execOp,resolve,hce,Sem.run_bind,Sem.run_pure,Result.andThen_ok,invoke]
    have e0:(#[Value.iface t r]++Array.map a.eval args)[0]? = some (Value.iface t r):=by
     rw [Array.getElem?_append_left (by simp)];rfl
    have e1:(#[Value.iface t r]++Array.map a.eval args).extract 1 (#[Value.iface t r]++Array.map a.eval args).size=Array.map a.eval args:=by
     apply Array.ext'
     simp
     rw [List.take_of_length_le (by simp)]
    simp only [e0,e1,callMethod,Sem.run_bind,run_program,Result.andThen_ok,hm]
    exact this
def qd8 {ops:List Oper}{o:Oper}{io:IOp}(hc:NP P LB ops o io)(hp:qaQ io=true)(hop:qbQ LB E f a o)(s:Sim B0 w0 E h w)(hB0:B0<=w0.heap.size)
  (hcall:qd5 P B0 w0 call) (hv:yf call lo io f h=some (v,h')) {next:Act->World->Prop} {Q:Exit->Act->World->Prop}
  (hn:∀c w' E',Sim B0 w0 E' h' w'->Later E w E' w'->VR E' v c->next (a.put o.dst c) w'):o.wp P a w next Q:=by
 cases hcl:qdI io with
 | false =>
   obtain⟨c,w',E',hr,g1,g2,g3⟩:=qdJ hc hp hcl hop s (s.base hB0) hv
   unfold Oper.wp
   rcases hr with hr|⟨hr,rfl⟩
   ·rw [hr];exact hn _ _ _ g1 g2 g3
   ·rw [hr];exact hn _ _ _ g1 g2 g3
 | true =>
   obtain⟨g,vs,args,h1,h2,h3⟩:=qd7 (w:=w) hc hcl hop hcall hv
   have hcc:=(hcall g vs h v h' h1).2 E w args s h2
   unfold Oper.wp
   rw [h3]
   refine Calls.mono hcc fun e w' he => ?_
   obtain⟨c,E',rfl,g1,g2,g3⟩:=he
   exact hn _ _ _ g1 g2 g3
end
section
variable {call:qaM}{lo:Nat}{cc:List COper}{ck:Nat->Nat}{f0:Fr}{h0:qab}
structure Inv (B0:Nat)(w0:World)(LB:List Nat)(nt:Nat)(Ef:Emb)(wf:World)(D:List Deferred)(T:Tr call lo cc ck f0 h0)(S:Nat->Bool)
  (E:Emb) (bx:Nat->Nat) (b:Nat) (a:Act) (w:World):Prop where
 bn:b<=cc.length
 last:b=0\/∃c,cc[b-1]? = some c/\S (b-1)=true/\T.W (b-1)=true/\qaQ c.io=true
 y6:∀q c,b<=q->cc[q]? = some c->S q=true->T.W q=true->qaQ c.io=false
 yV:Sim B0 w0 (res E (T.L b)) (T.H b) w
 pend:∀p c,b<=p->cc[p]? = some c->S p=true->T.W p=true->qbl c.io=true->
  ∃x k,T.H (p+1)=T.H p ++ [k]/\k≠.dead/\E (T.L p)=some (some x)/\BR B0 (res E (T.L (p+1))) w x k
 only:∀i,T.L b<=i->E i≠none->∃p c,b<=p/\cc[p]? = some c/\S p=true/\T.W p=true/\qbl c.io=true/\i=T.L p
 fresh:∀i j x y,T.L b<=i->i≠j->E i=some (some x)->E j=some (some y)->x.b≠y.b
 slot:∀t v n,LB.contains t=false->T.now S t cc.length=some (v,n)->VR (res E n) v (a.tmps.getD t undef)
 box:∀t v n,LB.contains t=true->T.now S t cc.length=some (v,n)->v≠qag->Boxed B0 (res E n) w v (a.tmps.getD t undef) (bx t)/\wf.heap.size<=bx t/\∀j y,E j=some (some y)->y.b≠bx t
 sep:∀t t' r r',LB.contains t=true->LB.contains t'=true->t≠t'->T.now S t cc.length=some r->T.now S t' cc.length=some r'->r.1≠qag->r'.1≠qag->bx t≠bx t'
 der:∀p c sl d off s,cc[p]? = some c->S p=true->T.W p=true->c.io = .yd sl d off->c.o.dst=some s->(∀q c',cc[q]? = some c'->c'.o.dst=some s->q=p)->
  a.tmps.getD s undef = .pointer (some ⟨bx d,off,none⟩)
 later:Later Ef wf E w
 tmps:a.tmps.size=nt
 defers:a.defers=D
def qd9 (S:Nat->Bool)(p:Nat):Nat->Bool:=fun q=>S q||q==p
def qea {S:Nat->Bool}{p:Nat} : qd9 S p p=true:=by simp [qd9]
def qeb {S:Nat->Bool}{p q:Nat}(h:q≠p):qd9 S p q=S q:=by simp [qd9,h]
structure Rdy (cc:List COper)(ck:Nat->Nat)(S:Nat->Bool)(p:Nat)(c:COper):Prop where
 before:∀q c',q<p->cc[q]? = some c'->clash c' c=true->S q=true
 after:∀q c',p<q->cc[q]? = some c'->clash c c'=true->S q=false
 eff:qaQ c.io=true->∀q c',q<p->cc[q]? = some c'->(qaQ c'.io||qbl c'.io||qbm c'.io)=true->S q=true
 y6:(qaQ c.io||qbl c.io||qbm c.io)=true->∀q c',p<q->cc[q]? = some c'->qaQ c'.io=true->S q=false
 wam:qbm c.io=true->((List.range p).filter fun q => !S q&&(cc[q]?).any fun c'=>qaQ c'.io).length<=ck p
structure Wf (P:Program)(LB:List Nat)(nt:Nat)(ops:List Oper)(cc:List COper):Prop where
 op:∀(p:Nat) (c:COper),cc[p]? = some c->cOp P LB ops c.o=some c.io/\(∀d,c.o.dst=some d->d<nt)/\(∀d,c.o.dst=some d->(LB.contains d=true↔∃x,c.io = .yi x))/\
  (∀t w,c.guard=some (t,w)->LB.contains t=false)/\(∀s b off n,c.io = .yc s b off n->LB.contains b=true)/\(∀s b off n x,c.io = .yu s b off n x->LB.contains b=true/\c.o.dst=none)/\
  (∀s b off,c.io = .yd s b off->LB.contains b=true)
 gd:∀(p:Nat) (c:COper),cc[p]? = some c->qbq ops c.o=some c.guard
 loc:∀(p:Nat) (c:COper) (s b:Nat),cc[p]? = some c->(∃off n,c.io = .yc (some s) b off n)\/(∃off n x,c.io = .yu (some s) b off n x)\/(∃off,c.io = .yd (some s) b off)->
  ∃(r:Nat) (cr:COper) (sl:Option Nat) (off:Nat),r<p/\cc[r]? = some cr/\cr.io = .yd sl b off/\cr.o.dst=some s/\(∀q c',cc[q]? = some c'->c'.o.dst=some s->q=r)/\la P LB ops 4 s=some (b,off)
 lbx:∀(p q:Nat) (c c':COper) (s:Option Nat) (b:Nat) (x:Operand),cc[p]? = some c->cc[q]? = some c'->c'.io = .yi x->c'.o.dst=some b->
  ((∃off n,c.io = .yc s b off n)\/(∃off n x,c.io = .yu s b off n x)\/(∃off,c.io = .yd s b off))->q<p/\clash c' c=true
def qec {c c':COper}{t:Nat}(h1:c.dst=some t)(h2:t∈c'.reads\/c'.dst=some t):clash c c'=true:=by
 simp only [clash,Bool.or_eq_true]
 left
 simp only [qbp,COper.writes,h1,Option.toList_some,List.any_cons,List.any_nil,Bool.or_false,List.contains_iff_mem]
 rcases h2 with h2|h2
 ·exact List.mem_append_left _ h2
 ·exact List.mem_append_right _ (by simp [COper.writes,h2])
def qed {c c':COper}{t:Nat}(h1:t∈c.reads)(h2:c'.dst=some t):clash c c'=true:=by
 simp only [clash,Bool.or_eq_true]
 right
 simp only [qbp,List.any_eq_true,List.contains_iff_mem]
 exact⟨t,h1,by simp [COper.writes,h2]⟩
def qee {p:Nat}{t:Nat}(h:qd2 cc p=some t):∃c,cc[p]? = some c/\c.dst=some t:=by
 unfold qd2 at h
 cases hc:cc[p]? with
 | none=>rw [hc]at h;cases h
 | some c=>rw [hc]at h;exact⟨c,rfl,h⟩
def qef {p:Nat}{c:COper}(h:cc[p]? = some c):qd2 cc p=c.dst:=by simp [qd2,h]
def Rdy.read {S:Nat->Bool}{p:Nat}{c:COper}(r:Rdy cc ck S p c)(T:Tr call lo cc ck f0 h0)(hm:qdP call)(hc:cc[p]? = some c)(hS:S p=false){t:Nat}(ht:t∈c.reads)
  {v:Value} (hv:qaa (T.F p) t=some v):∃n,n<=T.L p/\T.now S t cc.length=some (v,n):=by
 have hp:p<cc.length:=(zzS.1 hc).1
 refine T.read hm (Nat.le_of_lt hp) (fun q hq hd => ?_) (fun q hq hq' hd => ?_) hv
 ·obtain⟨c',hc',hd'⟩:=qee hd
  exact r.before q c' hq hc' (qec hd' (.inl ht))
 ·obtain⟨c',hc',hd'⟩:=qee hd
  by_cases hqp:q=p
  ·subst hqp;exact hS
  ·exact r.after q c' (by omega) hc' (qed ht hd')
def Rdy.now {S:Nat->Bool}{p:Nat}{c:COper}(r:Rdy cc ck S p c)(T:Tr call lo cc ck f0 h0)(hc:cc[p]? = some c)(hS:S p=false)(t:Nat) :
  T.now (qd9 S p) t cc.length=if c.dst=some t then some (T.V p,T.L (p+1))else T.now S t cc.length:=by
 have hp:p<cc.length:=(zzS.1 hc).1
 by_cases hd:c.dst=some t
 ·rw [if_pos hd,T.yU (S:=qd9 S p) (t:=t) (k:=p+1) cc.length (by omega) (fun q hq hq' hdq=>by
   obtain⟨c',hc',hd'⟩:=qee hdq
   rw [qeb (by omega)]
   exact r.after q c' (by omega) hc' (qec hd (.inr hd')))]
  simp [Tr.now,qea,qef hc,hd]
 ·rw [if_neg hd]
  exact T.yR _ fun q hq hdq=>qeb (fun e=>by subst e;rw [qef hc]at hdq;exact hd hdq)
def qeg {c:COper}{t:Nat}(h:Operand.tmp t∈c.o.op.operands.toList):t∈c.reads:=by
 simp only [COper.reads]
 refine List.mem_append_left _ (List.mem_append_left _ ?_)
 exact List.mem_flatMap.2 ⟨_,h,by simp [qbn]⟩
def qeh {c:COper}{t:Nat}{w:Bool}(h:c.guard=some (t,w)):t∈c.reads:=by
 simp only [COper.reads,h]
 exact List.mem_append_right _ (by simp)
def qei {c:COper}{t:Nat}(h:t∈qbo c.io):t∈c.reads:=by
 simp only [COper.reads]
 exact List.mem_append_left _ (List.mem_append_right _ h)
variable {P:Program}{B0:Nat}{w0:World}{LB:List Nat}{nt:Nat}{Ef:Emb}{wf:World}{D:List Deferred}{T:Tr call lo cc ck f0 h0}{S:Nat->Bool}{E:Emb}{bx:Nat->Nat}{b:Nat}{a:Act}{w:World}
def Inv.opOk (inv:Inv B0 w0 LB nt Ef wf D T S E bx b a w)(hm:qdP call){p:Nat}{c:COper}(hc:cc[p]? = some c)(hS:S p=false)(r:Rdy cc ck S p c) :
  qbQ LB (res E (T.L p)) (T.F p) a c.o:=by
 intro x hx hok u hu
 refine qbR hok (fun t ht hl u' hu' => ?_) hu
 subst ht
 obtain⟨n,hn,hnow⟩:=r.read T hm hc hS (qeg hx) hu'
 exact(inv.slot t u' n hl hnow).mono (qdW hn)
def Inv.waG (inv:Inv B0 w0 LB nt Ef wf D T S E bx b a w){p:Nat}{c:COper}(hc:cc[p]? = some c)(hS:S p=false)(r:Rdy cc ck S p c)
  (hk:(qaQ c.io||qbl c.io||qbm c.io)=true):b<=p:=by
 rcases inv.last with h|⟨c',hc',hs,_,he⟩
 ·omega
 ·rcases Nat.lt_or_ge p b with h|h
  ·by_cases hb:b-1=p
   ·rw [hb]at hs;rw [hS]at hs;cases hs
   ·have:=r.y6 hk (b-1) c' (by omega) hc' he
    rw [this]at hs;cases hs
  ·exact h
end
def qej {a:Act}{d:Option Nat}{v:Value}{t:Nat}(h:∀e,d=some e->e<a.tmps.size):(a.put d v).tmps.getD t undef=if d=some t then v else a.tmps.getD t undef:=by
 cases d with
 | none=>simp [Act.put]
 | some d =>
   have:=h d rfl
   by_cases hd:d=t
   ·subst hd
    simp [Act.put,Array.getD_eq_getD_getElem?,this]
   ·have hne:¬(some d=some t):=fun e=>hd (by injection e)
    simp [Act.put,Array.getD_eq_getD_getElem?,hne,Array.getElem?_setIfInBounds_ne hd]
def qek {a:Act}{d:Option Nat}{v:Value} : (a.put d v).tmps.size=a.tmps.size:=by cases d<;>simp [Act.put]
def qel {a:Act}{d:Option Nat}{v:Value} : (a.put d v).defers=a.defers:=by cases d<;>rfl
section
variable {call:qaM}{lo:Nat}{cc:List COper}{ck:Nat->Nat}{f0:Fr}{h0:qab}
variable {P:Program}{B0:Nat}{w0:World}{LB:List Nat}{nt:Nat}{ops:List Oper}{Ef:Emb}{wf:World}{D:List Deferred}{T:Tr call lo cc ck f0 h0}{S:Nat->Bool}{E:Emb}{bx:Nat->Nat}{b:Nat}{a:Act}{w:World}
def Sim.lt (s:Sim B0 w0 E h0 w){j:Nat}{y:Ent}(hy:E j=some (some y)):y.b<w.heap.size:=by
 rcases s.ent hy with⟨x',k',he,hj,hd,hb⟩|⟨he,_⟩
 ·injection he with he;subst he;exact hb.lt hd
 ·cases he
def Inv.lt (inv:Inv B0 w0 LB nt Ef wf D T S E bx b a w){j:Nat}{y:Ent}(hy:E j=some (some y)):y.b<w.heap.size:=by
 rcases Nat.lt_or_ge j (T.L b)with h|h
 ·exact inv.yV.lt (by rw [qdT h];exact hy)
 ·obtain⟨p,c,h1,h2,h3,h4,h5,h6⟩:=inv.only j h (by rw [hy];simp)
  obtain⟨x,k,g1,g2,g3,g4⟩:=inv.pend p c h1 h2 h3 h4 h5
  rw [<-h6,hy]at g3
  injection g3 with g3
  injection g3 with g3
  subst g3
  exact g4.lt g2
def Inv.free (inv:Inv B0 w0 LB nt Ef wf D T S E bx b a w)(hm:qdP call){p:Nat}(hp:p<cc.length)(hS:S p=false)(hb:b<=p){i:Nat}(h1:T.L p<=i)(h2:i<T.L (p+1)\/(i=T.L p/\T.L p<T.L (p+1))):E i=none:=by
 have h2':i<T.L (p+1):=by rcases h2 with h|⟨h,h'⟩<;>omega
 cases hE:E i with
 | none=>rfl
 | some e =>
   obtain⟨q,c,g1,g2,g3,g4,g5,g6⟩:=inv.only i (Nat.le_trans (T.yD hm hb (by omega)) h1) (by rw [hE];simp)
   obtain⟨x,k,k1,k2,k3,k4⟩:=inv.pend q c g1 g2 g3 g4 g5
   have hql:q<cc.length:=(zzS.1 g2).1
   have hq1:T.L (q+1)=T.L q+1:=by simp [Tr.L,k1]
   rcases Nat.lt_trichotomy q p with h|h|h
   ·have:=T.yD hm (show q+1<=p by omega) (by omega)
    omega
   ·subst h;rw [hS]at g3;cases g3
   ·have:=T.yD hm (show p+1<=q by omega) (by omega)
    omega
def Inv.at (inv:Inv B0 w0 LB nt Ef wf D T S E bx b a w)(hm:qdP call){p:Nat}(hp:p<=cc.length)(hb:b<=p)
  (hall:∀q c',b<=q->q<p->cc[q]? = some c'->(qaQ c'.io||qbl c'.io)=true->S q=true) (hsame:∀q c',b<=q->q<p->cc[q]? = some c'->qaQ c'.io=false->qbl c'.io=false->T.H (q+1)=T.H q) :
  Sim B0 w0 (res E (T.L p)) (T.H p) w:=by
 induction p with
 | zero =>
   have:b=0:=by omega
   subst this
   exact inv.yV
 | succ p ih =>
   by_cases hbp:b=p+1
   ·subst hbp;exact inv.yV
   ·have hplt:p<cc.length:=by omega
    have hc:cc[p]? = some cc[p]:=zzG hplt
    have s:=ih (by omega) (by omega) (fun q c' h1 h2=>hall q c' h1 (by omega)) (fun q c' h1 h2=>hsame q c' h1 (by omega))
    obtain⟨t1,t2,t3,t4⟩:=T.step p cc[p] hc
    cases hW:T.W p with
    | false =>
      have:=(t4 hW).2.1
      have hL:T.L (p+1)=T.L p:=by simp [Tr.L,this]
      rw [hL,this]
      exact s
    | true =>
      cases he:qaQ (cc[p]).io with
      | true =>
        have hs:=hall p cc[p] (by omega) (by omega) hc (by simp [he])
        have:=inv.y6 p cc[p] (by omega) hc hs hW
        rw [he]at this;cases this
      | false =>
        cases hal:qbl (cc[p]).io with
        | false =>
          have:=hsame p cc[p] (by omega) (by omega) hc he hal
          have hL:T.L (p+1)=T.L p:=by simp [Tr.L,this]
          rw [hL,this]
          exact s
        | true =>
          have hs:=hall p cc[p] (by omega) (by omega) hc (by simp [hal])
          obtain⟨x,k,k1,k2,k3,k4⟩:=inv.pend p cc[p] (by omega) hc hs hW hal
          have hL:T.L (p+1)=T.L p+1:=by simp [Tr.L,k1]
          have hput:res E (T.L (p+1))=(res E (T.L p)).put (T.H p).length (some x):=by
           funext i
           have hlen:(T.H p).length=T.L p:=rfl
           rw [hL,hlen]
           by_cases hi:i=T.L p
           ·subst hi
            rw [Emb.yh,qdT (by omega),k3]
           ·rw [Emb.yb hi]
            by_cases hi2:i<T.L p
            ·rw [qdT (by omega),qdT hi2]
            ·rw [qdU (by omega),qdU (by omega)]
          rw [k1,hput]
          have hLb:T.L b<=T.L p:=T.yD hm (by omega) (by omega)
          -- the block was made already: it is taken in
          refine⟨s.below,fun j hj => ?_,fun j hj => ?_,fun j k' hj hk' => ?_,fun j j' y y' hne hy hy' he' => ?_⟩
          ·simp at hj
           rw [Emb.yb (by omega)]
           exact s.out j (by omega)
          ·rw [List.getElem?_append]at hj
           split at hj
           ·rename_i hjl;rw [Emb.yb (by omega)];exact s.dead j hj
           ·rename_i hjl
            rcases Nat.eq_zero_or_pos (j-(T.H p).length)with h0|h0
            ·simp [h0]at hj;exact absurd hj k2
            ·rw [zzE (by simp;omega)]at hj;cases hj
          ·rw [List.getElem?_append]at hj
           split at hj
           ·rename_i hjl
            rw [Emb.yb (by omega)]
            obtain⟨y,hy,hbr⟩:=s.live j k' hj hk'
            refine⟨y,hy,hbr.mono (Emb.yX (s.out _ (zzR _)))⟩
           ·rename_i hjl
            rcases Nat.eq_zero_or_pos (j-(T.H p).length)with h0|h0
            ·have hje:j=(T.H p).length:=by omega
             simp [h0]at hj
             subst hj hje
             exact⟨x,Emb.yh,by rw [<-hput];exact k4⟩
            ·rw [zzE (by simp;omega)]at hj;cases hj
          ·have fr:∀j y,(res E (T.L p)) j=some (some y)->x.b≠y.b:=fun j y hy=>by
            obtain⟨g1,g2⟩:=qdV hy
            exact inv.fresh (T.L p) j x y hLb (by omega) k3 g2
           by_cases h1:j=(T.H p).length
           ·subst h1
            rw [Emb.yh]at hy
            rw [Emb.yb (fun e=>hne e.symm)]at hy'
            injection hy with hy;injection hy with hy;subst hy
            exact absurd he' (fr j' y' hy')
           ·by_cases h2:j'=(T.H p).length
            ·subst h2
             rw [Emb.yh]at hy'
             rw [Emb.yb h1]at hy
             injection hy' with hy';injection hy' with hy';subst hy'
             exact absurd he'.symm (fr j y hy)
            ·rw [Emb.yb h1]at hy
             rw [Emb.yb h2]at hy'
             have:=s.inj j j' y y' hne hy hy' he'
             have l1:j<(T.H p).length:=(qdV hy).1
             have l2:j'<(T.H p).length:=(qdV hy').1
             rw [zzA l1,zzA l2]
             exact this
end
def qem {u v:Value}(h:qaO u v=true):u=v:=by
 have ha:∀{a b:Option Addr},qaN a b=true->a=b:=by
  intro a b h
  cases a with
  | none=>cases b with
    | none=>rfl
    | some b=>simp [qaN]at h
  | some a=>cases b with
    | none=>simp [qaN]at h
    | some b =>
      obtain⟨a1,a2,a3⟩:=a
      obtain⟨b1,b2,b3⟩:=b
      simp only [qaN,Bool.and_eq_true,beq_iff_eq]at h
      obtain⟨⟨h1,h2⟩,h3⟩:=h
      subst h1 h2 h3
      rfl
 unfold qaO at h
 split at h
 ·simp at h;subst h;rfl
 ·simp only [Bool.and_eq_true,beq_iff_eq,decide_eq_true_eq]at h;obtain⟨rfl,rfl⟩:=h;rfl
 ·rw [ha h]
 ·simp only [Bool.and_eq_true,beq_iff_eq]at h;obtain⟨⟨h1,rfl⟩,rfl⟩:=h;rw [ha h1]
 ·simp at h;subst h;rfl
 ·rfl
 ·simp only [Bool.and_eq_true,beq_iff_eq]at h;obtain⟨rfl,h1⟩:=h;rw [ha h1]
 ·cases h
def qen:∀{xs ys:List Value},yO xs ys=true->xs=ys
 | [],[],_=>rfl
 | [],_::_,h=>by simp [yO]at h
 | _::_,[],h=>by simp [yO]at h
 | x::xs,y::ys,h=>by
   simp only [yO,Bool.and_eq_true]at h
   rw [qem h.1,qen h.2]
def qeo {u v:Value}(h:qaP u v=true):u=v:=by
 unfold qaP at h
 split at h
 ·rename_i xs ys
  have:=qen h
  rw [Array.toList_inj.1 this]
 ·rename_i xs ys
  have:=qen h
  rw [Array.toList_inj.1 this]
 ·exact qem h
section
variable {call:qaM}{lo:Nat}
def qep {o:IOp}{f:Fr}{v:Value} : ∀{hs:List qab} {h:qab},yj call lo o f v hs=true->h∈hs->∃h',yf call lo o f h=some (v,h')
 | g::hs,h,ha,hm=>by
   unfold yj at ha
   cases hi:yf call lo o f g with
   | none=>rw [hi]at ha;cases ha
   | some r =>
     obtain⟨u,g'⟩:=r
     rw [hi]at ha
     simp only [Bool.and_eq_true]at ha
     rcases List.mem_cons.1 hm with rfl|hm
     ·have:=qeo ha.1;subst this;exact⟨g',hi⟩
     ·exact qep ha.2 hm
def qeq {o:IOp}{f:Fr}{h h':qab}{v:Value}(ha:qbl o=true)(hv:yf call lo o f h=some (v,h')):∃k,h'=h ++ [k]:=by
 cases o<;>simp [qbl]at ha<;>simp only [yf]at hv
 case box x =>
  split at hv<;>try (cases hv;done)
  obtain⟨_,hv⟩:=qc0 hv
  injection hv with _ e;exact⟨_,e.symm⟩
 case buildSlice esz len zero parts =>
  split at hv<;>try (cases hv;done)
  split at hv<;>try (cases hv;done)
  obtain⟨_,hv⟩:=qc0 hv
  injection hv with _ e;exact⟨_,e.symm⟩
 case yA esz bytes zero n c =>
  split at hv<;>try (cases hv;done)
  obtain⟨_,hv⟩:=qc0 hv
  injection hv with _ e;exact⟨_,e.symm⟩
 case yK =>
  injection hv with e;injection e with _ e;exact⟨_,e.symm⟩
def qer {o:IOp}{f:Fr}{h h':qab}{v:Value}(he:qaQ o=false)(ha:qbl o=false)(hv:yf call lo o f h=some (v,h')):h'=h:=by
 have fin:∀{u:Value} {k:qab},(some (u,k):Option (Value×qab))=some (v,h')->k=h->h'=h:=fun e l=>by
  injection e with e;injection e with _ e;rw [<-e,l]
 cases o<;>simp [qbl]at ha<;>simp [qaQ]at he<;>simp only [yf]at hv
 case lookup z ok m k =>
  split at hv<;>try (cases hv;done)
  obtain⟨_,hv⟩:=qc1 hv
  split at hv<;>try (cases hv;done)
  split at hv<;>try (cases hv;done)
  ·exact fin hv rfl
  ·exact fin hv rfl
 case ye nm tab x =>
  split at hv<;>try (cases hv;done)
  obtain⟨_,hv⟩:=qc1 hv
  split at hv<;>try (cases hv;done)
  split at hv<;>try (cases hv;done)
  exact fin hv rfl
 case yn len esz x i =>
  split at hv<;>try (cases hv;done)
  split at hv<;>try (cases hv;done)
  ·obtain⟨_,hv⟩:=qc0 hv
   injection hv with _ e;exact e.symm
  ·obtain⟨_,hv⟩:=qc0 hv
   injection hv with _ e;exact e.symm
 case index len esz n x i =>
  split at hv<;>try (cases hv;done)
  obtain⟨_,hv⟩:=qc1 hv
  split at hv<;>try (cases hv;done)
  exact fin hv rfl
 case yN x i =>
  split at hv<;>try (cases hv;done)
  obtain⟨_,hv⟩:=qc1 hv
  split at hv<;>try (cases hv;done)
  exact fin hv rfl
 case len str x =>
  split at hv<;>try (cases hv;done)
  ·split at hv<;>try (cases hv;done)
   exact fin hv rfl
  ·split at hv<;>try (cases hv;done)
   exact fin hv rfl
 case yu s b off n x =>
  obtain⟨_,hv⟩:=qc1 hv
  split at hv<;>try (cases hv;done)
  obtain⟨_,hv⟩:=qc1 hv
  obtain⟨_,hv⟩:=qc0 hv
  injection hv with _ e;exact e.symm
 case yd s b off =>
  obtain⟨_,hv⟩:=qc1 hv
  split at hv<;>try (cases hv;done)
  exact fin hv rfl
 case yc s b off n =>
  obtain⟨_,hv⟩:=qc1 hv
  split at hv<;>try (cases hv;done)
  split at hv<;>try (cases hv;done)
  exact fin hv rfl
 case wac x y =>
  split at hv<;>try (cases hv;done)
  obtain⟨_,hv⟩:=qc0 hv
  injection hv with _ e;exact e.symm
 case yE m =>
  split at hv<;>try (cases hv;done)
  split at hv<;>try (cases hv;done)
  exact fin hv rfl
 all_goals
  first
   | (split at hv<;>first|(cases hv;done)|(exact fin hv rfl)|(split at hv<;>first|(cases hv;done)|(exact fin hv rfl)))
end
section
variable {call:qaM}{lo:Nat}{cc:List COper}{ck:Nat->Nat}{f0:Fr}{h0:qab}
variable {P:Program}{B0:Nat}{w0:World}{LB:List Nat}{nt:Nat}{ops:List Oper}{Ef:Emb}{wf:World}{D:List Deferred}{T:Tr call lo cc ck f0 h0}{S:Nat->Bool}{E:Emb}{bx:Nat->Nat}{b:Nat}{a:Act}{w:World}
def Tr.same (T:Tr call lo cc ck f0 h0){q:Nat}{c:COper}(hc:cc[q]? = some c)(h:T.W q=true->qaQ c.io=false/\qbl c.io=false):T.H (q+1)=T.H q:=by
 obtain⟨t1,t2,t3,t4⟩:=T.step q c hc
 cases hW:T.W q with
 | true=>exact qer (h hW).1 (h hW).2 (t3 hW).1
 | false=>exact(t4 hW).2.1
def Tr.yO (T:Tr call lo cc ck f0 h0){q:Nat}{c:COper}(hc:cc[q]? = some c)(h:T.W q=true->qaQ c.io=false/\qbl c.io=false):T.L (q+1)=T.L q:=by
 simp [Tr.L,T.same hc h]
def qes {xs:Array Value}{t:Nat}{v:Value}(h:xs.getD t undef=v)(hv:v≠undef):xs[t]? = some v:=by
 rw [Array.getD_eq_getD_getElem?]at h
 cases hx:xs[t]? with
 | none=>rw [hx]at h;exact absurd h.symm hv
 | some u=>rw [hx]at h;simp at h;rw [h]
def Inv.wanted (inv:Inv B0 w0 LB nt Ef wf D T S E bx b a w)(hm:qdP call)(wf':Wf P LB nt ops cc){p:Nat}{c:COper}(hc:cc[p]? = some c)(hS:S p=false)(r:Rdy cc ck S p c)
  {opsA:Array Oper} (hA:opsA.toList=ops):Region.wanted c.o (yielded opsA a.tmps)=T.W p:=by
 obtain⟨t1,t2,t3,t4⟩:=T.step p c hc
 have hg:=wf'.gd p c hc
 unfold qbq at hg
 unfold Region.wanted
 cases hgo:c.o.guard with
 | none =>
   rw [hgo]at hg
   simp only [Option.some.injEq]at hg
   rw [<-hg]at t1
   simp [want]at t1
   simp [<-t1]
 | some gw =>
   obtain⟨j,wt⟩:=gw
   rw [hgo]at hg
   simp only at hg
   split at hg<;>try (cases hg;done)
   rename_i x hx
   split at hg<;>try (cases hg;done)
   rename_i d hd
   simp only [Option.some.injEq]at hg
   have hLB:LB.contains d=false:=(wf'.op p c hc).2.2.2.1 d wt hg.symm
   have hxA:opsA[j]? = some x:=by rw [<-hx,<-hA];simp
   have hy1:∀b0,a.tmps[d]? = some (.bool b0)->yielded opsA a.tmps j=some b0:=fun b0 h=>by
    simp only [yielded,hxA,Option.bind_some,hd,h]
   have hy2 : (∀ b0, a.tmps[d]? ≠ some (.bool b0)) -> yielded opsA a.tmps j = none := fun h => by -- by the kit's match
    simp only [yielded,hxA,Option.bind_some,hd]
   rw [<-hg]at t1
   simp only [want]at t1
   split at t1<;>try (cases t1;done)
   ·rename_i b0 hb0
    injection t1 with t1
    obtain⟨n,hn,hnow⟩:=r.read T hm hc hS (qeh hg.symm) hb0
    have:=inv.slot d _ n hLB hnow
    generalize hce:a.tmps.getD d undef=cv at this
    cases this
    simp only
    rw [hy1 _ (qes hce (by simp [undef])),<-t1]
    cases b0<;>cases wt<;>rfl
   ·rename_i vs hb0
    obtain⟨hz,t1⟩:=qc0 t1
    obtain⟨n,hn,hnow⟩:=r.read T hm hc hS (qeh hg.symm) hb0
    have:=inv.slot d _ n hLB hnow
    generalize hce:a.tmps.getD d undef=cv at this
    cases this with
    | tuple _ c' h =>
      simp only
      rw [<-t1,hy2 fun b0 hb=>by rw [Array.getD_eq_getD_getElem?,hb]at hce;simp at hce]
      rfl
def Inv.put (inv:Inv B0 w0 LB nt Ef wf D T S E bx b a w)(hm:qdP call)(wf':Wf P LB nt ops cc){p:Nat}{c:COper}(hc:cc[p]? = some c)(hS:S p=false)(r:Rdy cc ck S p c)
  (hne:T.W p=true->qaQ c.io=false/\qbl c.io=false) {cv:Value}
  (hslot:∀t,c.dst=some t->LB.contains t=false->VR (res E (T.L (p+1))) (T.V p) cv) (hbox:∀t,c.dst=some t->LB.contains t=true->T.V p=qag)
  (hder:T.W p=true->∀sl d off s,c.io = .yd sl d off->c.o.dst=some s->cv = .pointer (some ⟨bx d,off,none⟩)) :
  Inv B0 w0 LB nt Ef wf D T (qd9 S p) E bx b (a.put c.o.dst cv) w:=by
 have hp:p<cc.length:=(zzS.1 hc).1
 obtain⟨o1,o2,o3,o4,o5,o6,o7⟩:=wf'.op p c hc
 have hdd:∀t,c.o.dst=some t->c.dst=some t:=fun t ht=>by
  unfold COper.dst
  split
  ·rename_i s b' off n x hio
   rw [(o6 s b' off n x hio).2]at ht;cases ht
  ·exact ht
 have hlt:∀e,c.o.dst=some e->e<a.tmps.size:=fun e he=>by rw [inv.tmps];exact o2 e he
 have hdst:∀t,c.dst=some t->LB.contains t=false->c.o.dst=some t:=fun t ht hl=>by
  unfold COper.dst at ht
  split at ht
  ·rename_i s b' off n x hio
   injection ht with ht;subst ht
   rw [(o6 _ _ _ _ _ hio).1]at hl;cases hl
  ·exact ht
 refine⟨inv.bn, ?_,fun q c' h1 h2 h3 h4 => ?_,inv.yV,fun q c' h1 h2 h3 h4 h5 => ?_,fun i hi hE => ?_,inv.fresh,fun t v n hl hnow => ?_,fun t v n hl hnow hnv => ?_,
  fun t t' r1 r2 hl hl' hne' hn hn' hv hv' => ?_,fun q c' sl d off s h1 h2 h3 h4 h5 h6 => ?_,inv.later, ?_, ?_⟩
 ·rcases inv.last with h|⟨c',h1,h2,h3⟩
  ·exact .inl h
  ·exact .inr ⟨c',h1,by simp [qd9,h2],h3⟩
 ·by_cases hq:q=p
  ·subst hq;rw [hc]at h2;injection h2 with h2;subst h2;exact(hne h4).1
  ·rw [qeb hq]at h3;exact inv.y6 q c' h1 h2 h3 h4
 ·by_cases hq:q=p
  ·subst hq;rw [hc]at h2;injection h2 with h2;subst h2;rw [(hne h4).2]at h5;cases h5
  ·rw [qeb hq]at h3;exact inv.pend q c' h1 h2 h3 h4 h5
 ·obtain⟨q,c',h1,h2,h3,h4⟩:=inv.only i hi hE
  exact⟨q,c',h1,h2,by simp [qd9,h3],h4⟩
 ·rw [r.now T hc hS]at hnow
  rw [qej hlt]
  by_cases hd:c.dst=some t
  ·rw [if_pos hd]at hnow
   rw [if_pos (hdst t hd hl)]
   injection hnow with hnow;injection hnow with e1 e2;subst e1 e2
   exact hslot t hd hl
  ·rw [if_neg hd]at hnow
   rw [if_neg (fun e=>hd (hdd t e))]
   exact inv.slot t v n hl hnow
 ·rw [r.now T hc hS]at hnow
  by_cases hd:c.dst=some t
  ·rw [if_pos hd]at hnow
   injection hnow with hnow;injection hnow with e1 e2;subst e1 e2
   exact absurd (hbox t hd hl) hnv
  ·rw [if_neg hd]at hnow
   rw [qej hlt,if_neg (fun e=>hd (hdd t e))]
   exact inv.box t v n hl hnow hnv
 ·rw [r.now T hc hS]at hn hn'
  by_cases hd:c.dst=some t
  ·rw [if_pos hd]at hn
   injection hn with hn;subst hn
   exact absurd (hbox t hd hl) hv
  ·by_cases hd':c.dst=some t'
   ·rw [if_pos hd']at hn'
    injection hn' with hn';subst hn'
    exact absurd (hbox t' hd' hl') hv'
   ·rw [if_neg hd]at hn
    rw [if_neg hd']at hn'
    exact inv.sep t t' r1 r2 hl hl' hne' hn hn' hv hv'
 ·by_cases hq:q=p
  ·subst hq;rw [hc]at h1;injection h1 with h1;subst h1
   rw [qej hlt,if_pos h5]
   exact hder h3 sl d off s h4 h5
  ·rw [qeb hq]at h2
   have:¬c.o.dst=some s:=fun e=>hq (h6 p c hc e).symm
   rw [qej hlt,if_neg this]
   exact inv.der q c' sl d off s h1 h2 h3 h4 h5 h6
 ·rw [qek];exact inv.tmps
 ·rw [qel];exact inv.defers
end
section
variable {call:qaM}{lo:Nat}{cc:List COper}{ck:Nat->Nat}{f0:Fr}{h0:qab}
variable {P:Program}{B0:Nat}{w0:World}{LB:List Nat}{nt:Nat}{ops:List Oper}{Ef:Emb}{wf:World}{D:List Deferred}{T:Tr call lo cc ck f0 h0}{S:Nat->Bool}{E:Emb}{bx:Nat->Nat}{b:Nat}{a:Act}{w:World}
def Inv.has (inv:Inv B0 w0 LB nt Ef wf D T S E bx b a w)(hm:qdP call):∀{q0:Nat},b<=q0->q0<=cc.length->
  (∀q c,b<=q->q<q0->cc[q]? = some c->T.W q=true->qaQ c.io=false)->Has B0 (res E (T.L q0)) (T.H q0) w:=by
 intro q0
 induction q0 with
 | zero =>
   intro hb _ _
   have:b=0:=by omega
   subst this
   exact inv.yV.has
 | succ q ih =>
   intro hb hq hno
   by_cases hbq:b=q+1
   ·subst hbq;exact inv.yV.has
   ·have hql:q<cc.length:=by omega
    have hc:cc[q]? = some cc[q]:=zzG hql
    have h0:=ih (by omega) (by omega) fun q' c' h1 h2=>hno q' c' h1 (by omega)
    by_cases hal:T.W q=true/\qbl (cc[q]).io=true
    ·obtain⟨hW,hal⟩:=hal
     obtain⟨k,hk⟩:=qeq hal ((T.step q _ hc).2.2.1 hW).1
     have hL:T.L (q+1)=T.L q+1:=by simp [Tr.L,hk]
     intro i e k' he hk'
     obtain⟨hi,hE⟩:=qdV he
     by_cases hiq:i<T.L q
     ·rw [hk,zzA hiq]at hk'
      rcases h0 i e k' (by rw [qdT hiq];exact hE) hk' with⟨x,h1,h2,h3⟩|h
      ·exact .inl ⟨x,h1,h2,h3.mono (qdW (by omega))⟩
      ·exact .inr h
     ·have hiq:i=T.L q:=by omega
      subst hiq
      have hlen:T.L q=(T.H q).length:=rfl
      rw [hk,hlen,zzB (zzR _)]at hk'
      simp at hk'
      subst hk'
      cases hSq:T.W q&&S q with
      | true =>
        simp only [Bool.and_eq_true]at hSq
        obtain⟨x,k2,g1,g2,g3,g4⟩:=inv.pend q _ (by omega) hc hSq.2 hW hal
        have:k2=k:=by
         rw [hk]at g1
         simpa using g1.symm
        subst this
        rw [g3]at hE
        injection hE with hE
        exact .inl ⟨x,hE.symm,g2,g4⟩
      | false =>
        have hSq:S q=false:=by simpa [hW]using hSq
        have:=inv.free hm hql hSq (by omega) (i:=T.L q) (zzR _) (.inl (by omega))
        rw [this]at hE;cases hE
    ·have hne:T.W q=true->qaQ (cc[q]).io=false/\qbl (cc[q]).io=false:=fun hW =>
      ⟨hno q _ (by omega) (by omega) hc hW,by
        cases h:qbl (cc[q]).io with
        | false=>rfl
        | true=>exact absurd ⟨hW,h⟩ hal⟩
     rw [T.yO hc hne,T.same hc hne]
     exact h0
def qet (p:Nat)(Z:Nat->Bool)(b:Nat)(h:∃q,b<=q/\q<p/\Z q=true):∃q,b<=q/\q<p/\Z q=true/\∀q',b<=q'->q'<q->Z q'=false:=by
 obtain⟨q,h1,h2,h3⟩:=h
 induction q using Nat.strongRecOn with
 | _ q ih =>
   by_cases hx:∃q',b<=q'/\q'<q/\Z q'=true
   ·obtain⟨q',g1,g2,g3⟩:=hx
    exact ih q' g2 g1 (by omega) g3
   ·exact⟨q,h1,h2,h3,fun q' g1 g2=>by
     cases hz:Z q' with
     | false=>rfl
     | true=>exact absurd ⟨q',g1,g2,hz⟩ hx⟩
def qeu (cc:List COper)(T:Tr call lo cc ck f0 h0)(q:Nat):Bool:=T.W q&&(cc[q]?).any fun c=>qaQ c.io
def effW_iff {q:Nat} : qeu cc T q=true↔T.W q=true/\∃c,cc[q]? = some c/\qaQ c.io=true:=by
 unfold qeu
 cases h:cc[q]? with
 | none=>simp
 | some c=>simp
def Tr.waK (T:Tr call lo cc ck f0 h0):∀p,p<=cc.length->T.HS p=(((List.range p).filter (qeu cc T)).map T.H).reverse
 | 0,_=>by simp [T.hHS]
 | p+1,hp=>by
   have hc:cc[p]? = some cc[p]:=zzG (by omega)
   obtain⟨t1,t2,t3,t4⟩:=T.step p _ hc
   have ih:=T.waK p (by omega)
   rw [List.range_succ,List.filter_append,List.map_append,List.reverse_append]
   cases hW:T.W p with
   | false =>
     have:qeu cc T p=false:=by simp [qeu,hW]
     rw [(t4 hW).2.2,ih]
     simp [this]
   | true =>
     have:qeu cc T p=qaQ (cc[p]).io:=by simp [qeu,hW,hc]
     rw [(t3 hW).2.2,ih]
     simp only [List.filter_cons,List.filter_nil,this]
     split<;>simp
def qev (Z:Nat->Bool){q p:Nat}(h:q<p)(hz:Z q=true) :
  (List.range p).filter Z=(List.range q).filter Z++q::((List.range p).filter Z).drop (((List.range q).filter Z).length+1)/\
  ((List.range p).filter Z).length=((List.range q).filter Z).length+1+((List.range p).filter fun i=>Z i&&decide (q<i)).length:=by
 induction p with
 | zero=>omega
 | succ p ih =>
   rw [List.range_succ,List.filter_append,List.filter_append]
   by_cases hqp:q=p
   ·subst hqp
    have:(List.filter (fun i=>Z i&&decide (q<i)) (List.range q)) = []:=by
     rw [List.filter_eq_nil_iff]
     intro i hi
     have:=List.mem_range.1 hi
     simp;intro _;omega
    simp [hz,this]
   ·obtain⟨h1,h2⟩:=ih (by omega)
    refine⟨?_, ?_⟩
    ·rw [List.drop_append_of_le_length (by omega),<-List.cons_append,<-List.append_assoc,<-h1]
    ·rw [zzM,zzM,h2]
     have:(List.filter (fun i=>Z i&&decide (q<i)) [p])=List.filter Z [p]:=by
      have:decide (q<p)=true:=by simp;omega
      simp [List.filter_cons,this]
     rw [this];omega
def Inv.waF (inv:Inv B0 w0 LB nt Ef wf D T S E bx b a w)(hm:qdP call)(wf':Wf P LB nt ops cc){p:Nat}{c:COper}(hc:cc[p]? = some c)(hS:S p=false)(r:Rdy cc ck S p c)
  (hr:qbm c.io=true) (hW:T.W p=true):∃g g',Has B0 (res E (T.L p)) g w/\yf call lo c.io (T.F p) g=some (T.V p,g'):=by
 have hp:p<cc.length:=(zzS.1 hc).1
 obtain⟨t1,t2,t3,t4⟩:=T.step p c hc
 have hbp:=inv.waG hc hS r (by simp [hr])
 by_cases hx:∃q,b<=q/\q<p/\qeu cc T q=true
 ·obtain⟨q,h1,h2,h3,h4⟩:=qet p _ b hx
  have hno:∀q' c',b<=q'->q'<q->cc[q']? = some c'->T.W q'=true->qaQ c'.io=false:=fun q' c' g1 g2 g3 g4=>by
   have:=h4 q' g1 g2
   simpa [qeu,g4,g3]using this
  have hh:=inv.has hm h1 (by omega) hno
  -- q's heap is among those that were looked at
  have hmem:T.H q∈(T.HS p).take (ck p):=by
   rw [T.waK p (by omega)]
   obtain⟨e1,e2⟩:=qev (qeu cc T) h2 h3
   have hle:((List.range p).filter fun i=>qeu cc T i&&decide (q<i)).length+1<=ck p:=by
    refine Nat.le_trans ?_ (r.wam hr)
    have hund:∀i,q<=i->qeu cc T i=true->S i=false:=fun i hi he=>by
     obtain⟨g1,c',g2,g3⟩:=effW_iff.1 he
     cases hSi:S i with
     | false=>rfl
     | true=>have:=inv.y6 i c' (by omega) g2 hSi g1;rw [g3]at this;cases this
    have hZ:∀i,(qeu cc T i&&decide (q<=i))=true->(!S i&&(cc[i]?).any fun c'=>qaQ c'.io)=true:=fun i hi=>by
     simp only [Bool.and_eq_true,decide_eq_true_eq]at hi
     obtain⟨g1,c',g2,g3⟩:=effW_iff.1 hi.1
     simp [hund i hi.2 hi.1,g2,g3]
    have key:∀n,((List.range n).filter fun i=>qeu cc T i&&decide (q<i)).length+(if q<n then 1 else 0)<=((List.range n).filter fun i => !S i&&(cc[i]?).any fun c'=>qaQ c'.io).length:=by
     intro n
     induction n with
     | zero=>simp
     | succ n ih =>
       rw [List.range_succ,List.filter_append,List.filter_append,zzM,zzM]
       have hcase:(List.filter (fun i=>qeu cc T i&&decide (q<i)) [n]).length+(if q=n then 1 else 0)<=(List.filter (fun i => !S i&&(cc[i]?).any fun c'=>qaQ c'.io) [n]).length:=by
        by_cases hqn:q=n
        ·subst hqn
         have:=hZ q (by simp [h3])
         simp [List.filter_cons,this]
        ·cases hz:qeu cc T n&&decide (q<n)with
         | false=>simp [List.filter_cons,hz,hqn]
         | true =>
           have hz2:(qeu cc T n&&decide (q<=n))=true:=by
            simp only [Bool.and_eq_true,decide_eq_true_eq]at hz|-
            exact⟨hz.1,by omega⟩
           simp [List.filter_cons,hz,hqn,hZ n hz2]
       split at ih<;>split at hcase<;>split<;>omega
    have:=key p
    rw [if_pos h2]at this
    exact this
   rw [e1,List.map_append,List.map_cons,List.reverse_append,List.reverse_cons]
   refine List.mem_take_iff_getElem.2 ⟨((List.range p).filter fun i=>qeu cc T i&&decide (q<i)).length, ?_, ?_⟩
   ·simp only [zzM,List.length_reverse,List.length_map,List.length_drop,List.length_cons,List.length_nil]
    omega
   ·have hl:(((List.range p).filter (qeu cc T)).drop (((List.range q).filter (qeu cc T)).length+1)).length=((List.range p).filter fun i=>qeu cc T i&&decide (q<i)).length:=by
     rw [List.length_drop];omega
    rw [List.getElem_append_left (by simp only [zzM,List.length_reverse,List.length_map,hl,List.length_cons,List.length_nil];omega)]
    rw [List.getElem_append_right (by simp only [List.length_reverse,List.length_map,hl];omega)]
    simp
  obtain⟨g',hg'⟩:=qep (t3 hW).2.1 hmem
  refine⟨T.H q,g',fun i e k he hk => ?_,hg'⟩
  obtain⟨g1,g2⟩:=qdV he
  have hi:i<T.L q:=(zzS.1 hk).1
  rcases hh i e k (by rw [qdT hi];exact g2) hk with⟨x,k1,k2,k3⟩|k1
  ·exact .inl ⟨x,k1,k2,k3.mono (qdW (T.yD hm (by omega) (by omega)))⟩
  ·exact .inr k1
 ·refine⟨T.H p,T.H (p+1),inv.has hm hbp (by omega) fun q c' h1 h2 h3 h4 => ?_,(t3 hW).1⟩
  cases he:qaQ c'.io with
  | false=>rfl
  | true=>exact absurd ⟨q,h1,h2,effW_iff.2 ⟨h4,c',h3,he⟩⟩ hx
end
section
variable {call:qaM}{lo:Nat}{cc:List COper}{ck:Nat->Nat}{f0:Fr}{h0:qab}
variable {P:Program}{B0:Nat}{w0:World}{LB:List Nat}{nt:Nat}{ops:List Oper}{Ef:Emb}{wf:World}{D:List Deferred}{T:Tr call lo cc ck f0 h0}{S:Nat->Bool}{E:Emb}{bx:Nat->Nat}{b:Nat}{a:Act}{w:World}
def qew:qah≠qag:=by simp [qah,qag]
def qex {f:Fr}{s:Nat}(h:yM f (some s)=true):qaa f s=some qah:=by
 simp only [yM]at h
 split at h
 ·rename_i n hn
  have:n=0:=by simpa using h
  subst this
  exact hn
 ·cases h
def Inv.addr (inv:Inv B0 w0 LB nt Ef wf D T S E bx b a w)(hm:qdP call)(wf':Wf P LB nt ops cc){p:Nat}{c:COper}(hc:cc[p]? = some c)(hS:S p=false)(r:Rdy cc ck S p c)
  {x:Operand} {d off:Nat} (hx:x∈c.o.op.operands.toList) (hl:laX P LB ops x=some (d,off))
  (hio:(∃n,c.io = .yc (laS LB x) d off n)\/(∃n y,c.io = .yu (laS LB x) d off n y)\/(∃o2,c.io = .yd (laS LB x) d (off+o2)))
  (hk:yM (T.F p) (laS LB x)=true) {cs:Array Value} (hf:qaa (T.F p) d=some (.agg cs)) :
  ∃n,n<=T.L p/\T.now S d cc.length=some (.agg cs,n)/\LB.contains d=true/\a.eval x = .pointer (some ⟨bx d,off,none⟩):=by
 obtain⟨o1,o2,o3,o4,o5,o6,o7⟩:=wf'.op p c hc
 have hLd:LB.contains d=true:=by
  rcases hio with⟨n,h⟩|⟨n,y,h⟩|⟨o2,h⟩
  ·exact o5 _ _ _ _ h
  ·exact(o6 _ _ _ _ _ h).1
  ·exact o7 _ _ _ h
 have hres:d∈c.reads:=qei (by
  rcases hio with⟨n,h⟩|⟨n,y,h⟩|⟨o2,h⟩<;>simp [h,qbo])
 obtain⟨n,hn,hnow⟩:=r.read T hm hc hS hres hf
 refine⟨n,hn,hnow,hLd, ?_⟩
 cases x with
 | tmp t =>
   simp only [laX]at hl
   simp only [laS]at hio hk
   by_cases ht:LB.contains t=true
   ·unfold la at hl
    simp only [ht,if_true,Option.some.injEq,Prod.mk.injEq]at hl
    obtain⟨rfl,rfl⟩:=hl
    obtain⟨⟨cs',C,ty,h1,h2,h3⟩,_⟩:=inv.box t _ n ht hnow (by simp [qag])
    exact h2
   ·simp only [ht]at hio hk
    simp only [Bool.false_eq_true,if_false]at hio hk
    have hk':=qex hk
    have hloc:(∃off n,c.io = .yc (some t) d off n)\/(∃off n x,c.io = .yu (some t) d off n x)\/(∃off,c.io = .yd (some t) d off):=by
     rcases hio with⟨n,h⟩|⟨n,y,h⟩|⟨o2,h⟩
     ·exact .inl ⟨_,_,h⟩
     ·exact .inr (.inl ⟨_,_,_,h⟩)
     ·exact .inr (.inr ⟨_,h⟩)
    obtain⟨q,cr,sl,off',g1,g2,g3,g4,g5,g6⟩:=wf'.loc p c t d hc hloc
    have hoff:off'=off:=by
     rw [g6]at hl
     injection hl with hl
     injection hl
    subst hoff
    have htr:t∈c.reads:=qeg hx
    have hcrd:cr.dst=some t:=by simp [COper.dst,g3,g4]
    have hSq:S q=true:=r.before q cr g1 g2 (qec hcrd (.inl htr))
    have hql:q<cc.length:=(zzS.1 g2).1
    -- the slot holds what q told
    have honly:∀q',q'<cc.length->qd2 cc q'=some t->q'=q:=fun q' hq' hd=>by
     obtain⟨c',hc',hd'⟩:=qee hd
     refine g5 q' c' hc' ?_
     unfold COper.dst at hd'
     split at hd'
     ·rename_i s' b' off2 n2 x2 hio2
      injection hd' with hd'
      subst hd'
      have:=((wf'.op q' c' hc').2.2.2.2.2.1 _ _ _ _ _ hio2).1
      exact absurd this ht
     ·exact hd'
    obtain⟨m,hm1,hm2⟩:=r.read T hm hc hS htr hk'
    have hnowq:T.now S t cc.length=some (T.V q,T.L (q+1)):=by
     rw [T.yU (k:=q+1) cc.length (by omega) (fun q' h1 h2 hd=>by have:=honly q' h2 hd;omega)]
     simp [Tr.now,hSq,qef g2,hcrd]
    rw [hnowq]at hm2
    injection hm2 with hm2
    injection hm2 with hV _
    have hWq:T.W q=true:=by
     cases hW:T.W q with
     | true=>rfl
     | false =>
       have:=((T.step q cr g2).2.2.2 hW).1
       rw [hV]at this
       exact absurd this qew
    exact inv.der q cr sl d off' t g2 hSq hWq g3 g4 g5
 | const v=>simp [laX]at hl
 | global g=>simp [laX]at hl
 | func g=>simp [laX]at hl
def Inv.own (inv:Inv B0 w0 LB nt Ef wf D T S E bx b a w)(hm:qdP call)(wf':Wf P LB nt ops cc){p:Nat}{c:COper}(hc:cc[p]? = some c)(hS:S p=false)(r:Rdy cc ck S p c)
  (hne:T.W p=true->qaQ c.io=false/\qbl c.io=false/\∀sl d off,c.io≠.yd sl d off) {t:Nat} (ht:c.dst=some t) (hl:LB.contains t=true) {cv:Value} {w':World} {bt:Nat}
  (hbox:Boxed B0 (res E (T.L (p+1))) w' (T.V p) ((a.put c.o.dst cv).tmps.getD t undef) bt) (hwf:wf.heap.size<=bt) (hout:∀j y,E j=some (some y)->y.b≠bt)
  (hoth:∀t' r',t'≠t->LB.contains t'=true->T.now S t' cc.length=some r'->r'.1≠qag->bx t'≠bt)
  (hheap:∀b',b'≠bt->b'<w.heap.size->w'.heap[b']? = w.heap[b']?) (hsim:Sim B0 w0 (res E (T.L b)) (T.H b) w') (hlater:Later Ef wf E w')
  (hder:bt=bx t\/∀q c' sl off,cc[q]? = some c'->S q=true->c'.io = .yd sl t off->False) :
  Inv B0 w0 LB nt Ef wf D T (qd9 S p) E (fun s=>if s=t then bt else bx s) b (a.put c.o.dst cv) w':=by
 have hp:p<cc.length:=(zzS.1 hc).1
 obtain⟨o1,o2,o3,o4,o5,o6,o7⟩:=wf'.op p c hc
 have hdd:∀s,c.o.dst=some s->c.dst=some s:=fun t ht=>by
  unfold COper.dst
  split
  ·rename_i s b' off n x hio
   rw [(o6 s b' off n x hio).2]at ht;cases ht
  ·exact ht
 have hlt:∀e,c.o.dst=some e->e<a.tmps.size:=fun e he=>by rw [inv.tmps];exact o2 e he
 have hoth':∀s,s≠t->(a.put c.o.dst cv).tmps.getD s undef=a.tmps.getD s undef:=fun s hs=>by
  rw [qej hlt,if_neg]
  intro e
  have:=hdd s e
  rw [ht]at this
  injection this with this
  exact hs this.symm
 have hbn:∀q c',b<=q->cc[q]? = some c'->S q=true->T.W q=true->qbl c'.io=true->∀x,E (T.L q)=some (some x)->w'.heap[x.b]? = w.heap[x.b]? := fun q c' h1 h2 h3 h4 h5 x hx =>
  hheap _ (hout _ _ hx) (inv.lt hx)
 refine⟨inv.bn, ?_,fun q c' h1 h2 h3 h4 => ?_,hsim,fun q c' h1 h2 h3 h4 h5 => ?_,fun i hi hE => ?_,inv.fresh,fun s v n hls hnow => ?_,fun s v n hls hnow hnv => ?_,
  fun s s' r1 r2 hls hls' hne' hn hn' hv hv' => ?_,fun q c' sl d off s h1 h2 h3 h4 h5 h6 => ?_,hlater, ?_, ?_⟩
 ·rcases inv.last with h|⟨c',h1,h2,h3⟩
  ·exact .inl h
  ·exact .inr ⟨c',h1,by simp [qd9,h2],h3⟩
 ·by_cases hq:q=p
  ·subst hq;rw [hc]at h2;injection h2 with h2;subst h2;exact(hne h4).1
  ·rw [qeb hq]at h3;exact inv.y6 q c' h1 h2 h3 h4
 ·by_cases hq:q=p
  ·subst hq;rw [hc]at h2;injection h2 with h2;subst h2;rw [(hne h4).2.1]at h5;cases h5
  ·rw [qeb hq]at h3
   obtain⟨x,k,g1,g2,g3,g4⟩:=inv.pend q c' h1 h2 h3 h4 h5
   exact⟨x,k,g1,g2,g3,g4.world (hbn q c' h1 h2 h3 h4 h5 x g3)⟩
 ·obtain⟨q,c',h1,h2,h3,h4⟩:=inv.only i hi hE
  exact⟨q,c',h1,h2,by simp [qd9,h3],h4⟩
 ·have hst:s≠t:=fun e=>by subst e;rw [hl]at hls;cases hls
  rw [r.now T hc hS,if_neg (by rw [ht];intro e;injection e with e;exact hst e.symm)]at hnow
  rw [hoth' s hst]
  exact inv.slot s v n hls hnow
 ·rw [r.now T hc hS]at hnow
  by_cases hst:s=t
  ·subst hst
   rw [if_pos ht]at hnow
   injection hnow with hnow;injection hnow with e1 e2;subst e1 e2
   simp only [if_true]
   exact⟨hbox,hwf,hout⟩
  ·rw [if_neg (by rw [ht];intro e;injection e with e;exact hst e.symm)]at hnow
   rw [hoth' s hst]
   simp only [if_neg hst]
   obtain⟨g1,g2,g3⟩:=inv.box s v n hls hnow hnv
   exact⟨g1.world (hheap _ (hoth s _ hst hls hnow hnv) g1.lt),g2,g3⟩
 ·rw [r.now T hc hS]at hn hn'
  by_cases hst:s=t
  ·subst hst
   rw [if_neg (by rw [ht];intro e;injection e with e;exact hne' e)]at hn'
   simp only [if_true,if_neg (Ne.symm hne')]
   exact(hoth s' _ (Ne.symm hne') hls' hn' hv').symm
  ·rw [if_neg (by rw [ht];intro e;injection e with e;exact hst e.symm)]at hn
   by_cases hst':s'=t
   ·subst hst'
    simp only [if_true,if_neg hst]
    exact hoth s _ hst hls hn hv
   ·rw [if_neg (by rw [ht];intro e;injection e with e;exact hst' e.symm)]at hn'
    simp only [if_neg hst,if_neg hst']
    exact inv.sep s s' r1 r2 hls hls' hne' hn hn' hv hv'
 ·by_cases hq:q=p
  ·subst hq;rw [hc]at h1;injection h1 with h1;subst h1
   exact absurd h4 ((hne h3).2.2 _ _ _)
  ·rw [qeb hq]at h2
   have h7:=inv.der q c' sl d off s h1 h2 h3 h4 h5 h6
   have:¬c.o.dst=some s:=fun e=>hq (h6 p c hc e).symm
   rw [qej hlt,if_neg this,h7]
   by_cases hdt:d=t
   ·subst hdt
    simp only [if_true]
    rcases hder with e|e
    ·rw [e]
    ·exact(e q c' sl off h1 h2 h4).elim
   ·simp only [if_neg hdt]
 ·rw [qek];exact inv.tmps
 ·rw [qel];exact inv.defers
def qey (h:Later Ef wf E w){bt:Nat}{C':Array Value}(hb:wf.heap.size<=bt):Later Ef wf E (w.setRow bt C') :=
 ⟨h.le,h.new,Nat.le_trans h.size (by simp [World.setRow]),fun b' hb' hn=>by
   rw [qda (by omega)]
   exact h.kept b' hb' hn⟩
def qez (h:Later Ef wf E w)(obj:Obj):Later Ef wf E (w.alloc obj) :=
 ⟨h.le,h.new,Nat.le_trans h.size (by show w.heap.size<=(w.heap.push obj).size;simp),fun b' hb' hn=>by
   rw [Go.RowKit.Below.heap_alloc _ _ _ (Nat.lt_of_lt_of_le hb' h.size)]
   exact h.kept b' hb' hn⟩
end
def qeA (E:Emb)(w:World)(obj:Obj){i:Nat}{x:Ent}(hi:E i=none)(hx:x.b=w.heap.size):Later E w (E.put i (some x)) (w.alloc obj) :=
 ⟨Emb.yX hi,fun j y hy=>by
   by_cases hj:j=i
   ·subst hj;rw [Emb.yh]at hy;injection hy with hy;injection hy with hy;subst hy;exact .inr (by omega)
   ·rw [Emb.yb hj]at hy;exact .inl ⟨j,y,hy,rfl⟩,by show w.heap.size<=(w.heap.push obj).size;simp,fun b' hb' hn=>Go.RowKit.Below.heap_alloc _ _ _ hb'⟩
section
variable {call:qaM}{lo:Nat}{cc:List COper}{ck:Nat->Nat}{f0:Fr}{h0:qab}
variable {P:Program}{B0:Nat}{w0:World}{LB:List Nat}{nt:Nat}{ops:List Oper}{Ef:Emb}{wf:World}{D:List Deferred}{T:Tr call lo cc ck f0 h0}{S:Nat->Bool}{E:Emb}{bx:Nat->Nat}{b:Nat}{a:Act}{w:World}
def qeB {n i:Nat}{e:Option Ent}(h:E i=none):(res E n).le (res (E.put i e) n):=qdY fun j _ e' he'=>by
 by_cases hj:j=i
 ·subst hj;rw [h]at he';cases he'
 ·rw [Emb.yb hj];exact .inl he'
def Inv.made (inv:Inv B0 w0 LB nt Ef wf D T S E bx b a w)(hm:qdP call)(wf':Wf P LB nt ops cc){p:Nat}{c:COper}(hc:cc[p]? = some c)(hS:S p=false)(r:Rdy cc ck S p c)
  (hB0:B0<=w0.heap.size) (hal:qbl c.io=true) (hW:T.W p=true) {blk:Blk} {cv:Value} {obj:Obj} {x:Ent} (e1:T.H (p+1)=T.H p ++ [blk]) (e2:blk≠.dead) (e4:x.b=w.heap.size)
  (e5:∀F',(res E (T.L p)).le F'->BR B0 F' (w.alloc obj) x blk) (e6:∀F':Emb,F' (T.H p).length=some (some x)->VR F' (T.V p) cv) :
  Inv B0 w0 LB nt Ef wf D T (qd9 S p) (E.put (T.L p) (some x)) bx b (a.put c.o.dst cv) (w.alloc obj):=by
 have hp:p<cc.length:=(zzS.1 hc).1
 obtain⟨o1,o2,o3,o4,o5,o6,o7⟩:=wf'.op p c hc
 have hbp:=inv.waG hc hS r (by simp [hal])
 have hL:T.L (p+1)=T.L p+1:=by simp [Tr.L,e1]
 have hfree:E (T.L p)=none:=inv.free hm hp hS hbp (zzR _) (.inl (by omega))
 have hdst:c.dst=c.o.dst:=by
  unfold COper.dst
  split
  ·rename_i s b' off n x hio;rw [hio]at hal;cases hal
  ·rfl
 have hnl:∀t,c.dst=some t->LB.contains t=false:=fun t ht=>by
  rw [hdst]at ht
  cases h:LB.contains t with
  | false=>rfl
  | true =>
    obtain⟨y,hy⟩:=(o3 t ht).1 h
    rw [hy]at hal;cases hal
 have hlt:∀e,c.o.dst=some e->e<a.tmps.size:=fun e he=>by rw [inv.tmps];exact o2 e he
 have hLb:T.L b<=T.L p:=T.yD hm hbp (by omega)
 have hresb:res (E.put (T.L p) (some x)) (T.L b)=res E (T.L b):=by
  funext i
  by_cases hi:i<T.L b
  ·rw [qdT hi,qdT hi,Emb.yb (by omega)]
  ·rw [qdU (by omega),qdU (by omega)]
 have hld:∀{i y},E i=some (some y)->(w.alloc obj).heap[y.b]? = w.heap[y.b]? := fun hy=>Go.RowKit.Below.heap_alloc _ _ _ (inv.lt hy)
 have hin:∀j y,(E.put (T.L p) (some x)) j=some (some y)->y=x/\j=T.L p\/E j=some (some y):=fun j y hy=>by
  by_cases hj:j=T.L p
  ·subst hj;rw [Emb.yh]at hy;injection hy with hy;injection hy with hy;exact .inl ⟨hy.symm,rfl⟩
  ·rw [Emb.yb hj]at hy;exact .inr hy
 refine⟨inv.bn, ?_,fun q c' h1 h2 h3 h4 => ?_, ?_,fun q c' h1 h2 h3 h4 h5 => ?_,fun i hi hE => ?_,fun i j y z hi hij hy hz => ?_,fun t v n hl hnow => ?_,fun t v n hl hnow hnv => ?_,
  fun t t' r1 r2 hl hl' hne' hn hn' hv hv' => ?_,fun q c' sl d off s h1 h2 h3 h4 h5 h6 => ?_, ?_, ?_, ?_⟩
 ·rcases inv.last with h|⟨c',h1,h2,h3⟩
  ·exact .inl h
  ·exact .inr ⟨c',h1,by simp [qd9,h2],h3⟩
 ·by_cases hq:q=p
  ·subst hq;rw [hc]at h2;injection h2 with h2;subst h2
   cases he:qaQ c.io with
   | false=>rfl
   | true=>cases hio:c.io<;>rw [hio]at he hal<;>simp [qaQ]at he<;>simp [qbl]at hal
  ·rw [qeb hq]at h3;exact inv.y6 q c' h1 h2 h3 h4
 ·rw [hresb]
  exact inv.yV.y8 (inv.yV.base hB0) obj
 ·by_cases hq:q=p
  ·subst hq
   exact⟨x,blk,e1,e2,Emb.yh,e5 _ (fun i e hi=>by
    obtain⟨g1,g2⟩:=qdV hi
    exact .inl (by rw [qdT (by omega),Emb.yb (by omega)];exact g2))⟩
  ·rw [qeb hq]at h3
   obtain⟨y,k,g1,g2,g3,g4⟩:=inv.pend q c' h1 h2 h3 h4 h5
   refine⟨y,k,g1,g2, ?_,(g4.world (hld g3)).mono (qeB hfree)⟩
   rw [Emb.yb (fun e=>by rw [e,hfree]at g3;cases g3)]
   exact g3
 ·by_cases hil:i=T.L p
  ·exact⟨p,c,hbp,hc,qea,hW,hal,hil⟩
  ·rw [Emb.yb hil]at hE
   obtain⟨q,c',h1,h2,h3,h4⟩:=inv.only i hi hE
   exact⟨q,c',h1,h2,by simp [qd9,h3],h4⟩
 ·rcases hin i y hy with⟨y1,y2⟩|hy2
  ·rcases hin j z hz with⟨_,z2⟩|hz2
   ·exact absurd (y2.trans z2.symm) hij
   ·have:=inv.lt hz2;rw [y1];omega
  ·rcases hin j z hz with⟨z1,_⟩|hz2
   ·have:=inv.lt hy2;rw [z1];omega
   ·exact inv.fresh i j y z hi hij hy2 hz2
 ·rw [r.now T hc hS]at hnow
  rw [qej hlt]
  by_cases hd:c.dst=some t
  ·rw [if_pos hd]at hnow
   rw [<-hdst,if_pos hd]
   injection hnow with hnow;injection hnow with h1 h2;subst h1 h2
   refine e6 _ ?_
   show res _ _ (T.L p)=_
   rw [qdT (by omega),Emb.yh]
  ·rw [if_neg hd]at hnow
   rw [<-hdst,if_neg hd]
   exact(inv.slot t v n hl hnow).mono (qeB hfree)
 ·rw [r.now T hc hS]at hnow
  have hd:¬c.dst=some t:=fun h=>by rw [hnl t h]at hl;cases hl
  rw [if_neg hd]at hnow
  rw [qej hlt,<-hdst,if_neg hd]
  obtain⟨g1,g2,g3⟩:=inv.box t v n hl hnow hnv
  refine⟨(g1.world (Go.RowKit.Below.heap_alloc _ _ _ g1.lt)).mono (qeB hfree),g2,fun j y hy => ?_⟩
  rcases hin j y hy with⟨rfl,_⟩|hy
  ·have:=g1.lt;omega
  ·exact g3 j y hy
 ·rw [r.now T hc hS,if_neg (fun h=>by rw [hnl t h]at hl;cases hl)]at hn
  rw [r.now T hc hS,if_neg (fun h=>by rw [hnl t' h]at hl';cases hl')]at hn'
  exact inv.sep t t' r1 r2 hl hl' hne' hn hn' hv hv'
 ·by_cases hq:q=p
  ·subst hq;rw [hc]at h1;injection h1 with h1;subst h1
   rw [h4]at hal;cases hal
  ·rw [qeb hq]at h2
   have:¬c.o.dst=some s:=fun e=>hq (h6 p c hc e).symm
   rw [qej hlt,if_neg this]
   exact inv.der q c' sl d off s h1 h2 h3 h4 h5 h6
 ·exact inv.later.trans (qeA E w obj hfree e4)
 ·rw [qek];exact inv.tmps
 ·rw [qel];exact inv.defers
def Inv.done (inv:Inv B0 w0 LB nt Ef wf D T S E bx b a w)(hm:qdP call)(wf':Wf P LB nt ops cc){p:Nat}{c:COper}(hc:cc[p]? = some c)(hS:S p=false)(r:Rdy cc ck S p c)
  (hef:qaQ c.io=true) (hW:T.W p=true) {cv:Value} {w':World} {E1:Emb} (s:Sim B0 w0 E1 (T.H (p+1)) w') (hl:Later (res E (T.L p)) w E1 w') (hv:VR E1 (T.V p) cv) :
  ∃E',Inv B0 w0 LB nt Ef wf D T (qd9 S p) E' bx (p+1) (a.put c.o.dst cv) w':=by
 have hp:p<cc.length:=(zzS.1 hc).1
 obtain⟨o1,o2,o3,o4,o5,o6,o7⟩:=wf'.op p c hc
 have hbp:=inv.waG hc hS r (by simp [hef])
 have hdst:c.dst=c.o.dst:=by
  unfold COper.dst
  split
  ·rename_i s b' off n x hio;rw [hio]at hef;cases hef
  ·rfl
 have hnl:∀t,c.dst=some t->LB.contains t=false:=fun t ht=>by
  rw [hdst]at ht
  cases h:LB.contains t with
  | false=>rfl
  | true =>
    obtain⟨y,hy⟩:=(o3 t ht).1 h
    rw [hy]at hef;cases hef
 have hlt:∀e,c.o.dst=some e->e<a.tmps.size:=fun e he=>by rw [inv.tmps];exact o2 e he
 have hLb:T.L b<=T.L p:=T.yD hm hbp (by omega)
 have hLp:T.L p<=T.L (p+1):=T.wal hm hp
 let E':Emb:=fun i=>if i<T.L (p+1)then E1 i else E i
 have lo':∀i,i<T.L (p+1)->E' i=E1 i:=fun i hi=>by simp [E',hi]
 have hi':∀i,T.L (p+1)<=i->E' i=E i:=fun i hi=>by simp only [E'];rw [if_neg (by omega)]
 have hle:E.le E':=fun i e he=>by
  by_cases h1:i<T.L p
  ·rw [lo' i (by omega)]
   exact hl.le i e (by rw [qdT h1];exact he)
  ·by_cases h2:i<T.L (p+1)
   ·rw [inv.free hm hp hS hbp (i:=i) (by omega) (.inl h2)]at he;cases he
   ·rw [hi' i (by omega)];exact .inl he
 have hler:∀n,(res E n).le (res E' n):=fun n=>qdY fun i _ e he=>hle i e he
 have hresE:res E' (T.L (p+1))=E1:=by
  funext i
  by_cases h1:i<T.L (p+1)
  ·rw [qdT h1,lo' i h1]
  ·rw [qdU (by omega),s.out i (by simp only [Tr.L]at h1;omega)]
 -- what E' tells of: what E told of, or what is new
 have hin:∀j y,E' j=some (some y)->(∃j' y',E j'=some (some y')/\y'.b=y.b/\(j'=j\/j'<T.L p))\/w.heap.size<=y.b:=fun j y hy=>by
  by_cases h1:j<T.L (p+1)
  ·rw [lo' j h1]at hy
   rcases hl.new j y hy with⟨j',y',g1,g2⟩|g
   ·obtain⟨g3,g4⟩:=qdV g1
    exact .inl ⟨j',y',g4,g2,.inr g3⟩
   ·exact .inr g
  ·rw [hi' j (by omega)]at hy
   exact .inl ⟨j,y,hy,rfl,.inl rfl⟩
 have hkeep:∀b',b'<w.heap.size->(∀j y,E j=some (some y)->y.b≠b')->w'.heap[b']? = w.heap[b']? := fun b' hb' hn =>
  hl.kept b' hb' fun j y hy=>hn j y (qdV hy).2
 have hpk:∀i x,T.L (p+1)<=i->E i=some (some x)->w'.heap[x.b]? = w.heap[x.b]? := fun i x hi hx =>
  hl.kept _ (inv.lt hx) fun j y hy=>by
   obtain⟨g1,g2⟩:=qdV hy
   exact(inv.fresh i j x y (by omega) (by omega) hx g2).symm
 have hlater:Later E w E' w':=⟨hle,fun i x hx=>by
  rcases hin i x hx with⟨j',y',g1,g2,_⟩|g
  ·exact .inl ⟨j',y',g1,g2⟩
  ·exact .inr g,hl.size,hkeep⟩
 refine⟨E',by omega,.inr ⟨c,by simpa using hc,by simpa using qea,by simpa using hW,hef⟩,fun q c' h1 h2 h3 h4 => ?_,by rw [hresE];exact s,fun q c' h1 h2 h3 h4 h5 => ?_,fun i hi hE => ?_,
  fun i j y z hi hij hy hz => ?_,fun t v n hl' hnow => ?_,fun t v n hl' hnow hnv => ?_,fun t t' r1 r2 hl1 hl2 hne' hn hn' hv1 hv' => ?_,fun q c' sl d off s' h1 h2 h3 h4 h5 h6 => ?_,inv.later.trans hlater, ?_, ?_⟩
 ·rw [qeb (by omega)]at h3;exact inv.y6 q c' (by omega) h2 h3 h4
 ·rw [qeb (by omega)]at h3
  obtain⟨x,k,g1,g2,g3,g4⟩:=inv.pend q c' (by omega) h2 h3 h4 h5
  have hql:q<cc.length:=(zzS.1 h2).1
  have hLq:=T.yD hm h1 (Nat.le_of_lt hql)
  exact⟨x,k,g1,g2,by rw [hi' _ hLq];exact g3,(g4.world (hpk _ x hLq g3)).mono (hler _)⟩
 ·rw [hi' i hi]at hE
  obtain⟨q,c',h1,h2,h3,h4,h5,h6⟩:=inv.only i (by omega) hE
  have hql:q<cc.length:=(zzS.1 h2).1
  refine⟨q,c', ?_,h2,by simp [qd9,h3],h4,h5,h6⟩
  rcases Nat.lt_or_ge p q with h|h
  ·omega
  ·exfalso
   by_cases hqp:q=p
   ·subst hqp;rw [hS]at h3;cases h3
   ·obtain⟨x,k,g1,_⟩:=inv.pend q c' h1 h2 h3 h4 h5
    have:T.L (q+1)=T.L q+1:=by simp [Tr.L,g1]
    have:=T.yD hm (show q+1<=p by omega) (by omega)
    omega
 ·rw [hi' i hi]at hy
  rcases hin j z hz with⟨j',y',g1,g2,g3⟩|g
  ·rw [<-g2]
   refine inv.fresh i j' y y' (by omega) ?_ hy g1
   rcases g3 with g3|g3<;>omega
  ·have:=inv.lt hy;omega
 ·rw [r.now T hc hS]at hnow
  rw [qej hlt]
  by_cases hd:c.dst=some t
  ·rw [if_pos hd]at hnow
   rw [<-hdst,if_pos hd]
   injection hnow with hnow;injection hnow with e1 e2;subst e1 e2
   rw [hresE];exact hv
  ·rw [if_neg hd]at hnow
   rw [<-hdst,if_neg hd]
   exact(inv.slot t v n hl' hnow).mono (hler n)
 ·rw [r.now T hc hS]at hnow
  have hd:¬c.dst=some t:=fun h=>by rw [hnl t h]at hl';cases hl'
  rw [if_neg hd]at hnow
  rw [qej hlt,<-hdst,if_neg hd]
  obtain⟨g1,g2,g3⟩:=inv.box t v n hl' hnow hnv
  refine⟨(g1.world (hkeep _ g1.lt g3)).mono (hler n),g2,fun j y hy => ?_⟩
  rcases hin j y hy with⟨j',y',k1,k2,_⟩|k
  ·rw [<-k2];exact g3 j' y' k1
  ·have:=g1.lt;omega
 ·rw [r.now T hc hS,if_neg (fun h=>by rw [hnl t h]at hl1;cases hl1)]at hn
  rw [r.now T hc hS,if_neg (fun h=>by rw [hnl t' h]at hl2;cases hl2)]at hn'
  exact inv.sep t t' r1 r2 hl1 hl2 hne' hn hn' hv1 hv'
 ·by_cases hq:q=p
  ·subst hq;rw [hc]at h1;injection h1 with h1;subst h1
   rw [h4]at hef;cases hef
  ·rw [qeb hq]at h2
   have:¬c.o.dst=some s':=fun e=>hq (h6 p c hc e).symm
   rw [qej hlt,if_neg this]
   exact inv.der q c' sl d off s' h1 h2 h3 h4 h5 h6
 ·rw [qek];exact inv.tmps
 ·rw [qel];exact inv.defers
end
def kinds (io:IOp):qcX io=true\/qbm io=true\/qbl io=true\/qaQ io=true\/(∃x,io = .yi x)\/(∃s d off,io = .yd s d off)\/(∃s d off n,io = .yc s d off n)\/(∃s d off n x,io = .yu s d off n x):=by
 cases io<;>simp [qcX,qbm,qbl,qaQ]
def qeC {io:IOp}(h:qbm io=true):qcX io=false/\qaQ io=false/\qbl io=false:=by cases io<;>simp [qbm]at h<;>simp [qcX,qaQ,qbl]
def qeD {io:IOp}(h:qbl io=true):qcX io=false/\qaQ io=false:=by cases io<;>simp [qbl]at h<;>simp [qcX,qaQ]
def qeE {io:IOp}(h:qaQ io=true):qcX io=false/\qbl io=false:=by cases io<;>simp [qaQ]at h<;>simp [qcX,qbl]
def qeF {io:IOp}(h:qcX io=true):qaQ io=false/\qbl io=false:=by cases io<;>simp [qcX]at h<;>simp [qaQ,qbl]
section
variable {call:qaM}{lo:Nat}{cc:List COper}{ck:Nat->Nat}{f0:Fr}{h0:qab}
variable {P:Program}{B0:Nat}{w0:World}{LB:List Nat}{nt:Nat}{ops:List Oper}{Ef:Emb}{wf:World}{D:List Deferred}{T:Tr call lo cc ck f0 h0}{S:Nat->Bool}{E:Emb}{bx:Nat->Nat}{b:Nat}{a:Act}{w:World}
def qeG {a:Act}{v:Value} : a.put none v=a:=rfl
def Inv.step (inv:Inv B0 w0 LB nt Ef wf D T S E bx b a w)(hm:qdP call)(wf':Wf P LB nt ops cc){p:Nat}{c:COper}(hc:cc[p]? = some c)(hS:S p=false)(r:Rdy cc ck S p c)
  (hB0:B0<=w0.heap.size) (hBf:wf.heap.size<=w.heap.size) (hcall:qd5 P B0 w0 call) {opsA:Array Oper} (hA:opsA.toList=ops) {i:Nat} (hi:opsA[i]? = some c.o) {K:Act->World->Prop} {Q:Exit->Act->World->Prop}
  (hK:∀E' bx' b' a' w',Inv B0 w0 LB nt Ef wf D T (qd9 S p) E' bx' b' a' w'->K a' w'):wpOp P opsA Q i K a w:=by
 have hp:p<cc.length:=(zzS.1 hc).1
 have hwant:=inv.wanted hm wf' hc hS r hA
 obtain⟨t1,t2,t3,t4⟩:=T.step p c hc
 obtain⟨o1,o2,o3,o4,o5,o6,o7⟩:=wf'.op p c hc
 have hop:=inv.opOk hm hc hS r
 unfold wpOp
 simp only [hi,hwant]
 cases hW:T.W p with
 | false =>
   simp only [Bool.false_eq_true,if_false]
   have hV:=(t4 hW).1
   exact hK _ _ _ _ _ (inv.put hm wf' hc hS r (fun h=>by rw [hW]at h;cases h) (fun t _ _=>by rw [hV];exact .tuple _ _ (by simpa using VRs.nil)) (fun t _ _=>hV) (fun h=>by rw [hW]at h;cases h))
 | true =>
   simp only [if_true]
   refine .inl ?_
   obtain⟨hiop,hahead,_⟩:=t3 hW
   -- a value alone, not into a variable of the frame
   have val:∀{cv:Value},(qaQ c.io=false/\qbl c.io=false)->(∀x,c.io≠.yi x)->(∀s d off n x,c.io≠.yu s d off n x)->VR (res E (T.L p)) (T.V p) cv->
     (∀sl d off s,c.io = .yd sl d off->c.o.dst=some s->cv = .pointer (some ⟨bx d,off,none⟩))->(execOp a.eval c.o).run P w = .ok (.value cv) w->c.o.wp P a w K Q:=fun {cv} h1 h2 h3 h4 h5 h6=>by
    unfold Oper.wp
    rw [h6]
    refine hK _ _ _ _ _ (inv.put hm wf' hc hS r (fun _=>h1) (fun t _ _=>by rw [T.yO hc (fun _=>h1)];exact h4) (fun t ht hl => ?_) (fun _=>h5))
    exfalso
    have:c.dst=c.o.dst:=by
     unfold COper.dst
     split
     ·rename_i s b' off n x hio;exact absurd hio (h3 _ _ _ _ _)
     ·rfl
    rw [this]at ht
    obtain⟨x,hx⟩:=(o3 t ht).1 hl
    exact h2 x hx
   rcases kinds c.io with hk|hk|hk|hk|⟨x,hk⟩|⟨s,d,off,hk⟩|⟨s,d,off,n,hk⟩|⟨s,d,off,n,x,hk⟩
   ·obtain⟨_,cv,h1,h2⟩:=qc3 o1 hk hop hiop
    exact val (qeF hk) (fun x hx=>by rw [hx]at hk;cases hk) (fun s d off n x hx=>by rw [hx]at hk;cases hk) h2 (fun s d off t hx=>by rw [hx]at hk;cases hk) (h1 w)
   ·obtain⟨n1,n2,n3⟩:=qeC hk
    obtain⟨g,g',hh,hg⟩:=inv.waF hm wf' hc hS r hk hW
    obtain⟨_,cv,h1,h2⟩:=qdj (P:=P) (qdc o1 n1) hk hop hh hg
    exact val ⟨n2,n3⟩ (fun x hx=>by rw [hx]at hk;cases hk) (fun s d off n x hx=>by rw [hx]at hk;cases hk) h2 (fun s d off t hx=>by rw [hx]at hk;cases hk) h1
   ·obtain⟨n1,n2⟩:=qeD hk
    obtain⟨blk,cv,obj,x,e1,e2,e3,e4,e5,e6⟩:=qdr (P:=P) (qdc o1 n1) hk hop (inv.yV.base hB0) hiop
    unfold Oper.wp
    rw [e3]
    exact hK _ _ _ _ _ (inv.made hm wf' hc hS r hB0 hk hW e1 e2 e4 e5 e6)
   ·obtain⟨n1,n2⟩:=qeE hk
    have hbp:=inv.waG hc hS r (by simp [hk])
    have hs:=inv.at hm (Nat.le_of_lt hp) hbp
     (fun q c' h1 h2 h3 h4=>r.eff hk q c' h2 h3 (by simp only [Bool.or_eq_true]at h4|-;exact .inl h4))
     (fun q c' h1 h2 h3 h4 h5=>T.same h3 (fun _=>⟨h4,h5⟩))
    refine qd8 (qdc o1 n1) hk hop hs hB0 hcall hiop fun cv w' E1 g1 g2 g3 => ?_
    obtain⟨E',hI⟩:=inv.done hm wf' hc hS r hk hW g1 g2 g3
    exact hK _ _ _ _ _ hI
   ·-- a variable is laid
    have hnp:=qdc o1 (by rw [hk];rfl)
    rw [hk]at hiop
    simp only [yf]at hiop
    split at hiop<;>try (cases hiop;done)
    rename_i u hu
    injection hiop with hiop
    injection hiop with eV eH
    have hLp:T.L (p+1)=T.L p:=by simp [Tr.L,<-eH]
    have hdst:c.dst=c.o.dst:=by
     unfold COper.dst
     split
     ·rename_i s b' off n x hio;rw [hio]at hk;cases hk
     ·rfl
    have go:∀d obj,c.o.dst=some d->LB.contains d=true->(execOp a.eval c.o).run P w = .ok (.value (.pointer (some ⟨w.heap.size,0,none⟩))) (w.alloc obj)->
      Boxed B0 (res E (T.L p)) (w.alloc obj) (.agg (qaf u).toArray) (.pointer (some ⟨w.heap.size,0,none⟩)) w.heap.size->c.o.wp P a w K Q:=fun d obj hd hl hr hb=>by
     unfold Oper.wp
     rw [hr]
     refine hK _ _ _ _ _ (inv.own hm wf' hc hS r (t:=d) (bt:=w.heap.size) (fun _=>by rw [hk];exact⟨rfl,rfl,fun _ _ _ h=>by cases h⟩) (hdst.trans hd) hl ?_ hBf
      (fun j y hy=>by have:=inv.lt hy;omega) (fun t' r' _ hl' hn hv=>by have:=(inv.box t' r'.1 r'.2 hl' hn hv).1.lt;omega)
      (fun b' h1 h2=>Go.RowKit.Below.heap_alloc _ _ _ h2) (inv.yV.y8 (inv.yV.base hB0) obj) (qez inv.later obj) (.inr fun q c' sl off h1 h2 h3 => ?_))
     ·rw [qej (fun e he=>by rw [inv.tmps];exact o2 e he),if_pos hd,hLp,<-eV]
      exact hb
     ·obtain⟨k1,k2⟩:=wf'.lbx q p c' c sl d x h1 hc hk hd (.inr (.inr ⟨off,h3⟩))
      have:=r.after q c' k1 h1 k2
      rw [h2]at this;cases this
    cases hco:c.o with
    | mk dst op ty pos after guard =>
      generalize hio:c.io=io at hnp hk
      subst hk
      cases hnp with
      | waL t z d ho hz hd hl =>
        rw [hco]at ho
        simp only at ho
        subst ho
        obtain⟨obj,h1,h2⟩:=qdO (P:=P) (E:=res E (T.L p)) (a:=a) (dst:=dst) (ty:=ty) (pos:=pos) (after:=after) (guard:=guard) hz (inv.yV.base hB0)
        simp only [ev,Option.some.injEq]at hu
        subst hu
        have:=go d obj hd hl (by rw [hco];exact h1) h2
        rw [hco]at this
        exact this
      | boxL t x d ho hx hd hl =>
        have hxr:=hop x (by rw [ho];simp [Op.operands]) hx u hu
        rw [hco]at ho
        simp only at ho
        subst ho
        obtain⟨obj,h1,h2⟩:=qdN (P:=P) (a:=a) (dst:=dst) (ty:=ty) (pos:=pos) (after:=after) (guard:=guard) (t:=t) (inv.yV.base hB0) hxr
        have:=go d obj hd hl (by rw [hco];exact h1) h2
        rw [hco]at this
        exact this
   ·-- an address in a variable
    have hnp:=qdc o1 (by rw [hk];rfl)
    generalize hio:c.io=io at hnp hk
    subst hk
    cases hnp with
    | yd t u x fi off' d' o' ho hf hl =>
      rw [hio]at hiop
      simp only [yf]at hiop
      obtain⟨hck,hiop⟩:=qc1 hiop
      split at hiop<;>try (cases hiop;done)
      rename_i cs hcs
      injection hiop with hiop
      injection hiop with eV eH
      obtain⟨n,h1,h2,h3,h4⟩:=inv.addr hm wf' hc hS r (by rw [ho];simp [Op.operands]) hl (.inr (.inr ⟨off',hio⟩)) hck hcs
      refine val (cv := .pointer (some ⟨bx d,o'+off',none⟩)) (by rw [hio];exact⟨rfl,rfl⟩) (fun x hx=>by rw [hio]at hx;cases hx) (fun s d off n x hx=>by rw [hio]at hx;cases hx) (by rw [<-eV];exact .any _) (fun sl d2 off2 s2 hx _=>by rw [hio]at hx;injection hx with _ e2 e3;subst e2 e3;rfl) ?_
      cases hco:c.o with
      | mk dst op ty pos after guard =>
        rw [hco]at ho
        simp only at ho
        subst ho
        exact qdK hf h4 w
   ·-- a variable is read
    have hnp:=qdc o1 (by rw [hk];rfl)
    generalize hio:c.io=io at hnp hk
    subst hk
    cases hnp with
    | yc t x d' off' n' ho hn hl =>
      rw [hio]at hiop
      simp only [yf]at hiop
      obtain⟨hck,hiop⟩:=qc1 hiop
      split at hiop<;>try (cases hiop;done)
      rename_i cs hcs
      split at hiop<;>try (cases hiop;done)
      rename_i u hu
      injection hiop with hiop
      injection hiop with eV eH
      obtain⟨n2,h1,h2,h3,h4⟩:=inv.addr hm wf' hc hS r (by rw [ho];simp [Op.operands]) hl (.inl ⟨_,hio⟩) hck hcs
      obtain⟨hb,_,_⟩:=inv.box d _ n2 h3 h2 (by simp [qag])
      cases hco:c.o with
      | mk dst op ty pos after guard =>
        have ho':=ho
        rw [hco]at ho
        simp only at ho
        subst ho
        obtain⟨dv,g1,g2⟩:=qdL (P:=P) (dst:=dst) (ty:=ty) (pos:=pos) (after:=after) (guard:=guard) hn h4 hb hu
        rw [hco]at val
        exact val (by rw [hio];exact⟨rfl,rfl⟩) (fun x hx=>by rw [hio]at hx;cases hx) (fun s d off n x hx=>by rw [hio]at hx;cases hx) (by rw [<-eV];exact g2.mono (qdW h1)) (fun sl d2 off2 s2 hx _=>by rw [hio]at hx;cases hx) g1
   ·-- a variable is written
    have hnp:=qdc o1 (by rw [hk];rfl)
    generalize hio:c.io=io at hnp hk
    subst hk
    cases hnp with
    | yu t x y d' off' n' ho hn hl hy =>
      rw [hio]at hiop
      simp only [yf]at hiop
      obtain⟨hck,hiop⟩:=qc1 hiop
      split at hiop<;>try (cases hiop;done)
      rename_i cs u hcs hu
      obtain⟨hlen,hiop⟩:=qc1 hiop
      obtain⟨hle,hiop⟩:=qc0 hiop
      injection hiop with eV eH
      have hLp:T.L (p+1)=T.L p:=by simp [Tr.L,<-eH]
      obtain⟨n2,h1,h2,h3,h4⟩:=inv.addr hm wf' hc hS r (by rw [ho];simp [Op.operands]) hl (.inr (.inl ⟨_,_,hio⟩)) hck hcs
      obtain⟨hb,hb2,hb3⟩:=inv.box d _ n2 h3 h2 (by simp [qag])
      have hyr:=hop _ (by rw [ho];simp [Op.operands]) hy u hu
      have hod:c.o.dst=none:=(o6 _ _ _ _ _ hio).2
      have hdd:c.dst=some d:=by simp [COper.dst,hio]
      have hBb:B0<=bx d:=by obtain⟨_,_,_,_,_,_,_,h⟩:=hb;exact h
      cases hco:c.o with
      | mk dst op ty pos after guard =>
        have ho':=ho
        rw [hco]at ho
        simp only at ho
        subst ho
        have hod':dst=none:=by rw [hco]at hod;exact hod
        subst hod'
        obtain⟨C',g1,g2⟩:=qdM (P:=P) (dst:=none) (ty:=ty) (pos:=pos) (after:=after) (guard:=guard) hn h4 (hb.mono (qdW h1)) hyr hlen.1 hlen.2 hle
        unfold Oper.wp
        rw [g1]
        have hown:=inv.own hm wf' hc hS r (t:=d) (bt:=bx d) (cv:=undef) (w':=w.setRow (bx d) C') (fun _=>by rw [hio];exact⟨rfl,rfl,fun _ _ _ h=>by cases h⟩) hdd h3
         (by rw [hod,qeG,hLp,<-eV];exact g2) hb2 hb3 (fun t' r' hne hl' hn' hv'=>inv.sep t' d r' _ hl' h3 hne hn' h2 hv' (by simp [qag])) (fun b' k1 k2=>qda k1)
         (inv.yV.aside hBb (fun j y hy=>hb3 j y (qdV hy).2)) (qey inv.later hb2) (.inl rfl)
        rw [hod]at hown
        exact hK _ _ _ _ _ hown
end
section
variable {P:Program}{LB:List Nat}{nt:Nat}{ops:List Oper}
def qeH (P:Program)(LB:List Nat)(nt:Nat)(ops:List Oper)(c:COper):Prop :=
 cOp P LB ops c.o=some c.io/\qbq ops c.o=some c.guard/\(∀d,c.o.dst=some d->d<nt)/\(∀d,c.o.dst=some d->(LB.contains d=true↔∃x,c.io = .yi x))/\
  (∀t w,c.guard=some (t,w)->LB.contains t=false)/\(∀s b off n,c.io = .yc s b off n->LB.contains b=true)/\(∀s b off n x,c.io = .yu s b off n x->LB.contains b=true/\c.o.dst=none)/\
  (∀s b off,c.io = .yd s b off->LB.contains b=true)
def qeI:∀{l:List Oper} {cs:List COper},qbv P LB ops nt l=some cs->cs.map COper.o=l/\∀c∈cs,qeH P LB nt ops c
 | [],cs,h=>by simp [qbv]at h;subst h;exact⟨rfl,fun c hc=>by cases hc⟩
 | o::r,cs,h=>by
   simp only [qbv]at h
   split at h<;>try (cases h;done)
   rename_i io g cs' h1 h2 h3
   obtain⟨hk,rfl⟩:=qc0 h
   obtain⟨e1,e2⟩:=qeI h3
   refine⟨by simp [e1],fun c hc => ?_⟩
   rcases List.mem_cons.1 hc with rfl|hc
   ·simp only [Bool.and_eq_true]at hk
    obtain⟨⟨⟨k1,k2⟩,k3⟩,k4⟩:=hk
    refine⟨h1,h2,fun d hd => ?_,fun d hd => ?_,fun t w hg => ?_,fun s b off n hio => ?_,fun s b off n x hio => ?_,fun s b off hio => ?_⟩
    ·simp only at hd;rw [hd]at k1;simpa using k1
    ·simp only at hd
     rw [hd]at k2
     constructor
     ·intro hl
      split at k2
      ·exact⟨_,rfl⟩
      ·rename_i e _;injection e with e;subst e;rw [hl]at k2;cases k2
      ·rename_i e;cases e
     ·rintro ⟨x,hx⟩
      simp only at hx
      subst hx
      simpa using k2
    ·simp only at hg;subst hg;simpa using k3
    ·simp only at hio;subst hio;simpa using k4
    ·simp only at hio;subst hio
     simp only [Bool.and_eq_true,Option.isNone_iff_eq_none]at k4
     exact k4
    ·simp only at hio;subst hio;simpa using k4
   ·exact e2 c hc
def qeJ {cs:List COper} : ∀{l:List COper} {i:Nat},qbu cs i l=true->∀(k:Nat) (c:COper),l[k]? = some c->qbt cs (i+k) c=true
 | [],i,h,k,c,hk=>by simp at hk
 | x::l,i,h,k,c,hk=>by
   simp only [qbu,Bool.and_eq_true]at h
   cases k with
   | zero=>simp at hk;subst hk;exact h.1
   | succ k =>
     have:=qeJ h.2 k c (by simpa using hk)
     rwa [show i+1+k=i+(k+1) by omega]at this
def qeK {b:Nat} : ∀{cs:List COper} {i k:Nat} {c:COper} {x:Operand},cs[k]? = some c->c.io = .yi x->c.o.dst=some b->i+k∈qbr b cs i
 | [],i,k,c,x,h,_,_=>by simp at h
 | y::cs,i,k,c,x,h,h1,h2=>by
   cases k with
   | zero=>simp at h;subst h;simp [qbr,h1,h2]
   | succ k =>
     have:=qeK (i:=i+1) (cs:=cs) (k:=k) (by simpa using h) h1 h2
     rw [show i+1+k=i+(k+1) by omega]at this
     simp only [qbr]
     split
     ·split
      ·exact List.mem_cons_of_mem _ this
      ·exact this
     ·exact this
def qeL {s:Nat} : ∀{cs:List COper} {i k:Nat},(∃c,cs[k]? = some c/\c.o.dst=some s)↔i+k∈qbs s cs i
 | [],i,k=>by simp [qbs]
 | y::cs,i,k=>by
   simp only [qbs]
   have lower:∀{l:List COper} {i m:Nat},m∈qbs s l i->i<=m:=by
    intro l
    induction l with
    | nil=>intro i m h;simp [qbs]at h
    | cons z l ih =>
      intro i m h
      simp only [qbs]at h
      split at h
      ·rcases List.mem_cons.1 h with rfl|h
       ·exact zzR _
       ·have:=ih h;omega
      ·have:=ih h;omega
   cases k with
   | zero =>
     simp only [List.getElem?_cons_zero,Option.some.injEq,exists_eq_left',Nat.add_zero]
     split
     ·rename_i h;simp at h;simp [h]
     ·rename_i h
      simp only [beq_iff_eq]at h
      constructor
      ·intro e;exact absurd e h
      ·intro e;have:=lower e;omega
   | succ k =>
     have ih:=qeL (s:=s) (cs:=cs) (i:=i+1) (k:=k)
     rw [show i+1+k=i+(k+1) by omega]at ih
     simp only [List.getElem?_cons_succ]
     rw [ih]
     split
     ·simp only [List.mem_cons]
      constructor
      ·exact .inr
      ·rintro (h|h)
       ·omega
       ·exact h
     ·rfl
def qeM:∀{n s:Nat} {r:Nat×Nat},la P LB ops n s=some r->la P LB ops (n+1) s=some r
 | 0,s,r,h=>by
   simp only [la]at h
   by_cases hl:LB.contains s=true
   ·rw [if_pos hl]at h;unfold la;rw [if_pos hl];exact h
   ·rw [if_neg hl]at h;cases h
 | n+1,s,r,h=>by
   unfold la at h
   unfold la
   by_cases hl:LB.contains s=true
   ·rw [if_pos hl]at h|-;exact h
   ·rw [if_neg hl]at h|-
    split at h
    ·rename_i t s' f pos ty after guard hf
     split at h
     ·rename_i d off o u h1 h2
      rw [qeM h1]
      simp only [h2]
      exact h
     ·cases h
    ·cases h
structure IOrd (cs cc:List COper)(ord:List Nat):Prop where
 get:∀p:Nat,cc[p]? = (ord[p]?).bind (cs[·]?)
 len:cc.length=ord.length
 lt:∀p i:Nat,ord[p]? = some i->i<cs.length
 nodup:∀p q i:Nat,ord[p]? = some i->ord[q]? = some i->p=q
 all:∀i:Nat,i<cs.length->∃p:Nat,ord[p]? = some i
 keep:∀(p q i j:Nat) (c c':COper),ord[p]? = some i->ord[q]? = some j->cs[i]? = some c->cs[j]? = some c'->p<q->clash c c'=true->i<j
def IOrd.at {cs cc:List COper}{ord:List Nat}(o:IOrd cs cc ord){p:Nat}{c:COper}(h:cc[p]? = some c):∃i,ord[p]? = some i/\cs[i]? = some c:=by
 rw [o.get]at h
 cases hi:ord[p]? with
 | none=>rw [hi]at h;cases h
 | some i=>rw [hi]at h;exact⟨i,rfl,h⟩
def IOrd.pos {cs cc:List COper}{ord:List Nat}(o:IOrd cs cc ord){i:Nat}{c:COper}(h:cs[i]? = some c):∃p:Nat,ord[p]? = some i/\cc[p]? = some c:=by
 obtain⟨p,hp⟩:=o.all i (zzS.1 h).1
 exact⟨p,hp,by rw [o.get,hp];exact h⟩
def qeN {cs cc:List COper}{ord:List Nat}(hcs:qbv P LB ops nt ops=some cs)(hla:qbu cs 0 cs=true)(o:IOrd cs cc ord):Wf P LB nt ops cc:=by
 obtain⟨e1,e2⟩:=qeI hcs
 have hm:∀{p:Nat} {c:COper},cc[p]? = some c->qeH P LB nt ops c:=fun h=>by
  obtain⟨i,h1,h2⟩:=o.at h
  exact e2 _ (List.mem_of_getElem? h2)
 -- where two in the text's order clash they are in the interpreter's order too
 have hord:∀{p q i j:Nat} {c c':COper},ord[p]? = some i->ord[q]? = some j->cs[i]? = some c->cs[j]? = some c'->i<j->clash c' c=true->p<q:=fun {p q i j c c'} h1 h2 h3 h4 h5 h6=>by
  rcases Nat.lt_trichotomy p q with h|h|h
  ·exact h
  ·subst h;rw [h1]at h2;injection h2 with h2;omega
  ·have:=o.keep q p j i c' c h2 h1 h4 h3 h h6;omega
 refine⟨fun p c hc => ?_,fun p c hc=>(hm hc).2.1,fun p c s b hc hio => ?_,fun p q c c' s b x hc hc' h1 h2 h3 => ?_⟩
 ·obtain⟨k1,k2,k3,k4,k5,k6,k7,k8⟩:=hm hc
  exact⟨k1,k3,k4,k5,k6,k7,k8⟩
 ·obtain⟨i,hi1,hi2⟩:=o.at hc
  obtain⟨k1,k2,k3,k4,k5,k6,k7,k8⟩:=hm hc
  have hlo:=qeJ hla i c hi2
  rw [Nat.zero_add]at hlo
  have hw:∃j,qbs s cs 0 = [j]/\j<i:=by
   unfold qbt at hlo
   rcases hio with⟨off,n,h⟩|⟨off,n,x,h⟩|⟨off,h⟩ <;>
    (rw [h]at hlo;simp only [Bool.and_eq_true]at hlo;have hlo:=hlo.2;split at hlo<;>first|(rename_i j hj;exact⟨j,hj,by simpa using hlo⟩)|cases hlo)
  obtain⟨j,hj,hji⟩:=hw
  obtain⟨cr,hcr,hds⟩:=(qeL (s:=s) (cs:=cs) (i:=0) (k:=j)).2 (by rw [hj];simp)
  have huniq:∀k c',cs[k]? = some c'->c'.o.dst=some s->k=j:=fun k c' h1 h2=>by
   have:=(qeL (s:=s) (cs:=cs) (i:=0) (k:=k)).1 ⟨c',h1,h2⟩
   rw [hj]at this
   simpa using this
  -- the slot by which c goes
  have hsl:∃x off,laX P LB ops x=some (b,off)/\laS LB x=some s/\x∈c.o.op.operands.toList:=by
   have hnp:=qdc k1 (by rcases hio with⟨off,n,h⟩|⟨off,n,x,h⟩|⟨off,h⟩<;>rw [h]<;>rfl)
   generalize hcio:c.io=io at hnp hio
   cases hnp<;>simp at hio
   case yc t x d off n ho hn hl =>
    obtain⟨h1,rfl⟩:=hio
    exact⟨x,off,hl,h1,by rw [ho];simp [Op.operands]⟩
   case yu t x y d off n ho hn hl hy =>
    obtain⟨h1,rfl⟩:=hio
    exact⟨x,off,hl,h1,by rw [ho];simp [Op.operands]⟩
   case yd t u x fi off d o' ho hf hl =>
    obtain⟨h1,rfl⟩:=hio
    exact⟨x,o',hl,h1,by rw [ho];simp [Op.operands]⟩
  obtain⟨x,off,hlx,hls,hxm⟩:=hsl
  cases x with
  | const v=>simp [laS]at hls
  | global g=>simp [laS]at hls
  | func g=>simp [laS]at hls
  | tmp s0 =>
    simp only [laS]at hls
    split at hls
    ·cases hls
    rename_i hnl
    injection hls with hls
    subst hls
    simp only [laX]at hlx
    have hlx':=hlx
    unfold la at hlx
    rw [if_neg hnl]at hlx
    split at hlx<;>try (cases hlx;done)
    rename_i dst' t s' f ty pos after guard hfind
    split at hlx<;>try (cases hlx;done)
    rename_i d off2 o2 u h1 h2
    injection hlx with hlx
    injection hlx with e3 e4
    subst e3 e4
    -- it is cr
    have hcro:ops[j]? = some cr.o:=by
     have:=congrArg (·[j]?) e1
     simp only [List.getElem?_map,hcr,Option.map_some]at this
     exact this.symm
    have hfm:=List.mem_of_find?_eq_some hfind
    obtain⟨k,hk⟩:=List.mem_iff_getElem?.1 hfm
    have hkcs:∃ck':COper,cs[k]? = some ck'/\ops[k]? = some ck'.o:=by
     have:=congrArg (·[k]?) e1
     simp only [List.getElem?_map]at this
     cases hck:cs[k]? with
     | none=>rw [hck,hk]at this;cases this
     | some ck'=>rw [hck]at this;exact⟨ck',rfl,this.symm⟩
    obtain⟨ck',hck1,hck2⟩:=hkcs
    rw [hk]at hck2
    injection hck2 with hck2
    have hck2:=hck2.symm
    have hfd:=List.find?_some hfind
    simp only [beq_iff_eq]at hfd
    have hkj:k=j:=huniq k ck' hck1 (by rw [hck2];exact hfd)
    subst hkj
    rw [hcr]at hck1
    injection hck1 with hck1
    subst hck1
    obtain⟨m1,m2,m3,m4,m5,m6,m7,m8⟩:=e2 cr (List.mem_of_getElem? hcr)
    have hio':cr.io = .yd (laS LB (.tmp s')) d (off2+o2):=by
     rw [hck2]at m1
     simp only [cOp,h2,laX,qeM h1]at m1
     injection m1 with m1
     exact m1.symm
    obtain⟨r,hr1,hr2⟩:=o.pos hcr
    have hcrd:cr.dst=some s0:=by simp [COper.dst,hio',hds]
    have hclash:clash c cr=true:=qed (qeg hxm) hcrd
    exact⟨r,cr,_,off2+o2,hord hr1 hi1 hcr hi2 hji hclash,hr2,hio',hds,fun q c' hc' hd'=>by
     obtain⟨i',g1,g2⟩:=o.at hc'
     have:=huniq i' c' g2 hd'
     subst this
     exact o.nodup _ _ _ g1 hr1,hlx'⟩
 ·obtain⟨i,hi1,hi2⟩:=o.at hc
  obtain⟨j,hj1,hj2⟩:=o.at hc'
  have hlo:=qeJ hla i c hi2
  rw [Nat.zero_add]at hlo
  have hmem:=qeK (i:=0) hj2 h1 h2
  rw [Nat.zero_add]at hmem
  have hji:j<i:=by
   unfold qbt at hlo
   rcases h3 with⟨off,n,h⟩|⟨off,n,x,h⟩|⟨off,h⟩ <;>
    (rw [h]at hlo;simp only [Bool.and_eq_true,List.all_eq_true]at hlo;simpa using hlo.1 j hmem)
  have hd':c'.dst=some b:=by simp [COper.dst,h1,h2]
  have hr:b∈c.reads:=qei (by rcases h3 with⟨off,n,h⟩|⟨off,n,x,h⟩|⟨off,h⟩<;>simp [h,qbo])
  exact⟨hord hj1 hi1 hj2 hi2 hji (qed hr hd'),qec hd' (.inl hr)⟩
end
structure Fram (B0:Nat)(w0:World)(LB:List Nat)(nt:Nat)(Ef:Emb)(wf:World)(D:List Deferred)(E:Emb)(bx:Nat->Nat)(f:Fr)(h:qab)(a:Act)(w:World):Prop where
 yV:Sim B0 w0 E h w
 slot:∀t v,LB.contains t=false->qaa f t=some v->VR E v (a.tmps.getD t undef)
 box:∀t v,LB.contains t=true->qaa f t=some v->v≠qag->Boxed B0 E w v (a.tmps.getD t undef) (bx t)/\wf.heap.size<=bx t/\∀j y,E j=some (some y)->y.b≠bx t
 sep:∀t t' v v',LB.contains t=true->LB.contains t'=true->t≠t'->qaa f t=some v->qaa f t'=some v'->v≠qag->v'≠qag->bx t≠bx t'
 later:Later Ef wf E w
 tmps:a.tmps.size=nt
 defers:a.defers=D
section
variable {call:qaM}{lo:Nat}{cc:List COper}{ck:Nat->Nat}{f0:Fr}{h0:qab}
variable {P:Program}{B0:Nat}{w0:World}{LB:List Nat}{nt:Nat}{ops:List Oper}{Ef:Emb}{wf:World}{D:List Deferred}{S:Nat->Bool}{E:Emb}{bx:Nat->Nat}{b:Nat}{a:Act}{w:World}
def Tr.wao (T:Tr call lo cc ck f0 h0)(t:Nat):∀k,T.now (fun _=>false) t k=(qaa f0 t).map fun v=>(v,T.L 0)
 | 0=>rfl
 | k+1=>by simp only [Tr.now,Bool.false_and,Bool.false_eq_true,if_false];exact T.wao t k
def Fram.start (fr:Fram B0 w0 LB nt Ef wf D E bx f0 h0 a w)(T:Tr call lo cc ck f0 h0):Inv B0 w0 LB nt Ef wf D T (fun _=>false) E bx 0 a w:=by
 have hL:T.L 0=h0.length:=by simp [Tr.L,T.hH]
 have hres:res E (T.L 0)=E:=by
  funext i
  by_cases hi:i<T.L 0
  ·rw [qdT hi]
  ·rw [qdU (by omega),fr.yV.out i (by omega)]
 have hnow:∀{t v n},T.now (fun _=>false) t cc.length=some (v,n)->qaa f0 t=some v/\n=T.L 0:=fun {t v n} h=>by
  rw [T.wao]at h
  cases hf:qaa f0 t with
  | none=>rw [hf]at h;cases h
  | some u=>rw [hf]at h;simp at h;exact⟨by rw [h.1],h.2.symm⟩
 refine⟨zzZ _,.inl rfl,fun _ _ _ _ h=>(nomatch h),by rw [hres,T.hH];exact fr.yV,fun _ _ _ _ h=>(nomatch h),fun i hi hE => ?_,fun i j x y hi _ hE => ?_,fun t v n hl hn => ?_,fun t v n hl hn hv => ?_,
  fun t t' r r' hl hl' hne hn hn' hv hv' => ?_,fun _ _ _ _ _ _ _ h=>(nomatch h),fr.later,fr.tmps,fr.defers⟩
 ·exact absurd (fr.yV.out i (by omega)) hE
 ·rw [fr.yV.out i (by omega)]at hE;cases hE
 ·obtain⟨h1,rfl⟩:=hnow hn
  rw [hres];exact fr.slot t v hl h1
 ·obtain⟨h1,rfl⟩:=hnow hn
  rw [hres];exact fr.box t v hl h1 hv
 ·exact fr.sep t t' r.1 r'.1 hl hl' hne (hnow (v:=r.1) (n:=r.2) hn).1 (hnow (v:=r'.1) (n:=r'.2) hn').1 hv hv'
def Inv.finish {T:Tr call lo cc ck f0 h0}(inv:Inv B0 w0 LB nt Ef wf D T S E bx b a w)(hm:qdP call)(hS:∀p,p<cc.length->S p=true) :
  Fram B0 w0 LB nt Ef wf D E bx (T.F cc.length) (T.H cc.length) a w:=by
 have hE:res E (T.L cc.length)=E:=by
  funext i
  by_cases hi:i<T.L cc.length
  ·rw [qdT hi]
  ·rw [qdU (by omega)]
   cases he:E i with
   | none=>rfl
   | some e =>
     exfalso
     have hbL:=T.yD hm inv.bn (zzR _)
     obtain⟨q,c,h1,h2,h3,h4,h5,h6⟩:=inv.only i (by omega) (by rw [he];simp)
     obtain⟨x,k,g1,_⟩:=inv.pend q c h1 h2 h3 h4 h5
     have hql:q<cc.length:=(zzS.1 h2).1
     have:T.L (q+1)=T.L q+1:=by simp [Tr.L,g1]
     have:=T.yD hm (show q+1<=cc.length by omega) (zzR _)
     omega
 have hnow:∀{t v},qaa (T.F cc.length) t=some v->∃n,n<=T.L cc.length/\T.now S t cc.length=some (v,n):=fun {t v} h=>by
  obtain⟨n,hn⟩:=T.wav t h
  rw [T.yR (S':=S) cc.length (fun q hq _=>(hS q hq).symm)]at hn
  exact⟨n,T.wak hm _ (zzR _) hn,hn⟩
 have hsim:=inv.at hm (zzR _) inv.bn (fun q c' h1 h2 h3 h4=>hS q h2) (fun q c' h1 h2 h3 h4 h5=>T.same h3 (fun _=>⟨h4,h5⟩))
 rw [hE]at hsim
 have hle:∀{n},n<=T.L cc.length->(res E n).le E:=fun h=>qdX
 refine⟨hsim,fun t v hl hf => ?_,fun t v hl hf hv => ?_,fun t t' v v' hl hl' hne hf hf' hv hv' => ?_,inv.later,inv.tmps,inv.defers⟩
 ·obtain⟨n,h1,h2⟩:=hnow hf
  exact(inv.slot t v n hl h2).mono (hle h1)
 ·obtain⟨n,h1,h2⟩:=hnow hf
  obtain⟨g1,g2,g3⟩:=inv.box t v n hl h2 hv
  exact⟨g1.mono (hle h1),g2,g3⟩
 ·obtain⟨n,h1,h2⟩:=hnow hf
  obtain⟨n',h1',h2'⟩:=hnow hf'
  exact inv.sep t t' _ _ hl hl' hne h2 h2' hv hv'
def qeO {n p:Nat}(h:p<n):(List.range n)[p]? = some p:=by simp [h]
def qeP {n p i:Nat}(h:(List.range n)[p]? = some i):p<n/\i=p:=by
 obtain⟨h1,h2⟩:=zzS.1 h
 simp at h1 h2
 exact⟨h1,h2.symm⟩
def qeQ (cs:List COper):IOrd cs cs (List.range cs.length):=by
 refine⟨fun p => ?_,by simp,fun p i h => ?_,fun p q i h h' => ?_,fun i h=>⟨i,qeO h⟩,fun p q i j c c' h h' _ _ hpq _ => ?_⟩
 ·by_cases hp:p<cs.length
  ·rw [qeO hp];rfl
  ·simp [hp]
 ·have:=qeP h;omega
 ·have:=qeP h;have:=qeP h';omega
 ·have:=qeP h;have:=qeP h';omega
def qeR {cs:List COper}{ck:Nat->Nat}{p:Nat}{c:COper} : Rdy cs ck (fun q=>decide (q<p)) p c:=by
 refine⟨fun q c' h _ _=>by simpa using h,fun q c' h _ _=>by simp;omega,fun _ q c' h _ _=>by simpa using h,fun _ q c' h _ _=>by simp;omega,fun _ => ?_⟩
 have:(List.range p).filter (fun q => !decide (q<p)&&(cs[q]?).any fun c'=>qaQ c'.io) = []:=by
  rw [List.filter_eq_nil_iff]
  intro q hq
  have:=List.mem_range.1 hq
  simp [this]
 rw [this];exact zzZ _
def qeS {T:Tr call lo cc ck f0 h0}(hm:qdP call)(hB0:B0<=w0.heap.size)(hcall:qd5 P B0 w0 call){opsA:Array Oper}(hA:opsA.toList=ops)(wf':Wf P LB nt ops cc)
  (hops:cc.map COper.o=ops) {Q:Exit->Act->World->Prop} (hQ:∀E' bx' a' w',Fram B0 w0 LB nt Ef wf D E' bx' (T.F cc.length) (T.H cc.length) a' w'->Q .normal a' w') :
  ∀(k p:Nat),p+k=cc.length->∀{E bx b a w},Inv B0 w0 LB nt Ef wf D T (fun q=>decide (q<p)) E bx b a w->wpOps P opsA Q ((List.range' p k)) a w:=by
 intro k
 induction k with
 | zero =>
   intro p hp E bx b a w inv
   exact hQ _ _ _ _ (inv.finish hm (fun q hq=>by simp;omega))
 | succ k ih =>
   intro p hp E bx b a w inv
   have hpl:p<cc.length:=by omega
   have hc:cc[p]? = some cc[p]:=zzG hpl
   have hi:opsA[p]? = some (cc[p]).o:=by
    have:=congrArg (·[p]?) hops
    simp only [List.getElem?_map,hc,Option.map_some]at this
    rw [<-hA]at this
    simpa using this.symm
   rw [List.range'_succ,wpOps_cons]
   refine inv.step hm wf' hc (by simp) qeR hB0 inv.later.size hcall hA hi fun E' bx' b' a' w' inv'=>ih (p+1) (by omega) (E:=E') (bx:=bx') (b:=b') ?_
   have:qd9 (fun q=>decide (q<p)) p=fun q=>decide (q<p+1):=by
    funext q
    simp only [qd9]
    by_cases h1:q<p
    ·simp [h1];omega
    ·by_cases h2:q=p
     ·simp [h2]
     ·have:¬q<p+1:=by omega
      simp [h1,h2,this]
   rw [<-this]
   exact inv'
end
def qeT:∀{l:List Nat},qbx l=true->∀p q i:Nat,l[p]? = some i->l[q]? = some i->p=q
 | [],_,p,q,i,h,_=>by simp at h
 | x::l,hn,p,q,i,h,h'=>by
   simp only [qbx,Bool.and_eq_true,Bool.not_eq_true']at hn
   have hx:∀k:Nat,l[k]?≠some x:=fun k hk=>by
    have:=List.mem_of_getElem? hk
    have h2:=hn.1
    simp at h2
    exact h2 this
   cases p with
   | zero =>
     cases q with
     | zero=>rfl
     | succ q=>simp at h h';subst h;exact absurd h' (hx q)
   | succ p =>
     cases q with
     | zero=>simp at h h';subst h';exact absurd h (hx p)
     | succ q=>rw [qeT hn.2 p q i (by simpa using h) (by simpa using h')]
def qeU {cs:List COper}{an:List Nat} : ∀{l:List Nat},orderOk.pairs cs an l=true->∀p q i j:Nat,p<q->l[p]? = some i->l[q]? = some j->
  ∃a b,cs[i]? = some a/\cs[j]? = some b/\(clash a b=true->(an.getD j 0).testBit i=true)/\
   ((qaQ b.io=true/\(qaQ a.io||qbl a.io||qbm a.io)=true)->(an.getD j 0).testBit i=true)
 | [],_,p,q,i,j,_,h,_=>by simp at h
 | x::l,hp,p,q,i,j,hpq,h,h'=>by
   simp only [orderOk.pairs,Bool.and_eq_true,List.all_eq_true]at hp
   cases q with
   | zero=>omega
   | succ q =>
     cases p with
     | succ p=>exact qeU hp.2 p q i j (by omega) (by simpa using h) (by simpa using h')
     | zero =>
       simp at h h'
       subst h
       have:=hp.1 j (List.mem_of_getElem? h')
       split at this<;>try (cases this;done)
       rename_i a b ha hb
       simp only [Bool.and_eq_true,Bool.or_eq_true,Bool.not_eq_true']at this
       obtain⟨⟨_,h1⟩,h2⟩:=this
       refine⟨a,b,ha,hb,fun hc => ?_,fun hc => ?_⟩
       ·rcases h1 with h1|h1
        ·rw [hc]at h1;cases h1
        ·exact h1
       ·rcases h2 with h2|h2
        ·have:(qaQ b.io&&(qaQ a.io||qbl a.io||qbm a.io))=true:=by simp only [Bool.and_eq_true];exact hc
         rw [this]at h2;cases h2
        ·exact h2
def qeV (g:Nat->Nat):∀(l:List Nat) (m j:Nat),(l.foldl (fun m d=>m ||| 2 ^ d ||| g d) m).testBit j=true->m.testBit j=true\/∃d∈l,j=d\/(g d).testBit j=true
 | [],m,j,h => .inl h
 | d::l,m,j,h=>by
   rcases qeV g l _ j h with h|⟨e,he,h⟩
   ·simp only [Nat.testBit_or,Bool.or_eq_true,Nat.testBit_two_pow]at h
    rcases h with(h|h)|h
    ·exact .inl h
    ·exact .inr ⟨d,by simp,.inl (of_decide_eq_true h).symm⟩
    ·exact .inr ⟨d,by simp,.inr h⟩
   ·exact .inr ⟨e,by simp [he],h⟩
def qeW:∀(r:List Oper) (acc:List Nat) (i:Nat),i<acc.length->(qbj r acc).getD i 0=acc.getD i 0
 | [],acc,i,h=>rfl
 | o::r,acc,i,h=>by
   rw [qbj,qeW r _ i (by simp;omega)]
   simp [zzA h]
def qeX (g g':Nat->Nat):∀(l:List Nat) (m:Nat),(∀d∈l,g d=g' d)->l.foldl (fun m d=>m ||| 2 ^ d ||| g d) m=l.foldl (fun m d=>m ||| 2 ^ d ||| g' d) m
 | [],m,h=>rfl
 | d::l,m,h=>by
   simp only [List.foldl_cons]
   rw [h d (by simp),qeX g g' l _ (fun e he=>h e (by simp [he]))]
def qeY:∀{r:List Oper} {i:Nat},qbk r i=true->∀(k:Nat) (o:Oper),r[k]? = some o->∀d∈qbi o,d<i+k
 | [],i,h,k,o,hk,d,hd=>by simp at hk
 | x::r,i,h,k,o,hk,d,hd=>by
   simp only [qbk,Bool.and_eq_true,List.all_eq_true]at h
   cases k with
   | zero=>simp at hk;subst hk;simpa using h.1 d hd
   | succ k=>have:=qeY h.2 k o (by simpa using hk) d hd;omega
def qeZ:∀(r:List Oper) (acc:List Nat) (k:Nat) (o:Oper),r[k]? = some o->qbk r acc.length=true->
  (qbj r acc).getD (acc.length+k) 0=(qbi o).foldl (fun m d=>m ||| 2 ^ d ||| (qbj r acc).getD d 0) 0
 | [],acc,k,o,h,_=>by simp at h
 | x::r,acc,k,o,h,hb=>by
   have hb':=hb
   simp only [qbk,Bool.and_eq_true,List.all_eq_true]at hb
   cases k with
   | zero =>
     simp at h
     subst h
     rw [qbj,qeW _ _ _ (by simp)]
     simp only [Nat.add_zero,List.getD_eq_getElem?_getD,zzB (zzR _),Nat.sub_self,List.getElem?_cons_zero,Option.getD_some]
     refine qeX _ _ _ _ fun d hd => ?_
     have hda:d<acc.length:=by simpa using hb.1 d hd
     have:=qeW r (acc ++ [(qbi x).foldl (fun m d=>m ||| 2 ^ d ||| acc.getD d 0) 0]) d (by simp;omega)
     simp only [List.getD_eq_getElem?_getD]at this
     rw [this,zzA hda]
   | succ k =>
     have:=qeZ r (acc ++ [(qbi x).foldl (fun m d=>m ||| 2 ^ d ||| acc.getD d 0) 0]) k o (by simpa using h) (by simpa using hb.2)
     rw [qbj]
     simp only [zzM,List.length_cons,List.length_nil]at this
     rw [show acc.length+(k+1)=acc.length+(0+1)+k by omega]
     exact this
section
variable {ops:List Oper}
def Lst (listed:Array Bool)(i:Nat):Bool:=listed.getD i false
def qe0 (ops:List Oper)(listed:Array Bool):Prop:=∀i o,ops[i]? = some o->Lst listed i=true->∀d∈qbi o,Lst listed d=true
def qe1 (hb:qbk ops 0=true):∀(i:Nat) (j:Nat),i<ops.length->((qbj ops []).getD i 0).testBit j=true->j<i:=by
 intro i
 induction i using Nat.strongRecOn with
 | _ i ih =>
   intro j hi hj
   have ho:ops[i]? = some ops[i]:=zzG hi
   have h1:=qeZ ops [] i _ ho (by simpa using hb)
   simp only [List.length_nil,Nat.zero_add]at h1
   rw [h1]at hj
   rcases qeV _ _ _ _ hj with h|⟨d,hd,h⟩
   ·simp at h
   ·have hdl:=qeY hb i _ ho d hd
    rcases h with rfl|h
    ·omega
    ·have:=ih d (by omega) j (by omega) h;omega
def qe2 (hb:qbk ops 0=true){listed:Array Bool}(hcl:qe0 ops listed):∀(i:Nat) (o:Oper),ops[i]? = some o->(∀d∈qbi o,Lst listed d=true)->
  ∀j,((qbj ops []).getD i 0).testBit j=true->Lst listed j=true:=by
 intro i
 induction i using Nat.strongRecOn with
 | _ i ih =>
   intro o ho hdeps j hj
   have h1:=qeZ ops [] i _ ho (by simpa using hb)
   simp only [List.length_nil,Nat.zero_add]at h1
   rw [h1]at hj
   rcases qeV _ _ _ _ hj with h|⟨d,hd,h⟩
   ·simp at h
   ·have hdl:=qeY hb i _ ho d hd
    have hil:=(zzS.1 ho).1
    rcases h with rfl|h
    ·exact hdeps j hd
    ·have hod:ops[d]? = some ops[d]:=zzG (by omega)
     exact ih d (by omega) _ hod (hcl d _ hod (hdeps d hd)) j h
def qe3 {cs:List COper}{an ord:List Nat}(h:orderOk cs an ord=true):ord.length=cs.length/\qbx ord=true/\(∀i∈ord,i<cs.length)/\(∀i,i<cs.length->i∈ord)/\orderOk.pairs cs an ord=true:=by
 simp only [orderOk,Bool.and_eq_true,List.all_eq_true,decide_eq_true_eq]at h
 obtain⟨⟨⟨⟨h1,h2⟩,h3⟩,h4⟩,h5⟩:=h
 exact⟨h1,h2,h3,fun i hi=>by simpa using h4 i (List.mem_range.2 hi),h5⟩
def qe4 (cs:List COper)(ord:List Nat):List COper:=ord.filterMap (cs[·]?)
def qe5 {cs:List COper} : ∀{ord:List Nat},(∀i∈ord,i<cs.length)->∀p:Nat,(qe4 cs ord)[p]? = (ord[p]?).bind (cs[·]?)
 | [],_,p=>by simp [qe4]
 | x::ord,h,p=>by
   have hx:cs[x]? = some (cs[x]'(h x (by simp))):=zzG (h x (by simp))
   have ih:=qe5 (cs:=cs) (ord:=ord) (fun i hi=>h i (by simp [hi]))
   unfold qe4 at ih|-
   rw [List.filterMap_cons_some hx]
   cases p with
   | zero=>simp [hx]
   | succ p=>simp only [List.getElem?_cons_succ];exact ih p
def qe6 {cs:List COper} : ∀{ord:List Nat},(∀i∈ord,i<cs.length)->(qe4 cs ord).length=ord.length
 | [],_=>rfl
 | x::ord,h=>by
   have hx:cs[x]? = some (cs[x]'(h x (by simp))):=zzG (h x (by simp))
   have ih:=qe6 (cs:=cs) (ord:=ord) (fun i hi=>h i (by simp [hi]))
   unfold qe4 at ih|-
   rw [List.filterMap_cons_some hx]
   simp [ih]
def qe7 {cs:List COper}{ord:List Nat}(hb:qbk ops 0=true)(hl:cs.length=ops.length)(h:orderOk cs (qbj ops []) ord=true):IOrd cs (qe4 cs ord) ord:=by
 obtain⟨h1,h2,h3,h4,h5⟩:=qe3 h
 refine⟨qe5 h3,qe6 h3,fun p i hi=>h3 i (List.mem_of_getElem? hi),qeT h2,fun i hi=>List.mem_iff_getElem?.1 (h4 i hi),fun p q i j c c' hi hj hc hc' hpq hcl => ?_⟩
 obtain⟨a,b,ha,hb',k1,k2⟩:=qeU h5 p q i j hpq hi hj
 rw [hc]at ha;injection ha with ha;subst ha
 rw [hc']at hb';injection hb' with hb';subst hb'
 exact qe1 hb j i (by rw [<-hl];exact h3 j (List.mem_of_getElem? hj)) (k1 hcl)
def doneS (ord:List Nat)(listed:Array Bool):Nat->Bool:=fun q=>(ord[q]?).any fun i=>Lst listed i
def qe8 (cs:List COper)(an ord:List Nat)(p:Nat):Nat:=qby cs an (ord.take p) (ord.getD p 0)
def qe9 {cs:List COper}{an:List Nat} : ∀(ord ahead:List Nat),(∀i∈ord,i<cs.length)->
  qbz cs an ahead ord=(qe4 cs ord).mapIdx fun p c=>qdZ c (qby cs an (ahead++ord.take p) (ord.getD p 0))
 | [],ahead,_=>rfl
 | x::ord,ahead,h=>by
   have hx:cs[x]? = some (cs[x]'(h x (by simp))):=zzG (h x (by simp))
   have ih:=qe9 (cs:=cs) (an:=an) ord (ahead ++ [x]) (fun i hi=>h i (by simp [hi]))
   unfold qe4 at ih|-
   rw [List.filterMap_cons_some hx,List.mapIdx_cons,qbz,hx]
   simp only [ih]
   congr 1
   ·simp [qdZ]
   ·refine List.mapIdx_eq_mapIdx_iff.2 fun i hi => ?_
    simp
def qfa {cs:List COper}{ord:List Nat}(hb:qbk ops 0=true)(hops:cs.map COper.o=ops)(h:orderOk cs (qbj ops []) ord=true){listed:Array Bool}(hcl:qe0 ops listed)
  {p i:Nat} {c:COper} (hp:ord[p]? = some i) (hc:cs[i]? = some c) (hun:Lst listed i=false) (hdeps:∀d∈qbi c.o,Lst listed d=true) :
  Rdy (qe4 cs ord) (qe8 cs (qbj ops []) ord) (doneS ord listed) p c:=by
 have hl:cs.length=ops.length:=by rw [<-hops];simp
 have o:=qe7 hb hl h
 obtain⟨h1,h2,h3,h4,h5⟩:=qe3 h
 have hopi:∀{i:Nat} {c:COper},cs[i]? = some c->ops[i]? = some c.o:=fun {i c} hc=>by
  have:=congrArg (·[i]?) hops
  simp only [List.getElem?_map,hc,Option.map_some]at this
  exact this.symm
 have hanc:∀j,((qbj ops []).getD i 0).testBit j=true->Lst listed j=true:=qe2 hb hcl i _ (hopi hc) hdeps
 have hup:∀{q j c'},ord[q]? = some j->cs[j]? = some c'->((qbj ops []).getD j 0).testBit i=true->doneS ord listed q=false:=fun {q j c'} hq hc' ht=>by
  simp only [doneS,hq,Option.any_some]
  cases hj:Lst listed j with
  | false=>rfl
  | true =>
    have:=qe2 hb hcl j _ (hopi hc') (hcl j _ (hopi hc') hj) i ht
    rw [hun]at this;cases this
 refine⟨fun q c' hq hc' hk => ?_,fun q c' hq hc' hk => ?_,fun he q c' hq hc' hk => ?_,fun he q c' hq hc' hk => ?_,fun hr => ?_⟩
 ·obtain⟨j,hj1,hj2⟩:=o.at hc'
  obtain⟨a,b,ha,hb',k1,k2⟩:=qeU h5 q p j i hq hj1 hp
  rw [hj2]at ha;injection ha with ha;subst ha
  rw [hc]at hb';injection hb' with hb';subst hb'
  simp only [doneS,hj1,Option.any_some]
  exact hanc j (k1 hk)
 ·obtain⟨j,hj1,hj2⟩:=o.at hc'
  obtain⟨a,b,ha,hb',k1,k2⟩:=qeU h5 p q i j hq hp hj1
  rw [hc]at ha;injection ha with ha;subst ha
  rw [hj2]at hb';injection hb' with hb';subst hb'
  exact hup hj1 hj2 (k1 hk)
 ·obtain⟨j,hj1,hj2⟩:=o.at hc'
  obtain⟨a,b,ha,hb',k1,k2⟩:=qeU h5 q p j i hq hj1 hp
  rw [hj2]at ha;injection ha with ha;subst ha
  rw [hc]at hb';injection hb' with hb';subst hb'
  simp only [doneS,hj1,Option.any_some]
  exact hanc j (k2 ⟨he,hk⟩)
 ·obtain⟨j,hj1,hj2⟩:=o.at hc'
  obtain⟨a,b,ha,hb',k1,k2⟩:=qeU h5 p q i j hq hp hj1
  rw [hc]at ha;injection ha with ha;subst ha
  rw [hj2]at hb';injection hb' with hb';subst hb'
  exact hup hj1 hj2 (k2 ⟨hk,he⟩)
 ·have hgd:ord.getD p 0=i:=by simp [List.getD_eq_getElem?_getD,hp]
  simp only [qe8,qby,hgd,hc,hr,if_true]
  have hpl:p<ord.length:=(zzS.1 hp).1
  have key:∀n,n<=p->((List.range n).filter fun q => !doneS ord listed q&&((qe4 cs ord)[q]?).any fun c'=>qaQ c'.io).length<=
    ((ord.take n).filter fun q=>((cs[q]?).any fun a=>qaQ a.io) && !((qbj ops []).getD i 0).testBit q).length:=by
   intro n
   induction n with
   | zero=>intro _;simp
   | succ n ih =>
     intro hn
     have ih:=ih (by omega)
     have hon:ord[n]? = some ord[n]:=zzG (by omega)
     rw [List.range_succ,List.filter_append,zzM,List.take_add_one,List.filter_append,zzM,hon]
     have:(List.filter (fun q => !doneS ord listed q&&((qe4 cs ord)[q]?).any fun c'=>qaQ c'.io) [n]).length<=
       (List.filter (fun q=>((cs[q]?).any fun a=>qaQ a.io) && !((qbj ops []).getD i 0).testBit q) (some ord[n]).toList).length:=by
      simp only [Option.toList_some,List.filter_cons,List.filter_nil]
      split
      ·rename_i hz
       simp only [Bool.and_eq_true,Bool.not_eq_true',doneS,hon,Option.any_some,qe5 h3,Option.bind_some]at hz
       rw [if_pos]
       ·simp
       ·simp only [Bool.and_eq_true,Bool.not_eq_true']
        refine⟨hz.2, ?_⟩
        cases ht:((qbj ops []).getD i 0).testBit ord[n]with
        | false=>rfl
        | true=>have:=hanc _ ht;rw [hz.1]at this;cases this
      ·simp
     omega
  exact key p (zzR _)
end
def qfb {Z Z':Nat->Bool}{i:Nat}(hZ:Z i=true)(hZ':Z' i=false)(hoth:∀j,j≠i->Z' j=Z j):∀n,((List.range n).filter Z').length+(if i<n then 1 else 0)=((List.range n).filter Z).length
 | 0=>by simp
 | n+1=>by
   have ih:=qfb hZ hZ' hoth n
   rw [List.range_succ,List.filter_append,List.filter_append,zzM,zzM]
   by_cases hi:i=n
   ·subst hi
    simp [List.filter_cons,hZ,hZ']at ih|-
    omega
   ·simp only [List.filter_cons,List.filter_nil,hoth n (Ne.symm hi)]
    split at ih<;>split<;>(try split)<;>simp<;>omega
def qfc {Z:Nat->Bool}{n:Nat}(h:((List.range n).filter Z).length=0)(i:Nat)(hi:i<n):Z i=false:=by
 have:(List.range n).filter Z = []:=List.length_eq_zero_iff.1 h
 rw [List.filter_eq_nil_iff]at this
 simpa using this i (List.mem_range.2 hi)
def qfd {listed:Array Bool}{i j:Nat}(hi:i<listed.size):Lst (listed.setIfInBounds i true) j=(Lst listed j||j==i):=by
 unfold Lst
 by_cases h:i=j
 ·subst h;simp [hi]
 ·rw [getD_set_ne false h]
  have:(j==i)=false:=by simpa using fun e=>h e.symm
  simp [this]
section
variable {call:qaM}{lo:Nat}{f0:Fr}{h0:qab}
variable {P:Program}{B0:Nat}{w0:World}{LB:List Nat}{nt:Nat}{ops:List Oper}{Ef:Emb}{wf:World}{D:List Deferred}{E:Emb}{bx:Nat->Nat}{b:Nat}{a:Act}{w:World}
def qfe {opsA:Array Oper}(hA:opsA.toList=ops){listed:Array Bool}(hsz:listed.size=ops.length){j:Nat} :
  j∈Region.ready .any opsA listed↔Lst listed j=false/\∃o,ops[j]? = some o/\∀d∈qbi o,Lst listed d=true:=by
 rw [mem_ready]
 have hops:opsA[j]? = ops[j]? := by rw [<-hA];simp
 rw [hops]
 constructor
 ·rintro ⟨h0,o,ho,hall⟩
  have hj:=(zzS.1 ho).1
  refine⟨?_,o,ho,fun d hd => ?_⟩
  ·unfold Lst
   rw [Array.getD_eq_getD_getElem?]at h0|-
   rw [Array.getElem?_eq_getElem (by omega)]at h0|-
   exact h0
  ·simp only [qbi,List.mem_map,List.mem_filter]at hd
   obtain⟨e,⟨he,hb⟩,rfl⟩:=hd
   exact hall e (by simpa using he) hb
 ·rintro ⟨h0,o,ho,hall⟩
  have hj:=(zzS.1 ho).1
  refine⟨?_,o,ho,fun e he hb=>hall _ (by simp only [qbi,List.mem_map,List.mem_filter];exact⟨e,⟨by simpa using he,hb⟩,rfl⟩)⟩
  unfold Lst at h0
  rw [Array.getD_eq_getD_getElem?]at h0|-
  rw [Array.getElem?_eq_getElem (by omega)]at h0|-
  exact h0
def qff {cs:List COper}{ord:List Nat}(hb:qbk ops 0=true)(hops:cs.map COper.o=ops)(hoo:orderOk cs (qbj ops []) ord=true)
  {T:Tr call lo (qe4 cs ord) (qe8 cs (qbj ops []) ord) f0 h0} (hm:qdP call) (hB0:B0<=w0.heap.size) (hcall:qd5 P B0 w0 call) {opsA:Array Oper} (hA:opsA.toList=ops)
  (wf':Wf P LB nt ops (qe4 cs ord)) {Q:Exit->Act->World->Prop}
  (hQ:∀E' bx' a' w',Fram B0 w0 LB nt Ef wf D E' bx' (T.F (qe4 cs ord).length) (T.H (qe4 cs ord).length) a' w'->Q .normal a' w') :
  ∀(fuel:Nat) (listed:Array Bool),listed.size=ops.length->qe0 ops listed->((List.range ops.length).filter fun i => !Lst listed i).length<=fuel->
   ∀{E bx b a w},Inv B0 w0 LB nt Ef wf D T (doneS ord listed) E bx b a w->wpAny P .any opsA Q fuel listed a w:=by
 have hl:cs.length=ops.length:=by rw [<-hops];simp
 have o:=qe7 hb hl hoo
 obtain⟨h1,h2,h3,h4,h5⟩:=qe3 hoo
 have hopi:∀{i:Nat} {c:COper},cs[i]? = some c->ops[i]? = some c.o:=fun {i c} hc=>by
  have:=congrArg (·[i]?) hops
  simp only [List.getElem?_map,hc,Option.map_some]at this
  exact this.symm
 -- where nothing is ready all is done
 have hdone:∀{listed:Array Bool},listed.size=ops.length->Region.ready .any opsA listed = []->∀i,i<ops.length->Lst listed i=true:=fun {listed} hsz hr i=>by
  induction i using Nat.strongRecOn with
  | _ i ih =>
    intro hi
    cases hli:Lst listed i with
    | true=>rfl
    | false =>
      have ho:ops[i]? = some ops[i]:=zzG hi
      have:i∈Region.ready .any opsA listed:=(qfe hA hsz).2 ⟨hli,_,ho,fun d hd=>by
       have:=qeY hb i _ ho d hd
       exact ih d (by omega) (by omega)⟩
      rw [hr]at this;cases this
 have hfin:∀{listed:Array Bool} {E bx b a w},(∀i,i<ops.length->Lst listed i=true)->Inv B0 w0 LB nt Ef wf D T (doneS ord listed) E bx b a w->Q .normal a w:=fun {listed E bx b a w} hall inv =>
  hQ _ _ _ _ (inv.finish hm fun p hp=>by
   have hpl:p<ord.length:=by rw [<-o.len];exact hp
   have hop:ord[p]? = some ord[p]:=zzG hpl
   simp only [doneS,hop,Option.any_some]
   exact hall _ (by rw [<-hl];exact h3 _ (List.getElem_mem hpl)))
 intro fuel
 induction fuel with
 | zero =>
   intro listed hsz hcl hcnt E bx b a w inv
   have hall:∀i,i<ops.length->Lst listed i=true:=fun i hi=>by
    have:=qfc (by omega:((List.range ops.length).filter fun i => !Lst listed i).length=0) i hi
    simpa using this
   refine⟨?_,hfin hall inv⟩
   rw [List.eq_nil_iff_forall_not_mem]
   intro j hj
   obtain⟨g1,o',g2,g3⟩:=(qfe hA hsz).1 hj
   have:=hall j (zzS.1 g2).1
   rw [g1]at this;cases this
 | succ fuel ih =>
   intro listed hsz hcl hcnt E bx b a w inv
   refine⟨fun hr=>hfin (hdone hsz hr) inv,fun i hi => ?_⟩
   obtain⟨hun,oi,hoi,hdeps⟩:=(qfe hA hsz).1 hi
   have hil:=(zzS.1 hoi).1
   have hci:cs[i]? = some (cs[i]'(by omega)):=zzG (by omega)
   have hoi':=hopi hci
   rw [hoi]at hoi'
   injection hoi' with hoi'
   subst hoi'
   obtain⟨p,hp,hcp⟩:=o.pos hci
   have hr:=qfa hb hops hoo hcl hp hci hun hdeps
   have hSp:doneS ord listed p=false:=by simp [doneS,hp,hun]
   have hset:doneS ord (listed.setIfInBounds i true)=qd9 (doneS ord listed) p:=by
    funext q
    simp only [doneS,qd9]
    cases hq:ord[q]? with
    | none =>
      have:(q==p)=false:=by
       cases h:q==p with
       | false=>rfl
       | true=>have:q=p:=by simpa using h
               subst this;rw [hp]at hq;cases hq
      simp [this]
    | some j =>
      simp only [Option.any_some]
      rw [qfd (by omega)]
      congr 1
      by_cases hqp:q=p
      ·subst hqp;rw [hp]at hq;injection hq with hq;simp [hq]
      ·have:j≠i:=fun e=>by subst e;exact hqp (o.nodup _ _ _ hq hp)
       have h1:(j==i)=false:=by simpa using this
       have h2:(q==p)=false:=by simpa using hqp
       rw [h1,h2]
   refine inv.step hm wf' hcp hSp hr hB0 inv.later.size hcall hA (i:=i) (by rw [<-hoi,<-hA];simp) fun E' bx' b' a' w' inv' => ?_
   refine ih (listed.setIfInBounds i true) (by simp [hsz]) (fun j oj hj hlj d hd => ?_) ?_ (E:=E') (bx:=bx') (b:=b') (by rw [hset];exact inv')
   ·rw [qfd (by omega)]at hlj|-
    simp only [Bool.or_eq_true]at hlj|-
    rcases hlj with hlj|hlj
    ·exact .inl (hcl j oj hj hlj d hd)
    ·have:j=i:=by simpa using hlj
     subst this
     rw [hoi]at hj
     injection hj with hj
     subst hj
     exact .inl (hdeps d hd)
   ·have:=qfb (Z:=fun i => !Lst listed i) (Z':=fun j => !Lst (listed.setIfInBounds i true) j) (i:=i) (by simp [hun]) (by rw [qfd (by omega)];simp)
     (fun j hj=>by
       have:(j==i)=false:=by simpa using hj
       simp only [qfd (show i<listed.size by omega),this,Bool.or_false]) ops.length
    rw [if_pos hil]at this
    omega
def qfg {id:Nat}{opsA:Array Oper}{draw:Bool}{l:List IOper}(hc:qbA P LB nt opsA.toList draw=some l)(hm:qdP call)(hB0:B0<=w0.heap.size)(hcall:qd5 P B0 w0 call)
  (hmix:P.follows .mixedOrders=true) {f1:Fr} {h1:qab} (hv:yw call lo l f0 h0 []=some (f1,h1)) (fr:Fram B0 w0 LB nt Ef wf D E bx f0 h0 a w) :
  (Code.region id opsA draw).wp P (fun e a' w'=>e = .normal/\∃E' bx',Fram B0 w0 LB nt Ef wf D E' bx' f1 h1 a' w') a w:=by
 unfold qbA at hc
 split at hc<;>try (cases hc;done)
 rename_i cs hcs
 obtain⟨hla,hc⟩:=qc1 hc
 obtain⟨e1,e2⟩:=qeI hcs
 cases draw with
 | false =>
   simp only [Bool.false_eq_true,if_false]at hc
   injection hc with hc
   subst hc
   have:cs.map (fun c=>({dst:=c.dst,op:=c.io,guard:=c.guard,wam:=0} : IOper))=cs.mapIdx fun p c=>qdZ c ((fun _=>0) p):=by
    simp [qdZ,List.mapIdx_eq_zipIdx_map,List.map_eq_map_iff]
    refine List.ext_getElem? fun i => ?_
    simp [List.getElem?_zipIdx]
    rcases cs[i]? with _|c<;>rfl
   rw [this]at hv
   obtain⟨T,hT1,hT2⟩:=qd1 hv
   refine wp_region ?_
   have hsz:opsA.size=cs.length:=by
    have:=congrArg List.length e1
    simpa using this.symm
   rw [hsz,List.range_eq_range']
   refine qeS (T:=T) hm hB0 hcall rfl (qeN hcs hla (qeQ cs)) e1 (fun E' bx' a' w' fr'=>⟨rfl,E',bx',by rw [<-hT1,<-hT2];exact fr'⟩) cs.length 0 (by omega) (E:=E) (bx:=bx) (b:=0) ?_
   have:(fun q=>decide (q<0))=fun _:Nat=>false:=by funext q;simp
   rw [this]
   exact fr.start T
 | true =>
   simp only [if_true]at hc
   obtain⟨hb,hc⟩:=qc0 hc
   simp only [Bool.and_eq_true]at hb
   obtain⟨hb,hoo⟩:=hb
   subst hc
   generalize hord:qbw cs (qbj opsA.toList [])=ord at hoo hv
   have hl:cs.length=opsA.toList.length:=by rw [<-e1];simp
   obtain⟨h1,h2,h3,h4,h5⟩:=qe3 hoo
   rw [qe9 ord [] h3]at hv
   simp only [List.nil_append]at hv
   obtain⟨T,hT1,hT2⟩:=qd1 (ck:=qe8 cs (qbj opsA.toList []) ord) hv
   refine wp_region_any hmix ?_
   have fr':Fram B0 w0 LB nt Ef wf D E bx f0 h0 a w.drew:=⟨qdD fr.yV,fr.slot,fr.box,fr.sep,⟨fr.later.le,fr.later.new,fr.later.size,fr.later.kept⟩,fr.tmps,fr.defers⟩
   refine qff (T:=T) hb e1 hoo hm hB0 hcall rfl (qeN hcs hla (qe7 hb hl hoo)) (fun E' bx' a' w' fr'=>⟨rfl,E',bx',by rw [<-hT1,<-hT2];exact fr'⟩) opsA.size _ (by simp) ?_ ?_ (E:=E) (bx:=bx) (b:=0) ?_
   ·intro i o ho hl' d hd
    simp [Lst,Array.getD_eq_getD_getElem?,Array.getElem?_replicate]at hl'
    split at hl'<;>simp at hl'
   ·refine Nat.le_trans (List.length_filter_le _ _) ?_
    simp
   ·have:doneS ord (Array.replicate opsA.size false)=fun _=>false:=by
     funext q
     simp only [doneS]
     cases ord[q]? with
     | none=>rfl
     | some j =>
       simp [Lst,Array.getD_eq_getD_getElem?,Array.getElem?_replicate]
       split<;>rfl
    rw [this]
    exact fr'.start T
end
structure Kp (lo:Nat)(h h':qab):Prop where
 len:h.length<=h'.length
 keep:lo<=h.length->∀i,i<lo->h'[i]? = h[i]?
def Kp.refl (lo:Nat)(h:qab):Kp lo h h:=⟨zzR _,fun _ _ _=>rfl⟩
def Kp.trans {lo:Nat}{h h' h'':qab}(a:Kp lo h h')(b:Kp lo h' h''):Kp lo h h'' :=
 ⟨Nat.le_trans a.len b.len,fun hl i hi=>(b.keep (Nat.le_trans hl a.len) i hi).trans (a.keep hl i hi)⟩
def Kp.append {lo:Nat}{h:qab}(k:List Blk):Kp lo h (h++k):=⟨by simp,fun hl i hi=>zzA (by omega)⟩
def Kp.set {lo i:Nat}{h:qab}{k:Blk}(hi:lo<=i):Kp lo h (h.set i k):=⟨by simp,fun hl j hj=>zzN (by omega)⟩
def qfh (lo:Nat)(call:qaM):Prop:=∀g vs h v h',call g vs h=some (v,h')->Kp lo h h'
def qfi {lo:Nat}{h h':qab}{a:Addr}{vs:List Value}(hs:stN lo h a vs=some h'):Kp lo h h':=by
 unfold stN at hs
 split at hs<;>try (cases hs;done)
 obtain⟨hl,hs⟩:=qc1 hs
 obtain⟨_,hs⟩:=qc1 hs
 obtain⟨_,rfl⟩:=qc0 hs
 exact .set hl
def qfj {lo esz bytes:Nat}{h h':qab}{x y v:Value}(hs:qaE lo esz bytes h x y=some (v,h')):Kp lo h h':=by
 unfold qaE at hs
 split at hs<;>try (cases hs;done)
 obtain⟨_,hs⟩:=qc1 hs
 split at hs<;>try (cases hs;done)
 split at hs
 ·split at hs
  ·injection hs with hs;injection hs with _ e;subst e;exact .refl _ _
  ·injection hs with hs;injection hs with _ e;subst e;exact .append _
 ·split at hs
  ·split at hs
   ·split at hs
    ·injection hs with hs;injection hs with _ e;subst e;exact .refl _ _
    ·split at hs<;>try (cases hs;done)
     rename_i h1
     injection hs with hs;injection hs with _ e;subst e
     exact qfi h1
   ·split at hs<;>try (cases hs;done)
    injection hs with hs;injection hs with _ e;subst e;exact .append _
  ·split at hs
   ·injection hs with hs;injection hs with _ e;subst e;exact .refl _ _
   ·split at hs<;>try (cases hs;done)
    obtain⟨hc,hs⟩:=qc0 hs
    injection hs with _ e;subst e;exact(Kp.set hc.2).trans (.append _)
def qfk {call:qaM}{lo:Nat}(hk:qfh lo call){o:IOp}{f:Fr}{h h':qab}{v:Value}(hv:yf call lo o f h=some (v,h')):Kp lo h h':=by
 cases hal:qbl o with
 | true=>obtain⟨k,rfl⟩:=qeq hal hv;exact .append _
 | false =>
   cases hef:qaQ o with
   | false=>rw [qer hef hal hv];exact .refl _ _
   | true =>
     have fin:∀{u:Value} {k:qab},(some (u,k):Option (Value×qab))=some (v,h')->Kp lo h k->Kp lo h h':=fun e l=>by
      injection e with e;injection e with _ e;subst e;exact l
     cases o<;>simp [qaQ]at hef<;>simp only [yf]at hv
     case store n x y =>
      split at hv<;>try (cases hv;done)
      obtain⟨_,hv⟩:=qc1 hv
      split at hv<;>try (cases hv;done)
      rename_i h1
      exact fin hv (qfi h1)
     case call g args =>
      split at hv<;>try (cases hv;done)
      exact hk _ _ _ _ _ hv
     case yt x args =>
      split at hv<;>try (cases hv;done)
      split at hv<;>try (cases hv;done)
      exact hk _ _ _ _ _ hv
     case invoke tab x args =>
      split at hv<;>try (cases hv;done)
      split at hv<;>try (cases hv;done)
      exact hk _ _ _ _ _ hv
     case append esz bytes x y =>
      split at hv<;>try (cases hv;done)
      exact qfj hv
     case copy esz x y =>
      split at hv<;>try (cases hv;done)
      split at hv<;>try (cases hv;done)
      split at hv<;>try (cases hv;done)
      split at hv
      ·exact fin hv (.refl _ _)
      ·split at hv
       ·exact fin hv (.refl _ _)
       ·split at hv<;>try (cases hv;done)
        rename_i h1
        exact fin hv (qfi h1)
     case clear esz zero x =>
      split at hv<;>try (cases hv;done)
      split at hv
      ·exact fin hv (.refl _ _)
      ·split at hv
       ·exact fin hv (.refl _ _)
       ·split at hv<;>try (cases hv;done)
        rename_i h1
        exact fin hv (qfi h1)
     case yH m k x =>
      split at hv<;>try (cases hv;done)
      obtain⟨hc,hv⟩:=qc1 hv
      split at hv<;>try (cases hv;done)
      split at hv<;>try (cases hv;done)
      exact fin hv (.set hc.2)
     case yF m k =>
      split at hv<;>try (cases hv;done)
      obtain⟨_,hv⟩:=qc1 hv
      split at hv
      ·exact fin hv (.refl _ _)
      ·obtain⟨hc,hv⟩:=qc1 hv
       split at hv<;>try (cases hv;done)
       split at hv<;>try (cases hv;done)
       exact fin hv (.set hc)
def qfl {call:qaM}{lo:Nat}(hk:qfh lo call):∀{os:List IOper} {f f':Fr} {h h':qab} {hs:List qab},yw call lo os f h hs=some (f',h')->Kp lo h h'
 | [],f,f',h,h',hs,hv=>by simp [yw]at hv;rw [hv.2];exact .refl _ _
 | o::os,f,f',h,h',hs,hv=>by
   simp only [yw]at hv
   split at hv<;>try (cases hv;done)
   ·exact qfl hk hv
   ·split at hv<;>try (cases hv;done)
    rename_i hi
    obtain⟨_,hv⟩:=qc1 hv
    exact(qfk hk hi).trans (qfl hk hv)
def qfm {n0:Nat}{h':qab}{v v':Value}{acc acc':qab}(ht:qaW n0 h' v acc=some (v',acc')):acc'=acc\/(acc.length=n0/\∃k,acc'=acc ++ [k]):=by
 unfold qaW at ht
 split at ht
 ·split at ht
  ·injection ht with ht;injection ht with _ e;exact .inl e.symm
  ·split at ht<;>try (cases ht;done)
   obtain⟨hc,ht⟩:=qc0 ht
   injection ht with _ e
   exact .inr ⟨hc.2,_,e.symm⟩
 ·obtain⟨_,ht⟩:=qc0 ht
  injection ht with _ e;exact .inl e.symm
def qfn {n0 lo:Nat}{h':qab} : ∀{vs vs':List Value} {acc acc':qab},qaX n0 h' vs acc=some (vs',acc')->Kp lo acc acc'
 | [],vs',acc,acc',ht=>by simp [qaX]at ht;rw [ht.2];exact .refl _ _
 | v::vs,vs',acc,acc',ht=>by
   simp only [qaX]at ht
   split at ht<;>try (cases ht;done)
   rename_i v1 acc1 h1
   split at ht<;>try (cases ht;done)
   rename_i vs1 acc2 h2
   injection ht with ht;injection ht with _ e;subst e
   have k2:=qfn (lo:=lo) h2
   rcases qfm h1 with rfl|⟨_,k,rfl⟩
   ·exact k2
   ·exact(Kp.append _).trans k2
def qfo {lo:Nat}{h h' h'':qab}{v v':Value}(ht:tidy h v h'=some (v',h'')):Kp lo h h'':=by
 unfold tidy at ht
 split at ht
 ·split at ht<;>try (cases ht;done)
  rename_i h1
  injection ht with ht;injection ht with _ e;subst e
  exact qfn h1
 ·rcases qfm ht with rfl|⟨_,k,rfl⟩
  ·exact .refl _ _
  ·exact .append _
def qfp (ex:ExF):Prop:=∀lo items f h f' h',ex lo items f h=some (f',h')->Kp lo h h'
def qfq (E:Env):Prop:=∀g p,E.yS g=some p->∀lo vs h v h',p lo vs h=some (v,h')->Kp lo h h'
def qfr {E:Env}{ex:ExF}(hp:qfq E)(hx:qfp ex)(lo:Nat):qfh lo (qaZ E ex lo):=by
 intro g vs h v h' hv
 unfold qaZ at hv
 split at hv
 ·rename_i p hpr;exact hp g p hpr _ _ _ _ _ hv
 ·split at hv<;>try (cases hv;done)
  rename_i fn hfn
  split at hv<;>try (cases hv;done)
  split at hv<;>try (cases hv;done)
  rename_i f1 h1 he
  split at hv<;>try (cases hv;done)
  rename_i v1 hr
  have hk:=hx _ _ _ _ _ _ he
  split at hv
  ·exact qfo hv
  ·rename_i hs
   injection hv with hv;injection hv with _ e;subst e
   simp only [hs]at hk
   exact hk
def qfs {E:Env}(hp:qfq E):∀n,qfp (yq E n)
 | 0=>fun lo items f h f' h' hv=>by simp [yq]at hv
 | n+1=>fun lo items f h f' h' hv=>by
   have ih:=qfs hp n
   cases items with
   | nil=>simp [yq]at hv;rw [hv.2];exact .refl _ _
   | cons it k =>
     cases it with
     | yC id=>simp only [yq]at hv;exact ih _ _ _ _ _ _ hv
     | again ls b=>simp only [yq]at hv;exact ih _ _ _ _ _ _ hv
     | inScope b=>simp only [yq]at hv;exact ih _ _ _ _ _ _ hv
     | code c =>
       cases c<;>simp only [yq]at hv
       case region ops =>
        split at hv<;>try (cases hv;done)
        rename_i h1
        exact(qfl (qfr hp ih lo) h1).trans (ih _ _ _ _ _ _ hv)
       case cond c a b =>
        split at hv<;>try (cases hv;done)
        exact ih _ _ _ _ _ _ hv
       case exit id =>
        split at hv<;>try (cases hv;done)
        exact ih _ _ _ _ _ _ hv
       case goto l ls =>
        split at hv<;>try (cases hv;done)
        exact ih _ _ _ _ _ _ hv
       case ret=>injection hv with hv;injection hv with _ e;subst e;exact .refl _ _
       all_goals exact ih _ _ _ _ _ _ hv
def qft {E:Env}(hp:qfq E)(n lo:Nat):qdP (qaZ E (yq E n) lo):=fun g vs h v h' hv=>(qfr hp (qfs hp n) lo g vs h v h' hv).len
section
variable {P:Program}{LB:List Nat}{nt:Nat}
inductive qfu (P:Program)(LB:List Nat)(nt:Nat):Item->Go.Item->Prop where
 | code (c:Code) (i:ICode) (hs hs':List (List Nat)) (h:qbB P LB nt c hs=some (i,hs')):qfu P LB nt (.code i) (.code c)
 | yC (id:Nat):qfu P LB nt (.yC id) (.inBlock id)
 | again (ls:List Nat) (c:Code) (i:ICode) (hs hs':List (List Nat)) (h:qbB P LB nt c hs=some (i,hs')):qfu P LB nt (.again ls i) (.inLoop c)
 | inScope (c:Code) (i:ICode) (hs hs':List (List Nat)) (h:qbB P LB nt c hs=some (i,hs')):qfu P LB nt (.inScope i) (.inScope c)
inductive KRel (P:Program)(LB:List Nat)(nt:Nat):List Item->List Go.Item->Prop where
 | nil:KRel P LB nt [] []
 | cons (x:Item) (y:Go.Item) (xs:List Item) (ys:List Go.Item) (h:qfu P LB nt x y) (hs:KRel P LB nt xs ys):KRel P LB nt (x::xs) (y::ys)
def qfv:∀{c:Code} {i:ICode} {hs hs':List (List Nat)} {l:Nat},qbB P LB nt c hs=some (i,hs')->
  (∀r,qaS i l=some r->∃rc hs1,findLabel c l=some rc/\qbB P LB nt rc hs1=some (r,hs'))/\(qaS i l=none->findLabel c l=none):=by
 intro c
 induction c with
 | seq a b iha ihb =>
   intro i hs hs' l hc
   simp only [qbB]at hc
   split at hc<;>try (cases hc;done)
   rename_i a' hs1 ha
   split at hc<;>try (cases hc;done)
   rename_i b' hs2 hb
   injection hc with hc;injection hc with e1 e2;subst e1 e2
   obtain⟨a1,a2⟩:=iha (l:=l) ha
   obtain⟨b1,b2⟩:=ihb (l:=l) hb
   refine⟨fun r hr => ?_,fun hr => ?_⟩
   ·simp only [qaS]at hr
    split at hr
    ·rename_i r' hr'
     injection hr with hr;subst hr
     obtain⟨rc,hs3,g1,g2⟩:=a1 r' hr'
     exact⟨.seq rc b,hs3,by simp [findLabel,g1],by simp [qbB,g2,hb]⟩
    ·rename_i hn
     obtain⟨rc,hs3,g1,g2⟩:=b1 r hr
     exact⟨rc,hs3,by simp [findLabel,a2 hn,g1],g2⟩
   ·simp only [qaS]at hr
    split at hr
    ·cases hr
    ·rename_i hn
     simp [findLabel,a2 hn,b2 hr]
 | label j =>
   intro i hs hs' l hc
   simp only [qbB,Option.some.injEq,Prod.mk.injEq]at hc
   obtain⟨rfl,rfl⟩:=hc
   refine⟨fun r hr => ?_,fun hr => ?_⟩
   ·simp only [qaS]at hr
    obtain⟨h1,rfl⟩:=qc0 hr
    exact⟨.skip,hs,by simp [findLabel,h1],rfl⟩
   ·simp only [qaS]at hr
    split at hr
    ·cases hr
    ·rename_i h;simp [findLabel,h]
 | _ =>
   intro i hs hs' l hc
   have hni:qaS i l=none:=by
    simp only [qbB]at hc
    repeat' (split at hc)
    all_goals first
     | (cases hc;done)
     | (injection hc with hc;injection hc with e1 e2;subst e1;rfl)
     | (obtain⟨x,_,e⟩:=qc2 hc;injection e with e1 e2;subst e1;rfl)
   exact⟨fun r hr=>(by rw [hni]at hr;cases hr),fun _=>rfl⟩
def KRel.exit {id:Nat} : ∀{ki k':List Item} {k:List Go.Item},KRel P LB nt ki k->qaR id ki=some k'->∃k2,exitTo id k=some k2/\KRel P LB nt k' k2
 | _,_,_,.nil,h=>by simp [qaR]at h
 | _,k',_,.cons x y xs ys hx hs,h=>by
   cases hx with
   | yC j =>
     simp only [qaR]at h
     by_cases hj:j=id
     ·rw [if_pos hj]at h
      injection h with h;subst h
      exact⟨ys,by simp [exitTo,hj],hs⟩
     ·rw [if_neg hj]at h
      obtain⟨k2,h1,h2⟩:=hs.exit h
      exact⟨k2,by simp [exitTo,hj,h1],h2⟩
   | code c i hs1 hs2 hc=>simp only [qaR]at h;obtain⟨k2,h1,h2⟩:=hs.exit h;exact⟨k2,by simp [exitTo,h1],h2⟩
   | again ls c i hs1 hs2 hc=>simp only [qaR]at h;obtain⟨k2,h1,h2⟩:=hs.exit h;exact⟨k2,by simp [exitTo,h1],h2⟩
   | inScope c i hs1 hs2 hc=>simp only [qaR]at h;obtain⟨k2,h1,h2⟩:=hs.exit h;exact⟨k2,by simp [exitTo,h1],h2⟩
def KRel.goto {l:Nat} : ∀{ki k':List Item} {k:List Go.Item},KRel P LB nt ki k->qaT l ki=some k'->∃k2,gotoIn l k=some k2/\KRel P LB nt k' k2
 | _,_,_,.nil,h=>by simp [qaT]at h
 | _,k',_,.cons x y xs ys hx hs,h=>by
   cases hx with
   | inScope c i hs1 hs2 hc =>
     obtain⟨f1,f2⟩:=qfv (l:=l) hc
     simp only [qaT]at h
     split at h
     ·rename_i r hr
      injection h with h;subst h
      obtain⟨rc,hs3,g1,g2⟩:=f1 r hr
      exact⟨_,by simp only [gotoIn,g1],.cons _ _ _ _ (.code rc r hs3 hs2 g2) (.cons _ _ _ _ (.inScope c i hs1 hs2 hc) hs)⟩
     ·rename_i hn
      obtain⟨k2,h1,h2⟩:=hs.goto h
      exact⟨k2,by simp [gotoIn,f2 hn,h1],h2⟩
   | yC j=>simp only [qaT]at h;obtain⟨k2,h1,h2⟩:=hs.goto h;exact⟨k2,by simp [gotoIn,h1],h2⟩
   | code c i hs1 hs2 hc=>simp only [qaT]at h;obtain⟨k2,h1,h2⟩:=hs.goto h;exact⟨k2,by simp [gotoIn,h1],h2⟩
   | again ls c i hs1 hs2 hc=>simp only [qaT]at h;obtain⟨k2,h1,h2⟩:=hs.goto h;exact⟨k2,by simp [gotoIn,h1],h2⟩
def qfw {f:Fr}{t:Nat}{v:Value} : ∀{ls:List Nat},qaa (keep ls f) t=some v->qaa f t=some v
 | [],h=>by simp [keep,qaa]at h
 | s::ls,h=>by
   simp only [keep]at h
   split at h
   ·rename_i u hu
    simp only [qaa]at h
    split at h
    ·rename_i e;subst e;injection h with h;subst h;exact hu
    ·exact qfw h
   ·exact qfw h
def Fram.keep {B0:Nat}{w0:World}{Ef:Emb}{wf:World}{D:List Deferred}{E:Emb}{bx:Nat->Nat}{f:Fr}{h:qab}{a:Act}{w:World}(fr:Fram B0 w0 LB nt Ef wf D E bx f h a w)(ls:List Nat) :
  Fram B0 w0 LB nt Ef wf D E bx (Ir.keep ls f) h a w :=
 ⟨fr.yV,fun t v hl hf=>fr.slot t v hl (qfw hf),fun t v hl hf hv=>fr.box t v hl (qfw hf) hv,fun t t' v v' hl hl' hne hf hf' hv hv'=>fr.sep t t' v v' hl hl' hne (qfw hf) (qfw hf') hv hv',
   fr.later,fr.tmps,fr.defers⟩
end
section
variable {P:Program}
def qfx (P:Program)(E:Env)(n:Nat):Prop:=∀(B0:Nat) (w0:World) (lo:Nat),B0<=w0.heap.size->qd5 P B0 w0 (qaZ E (yq E n) lo)
def qfy (P:Program)(E:Env)(n:Nat):Prop :=
 ∀(B0:Nat) (w0:World) (LB:List Nat) (nt:Nat) (Ef:Emb) (wf:World) (D:List Deferred),B0<=w0.heap.size->
 ∀(lo:Nat) (items:List Item) (f:Fr) (h:qab) (f':Fr) (h':qab),yq E n lo items f h=some (f',h')->
 ∀(k:List Go.Item) (Em:Emb) (bx:Nat->Nat) (a:Act) (w:World),KRel P LB nt items k->Fram B0 w0 LB nt Ef wf D Em bx f h a w->
 ∀(b:Frame) (cs:List Frame),∃a' w' Em' bx' todo,Fram B0 w0 LB nt Ef wf D Em' bx' f' h' a' w'/\Steps P (lone (b.at a k) cs w) (lone {b.at a' todo with mode := .returning} cs w')
def qfz (E:Env)(hp:qfq E)(hmix:P.follows .mixedOrders=true):∀n,(∀m,m<n->qfx P E m)->qfy P E n
 | 0,_=>fun _ _ _ _ _ _ _ _ lo items f h f' h' hv=>by simp [yq]at hv
 | n+1,hcalls=>by
   have ih:=qfz E hp hmix n fun m hm=>hcalls m (by omega)
   intro B0 w0 LB nt Ef wf D hB0 lo items f h f' h' hv k Em bx a w hk fr b cs
   -- one step, then the rest
   have go:∀{items1:List Item} {f1:Fr} {h1:qab} {k1:List Go.Item} {Em1:Emb} {bx1:Nat->Nat} {a1:Act} {w1:World},yq E n lo items1 f1 h1=some (f',h')->KRel P LB nt items1 k1->
     Fram B0 w0 LB nt Ef wf D Em1 bx1 f1 h1 a1 w1->Steps P (lone (b.at a k) cs w) (lone (b.at a1 k1) cs w1)->
     ∃a' w' Em' bx' todo,Fram B0 w0 LB nt Ef wf D Em' bx' f' h' a' w'/\Steps P (lone (b.at a k) cs w) (lone {b.at a' todo with mode := .returning} cs w'):=fun h1 h2 h3 h4=>by
    obtain⟨a',w',Em',bx',todo,g1,g2⟩:=ih B0 w0 LB nt Ef wf D hB0 lo _ _ _ f' h' h1 _ _ _ _ _ h2 h3 b cs
    exact⟨a',w',Em',bx',todo,g1,h4.trans g2⟩
   cases hk with
   | nil =>
     simp only [yq,Option.some.injEq,Prod.mk.injEq]at hv
     obtain⟨rfl,rfl⟩:=hv
     exact⟨a,w,Em,bx,[],fr,.one step_end⟩
   | cons x y xs ys hx hs =>
     cases hx with
     | yC id=>simp only [yq]at hv;exact go hv hs fr (.one step_inBlock)
     | inScope c i hs1 hs2 hc=>simp only [yq]at hv;exact go hv hs fr (.one step_inScope)
     | again ls c i hs1 hs2 hc =>
       simp only [yq]at hv
       exact go hv (.cons _ _ _ _ (.code c i hs1 hs2 hc) (.cons _ _ _ _ (.again ls c i hs1 hs2 hc) hs)) (fr.keep ls) (.one step_inLoop)
     | code c i hs1 hs2 hc =>
       cases c with
       | skip =>
         simp only [qbB,Option.some.injEq,Prod.mk.injEq]at hc
         obtain⟨rfl,rfl⟩:=hc
         simp only [yq]at hv
         exact go hv hs fr (.one step_skip)
       | region id ops draw =>
         simp only [qbB]at hc
         obtain⟨l,hl,e⟩:=qc2 hc
         injection e with e1 e2
         subst e1 e2
         simp only [yq]at hv
         split at hv<;>try (cases hv;done)
         rename_i f1 h1 hio
         obtain⟨e,a1,w1,⟨he,Em1,bx1,fr1⟩,harr⟩:=qfg (id:=id) hl (qft hp n lo) hB0 (hcalls n (by omega) B0 w0 lo hB0) hmix hio fr b ys cs
         subst he
         exact go hv hs fr1 harr
       | seq c1 c2 =>
         simp only [qbB]at hc
         split at hc<;>try (cases hc;done)
         rename_i a' hs3 ha
         split at hc<;>try (cases hc;done)
         rename_i b' hs4 hb
         injection hc with hc;injection hc with e1 e2;subst e1 e2
         simp only [yq]at hv
         exact go hv (.cons _ _ _ _ (.code c1 a' hs1 hs3 ha) (.cons _ _ _ _ (.code c2 b' hs3 hs4 hb) hs)) fr (.one step_seq)
       | cond c c1 c2 =>
         simp only [qbB]at hc
         split at hc<;>try (cases hc;done)
         rename_i hok
         split at hc<;>try (cases hc;done)
         rename_i a' hs3 ha
         split at hc<;>try (cases hc;done)
         rename_i b' hs4 hb
         injection hc with hc;injection hc with e1 e2;subst e1 e2
         simp only [yq]at hv
         split at hv<;>try (cases hv;done)
         rename_i t ht
         have hvr:=qbR (LB:=LB) (F:=Em) (f:=f) (a:=a) hok (fun t' ht' hl u hu=>fr.slot t' u hl hu) ht
         generalize hce:a.eval c=cv at hvr
         cases hvr
         refine go hv (.cons _ _ _ _ ?_ hs) fr (.one (step_cond hce))
         cases t
         ·exact .code c2 b' hs3 hs4 hb
         ·exact .code c1 a' hs1 hs3 ha
       | block id c1 =>
         simp only [qbB]at hc
         split at hc<;>try (cases hc;done)
         rename_i b' hs4 hb
         injection hc with hc;injection hc with e1 e2;subst e1 e2
         simp only [yq]at hv
         exact go hv (.cons _ _ _ _ (.code c1 b' hs1 hs4 hb) (.cons _ _ _ _ (.yC id) hs)) fr (.one step_block)
       | loop c1 =>
         simp only [qbB]at hc
         split at hc<;>try (cases hc;done)
         rename_i ls hs3
         split at hc<;>try (cases hc;done)
         rename_i b' hs4 hb
         injection hc with hc;injection hc with e1 e2;subst e1 e2
         simp only [yq]at hv
         exact go hv (.cons _ _ _ _ (.code c1 b' _ hs4 hb) (.cons _ _ _ _ (.again ls c1 b' _ hs4 hb) hs)) (fr.keep ls) (.one step_loop)
       | exit id =>
         simp only [qbB,Option.some.injEq,Prod.mk.injEq]at hc
         obtain⟨rfl,rfl⟩:=hc
         simp only [yq]at hv
         split at hv<;>try (cases hv;done)
         rename_i k' hk'
         obtain⟨k2,g1,g2⟩:=hs.exit hk'
         exact go hv g2 fr (.one (step_exit g1))
       | scope c1 =>
         simp only [qbB]at hc
         split at hc<;>try (cases hc;done)
         rename_i b' hs4 hb
         injection hc with hc;injection hc with e1 e2;subst e1 e2
         simp only [yq]at hv
         exact go hv (.cons _ _ _ _ (.code c1 b' hs1 hs4 hb) (.cons _ _ _ _ (.inScope c1 b' hs1 hs4 hb) hs)) fr (.one step_scope)
       | label l =>
         simp only [qbB,Option.some.injEq,Prod.mk.injEq]at hc
         obtain⟨rfl,rfl⟩:=hc
         simp only [yq]at hv
         exact go hv hs fr (.one step_label)
       | goto l =>
         simp only [qbB]at hc
         split at hc<;>try (cases hc;done)
         rename_i ls hs3
         injection hc with hc;injection hc with e1 e2;subst e1 e2
         simp only [yq]at hv
         split at hv<;>try (cases hv;done)
         rename_i k' hk'
         obtain⟨k2,g1,g2⟩:=hs.goto hk'
         exact go hv g2 (fr.keep ls) (.one (step_goto g1))
       | ret =>
         simp only [qbB,Option.some.injEq,Prod.mk.injEq]at hc
         obtain⟨rfl,rfl⟩:=hc
         simp only [yq,Option.some.injEq,Prod.mk.injEq]at hv
         obtain⟨rfl,rfl⟩:=hv
         exact⟨a,w,Em,bx,_,fr,.one step_ret⟩
       | _=>simp [qbB]at hc
def qfA {B0:Nat}{E:Emb}{w:World}{cs:Array Value}{c v:Value}{b:Nat}{t:TypeId}{n:Option Nat}(hn:tyN P t=some n)(hb:Boxed B0 E w (.agg cs) c b)
  (hp:part n cs.toList 0=some v):∃d,(loadVar t ⟨b,0,none⟩).run P w = .ok d w/\VR E v d:=by
 obtain⟨cs',C,ct,h1,h2,h3,h4,h5⟩:=hb
 injection h1 with h1
 subst h1
 have hag:=qbL hn w
 cases n with
 | none =>
   simp only [part]at hp
   obtain⟨d,h6,h7⟩:=h4.get hp
   refine⟨d, ?_,h7⟩
   have:w.cell? ⟨b,0,none⟩=some d:=by rw [qc4 h3];simpa using h6
   simp [loadVar,hag,this]
 | some n =>
   simp only [part]at hp
   obtain⟨hle,rfl⟩:=qc0 hp
   have hl:=h4.length
   simp at hl hle
   have hr:=qc5 (P:=P) h3 (o:=0) (n:=n) (by omega)
   refine⟨.agg (((C.toList.drop 0).take n).toArray), ?_,.agg _ _ ?_⟩
   ·simp only [loadVar,Sem.run_bind,hag,Result.andThen_ok,Option.isSome_some,if_true,qbG (qbM hn),hr]
    rfl
   ·simp only [List.toList_toArray]
    exact(h4.drop 0).take n
def qfB (tmps:Array Value):ResultVar->Sem Value
 | .tmp t=>pure (tmps.getD t undef)
 | .cell a t=>do loadVar t (<-asAddr (tmps.getD a undef))
def qfC {B0:Nat}{w0:World}{LB:List Nat}{nt:Nat}{Ef:Emb}{wf:World}{D:List Deferred}{E:Emb}{bx:Nat->Nat}{f:Fr}{h:qab}{a:Act}{w:World}
  (fr:Fram B0 w0 LB nt Ef wf D E bx f h a w):∀{l:List ResultVar} {rs:List qaj} {vs:List Value},l.mapM (qbC P LB)=some rs->qaV f h rs=some vs->
    ∃cs:List Value,(l.mapM (qfB a.tmps)).run P w = .ok cs w/\VRs E vs cs
 | [],rs,vs,hm,hv=>by
   simp at hm
   subst hm
   simp [qaV]at hv
   subst hv
   exact⟨[],by simp [List.mapM_nil],.nil⟩
 | r::l,rs,vs,hm,hv=>by
   rw [List.mapM_cons]at hm
   cases hr:qbC P LB r with
   | none=>rw [hr]at hm;simp at hm
   | some x =>
     rw [hr]at hm
     cases hl:l.mapM (qbC P LB)with
     | none=>rw [hl]at hm;simp at hm
     | some xs =>
       rw [hl]at hm
       simp at hm
       subst hm
       simp only [qaV]at hv
       split at hv<;>try (cases hv;done)
       rename_i v hx
       split at hv<;>try (cases hv;done)
       rename_i vs' hxs
       injection hv with hv
       subst hv
       obtain⟨cs,h1,h2⟩:=qfC fr hl hxs
       have hone:∃c,(qfB a.tmps r).run P w = .ok c w/\VR E v c:=by
        cases r with
        | tmp t =>
          simp only [qbC]at hr
          split at hr
          ·cases hr
          ·rename_i hnl
           injection hr with hr
           subst hr
           exact⟨_,by simp [qfB],fr.slot t v (by simpa using hnl) hx⟩
        | cell t ty =>
          simp only [qbC]at hr
          obtain⟨n,hn,hr⟩:=qc2 hr
          subst hr
          by_cases hlb:LB.contains t=true
          ·rw [if_pos hlb]at hx
           simp only [qaU]at hx
           split at hx<;>try (cases hx;done)
           rename_i cs0 hcs0
           obtain⟨hb,_,_⟩:=fr.box t _ hlb hcs0 (by simp [qag])
           obtain⟨d,g1,g2⟩:=qfA hn hb hx
           obtain⟨_,_,_,_,h2',_⟩:=hb
           exact⟨d,by simp only [qfB,h2',asAddr,Sem.run_bind,Sem.run_pure,Result.andThen_ok,g1],g2⟩
          ·rw [if_neg hlb]at hx
           simp only [qaU]at hx
           split at hx<;>try (cases hx;done)
           rename_i ad had
           have hp:=fr.slot t _ (by simpa using hlb) had
           generalize hce:a.tmps.getD t undef=cv at hp
           cases hp with
           | ptr _ c e hs he hc =>
             obtain⟨d,g1,g2⟩:=qdd (P:=P) hn he hc fr.yV.has hx
             exact⟨d,by simp only [qfB,hce,asAddr,Sem.run_bind,Sem.run_pure,Result.andThen_ok,g1],g2⟩
       obtain⟨c,g1,g2⟩:=hone
       exact⟨c::cs,by simp only [List.mapM_cons,Sem.run_bind,g1,Result.andThen_ok,h1,Sem.run_pure],.cons _ _ _ _ g2 h2⟩
def qfD (fn:Func)(tmps:Array Value):Go.results fn tmps=(do let vs <-fn.results.mapM (qfB tmps);pure (if h:vs.size=1 then vs[0]else .tuple vs)):=by
 unfold Go.results
 congr 1
def qfE {B0:Nat}{w0:World}{LB:List Nat}{nt:Nat}{Ef:Emb}{wf:World}{D:List Deferred}{E:Emb}{bx:Nat->Nat}{f:Fr}{h:qab}{a:Act}{w:World}
  (fr:Fram B0 w0 LB nt Ef wf D E bx f h a w) {F:Func} {rs:List qaj} {v:Value} (hm:F.results.toList.mapM (qbC P LB)=some rs) (hv:results rs f h=some v) :
  ∃c,(Go.results F a.tmps).run P w = .ok c w/\VR E v c:=by
 unfold results at hv
 cases hl:qaV f h rs with
 | none=>rw [hl]at hv;cases hv
 | some vs =>
   rw [hl]at hv
   obtain⟨cs,h1,h2⟩:=qfC fr hm hl
   have hrun:(Go.results F a.tmps).run P w = .ok (if h:cs.toArray.size=1 then cs.toArray[0]else .tuple cs.toArray) w:=by
    rw [qfD,Array.mapM_eq_mapM_toList]
    simp only [Sem.run_bind,Sem.run_map,h1,Result.andThen_ok,Sem.run_pure]
   refine⟨_,hrun, ?_⟩
   cases h2 with
   | nil =>
     simp at hv
     subst hv
     exact .tuple _ _ (by simpa using VRs.nil)
   | cons v1 c1 vs1 cs1 g1 g2 =>
     cases g2 with
     | nil =>
       simp at hv
       subst hv
       simpa using g1
     | cons v2 c2 vs2 cs2 g3 g4 =>
       simp at hv
       subst hv
       rw [dif_neg (by simp)]
       exact .tuple _ _ (.cons _ _ _ _ g1 (.cons _ _ _ _ g3 g4))
end
mutual
def VR.cut {E E':Emb}{n:Nat}(hd:∀i e,E i=some e->i<n):∀{v c c':Value},VR E v c->VR E' v c'->VR (res E' n) v c'
 | _,_,_,.any _,.any c => .any c
 | _,_,_,.bool b,.bool _ => .bool b
 | _,_,_,.int k n,.int _ _ => .int k n
 | _,_,_,.float k n,.float _ _ => .float k n
 | _,_,_,.complex k n m,.complex _ _ _ => .complex k n m
 | _,_,_,.string s,.string _ => .string s
 | _,_,_,.wah,.wah => .wah
 | _,_,_,.ptr a c e hs he hc,.ptr _ c' e' hs' he' hc' => .ptr a c' e' hs (by rw [qdT (hd _ _ he)];exact he') hc'
 | _,_,_,.yB,.yB => .yB
 | _,_,_,.slice a c n cap e hs he hn hc,.slice _ c' _ _ e' hs' he' hn' hc' => .slice a c' n cap e' hs (by rw [qdT (hd _ _ he)];exact he') hn hc'
 | _,_,_,.slice a c n cap e hs he hn hc,.loose _ c' _ _ cap' e' hs' he' hn' hc'=>by rw [hs]at hs';cases hs'
 | _,_,_,.loose a c n k cap e hs he hn hc,.slice _ c' _ _ e' hs' he' hn' hc'=>by rw [hs]at hs';cases hs'
 | _,_,_,.loose a c n k cap e hs he hn hc,.loose _ c' _ _ cap' e' hs' he' hn' hc' => .loose a c' n k cap' e' hs (by rw [qdT (hd _ _ he)];exact he') hn' hc'
 | _,_,_,.y9,.y9 => .y9
 | _,_,_,.map r c e he hc,.map _ c' e' he' hc' => .map r c' e' (by rw [qdT (hd _ _ he)];exact he') hc'
 | _,_,_,.func fn f f' c c' hf hc,.func _ _ g' _ d' hf' hc' => .func fn f g' c d' (VRs.cut hd hf hf') (VRs.cut hd hc hc')
 | _,_,_,.nilFunc,.nilFunc => .nilFunc
 | _,_,_,.iface t v c hv,.iface _ _ c' hv' => .iface t v c' (VR.cut hd hv hv')
 | _,_,_,.nilIface,.nilIface => .nilIface
 | _,_,_,.agg c c' hc,.agg _ d hc' => .agg c d (VRs.cut hd hc hc')
 | _,_,_,.tuple c c' hc,.tuple _ d hc' => .tuple c d (VRs.cut hd hc hc')
def VRs.cut {E E':Emb}{n:Nat}(hd:∀i e,E i=some e->i<n):∀{vs cs cs':List Value},VRs E vs cs->VRs E' vs cs'->VRs (res E' n) vs cs'
 | _,_,_,.nil,.nil => .nil
 | _,_,_,.cons v c vs cs hv hs,.cons _ c' _ cs' hv' hs' => .cons v c' vs cs' (VR.cut hd hv hv') (VRs.cut hd hs hs')
end
def MR.cut {E E':Emb}{n:Nat}(hd:∀i e,E i=some e->i<n):∀{es:List (Value×Value)} {xs xs':List MapEntry},MR E es xs->MR E' es xs'->MR (res E' n) es xs'
 | _,_,_,.nil,.nil => .nil
 | _,_,_,.cons k m v x es xs hk hv h,.cons _ _ _ x' _ xs' hk' hv' h' => .cons k m v x' es xs' hk' (hv.cut hd hv') (h.cut hd h')
def BR.cut {B0:Nat}{E E':Emb}{w w':World}{x x':Ent}{k:Blk}{n:Nat}(hd:∀i e,E i=some e->i<n)(h:BR B0 E w x k)(h':BR B0 E' w' x' k):BR B0 (res E' n) w' x' k:=by
 cases k with
 | row cs ro =>
   obtain⟨C,t,fz,h1,h2,h4,h5,h6,h7⟩:=h
   obtain⟨C',t',fz',g1,g2,g4,g5,g6,g7⟩:=h'
   exact⟨C',t',fz',g1,g2,g4,h5.cut hd g5,g6,g7⟩
 | map es =>
   obtain⟨M,clk,h1,h2,h3⟩:=h
   obtain⟨M',clk',g1,g2,g3⟩:=h'
   exact⟨M',clk',g1,h2.cut hd g2,g3⟩
 | dead=>trivial
section
variable {P:Program}{B0:Nat}{w0 w w':World}{Em E':Emb}{h h':qab}
def Sim.cut (s:Sim B0 w0 Em h w)(s':Sim B0 w0 E' h' w')(hlen:h.length<=h'.length)(hpre:∀i,i<h.length->h'[i]? = h[i]?):Sim B0 w0 (res E' h.length) h w':=by
 have hd:∀i e,Em i=some e->i<h.length:=fun i e he=>by
  rcases Nat.lt_or_ge i h.length with hi|hi
  ·exact hi
  ·rw [s.out i hi]at he;cases he
 have hlt:∀{i:Nat} {k:Blk},h[i]? = some k->i<h.length:=fun hk=>(zzS.1 hk).1
 refine⟨s'.below,fun i hi=>qdU hi,fun i hi => ?_,fun i k hi hk => ?_,fun i j x y hij hx hy he => ?_⟩
 ·rw [qdT (hlt hi)];exact s'.dead i (by rw [hpre i (hlt hi)];exact hi)
 ·obtain⟨y,hy,hb⟩:=s.live i k hi hk
  obtain⟨x,hx,hb'⟩:=s'.live i k (by rw [hpre i (hlt hi)];exact hi) hk
  exact⟨x,by rw [qdT (hlt hi)];exact hx,hb.cut hd hb'⟩
 ·obtain⟨i1,i2⟩:=qdV hx
  obtain⟨j1,j2⟩:=qdV hy
  have:=s'.inj i j x y hij i2 j2 he
  rw [hpre i i1,hpre j j1]at this
  exact this
def Later.cut (s:Sim B0 w0 Em h w)(l:Later Em w E' w'){E2:Emb}(hle:(res E' h.length).le E2)(hfrom:∀i x,E2 i=some (some x)->∃j,E' j=some (some x)):Later Em w E2 w':=by
 refine⟨fun i e he => ?_,fun i x hx => ?_,l.size,l.kept⟩
 ·have hi:i<h.length:=by
   rcases Nat.lt_or_ge i h.length with hi|hi
   ·exact hi
   ·rw [s.out i hi]at he;cases he
  rcases l.le i e he with h1|h1
  ·exact hle i e (by rw [qdT hi];exact h1)
  ·rcases hle i none (by rw [qdT hi];exact h1)with h2|h2<;>exact .inr h2
 ·obtain⟨j,hj⟩:=hfrom i x hx
  exact l.new j x hj
structure TS (B0:Nat)(w0:World)(E':Emb)(h h':qab)(w':World)(acc:qab)(E2:Emb):Prop where
 yV:Sim B0 w0 E2 acc w'
 le:(res E' h.length).le E2
 frm:∀i x,E2 i=some (some x)->∃j,E' j=some (some x)
 base:acc.length=h.length->E2=res E' h.length/\acc=h
def qfF (s:Sim B0 w0 Em h w)(s':Sim B0 w0 E' h' w')(hlen:h.length<=h'.length)(hpre:∀i,i<h.length->h'[i]? = h[i]?){acc acc2:qab}{E2:Emb}(ts:TS B0 w0 E' h h' w' acc E2)
  {v v2 c:Value} (ht:qaW h.length h' v acc=some (v2,acc2)) (hv:VR E' v c):∃E3,TS B0 w0 E' h h' w' acc2 E3/\E2.le E3/\VR E3 v2 c:=by
 have hflat:∀{u:Value},qae u=true->VR E' u c->c=u:=fun {u} hf hv=>by
  cases u with
  | agg cs=>cases hv with
    | agg _ c' h=>have:=h.yQ (by simpa [qae]using hf);rw [Array.toList_inj.1 this]
  | tuple cs=>cases hv with
    | tuple _ c' h=>have:=h.yQ (by simpa [qae]using hf);rw [Array.toList_inj.1 this]
  | _=>exact hv.yg (by simpa [qae]using hf)
 unfold qaW at ht
 split at ht
 ·rename_i a len cap
  split at ht
  ·rename_i hlt
   injection ht with ht;injection ht with e1 e2;subst e1 e2
   refine⟨E2,ts,Emb.le_refl _, ?_⟩
   refine VR.mono ts.le ?_
   cases hv with
   | slice _ c n cap e hs he hn hc=>exact .slice a c _ _ e hs (by rw [qdT hlt];exact he) hn hc
   | loose _ c n k cap e hs he hn hc=>exact .loose a c _ _ cap e hs (by rw [qdT hlt];exact he) hn hc
  ·rename_i hge
   split at ht<;>try (cases ht;done)
   rename_i cs ro qac
   obtain⟨⟨hfl,hal⟩,ht⟩:=qc0 ht
   injection ht with e1 e2;subst e1 e2
   obtain⟨hE2,hacc⟩:=ts.base hal
   subst hacc hE2
   obtain⟨x,hx,hb⟩:=s'.live a.block _ qac (by simp)
   have hput:(res E' acc.length).le ((res E' acc.length).put acc.length (some x)):=Emb.yX (qdU (zzR _))
   have hsim:=ts.yV
   have hbr:BR B0 ((res E' acc.length).put acc.length (some x)) w' x (.row cs ro):=by
    obtain⟨C,t,fz,h1,h2,h4,h5,h6,h7⟩:=hb
    exact⟨C,t,fz,h1,h2,h4,by rw [h5.yQ hfl];exact VRs.flat hfl,h6,h7⟩
   refine⟨(res E' acc.length).put acc.length (some x),⟨⟨hsim.below,fun i hi => ?_,fun i hi => ?_,fun i k hi hk => ?_,fun i j y z hij hy hz he => ?_⟩,hput,fun i y hy => ?_,fun hh=>by simp at hh⟩,hput, ?_⟩
   ·simp at hi
    rw [Emb.yb (by omega)];exact qdU (by omega)
   ·rw [List.getElem?_append]at hi
    split at hi
    ·rename_i hl;rw [Emb.yb (by omega)];exact hsim.dead i hi
    ·rcases Nat.eq_zero_or_pos (i-acc.length)with h0|h0
     ·simp [h0]at hi
     ·rw [zzE (by simp;omega)]at hi;cases hi
   ·rw [List.getElem?_append]at hi
    split at hi
    ·rename_i hl
     rw [Emb.yb (by omega)]
     obtain⟨y,hy,hb⟩:=hsim.live i k hi hk
     exact⟨y,hy,hb.mono hput⟩
    ·rcases Nat.eq_zero_or_pos (i-acc.length)with h0|h0
     ·have hie:i=acc.length:=by omega
      simp [h0]at hi
      subst hi hie
      exact⟨x,Emb.yh,hbr⟩
     ·rw [zzE (by simp;omega)]at hi;cases hi
   ·have cross:∀{i y},(res E' acc.length) i=some (some y)->y.b=x.b->qa3 (acc ++ [Blk.row cs ro])[i]? = true/\qa3 (acc ++ [Blk.row cs ro])[acc.length]? = true:=fun {i y} hy he=>by
     obtain⟨i1,i2⟩:=qdV hy
     obtain⟨k1,k2⟩:=s'.inj i a.block y x (by omega) i2 hx he
     rw [hpre i i1]at k1
     rw [qac]at k2
     rw [zzA i1,zzB (zzR _)]
     exact⟨k1,by simpa using k2⟩
    by_cases h1:i=acc.length
    ·subst h1
     rw [Emb.yh]at hy
     injection hy with hy;injection hy with hy;subst hy
     rw [Emb.yb (fun e=>hij e.symm)]at hz
     exact(cross hz he.symm).symm
    ·by_cases h2:j=acc.length
     ·subst h2
      rw [Emb.yh]at hz
      injection hz with hz;injection hz with hz;subst hz
      rw [Emb.yb h1]at hy
      exact cross hy he
     ·rw [Emb.yb h1]at hy
      rw [Emb.yb h2]at hz
      have:=hsim.inj i j y z hij hy hz he
      rw [zzA (qdV hy).1,zzA (qdV hz).1]
      exact this
   ·by_cases h1:i=acc.length
    ·subst h1
     rw [Emb.yh]at hy
     injection hy with hy;injection hy with hy;subst hy
     exact⟨a.block,hx⟩
    ·rw [Emb.yb h1]at hy
     exact⟨i,(qdV hy).2⟩
   ·cases hv with
    | slice _ c n cap e hs he hn hc =>
      rw [hx]at he
      injection he with he;subst he
      exact .slice _ c _ _ (some x) hs Emb.yh hn (fun y hy hp=>hc y hy hp)
    | loose _ c n k cap e hs he hn hc =>
      rw [hx]at he
      injection he with he;subst he
      exact .loose _ c _ _ cap (some x) hs Emb.yh hn (fun y hy=>hc y hy)
 ·obtain⟨hf,ht⟩:=qc0 ht
  injection ht with e1 e2;subst e1 e2
  refine⟨E2,ts,Emb.le_refl _, ?_⟩
  rw [hflat hf hv]
  exact VR.flat hf
def qfG (s:Sim B0 w0 Em h w)(s':Sim B0 w0 E' h' w')(hlen:h.length<=h'.length)(hpre:∀i,i<h.length->h'[i]? = h[i]?):∀{vs vs2 cs:List Value} {acc acc2:qab} {E2:Emb},
  TS B0 w0 E' h h' w' acc E2->qaX h.length h' vs acc=some (vs2,acc2)->VRs E' vs cs->∃E3,TS B0 w0 E' h h' w' acc2 E3/\E2.le E3/\VRs E3 vs2 cs
 | [],vs2,cs,acc,acc2,E2,ts,ht,hv=>by
   simp [qaX]at ht
   obtain⟨rfl,rfl⟩:=ht
   cases hv
   exact⟨E2,ts,Emb.le_refl _,.nil⟩
 | v::vs,vs2,cs,acc,acc2,E2,ts,ht,hv=>by
   simp only [qaX]at ht
   split at ht<;>try (cases ht;done)
   rename_i v1 acc1 h1
   split at ht<;>try (cases ht;done)
   rename_i vs1 acc3 h2
   injection ht with ht;injection ht with e1 e2;subst e1 e2
   cases hv with
   | cons _ c _ cs g1 g2 =>
     obtain⟨E3,t3,l3,r3⟩:=qfF s s' hlen hpre ts h1 g1
     obtain⟨E4,t4,l4,r4⟩:=qfG s s' hlen hpre t3 h2 g2
     exact⟨E4,t4,Emb.le_trans l3 l4,.cons _ _ _ _ (r3.mono l4) r4⟩
def qfH (s:Sim B0 w0 Em h w)(s':Sim B0 w0 E' h' w')(l:Later Em w E' w')(hlen:h.length<=h'.length)(hpre:∀i,i<h.length->h'[i]? = h[i]?){v v2 c:Value}{h2:qab}
  (ht:tidy h v h'=some (v2,h2)) (hv:VR E' v c):∃E2,Sim B0 w0 E2 h2 w'/\Later Em w E2 w'/\VR E2 v2 c:=by
 have t0:TS B0 w0 E' h h' w' h (res E' h.length):=⟨s.cut s' hlen hpre,Emb.le_refl _,fun i x hx=>⟨i,(qdV hx).2⟩,fun _=>⟨rfl,rfl⟩⟩
 unfold tidy at ht
 split at ht
 ·split at ht<;>try (cases ht;done)
  rename_i vs1 acc h1
  injection ht with ht;injection ht with e1 e2;subst e1 e2
  cases hv with
  | tuple _ c' hc =>
    obtain⟨E3,t3,l3,r3⟩:=qfG s s' hlen hpre t0 h1 hc
    exact⟨E3,t3.yV,Later.cut s l t3.le t3.frm,.tuple _ _ (by simpa using r3)⟩
 ·obtain⟨E3,t3,l3,r3⟩:=qfF s s' hlen hpre t0 ht hv
  exact⟨E3,t3.yV,Later.cut s l t3.le t3.frm,r3⟩
end
def qfI:∀{vs:List Value} {n t:Nat} {v:Value},qaa (number n vs) t=some v->n<=t/\vs[t-n]? = some v
 | [],n,t,v,h=>by simp [number,qaa]at h
 | u::vs,n,t,v,h=>by
   simp only [number,qaa]at h
   split at h
   ·rename_i e;subst e;injection h with h;subst h;simp
   ·rename_i hne
    obtain⟨h1,h2⟩:=qfI h
    refine⟨by omega, ?_⟩
    rw [show t-n=(t-(n+1))+1 by omega]
    simpa using h2
def qfJ (P:Program)(g:Nat)(p:qaY):Prop:=∀(B0:Nat) (w0:World) (lo:Nat),B0<=w0.heap.size->∀vs h v h',p lo vs h=some (v,h')->
 qd4 P g/\∀(E:Emb) (w:World) (cs:Array Value),Sim B0 w0 E h w->VRs E vs cs.toList->Calls P g cs w fun e w'=>∃c E',e = .returned c/\Sim B0 w0 E' h' w'/\Later E w E' w'/\VR E' v c
structure qfK (P:Program)(E:Env):Prop where
 kp:qfq E
 yS:∀g p,E.yS g=some p->qfJ P g p
 fn:∀g fn,E.yS g=none->E.fn g=some fn->∃F hint,P.funcs[g]? = some F/\qbE P F hint=some fn
def qfL {P:Program}{E:Env}{n lo g:Nat}(hx:qfy P E n){F:Func}{hint:qbD}{fn:qak}(hF:P.funcs[g]? = some F)(hc:qbE P F hint=some fn){args:List Value}{h h':qab}{f':Fr}{v:Value}
  (hargs:args.length=fn.yT) (he:yq E n lo [.code fn.body] (number 0 args) h=some (f',h')) (hr:results fn.res f' h'=some v) {B0:Nat} {w0:World} (hB0:B0<=w0.heap.size) :
  qd4 P g/\∀(Em:Emb) (w:World) (cs:Array Value),Sim B0 w0 Em h w->VRs Em args cs.toList->
   Calls P g cs w fun e w'=>∃c E',e = .returned c/\Sim B0 w0 E' h' w'/\Later Em w E' w'/\VR E' v c:=by
 unfold qbE at hc
 split at hc<;>try (cases hc;done)
 rename_i b hb
 split at hc<;>try (cases hc;done)
 rename_i hname
 split at hc<;>try (cases hc;done)
 rename_i hlb
 split at hc<;>try (cases hc;done)
 rename_i b' rs hcc hrs
 injection hc with hc
 subst hc
 simp only at hargs he hr
 simp only [Bool.and_eq_true,List.all_eq_true,decide_eq_true_eq]at hlb
 refine⟨fun args w => ?_,fun Em w cs s hcs => ?_⟩
 ·simp only [callFunc,Sem.run_bind,run_program,Result.andThen_ok,hF,hname,hb,Option.isNone_some]
  rfl
 ·intro callers
  have hlen:=hcs.length
  simp at hlen
  let a0:Act := {tmps:=cs++Array.replicate (F.ntmps-cs.size) undef,defers := []}
  have hgt:∀{t v},qaa (number 0 args) t=some v->t<args.length/\args[t]? = some v:=fun hf=>by
   obtain⟨_,h2⟩:=qfI hf
   simp at h2
   exact⟨(zzS.1 h2).1,h2⟩
  have hnl:∀{t v},qaa (number 0 args) t=some v->hint.lb.contains t=true->False:=fun {t v} hf hl=>by
   obtain⟨h1,_⟩:=hgt hf
   have:=hlb.1 t (by simpa using hl)
   omega
  have fr:Fram B0 w0 hint.lb F.ntmps Em w [] Em (fun _=>0) (number 0 args) h a0 w:=by
   refine⟨s,fun t v hl hf => ?_,fun t v hl hf=>(hnl hf hl).elim,fun t t' v v' hl hl' _ hf=>(hnl hf hl).elim,Later.refl _ _, ?_,rfl⟩
   ·obtain⟨h1,h2⟩:=hgt hf
    obtain⟨c,h3,h4⟩:=hcs.get h2
    have:a0.tmps.getD t undef=c:=by
     simp only [a0,Array.getD_eq_getD_getElem?]
     rw [Array.getElem?_append_left (by omega)]
     have h3':cs[t]? = some c:=by simpa using h3
     rw [h3'];rfl
    rw [this];exact h4
   ·simp only [a0,Array.size_append,Array.size_replicate]
    omega
  let bf:Frame := {(default:Frame)with fn:=g,kind := .normal}
  have henter:Frame.enter P g cs .normal=bf.at a0 [.code b]:=by
   simp [Frame.enter,Frame.at,hF,hb,bf,a0]
  obtain⟨a',w',Em',bx',todo,fr',hst⟩:=hx B0 w0 hint.lb F.ntmps Em w [] hB0 lo _ _ _ _ _ he [.code b] Em _ a0 w (.cons _ _ _ _ (.code b b' _ _ hcc) .nil) fr bf callers
  obtain⟨c,hrun,hvr⟩:=qfE (P:=P) fr' hrs hr
  refine⟨.returned c,w',{bf.at a' todo with mode := .returning},⟨c,Em',rfl,fr'.yV,fr'.later,hvr⟩, ?_,rfl,rfl,fr'.defers,rfl,F,hF,hrun⟩
  rw [henter]
  exact hst
def qfM {P:Program}{E:Env}(ok:qfK P E)(hmix:P.follows .mixedOrders=true):∀n,qfx P E n:=by
 intro n
 induction n using Nat.strongRecOn with
 | _ n ih =>
   have hx:=qfz (P:=P) E ok.kp hmix n (fun m hm=>ih m hm)
   intro B0 w0 lo hB0 g vs h v h' hv
   unfold qaZ at hv
   split at hv
   ·rename_i p hp;exact ok.yS g p hp B0 w0 lo hB0 vs h v h' hv
   ·rename_i hp
    split at hv<;>try (cases hv;done)
    rename_i fn hfn
    split at hv<;>try (cases hv;done)
    rename_i hargs
    split at hv<;>try (cases hv;done)
    rename_i f1 h1 he
    split at hv<;>try (cases hv;done)
    rename_i v1 hr
    obtain⟨F,hint,hF,hcf⟩:=ok.fn g fn hp hfn
    obtain⟨hen,hcalls⟩:=qfL hx hF hcf (by omega) he hr hB0
    refine⟨hen,fun Em w cs s hcs => ?_⟩
    by_cases hs:fn.wau=true
    ·rw [if_pos hs]at hv
     rw [if_pos hs]at he
     have hk:=qfs ok.kp n _ _ _ _ _ _ he
     refine Calls.mono (hcalls Em w cs s hcs) fun e w' hh => ?_
     obtain⟨c,E',rfl,g1,g2,g3⟩:=hh
     obtain⟨E2,k1,k2,k3⟩:=qfH s g1 g2 hk.len (fun i hi=>hk.keep (zzR _) i hi) hv g3
     exact⟨c,E2,rfl,k1,k2,k3⟩
    ·rw [if_neg hs]at hv
     injection hv with hv;injection hv with e1 e2;subst e1 e2
     exact hcalls Em w cs s hcs
end Go.Ir
