/- Slices of slices as an argument. -/
import Derived.Test.YtlgnnpkdhbhdgaaGreatIrD
import Derived.SizedLaws
set_option linter.all false
namespace Go.Ir
open Go Go.ChangeShapes Go.WideShapes
def qwj {P:Program}{S T n:Nat}{α:Type}[Inhabited α](f:α->List Value)(hu:P.underlying S=some (.slice T))(hcl:P.cellsOf T=n)(hn:0<n)(hf:∀a,(f a).length=n/\(f a).all yl=true/\(f a).all qad=true)
  {H:Type} {enc:TypeId×Value->H} {W:World} {spare:Nat->Bool} {held:Bool}
  (op:∀{base k:Nat} {cs:List Value} {x:DataW H×List MemPlace},DataW.trod enc P W base spare held k T cs=some x->∃a,cs=f a)
  {E:Emb} {h:qab} (s:Sim W.heap.size W E h W) (hro:RoH h) {base k:Nat} {v0:Value} {x:DataW H×List MemPlace} (hk:DataW.trod enc P W base spare held k S [v0]=some x) (hz:∀w∈x.1.weights P S,w<=reachBytes) :
  ∃E' h' v l,Sim W.heap.size W E' h' W/\E.le E'/\RoH h'/\Ext h h'/\VR E' v v0/\Sl h' n v (List.map f l)/\qiF v l.length/\l.length*P.bytesOf T<=reachBytes:=by
 rcases Deep.open_slice hu hk with⟨hc,_⟩|⟨a,len,cap,m,k',D,Pl,hc,_,hlc,_,hm,hx,hX⟩
 ·injection hc with hc
  subst hc
  exact⟨E,h,.slice none 0 0,[],s,Emb.le_refl E,hro,.refl _,.yB,⟨fun e he=>(by cases he),.inl ⟨rfl,none,0,rfl⟩⟩,.inl ⟨rfl,rfl⟩,by simp⟩
 ·injection hc with hc
  subst hc
  simp only [hcl]at hX
  have hlm:len<=m:=by
   rw [hm];split<;>omega
  have hbd:len*P.bytesOf T<=reachBytes:=by
   have:=hz ((((List.range len).map D).length+((List.range (m-len)).map fun j=>D (len+j)).length)*P.bytesOf T) (by rw [hx];simp [DataW.weights,hu])
   rw [List.length_map,List.length_range]at this
   exact Nat.le_trans (Nat.mul_le_mul_right _ (Nat.le_add_right _ _)) this
  obtain⟨X,hXX⟩:=Deep.choose_lt (α:=List Value) (n:=len) (p:=fun i cs=>(∃o:α,cs=f o)/\∀j,j<n->W.cell? (a.add (i*n+j))=cs[j]?) (fun i hi=>by
   obtain⟨cs',g1,g2⟩:=hX i (by omega)
   obtain⟨_,_,g3⟩:=World.cells?_some g1
   refine⟨cs',op g2,fun j hj => ?_⟩
   have:=g3 j hj
   rw [Deep.add_add]at this
   exact this)
  obtain⟨O,hO⟩:=Deep.choose_lt (α:=α) (n:=len) (p:=fun i o=>X i=f o) (fun i hi=>(hXX i hi).1)
  obtain⟨E',h',v,s1,s2,s3,s4,s5,s6,s7⟩:=qiN (a:=a) (len:=len) (cap:=cap) (n:=n) s hro hlc X hn (fun i hi=>by rw [hO i hi];exact⟨(hf _).1,(hf _).2.2⟩) (fun i j x hi hj=>by
   have hjn:j<n:=by
    have:=(zzS.1 hj).1
    rw [hO i hi,(hf _).1]at this
    exact this
   refine⟨x,by rw [(hXX i hi).2 j hjn,hj],VR.flat ?_⟩
   rw [hO i hi]at hj
   have:=List.all_eq_true.1 (hf (O i)).2.1 x (List.mem_of_getElem? hj)
   unfold qae
   split<;>simp_all [yl])
  refine⟨E',h',v,(List.range len).map O,s1,s2,s3,s4,s5, ?_,by simpa using s7,by rw [List.length_map,List.length_range];exact hbd⟩
  have:List.map f ((List.range len).map O)=(List.range len).map X:=by
   rw [List.map_map]
   exact List.map_congr_left fun i hi=>(hO i (by simpa using hi)).symm
  rw [this]
  exact s6
def qwk {H:Type}{P:Program}{e:TypeId} : ∀{l:List (DataW H)} {d:DataW H},d∈l->∀w∈d.weights P e,w∈DataW.weightsAll P e l
 | [],_,h,_,_=>by cases h
 | a::r,d,h,w,hw=>by
   unfold DataW.weightsAll
   rcases List.mem_cons.1 h with rfl|h
   ·exact List.mem_append_left _ hw
   ·exact List.mem_append_right _ (qwk h w hw)
def qwl {P:Program}{S T U n:Nat}{α:Type}[Inhabited α](f:α->List Value)(hu:P.underlying S=some (.slice T))(hu1:P.underlying T=some (.slice U))(hcT:P.cellsOf T=1)(hcl:P.cellsOf U=n)(hn:0<n)(hf:∀a,(f a).length=n/\(f a).all yl=true/\(f a).all qad=true)
  {H:Type} {enc:TypeId×Value->H} {W:World} {spare:Nat->Bool} {held:Bool}
  (op:∀{base k:Nat} {cs:List Value} {x:DataW H×List MemPlace},DataW.trod enc P W base spare held k U cs=some x->∃a,cs=f a)
  {E:Emb} {h:qab} (s:Sim W.heap.size W E h W) (hro:RoH h) {b0 base:Nat} {r:Reach} {v0:Value} {d0:DataW H} {p0:List MemPlace} (hval:Value.okWide P W r b0 S v0) (hd:DataW.Trod enc P W base spare held S v0 d0 p0) (hz:∀w∈d0.weights P S,w<=reachBytes) :
  ∃E' h' v,∃l:List (Value×List α),Sim W.heap.size W E' h' W/\E.le E'/\RoH h'/\Ext h h'/\VR E' v v0/\Sl h' 1 v (l.map fun p => [p.1])/\qiF v l.length/\l.length*P.bytesOf T<=reachBytes/\
   ∀p∈l,Sl h' n p.1 (List.map f p.2)/\qiF p.1 p.2.length/\p.2.length*P.bytesOf U<=reachBytes:=by
 obtain⟨p,len,cap,rfl⟩:=okWide_slice hu hval
 obtain⟨k,hk⟩:=hd
 rcases Deep.open_slice1 hu hcT hk with⟨hc,_⟩|⟨a,len',cap',m,k',C,D,Pl,hc,_,hlc,_,hm,hx,hX⟩
 ·have hc:Value.slice p len cap = .slice none 0 0:=by simpa [Value.cells]using hc
  injection hc with e1 e2 e3
  subst e1 e2 e3
  exact⟨E,h,.slice none 0 0,[],s,Emb.le_refl E,hro,.refl _,.yB,⟨fun e he=>(by cases he),.inl ⟨rfl,none,0,rfl⟩⟩,.inl ⟨rfl,rfl⟩,by simp,fun p hp=>(by cases hp)⟩
 ·have hc:Value.slice p len cap = .slice (some a) len' cap':=by simpa [Value.cells]using hc
  injection hc with e1 e2 e3
  subst e1 e2 e3
  injection hx with hx _
  subst hx
  have hlm:len<=m:=by
   rw [hm];split<;>omega
  have hzi:∀i,i<len->∀w∈(D i).weights P T,w<=reachBytes:=fun i hi w hw=>by
   refine hz w ?_
   simp only [DataW.weights,hu]
   refine List.mem_cons_of_mem _ (List.mem_append_left _ (qwk (List.mem_map.2 ⟨i,by simpa using hi,rfl⟩) w hw))
  have key:∀k,k<=len->∃E' h',∃(V:Nat->Value) (L:Nat->List α),Sim W.heap.size W E' h' W/\E.le E'/\RoH h'/\Ext h h'/\
    ∀i,i<k->VR E' (V i) (C i)/\Sl h' n (V i) ((L i).map f)/\qiF (V i) (L i).length/\(L i).length*P.bytesOf U<=reachBytes:=by
   intro k
   induction k with
   | zero=>exact fun _=>⟨E,h,fun _ => .slice none 0 0,fun _ => [],s,Emb.le_refl E,hro,.refl _,fun i hi=>absurd hi (Nat.not_lt_zero i)⟩
   | succ k ih =>
     intro hk1
     obtain⟨E1,h1,V,L,s1,le1,ro1,ex1,al1⟩:=ih (by omega)
     obtain⟨E2,h2,v,l,s2,le2,ro2,ex2,vr2,sl2,ti2,bd2⟩:=qwj f hu1 hcl hn hf op s1 ro1 (hX k (by omega)).2 (hzi k (by omega))
     refine⟨E2,h2,fun i=>if i=k then v else V i,fun i=>if i=k then l else L i,s2,Emb.le_trans le1 le2,ro2,ex1.trans ex2,fun i hi => ?_⟩
     by_cases he:i=k
     ·subst he
      simp only [if_true]
      exact⟨vr2,sl2,ti2,bd2⟩
     ·simp only [if_neg he]
      obtain⟨g1,g2,g3,g4⟩:=al1 i (by omega)
      exact⟨g1.mono le2,g2.ext ex2,g3,g4⟩
  obtain⟨E1,h1,V,L,s1,le1,ro1,ex1,al1⟩:=key len (zzR _)
  obtain⟨E2,h2,v,q1,q2,q3,q4,q5,q6,q7⟩:=qiN (a:=a) (len:=len) (cap:=cap) (n:=1) s1 ro1 hlc (fun i => [V i]) (by decide) (fun i hi=>⟨rfl,by
   obtain⟨b,c,hb⟩:=(al1 i hi).2.1.len
   simp only [hb]
   rfl⟩) (fun i j x hi hj=>by
   have hj0:j=0:=by
    have:=(zzS.1 hj).1
    simp at this
    omega
   subst hj0
   injection hj with hj
   subst hj
   exact⟨C i,by rw [Nat.mul_one,Nat.add_zero];exact(hX i (by omega)).1,(al1 i hi).1⟩)
  refine⟨E2,h2,v,(List.range len).map fun i=>(V i,L i),q1,Emb.le_trans le1 q2,q3,ex1.trans q4,q5, ?_,by simpa using q7, ?_,fun p hp => ?_⟩
  ·rw [List.map_map];exact q6
  ·have:=hz ((((List.range len).map D).length+((List.range (m-len)).map fun j=>D (len+j)).length)*P.bytesOf T) (by simp [DataW.weights,hu])
   rw [List.length_map,List.length_range]at this|-
   exact Nat.le_trans (Nat.mul_le_mul_right _ (Nat.le_add_right _ _)) this
  ·obtain⟨i,hi,rfl⟩:=List.mem_map.1 hp
   obtain⟨g1,g2,g3,g4⟩:=al1 i (by simpa using hi)
   exact⟨g2.ext q4,g3,g4⟩
end Go.Ir
