/- Slices of slices as an argument. -/
import Derived.Test.YtlgnnpkdhbhdgaaGreatIrD
import Derived.SizedLaws
import Derived.Test.YtlgnnpkdhbhdgaaGreatWorldI
import Derived.Test.YtlgnnpkdhbhdgaaGreatBytesW
import Derived.Test.YtlgnnpkdhbhdgaaGreatThreadQ3
set_option linter.unusedVariables false
set_option linter.unusedSimpArgs false

namespace Go.Ir
open Go Go.ChangeShapes Go.WideShapes

theorem qse {P:Program}{S T n:Nat}{α:Type}[Inhabited α](f:α→List Value)(hu:P.underlying S=some (.slice T))(hcl:P.cellsOf T=n)(hn:0<n)(hf:∀a,(f a).length=n∧(f a).all flat1=true∧(f a).all qad=true)
  {H:Type} {enc:TypeId×Value→H} {W:World} {spare:Nat→Bool} {held:Bool}
  (op:∀{base k:Nat} {cs:List Value} {x:DataW H×List MemPlace},DataW.trod enc P W base spare held k T cs=some x→∃a,cs=f a)
  {E:Emb} {h:qab} (s:Sim W.heap.size W E h W) (hro:RoH h) {base k:Nat} {v0:Value} {x:DataW H×List MemPlace} (hk:DataW.trod enc P W base spare held k S [v0]=some x) (hz:∀w∈x.1.weights P S,w≤reachBytes) :
  ∃E' h' v l,Sim W.heap.size W E' h' W∧E.le E'∧RoH h'∧Ext h h'∧VR E' v v0∧Sl h' n v (List.map f l)∧qiG v l.length∧l.length*P.bytesOf T≤reachBytes:=by
 rcases Deep.open_slice hu hk with⟨hc,_⟩|⟨a,len,cap,m,k',D,Pl,hc,_,hlc,_,hm,hx,hX⟩
 ·injection hc with hc
  subst hc
  exact⟨E,h,.slice none 0 0,[],s,Emb.le_refl E,hro,.refl _,.slice0,⟨fun e he=>(by cases he),.inl ⟨rfl,none,0,rfl⟩⟩,.inl ⟨rfl,rfl⟩,by simp⟩
 ·injection hc with hc
  subst hc
  simp only [hcl]at hX
  have hlm:len≤m:=by
   rw [hm];split<;>omega
  have hbd:len*P.bytesOf T≤reachBytes:=by
   have:=hz ((((List.range len).map D).length+((List.range (m-len)).map fun j=>D (len+j)).length)*P.bytesOf T) (by rw [hx];simp [DataW.weights,hu])
   rw [List.length_map,List.length_range]at this
   exact Nat.le_trans (Nat.mul_le_mul_right _ (Nat.le_add_right _ _)) this
  obtain⟨X,hXX⟩:=Deep.choose_lt (α:=List Value) (n:=len) (p:=fun i cs=>(∃o:α,cs=f o)∧∀j,j<n→W.cell? (a.add (i*n+j))=cs[j]?) (fun i hi=>by
   obtain⟨cs',g1,g2⟩:=hX i (by omega)
   obtain⟨_,_,g3⟩:=World.cells?_some g1
   refine⟨cs',op g2,fun j hj => ?_⟩
   have:=g3 j hj
   rw [Deep.add_add]at this
   exact this)
  obtain⟨O,hO⟩:=Deep.choose_lt (α:=α) (n:=len) (p:=fun i o=>X i=f o) (fun i hi=>(hXX i hi).1)
  obtain⟨E',h',v,s1,s2,s3,s4,s5,s6,s7⟩:=qiO (a:=a) (len:=len) (cap:=cap) (n:=n) s hro hlc X hn (fun i hi=>by rw [hO i hi];exact⟨(hf _).1,(hf _).2.2⟩) (fun i j x hi hj=>by
   have hjn:j<n:=by
    have:=(List.getElem?_eq_some_iff.1 hj).1
    rw [hO i hi,(hf _).1]at this
    exact this
   refine⟨x,by rw [(hXX i hi).2 j hjn,hj],VR.flat ?_⟩
   rw [hO i hi]at hj
   have:=List.all_eq_true.1 (hf (O i)).2.1 x (List.mem_of_getElem? hj)
   unfold qae
   split<;>simp_all [flat1])
  refine⟨E',h',v,(List.range len).map O,s1,s2,s3,s4,s5, ?_,by simpa using s7,by rw [List.length_map,List.length_range];exact hbd⟩
  have:List.map f ((List.range len).map O)=(List.range len).map X:=by
   rw [List.map_map]
   exact List.map_congr_left fun i hi=>(hO i (by simpa using hi)).symm
  rw [this]
  exact s6

theorem qsf {H:Type}{P:Program}{e:TypeId} : ∀{l:List (DataW H)} {d:DataW H},d∈l→∀w∈d.weights P e,w∈DataW.weightsAll P e l
 | [],_,h,_,_=>by cases h
 | a::r,d,h,w,hw=>by
   unfold DataW.weightsAll
   rcases List.mem_cons.1 h with rfl|h
   ·exact List.mem_append_left _ hw
   ·exact List.mem_append_right _ (qsf h w hw)

theorem qsg {P:Program}{S T U n:Nat}{α:Type}[Inhabited α](f:α→List Value)(hu:P.underlying S=some (.slice T))(hu1:P.underlying T=some (.slice U))(hcT:P.cellsOf T=1)(hcl:P.cellsOf U=n)(hn:0<n)(hf:∀a,(f a).length=n∧(f a).all flat1=true∧(f a).all qad=true)
  {H:Type} {enc:TypeId×Value→H} {W:World} {spare:Nat→Bool} {held:Bool}
  (op:∀{base k:Nat} {cs:List Value} {x:DataW H×List MemPlace},DataW.trod enc P W base spare held k U cs=some x→∃a,cs=f a)
  {E:Emb} {h:qab} (s:Sim W.heap.size W E h W) (hro:RoH h) {b0 base:Nat} {r:Reach} {v0:Value} {d0:DataW H} {p0:List MemPlace} (hval:Value.okWide P W r b0 S v0) (hd:DataW.Trod enc P W base spare held S v0 d0 p0) (hz:∀w∈d0.weights P S,w≤reachBytes) :
  ∃E' h' v,∃l:List (Value×List α),Sim W.heap.size W E' h' W∧E.le E'∧RoH h'∧Ext h h'∧VR E' v v0∧Sl h' 1 v (l.map fun p => [p.1])∧qiG v l.length∧l.length*P.bytesOf T≤reachBytes∧
   ∀p∈l,Sl h' n p.1 (List.map f p.2)∧qiG p.1 p.2.length∧p.2.length*P.bytesOf U≤reachBytes:=by
 obtain⟨p,len,cap,rfl⟩:=okWide_slice hu hval
 obtain⟨k,hk⟩:=hd
 rcases Deep.open_slice1 hu hcT hk with⟨hc,_⟩|⟨a,len',cap',m,k',C,D,Pl,hc,_,hlc,_,hm,hx,hX⟩
 ·have hc:Value.slice p len cap = .slice none 0 0:=by simpa [Value.cells]using hc
  injection hc with e1 e2 e3
  subst e1 e2 e3
  exact⟨E,h,.slice none 0 0,[],s,Emb.le_refl E,hro,.refl _,.slice0,⟨fun e he=>(by cases he),.inl ⟨rfl,none,0,rfl⟩⟩,.inl ⟨rfl,rfl⟩,by simp,fun p hp=>(by cases hp)⟩
 ·have hc:Value.slice p len cap = .slice (some a) len' cap':=by simpa [Value.cells]using hc
  injection hc with e1 e2 e3
  subst e1 e2 e3
  injection hx with hx _
  subst hx
  have hlm:len≤m:=by
   rw [hm];split<;>omega
  have hzi:∀i,i<len→∀w∈(D i).weights P T,w≤reachBytes:=fun i hi w hw=>by
   refine hz w ?_
   simp only [DataW.weights,hu]
   refine List.mem_cons_of_mem _ (List.mem_append_left _ (qsf (List.mem_map.2 ⟨i,by simpa using hi,rfl⟩) w hw))
  have key:∀k,k≤len→∃E' h',∃(V:Nat→Value) (L:Nat→List α),Sim W.heap.size W E' h' W∧E.le E'∧RoH h'∧Ext h h'∧
    ∀i,i<k→VR E' (V i) (C i)∧Sl h' n (V i) ((L i).map f)∧qiG (V i) (L i).length∧(L i).length*P.bytesOf U≤reachBytes:=by
   intro k
   induction k with
   | zero=>exact fun _=>⟨E,h,fun _ => .slice none 0 0,fun _ => [],s,Emb.le_refl E,hro,.refl _,fun i hi=>absurd hi (Nat.not_lt_zero i)⟩
   | succ k ih =>
     intro hk1
     obtain⟨E1,h1,V,L,s1,le1,ro1,ex1,al1⟩:=ih (by omega)
     obtain⟨E2,h2,v,l,s2,le2,ro2,ex2,vr2,sl2,ti2,bd2⟩:=qse f hu1 hcl hn hf op s1 ro1 (hX k (by omega)).2 (hzi k (by omega))
     refine⟨E2,h2,fun i=>if i=k then v else V i,fun i=>if i=k then l else L i,s2,Emb.le_trans le1 le2,ro2,ex1.trans ex2,fun i hi => ?_⟩
     by_cases he:i=k
     ·subst he
      simp only [if_true]
      exact⟨vr2,sl2,ti2,bd2⟩
     ·simp only [if_neg he]
      obtain⟨g1,g2,g3,g4⟩:=al1 i (by omega)
      exact⟨g1.mono le2,g2.ext ex2,g3,g4⟩
  obtain⟨E1,h1,V,L,s1,le1,ro1,ex1,al1⟩:=key len (Nat.le_refl _)
  obtain⟨E2,h2,v,q1,q2,q3,q4,q5,q6,q7⟩:=qiO (a:=a) (len:=len) (cap:=cap) (n:=1) s1 ro1 hlc (fun i => [V i]) (by decide) (fun i hi=>⟨rfl,by
   obtain⟨b,c,hb⟩:=(al1 i hi).2.1.len
   simp only [hb]
   rfl⟩) (fun i j x hi hj=>by
   have hj0:j=0:=by
    have:=(List.getElem?_eq_some_iff.1 hj).1
    simp at this
    omega
   subst hj0
   injection hj with hj
   subst hj
   exact⟨C i,by rw [Nat.mul_one,Nat.add_zero];exact(hX i (by omega)).1,(al1 i hi).1⟩)
  refine⟨E2,h2,v,(List.range len).map fun i=>(V i,L i),q1,Emb.le_trans le1 q2,q3,ex1.trans q4,q5, ?_,by simpa using q7, ?_,fun p hp => ?_⟩
  ·rw [List.map_map];exact q6
  ·have:=hz ((((List.range len).map D).length+((List.range (m-len)).map fun j=>D (len+j)).length)*P.bytesOf T) (by simp [DataW.weights,hu])
   rw [List.length_map,List.length_range]at this⊢
   exact Nat.le_trans (Nat.mul_le_mul_right _ (Nat.le_add_right _ _)) this
  ·obtain⟨i,hi,rfl⟩:=List.mem_map.1 hp
   obtain⟨g1,g2,g3,g4⟩:=al1 i (by simpa using hi)
   exact⟨g2.ext q4,g3,g4⟩
end Go.Ir

/- AuditBytes, as the program runs it. -/
namespace Go.Proofs.YtlgnnpkdhbhdgaaGreat
open Go Go.Ir

theorem qsh (lo:Nat){h:qab}{v w:Value}{l:List Int}(hv:Sl h 1 v (ics l))(hw:Sl h 1 w (ics l))(hl:l.length≤100000):qfV En lo Id.zcM [v,w] h=some (.bool true,h):=by
 have rows:∀{v:Value},Sl h 1 v (ics l)→l≠[]→∃a cap,v = .slice (some a) l.length cap∧∀(i:Nat) c,l[i]? = some c→qav h none ⟨a.block,a.off+i*1,none⟩=some (I c):=fun {v} hv h0=>by
  obtain⟨c0,hc0⟩:=List.exists_mem_of_ne_nil l h0
  obtain⟨k,hk⟩:=List.getElem?_of_mem hc0
  obtain⟨a,cap,h1,h2,_⟩:=hv.at (i:=k) (e := [I c0]) (by unfold ics;rw [List.getElem?_map,hk];rfl)
  rw [qrK]at h1
  refine⟨a,cap,h1,fun i c hi => ?_⟩
  obtain⟨a',cap',h3,h4,_⟩:=hv.at (i:=i) (e := [I c]) (by unfold ics;rw [List.getElem?_map,hi];rfl)
  rw [h1]at h3
  injection h3 with e1
  injection e1 with e1
  subst e1
  exact h4 0 _ rfl
 refine Exists.elim hv.len fun base hq=>Exists.elim hq fun cap hve => ?_
 refine Exists.elim hw.len fun bw hq=>Exists.elim hq fun cw hwe => ?_
 rw [qrK]at hve hwe
 have rv:=rows hv
 have rw':=rows hw
 clear rows
 subst hve hwe
 refine qgy rfl Fn.zcM rfl rfl ?_
 repeat' first|refine .A ?_|refine .B ?_|refine .D ?_|refine .F ?_|refine .G ?_|refine .f6 ?_|refine .Y ?_|fail
 refine .loop (fun n f H=>H=h∧∃(i:Nat),n+i=l.length∧f = [(0,.slice base l.length cap),(1,.slice bw l.length cw),(5,N i)]) (n:=l.length) ⟨rfl,0,rfl,rfl⟩ ?_
 rintro n f H ⟨rfl,i,hn,rfl⟩ next
 by_cases hi:i<l.length
 ·have hgi:l[i]? = some l[i]:=List.getElem?_eq_getElem hi
  have h0:l≠[]:=fun e=>by rw [e]at hi;simp at hi
  generalize l[i]=c at hgi
  refine Exists.elim (rv h0) fun a hq=>Exists.elim hq fun cap' hq => ?_
  have hva:=hq.1
  injection hva with e1 e2 e3
  subst e1
  have IA:=hq.2 i c hgi
  refine Exists.elim (rw' h0) fun b hq=>Exists.elim hq fun cap2 hq => ?_
  have hvb:=hq.1
  injection hvb with e4 e5 e6
  subst e4
  have IB:=hq.2 i c hgi
  repeat' first|refine .A ?_|refine .B ?_|refine .C ?_|refine .D ?_|refine .F ?_|refine .G ?_|refine .H ?_|refine .t1 ?_|refine .f6 ?_|refine .n2 ?_|refine .L IA ?_|refine .L IB ?_|refine .R hi ?_|refine .Y ?_|fail
  exact next (n-1) _ _ (by omega) ⟨rfl,i+1,by omega,rfl⟩
 ·repeat' first|refine .A ?_|refine .B ?_|refine .D ?_|refine .I ?_|refine .J ?_|refine .f1 ?_|refine .F ?_|refine .Y ?_|fail
  rfl

def qam (l:List Int)(i:Nat):List Int:=(List.range l.length).map fun k=>if k<i then l.getD k 0 else 0
theorem qsi (l:List Int)(i:Nat):(qam l i).length=l.length:=by simp [qam]
theorem qsj (l:List Int)(i:Nat){k:Nat}(h:k<l.length):(qam l i)[k]? = some (if k<i then l.getD k 0 else 0):=by simp [qam,h]
theorem qsk (l:List Int):qam l 0=List.replicate l.length 0:=by
 refine List.ext_getElem? fun k => ?_
 by_cases h:k<l.length
 ·rw [qsj l 0 h,List.getElem?_replicate,if_pos h,if_neg (by omega)]
 ·rw [List.getElem?_eq_none (by rw [qsi];omega),List.getElem?_eq_none (by rw [List.length_replicate];omega)]
theorem qsl (l:List Int):qam l l.length=l:=by
 refine List.ext_getElem? fun k => ?_
 by_cases h:k<l.length
 ·rw [qsj l _ h,if_pos h,List.getD_eq_getElem?_getD,List.getElem?_eq_getElem h];rfl
 ·rw [List.getElem?_eq_none (by rw [qsi];omega),List.getElem?_eq_none (by omega)]
theorem qsm (l:List Int){i:Nat}(h:i<l.length):(qam l i).set i (l.getD i 0)=qam l (i+1):=by
 refine List.ext_getElem? fun k => ?_
 by_cases hk:k<l.length
 ·rw [qsj l _ hk]
  by_cases e:i=k
  ·subst e
   rw [List.getElem?_set_self (by rw [qsi];exact h),if_pos (by omega)]
  ·rw [List.getElem?_set_ne e,qsj l _ hk]
   by_cases e2:k<i
   ·rw [if_pos e2,if_pos (by omega)]
   ·rw [if_neg e2,if_neg (by omega)]
 ·rw [List.getElem?_eq_none (by rw [List.length_set,qsi];omega),List.getElem?_eq_none (by rw [qsi];omega)]
theorem qsn {ws:List Int}{k:Nat}(h:k<ws.length):qi7 ws (k:Nat)=ws.getD k 0:=by
 unfold qi7
 rw [if_pos ⟨by omega,by omega⟩,Int.toNat_natCast]

set_option maxHeartbeats 3200000 in
theorem qso {H:qab}{cb:CB}{ws bs:List Int}(hC:IsC H cb ws bs)(hw1:1≤ws.length)(hw:ws.length≤4096)(hb:bs.length≤4096) :
  ∃H',qfV En 0 Id.zcK [qjd cb] H=some (qjd (qjq H),H')∧IsC H' cb ws bs∧IsR H' (qjq H) ws bs∧Chg [cb.P] H H':=by
 have key:∃u H',qfV En 0 Id.zcK [qjd cb] H=some (u,H')∧u=qjd (qjq H)∧IsC H' cb ws bs∧IsR H' (qjq H) ws bs∧Chg [cb.P] H H':=by
  have lc:=hC.lts
  have hWs:=qjn (lo:=0) hC
  have hBs:=qjo (lo:=0) hC
  have hN:=qqI 0 H hw1 hw hb
  have hnh:=qqH H ws.length bs.length
  have mx:∀{f:Fr} {call:qaN} {x:Operand},ev f x=some (N ws.length)→iop call 0 (.max [x,.const (I 1)]) f H=some (N ws.length,H):=fun {f call x} hx=>by
   have h0:ev f (.const (I 1))=some (I 1):=rfl
   have hmx:qaL .i64 (ws.length:Int) [I 1]=some (ws.length:Int):=by
    simp only [qaL,if_true]
    rw [if_neg (by omega)]
   simp only [iop,evs,hx,h0]
   show(match qaL .i64 (ws.length:Int) [I 1]with|some m=>some (Value.int .i64 m,H)|none=>none)=_
   rw [hmx]
  have hne:∀x,(x=cb.P∨x=cb.W∨x=cb.Y)→x≠(qjq H).P∧x≠(qjq H).W∧x≠(qjq H).Y:=fun x hx=>by
   have e1:(qjq H).P=H.length+2:=rfl
   have e2:(qjq H).W=H.length:=rfl
   have e3:(qjq H).Y=H.length+1:=rfl
   omega
  have hge:H.length≤(qjq H).P∧H.length≤(qjq H).W∧H.length≤(qjq H).Y:=⟨Nat.le_add_right _ _,Nat.le_refl _,Nat.le_add_right _ _⟩
  have hC1:IsC (qqG H ws.length bs.length) cb ws bs:=hC.ext hnh.2
  have hX1:Chg [cb.P] H (qqG H ws.length bs.length):=Chg.ofExt hnh.2
  have hR1:=hnh.1
  generalize qqG H ws.length bs.length=H1 at hN hC1 hX1 hR1
  generalize qjq H=db at hN hR1 hne hge⊢
  clear hnh
  have hP:=hne _ (.inl rfl)
  have hW:=hne _ (.inr (.inl rfl))
  have hY:=hne _ (.inr (.inr rfl))
  refine qiv rfl Fn.zcK rfl rfl ?_
  repeat' first|refine .A ?_|refine .B ?_|refine .G ?_|refine .P hWs ?_|refine .P hBs ?_|refine .P hN ?_|refine .go rfl (mx rfl) rfl ?_|refine .F ?_|fail
  refine .loop (fun n f H2=>∃(i:Nat),n+i=ws.length∧f = [(0,qjd cb),(3,qjd db),(4,N i)]∧IsC H2 cb ws bs∧IsR H2 db (qam ws i) (List.replicate bs.length 0)∧Chg [cb.P] H H2) (n:=ws.length)
   ⟨0,rfl,rfl,hC1,by rw [qsk];exact hR1,hX1⟩ ?_
  clear hC1 hX1 hR1 hN hWs hBs mx hC
  rintro n f H2 ⟨i,hn,rfl,hC,hR,hX⟩ next
  have hWs:=qjn (lo:=0) hC
  by_cases hi:i<ws.length
  ·have hfl:=qsi ws i
   have hif:i<(qam ws i).length:=by rw [hfl];exact hi
   refine Exists.elim (qjh (lo:=0) hC (Nat.zero_le _) (i:Nat)) fun H3 hq => ?_
   have hL:=hq.1
   have hC3:=hq.2.1
   have ho3:=hq.2.2
   clear hq
   have hR3:=hR.chg (Chg.of ho3) (by simp [hP.1.symm,hP.2.1.symm,hP.2.2.symm])
   have hst:=hR3.set_w (lo:=0) hif (qi7 ws (i:Nat)) (Nat.zero_le _)
   have hC4:=hC3.chg (Chg.of hst.2.2) (by simp [hP.2.1,hW.2.1,hY.2.1])
   have hR4:=hst.2.1
   have hX4:=(hX.join (Chg.of ho3) (by simp)).join (Chg.of hst.2.2) (fun x hx=>by simp at hx;subst hx;exact .inr hge.2.1)
   have hst:=hst.1
   rw [qsn hi,qsm ws hi]at hR4
   rw [qsn hi]at hC4 hX4 hst hL
   rw [qsm ws hi]at hC4 hX4 hst
   have l0:=hR.p0
   have m0:=hR3.p0
   generalize H3.set db.W (.row (qiR (qam ws (i+1))) false)=H4 at hst hC4 hR4 hX4
   repeat' first|refine .A ?_|refine .B ?_|refine .C ?_|refine .F ?_|refine .G ?_|refine .H ?_|refine .t1 ?_|refine .n2 ?_|refine .P hWs ?_|refine .P hL ?_|refine .R hif ?_|refine .X m0 (qiI l0) (qrV _ _ _) ?_|refine .S hst ?_|refine .Y ?_|fail
   exact next (n-1) _ _ (by omega) ⟨i+1,by omega,rfl,hC4,hR4,hX4⟩
  ·have hil:i=ws.length:=by omega
   rw [hil,qsl]at hR
   repeat' first|refine .A ?_|refine .B ?_|refine .D ?_|refine .G ?_|refine .I ?_|refine .f1 ?_|refine .P hWs ?_|refine .F ?_|fail
   refine .loop (fun n f H2=>∃(i:Nat),n+i=bs.length∧f = [(0,qjd cb),(3,qjd db),(5,N i)]∧IsC H2 cb ws bs∧IsR H2 db ws (qam bs i)∧Chg [cb.P] H H2) (n:=bs.length)
    ⟨0,rfl,rfl,hC,by rw [qsk];exact hR,hX⟩ ?_
   clear hC hX hR hWs hil hi hn
   rintro n f H2 ⟨i,hn,rfl,hC,hR,hX⟩ next
   have hBs:=qjo (lo:=0) hC
   by_cases hi:i<bs.length
   ·have hfl:=qsi bs i
    have hif:i<(qam bs i).length:=by rw [hfl];exact hi
    have hby:0≤qi7 bs (i:Nat)∧qi7 bs (i:Nat)<256:=by
     rw [qsn hi,List.getD_eq_getElem?_getD,List.getElem?_eq_getElem hi]
     exact hC.byte _ (List.getElem_mem hi)
    refine Exists.elim (qjl (lo:=0) hC (Nat.zero_le _) (i:Nat)) fun H3 hq => ?_
    have hL:=hq.1
    have hC3:=hq.2.1
    have ho3:=hq.2.2
    clear hq
    have hR3:=hR.chg (Chg.of ho3) (by simp [hP.1.symm,hP.2.1.symm,hP.2.2.symm])
    have hst:=hR3.set_y (lo:=0) hif (qi7 bs (i:Nat)) hby (Nat.zero_le _)
    have hC4:=hC3.chg (Chg.of hst.2.2) (by simp [hP.2.2,hW.2.2,hY.2.2])
    have hR4:=hst.2.1
    have hX4:=(hX.join (Chg.of ho3) (by simp)).join (Chg.of hst.2.2) (fun x hx=>by simp at hx;subst hx;exact .inr hge.2.2)
    have hst:=hst.1
    rw [qsn hi,qsm bs hi]at hR4
    rw [qsn hi]at hC4 hX4 hst hL
    rw [qsm bs hi]at hC4 hX4 hst
    have l1:=hR.p1
    have m1:=hR3.p1
    generalize H3.set db.Y (.row (qiR (qam bs (i+1))) false)=H4 at hst hC4 hR4 hX4
    repeat' first|refine .A ?_|refine .B ?_|refine .C ?_|refine .F ?_|refine .G ?_|refine .H ?_|refine .t1 ?_|refine .n2 ?_|refine .P hBs ?_|refine .P hL ?_|refine .R hif ?_|refine .X m1 (qiI l1) (qrV _ _ _) ?_|refine .S hst ?_|refine .Y ?_|fail
    exact next (n-1) _ _ (by omega) ⟨i+1,by omega,rfl,hC4,hR4,hX4⟩
   ·have hil:i=bs.length:=by omega
    rw [hil,qsl]at hR
    repeat' first|refine .A ?_|refine .B ?_|refine .D ?_|refine .I ?_|refine .J ?_|refine .f1 ?_|refine .P hBs ?_|refine .F ?_|fail
    exact⟨rfl,hC,hR,hX⟩
 obtain⟨u,H',h1,rfl,h2⟩:=key
 exact⟨H',h1,h2⟩
end Go.Proofs.YtlgnnpkdhbhdgaaGreat

