/- The objects of cells, and their bytes, as the program tells them. -/
import Derived.Test.YtlgnnpkdhbhdgaaGreatBytesV
import Derived.Test.YtlgnnpkdhbhdgaaGreatThreadP4
import Derived.Test.YtlgnnpkdhbhdgaaGreatThreadP3
set_option linter.unusedVariables false
set_option linter.unusedSimpArgs false

namespace Go.Proofs.YtlgnnpkdhbhdgaaGreat
open Go Go.Ir

theorem qrL {h:qab}{v:Value}{l:List Fd}(hv:Sl h 10 v (fcs l)){i:Nat}{a:Fd}(hi:l[i]? = some a) :
  ∃ad cap,v = .slice (some ad) l.length cap∧qav h (some 10) ⟨ad.block,ad.off+i*10,none⟩=some (.agg a.cs.toArray):=by
 obtain⟨ad,cap,h1,h2,h3⟩:=hv.at (show(fcs l)[i]? = some a.cs by simp [fcs,hi])
 rw [qrz]at h1
 exact⟨ad,cap,h1,h3⟩
theorem Ext.keep {H H':qab}(e:Ext H H'):∀i,i<H.length→H'[i]? = H[i]? := e.2
theorem Chg.ext {S:List Nat}{H H1 H2:qab}(a:Chg S H H1)(e:Ext H1 H2):Chg S H H2 :=
 ⟨Nat.le_trans a.len e.1,fun j hj hs=>(e.2 j (Nat.lt_of_lt_of_le hj a.len)).trans (a.same j hj hs)⟩
theorem IsC.ext {H H':qab}{c:CB}{ws bs:List Int}(hC:IsC H c ws bs)(e:Ext H H'):IsC H' c ws bs:=hC.keep e.2 hC.lts

theorem qrM {ws:List Int}{c:Cfg}{s:Int}{y:List Fd}(h:fdS ws c s=some y){a:Fd}(ha:a∈y) :
  a.x.s=s∧qkd (qi7 ws (qjz c s 0))=some a.e∧a.e.lv=true∧1≤qi7 ws (qjz c s 1)∧qi7 ws (qjz c s 1)≤256∧a.x.o=a.e.o∧a.x.n=qkq (qi7 ws (qjz c s 1)):=by
 unfold fdS at h
 cases hu:qkd (qi7 ws (qjz c s 0))with
 | none=>rw [hu]at h;cases h
 | some e =>
   rw [hu]at h
   simp only [fdO]at h
   split at h
   ·cases h;cases ha
   ·rename_i hl
    split at h
    ·rename_i hr
     cases h
     rw [List.mem_singleton]at ha
     subst ha
     exact⟨rfl,rfl,by simpa using hl,hr.1,hr.2,rfl,rfl⟩
    ·cases h
theorem qrN {ws:List Int}{c:Cfg} : ∀{k:Nat} {l:List Fd},fdL ws c k=some l→∀{a:Fd},a∈l→∃s:Nat,s<k∧∃y,fdS ws c s=some y∧a∈y
 | 0,l,h,a,ha=>by cases h;cases ha
 | k+1,l,h,a,ha=>by
   rw [fdL]at h
   cases hk:fdL ws c k with
   | none=>rw [hk]at h;cases h
   | some l' =>
     rw [hk]at h
     simp only [fdA]at h
     cases hs:fdS ws c k with
     | none=>rw [hs]at h;cases h
     | some y =>
       rw [hs]at h
       simp only [fdB]at h
       cases h
       rcases List.mem_append.1 ha with ha|ha
       ·obtain⟨s,h1,h2⟩:=qrN hk ha
        exact⟨s,by omega,h2⟩
       ·exact⟨k,by omega,y,hs,ha⟩
theorem qrO {ws:List Int}{c:Cfg}{a:Fd}(ha:a∈qrG ws c):qrF ws c∧∃s:Nat,s<c.S.toNat∧∃y,fdS ws c s=some y∧a∈y:=by
 unfold qrG at ha
 split at ha
 ·rename_i hp
  cases hl:fdL ws c c.S.toNat with
  | none=>rw [hl]at ha;cases ha
  | some l=>rw [hl]at ha;exact⟨hp,qrN hl ha⟩
 ·cases ha
theorem qrP (ws:List Int)(c:Cfg):(qrG ws c).length≤64:=by
 unfold qrG
 split
 ·rename_i hp
  have hm:=hp.1
  unfold Cfg.may at hm
  cases hl:fdL ws c c.S.toNat with
  | none=>simp
  | some l=>have:=qrE hl;simp;omega
 ·simp

def qrQ (ws:List Int)(c:Cfg):List Obj:=(qrG ws c).map Fd.x

section
variable {lo:Nat}{H:qab}{cb:CB}{ws bs:List Int}
def byF (bs:List Int)(k:Nat)(o:Int):List Int:=(List.range k).map fun i=>qi7 bs (IntKind.i64.wrap (o+(i:Nat)))
def byG (bs:List Int)(slot z:Int)(a:Fd):List Int:=if a.x.s=slot then byF bs z.toNat a.x.o else []
def qrR (ws bs:List Int)(c:Cfg)(slot:Int):List Int:=((qrG ws c).map (byG bs slot (qi7 ws (qjz c slot 1)))).flatten
theorem qrS (bs:List Int)(k:Nat)(o:Int):byF bs (k+1) o=byF bs k o ++ [qi7 bs (IntKind.i64.wrap (o+(k:Nat)))]:=by
 unfold byF
 rw [List.range_succ,List.map_append]
 rfl
theorem qrT {α β:Type}(f:α→List β)(k:Nat):∀(l:List α),(∀a∈l,(f a).length≤k)→((l.map f).flatten).length≤l.length*k
 | [],_=>by simp
 | a::l,h=>by
   have h1:=qrT f k l fun b hb=>h b (List.mem_cons_of_mem _ hb)
   have h2:=h a (List.mem_cons_self ..)
   simp only [List.map_cons,List.flatten_cons,List.length_append,List.length_cons,Nat.add_mul,Nat.one_mul]
   omega

set_option maxHeartbeats 4000000 in
theorem qrU (hC:IsC H cb ws bs)(hlo:lo≤cb.P)(c:Cfg)(slot:Int) :
  ∃v H',qfV En lo Id.zal [ifC cb,.agg c.cs.toArray,I slot] H=some (v,H')∧IsC H' cb ws bs∧Chg [cb.P] H H'∧Out H' H.length 1 v (ics (qrR ws bs c slot)):=by
 refine qiv rfl Fn.zal rfl rfl ?_
 have hlt:=hC.lts
 have hll:=qrP ws c
 have hfd:∀a∈qrG ws c,a.x.s=slot→c.may∧qi7 ws (qjz c slot 1)≤256:=fun a ha hs=>by
  obtain⟨hp,s,h1,y,h2,h3⟩:=qrO ha
  have h4:=qrM h2 h3
  rw [h4.1]at hs
  rw [hs]at h4
  exact⟨hp.1,h4.2.2.2.2.1⟩
 refine Exists.elim (qrI hC hlo c) fun v hq=>Exists.elim hq fun H1 hq => ?_
 have hA:=hq.1
 have hC1:=hq.2.1
 have hx1:=hq.2.2.1
 have hs1:=hq.2.2.2
 clear hq
 unfold qrR
 generalize qrH ws c=ec at hA⊢
 generalize qrG ws c=l at hs1 hll hfd⊢
 refine Exists.elim hs1.sl.len fun base hq=>Exists.elim hq fun cap hve => ?_
 rw [qrz]at hve
 subst hve
 have hO:=fun lo=>qi1 lo H1 c
 have hlV:∃T S:Int,(qi0 c).toArray = #[I T,I S]∧(c.may→T=c.T∧S=c.S):=by
  unfold qi0
  by_cases hm:c.may
  ·rw [if_pos hm];exact⟨_,_,rfl,fun _=>⟨rfl,rfl⟩⟩
  ·rw [if_neg hm];exact⟨_,_,rfl,fun h=>absurd h hm⟩
 refine Exists.elim hlV fun T hq=>Exists.elim hq fun S hq => ?_
 have hTS:=hq.2
 rw [hq.1]at hO
 clear hq hlV
 generalize (if c.may then(0:Int)else 1)=oc at hO
 have hb0:∀(k:Nat) (l':List Fd),(∀a∈l',a∈l)→((l'.map (byG bs slot (qi7 ws (qjz c slot 1)))).flatten).length≤l'.length*256:=fun k l' hl' =>
  qrT _ 256 l' fun a ha=>by
   unfold byG
   split
   ·rename_i hs
    have:=(hfd a (hl' a ha) hs).2
    simp [byF];omega
   ·simp
 repeat' first|refine .A ?_|refine .B ?_|refine .G ?_|refine .P hA ?_|refine .P (hO _) ?_|refine .F ?_|refine .Y ?_|fail
 refine .loop (fun n f H2=>∃(i:Nat) (o:Value),n+i=l.length∧f = [(0,ifC cb),(2,I slot),(9,.agg #[I T,I S]),(11,o),(26,.slice base l.length cap),(27,N l.length),(28,N i)]∧IsC H2 cb ws bs∧Chg [cb.P] H1 H2∧Out H2 H1.length 1 o (ics (((l.take i).map (byG bs slot (qi7 ws (qjz c slot 1)))).flatten))) (n:=l.length)
  ⟨0,_,rfl,rfl,hC1,.refl _ _,Out.nil _ _ _⟩ ?_
 rintro n f H2 ⟨i,o,hn,rfl,hC2,hx2,ho⟩ next
 have hP1:cb.P<H1.length∧cb.W<H1.length∧cb.Y<H1.length:=hC1.lts
 by_cases hi:i<l.length
 ·have hg:l[i]? = some l[i]:=List.getElem?_eq_getElem hi
  have htk:((l.take (i+1)).map (byG bs slot (qi7 ws (qjz c slot 1)))).flatten=((l.take i).map (byG bs slot (qi7 ws (qjz c slot 1)))).flatten++byG bs slot (qi7 ws (qjz c slot 1)) l[i]:=by
   rw [List.take_succ_eq_append_getElem hi,List.map_append,List.flatten_append]
   simp
  have hs2:Sl H2 10 (.slice base l.length cap) (fcs l):=(hs1.keep fun j h1 h2=>hx2.same j h2 (by simp;omega)).sl
  refine Exists.elim (qrL hs2 hg) fun ad hq=>Exists.elim hq fun cap' hq => ?_
  have hva:=hq.1
  have hld:=hq.2
  clear hq hs2
  injection hva with e1 e2 e3
  subst e1
  have hfa:=hfd l[i] (List.getElem_mem hi)
  have hpl:((((l.take i).map (byG bs slot (qi7 ws (qjz c slot 1)))).flatten)).length≤16384:=by
   have:=hb0 0 (l.take i) fun a ha=>List.mem_of_mem_take ha
   rw [List.length_take]at this
   have h2:min i l.length≤64:=by omega
   exact Nat.le_trans this (Nat.mul_le_mul_right 256 h2)
  generalize ((l.take i).map (byG bs slot (qi7 ws (qjz c slot 1)))).flatten=pre at ho htk hpl
  generalize l[i]=a at hg htk hld hfa
  obtain⟨⟨s,o1,n1,fx⟩,⟨eo,eg,ep,eu,lk,lv⟩⟩:=a
  simp only [Fd.cs,Obj.cs,Ent.cs,List.cons_append,List.nil_append]at hld
  by_cases hs:s=slot
  ·subst hs
   have hfa:=hfa rfl
   obtain⟨rfl,rfl⟩:=hTS hfa.1
   have hLS:=fun lo=>qjD lo H2 hfa.1 s
   refine Exists.elim (qjh hC2 hlo (qjz c s 1)) fun H3 hq => ?_
   have hL:=hq.1
   have hC3:=hq.2.1
   have hx3:=hx2.trans (.of hq.2.2)
   have ho3:=ho.keep fun j h1 h2=>hq.2.2.same j (by simp;omega)
   clear hq
   have hz:=hfa.2
   have hby:byG bs s (qi7 ws (qjz c s 1)) ⟨⟨s,o1,n1,fx⟩,⟨eo,eg,ep,eu,lk,lv⟩⟩=byF bs (qi7 ws (qjz c s 1)).toNat o1:=if_pos rfl
   rw [hby]at htk
   have hnx:∀(H4:qab) (o4:Value) f4,IsC H4 cb ws bs→Chg [cb.P] H1 H4→Out H4 H1.length 1 o4 (ics (pre++byF bs (qi7 ws (qjz c s 1)).toNat o1))→
     keep [0,2,9,11,26,27,28] f4 = [(0,ifC cb),(2,I s),(9,lay c.T c.S),(11,o4),(26,.slice (some ad) l.length cap),(27,N l.length),(28,N (i+1))]→_:=fun H4 o4 f4 h1 h2 h3 h4=>next (n-1) f4 H4 (by omega) ⟨i+1,o4,by omega,h4,h1,h2,by rw [htk];exact h3⟩
   clear next htk hby hfd hb0
   generalize qi7 ws (qjz c s 1)=z at hL hz hnx
   repeat' first|refine .A ?_|refine .B ?_|refine .C ?_|refine .D ?_|refine .F ?_|refine .G ?_|refine .t1 ?_|refine .f6 ?_|refine .L hld ?_|refine .P (hLS _) ?_|refine .R hi ?_|refine .W hL ?_|refine .Y ?_|fail
   refine .loop (fun m f H4=>∃(k:Nat) (o4:Value),m+k=z.toNat∧f = [(0,ifC cb),(2,I s),(9,lay c.T c.S),(11,o4),(13,.agg #[I s,I o1,I n1,.bool fx,I eo,I eg,I ep,I eu,.bool lk,.bool lv]),(26,.slice (some ad) l.length cap),(27,N l.length),(28,N i),(44,I z),(45,N k)]∧IsC H4 cb ws bs∧Chg [cb.P] H1 H4∧Out H4 H1.length 1 o4 (ics (pre++byF bs k o1))) (n:=z.toNat)
    ⟨0,o,by omega,rfl,hC3,hx3,by simpa [byF]using ho3⟩ ?_
   rintro m f H4 ⟨k,o4,hm4,rfl,hC4,hx4,ho4⟩ next4
   by_cases hk:(k:Int)<z
   ·refine Exists.elim (qjl hC4 hlo (IntKind.i64.wrap (o1+(k:Nat)))) fun H5 hq => ?_
    have hB:=hq.1
    have hC5:=hq.2.1
    have hx5:=hx4.trans (.of hq.2.2)
    have ho5:=ho4.keep fun j h1 h2=>hq.2.2.same j (by simp;omega)
    clear hq
    refine Exists.elim (ho5.push3 (l0:=lo) (bytes:=8) (e := [I (qi7 bs (IntKind.i64.wrap (o1+(k:Nat))))]) rfl (by omega) hx5.len (by rw [qrK];simp [byF];omega) (by omega)) fun o6 hq=>Exists.elim hq fun H6 hq => ?_
    have hap:=hq.1
    have ho6:=hq.2.1
    have hC6:=hC5.keep hq.2.2.2 hP1
    have hx6:=hx5.keep (Nat.le_refl _) hq.2.2.1 hq.2.2.2
    clear hq
    rw [qrJ,List.append_assoc,←qrS]at ho6
    repeat' first|refine .A ?_|refine .B ?_|refine .C ?_|refine .F ?_|refine .G ?_|refine .H ?_|refine .t1 ?_|refine .n2 ?_|refine .U hap ?_|refine .W hB ?_|refine .Y ?_|fail
    exact next4 (m-1) _ _ (by omega) ⟨k+1,o6,by omega,rfl,hC6,hx6,ho6⟩
   ·have hkz:k=z.toNat:=by omega
    rw [hkz]at ho4
    repeat' first|refine .A ?_|refine .B ?_|refine .D ?_|refine .H ?_|refine .I ?_|refine .f1 ?_|refine .n2 ?_|refine .F ?_|fail
    exact hnx _ _ _ hC4 hx4 ho4 rfl
  ·have hby:byG bs slot (qi7 ws (qjz c slot 1)) ⟨⟨s,o1,n1,fx⟩,⟨eo,eg,ep,eu,lk,lv⟩⟩ = []:=if_neg hs
   rw [hby,List.append_nil]at htk
   repeat' first|refine .A ?_|refine .B ?_|refine .C ?_|refine .F ?_|refine .G ?_|refine .I ?_|refine .t1 ?_|refine .t6 ?_|refine .n2 ?_|refine .L hld ?_|refine .R hi ?_|refine .Y ?_|fail
   exact next (n-1) _ _ (by omega) ⟨i+1,o,by omega,rfl,hC2,hx2,by rw [htk];exact ho⟩
 ·rw [List.take_of_length_le (by omega)]at ho
  repeat' first|refine .A ?_|refine .B ?_|refine .D ?_|refine .I ?_|refine .J ?_|refine .f1 ?_|refine .F ?_|fail
  exact⟨hC2,hx1.trans hx2,ho.mono' hx1.len⟩
end
end Go.Proofs.YtlgnnpkdhbhdgaaGreat

/- Whether cells are sound, by the program. -/
namespace Go.Proofs.YtlgnnpkdhbhdgaaGreat
open Go Go.Ir

structure Sta where
 hv:Value
 v:Mv
 is:Bool
section
variable {lo:Nat}{H:qab}
variable {cb:CB}{ws bs:List Int}{c:Cfg}
end
end Go.Proofs.YtlgnnpkdhbhdgaaGreat

/- The objects of cells, by the document. -/
namespace Go.Proofs.YtlgnnpkdhbhdgaaGreat
open Go Go.Ir

theorem qrV (a:Addr)(n k:Nat):qaQ (.slice (some a) n k) (.slice (some a) n k)=true:=by simp [qaQ,qaP,qaO]
theorem IsR.keep {H H':qab}{c:CB}{ws bs:List Int}(hC:IsR H c ws bs){lo:Nat}(h:∀i,i<lo→H'[i]? = H[i]?)(hb:c.P<lo∧c.W<lo∧c.Y<lo):IsR H' c ws bs:=by
 obtain⟨st,hp⟩:=hC.p
 exact⟨⟨st,(h _ hb.1).trans hp⟩,(h _ hb.2.1).trans hC.w,(h _ hb.2.2).trans hC.y,hC.pw,hC.py,hC.wy,hC.byte⟩
theorem IsR.lts {H:qab}{c:CB}{ws bs:List Int}(hC:IsR H c ws bs):c.P<H.length∧c.W<H.length∧c.Y<H.length:=by
 obtain⟨st,hp⟩:=hC.p
 exact⟨qiC hp,qiC hC.w,qiC hC.y⟩
theorem IsR.ext {H H':qab}{c:CB}{ws bs:List Int}(hC:IsR H c ws bs)(e:Ext H H'):IsR H' c ws bs:=hC.keep e.2 hC.lts
theorem IsR.w_at {H:qab}{c:CB}{ws bs:List Int}(hC:IsR H c ws bs){k:Nat}(hk:k<ws.length):qav H none ⟨c.W,0+k*1,none⟩=some (I (qi7 ws (k:Nat))):=by
 have:=hC.w_ld hk
 unfold qi7
 rw [if_pos ⟨by omega,by omega⟩,Int.toNat_natCast]
 exact this
theorem qrW {c:Cfg}(hm:c.may){s:Int}(h0:0≤s)(hs:s<c.S){j:Int}(hj:0≤j∧j≤2){n:Nat}(hn:qi3 c≤n):∃k:Nat,qjz c s j=(k:Nat)∧k<n:=by
 unfold Cfg.may at hm
 unfold qi3 at hn
 unfold qjz
 rw [if_pos ⟨h0,hs⟩]
 exact⟨(4+c.T+3*s+j).toNat,by omega,by omega⟩

section
variable {lo:Nat}{H:qab}{cb:CB}{ws bs:List Int}
theorem qrX (l:List Fd)(a:Fd):css (l.map Fd.x) ++ [a.x.cs]=css ((l ++ [a]).map Fd.x):=by rw [qkQ,List.map_append];rfl

set_option maxHeartbeats 4000000 in
theorem qrY (hC:IsR H cb ws bs)(c:Cfg) :
  qfV En lo Id.zdn [qjd cb,.agg c.cs.toArray] H=some (.tuple #[(made H 4 (css (qrQ ws c))).1,I (qrH ws c)],(made H 4 (css (qrQ ws c))).2):=by
 refine qgy rfl Fn.zdn rfl rfl ?_
 have hM:=fun lo=>qi2 lo H c
 have hW:=fun lo=>qi4 lo H c
 have l0:=hC.p0
 by_cases hm:c.may
 ·rw [decide_eq_true hm]at hM
  rw [if_pos hm]at hW
  have hm':=hm
  unfold Cfg.may at hm'
  by_cases hw:qi3 c≤ws.length
  ·have hp:qrF ws c:=⟨hm,hw⟩
   have eL:qrQ ws c=((fdL ws c c.S.toNat).getD []).map Fd.x:=by rw [qrQ,qrG,if_pos hp]
   have eE:qrH ws c=fdE (fdL ws c c.S.toNat):=if_pos hp
   rw [eL,eE]
   clear eL eE
   have hcs:Value.agg c.cs.toArray = .agg #[I c.A,I c.S,I c.T]:=rfl
   rw [hcs]at hM hW⊢
   repeat' first|refine .A ?_|refine .B ?_|refine .D ?_|refine .F ?_|refine .G ?_|refine .f1 ?_|refine .P (hM _) ?_|refine .P (hW _) ?_|refine .X l0 (qiI l0) (qrV _ _ _) ?_|refine .Y ?_|fail
   refine .loop (fun n f H1=>∃(i:Nat) (l:List Fd) (o:Value),(n:Int)+i=c.S∧fdL ws c i=some l∧f = [(0,qjd cb),(3,.agg #[I c.A,I c.S,I c.T]),(6,o),(7,N i)]∧Ext H H1∧Out H1 H.length 4 o (css (l.map Fd.x))) (n:=c.S.toNat)
    ⟨0,[],_,by omega,rfl,rfl,.refl _,Out.nil _ _ _⟩ ?_
   rintro n f H1 ⟨i,l,o,hn,hl,rfl,hx,ho⟩ next
   by_cases hi:(i:Int)<c.S
   ·have hll:=qrE hl
    refine Exists.elim (qrW hm (s:=(i:Nat)) (by omega) hi (j:=0) (by omega) hw) fun k0 hq => ?_
    have hk0:=hq.1
    have hb0:=hq.2
    clear hq
    refine Exists.elim (qrW hm (s:=(i:Nat)) (by omega) hi (j:=1) (by omega) hw) fun k1 hq => ?_
    have hk1:=hq.1
    have hb1:=hq.2
    clear hq
    have hC1:=hC.ext hx
    have p0:=hC1.p0
    have hA0:∀lo,qfV En lo Id.zcW [.agg #[I c.A,I c.S,I c.T],I 5,N i] H1=some (N k0,H1):=fun lo=>(qn0 lo H1 hm (i:Nat) (j:=0) (by omega)).trans (by rw [hk0])
    have hA1:∀lo,qfV En lo Id.zcW [.agg #[I c.A,I c.S,I c.T],I 6,N i] H1=some (N k1,H1):=fun lo=>(qn0 lo H1 hm (i:Nat) (j:=1) (by omega)).trans (by rw [hk1])
    have w0:=hC1.w_at hb0
    have w1:=hC1.w_at hb1
    have hU:=fun lo=>qlS lo H1 (qi7 ws (k0:Nat))
    have hR:=fun lo=>qlK lo H1 (qi7 ws (k1:Nat))
    have hS:fdL ws c (i+1)=fdB l (fdO i (qi7 ws (k1:Nat)) (qkd (qi7 ws (k0:Nat)))):=by rw [fdL,hl,←hk0,←hk1];rfl
    clear hk0 hk1
    generalize qi7 ws (k0:Nat)=e0 at w0 hU hS
    generalize qi7 ws (k1:Nat)=e1 at w1 hR hS
    generalize qkd e0=u at hU hS
    cases u with
    | none =>
      simp only [fdO,fdB]at hS
      have hN:=qrC hS (show i+1≤c.S.toNat by omega)
      rw [hN]
      unfold unV at hU
      unfold qkr at hR
      by_cases hr:1≤e1∧e1≤256
      ·rw [if_pos hr]at hR
       repeat' first|refine .A ?_|refine .B ?_|refine .C ?_|refine .F ?_|refine .G ?_|refine .J ?_|refine .t1 ?_|refine .t6 ?_|refine .L w0 ?_|refine .L w1 ?_|refine .P (hA0 _) ?_|refine .P (hA1 _) ?_|refine .P (hU _) ?_|refine .P (hR _) ?_|refine .R hb0 ?_|refine .R hb1 ?_|refine .X p0 (qiI p0) (qrV _ _ _) ?_|refine .D ?_|refine .Y ?_|fail
       rfl
      ·rw [if_neg hr]at hR
       repeat' first|refine .A ?_|refine .B ?_|refine .C ?_|refine .F ?_|refine .G ?_|refine .J ?_|refine .t1 ?_|refine .t6 ?_|refine .L w0 ?_|refine .L w1 ?_|refine .P (hA0 _) ?_|refine .P (hA1 _) ?_|refine .P (hU _) ?_|refine .P (hR _) ?_|refine .R hb0 ?_|refine .R hb1 ?_|refine .X p0 (qiI p0) (qrV _ _ _) ?_|refine .D ?_|refine .Y ?_|fail
       rfl
    | some e =>
      obtain⟨eo,eg,ep,eu,lk,lv⟩:=e
      unfold unV at hU
      simp only [Ent.cs]at hU
      unfold qkr at hR
      cases lv with
      | false =>
        simp only [fdO,if_true,fdB]at hS
        by_cases hr:1≤e1∧e1≤256
        ·rw [if_pos hr]at hR
         repeat' first|refine .A ?_|refine .B ?_|refine .C ?_|refine .D ?_|refine .F ?_|refine .G ?_|refine .H ?_|refine .t1 ?_|refine .f6 ?_|refine .n2 ?_|refine .L w0 ?_|refine .L w1 ?_|refine .P (hA0 _) ?_|refine .P (hA1 _) ?_|refine .P (hU _) ?_|refine .P (hR _) ?_|refine .R hb0 ?_|refine .R hb1 ?_|refine .X p0 (qiI p0) (qrV _ _ _) ?_|refine .Y ?_|fail
         exact next (n-1) _ _ (by omega) ⟨i+1,l ++ [],_,by omega,hS,rfl,hx,by rw [List.append_nil];exact ho⟩
        ·rw [if_neg hr]at hR
         repeat' first|refine .A ?_|refine .B ?_|refine .C ?_|refine .D ?_|refine .F ?_|refine .G ?_|refine .H ?_|refine .t1 ?_|refine .f6 ?_|refine .n2 ?_|refine .L w0 ?_|refine .L w1 ?_|refine .P (hA0 _) ?_|refine .P (hA1 _) ?_|refine .P (hU _) ?_|refine .P (hR _) ?_|refine .R hb0 ?_|refine .R hb1 ?_|refine .X p0 (qiI p0) (qrV _ _ _) ?_|refine .Y ?_|fail
         exact next (n-1) _ _ (by omega) ⟨i+1,l ++ [],_,by omega,hS,rfl,hx,by rw [List.append_nil];exact ho⟩
      | true =>
        by_cases hr:1≤e1∧e1≤256
        ·rw [if_pos hr]at hR
         simp only [fdO,if_pos hr,fdB,Bool.true_eq_false,if_false]at hS
         refine Exists.elim (ho.push2 (l0:=H.length) (bytes:=32) (e:=Obj.cs ⟨i,eo,qkq e1,decide (0<ep)⟩) rfl (Nat.le_refl _) hx.1 (by rw [qkR,List.length_map];omega) (by omega)) fun o' hq=>Exists.elim hq fun H4 hq => ?_
         have hap:=hq.1
         have ho4:=hq.2.1
         have hx4:=hq.2.2 H (Nat.le_refl _) hx
         clear hq
         rw [qrX l ⟨⟨i,eo,qkq e1,decide (0<ep)⟩,⟨eo,eg,ep,eu,lk,true⟩⟩]at ho4
         by_cases hp0:0<ep
         ·rw [show Obj.cs ⟨i,eo,qkq e1,decide (0<ep)⟩=Obj.cs ⟨i,eo,qkq e1,true⟩ by rw [decide_eq_true hp0]]at hap
          repeat' first|refine .A ?_|refine .B ?_|refine .C ?_|refine .D ?_|refine .F ?_|refine .G ?_|refine .H ?_|refine .t1 ?_|refine .t3 ?_|refine .f6 ?_|refine .n2 ?_|refine .L w0 ?_|refine .L w1 ?_|refine .P (hA0 _) ?_|refine .P (hA1 _) ?_|refine .P (hU _) ?_|refine .P (hR _) ?_|refine .R hb0 ?_|refine .R hb1 ?_|refine .U hap ?_|refine .X p0 (qiI p0) (qrV _ _ _) ?_|refine .Y ?_|fail
          exact next (n-1) _ _ (by omega) ⟨i+1,_,o',by omega,hS,rfl,hx4,ho4⟩
         ·rw [show Obj.cs ⟨i,eo,qkq e1,decide (0<ep)⟩=Obj.cs ⟨i,eo,qkq e1,false⟩ by rw [decide_eq_false hp0]]at hap
          repeat' first|refine .A ?_|refine .B ?_|refine .C ?_|refine .D ?_|refine .F ?_|refine .G ?_|refine .H ?_|refine .t1 ?_|refine .f3 ?_|refine .f6 ?_|refine .n2 ?_|refine .L w0 ?_|refine .L w1 ?_|refine .P (hA0 _) ?_|refine .P (hA1 _) ?_|refine .P (hU _) ?_|refine .P (hR _) ?_|refine .R hb0 ?_|refine .R hb1 ?_|refine .U hap ?_|refine .X p0 (qiI p0) (qrV _ _ _) ?_|refine .Y ?_|fail
          exact next (n-1) _ _ (by omega) ⟨i+1,_,o',by omega,hS,rfl,hx4,ho4⟩
        ·rw [if_neg hr]at hR
         simp only [fdO,if_neg hr,fdB,Bool.true_eq_false,if_false]at hS
         have hN:=qrC hS (show i+1≤c.S.toNat by omega)
         rw [hN]
         repeat' first|refine .A ?_|refine .B ?_|refine .C ?_|refine .F ?_|refine .G ?_|refine .J ?_|refine .t1 ?_|refine .t6 ?_|refine .f6 ?_|refine .L w0 ?_|refine .L w1 ?_|refine .P (hA0 _) ?_|refine .P (hA1 _) ?_|refine .P (hU _) ?_|refine .P (hR _) ?_|refine .R hb0 ?_|refine .R hb1 ?_|refine .X p0 (qiI p0) (qrV _ _ _) ?_|refine .Y ?_|fail
         rfl
   ·have hi2:i=c.S.toNat:=by omega
    rw [hi2]at hl
    rw [hl]
    repeat' first|refine .A ?_|refine .B ?_|refine .D ?_|refine .I ?_|refine .J ?_|refine .C ?_|refine .f1 ?_|refine .F ?_|fail
    exact Out.tidy2 ho (qky _) rfl (by intro a l c h;cases h)
  ·have hp:¬qrF ws c:=fun h=>hw h.2
   have eL:qrQ ws c = []:=by rw [qrQ,qrG,if_neg hp];rfl
   have eE:qrH ws c=1:=if_neg hp
   rw [eL,eE]
   repeat' first|refine .A ?_|refine .B ?_|refine .C ?_|refine .J ?_|refine .t1 ?_|refine .P (hM _) ?_|refine .P (hW _) ?_|refine .X l0 (qiI l0) (qrV _ _ _) ?_|refine .F ?_|refine .Y ?_|fail
   rfl
 ·rw [decide_eq_false hm]at hM
  have hp:¬qrF ws c:=fun h=>hm h.1
  have eL:qrQ ws c = []:=by rw [qrQ,qrG,if_neg hp];rfl
  have eE:qrH ws c=1:=if_neg hp
  rw [eL,eE]
  repeat' first|refine .A ?_|refine .B ?_|refine .C ?_|refine .J ?_|refine .P (hM _) ?_|refine .D ?_|refine .F ?_|refine .Y ?_|fail
  rfl
end
end Go.Proofs.YtlgnnpkdhbhdgaaGreat

/- Free slots, locks, and spare slots, by the document. -/
namespace Go.Proofs.YtlgnnpkdhbhdgaaGreat
open Go Go.Ir

theorem qrZ {h:qab}{n:Nat}{es:List (List Value)}(hl:∀e∈es,e.length=n):Out (made h n es).2 h.length n (made h n es).1 es:=by
 unfold made
 split
 ·rename_i he
  exact⟨hl,.inl ⟨he,rfl⟩⟩
 ·rename_i he
  exact⟨hl,.inr ⟨he,h.length,rfl,Nat.le_refl _,List.getElem?_concat_length⟩⟩

section
variable {lo:Nat}{H:qab}{cb:CB}{ws bs:List Int}{c:Cfg}
end
end Go.Proofs.YtlgnnpkdhbhdgaaGreat

/- A slot's bytes, by the document. -/
namespace Go.Proofs.YtlgnnpkdhbhdgaaGreat
open Go Go.Ir

section
variable {lo:Nat}{H:qab}{cb:CB}{ws bs:List Int}
set_option maxHeartbeats 8000000 in
theorem qr0 (hC:IsR H cb ws bs)(hlo:lo≤cb.P)(c:Cfg)(slot:Int) :
  ∃v H',qfV En lo Id.zdm [qjd cb,.agg c.cs.toArray,I slot] H=some (v,H')∧IsR H' cb ws bs∧Chg [cb.P] H H'∧Out H' H.length 1 v (ics (qrR ws bs c slot)):=by
 refine qiv rfl Fn.zdm rfl rfl ?_
 have hcs:Value.agg c.cs.toArray = .agg #[I c.A,I c.S,I c.T]:=rfl
 have hlt:=hC.lts
 have hll:=qrP ws c
 have hfd:∀a∈qrG ws c,a.x.s=slot→c.may∧qi3 c≤ws.length∧0≤slot∧slot<c.S∧qi7 ws (qjz c slot 1)≤256:=fun a ha hs=>by
  obtain⟨hp,s,h1,y,h2,h3⟩:=qrO ha
  have h4:=qrM h2 h3
  rw [h4.1]at hs
  rw [hs]at h4
  exact⟨hp.1,hp.2,by omega,by omega,h4.2.2.2.2.1⟩
 have hO:=fun lo=>qrY (lo:=lo) hC c
 have hms:=(qgK (h:=H) (n:=4) (qkx (qrQ ws c))).2
 have hmo:=qrZ (h:=H) (n:=4) (qkx (qrQ ws c))
 generalize made H 4 (css (qrQ ws c))=mk at hO hms hmo
 obtain⟨v1,H1⟩:=mk
 have hC1:=hC.ext hms
 have hx1:Ext H H1:=hms
 have hs1:Out H1 H.length 4 v1 (css (qrQ ws c)):=hmo
 clear hms hmo
 unfold qrR
 unfold qrQ at hs1
 generalize qrH ws c=ec at hO
 generalize qrG ws c=l at hs1 hll hfd⊢
 refine Exists.elim hs1.sl.len fun base hq=>Exists.elim hq fun cap hve => ?_
 rw [qkR,List.length_map]at hve
 subst hve
 have hb0:∀(l':List Fd),(∀a∈l',a∈l)→((l'.map (byG bs slot (qi7 ws (qjz c slot 1)))).flatten).length≤l'.length*256:=fun l' hl' =>
  qrT _ 256 l' fun a ha=>by
   unfold byG
   split
   ·rename_i hs
    have:=(hfd a (hl' a ha) hs).2.2.2.2
    simp [byF];omega
   ·simp
 rw [hcs]at hO⊢
 repeat' first|refine .A ?_|refine .B ?_|refine .G ?_|refine .P (hO _) ?_|refine .F ?_|refine .Y ?_|fail
 refine .loop (fun n f H2=>∃(i:Nat) (o:Value),n+i=l.length∧f = [(0,qjd cb),(2,I slot),(4,.agg #[I c.A,I c.S,I c.T]),(7,o),(8,.slice base l.length cap),(10,N i)]∧IsR H2 cb ws bs∧Chg [cb.P] H1 H2∧Out H2 H1.length 1 o (ics (((l.take i).map (byG bs slot (qi7 ws (qjz c slot 1)))).flatten))) (n:=l.length)
  ⟨0,_,rfl,rfl,hC1,.refl _ _,Out.nil _ _ _⟩ ?_
 rintro n f H2 ⟨i,o,hn,rfl,hC2,hx2,ho⟩ next
 have hP1:cb.P<H1.length∧cb.W<H1.length∧cb.Y<H1.length:=hC1.lts
 by_cases hi:i<l.length
 ·have hg:l[i]? = some l[i]:=List.getElem?_eq_getElem hi
  have htk:((l.take (i+1)).map (byG bs slot (qi7 ws (qjz c slot 1)))).flatten=((l.take i).map (byG bs slot (qi7 ws (qjz c slot 1)))).flatten++byG bs slot (qi7 ws (qjz c slot 1)) l[i]:=by
   rw [List.take_succ_eq_append_getElem hi,List.map_append,List.flatten_append]
   simp
  have hP2:=hC2.lts
  have hfa:=hfd l[i] (List.getElem_mem hi)
  have hpl:((((l.take i).map (byG bs slot (qi7 ws (qjz c slot 1)))).flatten)).length≤16384:=by
   have:=hb0 (l.take i) fun a ha=>List.mem_of_mem_take ha
   rw [List.length_take]at this
   have h2:min i l.length≤64:=by omega
   exact Nat.le_trans this (Nat.mul_le_mul_right 256 h2)
  have hs2:=(hs1.keep (H':=H2) fun j h1 h2=>hx2.same j h2 (by simp;omega)).sl
  refine Exists.elim (qkS hs2 (show(l.map Fd.x)[i]? = some l[i].x by rw [List.getElem?_map,hg];rfl)) fun ad hq=>Exists.elim hq fun cap' hq => ?_
  have hva:=hq.1
  have hl0:=hq.2.2.1
  clear hq hs2
  injection hva with e1 e2 e3
  subst e1
  have hl1:∀H4,Chg [cb.P] H1 H4→qav H4 none ⟨ad.block,ad.off+i*4+0,none⟩=some (I l[i].x.s)∧qav H4 none ⟨ad.block,ad.off+i*4+1,none⟩=some (I l[i].x.o):=fun H4 hx4=>by
   have hs4:=(hs1.keep (H':=H4) fun j h1 h2=>hx4.same j h2 (by simp;omega)).sl
   obtain⟨ad4,cap4,g1,g2,g3,g4,g5⟩:=qkS hs4 (show(l.map Fd.x)[i]? = some l[i].x by rw [List.getElem?_map,hg];rfl)
   injection g1 with g1 g6 g7
   injection g1 with g1
   subst g1
   exact⟨g3,g4⟩
  generalize ((l.take i).map (byG bs slot (qi7 ws (qjz c slot 1)))).flatten=pre at ho htk hpl
  generalize l[i]=a at hg htk hl0 hl1 hfa
  obtain⟨⟨s,o1,n1,fx⟩,⟨eo,eg,ep,eu,lk,lv⟩⟩:=a
  simp only at hl0 hl1 hfa
  by_cases hs:s=slot
  ·subst hs
   have hfa:=hfa rfl
   have hm:=hfa.1
   refine Exists.elim (qrW hm hfa.2.2.1 hfa.2.2.2.1 (j:=1) (by omega) hfa.2.1) fun k1 hq => ?_
   have hk1:=hq.1
   have hb1:=hq.2
   clear hq
   have hA:∀lo H4,qfV En lo Id.zcW [.agg #[I c.A,I c.S,I c.T],I 6,I s] H4=some (N k1,H4):=fun lo H4=>(qn0 lo H4 hm s (j:=1) (by omega)).trans (by rw [hk1])
   have hwl:∀H4,IsR H4 cb ws bs→qav H4 none ⟨cb.W,0+k1*1,none⟩=some (I (qi7 ws (k1:Nat))):=fun H4 h=>h.w_at hb1
   have hz:=hfa.2.2.2.2
   have hby:byG bs s (qi7 ws (qjz c s 1)) ⟨⟨s,o1,n1,fx⟩,⟨eo,eg,ep,eu,lk,lv⟩⟩=byF bs (qi7 ws (qjz c s 1)).toNat o1:=if_pos rfl
   rw [hby]at htk
   rw [hk1]at htk hz next⊢
   have hnx:∀(H4:qab) (o4:Value) f4,IsR H4 cb ws bs→Chg [cb.P] H1 H4→Out H4 H1.length 1 o4 (ics (pre++byF bs (qi7 ws (k1:Nat)).toNat o1))→
     keep [0,2,4,7,8,10] f4 = [(0,qjd cb),(2,I s),(4,.agg #[I c.A,I c.S,I c.T]),(7,o4),(8,.slice (some ad) l.length cap),(10,N (i+1))]→_:=fun H4 o4 f4 h1 h2 h3 h4=>next (n-1) f4 H4 (by omega) ⟨i+1,o4,by omega,h4,h1,h2,by rw [htk];exact h3⟩
   clear next htk hby hfd hb0 hk1
   generalize qi7 ws (k1:Nat)=z at hwl hz hnx
   repeat' first|refine .A ?_|refine .B ?_|refine .C ?_|refine .D ?_|refine .F ?_|refine .G ?_|refine .t1 ?_|refine .f6 ?_|refine .L hl0 ?_|refine .R hi ?_|refine .Y ?_|fail
   refine .loop (fun m f H4=>∃(k:Nat) (o4:Value),m+k=z.toNat∧f = [(0,qjd cb),(2,I s),(4,.agg #[I c.A,I c.S,I c.T]),(7,o4),(8,.slice (some ad) l.length cap),(10,N i),(11,N k)]∧IsR H4 cb ws bs∧Chg [cb.P] H1 H4∧Out H4 H1.length 1 o4 (ics (pre++byF bs k o1))) (n:=z.toNat)
    ⟨0,o,by omega,rfl,hC2,hx2,by simpa [byF]using ho⟩ ?_
   rintro m f H4 ⟨k,o4,hm4,rfl,hC4,hx4,ho4⟩ next4
   have p4:=hC4.p0
   have w4:=hwl H4 hC4
   have hl4:=(hl1 H4 hx4).2
   by_cases hk:(k:Int)<z
   ·refine Exists.elim (qnZ hC4 hlo (IntKind.i64.wrap (o1+(k:Nat)))) fun H5 hq => ?_
    have hB:=hq.1
    have hC5:=hq.2.1
    have hx5:=hx4.trans (.of hq.2.2)
    have ho5:=ho4.keep fun j h1 h2=>hq.2.2.same j (by simp;omega)
    clear hq
    refine Exists.elim (ho5.push3 (l0:=lo) (bytes:=8) (e := [I (qi7 bs (IntKind.i64.wrap (o1+(k:Nat))))]) rfl (by omega) hx5.len (by rw [qrK];simp [byF];omega) (by omega)) fun o6 hq=>Exists.elim hq fun H6 hq => ?_
    have hap:=hq.1
    have ho6:=hq.2.1
    have hC6:=hC5.keep hq.2.2.2 hP1
    have hx6:=hx5.keep (Nat.le_refl _) hq.2.2.1 hq.2.2.2
    clear hq
    rw [qrJ,List.append_assoc,←qrS]at ho6
    repeat' first|refine .A ?_|refine .B ?_|refine .C ?_|refine .F ?_|refine .G ?_|refine .H ?_|refine .t1 ?_|refine .n2 ?_|refine .L w4 ?_|refine .L hl4 ?_|refine .P (hA _ _) ?_|refine .P hB ?_|refine .R hb1 ?_|refine .R hi ?_|refine .U hap ?_|refine .X p4 (qiI p4) (qrV _ _ _) ?_|refine .Y ?_|fail
    exact next4 (m-1) _ _ (by omega) ⟨k+1,o6,by omega,rfl,hC6,hx6,ho6⟩
   ·have hkz:k=z.toNat:=by omega
    rw [hkz]at ho4
    repeat' first|refine .A ?_|refine .B ?_|refine .D ?_|refine .H ?_|refine .I ?_|refine .f1 ?_|refine .n2 ?_|refine .L w4 ?_|refine .P (hA _ _) ?_|refine .R hb1 ?_|refine .X p4 (qiI p4) (qrV _ _ _) ?_|refine .F ?_|refine .Y ?_|fail
    exact hnx _ _ _ hC4 hx4 ho4 rfl
  ·have hby:byG bs slot (qi7 ws (qjz c slot 1)) ⟨⟨s,o1,n1,fx⟩,⟨eo,eg,ep,eu,lk,lv⟩⟩ = []:=if_neg hs
   rw [hby,List.append_nil]at htk
   repeat' first|refine .A ?_|refine .B ?_|refine .C ?_|refine .F ?_|refine .G ?_|refine .I ?_|refine .t1 ?_|refine .t6 ?_|refine .n2 ?_|refine .L hl0 ?_|refine .R hi ?_|refine .Y ?_|fail
   exact next (n-1) _ _ (by omega) ⟨i+1,o,by omega,rfl,hC2,hx2,by rw [htk];exact ho⟩
 ·rw [List.take_of_length_le (by omega)]at ho
  repeat' first|refine .A ?_|refine .B ?_|refine .D ?_|refine .I ?_|refine .J ?_|refine .f1 ?_|refine .F ?_|refine .Y ?_|fail
  exact⟨hC2,(Chg.refl _ _).ext hx1 |>.trans hx2,ho.mono' hx1.1⟩
end
end Go.Proofs.YtlgnnpkdhbhdgaaGreat

