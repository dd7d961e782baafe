/- AuditWorld, as the program runs it: the run. -/
import Derived.Test.YtdinebegmppnoabGreatWorldO
import Derived.Test.YtdinebegmppnoabGreatWorldI
set_option linter.unusedVariables false
set_option linter.unusedSimpArgs false

namespace Go.Proofs.YtdinebegmppnoabGreat
open Go Go.Ir

theorem qt6 {c:Cfg}(hm:c.may)(l:List (Value×List Op4))(ks:List Int)(hk:ks.length≤1000):∀i,i≤ks.length→∃L,WO c (qqI c (w0 c l) (ks.take i)) i L
 | 0,_=>⟨_,qtN hm l⟩
 | i+1,hi=>by
   obtain⟨L,h⟩:=qt6 hm l ks hk i (by omega)
   rw [qqJ (List.getElem?_eq_getElem (show i<ks.length by omega))]
   exact qtK hm h (by omega) _

end Go.Proofs.YtdinebegmppnoabGreat

/- AuditSum, as the program runs it: the run. -/
namespace Go.Proofs.YtdinebegmppnoabGreat
open Go Go.Ir

def qt7 (l:List Obj):Nat:=(l.map fun o=>o.n.toNat).sum
theorem qt8 {l:List Obj}{i:Nat}(hi:i<l.length):qt7 (l.take (i+1))=qt7 (l.take i)+l[i].n.toNat:=by
 unfold qt7
 rw [List.take_succ_eq_append_getElem hi,List.map_append,List.sum_append]
 simp
theorem qt9:∀{l:List Obj},(∀o∈l,1≤o.n∧o.n≤4096)→(qt7 l:Int)=qtZ l∧qt7 l≤l.length*4096
 | [],_=>⟨rfl,by simp [qt7]⟩
 | o::l,h=>by
   obtain⟨a,b⟩:=qt9 (l:=l) fun x hx=>h x (List.mem_cons_of_mem _ hx)
   have h0:=h o List.mem_cons_self
   have e1:qt7 (o::l)=o.n.toNat+qt7 l:=by simp [qt7]
   have e2:qtZ (o::l)=o.n+qtZ l:=by simp [qtZ]
   have e3:(o::l).length*4096=l.length*4096+4096:=by rw [List.length_cons,Nat.succ_mul]
   rw [e1,e2,e3]
   generalize l.length*4096=z at b⊢
   constructor
   ·rw [Int.natCast_add,a]
    omega
   ·omega
theorem qua {l:List Obj}(h:∀o∈l,1≤o.n∧o.n≤4096)(i:Nat):qt7 (l.take i)≤l.length*4096:=by
 exact Nat.le_trans (qt9 (l:=l.take i) fun o ho=>h o (List.mem_of_mem_take ho)).2 (Nat.mul_le_mul_right 4096 (by rw [List.length_take];omega))
theorem qub {h:qab}{v:Value}{l:List Obj}(hv:Sl h 4 v (css l)){i:Nat}{o:Obj}(hi:l[i]? = some o) :
  ∃a cap,v = .slice (some a) l.length cap∧qav h none ⟨a.block,a.off+i*4+2,none⟩=some (I o.n):=by
 obtain⟨a,cap,h1,h2,_⟩:=hv.at (i:=i) (e:=o.cs) (by unfold css;rw [List.getElem?_map,hi];rfl)
 rw [qkS]at h1
 exact⟨a,cap,h1,h2 2 _ rfl⟩

set_option maxHeartbeats 6400000 in
theorem quc (c:Cfg){h:qab}{v w:Value}{l:List (Value×List Op4)}{ks:List Int}(hv:Pgs h v l)(hw:Sl h 1 w (kcs ks))(hl:l.length<4611686018427387904):∃h',qfV En 0 Id.zcI [.agg c.cs.toArray,v,w] h=some (.bool true,h'):=by
 have key:∃u h',qfV En 0 Id.zcI [.agg #[I c.A,I c.S,I c.T],v,w] h=some (u,h')∧u = .bool true:=by
  have hv0:=hv
  refine Exists.elim hv.sl.len fun vb hq=>Exists.elim hq fun vc hve => ?_
  refine Exists.elim hw.len fun wb hq=>Exists.elim hq fun wc hwe => ?_
  rw [List.length_map]at hve
  rw [qqs]at hwe
  refine Exists.elim (qqG (n0:=20) (most:=300) 0 (by omega) (by omega) hv hw hl) fun sm hq => ?_
  have hSm:=hq.1
  have hsm:=hq.2
  clear hq
  have hMy:∀(lo:Nat) (h:qab),qfV En lo Id.zcL [.agg #[I c.A,I c.S,I c.T]] h=some (.bool (decide c.may),h):=fun lo h=>qi2 lo h c
  cases sm with
  | false =>
    subst hve hwe
    refine qiv rfl Fn.zcI rfl rfl ?_
    repeat' first|refine .A ?_|refine .B ?_|refine .C ?_|refine .J ?_|refine .P (qiV _ _) ?_|refine .P hSm ?_|refine .D ?_|refine .F ?_|refine .Y ?_|fail
    rfl
  | true =>
    have hs:=hsm rfl
    clear hsm
    by_cases hm:c.may
    ·rw [decide_eq_true hm]at hMy
     by_cases hlT:(l.length:Int)≤c.T
     ·refine Exists.elim (qqF hm hv hlT) fun H1 hq=>Exists.elim hq fun g1 hq=>Exists.elim hq fun B hq=>Exists.elim hq fun cb hq=>Exists.elim hq fun pb hq=>Exists.elim hq fun M hq=>Exists.elim hq fun ka hq=>Exists.elim hq fun tv hq => ?_
      have hN:=hq.1
      have hW1:=hq.2.1
      have hO1:=hq.2.2.1
      clear hq
      have hm':=hm
      unfold Cfg.may at hm'
      have hpl:pb.length≤4:=by have:=hW1.len;omega
      subst hve hwe
      refine qiv rfl Fn.zcI rfl rfl ?_
      repeat' first|refine .A ?_|refine .B ?_|refine .D ?_|refine .F ?_|refine .G ?_|refine .C ?_|refine .f3 ?_|refine .f6 ?_|refine .P hSm ?_|refine .P (hMy _ _) ?_|refine .P hN ?_|refine .Y ?_|fail
      refine .loop (fun n f H=>∃(i:Nat) (g:Nat→Nat) (M kh:Nat) (hv:Value),n+i=ks.length∧f = [(2,.slice wb ks.length wc),(3,.agg #[I c.A,I c.S,I c.T]),(7,qku B),(9,N i)]∧
       WInv H g c cb B (qqI c (w0 c l) (ks.take i)) pb M ka kh tv hv∧Old h H g) (n:=ks.length)
       ⟨0,g1,M,0,_,rfl,rfl,hW1,hO1⟩ ?_
      clear hW1 hO1 hN hSm
      rintro n f H ⟨i,g,M,kh,hv,hn,rfl,hW,hO⟩ next
      by_cases hi:i<ks.length
      ·have hgi:ks[i]? = some ks[i]:=List.getElem?_eq_getElem hi
       generalize ks[i]=q at hgi
       refine Exists.elim (qqt (hw.ext hO.ext) hgi) fun ad hq=>Exists.elim hq fun cap' hq => ?_
       have hva:=hq.1
       have I0:=hq.2
       clear hq
       injection hva with e1 e2 e3
       subst e1
       have hev:=qqL c (w0 c l) (ks.take i)
       have h30:(ks.take i).length≤300:=by rw [List.length_take];omega
       have h00:(w0 c l).evs.length=0:=rfl
       refine Exists.elim (qqE hm hW q (by omega)) fun H2 hq=>Exists.elim hq fun g2 hq=>Exists.elim hq fun M2 hq=>Exists.elim hq fun kh2 hq=>Exists.elim hq fun hv2 hq => ?_
       have hP:=hq.1
       have hW2:=hq.2.1
       have hc2:=hq.2.2
       clear hq
       rw [←qqJ hgi]at hW2
       generalize (qqC c (qqI c (w0 c l) (ks.take i)) q).2=pr at hP
       repeat' first|refine .A ?_|refine .B ?_|refine .C ?_|refine .F ?_|refine .G ?_|refine .H ?_|refine .t1 ?_|refine .n2 ?_|refine .L I0 ?_|refine .P hP ?_|refine .R hi ?_|refine .Y ?_|fail
       exact next (n-1) _ _ (by omega) ⟨i+1,g2,M2,kh2,hv2,by omega,rfl,hW2,hO.calm hc2⟩
      ·have hil:i=ks.length:=by omega
       rw [hil,List.take_length]at hW
       refine Exists.elim (qt6 hm l ks (by omega) ks.length (Nat.le_refl _)) fun L hwo => ?_
       rw [List.take_length]at hwo
       obtain⟨s1,s2,s3⟩:=qt2 hm hwo
       have htp:=hwo.oi.top
       clear hwo
       generalize qqI c (w0 c l) ks=W at hW s1 s2 s3 htp
       have hCl:=fun lo=>qqH hW lo
       refine Exists.elim (qqZ (lo:=0) hW.p.cells (Nat.zero_le _) c) fun ov hq=>Exists.elim hq fun H2 hq => ?_
       have hOb:=hq.1
       have hC2:=hq.2.1
       have hX2:=hq.2.2.1
       have hS2:=hq.2.2.2.sl
       clear hq
       have hOb:qfV En 0 Id.zan [ifC cb,.agg #[I c.A,I c.S,I c.T]] H=some (.tuple #[ov,I (qqU W.ws c)],H2):=hOb
       rw [s1]at hOb
       have hoL:(qqY W.ws c).length≤64:=by unfold qqY;rw [List.length_map];exact qqX _ _
       have hW2:=(hW.tickC hC2 hX2).1
       have hhL:(qq0 W.ts).length≤4:=by
        have:=qq3 W.ts
        have:=hW.p.len
        omega
       refine Exists.elim (qq4 hW2 (by omega)) fun hov hq=>Exists.elim hq fun H3 hq => ?_
       have hHo:=hq.1
       have hX3:=hq.2.1
       have hS3:=hq.2.2.sl
       clear hq
       have hW3:=(hW2.ext hX3).1
       have hCl3:=fun lo=>qqH hW3 lo
       have f1:∀o∈qqY W.ws c,1≤o.n∧o.n≤4096:=fun o ho=>s3 o (List.mem_append_left _ ho)
       have f2:∀o∈qq0 W.ts,1≤o.n∧o.n≤4096:=fun o ho=>s3 o (List.mem_append_right _ ho)
       have t1:=qt9 f1
       have t2:=qt9 f2
       have b1:=fun i=>qua f1 i
       have b2:=fun i=>qua f2 i
       refine Exists.elim (qjg (lo:=0) hW3.p.cells (Nat.zero_le _) 0) fun H4 hq => ?_
       have hL4:=hq.1
       have hW4:=(hW3.tick hq.2.1 hq.2.2).1
       clear hq
       have hCl4:=fun lo=>qqH hW4 lo
       refine Exists.elim (qjg (lo:=0) hW4.p.cells (Nat.zero_le _) 0) fun H5 hq => ?_
       have hL5:=hq.1
       clear hq
       refine Exists.elim (show ∃k:Nat,qi6 W.ws 0=k from⟨(qi6 W.ws 0).toNat,by omega⟩) fun fr hfr => ?_
       rw [hfr]at hL4 hL5 s2 htp
       generalize qq0 W.ts=hh at hS3 hhL f2 t2 b2 s2
       generalize qqY W.ws c=ob at hS2 hoL f1 t1 b1 s2
       clear hW hW2 hW3 hW4 hC2 hX2 hX3 s3
       refine Exists.elim hS2.len fun obb hq=>Exists.elim hq fun obc hve => ?_
       rw [qkS]at hve
       refine Exists.elim hS3.len fun hhb hq=>Exists.elim hq fun hhc hwe => ?_
       rw [qkS]at hwe
       subst hve hwe
       repeat' first|refine .A ?_|refine .B ?_|refine .D ?_|refine .G ?_|refine .I ?_|refine .f1 ?_|refine .P (hCl _) ?_|refine .P hOb ?_|refine .F ?_|refine .Y ?_|fail
       refine .loop (fun n f H=>∃(i:Nat),n+i=ob.length∧f = [(3,.agg #[I c.A,I c.S,I c.T]),(7,qku B),(10,.slice obb ob.length obc),(11,I 0),(12,N (qt7 (ob.take i))),(13,N i)]∧H=H2) (n:=ob.length) ⟨0,rfl,rfl,rfl⟩ ?_
       clear next hn hi hil hOb hCl
       rintro n f H ⟨i,hn,rfl,rfl⟩ next
       by_cases hi:i<ob.length
       ·have hgo:ob[i]? = some ob[i]:=List.getElem?_eq_getElem hi
        have hsu:=qt8 hi
        have hb:=b1 i
        have ho:=f1 _ (List.getElem_mem hi)
        generalize ob[i]=o at hgo hsu ho
        refine Exists.elim (qub hS2 hgo) fun a hq=>Exists.elim hq fun cap' hq => ?_
        have hva:=hq.1
        have hld:=hq.2
        clear hq
        injection hva with e1 e2 e3
        subst e1
        refine Exists.elim (show ∃k:Nat,o.n=k from⟨o.n.toNat,by omega⟩) fun k hk => ?_
        rw [hk]at hld hsu ho
        rw [Int.toNat_natCast]at hsu
        generalize qt7 (ob.take i)=acc at hsu hb
        repeat' first|refine .A ?_|refine .B ?_|refine .C ?_|refine .F ?_|refine .G ?_|refine .H ?_|refine .t1 ?_|refine .n1 ?_|refine .n2 ?_|refine .L hld ?_|refine .R hi ?_|refine .Y ?_|fail
        exact next (n-1) _ _ (by omega) ⟨i+1,by omega,by rw [hsu];rfl,rfl⟩
       ·rw [List.take_of_length_le (by omega)]
        clear b1 hS2
        generalize qt7 ob=sa at t1
        repeat' first|refine .A ?_|refine .B ?_|refine .D ?_|refine .G ?_|refine .I ?_|refine .f1 ?_|refine .P hHo ?_|refine .F ?_|refine .Y ?_|fail
        refine .loop (fun n f H=>∃(i:Nat),n+i=hh.length∧f = [(3,.agg #[I c.A,I c.S,I c.T]),(7,qku B),(11,I 0),(12,N (sa+qt7 (hh.take i))),(14,.slice hhb hh.length hhc),(15,N i)]∧H=H3) (n:=hh.length) ⟨0,rfl,rfl,rfl⟩ ?_
        clear next hn hi hHo
        rintro n f H ⟨i,hn,rfl,rfl⟩ next
        by_cases hi:i<hh.length
        ·have hgo:hh[i]? = some hh[i]:=List.getElem?_eq_getElem hi
         have hsu:=qt8 hi
         have hb:=b2 i
         have ho:=f2 _ (List.getElem_mem hi)
         generalize hh[i]=o at hgo hsu ho
         refine Exists.elim (qub hS3 hgo) fun a hq=>Exists.elim hq fun cap' hq => ?_
         have hva:=hq.1
         have hld:=hq.2
         clear hq
         injection hva with e1 e2 e3
         subst e1
         refine Exists.elim (show ∃k:Nat,o.n=k from⟨o.n.toNat,by omega⟩) fun k hk => ?_
         rw [hk]at hld hsu ho
         rw [Int.toNat_natCast]at hsu
         generalize qt7 (hh.take i)=acc at hsu hb
         repeat' first|refine .A ?_|refine .B ?_|refine .C ?_|refine .F ?_|refine .G ?_|refine .H ?_|refine .t1 ?_|refine .n1 ?_|refine .n2 ?_|refine .L hld ?_|refine .R hi ?_|refine .Y ?_|fail
         exact next (n-1) _ _ (by omega) ⟨i+1,by omega,by rw [hsu,←Nat.add_assoc];rfl,rfl⟩
        ·rw [List.take_of_length_le (by omega)]
         clear b2 hS3
         generalize qt7 hh=sb at t2
         have htot:((sa+sb:Nat):Int)≤(fr:Int):=by
          have q1:=t1.1
          have q2:=t2.1
          omega
         have htot2:sa+sb≤1000000:=by
          have q1:=t1.2
          have q2:=t2.2
          omega
         generalize sa+sb=tot at htot htot2⊢
         repeat' first|refine .A ?_|refine .B ?_|refine .D ?_|refine .I ?_|refine .J ?_|refine .C ?_|refine .f1 ?_|refine .t2 ?_|refine .t5 ?_|(show EG _ _ (⟨_,.call _ _,_,_⟩::_) _ _ _ _ _ _;first|refine .P (hCl3 _) ?_|refine .P (hCl4 _) ?_|refine .P hL4 ?_|refine .P hL5 ?_|refine .P (qiV _ _) ?_)|refine .F ?_|refine .Y ?_|fail
         rfl
     ·subst hve hwe
      refine qiv rfl Fn.zcI rfl rfl ?_
      repeat' first|refine .A ?_|refine .B ?_|refine .C ?_|refine .J ?_|refine .t3 ?_|refine .P (qiV _ _) ?_|refine .P hSm ?_|refine .P (hMy _ _) ?_|refine .F ?_|refine .Y ?_|fail
      rfl
    ·rw [decide_eq_false hm]at hMy
     subst hve hwe
     refine qiv rfl Fn.zcI rfl rfl ?_
     repeat' first|refine .A ?_|refine .B ?_|refine .C ?_|refine .J ?_|refine .P (qiV _ _) ?_|refine .P hSm ?_|refine .P (hMy _ _) ?_|refine .D ?_|refine .F ?_|refine .Y ?_|fail
     rfl
 obtain⟨u,h',h1,rfl⟩:=key
 exact⟨h',h1⟩
end Go.Proofs.YtdinebegmppnoabGreat

