/- AuditWorld, as the program runs it: the run. -/
import Derived.Test.YtlgnnpkdhbhdgaaGreatWorldO
import Derived.Test.YtlgnnpkdhbhdgaaGreatWorldI
set_option linter.all false
namespace Go.Proofs.YtlgnnpkdhbhdgaaGreat
open Go Go.Ir
def qwm {c:Cfg}(hm:c.may)(l:List (Value×List Op4))(ks:List Int)(hk:ks.length<=1000):∀i,i<=ks.length->∃L,WO c (qrh c (w0 c l) (ks.take i)) i L
 | 0,_=>⟨_,qvY hm l⟩
 | i+1,hi=>by
   obtain⟨L,h⟩:=qwm hm l ks hk i (by omega)
   rw [qri (zzG (show i<ks.length by omega))]
   exact qvV hm h (by omega) _
set_option maxHeartbeats 3200000 in
def qwn (c:Cfg){h:qab}{v w:Value}{l:List (Value×List Op4)}{ks:List Int}(hv:Pgs h v l)(hw:Sl h 1 w (kcs ks))(hl:l.length<4611686018427387904):∃h',qfU En 0 Id.zcJ [.agg c.cs.toArray,v,w] h=some (.bool true,h'):=by
 have key:∃u h',qfU En 0 Id.zcJ [.agg #[I c.A,I c.S,I c.T],v,w] h=some (u,h')/\u = .bool true:=by
  have hv0:=hv
  refine zzX hv.sl.len fun vb hq=>zzX hq fun vc hve => ?_
  refine zzX hw.len fun wb hq=>zzX hq fun wc hwe => ?_
  rw [List.length_map]at hve
  rw [qq1]at hwe
  refine zzX (qrf (n0:=20) (most:=300) 0 (by omega) (by omega) hv hw hl) fun sm hq => ?_
  have hSm:=hq.1
  have hsm:=hq.2
  clear hq
  have hMy:∀(lo:Nat) (h:qab),qfU En lo Id.zcR [.agg #[I c.A,I c.S,I c.T]] h=some (.bool (decide c.may),h):=fun lo h=>qi1 lo h c
  cases sm with
  | false =>
    subst hve hwe
    refine qiu rfl Fn.zcJ rfl rfl ?_
    repeat' first|refine .A ?_|refine .B ?_|refine .C ?_|refine .J ?_|refine .P (qiU _ _) ?_|refine .P hSm ?_|refine .D ?_|refine .F ?_|refine .Y ?_|fail
    rfl
  | true =>
    have hs:=hsm rfl
    clear hsm
    by_cases hm:c.may
    ·rw [zzT hm]at hMy
     by_cases hlT:(l.length:Int)<=c.T
     ·refine zzX (qre hm hv hlT) fun H1 hq=>zzX hq fun g1 hq=>zzX hq fun B hq=>zzX hq fun cb hq=>zzX hq fun pb hq=>zzX hq fun M hq=>zzX hq fun ka hq=>zzX hq fun tv hq => ?_
      have hN:=hq.1
      have hW1:=hq.2.1
      have hO1:=hq.2.2.1
      clear hq
      have hm':=hm
      unfold Cfg.may at hm'
      have hpl:pb.length<=4:=by have:=hW1.len;omega
      subst hve hwe
      refine qiu rfl Fn.zcJ rfl rfl ?_
      repeat' first|refine .A ?_|refine .B ?_|refine .D ?_|refine .F ?_|refine .G ?_|refine .C ?_|refine .f3 ?_|refine .f6 ?_|refine .P hSm ?_|refine .P (hMy _ _) ?_|refine .P hN ?_|refine .Y ?_|fail
      refine .loop (fun n f H=>∃(i:Nat) (g:Nat->Nat) (M kh:Nat) (hv:Value),n+i=ks.length/\f = [(2,.slice wb ks.length wc),(7,qkt B),(9,N i)]/\
       WInv H g c cb B (qrh c (w0 c l) (ks.take i)) pb M ka kh tv hv/\Old h H g) (n:=ks.length)
       ⟨0,g1,M,0,_,rfl,rfl,hW1,hO1⟩ ?_
      clear hW1 hO1 hN hSm
      rintro n f H ⟨i,g,M,kh,hv,hn,rfl,hW,hO⟩ next
      by_cases hi:i<ks.length
      ·have hgi:ks[i]? = some ks[i]:=zzG hi
       generalize ks[i]=q at hgi
       refine zzX (qq2 (hw.ext hO.ext) hgi) fun ad hq=>zzX hq fun cap' hq => ?_
       have hva:=hq.1
       have I0:=hq.2
       clear hq
       injection hva with e1 e2 e3
       subst e1
       have hev:=qrk c (w0 c l) (ks.take i)
       have h30:(ks.take i).length<=300:=by rw [List.length_take];omega
       have h00:(w0 c l).evs.length=0:=rfl
       refine zzX (qrd hm hW q (by omega)) fun H2 hq=>zzX hq fun g2 hq=>zzX hq fun M2 hq=>zzX hq fun kh2 hq=>zzX hq fun hv2 hq => ?_
       have hP:=hq.1
       have hW2:=hq.2.1
       have hc2:=hq.2.2
       clear hq
       rw [<-qri hgi]at hW2
       refine zzX (qwm hm l ks (by omega) (i+1) (by omega)) fun L hwo => ?_
       have hck:=qwi hm hwo
       have hrg:Rng (qrh c (w0 c l) (ks.take (i+1))).ws:=(qrt (c:=c) (qrv hm l) (ks.take (i+1))).1.1
       generalize (qrb c (qrh c (w0 c l) (ks.take i)) q).2=pr at hP
       refine zzX (qte hW2 hpl hrg) fun H3 hq => ?_
       have hA:=hq.1
       have hC3:=hq.2.1
       have hX3:=hq.2.2
       clear hq
       rw [hck]at hA
       have hti:=hW2.tickC hC3 hX3
       have hO2:=(hO.calm hc2).calm (hti.2.yZ (by decide) (by decide))
       repeat' first|refine .A ?_|refine .B ?_|refine .C ?_|refine .D ?_|refine .F ?_|refine .G ?_|refine .H ?_|refine .t1 ?_|refine .f6 ?_|refine .n2 ?_|refine .L I0 ?_|refine .P hP ?_|refine .P hA ?_|refine .R hi ?_|refine .Y ?_|fail
       exact next (n-1) _ _ (by omega) ⟨i+1,_,M2,kh2,hv2,by omega,rfl,hti.1,hO2⟩
      ·repeat' first|refine .A ?_|refine .B ?_|refine .D ?_|refine .I ?_|refine .J ?_|refine .f1 ?_|refine .P (qiU _ _) ?_|refine .F ?_|refine .Y ?_|fail
       rfl
     ·subst hve hwe
      refine qiu rfl Fn.zcJ rfl rfl ?_
      repeat' first|refine .A ?_|refine .B ?_|refine .C ?_|refine .J ?_|refine .t3 ?_|refine .P (qiU _ _) ?_|refine .P hSm ?_|refine .P (hMy _ _) ?_|refine .F ?_|refine .Y ?_|fail
      rfl
    ·rw [zzF hm]at hMy
     subst hve hwe
     refine qiu rfl Fn.zcJ rfl rfl ?_
     repeat' first|refine .A ?_|refine .B ?_|refine .C ?_|refine .J ?_|refine .P (qiU _ _) ?_|refine .P hSm ?_|refine .P (hMy _ _) ?_|refine .D ?_|refine .F ?_|refine .Y ?_|fail
     rfl
 obtain⟨u,h',h1,rfl⟩:=key
 exact⟨h',h1⟩
end Go.Proofs.YtlgnnpkdhbhdgaaGreat
