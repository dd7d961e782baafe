/- WorldHandles, as the program runs it. -/
import Derived.Test.YtdinebegmppnoaaGreatHandlesB
set_option linter.unusedVariables false
set_option linter.unusedSimpArgs false

namespace Go.Proofs.YtdinebegmppnoaaGreat
open Go Go.Ir

set_option maxHeartbeats 8000000 in
theorem qs3 (c:Cfg){h:qab}{v w:Value}{l:List (Value×List Op4)}{ks:List Int}(hv:Pgs h v l)(hw:Sl h 1 w (kcs ks))(hl:l.length<4611686018427387904):∃h',qfV En 0 Id.zcs [.agg c.cs.toArray,v,w] h=some (.bool true,h'):=by
 have key:∃u h',qfV En 0 Id.zcs [.agg #[I c.A,I c.S,I c.T],v,w] h=some (u,h')∧u = .bool true:=by
  refine Exists.elim hv.sl.len fun vb hq=>Exists.elim hq fun vc hve => ?_
  refine Exists.elim hw.len fun wb hq=>Exists.elim hq fun wc hwe => ?_
  rw [List.length_map]at hve
  rw [qqd]at hwe
  refine Exists.elim (qqr (n0:=20) (most:=400) 0 (by omega) (by omega) hv hw hl) fun sm hq => ?_
  have hSm:=hq.1
  have hsm:=hq.2
  clear hq
  cases sm with
  | false =>
    subst hve hwe
    refine qii rfl Fn.zcs rfl rfl ?_
    repeat' (first|(show ER _ _ _ _ _ _ _;first|refine .seq ?_|refine .reg ?_|refine .yes rfl ?_|refine .no rfl ?_|refine .skip ?_|refine .block ?_|refine .endB ?_|refine .exit rfl ?_|refine .br rfl (fun hc => ?_) (fun hc => ?_)|refine .scope ?_|refine .inScope ?_|refine .label ?_|refine .ret rfl ?_|refine .nil rfl ?_)|(show EG _ _ _ _ _ _ _ _ _;first|refine .mov rfl rfl ?_|refine .lload rfl rfl rfl rfl ?_|refine .laddr rfl rfl rfl ?_|(show EG _ _ (⟨_,.bin _ _ _,_,_⟩::_) _ _ _ _ _ _;first|refine .lss rfl rfl rfl (fun hc => ?_) (fun hc => ?_)|refine .leq rfl rfl rfl (fun hc => ?_) (fun hc => ?_)|refine .gtr rfl rfl rfl (fun hc => ?_) (fun hc => ?_)|refine .geq rfl rfl rfl (fun hc => ?_) (fun hc => ?_)|refine .eql rfl rfl rfl (fun hc => ?_) (fun hc => ?_)|refine .neq rfl rfl rfl (fun hc => ?_) (fun hc => ?_))|(show EG _ _ (⟨_,.call _ _,_,_⟩::_) _ _ _ _ _ _;first|refine .call rfl rfl (qiI _ _) ?_|refine .call rfl rfl (hSm) ?_)|refine .skip rfl ?_|refine .fin ?_|refine .go rfl rfl rfl ?_|refine .gono rfl rfl rfl ?_|refine .skipn rfl ?_))
    rfl
  | true =>
    have hs:=hsm rfl
    clear hsm
    by_cases hok:c.may∧(l.length:Int)≤c.T
    ·have hm:=hok.1
     have hm':=hm
     unfold Cfg.may at hm'
     refine Exists.elim (show ∃a:Nat,c.S=a from⟨c.S.toNat,by omega⟩) fun sn hS => ?_
     refine Exists.elim (show ∃a:Nat,c.T=a from⟨c.T.toNat,by omega⟩) fun tn hT => ?_
     refine Exists.elim (qqq hm hv hok.2) fun H1 hq=>Exists.elim hq fun g1 hq=>Exists.elim hq fun B hq=>Exists.elim hq fun cb hq=>Exists.elim hq fun pb hq=>Exists.elim hq fun M hq=>Exists.elim hq fun ka hq=>Exists.elim hq fun tv hq => ?_
     have hN:=hq.1
     have hW1:=hq.2.1
     have hO1:=hq.2.2.1
     clear hq
     -- the row of generations that is made behind it
     have hx2:Ext H1 (H1 ++ [Blk.row (qaM [Value.int .i64 0] sn) false]):=(Ext.refl H1).app _
     have hb2:(H1 ++ [Blk.row (qaM [Value.int .i64 0] sn) false])[H1.length]? = some (qrL (List.replicate sn 0)):=by
      rw [List.getElem?_concat_length,qsY];rfl
     have st2:Stp (fun _=>True) H1 (H1 ++ [Blk.row (qaM [Value.int .i64 0] sn) false]) g1 (qpW H1 g1 3):=⟨hx2.1,fun x hx=>qpX hx,fun x hx _=>hx2.2 x hx⟩
     have hW2:=hW1.keep st2 trivial trivial trivial trivial (fun _=>trivial)
     have hO2:=hO1.calm (st2.calm0 trivial trivial)
     have g2:qpW H1 g1 3 H1.length=3:=qpY (Nat.le_refl _)
     have hwhi:WHI c (qqu c (w0 c l) (ks.take 0)) 0 (fun i=>qpS c i (qqb l i)) []:=qs2 hm l
     refine Exists.elim (show ∃ps:Nat→List Op4,ps=fun i:Nat=>qpS c i (qqb l i)from⟨_,rfl⟩) fun ps hps => ?_
     have hN':∀i:Nat,ps i≠[]→(i:Int)<c.T:=fun i q=>qs0 hm l i (by rw [hps]at q;exact q)
     rw [←hps]at hwhi
     clear hps
     have hkp:KeptG c (qqu c (w0 c l) (ks.take 0)).ws (List.replicate sn 0):=fun s v he e h=>by
      rw [List.getElem?_replicate]at he
      split at he
      ·injection he with he;subst he;exact(qsx h).1
      ·cases he
     have hW2:WInv (H1 ++ [Blk.row (qaM [Value.int .i64 0] sn) false]) (qpW H1 g1 3) c cb B (qqu c (w0 c l) (ks.take 0)) pb M ka 0 tv (.slice none 0 0):=hW2
     have hlr:(List.replicate sn 0).length=sn:=List.length_replicate
     generalize List.replicate sn 0=L0 at hb2 hkp hlr
     generalize qpW H1 g1 3=g3 at hW2 hO2 g2
     rw [hS,hT]at hN
     subst hve hwe
     rw [hS,hT]
     refine qii rfl Fn.zcs rfl rfl ?_
     repeat' (first|(show ER _ _ _ _ _ _ _;first|refine .seq ?_|refine .reg ?_|refine .yes rfl ?_|refine .no rfl ?_|refine .skip ?_|refine .block ?_|refine .endB ?_|refine .exit rfl ?_|refine .br rfl (fun hc => ?_) (fun hc => ?_)|refine .scope ?_|refine .inScope ?_|refine .label ?_|refine .ret rfl ?_|refine .nil rfl ?_)|(show EG _ _ _ _ _ _ _ _ _;first|refine .mov rfl rfl ?_|refine .lload rfl rfl rfl rfl ?_|refine .laddr rfl rfl rfl ?_|(show EG _ _ (⟨_,.bin _ _ _,_,_⟩::_) _ _ _ _ _ _;first|refine .lss rfl rfl rfl (fun hc => ?_) (fun hc => ?_)|refine .leq rfl rfl rfl (fun hc => ?_) (fun hc => ?_)|refine .gtr rfl rfl rfl (fun hc => ?_) (fun hc => ?_)|refine .geq rfl rfl rfl (fun hc => ?_) (fun hc => ?_)|refine .eql rfl rfl rfl (fun hc => ?_) (fun hc => ?_)|refine .neqT rfl rfl rfl (by omega) ?_|refine .neqF rfl rfl rfl (by omega) ?_)|(show EG _ _ (⟨_,.call _ _,_,_⟩::_) _ _ _ _ _ _;first|refine .call rfl rfl (hSm) ?_|refine .call rfl rfl (hN) ?_)|refine .mks rfl rfl rfl ⟨Nat.le_refl _,by omega,by decide⟩ ?_|refine .skip rfl ?_|refine .fin ?_|refine .go rfl rfl rfl ?_|refine .gono rfl rfl rfl ?_|refine .skipn rfl ?_))
     refine .loop (fun n f H=>∃(i:Nat) (g:Nat→Nat) (M kh:Nat) (hv:Value) (L:List Nat) (es:List Evt),n+i=ks.length∧f = [(2,.slice wb ks.length wc),(3,.agg #[I c.A,N sn,N tn]),(7,qkh B),(9,.slice (some ⟨H1.length,0,none⟩) sn sn),(10,N i)]∧
      WInv H g c cb B (qqu c (w0 c l) (ks.take i)) pb M ka kh tv hv∧Old h H g∧g H1.length=3∧H[H1.length]? = some (qrL L)∧L.length=sn∧WHI c (qqu c (w0 c l) (ks.take i)) i ps es∧KeptG c (qqu c (w0 c l) (ks.take i)).ws L) (n:=ks.length)
      ⟨0,g3,M,0,_,L0,[],rfl,rfl,hW2,hO2,g2,hb2,hlr,hwhi,hkp⟩ ?_
     clear hW1 hO1 hN hSm hW2 hO2 g2 hb2 hlr hwhi hkp hx2 st2
     rintro n f H ⟨i,g,M,kh,hv,L,es,hn,rfl,hW,hO,hg,hb,hL,hwhi,hkp⟩ next
     by_cases hi:i<ks.length
     ·have hgi:ks[i]? = some ks[i]:=List.getElem?_eq_getElem hi
      generalize ks[i]=q at hgi
      refine Exists.elim (qqe (hw.ext hO.ext) hgi) fun ad hq=>Exists.elim hq fun cap' hq => ?_
      have hva:=hq.1
      have I0:=hq.2
      clear hq
      injection hva with e1 e2 e3
      subst e1
      have hev:=qqx c (w0 c l) (ks.take i)
      have h30:(ks.take i).length≤1000:=by rw [List.length_take];omega
      have h00:(w0 c l).evs.length=0:=rfl
      refine Exists.elim (qqp hm hW q (by omega)) fun H2 hq=>Exists.elim hq fun g2 hq=>Exists.elim hq fun M2 hq=>Exists.elim hq fun kh2 hq=>Exists.elim hq fun hv2 hq => ?_
      have hP:=hq.1
      have hW2:=hq.2.1
      have hc2:=hq.2.2
      clear hq
      have hpw:=qsK hm hN' hwhi (by omega) q
      rw [←qqv hgi]at hW2 hpw
      have hvl:∀x:Nat,(x:Int)<c.S→∃e,en c (qqu c (w0 c l) (ks.take i)).ws x=some e:=fun x hx=>by
       obtain⟨L,a,_⟩:=hwhi.all
       exact a.si.valid x hx
      have hkp2:=hkp.mono hS hL hvl hpw.2
      have hbl:=qip hb
      have hb2:H2[H1.length]? = some (qrL L):=((hc2.2 _ hbl).2 (.inr hg)).trans hb
      have hg2:g2 H1.length=3:=(hc2.2 _ hbl).1.trans hg
      have hO2:=hO.calm hc2
      refine Exists.elim hpw.1 fun es2 hwhi2 => ?_
      have hvl2:∀x:Nat,(x:Int)<c.S→∃e,en c (qqu c (w0 c l) (ks.take (i+1))).ws x=some e:=fun x hx=>by
       obtain⟨L,a,_⟩:=hwhi2.all
       exact a.si.valid x hx
      clear hpw hvl hwhi hkp
      generalize (qqn c (qqu c (w0 c l) (ks.take i)) q).2=pr at hP
      generalize qqu c (w0 c l) (ks.take i)=W1 at *
      generalize hWe:qqu c (w0 c l) (ks.take (i+1))=W2 at hW2 hwhi2 hvl2 hkp2
      repeat' (first|(show ER _ _ _ _ _ _ _;first|refine .seq ?_|refine .reg ?_|refine .yes rfl ?_|refine .no rfl ?_|refine .skip ?_|refine .block ?_|refine .endB ?_|refine .exit rfl ?_|refine .br rfl (fun hc => ?_) (fun hc => ?_)|refine .scope ?_|refine .inScope ?_|refine .label ?_|refine .ret rfl ?_|refine .nil rfl ?_)|(show EG _ _ _ _ _ _ _ _ _;first|refine .mov rfl rfl ?_|refine .lload rfl rfl rfl rfl ?_|refine .laddr rfl rfl rfl ?_|(show EG _ _ (⟨_,.bin _ _ _,_,_⟩::_) _ _ _ _ _ _;first|refine .lssT rfl rfl rfl (by omega) ?_|refine .lssF rfl rfl rfl (by omega) ?_|refine .leq rfl rfl rfl (fun hc => ?_) (fun hc => ?_)|refine .gtr rfl rfl rfl (fun hc => ?_) (fun hc => ?_)|refine .geq rfl rfl rfl (fun hc => ?_) (fun hc => ?_)|refine .eql rfl rfl rfl (fun hc => ?_) (fun hc => ?_)|refine .neq rfl rfl rfl (fun hc => ?_) (fun hc => ?_))|refine .load rfl rfl (I0) ?_|refine .call rfl rfl (hP) ?_|refine .iaddr rfl rfl rfl (hi) ?_|refine .skip rfl ?_|refine .fin ?_|refine .go rfl rfl rfl ?_|refine .gono rfl rfl rfl ?_|refine .skipn rfl ?_))
      refine .loop (fun m f H=>∃(s:Nat) (g:Nat→Nat) (L:List Nat),m+s=sn∧f = [(2,.slice (some ad) ks.length wc),(3,.agg #[I c.A,N sn,N tn]),(7,qkh B),(9,.slice (some ⟨H1.length,0,none⟩) sn sn),(10,N i),(11,N s)]∧
       WInv H g c cb B W2 pb M2 ka kh2 tv hv2∧Old h H g∧g H1.length=3∧H[H1.length]? = some (qrL L)∧L.length=sn∧KeptG c W2.ws L) (n:=sn)
       ⟨0,g2,L,rfl,rfl,hW2,hO2,hg2,hb2,hL,hkp2⟩ ?_
      clear hW2 hO2 hg2 hb2 hP I0 hc2 hbl hb hg hL hO hW hkp2
      rintro m f H ⟨s,g,L,hms,rfl,hW,hO,hg,hb,hL,hkp⟩ nexts
      by_cases hss:s<sn
      ·have hgs:L[s]? = some L[s]:=List.getElem?_eq_getElem (by omega)
       generalize L[s]=vn at hgs
       have hsS:(s:Int)<c.S:=by omega
       refine Exists.elim (hvl2 s hsS) fun x hx => ?_
       have hxg:=qsx hx
       have hvx:=hkp s vn hgs x hx
       refine Exists.elim (show ∃a:Nat,x.g=a from⟨x.g.toNat,by omega⟩) fun gn hgn => ?_
       have hCl:=qqt hW 0
       refine Exists.elim (qi3 (lo:=0) hW.p.cells (Nat.zero_le _) (qjl c s 0)) fun H3 hq => ?_
       have hLd:=hq.1
       have hC3:=hq.2.1
       have ho3:=hq.2.2
       clear hq
       have hti:=hW.tick hC3 ho3
       have hW3:=hti.1
       have hbl:=qip hb
       have hb3:H3[H1.length]? = some (qrL L):=(hti.2.same _ hbl (by rw [hg];decide)).trans hb
       have hO3:=hO.calm (hti.2.calm0 (by decide) (by decide))
       have hUn:=fun lo h=>qlE lo h (qiT W2.ws (qjl c s 0))
       have hx':qjZ (qiT W2.ws (qjl c s 0))=some x:=hx
       rw [hx']at hUn
       have hUn:∀lo h,qfV En lo Id.zcv [I (qiT W2.ws (qjl c s 0))] h=some (.tuple #[.agg x.cs.toArray,I 0],h):=hUn
       have hld:qav H3 none ⟨H1.length,0+s*1,none⟩=some (N vn):=qiq (cs:=L.map N) hb3 (by rw [Nat.zero_add,Nat.mul_one,List.getElem?_map,hgs];rfl)
       have hst:=qrN (n:=gn) hb3 (Nat.zero_le _) (show s<L.length by omega)
       have hsl:(L.set s gn).length=sn:=by rw [List.length_set];exact hL
       have st4:Stp (fun n=>n≠3) H3 (H3.set H1.length (qrL (L.set s gn))) g g:=⟨by simp,fun x _=>rfl,fun x hx ht=>List.getElem?_set_ne fun e=>ht (by rw [←e];exact hg)⟩
       have hW4:=hW3.keep st4 (by decide) (by decide) (by decide) (by decide) (fun i=>by omega)
       have hO4:Old h (H3.set H1.length (qrL (L.set s gn))) g:=⟨by rw [List.length_set];exact hO3.1,fun y hy=>⟨(hO3.2 y hy).1,by
        rw [List.getElem?_set_ne fun e=>by have:=(hO3.2 y hy).1;rw [←e,hg]at this;omega]
        exact(hO3.2 y hy).2⟩⟩
       have hb4:(H3.set H1.length (qrL (L.set s gn)))[H1.length]? = some (qrL (L.set s gn)):=qim (qip hb3)
       have hk4:=hkp.set hx hgn
       generalize H3.set H1.length (qrL (L.set s gn))=HX at hst hW4 hO4 hb4 st4
       generalize L.set s gn=LX at hsl hb4 hk4
       have hcont:∃(s':Nat) (g:Nat→Nat) (L:List Nat),m-1+s'=sn∧[(2,Value.slice (some ad) ks.length wc),(3,.agg #[I c.A,N sn,N tn]),(7,qkh B),(9,.slice (some ⟨H1.length,0,none⟩) sn sn),(10,N i),(11,N (s+1))] = [(2,Value.slice (some ad) ks.length wc),(3,.agg #[I c.A,N sn,N tn]),(7,qkh B),(9,.slice (some ⟨H1.length,0,none⟩) sn sn),(10,N i),(11,N s')]∧
        WInv HX g c cb B W2 pb M2 ka kh2 tv hv2∧Old h HX g∧g H1.length=3∧HX[H1.length]? = some (qrL L)∧L.length=sn∧KeptG c W2.ws L :=
        ⟨s+1,g,LX,by omega,rfl,hW4,hO4,hg,hb4,hsl,hk4⟩
       have hix:((4+tn+3*s:Nat):Int)=qjl c s 0:=by
        unfold qjl
        rw [if_pos ⟨by omega,hsS⟩]
        omega
       rw [←hix]at hLd hUn
       clear hW4 hO4 hb4 st4 hsl hti hW3 hO3 hC3 ho3 hx hx' hkp hk4 hwhi2 hvl2
       obtain⟨xo,xg,xp,xu,xk,xv⟩:=x
       simp only at hgn hvx
       subst hgn
       have hvx:vn≤gn:=by omega
       have hUn:∀lo h,qfV En lo Id.zcv [I (qiT W2.ws ((4+tn+3*s:Nat):Int))] h=some (.tuple #[.agg #[I xo,N gn,I xp,I xu,.bool xk,.bool xv],I 0],h):=hUn
       generalize qiT W2.ws ((4+tn+3*s:Nat):Int)=wd at hLd hUn
       repeat' (first|(show ER _ _ _ _ _ _ _;first|refine .seq ?_|refine .reg ?_|refine .yes rfl ?_|refine .no rfl ?_|refine .skip ?_|refine .block ?_|refine .endB ?_|refine .exit rfl ?_|refine .br rfl (fun hc => ?_) (fun hc => ?_)|refine .scope ?_|refine .inScope ?_|refine .label ?_|refine .ret rfl ?_|refine .nil rfl ?_)|(show EG _ _ _ _ _ _ _ _ _;first|refine .mov rfl rfl ?_|refine .lload rfl rfl rfl rfl ?_|refine .laddr rfl rfl rfl ?_|(show EG _ _ (⟨_,.bin _ _ _,_,_⟩::_) _ _ _ _ _ _;first|refine .lssT rfl rfl rfl (by omega) ?_|refine .lssF rfl rfl rfl (by omega) ?_|refine .leq rfl rfl rfl (fun hc => ?_) (fun hc => ?_)|refine .gtr rfl rfl rfl (fun hc => ?_) (fun hc => ?_)|refine .geq rfl rfl rfl (fun hc => ?_) (fun hc => ?_)|refine .eql rfl rfl rfl (fun hc => ?_) (fun hc => ?_)|refine .neqT rfl rfl rfl (by omega) ?_|refine .neqF rfl rfl rfl (by omega) ?_|refine .addN rfl rfl rfl (by omega) ?_|refine .addN (b:=1) rfl rfl rfl (by omega) ?_|refine .subN rfl rfl rfl (by omega) ?_|refine .subN (b:=1) rfl rfl rfl (by omega) ?_)|refine .load rfl rfl (hld) ?_|(show EG _ _ (⟨_,.call _ _,_,_⟩::_) _ _ _ _ _ _;first|refine .call rfl rfl (hCl) ?_|refine .call rfl rfl (hLd) ?_|refine .call rfl rfl (hUn _ _) ?_)|refine .iaddr rfl rfl rfl (hss) ?_|refine .mulN (a:=3) rfl rfl rfl (by omega) ?_|refine .addN (a:=4) rfl rfl rfl (by omega) ?_|refine .store rfl rfl rfl rfl rfl hst ?_|refine .skip rfl ?_|refine .fin ?_|refine .go rfl rfl rfl ?_|refine .gono rfl rfl rfl ?_|refine .skipn rfl ?_))
       exact nexts (m-1) _ _ (by omega) (by exact hcont)
      ·repeat' (first|(show ER _ _ _ _ _ _ _;first|refine .seq ?_|refine .reg ?_|refine .yes rfl ?_|refine .no rfl ?_|refine .skip ?_|refine .block ?_|refine .endB ?_|refine .exit rfl ?_|refine .br rfl (fun hc => ?_) (fun hc => ?_)|refine .scope ?_|refine .inScope ?_|refine .label ?_|refine .ret rfl ?_|refine .nil rfl ?_)|(show EG _ _ _ _ _ _ _ _ _;first|refine .mov rfl rfl ?_|refine .lload rfl rfl rfl rfl ?_|refine .laddr rfl rfl rfl ?_|(show EG _ _ (⟨_,.bin _ _ _,_,_⟩::_) _ _ _ _ _ _;first|refine .lssT rfl rfl rfl (by omega) ?_|refine .lssF rfl rfl rfl (by omega) ?_|refine .leq rfl rfl rfl (fun hc => ?_) (fun hc => ?_)|refine .gtr rfl rfl rfl (fun hc => ?_) (fun hc => ?_)|refine .geq rfl rfl rfl (fun hc => ?_) (fun hc => ?_)|refine .eql rfl rfl rfl (fun hc => ?_) (fun hc => ?_)|refine .neq rfl rfl rfl (fun hc => ?_) (fun hc => ?_)|refine .addN rfl rfl rfl (by omega) ?_|refine .addN (b:=1) rfl rfl rfl (by omega) ?_|refine .subN rfl rfl rfl (by omega) ?_|refine .subN (b:=1) rfl rfl rfl (by omega) ?_)|refine .skip rfl ?_|refine .fin ?_|refine .go rfl rfl rfl ?_|refine .gono rfl rfl rfl ?_|refine .skipn rfl ?_))
       refine next (n-1) _ _ (by omega) ⟨i+1,g,M2,kh2,hv2,L,es2,by omega,rfl,by rw [hWe];exact hW,hO,hg,hb,hL,by rw [hWe];exact hwhi2,by rw [hWe];exact hkp⟩
     ·have hev:=qqx c (w0 c l) (ks.take i)
      have h30:(ks.take i).length≤400:=by rw [List.length_take];omega
      have h00:(w0 c l).evs.length=0:=rfl
      refine Exists.elim (qsX hW (by omega)) fun v2 hq=>Exists.elim hq fun H2 hq => ?_
      have hHi:=hq.1
      have hsl:=hq.2.2
      clear hq
      have hese:=hwhi.evs
      have hel:es.length≤1000:=by
       have:=qrE es
       rw [←hese]at this
       omega
      rw [hese]at hsl
      have hCa:=qsd 0 hsl hel hwhi.hi.ok
      have hap:∀{i k:Nat} {x y:Kall},(qrU es.length es es.length)[i]? = some x→(qrU es.length es es.length)[k]? = some y→k<i→x.dn=true→y.dn=true→x.od=0→y.od=0→x.rc=0→y.rc=0→x.rn=y.rn→False:=fun hx hy hk=>by
       obtain⟨L,_,a⟩:=hwhi.all
       exact qsV hwhi.hi.ok a.ti hx hy hk
      have hCn:=qsc es.length es es.length
      clear hW hO hg hb hL hwhi hkp hese hsl
      generalize qrU es.length es es.length=C at hCa hap hCn
      have hmd:=qgK (h:=H2) (n:=10) (qrC C)
      have hCa:qfV En 0 Id.zcy [v2] H2=some (.tuple #[(made H2 10 (lcs C)).1,I 0],(made H2 10 (lcs C)).2):=hCa
      generalize made H2 10 (lcs C)=mm at hCa hmd
      obtain⟨cv,H3⟩:=mm
      have hCs:Sl H3 10 cv (lcs C):=hmd.1
      refine Exists.elim hCs.len fun cbb hq=>Exists.elim hq fun ccc hce => ?_
      rw [qrF]at hce
      subst hce
      repeat' (first|(show ER _ _ _ _ _ _ _;first|refine .seq ?_|refine .reg ?_|refine .yes rfl ?_|refine .no rfl ?_|refine .skip ?_|refine .block ?_|refine .endB ?_|refine .exit rfl ?_|refine .br rfl (fun hc => ?_) (fun hc => ?_)|refine .scope ?_|refine .inScope ?_|refine .label ?_|refine .ret rfl ?_|refine .nil rfl ?_)|(show EG _ _ _ _ _ _ _ _ _;first|refine .mov rfl rfl ?_|refine .lload rfl rfl rfl rfl ?_|refine .laddr rfl rfl rfl ?_|(show EG _ _ (⟨_,.bin _ _ _,_,_⟩::_) _ _ _ _ _ _;first|refine .lssT rfl rfl rfl (by omega) ?_|refine .lssF rfl rfl rfl (by omega) ?_|refine .leq rfl rfl rfl (fun hc => ?_) (fun hc => ?_)|refine .gtr rfl rfl rfl (fun hc => ?_) (fun hc => ?_)|refine .geq rfl rfl rfl (fun hc => ?_) (fun hc => ?_)|refine .eql rfl rfl rfl (fun hc => ?_) (fun hc => ?_)|refine .neq rfl rfl rfl (fun hc => ?_) (fun hc => ?_))|(show EG _ _ (⟨_,.call _ _,_,_⟩::_) _ _ _ _ _ _;first|refine .call rfl rfl (hHi) ?_|refine .call rfl rfl (hCa) ?_)|refine .skip rfl ?_|refine .fin ?_|refine .go rfl rfl rfl ?_|refine .gono rfl rfl rfl ?_|refine .skipn rfl ?_))
      refine .loop (fun n f H=>∃(k:Nat),n+k=C.length∧f = [(14,.slice cbb C.length ccc),(15,I 0),(16,N k)]∧H=H3) (n:=C.length) ⟨0,rfl,rfl,rfl⟩ ?_
      clear next hn hi hHi hCa
      rintro n f H ⟨k,hn,rfl,rfl⟩ next
      by_cases hk:k<C.length
      ·have hgk:C[k]? = some C[k]:=List.getElem?_eq_getElem hk
       generalize C[k]=a at hgk
       refine Exists.elim (qrO hCs (by omega)) fun ca hq=>Exists.elim hq fun cc' hq => ?_
       have hva:=hq.1
       have hld:=hq.2
       clear hq
       injection hva with e1 e2 e3
       subst e1
       repeat' (first|(show ER _ _ _ _ _ _ _;first|refine .seq ?_|refine .reg ?_|refine .yes rfl ?_|refine .no rfl ?_|refine .skip ?_|refine .block ?_|refine .endB ?_|refine .exit rfl ?_|refine .br rfl (fun hc => ?_) (fun hc => ?_)|refine .scope ?_|refine .inScope ?_|refine .label ?_|refine .ret rfl ?_|refine .nil rfl ?_)|(show EG _ _ _ _ _ _ _ _ _;first|refine .mov rfl rfl ?_|refine .lload rfl rfl rfl rfl ?_|refine .laddr rfl rfl rfl ?_|(show EG _ _ (⟨_,.bin _ _ _,_,_⟩::_) _ _ _ _ _ _;first|refine .lssT rfl rfl rfl (by omega) ?_|refine .lssF rfl rfl rfl (by omega) ?_|refine .leq rfl rfl rfl (fun hc => ?_) (fun hc => ?_)|refine .gtr rfl rfl rfl (fun hc => ?_) (fun hc => ?_)|refine .geq rfl rfl rfl (fun hc => ?_) (fun hc => ?_)|refine .eql rfl rfl rfl (fun hc => ?_) (fun hc => ?_)|refine .neq rfl rfl rfl (fun hc => ?_) (fun hc => ?_))|refine .skip rfl ?_|refine .fin ?_|refine .go rfl rfl rfl ?_|refine .gono rfl rfl rfl ?_|refine .skipn rfl ?_))
       refine .loop (fun m f H'=>∃(j:Nat),m+j=k∧f = [(14,.slice (some ca) C.length ccc),(15,I 0),(16,N k),(17,N j)]∧H'=H) (n:=k) ⟨0,rfl,rfl,rfl⟩ ?_
       rintro m f H' ⟨j,hm,rfl,rfl⟩ nexts
       by_cases hj:j<k
       ·have hgj:C[j]? = some C[j]:=List.getElem?_eq_getElem (by omega)
        generalize C[j]=b at hgj
        have hjC:j<C.length:=by omega
        have hno:=hap hgk hgj hj
        have A:=(hld k a hgk).2.2.2.2
        have D:=(hld j b hgj).2.2.2.2
        obtain⟨a0,a1,a2,a3,a4,a5,a6,a7,a8,a9⟩:=a
        obtain⟨b0,b1,b2,b3,b4,b5,b6,b7,b8,b9⟩:=b
        simp only at hno
        cases a7 with
        | false =>
          repeat' (first|(show ER _ _ _ _ _ _ _;first|refine .seq ?_|refine .reg ?_|refine .yes rfl ?_|refine .no rfl ?_|refine .skip ?_|refine .block ?_|refine .endB ?_|refine .exit rfl ?_|refine .br rfl (fun hc => ?_) (fun hc => ?_)|refine .scope ?_|refine .inScope ?_|refine .label ?_|refine .ret rfl ?_|refine .nil rfl ?_)|(show EG _ _ _ _ _ _ _ _ _;first|refine .mov rfl rfl ?_|refine .lload rfl rfl rfl rfl ?_|refine .laddr rfl rfl rfl ?_|(show EG _ _ (⟨_,.bin _ _ _,_,_⟩::_) _ _ _ _ _ _;first|refine .lssT rfl rfl rfl (by omega) ?_|refine .lssF rfl rfl rfl (by omega) ?_|refine .leq rfl rfl rfl (fun hc => ?_) (fun hc => ?_)|refine .gtr rfl rfl rfl (fun hc => ?_) (fun hc => ?_)|refine .geq rfl rfl rfl (fun hc => ?_) (fun hc => ?_)|refine .eql rfl rfl rfl (fun hc => ?_) (fun hc => ?_)|refine .neq rfl rfl rfl (fun hc => ?_) (fun hc => ?_)|refine .addN rfl rfl rfl (by omega) ?_|refine .addN (b:=1) rfl rfl rfl (by omega) ?_|refine .subN rfl rfl rfl (by omega) ?_|refine .subN (b:=1) rfl rfl rfl (by omega) ?_)|(show EG _ _ (⟨_,.load _ _,_,_⟩::_) _ _ _ _ _ _;first|refine .load rfl rfl (A) ?_|refine .load rfl rfl (D) ?_)|(show EG _ _ (⟨_,.iaddr _ _ _ _,_,_⟩::_) _ _ _ _ _ _;first|refine .iaddr rfl rfl rfl (hk) ?_|refine .iaddr rfl rfl rfl (hjC) ?_)|refine .skip rfl ?_|refine .fin ?_|refine .go rfl rfl rfl ?_|refine .gono rfl rfl rfl ?_|refine .skipn rfl ?_))
          exact nexts (m-1) _ _ (by omega) ⟨j+1,by omega,rfl,rfl⟩
        | true =>
          cases b7 with
          | false =>
            repeat' (first|(show ER _ _ _ _ _ _ _;first|refine .seq ?_|refine .reg ?_|refine .yes rfl ?_|refine .no rfl ?_|refine .skip ?_|refine .block ?_|refine .endB ?_|refine .exit rfl ?_|refine .br rfl (fun hc => ?_) (fun hc => ?_)|refine .scope ?_|refine .inScope ?_|refine .label ?_|refine .ret rfl ?_|refine .nil rfl ?_)|(show EG _ _ _ _ _ _ _ _ _;first|refine .mov rfl rfl ?_|refine .lload rfl rfl rfl rfl ?_|refine .laddr rfl rfl rfl ?_|(show EG _ _ (⟨_,.bin _ _ _,_,_⟩::_) _ _ _ _ _ _;first|refine .lssT rfl rfl rfl (by omega) ?_|refine .lssF rfl rfl rfl (by omega) ?_|refine .leq rfl rfl rfl (fun hc => ?_) (fun hc => ?_)|refine .gtr rfl rfl rfl (fun hc => ?_) (fun hc => ?_)|refine .geq rfl rfl rfl (fun hc => ?_) (fun hc => ?_)|refine .eql rfl rfl rfl (fun hc => ?_) (fun hc => ?_)|refine .neq rfl rfl rfl (fun hc => ?_) (fun hc => ?_)|refine .addN rfl rfl rfl (by omega) ?_|refine .addN (b:=1) rfl rfl rfl (by omega) ?_|refine .subN rfl rfl rfl (by omega) ?_|refine .subN (b:=1) rfl rfl rfl (by omega) ?_)|(show EG _ _ (⟨_,.load _ _,_,_⟩::_) _ _ _ _ _ _;first|refine .load rfl rfl (A) ?_|refine .load rfl rfl (D) ?_)|(show EG _ _ (⟨_,.iaddr _ _ _ _,_,_⟩::_) _ _ _ _ _ _;first|refine .iaddr rfl rfl rfl (hk) ?_|refine .iaddr rfl rfl rfl (hjC) ?_)|refine .skip rfl ?_|refine .fin ?_|refine .go rfl rfl rfl ?_|refine .gono rfl rfl rfl ?_|refine .skipn rfl ?_))
            exact nexts (m-1) _ _ (by omega) ⟨j+1,by omega,rfl,rfl⟩
          | true =>
            by_cases z1:a1=0
            ·by_cases z2:b1=0
             ·by_cases z3:a5=0
              ·by_cases z4:a5=b5∧a6=b6
               ·exact(hno rfl rfl z1 z2 z3 (by omega) z4.2).elim
               ·have z4:a5≠b5∨a6≠b6:=by omega
                repeat' (first|(show ER _ _ _ _ _ _ _;first|refine .seq ?_|refine .reg ?_|refine .yes rfl ?_|refine .no rfl ?_|refine .skip ?_|refine .block ?_|refine .endB ?_|refine .exit rfl ?_|refine .br rfl (fun hc => ?_) (fun hc => ?_)|refine .scope ?_|refine .inScope ?_|refine .label ?_|refine .ret rfl ?_|refine .nil rfl ?_)|(show EG _ _ _ _ _ _ _ _ _;first|refine .mov rfl rfl ?_|refine .lload rfl rfl rfl rfl ?_|refine .laddr rfl rfl rfl ?_|(show EG _ _ (⟨_,.bin _ _ _,_,_⟩::_) _ _ _ _ _ _;first|refine .lssT rfl rfl rfl (by omega) ?_|refine .lssF rfl rfl rfl (by omega) ?_|refine .leq rfl rfl rfl (fun hc => ?_) (fun hc => ?_)|refine .gtr rfl rfl rfl (fun hc => ?_) (fun hc => ?_)|refine .geq rfl rfl rfl (fun hc => ?_) (fun hc => ?_)|refine .eqlT rfl rfl rfl (by omega) ?_|refine .eqlF rfl rfl rfl (by omega) ?_|refine .neq rfl rfl rfl (fun hc => ?_) (fun hc => ?_)|refine .addN rfl rfl rfl (by omega) ?_|refine .addN (b:=1) rfl rfl rfl (by omega) ?_|refine .subN rfl rfl rfl (by omega) ?_|refine .subN (b:=1) rfl rfl rfl (by omega) ?_)|(show EG _ _ (⟨_,.load _ _,_,_⟩::_) _ _ _ _ _ _;first|refine .load rfl rfl (A) ?_|refine .load rfl rfl (D) ?_)|(show EG _ _ (⟨_,.iaddr _ _ _ _,_,_⟩::_) _ _ _ _ _ _;first|refine .iaddr rfl rfl rfl (hk) ?_|refine .iaddr rfl rfl rfl (hjC) ?_)|refine .eqc rfl rfl rfl rfl (fun hc => ?_) (fun hc => ?_)|refine .skip rfl ?_|refine .fin ?_|refine .go rfl rfl rfl ?_|refine .gono rfl rfl rfl ?_|refine .skipn rfl ?_))
                ·exact absurd hc (fun q=>by simp at q;omega)
                ·exact nexts (m-1) _ _ (by omega) ⟨j+1,by omega,rfl,rfl⟩
              ·repeat' (first|(show ER _ _ _ _ _ _ _;first|refine .seq ?_|refine .reg ?_|refine .yes rfl ?_|refine .no rfl ?_|refine .skip ?_|refine .block ?_|refine .endB ?_|refine .exit rfl ?_|refine .br rfl (fun hc => ?_) (fun hc => ?_)|refine .scope ?_|refine .inScope ?_|refine .label ?_|refine .ret rfl ?_|refine .nil rfl ?_)|(show EG _ _ _ _ _ _ _ _ _;first|refine .mov rfl rfl ?_|refine .lload rfl rfl rfl rfl ?_|refine .laddr rfl rfl rfl ?_|(show EG _ _ (⟨_,.bin _ _ _,_,_⟩::_) _ _ _ _ _ _;first|refine .lssT rfl rfl rfl (by omega) ?_|refine .lssF rfl rfl rfl (by omega) ?_|refine .leq rfl rfl rfl (fun hc => ?_) (fun hc => ?_)|refine .gtr rfl rfl rfl (fun hc => ?_) (fun hc => ?_)|refine .geq rfl rfl rfl (fun hc => ?_) (fun hc => ?_)|refine .eqlT rfl rfl rfl (by omega) ?_|refine .eqlF rfl rfl rfl (by omega) ?_|refine .neq rfl rfl rfl (fun hc => ?_) (fun hc => ?_)|refine .addN rfl rfl rfl (by omega) ?_|refine .addN (b:=1) rfl rfl rfl (by omega) ?_|refine .subN rfl rfl rfl (by omega) ?_|refine .subN (b:=1) rfl rfl rfl (by omega) ?_)|(show EG _ _ (⟨_,.load _ _,_,_⟩::_) _ _ _ _ _ _;first|refine .load rfl rfl (A) ?_|refine .load rfl rfl (D) ?_)|(show EG _ _ (⟨_,.iaddr _ _ _ _,_,_⟩::_) _ _ _ _ _ _;first|refine .iaddr rfl rfl rfl (hk) ?_|refine .iaddr rfl rfl rfl (hjC) ?_)|refine .skip rfl ?_|refine .fin ?_|refine .go rfl rfl rfl ?_|refine .gono rfl rfl rfl ?_|refine .skipn rfl ?_))
               exact nexts (m-1) _ _ (by omega) ⟨j+1,by omega,rfl,rfl⟩
             ·repeat' (first|(show ER _ _ _ _ _ _ _;first|refine .seq ?_|refine .reg ?_|refine .yes rfl ?_|refine .no rfl ?_|refine .skip ?_|refine .block ?_|refine .endB ?_|refine .exit rfl ?_|refine .br rfl (fun hc => ?_) (fun hc => ?_)|refine .scope ?_|refine .inScope ?_|refine .label ?_|refine .ret rfl ?_|refine .nil rfl ?_)|(show EG _ _ _ _ _ _ _ _ _;first|refine .mov rfl rfl ?_|refine .lload rfl rfl rfl rfl ?_|refine .laddr rfl rfl rfl ?_|(show EG _ _ (⟨_,.bin _ _ _,_,_⟩::_) _ _ _ _ _ _;first|refine .lssT rfl rfl rfl (by omega) ?_|refine .lssF rfl rfl rfl (by omega) ?_|refine .leq rfl rfl rfl (fun hc => ?_) (fun hc => ?_)|refine .gtr rfl rfl rfl (fun hc => ?_) (fun hc => ?_)|refine .geq rfl rfl rfl (fun hc => ?_) (fun hc => ?_)|refine .eqlT rfl rfl rfl (by omega) ?_|refine .eqlF rfl rfl rfl (by omega) ?_|refine .neq rfl rfl rfl (fun hc => ?_) (fun hc => ?_)|refine .addN rfl rfl rfl (by omega) ?_|refine .addN (b:=1) rfl rfl rfl (by omega) ?_|refine .subN rfl rfl rfl (by omega) ?_|refine .subN (b:=1) rfl rfl rfl (by omega) ?_)|(show EG _ _ (⟨_,.load _ _,_,_⟩::_) _ _ _ _ _ _;first|refine .load rfl rfl (A) ?_|refine .load rfl rfl (D) ?_)|(show EG _ _ (⟨_,.iaddr _ _ _ _,_,_⟩::_) _ _ _ _ _ _;first|refine .iaddr rfl rfl rfl (hk) ?_|refine .iaddr rfl rfl rfl (hjC) ?_)|refine .skip rfl ?_|refine .fin ?_|refine .go rfl rfl rfl ?_|refine .gono rfl rfl rfl ?_|refine .skipn rfl ?_))
              exact nexts (m-1) _ _ (by omega) ⟨j+1,by omega,rfl,rfl⟩
            ·repeat' (first|(show ER _ _ _ _ _ _ _;first|refine .seq ?_|refine .reg ?_|refine .yes rfl ?_|refine .no rfl ?_|refine .skip ?_|refine .block ?_|refine .endB ?_|refine .exit rfl ?_|refine .br rfl (fun hc => ?_) (fun hc => ?_)|refine .scope ?_|refine .inScope ?_|refine .label ?_|refine .ret rfl ?_|refine .nil rfl ?_)|(show EG _ _ _ _ _ _ _ _ _;first|refine .mov rfl rfl ?_|refine .lload rfl rfl rfl rfl ?_|refine .laddr rfl rfl rfl ?_|(show EG _ _ (⟨_,.bin _ _ _,_,_⟩::_) _ _ _ _ _ _;first|refine .lssT rfl rfl rfl (by omega) ?_|refine .lssF rfl rfl rfl (by omega) ?_|refine .leq rfl rfl rfl (fun hc => ?_) (fun hc => ?_)|refine .gtr rfl rfl rfl (fun hc => ?_) (fun hc => ?_)|refine .geq rfl rfl rfl (fun hc => ?_) (fun hc => ?_)|refine .eqlT rfl rfl rfl (by omega) ?_|refine .eqlF rfl rfl rfl (by omega) ?_|refine .neq rfl rfl rfl (fun hc => ?_) (fun hc => ?_)|refine .addN rfl rfl rfl (by omega) ?_|refine .addN (b:=1) rfl rfl rfl (by omega) ?_|refine .subN rfl rfl rfl (by omega) ?_|refine .subN (b:=1) rfl rfl rfl (by omega) ?_)|(show EG _ _ (⟨_,.load _ _,_,_⟩::_) _ _ _ _ _ _;first|refine .load rfl rfl (A) ?_|refine .load rfl rfl (D) ?_)|(show EG _ _ (⟨_,.iaddr _ _ _ _,_,_⟩::_) _ _ _ _ _ _;first|refine .iaddr rfl rfl rfl (hk) ?_|refine .iaddr rfl rfl rfl (hjC) ?_)|refine .skip rfl ?_|refine .fin ?_|refine .go rfl rfl rfl ?_|refine .gono rfl rfl rfl ?_|refine .skipn rfl ?_))
             exact nexts (m-1) _ _ (by omega) ⟨j+1,by omega,rfl,rfl⟩
       ·repeat' (first|(show ER _ _ _ _ _ _ _;first|refine .seq ?_|refine .reg ?_|refine .yes rfl ?_|refine .no rfl ?_|refine .skip ?_|refine .block ?_|refine .endB ?_|refine .exit rfl ?_|refine .br rfl (fun hc => ?_) (fun hc => ?_)|refine .scope ?_|refine .inScope ?_|refine .label ?_|refine .ret rfl ?_|refine .nil rfl ?_)|(show EG _ _ _ _ _ _ _ _ _;first|refine .mov rfl rfl ?_|refine .lload rfl rfl rfl rfl ?_|refine .laddr rfl rfl rfl ?_|(show EG _ _ (⟨_,.bin _ _ _,_,_⟩::_) _ _ _ _ _ _;first|refine .lssT rfl rfl rfl (by omega) ?_|refine .lssF rfl rfl rfl (by omega) ?_|refine .leq rfl rfl rfl (fun hc => ?_) (fun hc => ?_)|refine .gtr rfl rfl rfl (fun hc => ?_) (fun hc => ?_)|refine .geq rfl rfl rfl (fun hc => ?_) (fun hc => ?_)|refine .eql rfl rfl rfl (fun hc => ?_) (fun hc => ?_)|refine .neq rfl rfl rfl (fun hc => ?_) (fun hc => ?_)|refine .addN rfl rfl rfl (by omega) ?_|refine .addN (b:=1) rfl rfl rfl (by omega) ?_|refine .subN rfl rfl rfl (by omega) ?_|refine .subN (b:=1) rfl rfl rfl (by omega) ?_)|refine .skip rfl ?_|refine .fin ?_|refine .go rfl rfl rfl ?_|refine .gono rfl rfl rfl ?_|refine .skipn rfl ?_))
        refine next (n-1) _ _ (by omega) ⟨k+1,by omega,rfl,rfl⟩
      ·repeat' (first|(show ER _ _ _ _ _ _ _;first|refine .seq ?_|refine .reg ?_|refine .yes rfl ?_|refine .no rfl ?_|refine .skip ?_|refine .block ?_|refine .endB ?_|refine .exit rfl ?_|refine .br rfl (fun hc => ?_) (fun hc => ?_)|refine .scope ?_|refine .inScope ?_|refine .label ?_|refine .ret rfl ?_|refine .nil rfl ?_)|(show EG _ _ _ _ _ _ _ _ _;first|refine .mov rfl rfl ?_|refine .lload rfl rfl rfl rfl ?_|refine .laddr rfl rfl rfl ?_|(show EG _ _ (⟨_,.bin _ _ _,_,_⟩::_) _ _ _ _ _ _;first|refine .lssT rfl rfl rfl (by omega) ?_|refine .lssF rfl rfl rfl (by omega) ?_|refine .leq rfl rfl rfl (fun hc => ?_) (fun hc => ?_)|refine .gtr rfl rfl rfl (fun hc => ?_) (fun hc => ?_)|refine .geq rfl rfl rfl (fun hc => ?_) (fun hc => ?_)|refine .eqlT rfl rfl rfl (by omega) ?_|refine .eqlF rfl rfl rfl (by omega) ?_|refine .neq rfl rfl rfl (fun hc => ?_) (fun hc => ?_))|refine .call rfl rfl (qiI _ _) ?_|refine .skip rfl ?_|refine .fin ?_|refine .go rfl rfl rfl ?_|refine .gono rfl rfl rfl ?_|refine .skipn rfl ?_))
       rfl
    ·have hno:¬c.may∨c.T<(l.length:Int):=by
      by_cases hm:c.may
      ·exact .inr (by have:¬(l.length:Int)≤c.T:=fun q=>hok ⟨hm,q⟩;omega)
      ·exact .inl hm
     have hN:=qqs hv hno
     have hM:=fun lo=>qiP lo h c
     rw [Cfg.cs]at hM
     subst hve hwe
     refine qii rfl Fn.zcs rfl rfl ?_
     by_cases hm:c.may
     ·rw [decide_eq_true hm]at hM
      have hT:c.T<(l.length:Int):=hno.resolve_left (fun q=>q hm)
      repeat' (first|(show ER _ _ _ _ _ _ _;first|refine .seq ?_|refine .reg ?_|refine .yes rfl ?_|refine .no rfl ?_|refine .skip ?_|refine .block ?_|refine .endB ?_|refine .exit rfl ?_|refine .br rfl (fun hc => ?_) (fun hc => ?_)|refine .scope ?_|refine .inScope ?_|refine .label ?_|refine .ret rfl ?_|refine .nil rfl ?_)|(show EG _ _ _ _ _ _ _ _ _;first|refine .mov rfl rfl ?_|refine .lload rfl rfl rfl rfl ?_|refine .laddr rfl rfl rfl ?_|(show EG _ _ (⟨_,.bin _ _ _,_,_⟩::_) _ _ _ _ _ _;first|refine .lss rfl rfl rfl (fun hc => ?_) (fun hc => ?_)|refine .leq rfl rfl rfl (fun hc => ?_) (fun hc => ?_)|refine .gtrT rfl rfl rfl (by omega) ?_|refine .gtrF rfl rfl rfl (by omega) ?_|refine .geq rfl rfl rfl (fun hc => ?_) (fun hc => ?_)|refine .eql rfl rfl rfl (fun hc => ?_) (fun hc => ?_)|refine .neqT rfl rfl rfl (by omega) ?_|refine .neqF rfl rfl rfl (by omega) ?_)|(show EG _ _ (⟨_,.call _ _,_,_⟩::_) _ _ _ _ _ _;first|refine .call rfl rfl (qiI _ _) ?_|refine .call rfl rfl (hSm) ?_|refine .call rfl rfl (hN) ?_|refine .call rfl rfl (hM _) ?_)|refine .skip rfl ?_|refine .fin ?_|refine .go rfl rfl rfl ?_|refine .gono rfl rfl rfl ?_|refine .skipn rfl ?_))
      rfl
     ·rw [decide_eq_false hm]at hM
      repeat' (first|(show ER _ _ _ _ _ _ _;first|refine .seq ?_|refine .reg ?_|refine .yes rfl ?_|refine .no rfl ?_|refine .skip ?_|refine .block ?_|refine .endB ?_|refine .exit rfl ?_|refine .br rfl (fun hc => ?_) (fun hc => ?_)|refine .scope ?_|refine .inScope ?_|refine .label ?_|refine .ret rfl ?_|refine .nil rfl ?_)|(show EG _ _ _ _ _ _ _ _ _;first|refine .mov rfl rfl ?_|refine .lload rfl rfl rfl rfl ?_|refine .laddr rfl rfl rfl ?_|(show EG _ _ (⟨_,.bin _ _ _,_,_⟩::_) _ _ _ _ _ _;first|refine .lss rfl rfl rfl (fun hc => ?_) (fun hc => ?_)|refine .leq rfl rfl rfl (fun hc => ?_) (fun hc => ?_)|refine .gtrT rfl rfl rfl (by omega) ?_|refine .gtrF rfl rfl rfl (by omega) ?_|refine .geq rfl rfl rfl (fun hc => ?_) (fun hc => ?_)|refine .eql rfl rfl rfl (fun hc => ?_) (fun hc => ?_)|refine .neqT rfl rfl rfl (by omega) ?_|refine .neqF rfl rfl rfl (by omega) ?_)|(show EG _ _ (⟨_,.call _ _,_,_⟩::_) _ _ _ _ _ _;first|refine .call rfl rfl (qiI _ _) ?_|refine .call rfl rfl (hSm) ?_|refine .call rfl rfl (hN) ?_|refine .call rfl rfl (hM _) ?_)|refine .skip rfl ?_|refine .fin ?_|refine .go rfl rfl rfl ?_|refine .gono rfl rfl rfl ?_|refine .skipn rfl ?_))
      rfl
 obtain⟨u,h',h1,rfl⟩:=key
 exact⟨h',h1⟩
end Go.Proofs.YtdinebegmppnoaaGreat

