/- AuditBytes, as the program runs it: the run. -/
import Derived.Test.YtlgnnpkdhbhdgaaGreatBytesQ
import Derived.Test.YtlgnnpkdhbhdgaaGreatWorldI
set_option linter.unusedVariables false
set_option linter.unusedSimpArgs false

namespace Go.Proofs.YtlgnnpkdhbhdgaaGreat
open Go Go.Ir

theorem qsp (ws bs:List Int)(c:Cfg)(slot:Int):(qrR ws bs c slot).length≤16384:=by
 have hll:=qrP ws c
 have h:=qrT (byG bs slot (qi7 ws (qjz c slot 1))) 256 (qrG ws c) fun a ha=>by
  unfold byG
  split
  ·rename_i hs
   obtain⟨hp,s,h1,y,h2,h3⟩:=qrO ha
   have h4:=qrM h2 h3
   rw [h4.1]at hs
   rw [hs]at h4
   have:=h4.2.2.2.2.1
   simp [byF];omega
  ·simp
 unfold qrR
 exact Nat.le_trans h (Nat.le_trans (Nat.mul_le_mul_right 256 hll) (by decide))

set_option maxHeartbeats 3200000 in
theorem qsq (c:Cfg){h:qab}{v w:Value}{l:List (Value×List Op4)}{ks:List Int}(hv:Pgs h v l)(hw:Sl h 1 w (kcs ks))(hl:l.length<4611686018427387904):∃h',qfV En 0 Id.zcI [.agg c.cs.toArray,v,w] h=some (.bool true,h'):=by
 have key:∃u h',qfV En 0 Id.zcI [.agg #[I c.A,I c.S,I c.T],v,w] h=some (u,h')∧u = .bool true:=by
  have hv0:=hv
  refine Exists.elim hv.sl.len fun vb hq=>Exists.elim hq fun vc hve => ?_
  refine Exists.elim hw.len fun wb hq=>Exists.elim hq fun wc hwe => ?_
  rw [List.length_map]at hve
  rw [qq2]at hwe
  refine Exists.elim (qrg (n0:=20) (most:=300) 0 (by omega) (by omega) hv hw hl) fun sm hq => ?_
  have hSm:=hq.1
  have hsm:=hq.2
  clear hq
  by_cases hok:c.may∧(l.length:Int)≤c.T
  ·have hm:=hok.1
   refine Exists.elim (qrf hm hv hok.2) fun H1 hq=>Exists.elim hq fun g1 hq=>Exists.elim hq fun B hq=>Exists.elim hq fun cb hq=>Exists.elim hq fun pb hq=>Exists.elim hq fun M hq=>Exists.elim hq fun ka hq=>Exists.elim hq fun tv hq => ?_
   have hN:=hq.1
   have hW1:=hq.2.1
   have hO1:=hq.2.2.1
   clear hq
   subst hve hwe
   refine qiv rfl Fn.zcI rfl rfl ?_
   cases sm with
   | false =>
     repeat' first|refine .A ?_|refine .B ?_|refine .C ?_|refine .J ?_|refine .P (qiV _ _) ?_|refine .P hSm ?_|refine .F ?_|refine .Y ?_|fail
     rfl
   | true =>
     have hs:=hsm rfl
     repeat' first|refine .A ?_|refine .B ?_|refine .D ?_|refine .F ?_|refine .G ?_|refine .f6 ?_|refine .P hSm ?_|refine .P hN ?_|refine .Y ?_|fail
     refine .loop (fun n f H=>∃(i:Nat) (g:Nat→Nat) (M kh:Nat) (hv:Value),n+i=ks.length∧f = [(2,.slice wb ks.length wc),(3,.agg #[I c.A,I c.S,I c.T]),(7,qkt B),(9,N i)]∧
      WInv H g c cb B (qrj c (w0 c l) (ks.take i)) pb M ka kh tv hv∧Old h H g) (n:=ks.length)
      ⟨0,g1,M,0,_,rfl,rfl,hW1,hO1⟩ ?_
     clear hW1 hO1 hN hSm hsm
     rintro n f H ⟨i,g,M,kh,hv,hn,rfl,hW,hO⟩ next
     by_cases hi:i<ks.length
     ·have hgi:ks[i]? = some ks[i]:=List.getElem?_eq_getElem hi
      generalize ks[i]=q at hgi
      refine Exists.elim (qq3 (hw.ext hO.ext) hgi) fun ad hq=>Exists.elim hq fun cap' hq => ?_
      have hva:=hq.1
      have I0:=hq.2
      clear hq
      injection hva with e1 e2 e3
      subst e1
      have hev:=qrm c (w0 c l) (ks.take i)
      have h30:(ks.take i).length≤300:=by rw [List.length_take];omega
      have h00:(w0 c l).evs.length=0:=rfl
      refine Exists.elim (qre hm hW q (by omega)) fun H2 hq=>Exists.elim hq fun g2 hq=>Exists.elim hq fun M2 hq=>Exists.elim hq fun kh2 hq=>Exists.elim hq fun hv2 hq => ?_
      have hP:=hq.1
      have hW2:=hq.2.1
      have hc2:=hq.2.2
      clear hq
      rw [←qrk hgi]at hW2
      generalize (qrc c (qrj c (w0 c l) (ks.take i)) q).2=pr at hP
      repeat' first|refine .A ?_|refine .B ?_|refine .C ?_|refine .F ?_|refine .G ?_|refine .H ?_|refine .t1 ?_|refine .n2 ?_|refine .L I0 ?_|refine .P hP ?_|refine .R hi ?_|refine .Y ?_|fail
      exact next (n-1) _ _ (by omega) ⟨i+1,g2,M2,kh2,hv2,by omega,rfl,hW2,hO.calm hc2⟩
     ·have hil:i=ks.length:=by omega
      rw [hil,List.take_length]at hW
      have hCl:=qri hW 0
      have hCC:=hW.p.cells
      have hlens:=qry hm l ks
      have hm':=hm
      unfold Cfg.may at hm'
      have hwl:(qrj c (w0 c l) ks).ws.length≤4096∧1≤(qrj c (w0 c l) ks).ws.length:=by rw [hlens.1];unfold qi3;omega
      have hbl:(qrj c (w0 c l) ks).bs.length≤4096:=by rw [hlens.2];omega
      have hB:=qiC hW.row
      refine Exists.elim (qso hCC hwl.2 hwl.1 hbl) fun H2 hq => ?_
      have hPl:=hq.1
      have hC2:=hq.2.1
      have hR2:=hq.2.2.1
      have hX2:=hq.2.2.2
      clear hq
      have hPB:B≠cb.P:=fun e=>by
       have h1:=hW.p.tc.1
       rw [←e,hW.gB]at h1
       omega
      have lc:=hCC.lts
      have dd:∀x,(x=cb.P∨x=cb.W∨x=cb.Y)→x≠(qjq H).P∧x≠(qjq H).W∧x≠(qjq H).Y:=fun x hx=>by
       have e1:(qjq H).P=H.length+2:=rfl
       have e2:(qjq H).W=H.length:=rfl
       have e3:(qjq H).Y=H.length+1:=rfl
       omega
      have hr2:H2[B]? = H[B]? := hX2.same B hB (by simp [hPB])
      have qac:=hW.row
      have hBdb:B≠(qjq H).P:=by
       have e1:(qjq H).P=H.length+2:=rfl
       omega
      generalize qjq H=db at hPl hR2 dd hBdb
      have hP:=dd _ (.inl rfl)
      have hWd:=dd _ (.inr (.inl rfl))
      have hY:=dd _ (.inr (.inr rfl))
      have l0':qav H2 none ⟨B,0+0,none⟩=some (qjd cb):=qiD (hr2.trans qac) rfl
      repeat' first|refine .A ?_|refine .B ?_|refine .D ?_|refine .F ?_|refine .G ?_|refine .I ?_|refine .f1 ?_|refine .P hCl ?_|refine .P hPl ?_|refine .Y ?_|fail
      refine .loop (fun n f H3=>∃s:Int,(n:Int)+s=c.S+1∧-1≤s∧f = [(3,.agg #[I c.A,I c.S,I c.T]),(7,qkt B),(10,qjd db),(11,I s)]∧IsC H3 cb (qrj c (w0 c l) ks).ws (qrj c (w0 c l) ks).bs∧IsR H3 db (qrj c (w0 c l) ks).ws (qrj c (w0 c l) ks).bs∧B<H3.length∧H3[B]? = H[B]?) (n:=(c.S+2).toNat)
       ⟨-1,by omega,by omega,rfl,hC2,hR2,Nat.lt_of_lt_of_le hB hX2.len,hr2⟩ ?_
      clear hC2 hR2 hX2 hr2 hCl hPl hCC l0'
      generalize (qrj c (w0 c l) ks).ws=ws at *
      generalize (qrj c (w0 c l) ks).bs=bs at *
      rintro n f H3 ⟨s,hns,hs0,rfl,hC3,hR3,hB3,hr3⟩ next
      have l3:qav H3 none ⟨B,0+0,none⟩=some (qjd cb):=qiD (hr3.trans qac) rfl
      have hCl3:qfV En 0 Id.zdO [qkt B] H3=some (qjd cb,H3):=by
       refine qgx rfl Fn.zdO rfl rfl ?_
       repeat' first|refine .A ?_|refine .B ?_|refine .D ?_|refine .F ?_|refine .J ?_|refine .L l3 ?_|refine .Y ?_|fail
       rfl
      by_cases hsS:s≤c.S
      ·refine Exists.elim (qrU (lo:=0) hC3 (Nat.zero_le _) c s) fun v6 hq=>Exists.elim hq fun H6 hq => ?_
       have c8:=hq.1
       have hC6:=hq.2.1
       have x6:=hq.2.2.1
       have o6:=hq.2.2.2
       clear hq
       have hR6:=hR3.chg x6 (by simp [hP.1.symm,hP.2.1.symm,hP.2.2.symm])
       refine Exists.elim (qr0 (lo:=0) hR6 (Nat.zero_le _) c s) fun v7 hq=>Exists.elim hq fun H7 hq => ?_
       have c9:=hq.1
       have hR7:=hq.2.1
       have x7:=hq.2.2.1
       have o7:=hq.2.2.2
       clear hq
       have lr:=hR3.lts
       have o67:=o6.keep (H':=H7) fun i h1 h2=>x7.same i h2 (by simp;omega)
       have c10:=fun lo=>qsh lo o67.sl o7.sl (by have:=qsp ws bs c s;omega)
       have hC7:=hC6.chg x7 (by simp [hP.1,hWd.1,hY.1])
       have e6:=x6.len
       have e7:=x7.len
       have hr7:H7[B]? = H[B]? := (x7.same B (by omega) (by simp [hBdb])).trans ((x6.same B hB3 (by simp [hPB])).trans hr3)
       have hs1:w64 (s+1)=s+1:=qiY (by omega) (by omega)
       rw [Cfg.cs]at c8 c9
       repeat' first|refine .A ?_|refine .B ?_|refine .C ?_|refine .D ?_|refine .F ?_|refine .G ?_|refine .H ?_|refine .t2 ?_|refine .P hCl3 ?_|refine .P c8 ?_|refine .P c9 ?_|refine .P (c10 _) ?_|refine .Y ?_|fail
       rw [show IntKind.i64.wrap (s+1)=s+1 from hs1]
       exact next (n-1) _ _ (by omega) ⟨s+1,by omega,by omega,rfl,hC7,hR7,by omega,hr7⟩
      ·repeat' first|refine .A ?_|refine .B ?_|refine .D ?_|refine .I ?_|refine .J ?_|refine .C ?_|refine .f2 ?_|refine .P (qiV _ _) ?_|refine .F ?_|fail
       rfl
  ·have hno:¬c.may∨c.T<(l.length:Int):=by
    by_cases hm:c.may
    ·exact .inr (by have:¬(l.length:Int)≤c.T:=fun q=>hok ⟨hm,q⟩;omega)
    ·exact .inl hm
   have hN:=qrh hv hno
   have hM:=fun lo=>qi2 lo h c
   rw [Cfg.cs]at hM
   subst hve hwe
   refine qiv rfl Fn.zcI rfl rfl ?_
   cases sm with
   | false =>
     repeat' first|refine .A ?_|refine .B ?_|refine .C ?_|refine .J ?_|refine .P (qiV _ _) ?_|refine .P hSm ?_|refine .F ?_|refine .Y ?_|fail
     rfl
   | true =>
     by_cases hm:c.may
     ·rw [decide_eq_true hm]at hM
      have hT:c.T<(l.length:Int):=hno.resolve_left (fun q=>q hm)
      repeat' first|refine .A ?_|refine .B ?_|refine .C ?_|refine .D ?_|refine .F ?_|refine .J ?_|refine .t3 ?_|refine .t6 ?_|refine .P (qiV _ _) ?_|refine .P hSm ?_|refine .P hN ?_|refine .P (hM _) ?_|refine .Y ?_|fail
      rfl
     ·rw [decide_eq_false hm]at hM
      repeat' first|refine .A ?_|refine .B ?_|refine .C ?_|refine .D ?_|refine .F ?_|refine .J ?_|refine .t6 ?_|refine .P (qiV _ _) ?_|refine .P hSm ?_|refine .P hN ?_|refine .P (hM _) ?_|refine .Y ?_|fail
      rfl
 obtain⟨u,h',h1,rfl⟩:=key
 exact⟨h',h1⟩
end Go.Proofs.YtlgnnpkdhbhdgaaGreat

