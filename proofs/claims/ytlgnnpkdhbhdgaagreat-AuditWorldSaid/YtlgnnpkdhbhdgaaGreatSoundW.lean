/- What a world holds, and moves; its audit. -/
import Derived.Test.YtlgnnpkdhbhdgaaGreatWorldI
import Derived.Test.YtlgnnpkdhbhdgaaGreatThreadQ3
import Derived.Test.YtlgnnpkdhbhdgaaGreatSoundV
set_option linter.all false
namespace Go.Proofs.YtlgnnpkdhbhdgaaGreat
open Go Go.Ir
def qs4 (m:Mc):Bool:=decide (7<=m.next/\m.next<=9)
def mvW (m:Mc):Mv:=if qs4 m then⟨(qnr m).s,(qnr m).o,m.dest,(qnr m).n⟩else⟨0,0,0,0⟩
def qs5 (v:Mv)(u:Bool):Value := .tuple #[.agg #[I v.s,I v.f,I v.t,I v.n],.bool u]
def hoW (t:Th):List Obj:=match thH t with|some p => [⟨-1,p.1,p.2,false⟩]|none => []
def qs6 (ts:List Th):List Obj:=(ts.map hoW).flatten
def qs7 (t:Th):(hoW t).length<=1:=by unfold hoW;split<;>simp
def qs8 {ts:List Th}{i:Nat}(hi:i<ts.length):qs6 (ts.take (i+1))=qs6 (ts.take i)++hoW ts[i]:=by
 unfold qs6
 rw [List.take_succ_eq_append_getElem hi,List.map_append,List.flatten_append]
 simp
def qs9:∀ts:List Th,(qs6 ts).length<=ts.length
 | []=>zzR _
 | t::r=>by
   have:=qs9 r
   have:=qs7 t
   unfold qs6 at *
   rw [List.map_cons,List.flatten_cons,zzM,List.length_cons]
   omega
section
variable {H:qab}{g:Nat->Nat}{c:Cfg}{cb:CB}{B:Nat}{w:Wst}{pb:List Nat}{M ka kh:Nat}{tv hv:Value}
def qta {lo:Nat}{own:List Nat}{m:Mc}{ov tv:Value}(h:McAt H own M m ov tv)(hw:m.wf) :
  qfU En lo Id.zaI [qkt M] H=some (qs5 (mvW m) (qs4 m),H):=by
 have l5:qau H none ⟨M,0+5,none⟩=some (I m.next):=qiC h.row rfl
 have l80:qau H none ⟨M,0+80,none⟩=some (I m.dest):=qiC h.row rfl
 refine qgw rfl Fn.zaI rfl rfl ?_
 unfold mvW
 by_cases hu:7<=m.next/\m.next<=9
 ·have hu':qs4 m=true:=zzT hu
  have hl:=hw.look (by omega) (by omega)
  have h0:=hw.at_
  have k2:=qnw h0 hl
  rw [hu',if_pos rfl]
  have hO:=fun lo=>qna (lo:=lo) h (k:=m.yx.toNat) (by omega) k2
  generalize qnr m=o at hO
  rw [Obj.cs]at hO
  unfold qs5
  by_cases h7:m.next=7
  ·repeat' first|refine .A ?_|refine .B ?_|refine .C ?_|refine .D ?_|refine .F ?_|refine .G ?_|refine .J ?_|refine .t5 ?_|refine .L l5 ?_|refine .L l80 ?_|refine .P (hO _) ?_|refine .Y ?_|fail
   rfl
  ·by_cases h8:m.next=8
   ·repeat' first|refine .A ?_|refine .B ?_|refine .C ?_|refine .D ?_|refine .F ?_|refine .G ?_|refine .J ?_|refine .t5 ?_|refine .f5 ?_|refine .L l5 ?_|refine .L l80 ?_|refine .P (hO _) ?_|refine .Y ?_|fail
    rfl
   ·repeat' first|refine .A ?_|refine .B ?_|refine .C ?_|refine .D ?_|refine .F ?_|refine .G ?_|refine .J ?_|refine .t5 ?_|refine .f5 ?_|refine .L l5 ?_|refine .L l80 ?_|refine .P (hO _) ?_|refine .Y ?_|fail
    rfl
 ·have hu':qs4 m=false:=zzF hu
  rw [hu',if_neg (by simp)]
  unfold qs5
  repeat' first|refine .A ?_|refine .B ?_|refine .D ?_|refine .F ?_|refine .G ?_|refine .H ?_|refine .J ?_|refine .f5 ?_|refine .L l5 ?_|refine .Y ?_|fail
  rfl
def qtb (h:WInv H g c cb B w pb M ka kh tv hv)(lo:Nat):qfU En lo Id.zdI [qkt B] H=some (qs5 (mvW w.m) (qs4 w.m),H):=by
 obtain⟨hg,hc,own,ov,tv',hm,_⟩:=h.ps
 have hM:=fun lo=>qta (lo:=lo) hm hg.1
 have l5:=h.l5
 generalize mvW w.m=v at hM
 generalize qs4 w.m=u at hM
 unfold qs5 at hM|-
 refine qgw rfl Fn.zdI rfl rfl ?_
 repeat' first|refine .A ?_|refine .B ?_|refine .D ?_|refine .F ?_|refine .J ?_|refine .L l5 ?_|refine .P (hM _) ?_|refine .Y ?_|fail
 rfl
def qtc (h:WInv H g c cb B w pb M ka kh tv hv)(lo:Nat):qfU En lo Id.zdG [qkt B] H=some (.agg #[I c.A,I c.S,I c.T],H):=by
 have l1:qau H (some 3) ⟨B,0+1,none⟩=some (.agg #[I c.A,I c.S,I c.T]):=qiD h.row (zzL rfl) rfl
 refine qgw rfl Fn.zdG rfl rfl ?_
 repeat' first|refine .A ?_|refine .B ?_|refine .D ?_|refine .F ?_|refine .J ?_|refine .L l1 ?_|refine .Y ?_|fail
 rfl
def qtd (h:WInv H g c cb B w pb M ka kh tv hv)(hl:pb.length<=1000):∃v H',qfU En 0 Id.zdH [qkt B] H=some (v,H')/\Ext H H'/\Out H' H.length 4 v (css (qs6 w.ts)):=by
 have key:∃u H',qfU En 0 Id.zdH [qkt B] H=some (u,H')/\Ext H H'/\Out H' H.length 4 u (css (qs6 w.ts)):=by
  have l4:qau H none ⟨B,0+4,none⟩=some tv:=qiC h.row rfl
  have har:=h.arr
  have hln:=h.p.len
  have hB:B<H.length:=qiB h.row
  refine zzX h.arr.len fun ab hq=>zzX hq fun ac hae => ?_
  subst hae
  refine qiu rfl Fn.zdH rfl rfl ?_
  repeat' first|refine .A ?_|refine .B ?_|refine .D ?_|refine .F ?_|refine .G ?_|refine .L l4 ?_|refine .Y ?_|fail
  refine .loop (fun n f H1=>∃(i:Nat) (o:Value),n+i=pb.length/\f = [(3,o),(14,.slice ab pb.length ac),(15,N pb.length),(16,N i)]/\Ext H H1/\Out H1 H.length 4 o (css (qs6 (w.ts.take i)))) (n:=pb.length)
   ⟨0,_,rfl,rfl,.refl _,Out.nil _ _ _⟩ ?_
  rintro n f H1 ⟨i,o,hn,rfl,hx,ho⟩ next
  by_cases hi:i<pb.length
  ·have hgp:pb[i]? = some pb[i]:=zzG hi
   have hit:i<w.ts.length:=by omega
   have hgt:w.ts[i]? = some w.ts[i]:=zzG hit
   have hsu:=qs8 hit
   have hsl:=qs9 (w.ts.take i)
   rw [List.length_take]at hsl
   generalize pb[i]=b at hgp
   generalize w.ts[i]=t at hgt hsu
   have hA:=har.at hgp
   have ea:=hA.1
   injection ea with e1 _ e3
   subst e1 e3
   have A0:=hA.2 _ (hx.2 ka (har.lt fun q=>by rw [q]at hi;simp at hi))
   have hW1:=(h.ext hx).1
   refine zzX (hW1.p.th i t b hgt hgp) fun own hq=>zzX hq fun ob hq => ?_
   have hD:=qqB hq.1
   clear hq hW1
   have ew:hoW t=match thH t with|some p => [⟨-1,p.1,p.2,false⟩]|none => []:=rfl
   cases ho1:thH t with
   | none =>
     rw [ho1]at hD ew
     simp only at ew
     rw [ew,List.append_nil]at hsu
     rw [<-hsu]at ho
     simp only [qqx]at hD
     repeat' first|refine .A ?_|refine .B ?_|refine .C ?_|refine .D ?_|refine .F ?_|refine .G ?_|refine .H ?_|refine .t1 ?_|refine .n2 ?_|refine .L A0 ?_|refine .P hD ?_|refine .R hi ?_|refine .Y ?_|fail
     exact next (n-1) _ _ (by omega) ⟨i+1,o,by omega,rfl,hx,ho⟩
   | some p =>
     rw [ho1]at hD ew
     obtain⟨p1,p2⟩:=p
     simp only at ew
     rw [ew]at hsu
     simp only [qqx]at hD
     refine zzX (ho.waC (l0:=0) (bytes:=32) (e:=Obj.cs ⟨-1,p1,p2,false⟩) rfl (zzZ _) hx.1 (by rw [qkR];omega) (by omega)) fun o' hq=>zzX hq fun H3 hq => ?_
     have hap:=hq.1
     have ho3:=hq.2.1
     have hx3:=hq.2.2 H (zzR _) hx
     clear hq
     rw [qkQ,<-hsu]at ho3
     repeat' first|refine .A ?_|refine .B ?_|refine .C ?_|refine .F ?_|refine .G ?_|refine .H ?_|refine .t1 ?_|refine .n2 ?_|refine .L A0 ?_|refine .P hD ?_|refine .R hi ?_|refine .U hap ?_|refine .Y ?_|fail
     exact next (n-1) _ _ (by omega) ⟨i+1,o',by omega,rfl,hx3,ho3⟩
  ·rw [List.take_of_length_le (by omega)]at ho
   repeat' first|refine .A ?_|refine .B ?_|refine .D ?_|refine .I ?_|refine .J ?_|refine .f1 ?_|refine .F ?_|fail
   exact⟨hx,ho⟩
 exact key
def qte (h:WInv H g c cb B w pb M ka kh tv hv)(hl:pb.length<=4)(hr:Rng w.ws):∃H',qfU En 0 Id.zaq [qkt B] H=some (I (qsV w.ws c (mvW w.m) (qs4 w.m) (qs6 w.ts)),H')/\IsC H' cb w.ws w.bs/\Chg [cb.P] H H':=by
 refine zzX (qtd h (by omega)) fun v hq=>zzX hq fun H1 hq => ?_
 have hH:=hq.1
 have hx:=hq.2.1
 have hs:=hq.2.2
 clear hq
 refine zzX hs.sl.len fun vb hq=>zzX hq fun vk hve => ?_
 subst hve
 have hW1:=(h.ext hx).1
 have hCl:=fun lo=>qrg h lo
 have hCf:=fun lo=>qtc h lo
 have hMv:=fun lo=>qtb hW1 lo
 have hll:(qs6 w.ts).length<=10:=by
  have:=qs9 w.ts
  have:=h.p.len
  omega
 have hC1:=hW1.p.cells
 have hCk:=qs3 (lo:=0) hC1 (zzZ _) hr c ⟨.slice vb (css (qs6 w.ts)).length vk,mvW w.m,qs4 w.m⟩ hll (fun H' hk=>(hs.keep (H':=H') fun i h1 h2=>hk i h2 (by have:=h.p.cells.lts.1;omega)).sl)
 refine zzX hCk fun H2 hq => ?_
 have hC:=hq.1
 have hC2:=hq.2.1
 have hX2:=hq.2.2
 clear hq hCk
 unfold qsL at hC
 simp only at hC
 refine⟨H2, ?_,hC2,(Chg.waw hx).trans hX2⟩
 generalize qsV w.ws c (mvW w.m) (qs4 w.m) (qs6 w.ts)=r at hC|-
 generalize (css (qs6 w.ts)).length=vl at hC hH
 generalize mvW w.m=mv at hC hMv
 generalize qs4 w.m=u at hC hMv
 unfold qs5 at hMv
 refine qgw rfl Fn.zaq rfl rfl ?_
 repeat' first|refine .A ?_|refine .B ?_|refine .D ?_|refine .F ?_|refine .J ?_|refine .C ?_|(show EG _ _ (⟨_,.call _ _,_,_⟩::_) _ _ _ _ _ _;first|refine .P (hCl _) ?_|refine .P (hCf _) ?_|refine .P hH ?_|refine .P (hMv _) ?_|refine .P hC ?_)|refine .Y ?_|fail
 rfl
end
end Go.Proofs.YtlgnnpkdhbhdgaaGreat
