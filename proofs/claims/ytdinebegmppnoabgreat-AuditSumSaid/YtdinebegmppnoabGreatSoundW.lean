/- What a world holds, and moves; its audit. -/
import Derived.Test.YtdinebegmppnoabGreatWorldI
import Derived.Test.YtdinebegmppnoabGreatThreadQ3
import Derived.Test.YtdinebegmppnoabGreatSoundV
set_option linter.unusedVariables false
set_option linter.unusedSimpArgs false

namespace Go.Proofs.YtdinebegmppnoabGreat
open Go Go.Ir

def hoW (t:Th):List Obj:=match thH t with|some p => [⟨-1,p.1,p.2,false⟩]|none => []
def qq0 (ts:List Th):List Obj:=(ts.map hoW).flatten
theorem qq1 (t:Th):(hoW t).length≤1:=by unfold hoW;split<;>simp
theorem qq2 {ts:List Th}{i:Nat}(hi:i<ts.length):qq0 (ts.take (i+1))=qq0 (ts.take i)++hoW ts[i]:=by
 unfold qq0
 rw [List.take_succ_eq_append_getElem hi,List.map_append,List.flatten_append]
 simp
theorem qq3:∀ts:List Th,(qq0 ts).length≤ts.length
 | []=>Nat.le_refl _
 | t::r=>by
   have:=qq3 r
   have:=qq1 t
   unfold qq0 at *
   rw [List.map_cons,List.flatten_cons,List.length_append,List.length_cons]
   omega

section
variable {H:qab}{g:Nat→Nat}{c:Cfg}{cb:CB}{B:Nat}{w:Wst}{pb:List Nat}{M ka kh:Nat}{tv hv:Value}
theorem qq4 (h:WInv H g c cb B w pb M ka kh tv hv)(hl:pb.length≤1000):∃v H',qfV En 0 Id.zdq [qku B] H=some (v,H')∧Ext H H'∧Out H' H.length 4 v (css (qq0 w.ts)):=by
 have key:∃u H',qfV En 0 Id.zdq [qku B] H=some (u,H')∧Ext H H'∧Out H' H.length 4 u (css (qq0 w.ts)):=by
  have l4:qav H none ⟨B,0+4,none⟩=some tv:=qiD h.row rfl
  have har:=h.arr
  have hln:=h.p.len
  have hB:B<H.length:=qiC h.row
  refine Exists.elim h.arr.len fun ab hq=>Exists.elim hq fun ac hae => ?_
  subst hae
  refine qiv rfl Fn.zdq rfl rfl ?_
  repeat' first|refine .A ?_|refine .B ?_|refine .D ?_|refine .F ?_|refine .G ?_|refine .L l4 ?_|refine .Y ?_|fail
  refine .loop (fun n f H1=>∃(i:Nat) (o:Value),n+i=pb.length∧f = [(3,o),(14,.slice ab pb.length ac),(15,N pb.length),(16,N i)]∧Ext H H1∧Out H1 H.length 4 o (css (qq0 (w.ts.take i)))) (n:=pb.length)
   ⟨0,_,rfl,rfl,.refl _,Out.nil _ _ _⟩ ?_
  rintro n f H1 ⟨i,o,hn,rfl,hx,ho⟩ next
  by_cases hi:i<pb.length
  ·have hgp:pb[i]? = some pb[i]:=List.getElem?_eq_getElem hi
   have hit:i<w.ts.length:=by omega
   have hgt:w.ts[i]? = some w.ts[i]:=List.getElem?_eq_getElem hit
   have hsu:=qq2 hit
   have hsl:=qq3 (w.ts.take i)
   rw [List.length_take]at hsl
   generalize pb[i]=b at hgp
   generalize w.ts[i]=t at hgt hsu
   have hA:=har.at hgp
   have ea:=hA.1
   injection ea with e1 _ e3
   subst e1 e3
   have A0:=hA.2 _ (hx.2 ka (har.lt fun q=>by rw [q]at hi;simp at hi))
   have hW1:=(h.ext hx).1
   refine Exists.elim (hW1.p.th i t b hgt hgp) fun own hq=>Exists.elim hq fun ob hq => ?_
   have hD:=qp3 hq.1
   clear hq hW1
   have ew:hoW t=match thH t with|some p => [⟨-1,p.1,p.2,false⟩]|none => []:=rfl
   cases ho1:thH t with
   | none =>
     rw [ho1]at hD ew
     simp only at ew
     rw [ew,List.append_nil]at hsu
     rw [←hsu]at ho
     simp only [qpZ]at hD
     repeat' first|refine .A ?_|refine .B ?_|refine .C ?_|refine .D ?_|refine .F ?_|refine .G ?_|refine .H ?_|refine .t1 ?_|refine .n2 ?_|refine .L A0 ?_|refine .P hD ?_|refine .R hi ?_|refine .Y ?_|fail
     exact next (n-1) _ _ (by omega) ⟨i+1,o,by omega,rfl,hx,ho⟩
   | some p =>
     rw [ho1]at hD ew
     obtain⟨p1,p2⟩:=p
     simp only at ew
     rw [ew]at hsu
     simp only [qpZ]at hD
     refine Exists.elim (ho.push2 (l0:=0) (bytes:=32) (e:=Obj.cs ⟨-1,p1,p2,false⟩) rfl (Nat.zero_le _) hx.1 (by rw [qkS];omega) (by omega)) fun o' hq=>Exists.elim hq fun H3 hq => ?_
     have hap:=hq.1
     have ho3:=hq.2.1
     have hx3:=hq.2.2 H (Nat.le_refl _) hx
     clear hq
     rw [qkR,←hsu]at ho3
     repeat' first|refine .A ?_|refine .B ?_|refine .C ?_|refine .F ?_|refine .G ?_|refine .H ?_|refine .t1 ?_|refine .n2 ?_|refine .L A0 ?_|refine .P hD ?_|refine .R hi ?_|refine .U hap ?_|refine .Y ?_|fail
     exact next (n-1) _ _ (by omega) ⟨i+1,o',by omega,rfl,hx3,ho3⟩
  ·rw [List.take_of_length_le (by omega)]at ho
   repeat' first|refine .A ?_|refine .B ?_|refine .D ?_|refine .I ?_|refine .J ?_|refine .f1 ?_|refine .F ?_|fail
   exact⟨hx,ho⟩
 exact key
end
end Go.Proofs.YtdinebegmppnoabGreat

