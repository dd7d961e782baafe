/- Objects in their order: picked out of the plan seat's texts by a program. -/
import Derived.Test.YtdinebegmppnoabGreatWorldP
import Derived.Test.YtdinebegmppnoabGreatThreadP2
import Derived.Test.YtdinebegmppnoabGreatThreadP3
import Derived.Test.YtdinebegmppnoabGreatThreadP5
set_option linter.unusedVariables false
set_option linter.unusedSimpArgs false

namespace Go.Proofs.YtdinebegmppnoabGreat
open Go Go.Ir

section

variable {prims:List (Nat×qaZ)}

end

section

variable {prims:List (Nat×qaZ)}

end

section

variable {prims:List (Nat×qaZ)}

end

section

variable {lo:Nat}{h:qab}

end

structure Mv where
 s:Int
 f:Int
 t:Int
 n:Int

def Mv.cs (x:Mv):List Value := [.int .i64 x.s,.int .i64 x.f,.int .i64 x.t,.int .i64 x.n]

section

variable {h:qab}{v:Value}{l:List Obj}{g:Nat}{caps:List Value}{p:Obj→Bool}

end


section

variable {E:Env}{lo:Nat}{os:List IOper}{f:Fr}{h h':qab}{hs hs':List qab}{v:Value}{k:List Ir.Item}{rs:List qak}{Q:Value→qab→Prop}{d:Nat}{g:Option (Nat×Bool)}

variable {x y:Operand}{b n i esz:Nat}

end

section

variable {H:qab}{lo b:Nat}{l:List Obj}

end
end Go.Proofs.YtdinebegmppnoabGreat

/- Objects in their order: picked out of the plan seat's texts by a program. -/
namespace Go.Proofs.YtdinebegmppnoabGreat
open Go Go.Ir

section

variable {H:qab}{lo b:Nat}{l:List Obj}

end


end Go.Proofs.YtdinebegmppnoabGreat

/- The objects of cells, by the program. -/
namespace Go.Ir
open Go
theorem Out.keep {H H':qab}{lo n:Nat}{v:Value}{es:List (List Value)}(o:Out H lo n v es)(h:∀i,lo≤i→i<H.length→H'[i]? = H[i]?):Out H' lo n v es:=by
 refine⟨o.1, ?_⟩
 rcases o.2 with h1|⟨h0,b,h1,h2,h3⟩
 ·exact .inl h1
 ·exact .inr ⟨h0,b,h1,h2,by rw [h b h2 (List.getElem?_eq_some_iff.1 h3).1];exact h3⟩
theorem Out.push3 {H:qab}{l0 lo n bytes:Nat}{v:Value}{es:List (List Value)}{e:List Value}(o:Out H lo n v es)(he:e.length=n)(hl0:l0≤lo)(hlo:lo≤H.length)(hn:es.length+1≤2 ^ 30)(hb:bytes≤2 ^ 12) :
  ∃v' H',qaF l0 n bytes (H ++ [.row e false]) v (.slice (some ⟨H.length,0,none⟩) 1 1)=some (v',H')∧Out H' lo n v' (es ++ [e])∧lo≤H'.length∧∀i,i<lo→H'[i]? = H[i]? := by
 obtain⟨v',H',h1,h2,h3⟩:=o.push2 (bytes:=bytes) he hl0 hlo hn hb
 have hl:(H.take lo).length=lo:=by rw [List.length_take];omega
 have hx:=h3 (H.take lo) (by omega) ⟨by omega,fun i hi=>by rw [hl]at hi;rw [List.getElem?_take,if_pos hi]⟩
 refine⟨v',H',h1,h2,by have:=hx.1;omega,fun i hi => ?_⟩
 rw [hx.2 i (by omega),List.getElem?_take,if_pos hi]
end Go.Ir
namespace Go.Proofs.YtdinebegmppnoabGreat
open Go Go.Ir

structure Fd where
 x:Obj
 e:Ent
def Fd.cs (a:Fd):List Value:=a.x.cs++a.e.cs
def fcs (l:List Fd):List (List Value):=l.map Fd.cs
theorem qqM (l:List Fd):(fcs l).length=l.length:=by simp [fcs]
theorem qqN (l:List Fd)(a:Fd):fcs l ++ [a.cs]=fcs (l ++ [a]):=by simp [fcs]

def fdO (s n:Int):Option Ent→Option (List Fd)
 | none=>none
 | some e=>if e.lv=false then some []else if 1≤n∧n≤256 then some [⟨⟨s,e.o,qkr n,decide (0<e.p)⟩,e⟩]else none
def fdS (ws:List Int)(c:Cfg)(s:Int):Option (List Fd):=fdO s (qi6 ws (qjy c s 1)) (qkc (qi6 ws (qjy c s 0)))
def fdB (l:List Fd):Option (List Fd)→Option (List Fd)
 | none=>none
 | some y=>some (l++y)
def fdA (ws:List Int)(c:Cfg)(k:Nat):Option (List Fd)→Option (List Fd)
 | none=>none
 | some l=>fdB l (fdS ws c k)
def fdL (ws:List Int)(c:Cfg):Nat→Option (List Fd)
 | 0=>some []
 | k+1=>fdA ws c k (fdL ws c k)
theorem qqO {ws:List Int}{c:Cfg}{k:Nat}(h:fdL ws c k=none):∀j,fdL ws c (k+j)=none
 | 0=>h
 | j+1=>by rw [←Nat.add_assoc,fdL,qqO h j];rfl
theorem qqP {ws:List Int}{c:Cfg}{k m:Nat}(h:fdL ws c k=none)(hm:k≤m):fdL ws c m=none:=by
 have:=qqO h (m-k)
 rwa [show k+(m-k)=m by omega]at this
theorem qqQ {ws:List Int}{c:Cfg}{s:Int}{y:List Fd}(h:fdS ws c s=some y):y.length≤1:=by
 unfold fdS at h
 cases hu:qkc (qi6 ws (qjy c s 0))with
 | none=>rw [hu]at h;cases h
 | some e =>
   rw [hu]at h
   simp only [fdO]at h
   split at h
   ·cases h;simp
   ·split at h
    ·cases h;simp
    ·cases h
theorem qqR {ws:List Int}{c:Cfg} : ∀{k:Nat} {l:List Fd},fdL ws c k=some l→l.length≤k
 | 0,l,h=>by cases h;simp
 | k+1,l,h=>by
   rw [fdL]at h
   cases hk:fdL ws c k with
   | none=>rw [hk]at h;cases h
   | some l' =>
     rw [hk]at h
     simp only [fdA]at h
     cases hs:fdS ws c k with
     | none=>rw [hs]at h;cases h
     | some y =>
       rw [hs]at h
       simp only [fdB]at h
       cases h
       have:=qqR hk
       have:=qqQ hs
       simp;omega

def fdE (o:Option (List Fd)):Int:=if o.isSome then 0 else 2
def qqS (ws:List Int)(c:Cfg):Prop:=c.may∧qi3 c≤ws.length
instance (ws:List Int) (c:Cfg):Decidable (qqS ws c):=by unfold qqS;infer_instance
def qqT (ws:List Int)(c:Cfg):List Fd:=if qqS ws c then(fdL ws c c.S.toNat).getD []else []
def qqU (ws:List Int)(c:Cfg):Int:=if qqS ws c then fdE (fdL ws c c.S.toNat)else 1

theorem IsC.keep {H H':qab}{c:CB}{ws bs:List Int}(hC:IsC H c ws bs){lo:Nat}(h:∀i,i<lo→H'[i]? = H[i]?)(hb:c.P<lo∧c.W<lo∧c.Y<lo):IsC H' c ws bs:=by
 obtain⟨st,hp⟩:=hC.p
 exact⟨⟨st,(h _ hb.1).trans hp⟩,(h _ hb.2.1).trans hC.w,(h _ hb.2.2).trans hC.y,hC.pw,hC.py,hC.wy,hC.byte⟩
theorem Chg.keep {S:List Nat}{H H1 H2:qab}(a:Chg S H H1){lo:Nat}(hl:H.length≤lo)(h2:lo≤H2.length)(h:∀i,i<lo→H2[i]? = H1[i]?):Chg S H H2 :=
 ⟨by omega,fun j hj hs=>by rw [h j (by omega)];exact a.same j hj hs⟩
theorem IsC.lts {H:qab}{c:CB}{ws bs:List Int}(hC:IsC H c ws bs):c.P<H.length∧c.W<H.length∧c.Y<H.length:=by
 obtain⟨st,hp⟩:=hC.p
 exact⟨qiC hp,qiC hC.w,qiC hC.y⟩

section
variable {lo:Nat}{H:qab}{cb:CB}{ws bs:List Int}
set_option maxHeartbeats 4000000 in
theorem qqV (hC:IsC H cb ws bs)(hlo:lo≤cb.P)(c:Cfg) :
  ∃v H',qfV En lo Id.zar [ifC cb,.agg c.cs.toArray] H=some (.tuple #[v,I (qqU ws c)],H')∧IsC H' cb ws bs∧Chg [cb.P] H H'∧Out H' H.length 10 v (fcs (qqT ws c)):=by
 have key:∃u H',qfV En lo Id.zar [ifC cb,.agg c.cs.toArray] H=some (u,H')∧∃v,u = .tuple #[v,I (qqU ws c)]∧IsC H' cb ws bs∧Chg [cb.P] H H'∧Out H' H.length 10 v (fcs (qqT ws c)):=by
  refine qiv rfl Fn.zar rfl rfl ?_
  have hCW:=fun lo=>qjm (lo:=lo) hC
  have hlt:=hC.lts
  by_cases hm:c.may
  ·have hO:=fun lo=>qju lo H hm
   have hLW:=fun lo=>qjv lo H hm
   have hm':=hm
   unfold Cfg.may at hm'
   by_cases hw:qi3 c≤ws.length
   ·have hp:qqS ws c:=⟨hm,hw⟩
    have eL:qqT ws c=(fdL ws c c.S.toNat).getD []:=if_pos hp
    have eE:qqU ws c=fdE (fdL ws c c.S.toNat):=if_pos hp
    rw [eL,eE]
    clear eL eE
    repeat' first|refine .A ?_|refine .B ?_|refine .D ?_|refine .F ?_|refine .G ?_|refine .C ?_|refine .f1 ?_|refine .f6 ?_|refine .P (hO _) ?_|refine .P (hLW _) ?_|refine .W (hCW _) ?_|refine .Y ?_|fail
    refine .loop (fun n f H1=>∃(i:Nat) (l:List Fd) (o:Value),(n:Int)+i=c.S∧fdL ws c i=some l∧f = [(0,ifC cb),(6,lay c.T c.S),(8,o),(33,I c.S),(34,N i)]∧IsC H1 cb ws bs∧Chg [cb.P] H H1∧Out H1 H.length 10 o (fcs l)) (n:=c.S.toNat)
     ⟨0,[],_,by omega,rfl,rfl,hC,.refl _ _,Out.nil _ _ _⟩ ?_
    rintro n f H1 ⟨i,l,o,hn,hl,rfl,hC1,hx,ho⟩ next
    by_cases hi:(i:Int)<c.S
    ·have hLE:=fun lo=>qjB lo H1 hm (i:Nat)
     have hll:=qqR hl
     refine Exists.elim (qjg hC1 hlo (qjy c i 0)) fun H2 hq => ?_
     have hL1:=hq.1
     have hC2:=hq.2.1
     have hx2:=hx.trans (.of hq.2.2)
     have ho2:=ho.keep fun j h1 h2=>hq.2.2.same j (by simp;omega)
     clear hq
     have hU:=fun lo=>qko lo H2 (qi6 ws (qjy c i 0))
     have hLS:=fun lo=>qjC lo H2 hm (i:Nat)
     refine Exists.elim (qjg hC2 hlo (qjy c i 1)) fun H3 hq => ?_
     have hL2:=hq.1
     have hC3:=hq.2.1
     have hx3:=hx2.trans (.of hq.2.2)
     have ho3:=ho2.keep fun j h1 h2=>hq.2.2.same j (by simp;omega)
     clear hq
     have hR:=fun lo=>qkt lo H3 (qi6 ws (qjy c i 1))
     have hS:fdL ws c (i+1)=fdB l (fdO i (qi6 ws (qjy c i 1)) (qkc (qi6 ws (qjy c i 0)))):=by rw [fdL,hl];rfl
     clear hC1 hC2 ho ho2 hx hx2
     generalize qi6 ws (qjy c i 0)=w0 at hL1 hU hS
     generalize qi6 ws (qjy c i 1)=w1 at hL2 hR hS
     generalize qkc w0=u at hU hS
     cases u with
     | none =>
       simp only [fdO,fdB]at hS
       have hN:=qqP hS (show i+1≤c.S.toNat by omega)
       rw [hN]
       unfold unV at hU
       unfold qks at hR
       by_cases hr:1≤w1∧w1≤256
       ·rw [if_pos hr]at hR
        repeat' first|refine .A ?_|refine .B ?_|refine .C ?_|refine .F ?_|refine .G ?_|refine .J ?_|refine .t1 ?_|refine .t6 ?_|refine .P (hLE _) ?_|refine .P (hU _) ?_|refine .P (hLS _) ?_|refine .P (hR _) ?_|refine .W hL1 ?_|refine .W hL2 ?_|refine .D ?_|refine .Y ?_|fail
        exact⟨_,rfl,hC3,hx3,Out.nil _ _ _⟩
       ·rw [if_neg hr]at hR
        repeat' first|refine .A ?_|refine .B ?_|refine .C ?_|refine .F ?_|refine .G ?_|refine .J ?_|refine .t1 ?_|refine .t6 ?_|refine .P (hLE _) ?_|refine .P (hU _) ?_|refine .P (hLS _) ?_|refine .P (hR _) ?_|refine .W hL1 ?_|refine .W hL2 ?_|refine .D ?_|refine .Y ?_|fail
        exact⟨_,rfl,hC3,hx3,Out.nil _ _ _⟩
     | some e =>
       obtain⟨eo,eg,ep,eu,lk,lv⟩:=e
       unfold unV at hU
       simp only [Ent.cs]at hU
       unfold qks at hR
       cases lv with
       | false =>
         simp only [fdO,if_true,fdB]at hS
         by_cases hr:1≤w1∧w1≤256
         ·rw [if_pos hr]at hR
          repeat' first|refine .A ?_|refine .B ?_|refine .C ?_|refine .D ?_|refine .F ?_|refine .G ?_|refine .H ?_|refine .t1 ?_|refine .f6 ?_|refine .n2 ?_|refine .P (hLE _) ?_|refine .P (hU _) ?_|refine .P (hLS _) ?_|refine .P (hR _) ?_|refine .W hL1 ?_|refine .W hL2 ?_|refine .Y ?_|fail
          exact next (n-1) _ _ (by omega) ⟨i+1,l ++ [],_,by omega,hS,rfl,hC3,hx3,by rw [List.append_nil];exact ho3⟩
         ·rw [if_neg hr]at hR
          repeat' first|refine .A ?_|refine .B ?_|refine .C ?_|refine .D ?_|refine .F ?_|refine .G ?_|refine .H ?_|refine .t1 ?_|refine .f6 ?_|refine .n2 ?_|refine .P (hLE _) ?_|refine .P (hU _) ?_|refine .P (hLS _) ?_|refine .P (hR _) ?_|refine .W hL1 ?_|refine .W hL2 ?_|refine .Y ?_|fail
          exact next (n-1) _ _ (by omega) ⟨i+1,l ++ [],_,by omega,hS,rfl,hC3,hx3,by rw [List.append_nil];exact ho3⟩
       | true =>
         by_cases hr:1≤w1∧w1≤256
         ·rw [if_pos hr]at hR
          simp only [fdO,if_pos hr,fdB,Bool.true_eq_false,if_false]at hS
          refine Exists.elim (ho3.push3 (l0:=lo) (bytes:=72) (e:=Fd.cs ⟨⟨i,eo,qkr w1,decide (0<ep)⟩,⟨eo,eg,ep,eu,lk,true⟩⟩) rfl (by omega) hx3.len (by rw [qqM];omega) (by omega)) fun o' hq=>Exists.elim hq fun H4 hq => ?_
          have hap:=hq.1
          have ho4:=hq.2.1
          have hC4:=hC3.keep hq.2.2.2 hlt
          have hx4:=hx3.keep (Nat.le_refl _) hq.2.2.1 hq.2.2.2
          clear hq
          rw [qqN]at ho4
          by_cases hp0:0<ep
          ·rw [show Fd.cs ⟨⟨i,eo,qkr w1,decide (0<ep)⟩,⟨eo,eg,ep,eu,lk,true⟩⟩=Fd.cs ⟨⟨i,eo,qkr w1,true⟩,⟨eo,eg,ep,eu,lk,true⟩⟩ by rw [decide_eq_true hp0]]at hap
           repeat' first|refine .A ?_|refine .B ?_|refine .C ?_|refine .D ?_|refine .F ?_|refine .G ?_|refine .H ?_|refine .t1 ?_|refine .t3 ?_|refine .f6 ?_|refine .n2 ?_|refine .P (hLE _) ?_|refine .P (hU _) ?_|refine .P (hLS _) ?_|refine .P (hR _) ?_|refine .U hap ?_|refine .W hL1 ?_|refine .W hL2 ?_|refine .Y ?_|fail
           exact next (n-1) _ _ (by omega) ⟨i+1,_,o',by omega,hS,rfl,hC4,hx4,ho4⟩
          ·rw [show Fd.cs ⟨⟨i,eo,qkr w1,decide (0<ep)⟩,⟨eo,eg,ep,eu,lk,true⟩⟩=Fd.cs ⟨⟨i,eo,qkr w1,false⟩,⟨eo,eg,ep,eu,lk,true⟩⟩ by rw [decide_eq_false hp0]]at hap
           repeat' first|refine .A ?_|refine .B ?_|refine .C ?_|refine .D ?_|refine .F ?_|refine .G ?_|refine .H ?_|refine .t1 ?_|refine .f3 ?_|refine .f6 ?_|refine .n2 ?_|refine .P (hLE _) ?_|refine .P (hU _) ?_|refine .P (hLS _) ?_|refine .P (hR _) ?_|refine .U hap ?_|refine .W hL1 ?_|refine .W hL2 ?_|refine .Y ?_|fail
           exact next (n-1) _ _ (by omega) ⟨i+1,_,o',by omega,hS,rfl,hC4,hx4,ho4⟩
         ·rw [if_neg hr]at hR
          simp only [fdO,if_neg hr,fdB,Bool.true_eq_false,if_false]at hS
          have hN:=qqP hS (show i+1≤c.S.toNat by omega)
          rw [hN]
          repeat' first|refine .A ?_|refine .B ?_|refine .C ?_|refine .F ?_|refine .G ?_|refine .J ?_|refine .t1 ?_|refine .t6 ?_|refine .f6 ?_|refine .P (hLE _) ?_|refine .P (hU _) ?_|refine .P (hLS _) ?_|refine .P (hR _) ?_|refine .W hL1 ?_|refine .W hL2 ?_|refine .Y ?_|fail
          exact⟨_,rfl,hC3,hx3,Out.nil _ _ _⟩
    ·have hi2:i=c.S.toNat:=by omega
     rw [hi2]at hl
     rw [hl]
     repeat' first|refine .A ?_|refine .B ?_|refine .D ?_|refine .I ?_|refine .J ?_|refine .f1 ?_|refine .F ?_|fail
     exact⟨_,rfl,hC1,hx,ho⟩
   ·have hp:¬qqS ws c:=fun h=>hw h.2
    have eL:qqT ws c = []:=if_neg hp
    have eE:qqU ws c=1:=if_neg hp
    rw [eL,eE]
    repeat' first|refine .A ?_|refine .B ?_|refine .C ?_|refine .J ?_|refine .t1 ?_|refine .f6 ?_|refine .P (hO _) ?_|refine .P (hLW _) ?_|refine .W (hCW _) ?_|refine .F ?_|refine .Y ?_|fail
    exact⟨_,rfl,hC,.refl _ _,Out.nil _ _ _⟩
  ·have hp:¬qqS ws c:=fun h=>hm h.1
   have eL:qqT ws c = []:=if_neg hp
   have eE:qqU ws c=1:=if_neg hp
   rw [eL,eE]
   have hO:=fun lo=>qi1 lo H c
   unfold qi0 at hO
   rw [if_neg hm,if_neg hm]at hO
   repeat' first|refine .A ?_|refine .B ?_|refine .C ?_|refine .J ?_|refine .t6 ?_|refine .P (hO _) ?_|refine .D ?_|refine .F ?_|refine .Y ?_|fail
   exact⟨_,rfl,hC,.refl _ _,Out.nil _ _ _⟩
 obtain⟨u,H',h1,v,rfl,h2⟩:=key
 exact⟨v,H',h1,h2⟩
end
end Go.Proofs.YtdinebegmppnoabGreat

/- The free slots, by the program. -/
namespace Go.Proofs.YtdinebegmppnoabGreat
open Go Go.Ir

section
variable {lo:Nat}{H:qab}{cb:CB}{ws bs:List Int}{c:Cfg}
end
end Go.Proofs.YtdinebegmppnoabGreat

/- Objects held against each other, by the document. -/
namespace Go.Proofs.YtdinebegmppnoabGreat
open Go Go.Ir

end Go.Proofs.YtdinebegmppnoabGreat

/- The objects of cells, and their bytes, as the program tells them. -/
namespace Go.Proofs.YtdinebegmppnoabGreat
open Go Go.Ir

theorem qqW {h:qab}{v:Value}{l:List Fd}(hv:Sl h 10 v (fcs l)){i:Nat}{a:Fd}(hi:l[i]? = some a) :
  ∃ad cap,v = .slice (some ad) l.length cap∧qav h (some 10) ⟨ad.block,ad.off+i*10,none⟩=some (.agg a.cs.toArray):=by
 obtain⟨ad,cap,h1,h2,h3⟩:=hv.at (show(fcs l)[i]? = some a.cs by simp [fcs,hi])
 rw [qqM]at h1
 exact⟨ad,cap,h1,h3⟩
theorem Ext.keep {H H':qab}(e:Ext H H'):∀i,i<H.length→H'[i]? = H[i]? := e.2
theorem Chg.ext {S:List Nat}{H H1 H2:qab}(a:Chg S H H1)(e:Ext H1 H2):Chg S H H2 :=
 ⟨Nat.le_trans a.len e.1,fun j hj hs=>(e.2 j (Nat.lt_of_lt_of_le hj a.len)).trans (a.same j hj hs)⟩
theorem IsC.ext {H H':qab}{c:CB}{ws bs:List Int}(hC:IsC H c ws bs)(e:Ext H H'):IsC H' c ws bs:=hC.keep e.2 hC.lts

theorem qqX (ws:List Int)(c:Cfg):(qqT ws c).length≤64:=by
 unfold qqT
 split
 ·rename_i hp
  have hm:=hp.1
  unfold Cfg.may at hm
  cases hl:fdL ws c c.S.toNat with
  | none=>simp
  | some l=>have:=qqR hl;simp;omega
 ·simp

def qqY (ws:List Int)(c:Cfg):List Obj:=(qqT ws c).map Fd.x

section
variable {lo:Nat}{H:qab}{cb:CB}{ws bs:List Int}
set_option maxHeartbeats 4000000 in
theorem qqZ (hC:IsC H cb ws bs)(hlo:lo≤cb.P)(c:Cfg) :
  ∃v H',qfV En lo Id.zan [ifC cb,.agg c.cs.toArray] H=some (.tuple #[v,I (qqU ws c)],H')∧IsC H' cb ws bs∧Chg [cb.P] H H'∧Out H' H.length 4 v (css (qqY ws c)):=by
 have key:∃u H',qfV En lo Id.zan [ifC cb,.agg c.cs.toArray] H=some (u,H')∧∃v,u = .tuple #[v,I (qqU ws c)]∧IsC H' cb ws bs∧Chg [cb.P] H H'∧Out H' H.length 4 v (css (qqY ws c)):=by
  refine qiv rfl Fn.zan rfl rfl ?_
  have hlt:=hC.lts
  have hll:=qqX ws c
  refine Exists.elim (qqV hC hlo c) fun v hq=>Exists.elim hq fun H1 hq => ?_
  have hA:=hq.1
  have hC1:=hq.2.1
  have hx1:=hq.2.2.1
  have hs1:=hq.2.2.2.sl
  clear hq
  unfold qqY
  generalize qqU ws c=ec at hA⊢
  generalize qqT ws c=l at hs1 hll⊢
  refine Exists.elim hs1.len fun base hq=>Exists.elim hq fun cap hve => ?_
  rw [qqM]at hve
  subst hve
  repeat' first|refine .A ?_|refine .B ?_|refine .G ?_|refine .P hA ?_|refine .F ?_|refine .Y ?_|fail
  refine .loop (fun n f H2=>∃(i:Nat) (o:Value),n+i=l.length∧f = [(7,I ec),(8,o),(17,.slice base l.length cap),(18,N l.length),(19,N i)]∧Ext H1 H2∧Out H2 H1.length 4 o (css ((l.take i).map Fd.x))) (n:=l.length)
   ⟨0,_,rfl,rfl,.refl _,Out.nil _ _ _⟩ ?_
  rintro n f H2 ⟨i,o,hn,rfl,hx2,ho⟩ next
  by_cases hi:i<l.length
  ·have hg:l[i]? = some l[i]:=List.getElem?_eq_getElem hi
   have htk:(l.take (i+1)).map Fd.x=(l.take i).map Fd.x ++ [l[i].x]:=by rw [List.take_succ_eq_append_getElem hi,List.map_append];rfl
   refine Exists.elim (qqW (hs1.ext hx2) hg) fun ad hq=>Exists.elim hq fun cap' hq => ?_
   have hva:=hq.1
   have hld:=hq.2
   clear hq
   injection hva with e1 e2 e3
   subst e1
   generalize l[i]=a at hg htk hld
   obtain⟨⟨s,o1,n1,fx⟩,⟨eo,eg,ep,eu,lk,lv⟩⟩:=a
   simp only [Fd.cs,Obj.cs,Ent.cs,List.cons_append,List.nil_append]at hld
   refine Exists.elim (ho.push2 (l0:=lo) (bytes:=32) (e:=Obj.cs ⟨s,o1,n1,fx⟩) rfl (by have:=hx1.len;omega) hx2.1 (by rw [qkS];simp;omega) (by omega)) fun o' hq=>Exists.elim hq fun H3 hq => ?_
   have hap:=hq.1
   have ho3:=hq.2.1
   have hx3:=hq.2.2 H1 (Nat.le_refl _) hx2
   clear hq
   rw [qkR,←htk]at ho3
   repeat' first|refine .A ?_|refine .B ?_|refine .C ?_|refine .F ?_|refine .G ?_|refine .H ?_|refine .t1 ?_|refine .n2 ?_|refine .L hld ?_|refine .R hi ?_|refine .U hap ?_|refine .Y ?_|fail
   exact next (n-1) _ _ (by omega) ⟨i+1,o',by omega,rfl,hx3,ho3⟩
  ·rw [List.take_of_length_le (by omega)]at ho
   repeat' first|refine .A ?_|refine .B ?_|refine .D ?_|refine .I ?_|refine .J ?_|refine .f1 ?_|refine .F ?_|fail
   exact⟨_,rfl,hC1.ext hx2,hx1.ext hx2,ho.mono' hx1.len⟩
 obtain⟨u,H',h1,v,rfl,h2⟩:=key
 exact⟨v,H',h1,h2⟩

end
end Go.Proofs.YtdinebegmppnoabGreat

/- Whether cells are sound, by the program. -/
namespace Go.Proofs.YtdinebegmppnoabGreat
open Go Go.Ir

structure Sta where
 hv:Value
 v:Mv
 is:Bool
section
variable {lo:Nat}{H:qab}
variable {cb:CB}{ws bs:List Int}{c:Cfg}
end
end Go.Proofs.YtdinebegmppnoabGreat

