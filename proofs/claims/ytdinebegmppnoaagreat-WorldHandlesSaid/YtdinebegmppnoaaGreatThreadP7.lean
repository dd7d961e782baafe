/- A pin set, or taken, step by step: by the program. -/
import Derived.Test.YtdinebegmppnoaaGreatThreadP6
import Derived.Test.YtdinebegmppnoaaGreatThreadP3
import Derived.Test.YtdinebegmppnoaaGreatThreadP5
import Derived.Test.YtdinebegmppnoaaGreatThreadP4
set_option linter.unusedVariables false
set_option linter.unusedSimpArgs false

namespace Go.Proofs.YtdinebegmppnoaaGreat
open Go Go.Ir

structure Pn where
 h:Int
 un:Bool
 nx:Int
 word:Int
 to:Int
def qoA (un:Bool):Value := .func (.func (if un then Id.zbb else Id.zaY)) #[] #[]
def qoB (un:Bool):Ent→Int×Ent:=if un then qmi else qmh
def qoC (c:Cfg)(s:Pn):List Value :=
 [I c.T,I c.S,I (ofR s.h c.S).1,I (ofR s.h c.S).2.1,.bool (decide ((ofR s.h c.S).2.2≠0)),qoA s.un,.bool (!s.un),I s.nx,I s.word,I s.to]
def qoD (s:Pn)(r:Int×Int):Pn×Option (Int×Int):=if r.2≠0 then({s with nx:=0},some (r.2,0))else({s with to:=r.1,nx:=2},none)
def qoE (s:Pn):Option Ent→Pn×Option (Int×Int)
 | none=>({s with nx:=0},some (4,0))
 | some e=>if e.lk=true∧s.un=false then(s,none)else qoD s (chE s.word (qoB s.un))
def pnG (c:Cfg)(s:Pn):Int:=qjl c (ofR s.h c.S).1 0
def pnS (c:Cfg)(s:Pn)(ws:List Int):Pn×List Int×Option (Int×Int) :=
 if s.nx=0 then(s,ws,some (1,0))
 else if s.nx=1 then
  if(ofR s.h c.S).2.2≠0 then({s with nx:=0},ws,some (4,0))
  else((qoE {s with word:=qiT ws (pnG c s)} (qod ws c (ofR s.h c.S).1 (ofR s.h c.S).2.1)).1,ws,(qoE {s with word:=qiT ws (pnG c s)} (qod ws c (ofR s.h c.S).1 (ofR s.h c.S).2.1)).2)
 else if qi5 ws (pnG c s) s.word then({s with nx:=0},qiU ws (pnG c s) s.to,some (0,0))else({s with nx:=1},ws,none)

section
variable {lo:Nat}{H:qab}{b:Nat}{c:Cfg}{s:Pn}{cb:CB}{ws bs:List Int}
theorem qoF (lo:Nat)(h:qab)(un:Bool)(w:Int):qfV En lo (if un then Id.zbb else Id.zaY) [I w] h=some (qmk (chE w (qoB un)),h):=by
 cases un with
 | true=>exact qmr lo h w
 | false=>exact qmq lo h w
theorem qoG (d:Did H H b (qoC c s) cb ws bs)(hlo:lo≤b)(k:Int):qfV En lo Id.zcg [qkh b,I k] H=some (qob (some (k,0)),H.set b (.row (qoC c {s with nx:=0}) false)):=by
 refine qgx rfl Fn.zcg rfl rfl ?_
 repeat' first|refine .A ?_|refine .B ?_|refine .J ?_|refine .S (qis d.row hlo (Nat.le_of_ble_eq_true rfl) rfl) ?_|refine .F ?_|refine .Y ?_|fail
 rfl
set_option maxHeartbeats 3200000 in
theorem qoH (d:Did H H b (qoC c s) cb ws bs)(hm:c.may)(hlo:lo≤b)(hlc:lo≤cb.P)(hb:b≠cb.P∧b≠cb.W∧b≠cb.Y)(h1:s.nx=1) :
  ∃H',qfV En lo Id.zch [qkh b,ifC cb] H=some (qob (pnS c s ws).2.2,H')∧Did H H' b (qoC c (pnS c s ws).1) cb ws bs:=by
 have l4:qav H none ⟨b,0+4,none⟩=some (.bool (decide ((ofR s.h c.S).2.2≠0))):=qiq d.row rfl
 unfold pnS
 rw [if_neg (by omega),if_pos h1]
 by_cases hst:(ofR s.h c.S).2.2≠0
 ·rw [if_pos hst]
  rw [decide_eq_true hst]at l4
  have hE:=fun lo hl k=>qoG (lo:=lo) d hl k
  refine⟨_, ?_,d.set hb⟩
  refine qgx rfl Fn.zch rfl rfl ?_
  repeat' first|refine .A ?_|refine .B ?_|refine .C ?_|refine .J ?_|refine .L l4 ?_|refine .P (hE _ hlo _) ?_|refine .F ?_|refine .Y ?_|fail
  rfl
 rw [if_neg hst]
 rw [decide_eq_false hst]at l4
 have hEn:=fun lo=>qjo lo H hm (ofR s.h c.S).1
 obtain⟨H1,hL,hC1,ho1⟩:=qi3 d.cells hlc (pnG c s)
 have d1:=d.on hC1 ho1 (by simp) hb
 unfold qod
 rw [show qjl c (ofR s.h c.S).1 0=pnG c s from rfl]
 unfold pnG at hL⊢
 generalize qiT ws (qjl c (ofR s.h c.S).1 0)=w at hL⊢
 have d2:=d1.set (row':=qoC c {s with word:=w}) hb
 have s2:stN lo H1 ⟨b,0+8,none⟩ (qaf (I w))=some (H1.set b (.row (qoC c {s with word:=w}) false)):=qis d1.row hlo (Nat.le_of_ble_eq_true rfl) rfl
 generalize H1.set b (.row (qoC c {s with word:=w}) false)=H2 at d2 s2
 have k8:qav H2 none ⟨b,0+8,none⟩=some (I w):=qiq d2.row rfl
 have k3:qav H2 none ⟨b,0+3,none⟩=some (I (ofR s.h c.S).2.1):=qiq d2.row rfl
 have k5:qav H2 none ⟨b,0+5,none⟩=some (qoA s.un):=qiq d2.row rfl
 have k6:qav H2 none ⟨b,0+6,none⟩=some (.bool (!s.un)):=qiq d2.row rfl
 unfold qoA at k5
 have hU:=fun lo=>qkb lo H2 w
 have hT:=fun lo=>qoF lo H2 s.un w
 have hE:=fun lo hl k=>qoG (lo:=lo) (Did.of d2.row d2.cells) hl k
 cases hu:qjZ w with
 | none =>
   rw [hu]at hU
   simp only [unV,Ent.zero,Ent.cs]at hU
   refine⟨_, ?_,d2.set hb⟩
   refine qgx rfl Fn.zch rfl rfl ?_
   repeat' first|refine .A ?_|refine .B ?_|refine .C ?_|refine .D ?_|refine .F ?_|refine .G ?_|refine .J ?_|refine .t6 ?_|refine .L l4 ?_|refine .L k8 ?_|refine .L (qiq d.row rfl) ?_|refine .L (qir d.row (Nat.le_of_ble_eq_true rfl) rfl) ?_|refine .P (hEn _) ?_|refine .P (hU _) ?_|refine .P (hE _ hlo _) ?_|refine .W hL ?_|refine .S s2 ?_|refine .Y ?_|fail
   rfl
 | some e =>
   rw [hu]at hU
   obtain⟨o,g,p,u,lk,lv⟩:=e
   simp only [unV,Ent.cs]at hU
   by_cases hf:lv=true∧g=(ofR s.h c.S).2.1
   ·have e1:qoc (ofR s.h c.S).2.1 (some ⟨o,g,p,u,lk,lv⟩)=some ⟨o,g,p,u,lk,lv⟩:=if_pos hf
    rw [e1]
    simp only [qoE]
    have hlv:=hf.1
    have hg:=hf.2
    subst hlv
    by_cases hlk:lk=true∧s.un=false
    ·rw [if_pos hlk]
     have h2:=hlk.1
     subst h2
     rw [hlk.2]at k6
     refine⟨_, ?_,d2⟩
     refine qgx rfl Fn.zch rfl rfl ?_
     repeat' first|refine .A ?_|refine .B ?_|refine .C ?_|refine .D ?_|refine .F ?_|refine .G ?_|refine .J ?_|refine .f6 ?_|(show EG _ _ (⟨_,.load _ _,_,_⟩::_) _ _ _ _ _ _;first|refine .L l4 ?_|refine .L k8 ?_|refine .L k3 ?_|refine .L k6 ?_|refine .L (qiq d.row rfl) ?_|refine .L (qir d.row (Nat.le_of_ble_eq_true rfl) rfl) ?_)|refine .P (hEn _) ?_|refine .P (hU _) ?_|refine .W hL ?_|refine .S s2 ?_|refine .Y ?_|fail
     rfl
    ·rw [if_neg hlk]
     unfold qmk at hT
     generalize hr:chE w (qoB s.un)=r at hT⊢
     obtain⟨to,f⟩:=r
     simp only at hT
     have hlk2:lk=false∨(!s.un)=false:=by
      cases lk with
      | false=>exact .inl rfl
      | true=>cases hun:s.un with
        | true=>exact .inr rfl
        | false=>exact absurd ⟨rfl,hun⟩ hlk
     by_cases hf0:f≠0
     ·have e2:qoD {s with word:=w} (to,f)=({s with word:=w,nx:=0},some (f,0)):=if_pos hf0
      rw [e2]
      refine⟨_, ?_,d2.set hb⟩
      refine qgx rfl Fn.zch rfl rfl ?_
      rcases hlk2 with h2|h2
      ·subst h2
       repeat' first|refine .A ?_|refine .B ?_|refine .C ?_|refine .D ?_|refine .F ?_|refine .G ?_|refine .H ?_|refine .J ?_|refine .t6 ?_|refine .f6 ?_|(show EG _ _ (⟨_,.load _ _,_,_⟩::_) _ _ _ _ _ _;first|refine .L l4 ?_|refine .L k8 ?_|refine .L k3 ?_|refine .L k5 ?_|refine .L (qiq d.row rfl) ?_|refine .L (qir d.row (Nat.le_of_ble_eq_true rfl) rfl) ?_)|refine .P (hEn _) ?_|refine .P (hU _) ?_|refine .P (hE _ hlo _) ?_|refine .callv rfl rfl rfl rfl (hT _) ?_|refine .W hL ?_|refine .S s2 ?_|refine .Y ?_|fail
       rfl
      ·rw [h2]at k6
       cases lk
       all_goals
        repeat' first|refine .A ?_|refine .B ?_|refine .C ?_|refine .D ?_|refine .F ?_|refine .G ?_|refine .H ?_|refine .J ?_|refine .t6 ?_|refine .f6 ?_|(show EG _ _ (⟨_,.load _ _,_,_⟩::_) _ _ _ _ _ _;first|refine .L l4 ?_|refine .L k8 ?_|refine .L k3 ?_|refine .L k5 ?_|refine .L k6 ?_|refine .L (qiq d.row rfl) ?_|refine .L (qir d.row (Nat.le_of_ble_eq_true rfl) rfl) ?_)|refine .P (hEn _) ?_|refine .P (hU _) ?_|refine .P (hE _ hlo _) ?_|refine .callv rfl rfl rfl rfl (hT _) ?_|refine .W hL ?_|refine .S s2 ?_|refine .Y ?_|fail
        rfl
     ·have e2:qoD {s with word:=w} (to,f)=({s with word:=w,to:=to,nx:=2},none):=if_neg hf0
      rw [e2]
      have e3:f=0:=Decidable.not_not.1 hf0
      refine⟨_, ?_,d2.set hb⟩
      refine qgx rfl Fn.zch rfl rfl ?_
      rcases hlk2 with h2|h2
      ·subst h2
       repeat' first|refine .A ?_|refine .B ?_|refine .D ?_|refine .F ?_|refine .G ?_|refine .H ?_|refine .J ?_|refine .C ?_|refine .f6 ?_|(show EG _ _ (⟨_,.load _ _,_,_⟩::_) _ _ _ _ _ _;first|refine .L l4 ?_|refine .L k8 ?_|refine .L k3 ?_|refine .L k5 ?_|refine .L (qiq d.row rfl) ?_|refine .L (qir d.row (Nat.le_of_ble_eq_true rfl) rfl) ?_)|refine .P (hEn _) ?_|refine .P (hU _) ?_|refine .callv rfl rfl rfl rfl (hT _) ?_|refine .W hL ?_|refine .S (qis d2.row hlo (Nat.le_of_ble_eq_true rfl) rfl) ?_|refine .S (qoo (qip d2.row) hlo (Nat.le_of_ble_eq_true rfl) rfl) ?_|refine .S s2 ?_|refine .Y ?_|fail
       rfl
      ·rw [h2]at k6
       cases lk
       all_goals
        repeat' first|refine .A ?_|refine .B ?_|refine .D ?_|refine .F ?_|refine .G ?_|refine .H ?_|refine .J ?_|refine .C ?_|refine .f6 ?_|(show EG _ _ (⟨_,.load _ _,_,_⟩::_) _ _ _ _ _ _;first|refine .L l4 ?_|refine .L k8 ?_|refine .L k3 ?_|refine .L k5 ?_|refine .L k6 ?_|refine .L (qiq d.row rfl) ?_|refine .L (qir d.row (Nat.le_of_ble_eq_true rfl) rfl) ?_)|refine .P (hEn _) ?_|refine .P (hU _) ?_|refine .callv rfl rfl rfl rfl (hT _) ?_|refine .W hL ?_|refine .S (qis d2.row hlo (Nat.le_of_ble_eq_true rfl) rfl) ?_|refine .S (qoo (qip d2.row) hlo (Nat.le_of_ble_eq_true rfl) rfl) ?_|refine .S s2 ?_|refine .Y ?_|fail
        rfl
   ·have e1:qoc (ofR s.h c.S).2.1 (some ⟨o,g,p,u,lk,lv⟩)=none:=if_neg hf
    rw [e1]
    refine⟨_, ?_,d2.set hb⟩
    refine qgx rfl Fn.zch rfl rfl ?_
    cases lv with
    | false =>
      repeat' first|refine .A ?_|refine .B ?_|refine .C ?_|refine .D ?_|refine .F ?_|refine .G ?_|refine .J ?_|refine .f6 ?_|refine .L l4 ?_|refine .L k8 ?_|refine .L (qiq d.row rfl) ?_|refine .L (qir d.row (Nat.le_of_ble_eq_true rfl) rfl) ?_|refine .P (hEn _) ?_|refine .P (hU _) ?_|refine .P (hE _ hlo _) ?_|refine .W hL ?_|refine .S s2 ?_|refine .Y ?_|fail
      rfl
    | true =>
      have hg:¬g=(ofR s.h c.S).2.1:=fun h=>hf ⟨rfl,h⟩
      repeat' first|refine .A ?_|refine .B ?_|refine .C ?_|refine .D ?_|refine .F ?_|refine .G ?_|refine .J ?_|refine .t6 ?_|refine .f6 ?_|(show EG _ _ (⟨_,.load _ _,_,_⟩::_) _ _ _ _ _ _;first|refine .L l4 ?_|refine .L k8 ?_|refine .L k3 ?_|refine .L (qiq d.row rfl) ?_|refine .L (qir d.row (Nat.le_of_ble_eq_true rfl) rfl) ?_)|refine .P (hEn _) ?_|refine .P (hU _) ?_|refine .P (hE _ hlo _) ?_|refine .W hL ?_|refine .S s2 ?_|refine .Y ?_|fail
      rfl

set_option maxHeartbeats 1600000 in
theorem qoI (hr:H[b]? = some (.row (qoC c s) false))(hC:IsC H cb ws bs)(hb:b≠cb.P∧b≠cb.W∧b≠cb.Y)(hm:c.may)(hlo:lo≤b)(hlc:lo≤cb.P∧lo≤cb.W) :
  ∃H',qfV En lo Id.zcf [qkh b,ifC cb] H=some (qob (pnS c s ws).2.2,H')∧Did H H' b (qoC c (pnS c s ws).1) cb (pnS c s ws).2.1 bs:=by
 have d:=Did.of hr hC
 have l7:qav H none ⟨b,0+7,none⟩=some (I s.nx):=qiq hr rfl
 by_cases h1:s.nx=1
 ·obtain⟨H1,hL,d1⟩:=qoH (lo:=lo) d hm hlo hlc.1 hb h1
  have hws:(pnS c s ws).2.1=ws:=by
   unfold pnS
   rw [if_neg (by omega),if_pos h1]
   split<;>rfl
  rw [hws]
  generalize pnS c s ws=r at hL d1⊢
  obtain⟨s',w',o⟩:=r
  refine⟨H1, ?_,d1⟩
  cases o with
  | none =>
    simp only [qob]at hL⊢
    refine qgx rfl Fn.zcf rfl rfl ?_
    repeat' first|refine .A ?_|refine .B ?_|refine .C ?_|refine .D ?_|refine .F ?_|refine .J ?_|refine .t5 ?_|refine .f5 ?_|refine .L l7 ?_|refine .P hL ?_|refine .Y ?_|fail
    rfl
  | some q =>
    simp only [qob]at hL⊢
    refine qgx rfl Fn.zcf rfl rfl ?_
    repeat' first|refine .A ?_|refine .B ?_|refine .C ?_|refine .D ?_|refine .F ?_|refine .J ?_|refine .t5 ?_|refine .f5 ?_|refine .L l7 ?_|refine .P hL ?_|refine .Y ?_|fail
    rfl
 unfold pnS
 by_cases h0:s.nx=0
 ·rw [if_pos h0]
  refine⟨H, ?_,d⟩
  refine qgx rfl Fn.zcf rfl rfl ?_
  repeat' first|refine .A ?_|refine .B ?_|refine .C ?_|refine .J ?_|refine .t5 ?_|refine .L l7 ?_|refine .F ?_|refine .Y ?_|fail
  rfl
 rw [if_neg h0,if_neg h1]
 have hEn:=fun lo=>qjo lo H hm (ofR s.h c.S).1
 obtain⟨H1,hL,hC1,ho1⟩:=qi6 hC hlc.1 hlc.2 (pnG c s) s.word s.to
 have d1:=d.on hC1 ho1 (by simp) hb
 have l8:qav H none ⟨b,0+8,none⟩=some (I s.word):=qiq hr rfl
 have l9:qav H none ⟨b,0+9,none⟩=some (I s.to):=qiq hr rfl
 have hE:=fun lo hl k=>qoG (lo:=lo) (Did.of d1.row d1.cells) hl k
 unfold pnG at hL d1⊢
 cases hcb:qi5 ws (qjl c (ofR s.h c.S).1 0) s.word with
 | true =>
   rw [hcb]at hL d1
   refine⟨_, ?_,d1.set hb⟩
   refine qgx rfl Fn.zcf rfl rfl ?_
   repeat' first|refine .A ?_|refine .B ?_|refine .C ?_|refine .D ?_|refine .F ?_|refine .J ?_|refine .f5 ?_|refine .L l7 ?_|refine .L (qiq d.row rfl) ?_|refine .L (qir d.row (Nat.le_of_ble_eq_true rfl) rfl) ?_|refine .X (qiq d.row rfl) (qiv (qiq d.row rfl)) (qkj _) ?_|refine .P (hEn _) ?_|refine .P (hE _ hlo _) ?_|refine .W hL ?_|refine .Y ?_|fail
   rfl
 | false =>
   rw [hcb]at hL d1
   refine⟨_, ?_,d1.set hb⟩
   refine qgx rfl Fn.zcf rfl rfl ?_
   repeat' first|refine .A ?_|refine .B ?_|refine .D ?_|refine .F ?_|refine .J ?_|refine .f5 ?_|refine .L l7 ?_|refine .L (qiq d.row rfl) ?_|refine .L (qir d.row (Nat.le_of_ble_eq_true rfl) rfl) ?_|refine .X (qiq d.row rfl) (qiv (qiq d.row rfl)) (qkj _) ?_|refine .P (hEn _) ?_|refine .W hL ?_|refine .S (qis d1.row hlo (Nat.le_of_ble_eq_true rfl) rfl) ?_|refine .Y ?_|fail
   rfl
end
end Go.Proofs.YtdinebegmppnoaaGreat

/- A pin set, or taken, step by step: by the document. -/
namespace Go.Proofs.YtdinebegmppnoaaGreat
open Go Go.Ir

def qoJ (c:Cfg)(s:Pn):List Value := [I c.A,I c.S,I c.T,I s.h,.bool s.un,I s.nx,I s.word,I s.to]
structure PnI (c:Cfg)(s:Pn):Prop where
 st:s.nx≠0→s.nx≠1→(ofR s.h c.S).2.2=0

section
variable {lo:Nat}{H:qab}{b:Nat}{c:Cfg}{s:Pn}{cb:CB}{ws bs:List Int}
end
end Go.Proofs.YtdinebegmppnoaaGreat

/- An object freed, step by step: by the program. -/
namespace Go.Proofs.YtdinebegmppnoaaGreat
open Go Go.Ir

def qoK (own:List Nat)(cb:CB):List Nat:=own ++ [cb.P,cb.W,cb.Y]
def Apart (own:List Nat)(cb:CB):Prop:=∀b∈own,b≠cb.P∧b≠cb.W∧b≠cb.Y
theorem qoL {own:List Nat}{cb:CB}{b:Nat}(hb:b∈own):∀i∈[b,cb.P,cb.W,cb.Y],i∈qoK own cb:=by
 intro i hi
 simp only [List.mem_cons,List.mem_nil_iff,or_false]at hi
 unfold qoK
 rcases hi with rfl|rfl|rfl|rfl<;>simp [hb]

structure Fe where
 h:Int
 nx:Int
 word:Int
 p:Sk
def qoM (s:Fe):Option Ent→Fe×Option (Int×Int)
 | none=>({s with nx:=0},some (4,0))
 | some e=>if 0<e.p then({s with nx:=0},some (6,0))else if e.u=0∧e.lk=false then({s with nx:=2},none)else(s,none)
def feG (c:Cfg)(s:Fe):Int:=qjl c (ofR s.h c.S).1 0
def qoN (s:Fe)(r:Sk×List Int×Int×Bool):Fe×List Int×Option (Int×Int):=if r.2.2.2 then({s with p:=r.1,nx:=0},r.2.1,some (0,0))else({s with p:=r.1},r.2.1,none)
def feS (c:Cfg)(s:Fe)(ws:List Int):Fe×List Int×Option (Int×Int) :=
 if s.nx=0 then(s,ws,some (1,0))
 else if s.nx=1 then
  if(ofR s.h c.S).2.2≠0 then({s with nx:=0},ws,some (4,0))
  else((qoM {s with word:=qiT ws (feG c s)} (qod ws c (ofR s.h c.S).1 (ofR s.h c.S).2.1)).1,ws,(qoM {s with word:=qiT ws (feG c s)} (qod ws c (ofR s.h c.S).1 (ofR s.h c.S).2.1)).2)
 else if s.nx=2 then
  if qi5 ws (feG c s) s.word then
   if qn3 s.word then({s with nx:=3,p:=⟨1,(ofR s.h c.S).1,0,0⟩},qiU ws (feG c s) (chE s.word qn1).1,none)
   else({s with nx:=0},qiU ws (feG c s) (chE s.word qn1).1,some (0,0))
  else({s with nx:=1},ws,none)
 else qoN s (qnD c s.p ws)

def qoO (c:Cfg)(s:Fe)(to:Int)(more:Bool)(gv:Value):List Value :=
 [I c.T,I c.S,I (ofR s.h c.S).1,I (ofR s.h c.S).2.1,.bool (decide ((ofR s.h c.S).2.2≠0)),I s.nx,I s.word,I to,.bool more,gv]
structure FeP (H:qab)(own:List Nat)(c:Cfg)(s:Fe)(b:Nat):Prop where
 mem:b∈own
 row:∃to more gv,H[b]? = some (.row (qoO c s to more gv) false)∧(s.nx=2→to=(chE s.word qn1).1∧more=qn3 s.word)∧
  (s.nx≠0→s.nx≠1→s.nx≠2→∃g,gv=qkh g∧H[g]? = some (.row (qnB c s.p) false)∧b≠g∧g∈own)

section
variable {lo:Nat}{H:qab}{b:Nat}{c:Cfg}{s:Fe}{cb:CB}{ws bs:List Int}{to:Int}{more:Bool}{gv:Value}
theorem qoP (d:Did H H b (qoO c s to more gv) cb ws bs)(hlo:lo≤b)(k:Int):qfV En lo Id.zbu [qkh b,I k] H=some (qob (some (k,0)),H.set b (.row (qoO c {s with nx:=0} to more gv) false)):=by
 refine qgx rfl Fn.zbu rfl rfl ?_
 repeat' first|refine .A ?_|refine .B ?_|refine .J ?_|refine .S (qis d.row hlo (Nat.le_of_ble_eq_true rfl) rfl) ?_|refine .F ?_|refine .Y ?_|fail
 rfl
set_option maxHeartbeats 3200000 in
theorem qoQ (d:Did H H b (qoO c s to more gv) cb ws bs)(hm:c.may)(hlo:lo≤b)(hlc:lo≤cb.P)(hb:b≠cb.P∧b≠cb.W∧b≠cb.Y)(h1:s.nx=1) :
  ∃to' more' H',qfV En lo Id.zbv [qkh b,ifC cb] H=some (qob (feS c s ws).2.2,H')∧Did H H' b (qoO c (feS c s ws).1 to' more' gv) cb ws bs∧
   ((feS c s ws).1.nx=2→to'=(chE (feS c s ws).1.word qn1).1∧more'=qn3 (feS c s ws).1.word):=by
 have l4:qav H none ⟨b,0+4,none⟩=some (.bool (decide ((ofR s.h c.S).2.2≠0))):=qiq d.row rfl
 unfold feS
 rw [if_neg (by omega),if_pos h1]
 by_cases hst:(ofR s.h c.S).2.2≠0
 ·rw [if_pos hst]
  rw [decide_eq_true hst]at l4
  have hE:=fun lo hl k=>qoP (lo:=lo) d hl k
  refine⟨to,more,_, ?_,d.set hb,fun h=>by simp at h⟩
  refine qgx rfl Fn.zbv rfl rfl ?_
  repeat' first|refine .A ?_|refine .B ?_|refine .C ?_|refine .J ?_|refine .L l4 ?_|refine .P (hE _ hlo _) ?_|refine .F ?_|refine .Y ?_|fail
  rfl
 rw [if_neg hst]
 rw [decide_eq_false hst]at l4
 have hEn:=fun lo=>qjo lo H hm (ofR s.h c.S).1
 obtain⟨H1,hL,hC1,ho1⟩:=qi3 d.cells hlc (feG c s)
 have d1:=d.on hC1 ho1 (by simp) hb
 unfold qod
 rw [show qjl c (ofR s.h c.S).1 0=feG c s from rfl]
 unfold feG at hL⊢
 generalize qiT ws (qjl c (ofR s.h c.S).1 0)=w at hL⊢
 have d2:=d1.set (row':=qoO c {s with word:=w} to more gv) hb
 have s2:stN lo H1 ⟨b,0+6,none⟩ (qaf (I w))=some (H1.set b (.row (qoO c {s with word:=w} to more gv) false)):=qis d1.row hlo (Nat.le_of_ble_eq_true rfl) rfl
 generalize H1.set b (.row (qoO c {s with word:=w} to more gv) false)=H2 at d2 s2
 have k6:qav H2 none ⟨b,0+6,none⟩=some (I w):=qiq d2.row rfl
 have k3:qav H2 none ⟨b,0+3,none⟩=some (I (ofR s.h c.S).2.1):=qiq d2.row rfl
 have hU:=fun lo=>qkb lo H2 w
 have hN:=fun lo=>qoa lo H2 w
 unfold qn4 at hN
 have hE:=fun lo hl k=>qoP (lo:=lo) (Did.of d2.row d2.cells) hl k
 cases hu:qjZ w with
 | none =>
   rw [hu]at hU
   simp only [unV,Ent.zero,Ent.cs]at hU
   refine⟨to,more,_, ?_,d2.set hb,fun h=>by simp [qoc,qoM]at h⟩
   refine qgx rfl Fn.zbv rfl rfl ?_
   repeat' first|refine .A ?_|refine .B ?_|refine .C ?_|refine .D ?_|refine .F ?_|refine .G ?_|refine .J ?_|refine .t6 ?_|refine .L l4 ?_|refine .L k6 ?_|refine .L (qiq d.row rfl) ?_|refine .L (qir d.row (Nat.le_of_ble_eq_true rfl) rfl) ?_|refine .P (hEn _) ?_|refine .P (hU _) ?_|refine .P (hE _ hlo _) ?_|refine .W hL ?_|refine .S s2 ?_|refine .Y ?_|fail
   rfl
 | some e =>
   rw [hu]at hU
   obtain⟨o,g,p,u,lk,lv⟩:=e
   simp only [unV,Ent.cs]at hU
   by_cases hf:lv=true∧g=(ofR s.h c.S).2.1
   ·have e1:qoc (ofR s.h c.S).2.1 (some ⟨o,g,p,u,lk,lv⟩)=some ⟨o,g,p,u,lk,lv⟩:=if_pos hf
    rw [e1]
    simp only [qoM]
    have hlv:=hf.1
    have hg:=hf.2
    subst hlv
    by_cases hp:0<p
    ·rw [if_pos hp]
     refine⟨to,more,_, ?_,d2.set hb,fun h=>by simp at h⟩
     refine qgx rfl Fn.zbv rfl rfl ?_
     repeat' first|refine .A ?_|refine .B ?_|refine .C ?_|refine .D ?_|refine .F ?_|refine .G ?_|refine .J ?_|refine .t3 ?_|refine .f6 ?_|(show EG _ _ (⟨_,.load _ _,_,_⟩::_) _ _ _ _ _ _;first|refine .L l4 ?_|refine .L k6 ?_|refine .L k3 ?_|refine .L (qiq d.row rfl) ?_|refine .L (qir d.row (Nat.le_of_ble_eq_true rfl) rfl) ?_)|refine .P (hEn _) ?_|refine .P (hU _) ?_|refine .P (hE _ hlo _) ?_|refine .W hL ?_|refine .S s2 ?_|refine .Y ?_|fail
     rfl
    ·rw [if_neg hp]
     by_cases hul:u=0∧lk=false
     ·rw [if_pos hul]
      have h0:=hul.1
      have h2:=hul.2
      subst h2
      have d3:=d2.set (row':=qoO c {s with word:=w} (chE w qn1).1 more gv) hb
      have s3:stN lo H2 ⟨b,0+7,none⟩ (qaf (I (chE w qn1).1))=some (H2.set b (.row (qoO c {s with word:=w} (chE w qn1).1 more gv) false)):=qis d2.row hlo (Nat.le_of_ble_eq_true rfl) rfl
      generalize H2.set b (.row (qoO c {s with word:=w} (chE w qn1).1 more gv) false)=H3 at d3 s3
      refine⟨(chE w qn1).1,qn3 w,_, ?_,d3.set hb,fun _=>⟨rfl,rfl⟩⟩
      refine qgx rfl Fn.zbv rfl rfl ?_
      repeat' first|refine .A ?_|refine .B ?_|refine .C ?_|refine .D ?_|refine .F ?_|refine .G ?_|refine .H ?_|refine .J ?_|refine .f3 ?_|refine .t5 ?_|refine .f6 ?_|(show EG _ _ (⟨_,.load _ _,_,_⟩::_) _ _ _ _ _ _;first|refine .L l4 ?_|refine .L k6 ?_|refine .L k3 ?_|refine .L (qiq d.row rfl) ?_|refine .L (qir d.row (Nat.le_of_ble_eq_true rfl) rfl) ?_)|refine .P (hEn _) ?_|refine .P (hU _) ?_|refine .P (hN _) ?_|refine .W hL ?_|refine .S (qis d3.row hlo (Nat.le_of_ble_eq_true rfl) rfl) ?_|refine .S (qoo (qip d3.row) hlo (Nat.le_of_ble_eq_true rfl) rfl) ?_|refine .S s2 ?_|refine .S s3 ?_|refine .Y ?_|fail
      rfl
     ·rw [if_neg hul]
      refine⟨to,more,_, ?_,d2,fun h=>by simp only at h;omega⟩
      refine qgx rfl Fn.zbv rfl rfl ?_
      by_cases h0:u=0
      ·have h2:lk=true:=by cases lk;exact absurd ⟨h0,rfl⟩ hul;rfl
       subst h2
       repeat' first|refine .A ?_|refine .B ?_|refine .D ?_|refine .F ?_|refine .G ?_|refine .H ?_|refine .J ?_|refine .C ?_|refine .f3 ?_|refine .t5 ?_|refine .f6 ?_|(show EG _ _ (⟨_,.load _ _,_,_⟩::_) _ _ _ _ _ _;first|refine .L l4 ?_|refine .L k6 ?_|refine .L k3 ?_|refine .L (qiq d.row rfl) ?_|refine .L (qir d.row (Nat.le_of_ble_eq_true rfl) rfl) ?_)|refine .P (hEn _) ?_|refine .P (hU _) ?_|refine .W hL ?_|refine .S s2 ?_|refine .Y ?_|fail
       rfl
      ·repeat' first|refine .A ?_|refine .B ?_|refine .D ?_|refine .F ?_|refine .G ?_|refine .H ?_|refine .J ?_|refine .C ?_|refine .f3 ?_|refine .f5 ?_|refine .f6 ?_|(show EG _ _ (⟨_,.load _ _,_,_⟩::_) _ _ _ _ _ _;first|refine .L l4 ?_|refine .L k6 ?_|refine .L k3 ?_|refine .L (qiq d.row rfl) ?_|refine .L (qir d.row (Nat.le_of_ble_eq_true rfl) rfl) ?_)|refine .P (hEn _) ?_|refine .P (hU _) ?_|refine .W hL ?_|refine .S s2 ?_|refine .Y ?_|fail
       rfl
   ·have e1:qoc (ofR s.h c.S).2.1 (some ⟨o,g,p,u,lk,lv⟩)=none:=if_neg hf
    rw [e1]
    refine⟨to,more,_, ?_,d2.set hb,fun h=>by simp [qoM]at h⟩
    refine qgx rfl Fn.zbv rfl rfl ?_
    cases lv with
    | false =>
      repeat' first|refine .A ?_|refine .B ?_|refine .C ?_|refine .D ?_|refine .F ?_|refine .G ?_|refine .J ?_|refine .f6 ?_|refine .L l4 ?_|refine .L k6 ?_|refine .L (qiq d.row rfl) ?_|refine .L (qir d.row (Nat.le_of_ble_eq_true rfl) rfl) ?_|refine .P (hEn _) ?_|refine .P (hU _) ?_|refine .P (hE _ hlo _) ?_|refine .W hL ?_|refine .S s2 ?_|refine .Y ?_|fail
      rfl
    | true =>
      have hg:¬g=(ofR s.h c.S).2.1:=fun h=>hf ⟨rfl,h⟩
      repeat' first|refine .A ?_|refine .B ?_|refine .C ?_|refine .D ?_|refine .F ?_|refine .G ?_|refine .J ?_|refine .t6 ?_|refine .f6 ?_|(show EG _ _ (⟨_,.load _ _,_,_⟩::_) _ _ _ _ _ _;first|refine .L l4 ?_|refine .L k6 ?_|refine .L k3 ?_|refine .L (qiq d.row rfl) ?_|refine .L (qir d.row (Nat.le_of_ble_eq_true rfl) rfl) ?_)|refine .P (hEn _) ?_|refine .P (hU _) ?_|refine .P (hE _ hlo _) ?_|refine .W hL ?_|refine .S s2 ?_|refine .Y ?_|fail
      rfl

theorem qoR (lo:Nat)(H:qab)(c:Cfg)(sl:Int):qfV En lo Id.zcP [lay c.T c.S,I sl] H=some (qkh H.length,H ++ [.row (qnB c ⟨1,sl,0,0⟩) false]):=by
 refine qgx rfl Fn.zcP rfl rfl ?_
 repeat' first|refine .A ?_|refine .B ?_|refine .J ?_|refine .F ?_|refine .Y ?_|fail
 rfl
theorem qoS (lo:Nat)(H:qab)(c:Cfg):qfV En lo Id.zcO [lay c.T c.S] H=some (qkh H.length,H ++ [.row (qnB c ⟨1,0,0,0⟩) false]):=by
 refine qgx rfl Fn.zcO rfl rfl ?_
 repeat' first|refine .A ?_|refine .B ?_|refine .J ?_|refine .F ?_|refine .Y ?_|fail
 rfl

set_option maxHeartbeats 3200000 in
theorem qoT {own:List Nat}(hown:b∈own)(d:Did H H b (qoO c s to more gv) cb ws bs)(hm:c.may)(hlo:lo≤b)(hlc:lo≤cb.P∧lo≤cb.W)(hb:b≠cb.P∧b≠cb.W∧b≠cb.Y)(h2:s.nx=2)(ht:to=(chE s.word qn1).1)(hmo:more=qn3 s.word) :
  ∃own' H',qfV En lo Id.zbw [qkh b,ifC cb] H=some (qob (feS c s ws).2.2,H')∧FeP H' own' c (feS c s ws).1 b∧IsC H' cb (feS c s ws).2.1 bs∧Chg [b,cb.P,cb.W,cb.Y] H H'∧(∀x∈own,x∈own')∧(∀x∈own',x∈own∨H.length≤x):=by
 have hEn:=fun lo=>qjo lo H hm (ofR s.h c.S).1
 obtain⟨H1,hL,hC1,ho1⟩:=qi6 d.cells hlc.1 hlc.2 (feG c s) s.word to
 have d1:=d.on hC1 ho1 (by simp) hb
 have l6:qav H none ⟨b,0+6,none⟩=some (I s.word):=qiq d.row rfl
 have l7:qav H none ⟨b,0+7,none⟩=some (I to):=qiq d.row rfl
 have k8:qav H1 none ⟨b,0+8,none⟩=some (.bool more):=qiq d1.row rfl
 have hE:=fun lo hl k=>qoP (lo:=lo) (Did.of d1.row d1.cells) hl k
 unfold feS
 rw [if_neg (by omega),if_neg (by omega),if_pos h2,←ht,←hmo]
 unfold feG at hL d1⊢
 cases hcb:qi5 ws (qjl c (ofR s.h c.S).1 0) s.word with
 | false =>
   rw [hcb]at hL d1
   have dd:=d1.set (row':=qoO c {s with nx:=1} to more gv) hb
   refine⟨own,_, ?_,⟨hown,to,more,gv,dd.row,fun h=>by simp at h,fun _ h=>by simp at h⟩,dd.cells,dd.chg,fun _ h=>h,fun _ h => .inl h⟩
   refine qgx rfl Fn.zbw rfl rfl ?_
   repeat' first|refine .A ?_|refine .B ?_|refine .C ?_|refine .G ?_|refine .H ?_|refine .J ?_|refine .L (qiq d.row rfl) ?_|refine .L (qir d.row (Nat.le_of_ble_eq_true rfl) rfl) ?_|refine .X (qiq d.row rfl) (qiv (qiq d.row rfl)) (qkj _) ?_|refine .P (hEn _) ?_|refine .W hL ?_|refine .S (qis d1.row hlo (Nat.le_of_ble_eq_true rfl) rfl) ?_|refine .F ?_|refine .Y ?_|fail
   rfl
 | true =>
   rw [hcb]at hL d1
   cases more with
   | false =>
     have dd:=d1.set (row':=qoO c {s with nx:=0} to false gv) hb
     refine⟨own,_, ?_,⟨hown,to,false,gv,dd.row,fun h=>by simp at h,fun h=>by simp at h⟩,dd.cells,dd.chg,fun _ h=>h,fun _ h => .inl h⟩
     refine qgx rfl Fn.zbw rfl rfl ?_
     repeat' first|refine .A ?_|refine .B ?_|refine .C ?_|refine .D ?_|refine .G ?_|refine .J ?_|refine .L k8 ?_|refine .L (qiq d.row rfl) ?_|refine .L (qir d.row (Nat.le_of_ble_eq_true rfl) rfl) ?_|refine .X (qiq d.row rfl) (qiv (qiq d.row rfl)) (qkj _) ?_|refine .P (hEn _) ?_|refine .P (hE _ hlo _) ?_|refine .W hL ?_|refine .F ?_|refine .Y ?_|fail
     rfl
   | true =>
     have hNP:=fun lo=>qoR lo H1 c (ofR s.h c.S).1
     have hbl:b<H1.length:=qip d1.row
     have d2:Did H (H1 ++ [.row (qnB c ⟨1,(ofR s.h c.S).1,0,0⟩) false]) b (qoO c s to true gv) cb (qiU ws (qjl c (ofR s.h c.S).1 0) to) bs:=⟨qio d1.row,d1.cells.app _,d1.chg.app _⟩
     have hg:(H1 ++ [Blk.row (qnB c ⟨1,(ofR s.h c.S).1,0,0⟩) false])[H1.length]? = some (.row (qnB c ⟨1,(ofR s.h c.S).1,0,0⟩) false):=List.getElem?_concat_length
     generalize H1 ++ [Blk.row (qnB c ⟨1,(ofR s.h c.S).1,0,0⟩) false]=H2 at hNP d2 hg
     have d3:=d2.set (row':=qoO c s to true (qkh H1.length)) hb
     have s3:stN lo H2 ⟨b,0+9,none⟩ (qaf (qkh H1.length))=some (H2.set b (.row (qoO c s to true (qkh H1.length)) false)):=qis d2.row hlo (Nat.le_of_ble_eq_true rfl) rfl
     have hg3:(H2.set b (.row (qoO c s to true (qkh H1.length)) false))[H1.length]? = some (.row (qnB c ⟨1,(ofR s.h c.S).1,0,0⟩) false):=qin (by omega) hg
     generalize H2.set b (.row (qoO c s to true (qkh H1.length)) false)=H3 at d3 s3 hg3
     have dd:=d3.set (row':=qoO c {s with nx:=3,p:=⟨1,(ofR s.h c.S).1,0,0⟩} to true (qkh H1.length)) hb
     refine⟨H1.length::own,_, ?_,⟨List.mem_cons_of_mem _ hown,to,true,qkh H1.length,dd.row,fun h=>by simp at h,fun _ _ _=>⟨H1.length,rfl,qin (by omega) hg3,by omega,by simp⟩⟩,dd.cells,dd.chg,fun _ h=>List.mem_cons_of_mem _ h,fun x h => ?_⟩
     ·refine qgx rfl Fn.zbw rfl rfl ?_
      repeat' first|refine .A ?_|refine .B ?_|refine .D ?_|refine .G ?_|refine .H ?_|refine .J ?_|(show EG _ _ (⟨_,.load _ _,_,_⟩::_) _ _ _ _ _ _;first|refine .L k8 ?_|refine .L (qiq d.row rfl) ?_|refine .L (qir d.row (Nat.le_of_ble_eq_true rfl) rfl) ?_|refine .X (qiq d.row rfl) (qiv (qiq d.row rfl)) (qkj _) ?_|refine .L (qiq d1.row rfl) ?_|refine .L (qir d1.row (Nat.le_of_ble_eq_true rfl) rfl) ?_)|refine .P (hEn _) ?_|refine .P (hNP _) ?_|refine .W hL ?_|refine .S (qis d3.row hlo (Nat.le_of_ble_eq_true rfl) rfl) ?_|refine .S s3 ?_|refine .F ?_|refine .Y ?_|fail
      rfl
     ·rcases List.mem_cons.1 h with rfl|h
      ·exact .inr d1.chg.len
      ·exact .inl h

theorem Apart.at {own:List Nat}{cb:CB}(h:Apart own cb){b:Nat}(hb:b∈own):b≠cb.P∧b≠cb.W∧b≠cb.Y:=h b hb

set_option maxHeartbeats 3200000 in
theorem qoU {own:List Nat}(hP:FeP H own c s b)(hC:IsC H cb ws bs)(hA:Apart own cb)(hm:c.may)(hlo:∀x∈own,lo≤x)(hlc:lo≤cb.P∧lo≤cb.W) :
  ∃own' H',qfV En lo Id.zbt [qkh b,ifC cb] H=some (qob (feS c s ws).2.2,H')∧FeP H' own' c (feS c s ws).1 b∧IsC H' cb (feS c s ws).2.1 bs∧Chg (qoK own cb) H H'∧(∀x∈own,x∈own')∧(∀x∈own',x∈own∨H.length≤x):=by
 obtain⟨to,more,gv,hr,h2',h3'⟩:=hP.row
 have hb:=hA.at hP.mem
 have hlob:=hlo b hP.mem
 have d:=Did.of hr hC
 have l5:qav H none ⟨b,0+5,none⟩=some (I s.nx):=qiq hr rfl
 have hsub:=qoL (cb:=cb) hP.mem
 by_cases h0:s.nx=0
 ·have e0:feS c s ws=(s,ws,some (1,0)):=by unfold feS;rw [if_pos h0]
  rw [e0]
  refine⟨own,H, ?_,hP,hC,Chg.refl _ _,fun _ h=>h,fun _ h => .inl h⟩
  refine qgx rfl Fn.zbt rfl rfl ?_
  repeat' first|refine .A ?_|refine .B ?_|refine .C ?_|refine .J ?_|refine .t5 ?_|refine .L l5 ?_|refine .F ?_|refine .Y ?_|fail
  rfl
 by_cases h1:s.nx=1
 ·obtain⟨to',more',H1,hL,d1,hx⟩:=qoQ (lo:=lo) d hm hlob hlc.1 hb h1
  have hws:(feS c s ws).2.1=ws:=by
   unfold feS
   rw [if_neg h0,if_pos h1]
   split<;>rfl
  have hn:(feS c s ws).1.nx=0∨(feS c s ws).1.nx=1∨(feS c s ws).1.nx=2:=by
   unfold feS
   rw [if_neg h0,if_pos h1]
   split
   ·simp
   ·unfold qoM
    split
    ·simp
    ·split
     ·simp
     ·split<;>simp [h1]
  rw [hws]
  generalize feS c s ws=r at hL d1 hx hn⊢
  obtain⟨s',w',o⟩:=r
  refine⟨own,H1, ?_,⟨hP.mem,to',more',gv,d1.row,hx,fun a1 a2 a3=>by
   rcases hn with h|h|h
   ·exact absurd h a1
   ·exact absurd h a2
   ·exact absurd h a3⟩,d1.cells,d1.chg.mono hsub,fun _ h=>h,fun _ h => .inl h⟩
  cases o with
  | none =>
    simp only [qob]at hL⊢
    refine qgx rfl Fn.zbt rfl rfl ?_
    repeat' first|refine .A ?_|refine .B ?_|refine .C ?_|refine .D ?_|refine .F ?_|refine .G ?_|refine .J ?_|refine .t5 ?_|refine .f5 ?_|refine .L l5 ?_|refine .P hL ?_|refine .Y ?_|fail
    rfl
  | some q =>
    simp only [qob]at hL⊢
    refine qgx rfl Fn.zbt rfl rfl ?_
    repeat' first|refine .A ?_|refine .B ?_|refine .C ?_|refine .D ?_|refine .F ?_|refine .G ?_|refine .J ?_|refine .t5 ?_|refine .f5 ?_|refine .L l5 ?_|refine .P hL ?_|refine .Y ?_|fail
    rfl
 by_cases h2:s.nx=2
 ·obtain⟨own',H1,hL,hF,hC1,hx,g1,g2⟩:=qoT (lo:=lo) hP.mem d hm hlob hlc hb h2 (h2' h2).1 (h2' h2).2
  refine⟨own',H1, ?_,hF,hC1,hx.mono hsub,g1,g2⟩
  generalize (feS c s ws).2.2=o at hL⊢
  cases o with
  | none =>
    simp only [qob]at hL⊢
    refine qgx rfl Fn.zbt rfl rfl ?_
    repeat' first|refine .A ?_|refine .B ?_|refine .C ?_|refine .D ?_|refine .F ?_|refine .G ?_|refine .J ?_|refine .t5 ?_|refine .f5 ?_|refine .L l5 ?_|refine .P hL ?_|refine .Y ?_|fail
    rfl
  | some q =>
    simp only [qob]at hL⊢
    refine qgx rfl Fn.zbt rfl rfl ?_
    repeat' first|refine .A ?_|refine .B ?_|refine .C ?_|refine .D ?_|refine .F ?_|refine .G ?_|refine .J ?_|refine .t5 ?_|refine .f5 ?_|refine .L l5 ?_|refine .P hL ?_|refine .Y ?_|fail
    rfl
 ·obtain⟨g,rfl,hg,hbg,hgo⟩:=h3' h0 h1 h2
  have hbg':=hA.at hgo
  obtain⟨H1,hL,d1⟩:=qnM (lo:=lo) hg hC hbg' hm (hlo g hgo) hlc
  have l9:qav H none ⟨b,0+9,none⟩=some (qkh g):=qiq hr rfl
  have hr1:H1[b]? = some (.row (qoO c s to more (qkh g)) false):=d1.chg.get hr (by simp [hbg,hb.1,hb.2.1,hb.2.2])
  have dr:Did H1 H1 b (qoO c s to more (qkh g)) cb (qnD c s.p ws).2.1 bs:=Did.of hr1 d1.cells
  have hE:=fun lo hl k=>qoP (lo:=lo) dr hl k
  have hc1:Chg (qoK own cb) H H1:=d1.chg.mono (qoL hgo)
  have e0:feS c s ws=qoN s (qnD c s.p ws):=by unfold feS;rw [if_neg h0,if_neg h1,if_neg h2]
  rw [e0]
  unfold qnK at hL
  have hrg:=d1.row
  generalize qnD c s.p ws=r at hL dr hrg hE⊢
  obtain⟨p',w',q,dn⟩:=r
  simp only at hL hrg
  cases dn with
  | true =>
    have dd:=dr.set (row':=qoO c {s with p:=p',nx:=0} to more (qkh g)) hb
    refine⟨own,_, ?_,⟨hP.mem,to,more,qkh g,dd.row,fun h=>by simp [qoN]at h,fun h=>by simp [qoN]at h⟩,dd.cells,hc1.trans (dd.chg.mono hsub),fun _ h=>h,fun _ h => .inl h⟩
    refine qgx rfl Fn.zbt rfl rfl ?_
    repeat' first|refine .A ?_|refine .B ?_|refine .C ?_|refine .D ?_|refine .F ?_|refine .G ?_|refine .H ?_|refine .J ?_|refine .f5 ?_|refine .L l5 ?_|refine .L l9 ?_|refine .P hL ?_|refine .P (hE _ hlob _) ?_|refine .Y ?_|fail
    rfl
  | false =>
    refine⟨own,H1, ?_,⟨hP.mem,to,more,qkh g,hr1,fun h=>absurd h h2,fun _ _ _=>⟨g,rfl,hrg,hbg,hgo⟩⟩,dr.cells,hc1,fun _ h=>h,fun _ h => .inl h⟩
    refine qgx rfl Fn.zbt rfl rfl ?_
    repeat' first|refine .A ?_|refine .B ?_|refine .D ?_|refine .F ?_|refine .G ?_|refine .H ?_|refine .J ?_|refine .f5 ?_|refine .L l5 ?_|refine .L l9 ?_|refine .P hL ?_|refine .Y ?_|fail
    rfl
end
end Go.Proofs.YtdinebegmppnoaaGreat

/- An object freed, step by step: by the document. -/
namespace Go.Proofs.YtdinebegmppnoaaGreat
open Go Go.Ir

def qoV (c:Cfg)(s:Fe)(gv:Value):List Value := [I c.A,I c.S,I c.T,I s.h,I s.nx,I s.word,gv]
structure FeR (H:qab)(own:List Nat)(c:Cfg)(s:Fe)(b:Nat):Prop where
 mem:b∈own
 row:∃gv,H[b]? = some (.row (qoV c s gv) false)∧(s.nx≠0→s.nx≠1→s.nx≠2→∃g,gv=qkh g∧H[g]? = some (.row (qnN c true s.p) false)∧b≠g∧g∈own)
 st:s.nx≠0→s.nx≠1→(ofR s.h c.S).2.2=0
 rg:s.p.word<9223372036854775808

section
variable {lo:Nat}{H:qab}{b:Nat}{c:Cfg}{s:Fe}{cb:CB}{ws bs:List Int}{gv:Value}
end
end Go.Proofs.YtdinebegmppnoaaGreat

