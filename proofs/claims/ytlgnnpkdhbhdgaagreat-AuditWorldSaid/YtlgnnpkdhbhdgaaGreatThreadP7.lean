/- A pin set, or taken, step by step: by the program. -/
import Derived.Test.YtlgnnpkdhbhdgaaGreatThreadP6
import Derived.Test.YtlgnnpkdhbhdgaaGreatThreadP3
import Derived.Test.YtlgnnpkdhbhdgaaGreatThreadP5
import Derived.Test.YtlgnnpkdhbhdgaaGreatThreadP4
set_option linter.all false
namespace Go.Proofs.YtlgnnpkdhbhdgaaGreat
open Go Go.Ir
structure Pn where
 h:Int
 un:Bool
 nx:Int
 word:Int
 to:Int
def qoO (un:Bool):Value := .func (.func (if un then Id.zbl else Id.zbi)) #[] #[]
def qoP (un:Bool):Ent->Int×Ent:=if un then qms else qmr
def qoQ (c:Cfg)(s:Pn):List Value :=
 [I c.T,I c.S,I (ofR s.h c.S).1,I (ofR s.h c.S).2.1,.bool (decide ((ofR s.h c.S).2.2≠0)),qoO s.un,.bool (!s.un),I s.nx,I s.word,I s.to]
def qoR (s:Pn)(r:Int×Int):Pn×Option (Int×Int):=if r.2≠0 then({s with nx:=0},some (r.2,0))else({s with to:=r.1,nx:=2},none)
def qoS (s:Pn):Option Ent->Pn×Option (Int×Int)
 | none=>({s with nx:=0},some (4,0))
 | some e=>if e.lk=true/\s.un=false then(s,none)else qoR s (chE s.word (qoP s.un))
def pnG (c:Cfg)(s:Pn):Int:=qjx c (ofR s.h c.S).1 0
def pnS (c:Cfg)(s:Pn)(ws:List Int):Pn×List Int×Option (Int×Int) :=
 if s.nx=0 then(s,ws,some (1,0))
 else if s.nx=1 then
  if(ofR s.h c.S).2.2≠0 then({s with nx:=0},ws,some (4,0))
  else((qoS {s with word:=qi5 ws (pnG c s)} (qoo ws c (ofR s.h c.S).1 (ofR s.h c.S).2.1)).1,ws,(qoS {s with word:=qi5 ws (pnG c s)} (qoo ws c (ofR s.h c.S).1 (ofR s.h c.S).2.1)).2)
 else if qjh ws (pnG c s) s.word then({s with nx:=0},qi6 ws (pnG c s) s.to,some (0,0))else({s with nx:=1},ws,none)
section
variable {lo:Nat}{H:qab}{b:Nat}{c:Cfg}{s:Pn}{cb:CB}{ws bs:List Int}
def qoT (lo:Nat)(h:qab)(un:Bool)(w:Int):qfU En lo (if un then Id.zbl else Id.zbi) [I w] h=some (qmu (chE w (qoP un)),h):=by
 cases un with
 | true=>exact qmB lo h w
 | false=>exact qmA lo h w
def qoU (d:Did H H b (qoQ c s) cb ws bs)(hlo:lo<=b)(k:Int):qfU En lo Id.zcq [qkt b,I k] H=some (qom (some (k,0)),H.set b (.row (qoQ c {s with nx:=0}) false)):=by
 refine qgw rfl Fn.zcq rfl rfl ?_
 repeat' first|refine .A ?_|refine .B ?_|refine .J ?_|refine .S (qiE d.row hlo (zzL rfl) rfl) ?_|refine .F ?_|refine .Y ?_|fail
 rfl
set_option maxHeartbeats 3200000 in
def qoV (d:Did H H b (qoQ c s) cb ws bs)(hm:c.may)(hlo:lo<=b)(hlc:lo<=cb.P)(hb:b≠cb.P/\b≠cb.W/\b≠cb.Y)(h1:s.nx=1) :
  ∃H',qfU En lo Id.zcr [qkt b,ifC cb] H=some (qom (pnS c s ws).2.2,H')/\Did H H' b (qoQ c (pnS c s ws).1) cb ws bs:=by
 have l4:qau H none ⟨b,0+4,none⟩=some (.bool (decide ((ofR s.h c.S).2.2≠0))):=qiC d.row rfl
 unfold pnS
 rw [if_neg (by omega),if_pos h1]
 by_cases hst:(ofR s.h c.S).2.2≠0
 ·rw [if_pos hst]
  rw [zzT hst]at l4
  have hE:=fun lo hl k=>qoU (lo:=lo) d hl k
  refine⟨_, ?_,d.set hb⟩
  refine qgw rfl Fn.zcr rfl rfl ?_
  repeat' first|refine .A ?_|refine .B ?_|refine .C ?_|refine .J ?_|refine .L l4 ?_|refine .P (hE _ hlo _) ?_|refine .F ?_|refine .Y ?_|fail
  rfl
 rw [if_neg hst]
 rw [zzF hst]at l4
 have hEn:=fun lo=>qjA lo H hm (ofR s.h c.S).1
 obtain⟨H1,hL,hC1,ho1⟩:=qjf d.cells hlc (pnG c s)
 have d1:=d.on hC1 ho1 (by simp) hb
 unfold qoo
 rw [show qjx c (ofR s.h c.S).1 0=pnG c s from rfl]
 unfold pnG at hL|-
 generalize qi5 ws (qjx c (ofR s.h c.S).1 0)=w at hL|-
 have d2:=d1.set (row':=qoQ c {s with word:=w}) hb
 have s2:stN lo H1 ⟨b,0+8,none⟩ (qaf (I w))=some (H1.set b (.row (qoQ c {s with word:=w}) false)):=qiE d1.row hlo (zzL rfl) rfl
 generalize H1.set b (.row (qoQ c {s with word:=w}) false)=H2 at d2 s2
 have k8:qau H2 none ⟨b,0+8,none⟩=some (I w):=qiC d2.row rfl
 have k3:qau H2 none ⟨b,0+3,none⟩=some (I (ofR s.h c.S).2.1):=qiC d2.row rfl
 have k5:qau H2 none ⟨b,0+5,none⟩=some (qoO s.un):=qiC d2.row rfl
 have k6:qau H2 none ⟨b,0+6,none⟩=some (.bool (!s.un)):=qiC d2.row rfl
 unfold qoO at k5
 have hU:=fun lo=>qkn lo H2 w
 have hT:=fun lo=>qoT lo H2 s.un w
 have hE:=fun lo hl k=>qoU (lo:=lo) (Did.of d2.row d2.cells) hl k
 cases hu:qkb w with
 | none =>
   rw [hu]at hU
   simp only [unV,Ent.zero,Ent.cs]at hU
   refine⟨_, ?_,d2.set hb⟩
   refine qgw rfl Fn.zcr rfl rfl ?_
   repeat' first|refine .A ?_|refine .B ?_|refine .C ?_|refine .D ?_|refine .F ?_|refine .G ?_|refine .J ?_|refine .t6 ?_|refine .L l4 ?_|refine .L k8 ?_|refine .L (qiC d.row rfl) ?_|refine .L (qiD d.row (zzL rfl) rfl) ?_|refine .P (hEn _) ?_|refine .P (hU _) ?_|refine .P (hE _ hlo _) ?_|refine .W hL ?_|refine .S s2 ?_|refine .Y ?_|fail
   rfl
 | some e =>
   rw [hu]at hU
   obtain⟨o,g,p,u,lk,lv⟩:=e
   simp only [unV,Ent.cs]at hU
   by_cases hf:lv=true/\g=(ofR s.h c.S).2.1
   ·have e1:qon (ofR s.h c.S).2.1 (some ⟨o,g,p,u,lk,lv⟩)=some ⟨o,g,p,u,lk,lv⟩:=if_pos hf
    rw [e1]
    simp only [qoS]
    have hlv:=hf.1
    have hg:=hf.2
    subst hlv
    by_cases hlk:lk=true/\s.un=false
    ·rw [if_pos hlk]
     have h2:=hlk.1
     subst h2
     rw [hlk.2]at k6
     refine⟨_, ?_,d2⟩
     refine qgw rfl Fn.zcr rfl rfl ?_
     repeat' first|refine .A ?_|refine .B ?_|refine .C ?_|refine .D ?_|refine .F ?_|refine .G ?_|refine .J ?_|refine .f6 ?_|(show EG _ _ (⟨_,.load _ _,_,_⟩::_) _ _ _ _ _ _;first|refine .L l4 ?_|refine .L k8 ?_|refine .L k3 ?_|refine .L k6 ?_|refine .L (qiC d.row rfl) ?_|refine .L (qiD d.row (zzL rfl) rfl) ?_)|refine .P (hEn _) ?_|refine .P (hU _) ?_|refine .W hL ?_|refine .S s2 ?_|refine .Y ?_|fail
     rfl
    ·rw [if_neg hlk]
     unfold qmu at hT
     generalize hr:chE w (qoP s.un)=r at hT|-
     obtain⟨to,f⟩:=r
     simp only at hT
     have hlk2:lk=false\/(!s.un)=false:=by
      cases lk with
      | false=>exact .inl rfl
      | true=>cases hun:s.un with
        | true=>exact .inr rfl
        | false=>exact absurd ⟨rfl,hun⟩ hlk
     by_cases hf0:f≠0
     ·have e2:qoR {s with word:=w} (to,f)=({s with word:=w,nx:=0},some (f,0)):=if_pos hf0
      rw [e2]
      refine⟨_, ?_,d2.set hb⟩
      refine qgw rfl Fn.zcr rfl rfl ?_
      rcases hlk2 with h2|h2
      ·subst h2
       repeat' first|refine .A ?_|refine .B ?_|refine .C ?_|refine .D ?_|refine .F ?_|refine .G ?_|refine .H ?_|refine .J ?_|refine .t6 ?_|refine .f6 ?_|(show EG _ _ (⟨_,.load _ _,_,_⟩::_) _ _ _ _ _ _;first|refine .L l4 ?_|refine .L k8 ?_|refine .L k3 ?_|refine .L k5 ?_|refine .L (qiC d.row rfl) ?_|refine .L (qiD d.row (zzL rfl) rfl) ?_)|refine .P (hEn _) ?_|refine .P (hU _) ?_|refine .P (hE _ hlo _) ?_|refine .yt rfl rfl rfl rfl (hT _) ?_|refine .W hL ?_|refine .S s2 ?_|refine .Y ?_|fail
       rfl
      ·rw [h2]at k6
       cases lk
       all_goals
        repeat' first|refine .A ?_|refine .B ?_|refine .C ?_|refine .D ?_|refine .F ?_|refine .G ?_|refine .H ?_|refine .J ?_|refine .t6 ?_|refine .f6 ?_|(show EG _ _ (⟨_,.load _ _,_,_⟩::_) _ _ _ _ _ _;first|refine .L l4 ?_|refine .L k8 ?_|refine .L k3 ?_|refine .L k5 ?_|refine .L k6 ?_|refine .L (qiC d.row rfl) ?_|refine .L (qiD d.row (zzL rfl) rfl) ?_)|refine .P (hEn _) ?_|refine .P (hU _) ?_|refine .P (hE _ hlo _) ?_|refine .yt rfl rfl rfl rfl (hT _) ?_|refine .W hL ?_|refine .S s2 ?_|refine .Y ?_|fail
        rfl
     ·have e2:qoR {s with word:=w} (to,f)=({s with word:=w,to:=to,nx:=2},none):=if_neg hf0
      rw [e2]
      have e3:f=0:=Decidable.not_not.1 hf0
      refine⟨_, ?_,d2.set hb⟩
      refine qgw rfl Fn.zcr rfl rfl ?_
      rcases hlk2 with h2|h2
      ·subst h2
       repeat' first|refine .A ?_|refine .B ?_|refine .D ?_|refine .F ?_|refine .G ?_|refine .H ?_|refine .J ?_|refine .C ?_|refine .f6 ?_|(show EG _ _ (⟨_,.load _ _,_,_⟩::_) _ _ _ _ _ _;first|refine .L l4 ?_|refine .L k8 ?_|refine .L k3 ?_|refine .L k5 ?_|refine .L (qiC d.row rfl) ?_|refine .L (qiD d.row (zzL rfl) rfl) ?_)|refine .P (hEn _) ?_|refine .P (hU _) ?_|refine .yt rfl rfl rfl rfl (hT _) ?_|refine .W hL ?_|refine .S (qiE d2.row hlo (zzL rfl) rfl) ?_|refine .S (qoB (qiB d2.row) hlo (zzL rfl) rfl) ?_|refine .S s2 ?_|refine .Y ?_|fail
       rfl
      ·rw [h2]at k6
       cases lk
       all_goals
        repeat' first|refine .A ?_|refine .B ?_|refine .D ?_|refine .F ?_|refine .G ?_|refine .H ?_|refine .J ?_|refine .C ?_|refine .f6 ?_|(show EG _ _ (⟨_,.load _ _,_,_⟩::_) _ _ _ _ _ _;first|refine .L l4 ?_|refine .L k8 ?_|refine .L k3 ?_|refine .L k5 ?_|refine .L k6 ?_|refine .L (qiC d.row rfl) ?_|refine .L (qiD d.row (zzL rfl) rfl) ?_)|refine .P (hEn _) ?_|refine .P (hU _) ?_|refine .yt rfl rfl rfl rfl (hT _) ?_|refine .W hL ?_|refine .S (qiE d2.row hlo (zzL rfl) rfl) ?_|refine .S (qoB (qiB d2.row) hlo (zzL rfl) rfl) ?_|refine .S s2 ?_|refine .Y ?_|fail
        rfl
   ·have e1:qon (ofR s.h c.S).2.1 (some ⟨o,g,p,u,lk,lv⟩)=none:=if_neg hf
    rw [e1]
    refine⟨_, ?_,d2.set hb⟩
    refine qgw rfl Fn.zcr rfl rfl ?_
    cases lv with
    | false =>
      repeat' first|refine .A ?_|refine .B ?_|refine .C ?_|refine .D ?_|refine .F ?_|refine .G ?_|refine .J ?_|refine .f6 ?_|refine .L l4 ?_|refine .L k8 ?_|refine .L (qiC d.row rfl) ?_|refine .L (qiD d.row (zzL rfl) rfl) ?_|refine .P (hEn _) ?_|refine .P (hU _) ?_|refine .P (hE _ hlo _) ?_|refine .W hL ?_|refine .S s2 ?_|refine .Y ?_|fail
      rfl
    | true =>
      have hg:¬g=(ofR s.h c.S).2.1:=fun h=>hf ⟨rfl,h⟩
      repeat' first|refine .A ?_|refine .B ?_|refine .C ?_|refine .D ?_|refine .F ?_|refine .G ?_|refine .J ?_|refine .t6 ?_|refine .f6 ?_|(show EG _ _ (⟨_,.load _ _,_,_⟩::_) _ _ _ _ _ _;first|refine .L l4 ?_|refine .L k8 ?_|refine .L k3 ?_|refine .L (qiC d.row rfl) ?_|refine .L (qiD d.row (zzL rfl) rfl) ?_)|refine .P (hEn _) ?_|refine .P (hU _) ?_|refine .P (hE _ hlo _) ?_|refine .W hL ?_|refine .S s2 ?_|refine .Y ?_|fail
      rfl
set_option maxHeartbeats 1600000 in
def qoW (hr:H[b]? = some (.row (qoQ c s) false))(hC:IsC H cb ws bs)(hb:b≠cb.P/\b≠cb.W/\b≠cb.Y)(hm:c.may)(hlo:lo<=b)(hlc:lo<=cb.P/\lo<=cb.W) :
  ∃H',qfU En lo Id.zcp [qkt b,ifC cb] H=some (qom (pnS c s ws).2.2,H')/\Did H H' b (qoQ c (pnS c s ws).1) cb (pnS c s ws).2.1 bs:=by
 have d:=Did.of hr hC
 have l7:qau H none ⟨b,0+7,none⟩=some (I s.nx):=qiC hr rfl
 by_cases h1:s.nx=1
 ·obtain⟨H1,hL,d1⟩:=qoV (lo:=lo) d hm hlo hlc.1 hb h1
  have hws:(pnS c s ws).2.1=ws:=by
   unfold pnS
   rw [if_neg (by omega),if_pos h1]
   split<;>rfl
  rw [hws]
  generalize pnS c s ws=r at hL d1|-
  obtain⟨s',w',o⟩:=r
  refine⟨H1, ?_,d1⟩
  cases o with
  | none =>
    simp only [qom]at hL|-
    refine qgw rfl Fn.zcp rfl rfl ?_
    repeat' first|refine .A ?_|refine .B ?_|refine .C ?_|refine .D ?_|refine .F ?_|refine .J ?_|refine .t5 ?_|refine .f5 ?_|refine .L l7 ?_|refine .P hL ?_|refine .Y ?_|fail
    rfl
  | some q =>
    simp only [qom]at hL|-
    refine qgw rfl Fn.zcp rfl rfl ?_
    repeat' first|refine .A ?_|refine .B ?_|refine .C ?_|refine .D ?_|refine .F ?_|refine .J ?_|refine .t5 ?_|refine .f5 ?_|refine .L l7 ?_|refine .P hL ?_|refine .Y ?_|fail
    rfl
 unfold pnS
 by_cases h0:s.nx=0
 ·rw [if_pos h0]
  refine⟨H, ?_,d⟩
  refine qgw rfl Fn.zcp rfl rfl ?_
  repeat' first|refine .A ?_|refine .B ?_|refine .C ?_|refine .J ?_|refine .t5 ?_|refine .L l7 ?_|refine .F ?_|refine .Y ?_|fail
  rfl
 rw [if_neg h0,if_neg h1]
 have hEn:=fun lo=>qjA lo H hm (ofR s.h c.S).1
 obtain⟨H1,hL,hC1,ho1⟩:=qji hC hlc.1 hlc.2 (pnG c s) s.word s.to
 have d1:=d.on hC1 ho1 (by simp) hb
 have l8:qau H none ⟨b,0+8,none⟩=some (I s.word):=qiC hr rfl
 have l9:qau H none ⟨b,0+9,none⟩=some (I s.to):=qiC hr rfl
 have hE:=fun lo hl k=>qoU (lo:=lo) (Did.of d1.row d1.cells) hl k
 unfold pnG at hL d1|-
 cases hcb:qjh ws (qjx c (ofR s.h c.S).1 0) s.word with
 | true =>
   rw [hcb]at hL d1
   refine⟨_, ?_,d1.set hb⟩
   refine qgw rfl Fn.zcp rfl rfl ?_
   repeat' first|refine .A ?_|refine .B ?_|refine .C ?_|refine .D ?_|refine .F ?_|refine .J ?_|refine .f5 ?_|refine .L l7 ?_|refine .L (qiC d.row rfl) ?_|refine .L (qiD d.row (zzL rfl) rfl) ?_|refine .X (qiC d.row rfl) (qiH (qiC d.row rfl)) (qkv _) ?_|refine .P (hEn _) ?_|refine .P (hE _ hlo _) ?_|refine .W hL ?_|refine .Y ?_|fail
   rfl
 | false =>
   rw [hcb]at hL d1
   refine⟨_, ?_,d1.set hb⟩
   refine qgw rfl Fn.zcp rfl rfl ?_
   repeat' first|refine .A ?_|refine .B ?_|refine .D ?_|refine .F ?_|refine .J ?_|refine .f5 ?_|refine .L l7 ?_|refine .L (qiC d.row rfl) ?_|refine .L (qiD d.row (zzL rfl) rfl) ?_|refine .X (qiC d.row rfl) (qiH (qiC d.row rfl)) (qkv _) ?_|refine .P (hEn _) ?_|refine .W hL ?_|refine .S (qiE d1.row hlo (zzL rfl) rfl) ?_|refine .Y ?_|fail
   rfl
end
def qoX (c:Cfg)(s:Pn):List Value := [I c.A,I c.S,I c.T,I s.h,.bool s.un,I s.nx,I s.word,I s.to]
structure PnI (c:Cfg)(s:Pn):Prop where
 st:s.nx≠0->s.nx≠1->(ofR s.h c.S).2.2=0
section
variable {lo:Nat}{H:qab}{b:Nat}{c:Cfg}{s:Pn}{cb:CB}{ws bs:List Int}
def qoY (s:Pn)(o:Option Ent):(qoS s o).1.h=s.h:=by
 unfold qoS
 cases o with
 | none=>rfl
 | some e =>
   simp only
   split
   ·rfl
   ·unfold qoR;split<;>rfl
end
def qoZ (own:List Nat)(cb:CB):List Nat:=own ++ [cb.P,cb.W,cb.Y]
def Apart (own:List Nat)(cb:CB):Prop:=∀b∈own,b≠cb.P/\b≠cb.W/\b≠cb.Y
def qo0 {own:List Nat}{cb:CB}{b:Nat}(hb:b∈own):∀i∈[b,cb.P,cb.W,cb.Y],i∈qoZ own cb:=by
 intro i hi
 simp only [List.mem_cons,List.mem_nil_iff,or_false]at hi
 unfold qoZ
 rcases hi with rfl|rfl|rfl|rfl<;>simp [hb]
structure Fe where
 h:Int
 nx:Int
 word:Int
 p:Sk
def qo1 (s:Fe):Option Ent->Fe×Option (Int×Int)
 | none=>({s with nx:=0},some (4,0))
 | some e=>if 0<e.p then({s with nx:=0},some (6,0))else if e.u=0/\e.lk=false then({s with nx:=2},none)else(s,none)
def feG (c:Cfg)(s:Fe):Int:=qjx c (ofR s.h c.S).1 0
def qo2 (s:Fe)(r:Sk×List Int×Int×Bool):Fe×List Int×Option (Int×Int):=if r.2.2.2 then({s with p:=r.1,nx:=0},r.2.1,some (0,0))else({s with p:=r.1},r.2.1,none)
def feS (c:Cfg)(s:Fe)(ws:List Int):Fe×List Int×Option (Int×Int) :=
 if s.nx=0 then(s,ws,some (1,0))
 else if s.nx=1 then
  if(ofR s.h c.S).2.2≠0 then({s with nx:=0},ws,some (4,0))
  else((qo1 {s with word:=qi5 ws (feG c s)} (qoo ws c (ofR s.h c.S).1 (ofR s.h c.S).2.1)).1,ws,(qo1 {s with word:=qi5 ws (feG c s)} (qoo ws c (ofR s.h c.S).1 (ofR s.h c.S).2.1)).2)
 else if s.nx=2 then
  if qjh ws (feG c s) s.word then
   if qoe s.word then({s with nx:=3,p:=⟨1,(ofR s.h c.S).1,0,0⟩},qi6 ws (feG c s) (chE s.word qoc).1,none)
   else({s with nx:=0},qi6 ws (feG c s) (chE s.word qoc).1,some (0,0))
  else({s with nx:=1},ws,none)
 else qo2 s (qnN c s.p ws)
def qo3 (c:Cfg)(s:Fe)(to:Int)(more:Bool)(gv:Value):List Value :=
 [I c.T,I c.S,I (ofR s.h c.S).1,I (ofR s.h c.S).2.1,.bool (decide ((ofR s.h c.S).2.2≠0)),I s.nx,I s.word,I to,.bool more,gv]
structure FeP (H:qab)(own:List Nat)(c:Cfg)(s:Fe)(b:Nat):Prop where
 mem:b∈own
 row:∃to more gv,H[b]? = some (.row (qo3 c s to more gv) false)/\(s.nx=2->to=(chE s.word qoc).1/\more=qoe s.word)/\
  (s.nx≠0->s.nx≠1->s.nx≠2->∃g,gv=qkt g/\H[g]? = some (.row (qnL c s.p) false)/\b≠g/\g∈own)
section
variable {lo:Nat}{H:qab}{b:Nat}{c:Cfg}{s:Fe}{cb:CB}{ws bs:List Int}{to:Int}{more:Bool}{gv:Value}
def qo4 (d:Did H H b (qo3 c s to more gv) cb ws bs)(hlo:lo<=b)(k:Int):qfU En lo Id.zbE [qkt b,I k] H=some (qom (some (k,0)),H.set b (.row (qo3 c {s with nx:=0} to more gv) false)):=by
 refine qgw rfl Fn.zbE rfl rfl ?_
 repeat' first|refine .A ?_|refine .B ?_|refine .J ?_|refine .S (qiE d.row hlo (zzL rfl) rfl) ?_|refine .F ?_|refine .Y ?_|fail
 rfl
set_option maxHeartbeats 3200000 in
def qo5 (d:Did H H b (qo3 c s to more gv) cb ws bs)(hm:c.may)(hlo:lo<=b)(hlc:lo<=cb.P)(hb:b≠cb.P/\b≠cb.W/\b≠cb.Y)(h1:s.nx=1) :
  ∃to' more' H',qfU En lo Id.zbF [qkt b,ifC cb] H=some (qom (feS c s ws).2.2,H')/\Did H H' b (qo3 c (feS c s ws).1 to' more' gv) cb ws bs/\
   ((feS c s ws).1.nx=2->to'=(chE (feS c s ws).1.word qoc).1/\more'=qoe (feS c s ws).1.word):=by
 have l4:qau H none ⟨b,0+4,none⟩=some (.bool (decide ((ofR s.h c.S).2.2≠0))):=qiC d.row rfl
 unfold feS
 rw [if_neg (by omega),if_pos h1]
 by_cases hst:(ofR s.h c.S).2.2≠0
 ·rw [if_pos hst]
  rw [zzT hst]at l4
  have hE:=fun lo hl k=>qo4 (lo:=lo) d hl k
  refine⟨to,more,_, ?_,d.set hb,fun h=>by simp at h⟩
  refine qgw rfl Fn.zbF rfl rfl ?_
  repeat' first|refine .A ?_|refine .B ?_|refine .C ?_|refine .J ?_|refine .L l4 ?_|refine .P (hE _ hlo _) ?_|refine .F ?_|refine .Y ?_|fail
  rfl
 rw [if_neg hst]
 rw [zzF hst]at l4
 have hEn:=fun lo=>qjA lo H hm (ofR s.h c.S).1
 obtain⟨H1,hL,hC1,ho1⟩:=qjf d.cells hlc (feG c s)
 have d1:=d.on hC1 ho1 (by simp) hb
 unfold qoo
 rw [show qjx c (ofR s.h c.S).1 0=feG c s from rfl]
 unfold feG at hL|-
 generalize qi5 ws (qjx c (ofR s.h c.S).1 0)=w at hL|-
 have d2:=d1.set (row':=qo3 c {s with word:=w} to more gv) hb
 have s2:stN lo H1 ⟨b,0+6,none⟩ (qaf (I w))=some (H1.set b (.row (qo3 c {s with word:=w} to more gv) false)):=qiE d1.row hlo (zzL rfl) rfl
 generalize H1.set b (.row (qo3 c {s with word:=w} to more gv) false)=H2 at d2 s2
 have k6:qau H2 none ⟨b,0+6,none⟩=some (I w):=qiC d2.row rfl
 have k3:qau H2 none ⟨b,0+3,none⟩=some (I (ofR s.h c.S).2.1):=qiC d2.row rfl
 have hU:=fun lo=>qkn lo H2 w
 have hN:=fun lo=>qol lo H2 w
 unfold qof at hN
 have hE:=fun lo hl k=>qo4 (lo:=lo) (Did.of d2.row d2.cells) hl k
 cases hu:qkb w with
 | none =>
   rw [hu]at hU
   simp only [unV,Ent.zero,Ent.cs]at hU
   refine⟨to,more,_, ?_,d2.set hb,fun h=>by simp [qon,qo1]at h⟩
   refine qgw rfl Fn.zbF rfl rfl ?_
   repeat' first|refine .A ?_|refine .B ?_|refine .C ?_|refine .D ?_|refine .F ?_|refine .G ?_|refine .J ?_|refine .t6 ?_|refine .L l4 ?_|refine .L k6 ?_|refine .L (qiC d.row rfl) ?_|refine .L (qiD d.row (zzL rfl) rfl) ?_|refine .P (hEn _) ?_|refine .P (hU _) ?_|refine .P (hE _ hlo _) ?_|refine .W hL ?_|refine .S s2 ?_|refine .Y ?_|fail
   rfl
 | some e =>
   rw [hu]at hU
   obtain⟨o,g,p,u,lk,lv⟩:=e
   simp only [unV,Ent.cs]at hU
   by_cases hf:lv=true/\g=(ofR s.h c.S).2.1
   ·have e1:qon (ofR s.h c.S).2.1 (some ⟨o,g,p,u,lk,lv⟩)=some ⟨o,g,p,u,lk,lv⟩:=if_pos hf
    rw [e1]
    simp only [qo1]
    have hlv:=hf.1
    have hg:=hf.2
    subst hlv
    by_cases hp:0<p
    ·rw [if_pos hp]
     refine⟨to,more,_, ?_,d2.set hb,fun h=>by simp at h⟩
     refine qgw rfl Fn.zbF rfl rfl ?_
     repeat' first|refine .A ?_|refine .B ?_|refine .C ?_|refine .D ?_|refine .F ?_|refine .G ?_|refine .J ?_|refine .t3 ?_|refine .f6 ?_|(show EG _ _ (⟨_,.load _ _,_,_⟩::_) _ _ _ _ _ _;first|refine .L l4 ?_|refine .L k6 ?_|refine .L k3 ?_|refine .L (qiC d.row rfl) ?_|refine .L (qiD d.row (zzL rfl) rfl) ?_)|refine .P (hEn _) ?_|refine .P (hU _) ?_|refine .P (hE _ hlo _) ?_|refine .W hL ?_|refine .S s2 ?_|refine .Y ?_|fail
     rfl
    ·rw [if_neg hp]
     by_cases hul:u=0/\lk=false
     ·rw [if_pos hul]
      have h0:=hul.1
      have h2:=hul.2
      subst h2
      have d3:=d2.set (row':=qo3 c {s with word:=w} (chE w qoc).1 more gv) hb
      have s3:stN lo H2 ⟨b,0+7,none⟩ (qaf (I (chE w qoc).1))=some (H2.set b (.row (qo3 c {s with word:=w} (chE w qoc).1 more gv) false)):=qiE d2.row hlo (zzL rfl) rfl
      generalize H2.set b (.row (qo3 c {s with word:=w} (chE w qoc).1 more gv) false)=H3 at d3 s3
      refine⟨(chE w qoc).1,qoe w,_, ?_,d3.set hb,fun _=>⟨rfl,rfl⟩⟩
      refine qgw rfl Fn.zbF rfl rfl ?_
      repeat' first|refine .A ?_|refine .B ?_|refine .C ?_|refine .D ?_|refine .F ?_|refine .G ?_|refine .H ?_|refine .J ?_|refine .f3 ?_|refine .t5 ?_|refine .f6 ?_|(show EG _ _ (⟨_,.load _ _,_,_⟩::_) _ _ _ _ _ _;first|refine .L l4 ?_|refine .L k6 ?_|refine .L k3 ?_|refine .L (qiC d.row rfl) ?_|refine .L (qiD d.row (zzL rfl) rfl) ?_)|refine .P (hEn _) ?_|refine .P (hU _) ?_|refine .P (hN _) ?_|refine .W hL ?_|refine .S (qiE d3.row hlo (zzL rfl) rfl) ?_|refine .S (qoB (qiB d3.row) hlo (zzL rfl) rfl) ?_|refine .S s2 ?_|refine .S s3 ?_|refine .Y ?_|fail
      rfl
     ·rw [if_neg hul]
      refine⟨to,more,_, ?_,d2,fun h=>by simp only at h;omega⟩
      refine qgw rfl Fn.zbF rfl rfl ?_
      by_cases h0:u=0
      ·have h2:lk=true:=by cases lk;exact absurd ⟨h0,rfl⟩ hul;rfl
       subst h2
       repeat' first|refine .A ?_|refine .B ?_|refine .D ?_|refine .F ?_|refine .G ?_|refine .H ?_|refine .J ?_|refine .C ?_|refine .f3 ?_|refine .t5 ?_|refine .f6 ?_|(show EG _ _ (⟨_,.load _ _,_,_⟩::_) _ _ _ _ _ _;first|refine .L l4 ?_|refine .L k6 ?_|refine .L k3 ?_|refine .L (qiC d.row rfl) ?_|refine .L (qiD d.row (zzL rfl) rfl) ?_)|refine .P (hEn _) ?_|refine .P (hU _) ?_|refine .W hL ?_|refine .S s2 ?_|refine .Y ?_|fail
       rfl
      ·repeat' first|refine .A ?_|refine .B ?_|refine .D ?_|refine .F ?_|refine .G ?_|refine .H ?_|refine .J ?_|refine .C ?_|refine .f3 ?_|refine .f5 ?_|refine .f6 ?_|(show EG _ _ (⟨_,.load _ _,_,_⟩::_) _ _ _ _ _ _;first|refine .L l4 ?_|refine .L k6 ?_|refine .L k3 ?_|refine .L (qiC d.row rfl) ?_|refine .L (qiD d.row (zzL rfl) rfl) ?_)|refine .P (hEn _) ?_|refine .P (hU _) ?_|refine .W hL ?_|refine .S s2 ?_|refine .Y ?_|fail
       rfl
   ·have e1:qon (ofR s.h c.S).2.1 (some ⟨o,g,p,u,lk,lv⟩)=none:=if_neg hf
    rw [e1]
    refine⟨to,more,_, ?_,d2.set hb,fun h=>by simp [qo1]at h⟩
    refine qgw rfl Fn.zbF rfl rfl ?_
    cases lv with
    | false =>
      repeat' first|refine .A ?_|refine .B ?_|refine .C ?_|refine .D ?_|refine .F ?_|refine .G ?_|refine .J ?_|refine .f6 ?_|refine .L l4 ?_|refine .L k6 ?_|refine .L (qiC d.row rfl) ?_|refine .L (qiD d.row (zzL rfl) rfl) ?_|refine .P (hEn _) ?_|refine .P (hU _) ?_|refine .P (hE _ hlo _) ?_|refine .W hL ?_|refine .S s2 ?_|refine .Y ?_|fail
      rfl
    | true =>
      have hg:¬g=(ofR s.h c.S).2.1:=fun h=>hf ⟨rfl,h⟩
      repeat' first|refine .A ?_|refine .B ?_|refine .C ?_|refine .D ?_|refine .F ?_|refine .G ?_|refine .J ?_|refine .t6 ?_|refine .f6 ?_|(show EG _ _ (⟨_,.load _ _,_,_⟩::_) _ _ _ _ _ _;first|refine .L l4 ?_|refine .L k6 ?_|refine .L k3 ?_|refine .L (qiC d.row rfl) ?_|refine .L (qiD d.row (zzL rfl) rfl) ?_)|refine .P (hEn _) ?_|refine .P (hU _) ?_|refine .P (hE _ hlo _) ?_|refine .W hL ?_|refine .S s2 ?_|refine .Y ?_|fail
      rfl
def qo6 (lo:Nat)(H:qab)(c:Cfg)(sl:Int):qfU En lo Id.zds [lay c.T c.S,I sl] H=some (qkt H.length,H ++ [.row (qnL c ⟨1,sl,0,0⟩) false]):=by
 refine qgw rfl Fn.zds rfl rfl ?_
 repeat' first|refine .A ?_|refine .B ?_|refine .J ?_|refine .F ?_|refine .Y ?_|fail
 rfl
def qo7 (lo:Nat)(H:qab)(c:Cfg):qfU En lo Id.zdr [lay c.T c.S] H=some (qkt H.length,H ++ [.row (qnL c ⟨1,0,0,0⟩) false]):=by
 refine qgw rfl Fn.zdr rfl rfl ?_
 repeat' first|refine .A ?_|refine .B ?_|refine .J ?_|refine .F ?_|refine .Y ?_|fail
 rfl
set_option maxHeartbeats 3200000 in
def qo8 {own:List Nat}(hown:b∈own)(d:Did H H b (qo3 c s to more gv) cb ws bs)(hm:c.may)(hlo:lo<=b)(hlc:lo<=cb.P/\lo<=cb.W)(hb:b≠cb.P/\b≠cb.W/\b≠cb.Y)(h2:s.nx=2)(ht:to=(chE s.word qoc).1)(hmo:more=qoe s.word) :
  ∃own' H',qfU En lo Id.zbG [qkt b,ifC cb] H=some (qom (feS c s ws).2.2,H')/\FeP H' own' c (feS c s ws).1 b/\IsC H' cb (feS c s ws).2.1 bs/\Chg [b,cb.P,cb.W,cb.Y] H H'/\(∀x∈own,x∈own')/\(∀x∈own',x∈own\/H.length<=x):=by
 have hEn:=fun lo=>qjA lo H hm (ofR s.h c.S).1
 obtain⟨H1,hL,hC1,ho1⟩:=qji d.cells hlc.1 hlc.2 (feG c s) s.word to
 have d1:=d.on hC1 ho1 (by simp) hb
 have l6:qau H none ⟨b,0+6,none⟩=some (I s.word):=qiC d.row rfl
 have l7:qau H none ⟨b,0+7,none⟩=some (I to):=qiC d.row rfl
 have k8:qau H1 none ⟨b,0+8,none⟩=some (.bool more):=qiC d1.row rfl
 have hE:=fun lo hl k=>qo4 (lo:=lo) (Did.of d1.row d1.cells) hl k
 unfold feS
 rw [if_neg (by omega),if_neg (by omega),if_pos h2,<-ht,<-hmo]
 unfold feG at hL d1|-
 cases hcb:qjh ws (qjx c (ofR s.h c.S).1 0) s.word with
 | false =>
   rw [hcb]at hL d1
   have dd:=d1.set (row':=qo3 c {s with nx:=1} to more gv) hb
   refine⟨own,_, ?_,⟨hown,to,more,gv,dd.row,fun h=>by simp at h,fun _ h=>by simp at h⟩,dd.cells,dd.yz,fun _ h=>h,fun _ h => .inl h⟩
   refine qgw rfl Fn.zbG rfl rfl ?_
   repeat' first|refine .A ?_|refine .B ?_|refine .C ?_|refine .G ?_|refine .H ?_|refine .J ?_|refine .L (qiC d.row rfl) ?_|refine .L (qiD d.row (zzL rfl) rfl) ?_|refine .X (qiC d.row rfl) (qiH (qiC d.row rfl)) (qkv _) ?_|refine .P (hEn _) ?_|refine .W hL ?_|refine .S (qiE d1.row hlo (zzL rfl) rfl) ?_|refine .F ?_|refine .Y ?_|fail
   rfl
 | true =>
   rw [hcb]at hL d1
   cases more with
   | false =>
     have dd:=d1.set (row':=qo3 c {s with nx:=0} to false gv) hb
     refine⟨own,_, ?_,⟨hown,to,false,gv,dd.row,fun h=>by simp at h,fun h=>by simp at h⟩,dd.cells,dd.yz,fun _ h=>h,fun _ h => .inl h⟩
     refine qgw rfl Fn.zbG rfl rfl ?_
     repeat' first|refine .A ?_|refine .B ?_|refine .C ?_|refine .D ?_|refine .G ?_|refine .J ?_|refine .L k8 ?_|refine .L (qiC d.row rfl) ?_|refine .L (qiD d.row (zzL rfl) rfl) ?_|refine .X (qiC d.row rfl) (qiH (qiC d.row rfl)) (qkv _) ?_|refine .P (hEn _) ?_|refine .P (hE _ hlo _) ?_|refine .W hL ?_|refine .F ?_|refine .Y ?_|fail
     rfl
   | true =>
     have hNP:=fun lo=>qo6 lo H1 c (ofR s.h c.S).1
     have hbl:b<H1.length:=qiB d1.row
     have d2:Did H (H1 ++ [.row (qnL c ⟨1,(ofR s.h c.S).1,0,0⟩) false]) b (qo3 c s to true gv) cb (qi6 ws (qjx c (ofR s.h c.S).1 0) to) bs:=⟨qiA d1.row,d1.cells.app _,d1.yz.app _⟩
     have hg:(H1 ++ [Blk.row (qnL c ⟨1,(ofR s.h c.S).1,0,0⟩) false])[H1.length]? = some (.row (qnL c ⟨1,(ofR s.h c.S).1,0,0⟩) false):=zzC
     generalize H1 ++ [Blk.row (qnL c ⟨1,(ofR s.h c.S).1,0,0⟩) false]=H2 at hNP d2 hg
     have d3:=d2.set (row':=qo3 c s to true (qkt H1.length)) hb
     have s3:stN lo H2 ⟨b,0+9,none⟩ (qaf (qkt H1.length))=some (H2.set b (.row (qo3 c s to true (qkt H1.length)) false)):=qiE d2.row hlo (zzL rfl) rfl
     have hg3:(H2.set b (.row (qo3 c s to true (qkt H1.length)) false))[H1.length]? = some (.row (qnL c ⟨1,(ofR s.h c.S).1,0,0⟩) false):=qiz (by omega) hg
     generalize H2.set b (.row (qo3 c s to true (qkt H1.length)) false)=H3 at d3 s3 hg3
     have dd:=d3.set (row':=qo3 c {s with nx:=3,p:=⟨1,(ofR s.h c.S).1,0,0⟩} to true (qkt H1.length)) hb
     refine⟨H1.length::own,_, ?_,⟨List.mem_cons_of_mem _ hown,to,true,qkt H1.length,dd.row,fun h=>by simp at h,fun _ _ _=>⟨H1.length,rfl,qiz (by omega) hg3,by omega,by simp⟩⟩,dd.cells,dd.yz,fun _ h=>List.mem_cons_of_mem _ h,fun x h => ?_⟩
     ·refine qgw rfl Fn.zbG rfl rfl ?_
      repeat' first|refine .A ?_|refine .B ?_|refine .D ?_|refine .G ?_|refine .H ?_|refine .J ?_|(show EG _ _ (⟨_,.load _ _,_,_⟩::_) _ _ _ _ _ _;first|refine .L k8 ?_|refine .L (qiC d.row rfl) ?_|refine .L (qiD d.row (zzL rfl) rfl) ?_|refine .X (qiC d.row rfl) (qiH (qiC d.row rfl)) (qkv _) ?_|refine .L (qiC d1.row rfl) ?_|refine .L (qiD d1.row (zzL rfl) rfl) ?_)|refine .P (hEn _) ?_|refine .P (hNP _) ?_|refine .W hL ?_|refine .S (qiE d3.row hlo (zzL rfl) rfl) ?_|refine .S s3 ?_|refine .F ?_|refine .Y ?_|fail
      rfl
     ·rcases List.mem_cons.1 h with rfl|h
      ·exact .inr d1.yz.len
      ·exact .inl h
def Apart.at {own:List Nat}{cb:CB}(h:Apart own cb){b:Nat}(hb:b∈own):b≠cb.P/\b≠cb.W/\b≠cb.Y:=h b hb
set_option maxHeartbeats 3200000 in
def qo9 {own:List Nat}(hP:FeP H own c s b)(hC:IsC H cb ws bs)(hA:Apart own cb)(hm:c.may)(hlo:∀x∈own,lo<=x)(hlc:lo<=cb.P/\lo<=cb.W) :
  ∃own' H',qfU En lo Id.zbD [qkt b,ifC cb] H=some (qom (feS c s ws).2.2,H')/\FeP H' own' c (feS c s ws).1 b/\IsC H' cb (feS c s ws).2.1 bs/\Chg (qoZ own cb) H H'/\(∀x∈own,x∈own')/\(∀x∈own',x∈own\/H.length<=x):=by
 obtain⟨to,more,gv,hr,h2',h3'⟩:=hP.row
 have hb:=hA.at hP.mem
 have hlob:=hlo b hP.mem
 have d:=Did.of hr hC
 have l5:qau H none ⟨b,0+5,none⟩=some (I s.nx):=qiC hr rfl
 have hsub:=qo0 (cb:=cb) hP.mem
 by_cases h0:s.nx=0
 ·have e0:feS c s ws=(s,ws,some (1,0)):=by unfold feS;rw [if_pos h0]
  rw [e0]
  refine⟨own,H, ?_,hP,hC,Chg.refl _ _,fun _ h=>h,fun _ h => .inl h⟩
  refine qgw rfl Fn.zbD rfl rfl ?_
  repeat' first|refine .A ?_|refine .B ?_|refine .C ?_|refine .J ?_|refine .t5 ?_|refine .L l5 ?_|refine .F ?_|refine .Y ?_|fail
  rfl
 by_cases h1:s.nx=1
 ·obtain⟨to',more',H1,hL,d1,hx⟩:=qo5 (lo:=lo) d hm hlob hlc.1 hb h1
  have hws:(feS c s ws).2.1=ws:=by
   unfold feS
   rw [if_neg h0,if_pos h1]
   split<;>rfl
  have hn:(feS c s ws).1.nx=0\/(feS c s ws).1.nx=1\/(feS c s ws).1.nx=2:=by
   unfold feS
   rw [if_neg h0,if_pos h1]
   split
   ·simp
   ·unfold qo1
    split
    ·simp
    ·split
     ·simp
     ·split<;>simp [h1]
  rw [hws]
  generalize feS c s ws=r at hL d1 hx hn|-
  obtain⟨s',w',o⟩:=r
  refine⟨own,H1, ?_,⟨hP.mem,to',more',gv,d1.row,hx,fun a1 a2 a3=>by
   rcases hn with h|h|h
   ·exact absurd h a1
   ·exact absurd h a2
   ·exact absurd h a3⟩,d1.cells,d1.yz.mono hsub,fun _ h=>h,fun _ h => .inl h⟩
  cases o with
  | none =>
    simp only [qom]at hL|-
    refine qgw rfl Fn.zbD rfl rfl ?_
    repeat' first|refine .A ?_|refine .B ?_|refine .C ?_|refine .D ?_|refine .F ?_|refine .G ?_|refine .J ?_|refine .t5 ?_|refine .f5 ?_|refine .L l5 ?_|refine .P hL ?_|refine .Y ?_|fail
    rfl
  | some q =>
    simp only [qom]at hL|-
    refine qgw rfl Fn.zbD rfl rfl ?_
    repeat' first|refine .A ?_|refine .B ?_|refine .C ?_|refine .D ?_|refine .F ?_|refine .G ?_|refine .J ?_|refine .t5 ?_|refine .f5 ?_|refine .L l5 ?_|refine .P hL ?_|refine .Y ?_|fail
    rfl
 by_cases h2:s.nx=2
 ·obtain⟨own',H1,hL,hF,hC1,hx,g1,g2⟩:=qo8 (lo:=lo) hP.mem d hm hlob hlc hb h2 (h2' h2).1 (h2' h2).2
  refine⟨own',H1, ?_,hF,hC1,hx.mono hsub,g1,g2⟩
  generalize (feS c s ws).2.2=o at hL|-
  cases o with
  | none =>
    simp only [qom]at hL|-
    refine qgw rfl Fn.zbD rfl rfl ?_
    repeat' first|refine .A ?_|refine .B ?_|refine .C ?_|refine .D ?_|refine .F ?_|refine .G ?_|refine .J ?_|refine .t5 ?_|refine .f5 ?_|refine .L l5 ?_|refine .P hL ?_|refine .Y ?_|fail
    rfl
  | some q =>
    simp only [qom]at hL|-
    refine qgw rfl Fn.zbD rfl rfl ?_
    repeat' first|refine .A ?_|refine .B ?_|refine .C ?_|refine .D ?_|refine .F ?_|refine .G ?_|refine .J ?_|refine .t5 ?_|refine .f5 ?_|refine .L l5 ?_|refine .P hL ?_|refine .Y ?_|fail
    rfl
 ·obtain⟨g,rfl,hg,hbg,hgo⟩:=h3' h0 h1 h2
  have hbg':=hA.at hgo
  obtain⟨H1,hL,d1⟩:=qnW (lo:=lo) hg hC hbg' hm (hlo g hgo) hlc
  have l9:qau H none ⟨b,0+9,none⟩=some (qkt g):=qiC hr rfl
  have hr1:H1[b]? = some (.row (qo3 c s to more (qkt g)) false):=d1.yz.get hr (by simp [hbg,hb.1,hb.2.1,hb.2.2])
  have dr:Did H1 H1 b (qo3 c s to more (qkt g)) cb (qnN c s.p ws).2.1 bs:=Did.of hr1 d1.cells
  have hE:=fun lo hl k=>qo4 (lo:=lo) dr hl k
  have hc1:Chg (qoZ own cb) H H1:=d1.yz.mono (qo0 hgo)
  have e0:feS c s ws=qo2 s (qnN c s.p ws):=by unfold feS;rw [if_neg h0,if_neg h1,if_neg h2]
  rw [e0]
  unfold qnU at hL
  have hrg:=d1.row
  generalize qnN c s.p ws=r at hL dr hrg hE|-
  obtain⟨p',w',q,dn⟩:=r
  simp only at hL hrg
  cases dn with
  | true =>
    have dd:=dr.set (row':=qo3 c {s with p:=p',nx:=0} to more (qkt g)) hb
    refine⟨own,_, ?_,⟨hP.mem,to,more,qkt g,dd.row,fun h=>by simp [qo2]at h,fun h=>by simp [qo2]at h⟩,dd.cells,hc1.trans (dd.yz.mono hsub),fun _ h=>h,fun _ h => .inl h⟩
    refine qgw rfl Fn.zbD rfl rfl ?_
    repeat' first|refine .A ?_|refine .B ?_|refine .C ?_|refine .D ?_|refine .F ?_|refine .G ?_|refine .H ?_|refine .J ?_|refine .f5 ?_|refine .L l5 ?_|refine .L l9 ?_|refine .P hL ?_|refine .P (hE _ hlob _) ?_|refine .Y ?_|fail
    rfl
  | false =>
    refine⟨own,H1, ?_,⟨hP.mem,to,more,qkt g,hr1,fun h=>absurd h h2,fun _ _ _=>⟨g,rfl,hrg,hbg,hgo⟩⟩,dr.cells,hc1,fun _ h=>h,fun _ h => .inl h⟩
    refine qgw rfl Fn.zbD rfl rfl ?_
    repeat' first|refine .A ?_|refine .B ?_|refine .D ?_|refine .F ?_|refine .G ?_|refine .H ?_|refine .J ?_|refine .f5 ?_|refine .L l5 ?_|refine .L l9 ?_|refine .P hL ?_|refine .Y ?_|fail
    rfl
end
def qpa (c:Cfg)(s:Fe)(gv:Value):List Value := [I c.A,I c.S,I c.T,I s.h,I s.nx,I s.word,gv]
structure FeR (H:qab)(own:List Nat)(c:Cfg)(s:Fe)(b:Nat):Prop where
 mem:b∈own
 row:∃gv,H[b]? = some (.row (qpa c s gv) false)/\(s.nx≠0->s.nx≠1->s.nx≠2->∃g,gv=qkt g/\H[g]? = some (.row (qnX c true s.p) false)/\b≠g/\g∈own)
 st:s.nx≠0->s.nx≠1->(ofR s.h c.S).2.2=0
 rg:s.p.word<9223372036854775808
section
variable {lo:Nat}{H:qab}{b:Nat}{c:Cfg}{s:Fe}{cb:CB}{ws bs:List Int}{gv:Value}
def qpb (s:Fe)(o:Option Ent):(qo1 s o).1.h=s.h/\(qo1 s o).1.p=s.p/\((qo1 s o).1.nx=0\/(qo1 s o).1.nx=s.nx\/(qo1 s o).1.nx=2):=by
 unfold qo1
 cases o with
 | none=>exact⟨rfl,rfl,.inl rfl⟩
 | some e =>
   simp only
   split
   ·exact⟨rfl,rfl,.inl rfl⟩
   ·split
    ·exact⟨rfl,rfl,.inr (.inr rfl)⟩
    ·exact⟨rfl,rfl,.inr (.inl rfl)⟩
end
end Go.Proofs.YtlgnnpkdhbhdgaaGreat
