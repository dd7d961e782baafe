/- The stack's machines, step by step: by the program. -/
import Derived.Test.YtlgnnpkdhbhdgaaGreatThreadP3
import Derived.Test.YtlgnnpkdhbhdgaaGreatThreadP2
set_option linter.all false
namespace Go.Proofs.YtlgnnpkdhbhdgaaGreat
open Go Go.Ir
structure Sk where
 nx:Int
 slot:Int
 word:Int
 to:Int
def qnL (c:Cfg)(s:Sk):List Value := [I c.T,I c.S,I s.nx,I s.slot,I s.word,I s.to]
structure Did (H H':qab)(b:Nat)(row:List Value)(cb:CB)(ws bs:List Int):Prop where
 row:H'[b]? = some (.row row false)
 cells:IsC H' cb ws bs
 yz:Chg [b,cb.P,cb.W,cb.Y] H H'
def qnM (c:Cfg)(s:Sk)(ws:List Int):Sk×List Int×Int×Int×Bool :=
 if s.nx=1 then
  match qlW (qi5 ws 1)with
  | none=>({s with word:=qi5 ws 1,nx:=0},ws,0,2,true)
  | some p=>if p.1=0 then({s with word:=qi5 ws 1,nx:=0},ws,0,11,true)else({s with word:=qi5 ws 1,slot:=IntKind.i64.wrap ((p.1:Nat)-1),nx:=2},ws,0,0,false)
 else if s.nx=2 then
  if(ql2 s.word (qi5 ws (qjx c s.slot 2))).2.2=0 then({s with to:=(ql2 s.word (qi5 ws (qjx c s.slot 2))).1,nx:=3},ws,0,0,false)else({s with nx:=0},ws,0,2,true)
 else if s.nx=3 then
  if qjh ws 1 s.word then({s with nx:=0},qi6 ws 1 s.to,s.slot,0,true)else({s with nx:=1},ws,0,0,false)
 else(s,ws,0,1,true)
def qnN (c:Cfg)(s:Sk)(ws:List Int):Sk×List Int×Int×Bool :=
 if s.nx=1 then
  if qjx c s.slot 2<0 then({s with nx:=0},ws,1,true)
  else match qlW (qi5 ws 1)with
   | none=>({s with word:=qi5 ws 1,nx:=0},ws,2,true)
   | some _=>({s with word:=qi5 ws 1,nx:=2},ws,0,false)
 else if s.nx=2 then({s with to:=(ql4 s.word s.slot).1,nx:=3},qi6 ws (qjx c s.slot 2) (ql4 s.word s.slot).2.1,0,false)
 else if s.nx=3 then
  if qjh ws 1 s.word then({s with nx:=0},qi6 ws 1 s.to,0,true)else({s with nx:=1},ws,0,false)
 else(s,ws,1,true)
section
variable {lo:Nat}{H:qab}{b:Nat}{c:Cfg}{s:Sk}{cb:CB}{ws bs:List Int}
def qnO:Option (Nat×Nat)->Value
 | some p => .tuple #[N p.1,.bool true]
 | none => .tuple #[I 0,.bool false]
def qnP (w:Int):Value:=qnO (qlW w)
def qnQ (hr:H[b]? = some (.row (qnL c s) false))(hC:IsC H cb ws bs)(hb:b≠cb.P/\b≠cb.W/\b≠cb.Y)(hm:c.may)(hlo:lo<=b)(hlc:lo<=cb.P) :
  ∃H',qfU En lo Id.zdw [qkt b,ifC cb] H=some (qnP (qi5 ws 1),H')/\Did H H' b (qnL c {s with word:=qi5 ws 1}) cb ws bs:=by
 have l0:qau H (some 2) ⟨b,0+0,none⟩=some (lay c.T c.S):=qiD hr (zzL rfl) rfl
 have hS:=fun lo=>qjw lo H hm
 obtain⟨H1,hL,hC1,ho1⟩:=qjf hC hlc 1
 have c1:Chg [b,cb.P,cb.W,cb.Y] H H1:=(Chg.of ho1).mono (by simp)
 have hr1:H1[b]? = some (.row (qnL c s) false):=(Chg.of ho1).get hr (by simp;omega)
 generalize qi5 ws 1=w at hL|-
 have hst:stN lo H1 ⟨b,0+4,none⟩ (qaf (I w))=some (H1.set b (.row (qnL c {s with word:=w}) false)):=qiE hr1 hlo (zzL rfl) rfl
 have hC2:=hC1.yz (S := [b]) ((Chg.refl [b] H1).set (k := .row (qnL c {s with word:=w}) false) (i:=b) (by simp)) (by simp;omega)
 have c2:=c1.set (k := .row (qnL c {s with word:=w}) false) (i:=b) (by simp)
 have hr2:(H1.set b (.row (qnL c {s with word:=w}) false))[b]? = some (.row (qnL c {s with word:=w}) false):=qiy (qiB hr1)
 generalize H1.set b (.row (qnL c {s with word:=w}) false)=H2 at hst hC2 c2 hr2
 have l4:qau H2 none ⟨b,0+4,none⟩=some (I w):=qiC hr2 rfl
 have hU:=fun lo=>qmn lo H2 w
 refine⟨H2, ?_,hr2,hC2,c2⟩
 refine qgw rfl Fn.zdw rfl rfl ?_
 unfold ql0 at hU
 unfold qnP
 cases hu:qlW w with
 | none =>
   rw [hu]at hU
   simp only [qlZ]at hU
   repeat' first|refine .A ?_|refine .B ?_|refine .J ?_|refine .f5 ?_|refine .L l0 ?_|refine .L l4 ?_|refine .P (hS _) ?_|refine .P (hU _) ?_|refine .W hL ?_|refine .S hst ?_|refine .F ?_|refine .Y ?_|fail
   rfl
 | some p =>
   obtain⟨t,g⟩:=p
   rw [hu]at hU
   simp only [qlZ]at hU
   repeat' first|refine .A ?_|refine .B ?_|refine .J ?_|refine .t5 ?_|refine .L l0 ?_|refine .L l4 ?_|refine .P (hS _) ?_|refine .P (hU _) ?_|refine .W hL ?_|refine .S hst ?_|refine .F ?_|refine .Y ?_|fail
   rfl
def qnR (hr:H[b]? = some (.row (qnL c s) false))(hC:IsC H cb ws bs)(hb:b≠cb.P/\b≠cb.W/\b≠cb.Y)(hm:c.may)(hlo:lo<=b)(hlc:lo<=cb.P/\lo<=cb.W) :
  ∃H',qfU En lo Id.zdx [qkt b,ifC cb] H=some (.bool (qjh ws 1 s.word),H')/\Did H H' b (qnL c {s with nx:=if qjh ws 1 s.word then 0 else 1}) cb (if qjh ws 1 s.word then qi6 ws 1 s.to else ws) bs:=by
 have l0:qau H (some 2) ⟨b,0+0,none⟩=some (lay c.T c.S):=qiD hr (zzL rfl) rfl
 have l4:qau H none ⟨b,0+4,none⟩=some (I s.word):=qiC hr rfl
 have l5:qau H none ⟨b,0+5,none⟩=some (I s.to):=qiC hr rfl
 have hS:=fun lo=>qjw lo H hm
 obtain⟨H1,hL,hC1,ho1⟩:=qji hC hlc.1 hlc.2 1 s.word s.to
 have c1:Chg [b,cb.P,cb.W,cb.Y] H H1:=(Chg.of ho1).mono (by simp)
 have hr1:H1[b]? = some (.row (qnL c s) false):=(Chg.of ho1).get hr (by simp;omega)
 cases hb':qjh ws 1 s.word with
 | true =>
   rw [hb']at hL hC1
   have hst:stN lo H1 ⟨b,0+2,none⟩ (qaf (I 0))=some (H1.set b (.row (qnL c {s with nx:=0}) false)):=qiE hr1 hlo (zzL rfl) rfl
   refine⟨_, ?_,qiy (qiB hr1),hC1.yz (S := [b]) ((Chg.refl [b] H1).set (i:=b) (by simp)) (by simp;omega),c1.set (i:=b) (by simp)⟩
   refine qgw rfl Fn.zdx rfl rfl ?_
   repeat' first|refine .A ?_|refine .B ?_|refine .C ?_|refine .J ?_|refine .L l0 ?_|refine .P (hS _) ?_|refine .W hL ?_|refine .X l4 (qiH l4) (qkv _) ?_|refine .X l5 (qiH l5) (qkv _) ?_|refine .S hst ?_|refine .F ?_|refine .Y ?_|fail
   rfl
 | false =>
   rw [hb']at hL hC1
   have hst:stN lo H1 ⟨b,0+2,none⟩ (qaf (I 1))=some (H1.set b (.row (qnL c {s with nx:=1}) false)):=qiE hr1 hlo (zzL rfl) rfl
   refine⟨_, ?_,qiy (qiB hr1),hC1.yz (S := [b]) ((Chg.refl [b] H1).set (i:=b) (by simp)) (by simp;omega),c1.set (i:=b) (by simp)⟩
   refine qgw rfl Fn.zdx rfl rfl ?_
   repeat' first|refine .A ?_|refine .B ?_|refine .D ?_|refine .F ?_|refine .J ?_|refine .L l0 ?_|refine .P (hS _) ?_|refine .W hL ?_|refine .X l4 (qiH l4) (qkv _) ?_|refine .X l5 (qiH l5) (qkv _) ?_|refine .S hst ?_|refine .Y ?_|fail
   rfl
end
section
variable {lo:Nat}{H:qab}{b:Nat}{c:Cfg}{s:Sk}{cb:CB}{ws bs:List Int}
def Did.put {H1:qab}{row row':List Value}(d:Did H H1 b row cb ws bs)(hb:b≠cb.P/\b≠cb.W/\b≠cb.Y):Did H (H1.set b (.row row' false)) b row' cb ws bs :=
 ⟨qiy (qiB d.row),d.cells.yz (S := [b]) ((Chg.refl [b] H1).set (i:=b) (by simp)) (by simp;omega),d.yz.set (i:=b) (by simp)⟩
def Did.same (hr:H[b]? = some (.row (qnL c s) false))(hC:IsC H cb ws bs):Did H H b (qnL c s) cb ws bs:=⟨hr,hC,Chg.refl _ _⟩
def qnS (hr:H[b]? = some (.row (qnL c s) false))(hlo:lo<=b)(e:Int):qfU En lo Id.zdv [qkt b,I e] H=some (.tuple #[I 0,I e,.bool true],H.set b (.row (qnL c {s with nx:=0}) false)):=by
 have hst:stN lo H ⟨b,0+2,none⟩ (qaf (I 0))=some (H.set b (.row (qnL c {s with nx:=0}) false)):=qiE hr hlo (zzL rfl) rfl
 refine qgw rfl Fn.zdv rfl rfl ?_
 repeat' first|refine .A ?_|refine .B ?_|refine .J ?_|refine .S hst ?_|refine .F ?_|refine .Y ?_|fail
 rfl
def qnT (r:Sk×List Int×Int×Int×Bool):Value := .tuple #[I r.2.2.1,I r.2.2.2.1,.bool r.2.2.2.2]
def qnU (r:Sk×List Int×Int×Bool):Value := .tuple #[I r.2.2.1,.bool r.2.2.2]
set_option maxHeartbeats 1600000 in
def qnV (hr:H[b]? = some (.row (qnL c s) false))(hC:IsC H cb ws bs)(hb:b≠cb.P/\b≠cb.W/\b≠cb.Y)(hm:c.may)(hlo:lo<=b)(hlc:lo<=cb.P/\lo<=cb.W) :
  ∃H',qfU En lo Id.zdt [qkt b,ifC cb] H=some (qnT (qnM c s ws),H')/\Did H H' b (qnL c (qnM c s ws).1) cb (qnM c s ws).2.1 bs:=by
 have l2:qau H none ⟨b,0+0+2,none⟩=some (I s.nx):=qiC hr rfl
 unfold qnM qnT
 by_cases h1:s.nx=1
 ·rw [if_pos h1]
  rw [h1]at l2
  obtain⟨H1,hL,d1⟩:=qnQ hr hC hb hm hlo hlc.1
  unfold qnP at hL
  generalize qi5 ws 1=w at hL d1|-
  have hE:=fun lo hl e=>qnS (lo:=lo) d1.row hl e
  cases hu:qlW w with
  | none =>
    rw [hu]at hL
    simp only [qnO]at hL
    refine⟨_, ?_,d1.put hb⟩
    refine qgw rfl Fn.zdt rfl rfl ?_
    repeat' first|refine .A ?_|refine .B ?_|refine .C ?_|refine .D ?_|refine .F ?_|refine .G ?_|refine .J ?_|refine .t5 ?_|refine .L l2 ?_|refine .P hL ?_|refine .P (hE _ hlo _) ?_|refine .Y ?_|fail
    rfl
  | some p =>
    obtain⟨t,g⟩:=p
    rw [hu]at hL
    simp only [qnO]at hL|-
    by_cases ht:t=0
    ·rw [if_pos ht]
     refine⟨_, ?_,d1.put hb⟩
     refine qgw rfl Fn.zdt rfl rfl ?_
     repeat' first|refine .A ?_|refine .B ?_|refine .C ?_|refine .D ?_|refine .F ?_|refine .G ?_|refine .J ?_|refine .t5 ?_|refine .L l2 ?_|refine .P hL ?_|refine .P (hE _ hlo _) ?_|refine .Y ?_|fail
     rfl
    ·rw [if_neg ht]
     have d2:=d1.put (row':=qnL c {s with word:=w,slot:=IntKind.i64.wrap ((t:Nat)-1)}) hb
     have hs1:stN lo H1 ⟨b,0+0+3,none⟩ (qaf (I (IntKind.i64.wrap ((t:Nat)-1))))=some (H1.set b (.row (qnL c {s with word:=w,slot:=IntKind.i64.wrap ((t:Nat)-1)}) false)):=qiE d1.row hlo (zzL rfl) rfl
     generalize H1.set b (.row (qnL c {s with word:=w,slot:=IntKind.i64.wrap ((t:Nat)-1)}) false)=H2 at d2 hs1
     have hs2:stN lo H2 ⟨b,0+0+2,none⟩ (qaf (I 2))=some (H2.set b (.row (qnL c {s with word:=w,slot:=IntKind.i64.wrap ((t:Nat)-1),nx:=2}) false)):=qiE d2.row hlo (zzL rfl) rfl
     refine⟨_, ?_,d2.put hb⟩
     refine qgw rfl Fn.zdt rfl rfl ?_
     repeat' first|refine .A ?_|refine .B ?_|refine .C ?_|refine .D ?_|refine .F ?_|refine .G ?_|refine .H ?_|refine .J ?_|refine .t5 ?_|refine .f5 ?_|refine .L l2 ?_|refine .P hL ?_|refine .S hs1 ?_|refine .S hs2 ?_|refine .Y ?_|fail
     rfl
 ·rw [if_neg h1]
  by_cases h2:s.nx=2
  ·rw [if_pos h2]
   have l0:qau H (some 2) ⟨b,0+0+0,none⟩=some (lay c.T c.S):=qiD hr (zzL rfl) rfl
   have l3:qau H none ⟨b,0+0+3,none⟩=some (I s.slot):=qiC hr rfl
   have l4:qau H none ⟨b,0+0+4,none⟩=some (I s.word):=qiC hr rfl
   have hK:=fun lo=>qjz lo H hm s.slot
   obtain⟨H1,hL,hC1,ho1⟩:=qjf hC hlc.1 (qjx c s.slot 2)
   have c1:Chg [b,cb.P,cb.W,cb.Y] H H1:=(Chg.of ho1).mono (by simp)
   have hr1:H1[b]? = some (.row (qnL c s) false):=(Chg.of ho1).get hr (by simp;omega)
   have d1:Did H H1 b (qnL c s) cb ws bs:=⟨hr1,hC1,c1⟩
   have k4:qau H1 none ⟨b,0+0+4,none⟩=some (I s.word):=qiC hr1 rfl
   have hP:=fun lo=>qmp lo H1 s.word (qi5 ws (qjx c s.slot 2))
   have hE:=fun lo hl e=>qnS (lo:=lo) hr1 hl e
   unfold ql5 at hP
   generalize ql2 s.word (qi5 ws (qjx c s.slot 2))=r at hP|-
   obtain⟨to,sl,co⟩:=r
   simp only at hP|-
   by_cases hc0:co=0
   ·rw [if_pos hc0]
    have d2:=d1.put (row':=qnL c {s with to:=to}) hb
    have hs1:stN lo H1 ⟨b,0+0+5,none⟩ (qaf (I to))=some (H1.set b (.row (qnL c {s with to:=to}) false)):=qiE hr1 hlo (zzL rfl) rfl
    generalize H1.set b (.row (qnL c {s with to:=to}) false)=H2 at d2 hs1
    have hs2:stN lo H2 ⟨b,0+0+2,none⟩ (qaf (I 3))=some (H2.set b (.row (qnL c {s with to:=to,nx:=3}) false)):=qiE d2.row hlo (zzL rfl) rfl
    refine⟨_, ?_,d2.put hb⟩
    refine qgw rfl Fn.zdt rfl rfl ?_
    repeat' first|refine .A ?_|refine .B ?_|refine .C ?_|refine .D ?_|refine .F ?_|refine .G ?_|refine .H ?_|refine .J ?_|refine .t5 ?_|refine .f5 ?_|refine .f6 ?_|refine .L l2 ?_|refine .L l0 ?_|refine .L l3 ?_|refine .P (hK _) ?_|refine .P (hP _) ?_|refine .W hL ?_|refine .X k4 (qku l4 l4) (qkv _) ?_|refine .S hs1 ?_|refine .S hs2 ?_|refine .Y ?_|fail
    rfl
   ·rw [if_neg hc0]
    refine⟨_, ?_,d1.put hb⟩
    refine qgw rfl Fn.zdt rfl rfl ?_
    repeat' first|refine .A ?_|refine .B ?_|refine .C ?_|refine .D ?_|refine .F ?_|refine .G ?_|refine .J ?_|refine .t5 ?_|refine .f5 ?_|refine .t6 ?_|refine .L l2 ?_|refine .L l0 ?_|refine .L l3 ?_|refine .P (hK _) ?_|refine .P (hP _) ?_|refine .P (hE _ hlo _) ?_|refine .W hL ?_|refine .X k4 (qku l4 l4) (qkv _) ?_|refine .Y ?_|fail
    rfl
  ·rw [if_neg h2]
   by_cases h3:s.nx=3
   ·rw [if_pos h3]
    obtain⟨H1,hW,d1⟩:=qnR hr hC hb hm hlo hlc
    have k3:qau H1 none ⟨b,0+0+3,none⟩=some (I s.slot):=qiC d1.row rfl
    refine⟨H1, ?_, ?_⟩
    ·refine qgw rfl Fn.zdt rfl rfl ?_
     cases hb':qjh ws 1 s.word
     all_goals
      rw [hb']at hW
      repeat' first|refine .A ?_|refine .B ?_|refine .C ?_|refine .D ?_|refine .F ?_|refine .G ?_|refine .H ?_|refine .J ?_|refine .t5 ?_|refine .f5 ?_|refine .L l2 ?_|refine .L k3 ?_|refine .P hW ?_|refine .Y ?_|fail
      rfl
    ·cases hb':qjh ws 1 s.word
     all_goals
      rw [hb']at d1
      exact d1
   ·rw [if_neg h3]
    refine⟨H, ?_,.same hr hC⟩
    refine qgw rfl Fn.zdt rfl rfl ?_
    repeat' first|refine .A ?_|refine .B ?_|refine .D ?_|refine .F ?_|refine .G ?_|refine .J ?_|refine .f5 ?_|refine .L l2 ?_|refine .Y ?_|fail
    rfl
set_option maxHeartbeats 1600000 in
def qnW (hr:H[b]? = some (.row (qnL c s) false))(hC:IsC H cb ws bs)(hb:b≠cb.P/\b≠cb.W/\b≠cb.Y)(hm:c.may)(hlo:lo<=b)(hlc:lo<=cb.P/\lo<=cb.W) :
  ∃H',qfU En lo Id.zdu [qkt b,ifC cb] H=some (qnU (qnN c s ws),H')/\Did H H' b (qnL c (qnN c s ws).1) cb (qnN c s ws).2.1 bs:=by
 have l2:qau H none ⟨b,0+0+2,none⟩=some (I s.nx):=qiC hr rfl
 have l0:qau H (some 2) ⟨b,0+0+0,none⟩=some (lay c.T c.S):=qiD hr (zzL rfl) rfl
 have l3:qau H none ⟨b,0+0+3,none⟩=some (I s.slot):=qiC hr rfl
 have l4:qau H none ⟨b,0+0+4,none⟩=some (I s.word):=qiC hr rfl
 have hK:=fun lo=>qjz lo H hm s.slot
 unfold qnN qnU
 by_cases h1:s.nx=1
 ·rw [if_pos h1]
  rw [h1]at l2
  by_cases hsl:qjx c s.slot 2<0
  ·rw [if_pos hsl]
   have hs1:stN lo H ⟨b,0+0+2,none⟩ (qaf (I 0))=some (H.set b (.row (qnL c {s with nx:=0}) false)):=qiE hr hlo (zzL rfl) rfl
   refine⟨_, ?_,(Did.same hr hC).put hb⟩
   refine qgw rfl Fn.zdu rfl rfl ?_
   repeat' first|refine .A ?_|refine .B ?_|refine .C ?_|refine .D ?_|refine .F ?_|refine .G ?_|refine .J ?_|refine .t1 ?_|refine .t5 ?_|refine .L l2 ?_|refine .L l0 ?_|refine .L l3 ?_|refine .P (hK _) ?_|refine .S hs1 ?_|refine .Y ?_|fail
   rfl
  ·rw [if_neg hsl]
   obtain⟨H1,hL,d1⟩:=qnQ hr hC hb hm hlo hlc.1
   unfold qnP at hL
   generalize qi5 ws 1=w at hL d1|-
   cases hu:qlW w with
   | none =>
     rw [hu]at hL
     simp only [qnO]at hL
     have hs1:stN lo H1 ⟨b,0+0+2,none⟩ (qaf (I 0))=some (H1.set b (.row (qnL c {s with word:=w,nx:=0}) false)):=qiE d1.row hlo (zzL rfl) rfl
     refine⟨_, ?_,d1.put hb⟩
     refine qgw rfl Fn.zdu rfl rfl ?_
     repeat' first|refine .A ?_|refine .B ?_|refine .C ?_|refine .D ?_|refine .F ?_|refine .G ?_|refine .J ?_|refine .f1 ?_|refine .t5 ?_|refine .L l2 ?_|refine .L l0 ?_|refine .L l3 ?_|refine .P (hK _) ?_|refine .P hL ?_|refine .S hs1 ?_|refine .Y ?_|fail
     rfl
   | some p =>
     obtain⟨t,g⟩:=p
     rw [hu]at hL
     simp only [qnO]at hL
     have hs1:stN lo H1 ⟨b,0+0+2,none⟩ (qaf (I 2))=some (H1.set b (.row (qnL c {s with word:=w,nx:=2}) false)):=qiE d1.row hlo (zzL rfl) rfl
     refine⟨_, ?_,d1.put hb⟩
     refine qgw rfl Fn.zdu rfl rfl ?_
     repeat' first|refine .A ?_|refine .B ?_|refine .C ?_|refine .D ?_|refine .F ?_|refine .G ?_|refine .H ?_|refine .J ?_|refine .f1 ?_|refine .t5 ?_|refine .L l2 ?_|refine .L l0 ?_|refine .L l3 ?_|refine .P (hK _) ?_|refine .P hL ?_|refine .S hs1 ?_|refine .Y ?_|fail
     rfl
 ·rw [if_neg h1]
  by_cases h2:s.nx=2
  ·rw [if_pos h2]
   have hP:=fun lo=>qmq lo H s.word s.slot
   unfold ql5 at hP
   generalize ql4 s.word s.slot=r at hP|-
   obtain⟨to,be,co⟩:=r
   simp only at hP|-
   obtain⟨H1,hL,hC1,ho1⟩:=qjg hC hlc.1 hlc.2 (qjx c s.slot 2) be
   have c1:Chg [b,cb.P,cb.W,cb.Y] H H1:=(Chg.of ho1).mono (by simp)
   have hr1:H1[b]? = some (.row (qnL c s) false):=(Chg.of ho1).get hr (by simp;omega)
   have d1:Did H H1 b (qnL c s) cb (qi6 ws (qjx c s.slot 2) be) bs:=⟨hr1,hC1,c1⟩
   have d2:=d1.put (row':=qnL c {s with to:=to}) hb
   have hs1:stN lo H1 ⟨b,0+0+5,none⟩ (qaf (I to))=some (H1.set b (.row (qnL c {s with to:=to}) false)):=qiE hr1 hlo (zzL rfl) rfl
   generalize H1.set b (.row (qnL c {s with to:=to}) false)=H2 at d2 hs1
   have hs2:stN lo H2 ⟨b,0+0+2,none⟩ (qaf (I 3))=some (H2.set b (.row (qnL c {s with to:=to,nx:=3}) false)):=qiE d2.row hlo (zzL rfl) rfl
   refine⟨_, ?_,d2.put hb⟩
   refine qgw rfl Fn.zdu rfl rfl ?_
   repeat' first|refine .A ?_|refine .B ?_|refine .C ?_|refine .D ?_|refine .F ?_|refine .G ?_|refine .H ?_|refine .J ?_|refine .t5 ?_|refine .f5 ?_|refine .L l2 ?_|refine .L l0 ?_|refine .L l3 ?_|refine .L l4 ?_|refine .P (hK _) ?_|refine .P (hP _) ?_|refine .W hL ?_|refine .S hs1 ?_|refine .S hs2 ?_|refine .Y ?_|fail
   rfl
  ·rw [if_neg h2]
   by_cases h3:s.nx=3
   ·rw [if_pos h3]
    obtain⟨H1,hW,d1⟩:=qnR hr hC hb hm hlo hlc
    refine⟨H1, ?_, ?_⟩
    ·refine qgw rfl Fn.zdu rfl rfl ?_
     cases hb':qjh ws 1 s.word
     all_goals
      rw [hb']at hW
      repeat' first|refine .A ?_|refine .B ?_|refine .C ?_|refine .D ?_|refine .F ?_|refine .G ?_|refine .J ?_|refine .t5 ?_|refine .f5 ?_|refine .L l2 ?_|refine .P hW ?_|refine .Y ?_|fail
      rfl
    ·cases hb':qjh ws 1 s.word
     all_goals
      rw [hb']at d1
      exact d1
   ·rw [if_neg h3]
    refine⟨H, ?_,.same hr hC⟩
    refine qgw rfl Fn.zdu rfl rfl ?_
    repeat' first|refine .A ?_|refine .B ?_|refine .D ?_|refine .F ?_|refine .G ?_|refine .J ?_|refine .f5 ?_|refine .L l2 ?_|refine .Y ?_|fail
    rfl
end
structure IsR (H:qab)(c:CB)(ws bs:List Int):Prop where
 p:∃st,H[c.P]? = some (.row (qi4 c ws.length bs.length st) false)
 w:H[c.W]? = some (.row (qiQ ws) false)
 y:H[c.Y]? = some (.row (qiQ bs) false)
 pw:c.P≠c.W
 py:c.P≠c.Y
 wy:c.W≠c.Y
 byte:∀b∈bs,0<=b/\b<256
def IsR.yz {S:List Nat}{H H':qab}{c:CB}{ws bs:List Int}(hC:IsR H c ws bs)(a:Chg S H H')(h:c.P∉S/\c.W∉S/\c.Y∉S):IsR H' c ws bs:=by
 obtain⟨st,hp⟩:=hC.p
 exact⟨⟨st,a.get hp h.1⟩,a.get hC.w h.2.1,a.get hC.y h.2.2,hC.pw,hC.py,hC.wy,hC.byte⟩
section
variable {lo:Nat}{H:qab}{c:CB}{ws bs:List Int}
def IsR.p0 (hC:IsR H c ws bs):qau H none ⟨c.P,0+0,none⟩=some (.slice (some ⟨c.W,0,none⟩) ws.length ws.length):=by
 obtain⟨st,hp⟩:=hC.p
 exact qiC hp rfl
def IsR.p1 (hC:IsR H c ws bs):qau H none ⟨c.P,0+1,none⟩=some (.slice (some ⟨c.Y,0,none⟩) bs.length bs.length):=by
 obtain⟨st,hp⟩:=hC.p
 exact qiC hp rfl
def IsR.w_ld (hC:IsR H c ws bs){k:Nat}(hk:k<ws.length):qau H none ⟨c.W,0+k*1,none⟩=some (I (ws.getD k 0)) :=
 qiC hC.w (by rw [Nat.zero_add,Nat.mul_one,qiQ,List.getElem?_map,qja hk];rfl)
def IsR.y_ld (hC:IsR H c ws bs){k:Nat}(hk:k<bs.length):qau H none ⟨c.Y,0+k*1,none⟩=some (I (bs.getD k 0)) :=
 qiC hC.y (by rw [Nat.zero_add,Nat.mul_one,qiQ,List.getElem?_map,qja hk];rfl)
def IsR.wax (hC:IsR H c ws bs){k:Nat}(hk:k<ws.length)(n:Int)(hlo:lo<=c.W) :
  stN lo H ⟨c.W,0+k*1,none⟩ (qaf (I n))=some (H.set c.W (.row (qiQ (ws.set k n)) false))/\IsR (H.set c.W (.row (qiQ (ws.set k n)) false)) c (ws.set k n) bs/\Only [c.W] H (H.set c.W (.row (qiQ (ws.set k n)) false)):=by
 refine⟨?_,⟨?_,qiy (qiB hC.w),qiz hC.wy hC.y,hC.pw,hC.py,hC.wy,hC.byte⟩,(Only.refl _ _).set (by simp)⟩
 ·rw [Nat.zero_add,Nat.mul_one]
  exact qiE hC.w hlo (by show k+1<=_;simp [qiQ];omega) (qje hk)
 ·obtain⟨st,hp⟩:=hC.p
  exact⟨st,by rw [zzQ];exact qiz hC.pw.symm hp⟩
def IsR.waP (hC:IsR H c ws bs){k:Nat}(hk:k<bs.length)(n:Int)(hn:0<=n/\n<256)(hlo:lo<=c.Y) :
  stN lo H ⟨c.Y,0+k*1,none⟩ (qaf (I n))=some (H.set c.Y (.row (qiQ (bs.set k n)) false))/\IsR (H.set c.Y (.row (qiQ (bs.set k n)) false)) c ws (bs.set k n)/\Only [c.Y] H (H.set c.Y (.row (qiQ (bs.set k n)) false)):=by
 refine⟨?_,⟨?_,qiz hC.wy.symm hC.w,qiy (qiB hC.y),hC.pw,hC.py,hC.wy,fun b hb => ?_⟩,(Only.refl _ _).set (by simp)⟩
 ·rw [Nat.zero_add,Nat.mul_one]
  exact qiE hC.y hlo (by show k+1<=_;simp [qiQ];omega) (qje hk)
 ·obtain⟨st,hp⟩:=hC.p
  exact⟨st,by rw [zzQ];exact qiz hC.py.symm hp⟩
 ·rcases List.mem_or_eq_of_mem_set hb with h|h
  ·exact hC.byte b h
  ·subst h;exact hn
end
end Go.Proofs.YtlgnnpkdhbhdgaaGreat
namespace Go.Ir
open Go
section
variable {E:Env}{lo:Nat}{os:List IOper}{f:Fr}{h:qab}{hs:List qab}{k:List Item}{rs:List qaj}{Q:Value->qab->Prop}{d:Nat}{g:Option (Nat×Bool)}{x y:Operand}
end
end Go.Ir
namespace Go.Proofs.YtlgnnpkdhbhdgaaGreat
open Go Go.Ir
section
variable {lo:Nat}{h:qab}{c:Cfg}
end
section
variable {lo:Nat}{h:qab}{c:Cfg}
end
end Go.Proofs.YtlgnnpkdhbhdgaaGreat
