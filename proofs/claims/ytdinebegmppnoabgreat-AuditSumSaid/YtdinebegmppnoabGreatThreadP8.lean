/- An object made, step by step: by the program. -/
import Derived.Test.YtdinebegmppnoabGreatThreadP7
import Derived.Test.YtdinebegmppnoabGreatThreadP5
import Derived.Test.YtdinebegmppnoabGreatThreadP2
set_option linter.unusedVariables false
set_option linter.unusedSimpArgs false

namespace Go.Proofs.YtdinebegmppnoabGreat
open Go Go.Ir

structure Al where
 n:Int
 nx:Int
 seen:Int
 kept:Int
 slot:Int
 f:Int
 at_:Int
 gen:Int
 word:Int
 cl:Bool
 p:Sk
 q:Sk
def qo6 (n:Int):Int:=if 1≤n∧n≤256 then qkr n else 0
def qo7 (e:Ent):Int:=if e.may then(qkd e:Nat)else 0
def qo8 (s g:Int):Int:=if 0≤s∧s<64∧0≤g∧g≤1000 then hnd s g else 0
def qo9 (s:Al)(r:Sk×List Int×Int×Int×Bool):Al×List Int :=
 if r.2.2.2.2 then(if r.2.2.2.1≠0 then({s with p:=r.1,kept:=r.2.2.2.1,nx:=11},r.2.1)else({s with p:=r.1,slot:=r.2.2.1,nx:=4},r.2.1))else({s with p:=r.1},r.2.1)
def qpa (s:Al)(r:Sk×List Int×Int×Bool):Al×List Int:=if r.2.2.2 then({s with q:=r.1,nx:=11},r.2.1)else({s with q:=r.1},r.2.1)
def qpb (s:Al):Option Ent→Al
 | none => {s with gen:=0,kept:=2,nx:=10}
 | some e=>if e.lv then {s with gen:=e.g,kept:=2,nx:=10} else {s with gen:=e.g,word:=qo7 ⟨s.f,e.g,0,0,false,true⟩,nx:=10}
def qpc (s:Al):Int×Int:=if s.kept≠0 then(s.kept,0)else(0,qo8 s.slot s.gen)
def alS (c:Cfg)(s:Al)(ws bs:List Int):Al×List Int×List Int×Option (Int×Int) :=
 if s.nx=0 then(s,ws,bs,some (1,0))
 else if s.nx=1 then
  if qo6 s.n=0 then({s with nx:=0},ws,bs,some (9,0))else({s with seen:=qi6 ws 2,nx:=2},ws,bs,none)
 else if s.nx=2 then
  if qji ws 2 s.seen then({s with nx:=3},qi7 ws 2 (w64 (s.seen+1)),bs,none)else({s with nx:=1},ws,bs,none)
 else if s.nx=3 then((qo9 s (qnM c s.p ws)).1,(qo9 s (qnM c s.p ws)).2,bs,none)
 else if s.nx=4 then
  if qi6 ws 0<0∨w64 (c.A-qo6 s.n)<qi6 ws 0 then({s with f:=qi6 ws 0,kept:=10,q:=⟨1,s.slot,0,0⟩,nx:=6},ws,bs,none)else({s with f:=qi6 ws 0,nx:=5},ws,bs,none)
 else if s.nx=5 then
  if qji ws 0 s.f then({s with cl:=true,nx:=7},qi7 ws 0 (w64 (s.f+qo6 s.n)),bs,none)else({s with nx:=4},ws,bs,none)
 else if s.nx=6 then((qpa s (qnN c s.q ws)).1,(qpa s (qnN c s.q ws)).2,bs,none)
 else if s.nx=7 then
  if w64 (s.at_+1)=qo6 s.n then({s with at_:=w64 (s.at_+1),nx:=8},ws,qi7 bs (w64 (s.f+s.at_)) (qi9 0),none)else({s with at_:=w64 (s.at_+1)},ws,qi7 bs (w64 (s.f+s.at_)) (qi9 0),none)
 else if s.nx=8 then({s with nx:=9},qi7 ws (qjy c s.slot 1) s.n,bs,none)
 else if s.nx=9 then(qpb s (qkc (qi6 ws (qjy c s.slot 0))),ws,bs,none)
 else if s.nx=10 then({s with cl:=false,nx:=11},if s.kept=0 then qi7 ws (qjy c s.slot 0) s.word else ws,bs,none)
 else if s.nx=11 then({s with seen:=qi6 ws 2,nx:=12},ws,bs,none)
 else if qji ws 2 s.seen then({s with nx:=0},qi7 ws 2 (w64 (s.seen + -1)),bs,some (qpc s))else({s with nx:=11},ws,bs,none)

def qpd (c:Cfg)(s:Al)(t:Nat)(gv:Value):List Value :=
 [qku t,gv,I c.T,I c.S,I c.A,I s.n,I (qo6 s.n),I s.nx,I s.seen,I s.kept,I s.slot,I s.f,I s.at_,I s.gen,I s.word,.bool s.cl]
structure AlP (H:qab)(own:List Nat)(c:Cfg)(s:Al)(b:Nat):Prop where
 mem:b∈own
 nx:0≤s.nx∧s.nx≤12
 row:∃t gv,H[b]? = some (.row (qpd c s t gv) false)∧H[t]? = some (.row (qnL c s.p) false)∧b≠t∧t∈own∧
  (s.nx=6→∃g,gv=qku g∧H[g]? = some (.row (qnL c s.q) false)∧b≠g∧t≠g∧g∈own)

section
variable {H:qab}{b t:Nat}{c:Cfg}{s:Al}{cb:CB}{ws bs:List Int}{gv:Value}
theorem qpe (d:Did H H b (qpd c s t gv) cb ws bs)(e k:Int):qfV En 0 Id.zad [qku b,I e,I k] H=some (qag,H.set b (.row (qpd c {s with kept:=e,nx:=k} t gv) false)):=by
 have hlo:0≤b:=Nat.zero_le _
 refine qgx rfl Fn.zad rfl rfl ?_
 repeat' first|refine .B ?_|refine .nil rfl ?_|refine .A ?_|refine .S (qiF d.row hlo (Nat.le_of_ble_eq_true rfl) rfl) ?_|refine .S (qoy (qiC d.row) hlo (Nat.le_of_ble_eq_true rfl) rfl) ?_|refine .F ?_|refine .Y ?_|fail
 rfl
theorem qpf (d:Did H H b (qpd c s t gv) cb ws bs)(hm:c.may)(hb:b≠cb.P∧b≠cb.W∧b≠cb.Y)(by_ again next:Int) :
  ∃H',qfV En 0 Id.zag [qku b,ifC cb,I by_,I again,I next] H=some (.bool (qji ws 2 s.seen),H')∧Did H H' b (qpd c {s with nx:=if qji ws 2 s.seen then next else again} t gv) cb (if qji ws 2 s.seen then qi7 ws 2 (w64 (s.seen+by_))else ws) bs:=by
 have hlo:0≤b:=Nat.zero_le _
 have hP:=fun lo=>qjE lo H hm
 obtain⟨H1,hL,hC1,ho1⟩:=qjj (lo:=0) d.cells (Nat.zero_le _) (Nat.zero_le _) 2 s.seen (w64 (s.seen+by_))
 have d1:=d.on hC1 ho1 (by simp) hb
 cases hcb:qji ws 2 s.seen with
 | true =>
   rw [hcb]at hL d1
   refine⟨_, ?_,d1.set hb⟩
   refine qgx rfl Fn.zag rfl rfl ?_
   repeat' first|refine .A ?_|refine .B ?_|refine .D ?_|refine .F ?_|refine .J ?_|refine .L (qiE d.row (Nat.le_of_ble_eq_true rfl) rfl) ?_|refine .X (qiD d.row rfl) (qiI (qiD d.row rfl)) (qkw _) ?_|refine .P (hP _) ?_|refine .W hL ?_|refine .S (qiF d1.row hlo (Nat.le_of_ble_eq_true rfl) rfl) ?_|refine .Y ?_|fail
   rfl
 | false =>
   rw [hcb]at hL d1
   refine⟨_, ?_,d1.set hb⟩
   refine qgx rfl Fn.zag rfl rfl ?_
   repeat' first|refine .A ?_|refine .B ?_|refine .C ?_|refine .J ?_|refine .L (qiE d.row (Nat.le_of_ble_eq_true rfl) rfl) ?_|refine .X (qiD d.row rfl) (qiI (qiD d.row rfl)) (qkw _) ?_|refine .P (hP _) ?_|refine .W hL ?_|refine .S (qiF d1.row hlo (Nat.le_of_ble_eq_true rfl) rfl) ?_|refine .F ?_|refine .Y ?_|fail
   rfl

set_option maxHeartbeats 1600000 in
theorem qpg (d:Did H H b (qpd c s t gv) cb ws bs)(hm:c.may)(hb:b≠cb.P∧b≠cb.W∧b≠cb.Y)(ht:H[t]? = some (.row (qnL c s.p) false))(hbt:b≠t)(htc:t≠cb.P∧t≠cb.W∧t≠cb.Y) :
  ∃H',qfV En 0 Id.zaj [qku b,ifC cb] H=some (qag,H')∧H'[b]? = some (.row (qpd c (qo9 s (qnM c s.p ws)).1 t gv) false)∧H'[t]? = some (.row (qnL c (qo9 s (qnM c s.p ws)).1.p) false)∧IsC H' cb (qo9 s (qnM c s.p ws)).2 bs∧Chg [b,t,cb.P,cb.W,cb.Y] H H':=by
 have hlo:0≤b:=Nat.zero_le _
 obtain⟨H1,hL,d1⟩:=qnV (lo:=0) ht d.cells htc hm (Nat.zero_le _) ⟨Nat.zero_le _,Nat.zero_le _⟩
 have l0:qav H none ⟨b,0+0,none⟩=some (qku t):=qiD d.row rfl
 have hr1:H1[b]? = some (.row (qpd c s t gv) false):=d1.chg.get d.row (by simp [hbt,hb.1,hb.2.1,hb.2.2])
 have dr:Did H1 H1 b (qpd c s t gv) cb (qnM c s.p ws).2.1 bs:=Did.of hr1 d1.cells
 have hc1:Chg [b,t,cb.P,cb.W,cb.Y] H H1:=d1.chg.mono (by intro i hi;simp only [List.mem_cons,List.mem_nil_iff,or_false]at hi⊢;omega)
 have hsub:∀i∈[b,cb.P,cb.W,cb.Y],i∈[b,t,cb.P,cb.W,cb.Y]:=by intro i hi;simp only [List.mem_cons,List.mem_nil_iff,or_false]at hi⊢;omega
 have hrt:=d1.row
 unfold qnT at hL
 generalize qnM c s.p ws=r at hL dr hrt⊢
 obtain⟨p',w',sl,e,dn⟩:=r
 simp only at hL hrt dr
 have hF:=fun e k=>qpe dr e k
 cases dn with
 | false =>
   refine⟨H1, ?_,hr1,hrt,dr.cells,hc1⟩
   refine qgx rfl Fn.zaj rfl rfl ?_
   repeat' first|refine .A ?_|refine .B ?_|refine .D ?_|refine .F ?_|refine .G ?_|refine .H ?_|refine .nil rfl ?_|refine .L l0 ?_|refine .P hL ?_|refine .Y ?_|fail
   rfl
 | true =>
   by_cases he:e≠0
   ·have e1:qo9 s (p',w',sl,e,true)=({s with p:=p',kept:=e,nx:=11},w'):=by unfold qo9;simp [he]
    rw [e1]
    have dd:=dr.set (row':=qpd c {s with p:=p',kept:=e,nx:=11} t gv) hb
    refine⟨_, ?_,dd.row,qiA hbt hrt,dd.cells,hc1.trans (dd.chg.mono hsub)⟩
    refine qgx rfl Fn.zaj rfl rfl ?_
    repeat' first|refine .A ?_|refine .B ?_|refine .C ?_|refine .G ?_|refine .H ?_|refine .nil rfl ?_|refine .t6 ?_|refine .L l0 ?_|refine .P hL ?_|refine .P (hF _ _) ?_|refine .F ?_|refine .Y ?_|fail
    rfl
   ·have e1:qo9 s (p',w',sl,e,true)=({s with p:=p',slot:=sl,nx:=4},w'):=by unfold qo9;simp [he]
    rw [e1]
    have he0:e=0:=Decidable.not_not.1 he
    have dd:=dr.set (row':=qpd c {s with p:=p',slot:=sl,nx:=4} t gv) hb
    refine⟨_, ?_,dd.row,qiA hbt hrt,dd.cells,hc1.trans (dd.chg.mono hsub)⟩
    refine qgx rfl Fn.zaj rfl rfl ?_
    repeat' first|refine .A ?_|refine .B ?_|refine .C ?_|refine .D ?_|refine .G ?_|refine .H ?_|refine .nil rfl ?_|refine .f6 ?_|refine .L l0 ?_|refine .P hL ?_|refine .S (qiF dr.row hlo (Nat.le_of_ble_eq_true rfl) rfl) ?_|refine .S (qoy (qiC dr.row) hlo (Nat.le_of_ble_eq_true rfl) rfl) ?_|refine .F ?_|refine .Y ?_|fail
    rfl

set_option maxHeartbeats 1600000 in
theorem qph (d:Did H H b (qpd c s t gv) cb ws bs)(hm:c.may)(hb:b≠cb.P∧b≠cb.W∧b≠cb.Y) :
  if qi6 ws 0<0∨w64 (c.A-qo6 s.n)<qi6 ws 0 then
   ∃H' g,qfV En 0 Id.zae [qku b,ifC cb] H=some (qag,H')∧Did H H' b (qpd c {s with f:=qi6 ws 0,kept:=10,nx:=6} t (qku g)) cb ws bs∧H'[g]? = some (.row (qnL c ⟨1,s.slot,0,0⟩) false)∧H.length≤g
  else ∃H',qfV En 0 Id.zae [qku b,ifC cb] H=some (qag,H')∧Did H H' b (qpd c {s with f:=qi6 ws 0,nx:=5} t gv) cb ws bs:=by
 have hlo:0≤b:=Nat.zero_le _
 have hF:=fun lo=>qjD lo H hm
 obtain⟨H1,hL,hC1,ho1⟩:=qjg (lo:=0) d.cells (Nat.zero_le _) 0
 have d1:=d.on hC1 ho1 (by simp) hb
 generalize qi6 ws 0=f0 at hL⊢
 have d2:=d1.set (row':=qpd c {s with f:=f0} t gv) hb
 have s2:stN 0 H1 ⟨b,0+11,none⟩ (qaf (I f0))=some (H1.set b (.row (qpd c {s with f:=f0} t gv) false)):=qiF d1.row hlo (Nat.le_of_ble_eq_true rfl) rfl
 generalize H1.set b (.row (qpd c {s with f:=f0} t gv) false)=H2 at d2 s2
 have d3:=d2.set (row':=qpd c {s with f:=f0,nx:=5} t gv) hb
 have s3:stN 0 H2 ⟨b,0+7,none⟩ (qaf (I 5))=some (H2.set b (.row (qpd c {s with f:=f0,nx:=5} t gv) false)):=qiF d2.row hlo (Nat.le_of_ble_eq_true rfl) rfl
 generalize H2.set b (.row (qpd c {s with f:=f0,nx:=5} t gv) false)=H3 at d3 s3
 have k11:qav H3 none ⟨b,0+11,none⟩=some (I f0):=qiD d3.row rfl
 have k4:qav H3 none ⟨b,0+4,none⟩=some (I c.A):=qiD d3.row rfl
 have k6:qav H3 none ⟨b,0+6,none⟩=some (I (qo6 s.n)):=qiD d3.row rfl
 have k10:qav H3 none ⟨b,0+10,none⟩=some (I s.slot):=qiD d3.row rfl
 have k2:qav H3 (some 2) ⟨b,0+2,none⟩=some (lay c.T c.S):=qiE d3.row (Nat.le_of_ble_eq_true rfl) rfl
 by_cases hc:f0<0∨w64 (c.A-qo6 s.n)<f0
 ·rw [if_pos hc]
  have hNP:=fun lo=>qo1 lo H3 c s.slot
  have hbl:b<H3.length:=qiC d3.row
  have d4:Did H (H3 ++ [.row (qnL c ⟨1,s.slot,0,0⟩) false]) b (qpd c {s with f:=f0,nx:=5} t gv) cb ws bs:=⟨qiB d3.row,d3.cells.app _,d3.chg.app _⟩
  have hg:(H3 ++ [Blk.row (qnL c ⟨1,s.slot,0,0⟩) false])[H3.length]? = some (.row (qnL c ⟨1,s.slot,0,0⟩) false):=List.getElem?_concat_length
  generalize H3 ++ [Blk.row (qnL c ⟨1,s.slot,0,0⟩) false]=H4 at hNP d4 hg
  have d5:=d4.set (row':=qpd c {s with f:=f0,nx:=5} t (qku H3.length)) hb
  have s5:stN 0 H4 ⟨b,0+1,none⟩ (qaf (qku H3.length))=some (H4.set b (.row (qpd c {s with f:=f0,nx:=5} t (qku H3.length)) false)):=qiF d4.row hlo (Nat.le_of_ble_eq_true rfl) rfl
  have hg5:(H4.set b (.row (qpd c {s with f:=f0,nx:=5} t (qku H3.length)) false))[H3.length]? = some (.row (qnL c ⟨1,s.slot,0,0⟩) false):=qiA (by omega) hg
  generalize H4.set b (.row (qpd c {s with f:=f0,nx:=5} t (qku H3.length)) false)=H5 at d5 s5 hg5
  have hFl:=fun e k=>qpe (Did.of d5.row d5.cells) e k
  refine⟨_,H3.length, ?_,d5.set hb,qiA (by omega) hg5,d3.chg.len⟩
  refine qgx rfl Fn.zae rfl rfl ?_
  by_cases hc1:f0<0
  ·repeat' first|refine .A ?_|refine .B ?_|refine .C ?_|refine .nil rfl ?_|refine .t1 ?_|refine .L k11 ?_|refine .L k10 ?_|refine .L k2 ?_|refine .L (qiE d.row (Nat.le_of_ble_eq_true rfl) rfl) ?_|refine .P (hF _) ?_|refine .P (hNP _) ?_|refine .P (hFl _ _) ?_|refine .W hL ?_|refine .S s2 ?_|refine .S s3 ?_|refine .S s5 ?_|refine .D ?_|refine .F ?_|refine .Y ?_|fail
   rfl
  ·have hc2:IntKind.i64.wrap (c.A-qo6 s.n)<f0:=by rcases hc with h|h;exact absurd h hc1;exact h
   repeat' first|refine .A ?_|refine .B ?_|refine .C ?_|refine .nil rfl ?_|refine .f1 ?_|refine .t3 ?_|(show EG _ _ (⟨_,.load _ _,_,_⟩::_) _ _ _ _ _ _;first|refine .L k11 ?_|refine .L k4 ?_|refine .L k6 ?_|refine .L k10 ?_|refine .L k2 ?_|refine .L (qiE d.row (Nat.le_of_ble_eq_true rfl) rfl) ?_)|refine .P (hF _) ?_|refine .P (hNP _) ?_|refine .P (hFl _ _) ?_|refine .W hL ?_|refine .S s2 ?_|refine .S s3 ?_|refine .S s5 ?_|refine .F ?_|refine .Y ?_|fail
   rfl
 ·rw [if_neg hc]
  have hc1:¬f0<0:=fun h=>hc (.inl h)
  have hc2:¬IntKind.i64.wrap (c.A-qo6 s.n)<f0:=fun h=>hc (.inr h)
  clear hc
  refine⟨H3, ?_,d3⟩
  refine qgx rfl Fn.zae rfl rfl ?_
  repeat' first|refine .A ?_|refine .B ?_|refine .D ?_|refine .F ?_|refine .nil rfl ?_|refine .f1 ?_|refine .f3 ?_|refine .L k11 ?_|refine .L k4 ?_|refine .L k6 ?_|refine .L (qiE d.row (Nat.le_of_ble_eq_true rfl) rfl) ?_|refine .P (hF _) ?_|refine .W hL ?_|refine .S s2 ?_|refine .S s3 ?_|refine .Y ?_|fail
  rfl

set_option maxHeartbeats 1600000 in
theorem qpi (d:Did H H b (qpd c s t gv) cb ws bs)(hb:b≠cb.P∧b≠cb.W∧b≠cb.Y)(h7:s.nx=7) :
  ∃H',qfV En 0 Id.zac [qku b,ifC cb] H=some (qag,H')∧Did H H' b (qpd c (alS c s ws bs).1 t gv) cb (alS c s ws bs).2.1 (alS c s ws bs).2.2.1:=by
 have hlo:0≤b:=Nat.zero_le _
 unfold alS
 rw [if_neg (by omega),if_neg (by omega),if_neg (by omega),if_neg (by omega),if_neg (by omega),if_neg (by omega),if_neg (by omega),if_pos h7]
 obtain⟨H1,hL,hC1,ho1⟩:=qjl (lo:=0) d.cells (Nat.zero_le _) (Nat.zero_le _) (w64 (s.f+s.at_)) 0
 have d1:=d.on hC1 ho1 (by simp) hb
 have d2:=d1.set (row':=qpd c {s with at_:=w64 (s.at_+1)} t gv) hb
 have s2:stN 0 H1 ⟨b,0+12,none⟩ (qaf (I (w64 (s.at_+1))))=some (H1.set b (.row (qpd c {s with at_:=w64 (s.at_+1)} t gv) false)):=qiF d1.row hlo (Nat.le_of_ble_eq_true rfl) rfl
 have k12:qav H1 none ⟨b,0+12,none⟩=some (I s.at_):=qiD d1.row rfl
 generalize H1.set b (.row (qpd c {s with at_:=w64 (s.at_+1)} t gv) false)=H2 at d2 s2
 have m12:qav H2 none ⟨b,0+12,none⟩=some (I (w64 (s.at_+1))):=qiD d2.row rfl
 have m6:qav H2 none ⟨b,0+6,none⟩=some (I (qo6 s.n)):=qiD d2.row rfl
 by_cases hc:w64 (s.at_+1)=qo6 s.n
 ·rw [if_pos hc]
  refine⟨_, ?_,d2.set hb⟩
  refine qgx rfl Fn.zac rfl rfl ?_
  repeat' first|refine .A ?_|refine .B ?_|refine .C ?_|refine .nil rfl ?_|refine .t5 ?_|refine .L k12 ?_|refine .L m12 ?_|refine .L m6 ?_|refine .L (qiD d.row rfl) ?_|refine .W hL ?_|refine .S s2 ?_|refine .S (qiF d2.row hlo (Nat.le_of_ble_eq_true rfl) rfl) ?_|refine .F ?_|refine .Y ?_|fail
  rfl
 ·rw [if_neg hc]
  refine⟨_, ?_,d2⟩
  refine qgx rfl Fn.zac rfl rfl ?_
  repeat' first|refine .A ?_|refine .B ?_|refine .D ?_|refine .F ?_|refine .nil rfl ?_|refine .f5 ?_|refine .L k12 ?_|refine .L m12 ?_|refine .L m6 ?_|refine .L (qiD d.row rfl) ?_|refine .W hL ?_|refine .S s2 ?_|refine .Y ?_|fail
  rfl

set_option maxHeartbeats 1600000 in
theorem qpj (d:Did H H b (qpd c s t gv) cb ws bs)(hm:c.may)(hb:b≠cb.P∧b≠cb.W∧b≠cb.Y) :
  ∃H',qfV En 0 Id.zaf [qku b,ifC cb] H=some (qag,H')∧Did H H' b (qpd c (qpb s (qkc (qi6 ws (qjy c s.slot 0)))) t gv) cb ws bs:=by
 have hlo:0≤b:=Nat.zero_le _
 have hEn:=fun lo=>qjB lo H hm s.slot
 obtain⟨H1,hL,hC1,ho1⟩:=qjg (lo:=0) d.cells (Nat.zero_le _) (qjy c s.slot 0)
 have d1:=d.on hC1 ho1 (by simp) hb
 generalize qi6 ws (qjy c s.slot 0)=w at hL⊢
 have hU:=fun lo=>qko lo H1 w
 have d2:=d1.set (row':=qpd c {s with nx:=10} t gv) hb
 have s2:stN 0 H1 ⟨b,0+7,none⟩ (qaf (I 10))=some (H1.set b (.row (qpd c {s with nx:=10} t gv) false)):=qiF d1.row hlo (Nat.le_of_ble_eq_true rfl) rfl
 generalize H1.set b (.row (qpd c {s with nx:=10} t gv) false)=H2 at d2 s2
 have hgo:∀g:Int,stN 0 H2 ⟨b,0+13,none⟩ (qaf (I g))=some (H2.set b (.row (qpd c {s with nx:=10,gen:=g} t gv) false)):=fun g=>qiF d2.row hlo (Nat.le_of_ble_eq_true rfl) rfl
 have hd3:∀g:Int,Did H (H2.set b (.row (qpd c {s with nx:=10,gen:=g} t gv) false)) b (qpd c {s with nx:=10,gen:=g} t gv) cb ws bs:=fun g=>d2.set hb
 cases hu:qkc w with
 | none =>
   rw [hu]at hU
   simp only [unV,Ent.zero,Ent.cs]at hU
   have d3:=hd3 0
   have s3:=hgo 0
   generalize H2.set b (.row (qpd c {s with nx:=10,gen:=0} t gv) false)=H3 at d3 s3
   have hFl:=fun e k=>qpe (Did.of d3.row d3.cells) e k
   refine⟨_, ?_,d3.set hb⟩
   refine qgx rfl Fn.zaf rfl rfl ?_
   repeat' first|refine .A ?_|refine .B ?_|refine .C ?_|refine .J ?_|refine .t6 ?_|refine .L (qiD d.row rfl) ?_|refine .L (qiE d.row (Nat.le_of_ble_eq_true rfl) rfl) ?_|refine .P (hEn _) ?_|refine .P (hU _) ?_|refine .P (hFl _ _) ?_|refine .W hL ?_|refine .S s2 ?_|refine .S s3 ?_|refine .D ?_|refine .F ?_|refine .Y ?_|fail
   rfl
 | some e =>
   rw [hu]at hU
   obtain⟨o,g,p,u,lk,lv⟩:=e
   simp only [unV,Ent.cs]at hU
   have d3:=hd3 g
   have s3:=hgo g
   generalize H2.set b (.row (qpd c {s with nx:=10,gen:=g} t gv) false)=H3 at d3 s3
   have hFl:=fun e k=>qpe (Did.of d3.row d3.cells) e k
   cases lv with
   | true =>
     refine⟨_, ?_,d3.set hb⟩
     refine qgx rfl Fn.zaf rfl rfl ?_
     repeat' first|refine .A ?_|refine .B ?_|refine .C ?_|refine .J ?_|refine .f6 ?_|refine .L (qiD d.row rfl) ?_|refine .L (qiE d.row (Nat.le_of_ble_eq_true rfl) rfl) ?_|refine .P (hEn _) ?_|refine .P (hU _) ?_|refine .P (hFl _ _) ?_|refine .W hL ?_|refine .S s2 ?_|refine .S s3 ?_|refine .F ?_|refine .Y ?_|fail
     rfl
   | false =>
     have hP:=fun lo=>qkq lo H3 ⟨s.f,g,0,0,false,true⟩
     have k11:qav H3 none ⟨b,0+11,none⟩=some (I s.f):=qiD d3.row rfl
     have hpk:∃q:Int,pkV ⟨s.f,g,0,0,false,true⟩ = .tuple #[I (qo7 ⟨s.f,g,0,0,false,true⟩),I q]:=by
      unfold pkV qo7
      split
      ·exact⟨0,rfl⟩
      ·exact⟨1,rfl⟩
     obtain⟨q,hq⟩:=hpk
     rw [hq]at hP
     simp only [Ent.cs]at hP
     simp only [qpb,Bool.false_eq_true,if_false]
     generalize qo7 ⟨s.f,g,0,0,false,true⟩=pk at hP⊢
     refine⟨_, ?_,d3.set hb⟩
     refine qgx rfl Fn.zaf rfl rfl ?_
     repeat' first|refine .A ?_|refine .B ?_|refine .D ?_|refine .F ?_|refine .nil rfl ?_|refine .C ?_|refine .f6 ?_|refine .L k11 ?_|refine .L (qiD d.row rfl) ?_|refine .L (qiE d.row (Nat.le_of_ble_eq_true rfl) rfl) ?_|refine .P (hEn _) ?_|refine .P (hU _) ?_|refine .P (hP _) ?_|refine .W hL ?_|refine .S s2 ?_|refine .S s3 ?_|refine .S (qiF d3.row hlo (Nat.le_of_ble_eq_true rfl) rfl) ?_|refine .Y ?_|fail
     rfl

set_option maxHeartbeats 1600000 in
theorem qpk (d:Did H H b (qpd c s t gv) cb ws bs)(hm:c.may)(hb:b≠cb.P∧b≠cb.W∧b≠cb.Y) :
  ∃H',qfV En 0 Id.zah [qku b,ifC cb] H=some (qag,H')∧Did H H' b (qpd c {s with cl:=false,nx:=11} t gv) cb (if s.kept=0 then qi7 ws (qjy c s.slot 0) s.word else ws) bs:=by
 have hlo:0≤b:=Nat.zero_le _
 have hEn:=fun lo=>qjB lo H hm s.slot
 by_cases hk:s.kept=0
 ·rw [if_pos hk]
  obtain⟨H1,hL,hC1,ho1⟩:=qjh (lo:=0) d.cells (Nat.zero_le _) (Nat.zero_le _) (qjy c s.slot 0) s.word
  have d1:=d.on hC1 ho1 (by simp) hb
  refine⟨_, ?_,d1.set hb⟩
  refine qgx rfl Fn.zah rfl rfl ?_
  repeat' first|refine .A ?_|refine .B ?_|refine .C ?_|refine .nil rfl ?_|refine .t5 ?_|refine .L (qiD d.row rfl) ?_|refine .L (qiE d.row (Nat.le_of_ble_eq_true rfl) rfl) ?_|refine .X (qiD d.row rfl) (qiI (qiD d.row rfl)) (qkw _) ?_|refine .P (hEn _) ?_|refine .W hL ?_|refine .S (qiF d1.row hlo (Nat.le_of_ble_eq_true rfl) rfl) ?_|refine .S (qoy (qiC d1.row) hlo (Nat.le_of_ble_eq_true rfl) rfl) ?_|refine .F ?_|refine .Y ?_|fail
  rfl
 ·rw [if_neg hk]
  refine⟨_, ?_,d.set hb⟩
  refine qgx rfl Fn.zah rfl rfl ?_
  repeat' first|refine .A ?_|refine .B ?_|refine .D ?_|refine .F ?_|refine .nil rfl ?_|refine .f5 ?_|refine .L (qiD d.row rfl) ?_|refine .S (qiF d.row hlo (Nat.le_of_ble_eq_true rfl) rfl) ?_|refine .S (qoy (qiC d.row) hlo (Nat.le_of_ble_eq_true rfl) rfl) ?_|refine .Y ?_|fail
  rfl

theorem qpl (d:Did H H b (qpd c s t gv) cb ws bs):qfV En 0 Id.zai [qku b] H=some (.agg #[I (qpc s).1,I (qpc s).2],H):=by
 have hMk:=fun lo=>qn5 lo H s.slot s.gen
 have l9:qav H none ⟨b,0+9,none⟩=some (I s.kept):=qiD d.row rfl
 have hlo:0≤b:=Nat.zero_le _
 refine qgx rfl Fn.zai rfl rfl ?_
 unfold qpc
 by_cases hk:s.kept≠0
 ·rw [if_pos hk]
  repeat' first|refine .A ?_|refine .B ?_|refine .C ?_|refine .J ?_|refine .t6 ?_|refine .L l9 ?_|refine .F ?_|refine .Y ?_|fail
  rfl
 ·rw [if_neg hk]
  have hmk:∃q:Int,qn4 s.slot s.gen = .tuple #[I (qo8 s.slot s.gen),I q]:=by
   unfold qn4 qo8
   split
   ·exact⟨0,rfl⟩
   ·exact⟨1,rfl⟩
  obtain⟨q,hq⟩:=hmk
  rw [hq]at hMk
  repeat' first|refine .A ?_|refine .B ?_|refine .D ?_|refine .F ?_|refine .J ?_|refine .f6 ?_|refine .L l9 ?_|refine .L (qiD d.row rfl) ?_|refine .P (hMk _) ?_|refine .Y ?_|fail
  rfl
end
end Go.Proofs.YtdinebegmppnoabGreat

/- An object made: each step of the program's machine. -/
namespace Go.Proofs.YtdinebegmppnoabGreat
open Go Go.Ir

section
variable {H:qab}{b t:Nat}{c:Cfg}{s:Al}{cb:CB}{ws bs:List Int}{gv:Value}{own:List Nat}
structure Grew (H H':qab)(own own':List Nat)(cb:CB):Prop where
 chg:Chg (qoU own cb) H H'
 sub:∀x∈own,x∈own'
 new:∀x∈own',x∈own∨H.length≤x
theorem Grew.same {H':qab}{own:List Nat}{cb:CB}(h:Chg (qoU own cb) H H'):Grew H H' own own cb:=⟨h,fun _ h=>h,fun _ h => .inl h⟩
theorem Grew.cons {H':qab}{own:List Nat}{cb:CB}{g:Nat}(h:Chg (qoU own cb) H H')(hg:H.length≤g):Grew H H' own (g::own) cb :=
 ⟨h,fun _ h=>List.mem_cons_of_mem _ h,fun x hx=>by
   rcases List.mem_cons.1 hx with rfl|hx
   ·exact .inr hg
   ·exact .inl hx⟩

theorem AlP.of {H':qab}{s':Al}{ws' bs':List Int}(hmem:b∈own)(ht:H[t]? = some (.row (qnL c s.p) false))(hbt:b≠t)(hto:t∈own)(hA:Apart own cb)(d:Did H H' b (qpd c s' t gv) cb ws' bs')(hp:s'.p=s.p)(hn:0≤s'.nx∧s'.nx≤12)(h6:s'.nx≠6):AlP H' own c s' b :=
 ⟨hmem,hn,t,gv,d.row,by rw [hp];exact d.chg.get ht (by have:=hA.at hto;simp [hbt.symm,this.1,this.2.1,this.2.2]),hbt,hto,fun h=>absurd h h6⟩
theorem qpm (s:Al)(r:Sk×List Int×Int×Int×Bool):(qo9 s r).1.nx=s.nx∨(qo9 s r).1.nx=4∨(qo9 s r).1.nx=11:=by
 unfold qo9
 split
 ·split
  ·exact .inr (.inr rfl)
  ·exact .inr (.inl rfl)
 ·exact .inl rfl

set_option maxHeartbeats 4000000 in
theorem qpn (hP:AlP H own c s b)(hC:IsC H cb ws bs)(hA:Apart own cb)(hm:c.may) :
  ∃own' H',qfV En 0 Id.zab [qku b,ifC cb] H=some (qol (alS c s ws bs).2.2.2,H')∧AlP H' own' c (alS c s ws bs).1 b∧IsC H' cb (alS c s ws bs).2.1 (alS c s ws bs).2.2.1∧Grew H H' own own' cb:=by
 obtain⟨t,gv,hr,ht,hbt,hto,h6'⟩:=hP.row
 have hb:=hA.at hP.mem
 have htc:=hA.at hto
 have hlo:0≤b:=Nat.zero_le _
 have d:=Did.of hr hC
 have l7:qav H none ⟨b,0+7,none⟩=some (I s.nx):=qiD hr rfl
 have hsub:=qoV (cb:=cb) hP.mem
 have hn:=hP.nx
 have fin:∀{H':qab} {s':Al} {ws' bs':List Int},Did H H' b (qpd c s' t gv) cb ws' bs'→s'.p=s.p→0≤s'.nx∧s'.nx≤12→s'.nx≠6→AlP H' own c s' b∧IsC H' cb ws' bs'∧Grew H H' own own cb :=
  fun d1 h1 h2 h3=>⟨AlP.of hP.mem ht hbt hto hA d1 h1 h2 h3,d1.cells,.same (d1.chg.mono hsub)⟩
 by_cases h0:s.nx=0
 ·have e0:alS c s ws bs=(s,ws,bs,some (1,0)):=by unfold alS;rw [if_pos h0]
  rw [e0]
  refine⟨own,H, ?_,hP,hC,.same (Chg.refl _ _)⟩
  refine qgx rfl Fn.zab rfl rfl ?_
  repeat' first|refine .A ?_|refine .B ?_|refine .C ?_|refine .J ?_|refine .t5 ?_|refine .L l7 ?_|refine .F ?_|refine .Y ?_|fail
  rfl
 by_cases h1:s.nx=1
 ·have l6:qav H none ⟨b,0+6,none⟩=some (I (qo6 s.n)):=qiD hr rfl
  by_cases hz:qo6 s.n=0
  ·have e0:alS c s ws bs=({s with nx:=0},ws,bs,some (9,0)):=by unfold alS;rw [if_neg h0,if_pos h1,if_pos hz]
   rw [e0]
   refine⟨own,_, ?_,fin (d.set hb) rfl (by simp) (by simp)⟩
   refine qgx rfl Fn.zab rfl rfl ?_
   repeat' first|refine .A ?_|refine .B ?_|refine .C ?_|refine .D ?_|refine .F ?_|refine .G ?_|refine .J ?_|refine .t5 ?_|refine .f5 ?_|refine .L l7 ?_|refine .L l6 ?_|refine .S (qiF d.row hlo (Nat.le_of_ble_eq_true rfl) rfl) ?_|refine .Y ?_|fail
   rfl
  ·have e0:alS c s ws bs=({s with seen:=qi6 ws 2,nx:=2},ws,bs,none):=by unfold alS;rw [if_neg h0,if_pos h1,if_neg hz]
   rw [e0]
   have hPd:=fun lo=>qjE lo H hm
   obtain⟨H1,hL,hC1,ho1⟩:=qjg (lo:=0) hC (Nat.zero_le _) 2
   have d1:=d.on hC1 ho1 (by simp) hb
   refine⟨own,_, ?_,fin (d1.set hb) rfl (by simp) (by simp)⟩
   refine qgx rfl Fn.zab rfl rfl ?_
   repeat' first|refine .A ?_|refine .B ?_|refine .C ?_|refine .D ?_|refine .F ?_|refine .G ?_|refine .H ?_|refine .J ?_|refine .t5 ?_|refine .f5 ?_|refine .L l7 ?_|refine .L l6 ?_|refine .L (qiE d.row (Nat.le_of_ble_eq_true rfl) rfl) ?_|refine .P (hPd _) ?_|refine .W hL ?_|refine .S (qiF d1.row hlo (Nat.le_of_ble_eq_true rfl) rfl) ?_|refine .S (qoy (qiC d1.row) hlo (Nat.le_of_ble_eq_true rfl) rfl) ?_|refine .Y ?_|fail
   rfl
 by_cases h2:s.nx=2
 ·obtain⟨H1,hL,d1⟩:=qpf d hm hb 1 1 3
  cases hcb:qji ws 2 s.seen with
  | true =>
    rw [hcb]at hL d1
    have e0:alS c s ws bs=({s with nx:=3},qi7 ws 2 (w64 (s.seen+1)),bs,none):=by unfold alS;rw [if_neg h0,if_neg h1,if_pos h2,hcb];rfl
    rw [e0]
    refine⟨own,H1, ?_,fin d1 rfl (by simp) (by simp)⟩
    refine qgx rfl Fn.zab rfl rfl ?_
    repeat' first|refine .A ?_|refine .B ?_|refine .C ?_|refine .D ?_|refine .F ?_|refine .G ?_|refine .H ?_|refine .J ?_|refine .t5 ?_|refine .f5 ?_|refine .L l7 ?_|refine .P hL ?_|refine .Y ?_|fail
    rfl
  | false =>
    rw [hcb]at hL d1
    have e0:alS c s ws bs=({s with nx:=1},ws,bs,none):=by unfold alS;rw [if_neg h0,if_neg h1,if_pos h2,hcb];rfl
    rw [e0]
    refine⟨own,H1, ?_,fin d1 rfl (by simp) (by simp)⟩
    refine qgx rfl Fn.zab rfl rfl ?_
    repeat' first|refine .A ?_|refine .B ?_|refine .C ?_|refine .D ?_|refine .F ?_|refine .G ?_|refine .H ?_|refine .J ?_|refine .t5 ?_|refine .f5 ?_|refine .L l7 ?_|refine .P hL ?_|refine .Y ?_|fail
    rfl
 by_cases h3:s.nx=3
 ·obtain⟨H1,hL,hb1,ht1,hC1,hx⟩:=qpg d hm hb ht hbt htc
  have e0:alS c s ws bs=((qo9 s (qnM c s.p ws)).1,(qo9 s (qnM c s.p ws)).2,bs,none):=by unfold alS;rw [if_neg h0,if_neg h1,if_neg h2,if_pos h3]
  have hnx:=qpm s (qnM c s.p ws)
  rw [e0]
  refine⟨own,H1, ?_,⟨hP.mem,by rcases hnx with h|h|h<;>simp only<;>rw [h]<;>simp [h3],t,gv,hb1,ht1,hbt,hto,fun h=>by rcases hnx with g|g|g<;>simp only at h<;>rw [g]at h<;>simp [h3]at h⟩,hC1,.same (hx.mono fun i hi => ?_)⟩
  ·refine qgx rfl Fn.zab rfl rfl ?_
   repeat' first|refine .A ?_|refine .B ?_|refine .C ?_|refine .D ?_|refine .F ?_|refine .G ?_|refine .H ?_|refine .J ?_|refine .t5 ?_|refine .f5 ?_|refine .L l7 ?_|refine .P hL ?_|refine .Y ?_|fail
   rfl
  ·simp only [List.mem_cons,List.mem_nil_iff,or_false]at hi
   unfold qoU
   rcases hi with rfl|rfl|rfl|rfl|rfl<;>simp [hP.mem,hto]
 by_cases h4:s.nx=4
 ·have hF:=qph d hm hb
  by_cases hc:qi6 ws 0<0∨w64 (c.A-qo6 s.n)<qi6 ws 0
  ·rw [if_pos hc]at hF
   obtain⟨H1,g,hL,d1,hg,hgl⟩:=hF
   have e0:alS c s ws bs=({s with f:=qi6 ws 0,kept:=10,q:=⟨1,s.slot,0,0⟩,nx:=6},ws,bs,none):=by unfold alS;rw [if_neg h0,if_neg h1,if_neg h2,if_neg h3,if_pos h4,if_pos hc]
   rw [e0]
   have hbl:=qiC hr
   have htl:=qiC ht
   refine⟨g::own,H1, ?_,⟨List.mem_cons_of_mem _ hP.mem,by simp,t,qku g,d1.row,d1.chg.get ht (by simp [hbt.symm,htc.1,htc.2.1,htc.2.2]),hbt,List.mem_cons_of_mem _ hto,fun _=>⟨g,rfl,hg,by omega,by omega,by simp⟩⟩,d1.cells,.cons (d1.chg.mono hsub) hgl⟩
   refine qgx rfl Fn.zab rfl rfl ?_
   repeat' first|refine .A ?_|refine .B ?_|refine .C ?_|refine .D ?_|refine .F ?_|refine .G ?_|refine .H ?_|refine .J ?_|refine .t5 ?_|refine .f5 ?_|refine .L l7 ?_|refine .P hL ?_|refine .Y ?_|fail
   rfl
  ·rw [if_neg hc]at hF
   obtain⟨H1,hL,d1⟩:=hF
   have e0:alS c s ws bs=({s with f:=qi6 ws 0,nx:=5},ws,bs,none):=by unfold alS;rw [if_neg h0,if_neg h1,if_neg h2,if_neg h3,if_pos h4,if_neg hc]
   rw [e0]
   refine⟨own,H1, ?_,fin d1 rfl (by simp) (by simp)⟩
   refine qgx rfl Fn.zab rfl rfl ?_
   repeat' first|refine .A ?_|refine .B ?_|refine .C ?_|refine .D ?_|refine .F ?_|refine .G ?_|refine .H ?_|refine .J ?_|refine .t5 ?_|refine .f5 ?_|refine .L l7 ?_|refine .P hL ?_|refine .Y ?_|fail
   rfl
 by_cases h5:s.nx=5
 ·have d1:=d.set (row':=qpd c {s with nx:=4} t gv) hb
  have s1:stN 0 H ⟨b,0+7,none⟩ (qaf (I 4))=some (H.set b (.row (qpd c {s with nx:=4} t gv) false)):=qiF d.row hlo (Nat.le_of_ble_eq_true rfl) rfl
  generalize H.set b (.row (qpd c {s with nx:=4} t gv) false)=H1 at d1 s1
  have hFr:=fun lo=>qjD lo H1 hm
  have k11:qav H1 none ⟨b,0+11,none⟩=some (I s.f):=qiD d1.row rfl
  have k6:qav H1 none ⟨b,0+6,none⟩=some (I (qo6 s.n)):=qiD d1.row rfl
  have k2:qav H1 (some 2) ⟨b,0+2,none⟩=some (lay c.T c.S):=qiE d1.row (Nat.le_of_ble_eq_true rfl) rfl
  obtain⟨H2,hL,hC2,ho2⟩:=qjj (lo:=0) d1.cells (Nat.zero_le _) (Nat.zero_le _) 0 s.f (w64 (s.f+qo6 s.n))
  have d2:=d1.on hC2 ho2 (by simp) hb
  cases hcb:qji ws 0 s.f with
  | true =>
    rw [hcb]at hL d2
    have e0:alS c s ws bs=({s with cl:=true,nx:=7},qi7 ws 0 (w64 (s.f+qo6 s.n)),bs,none):=by unfold alS;rw [if_neg h0,if_neg h1,if_neg h2,if_neg h3,if_neg h4,if_pos h5,hcb];rfl
    rw [e0]
    refine⟨own,_, ?_,fin (d2.set hb) rfl (by simp) (by simp)⟩
    refine qgx rfl Fn.zab rfl rfl ?_
    repeat' first|refine .A ?_|refine .B ?_|refine .C ?_|refine .D ?_|refine .F ?_|refine .G ?_|refine .H ?_|refine .J ?_|refine .t5 ?_|refine .f5 ?_|refine .L l7 ?_|refine .L k2 ?_|refine .P (hFr _) ?_|refine .W hL ?_|refine .S (qiF d2.row hlo (Nat.le_of_ble_eq_true rfl) rfl) ?_|refine .S (qoy (qiC d2.row) hlo (Nat.le_of_ble_eq_true rfl) rfl) ?_|refine .S s1 ?_|refine .X k11 (qiI k11) (qkw _) ?_|refine .X k6 (qiI k6) (qkw _) ?_|refine .Y ?_|fail
    rfl
  | false =>
    rw [hcb]at hL d2
    have e0:alS c s ws bs=({s with nx:=4},ws,bs,none):=by unfold alS;rw [if_neg h0,if_neg h1,if_neg h2,if_neg h3,if_neg h4,if_pos h5,hcb];rfl
    rw [e0]
    refine⟨own,H2, ?_,fin d2 rfl (by simp) (by simp)⟩
    refine qgx rfl Fn.zab rfl rfl ?_
    repeat' first|refine .A ?_|refine .B ?_|refine .C ?_|refine .D ?_|refine .F ?_|refine .G ?_|refine .H ?_|refine .J ?_|refine .t5 ?_|refine .f5 ?_|refine .L l7 ?_|refine .L k2 ?_|refine .P (hFr _) ?_|refine .W hL ?_|refine .S s1 ?_|refine .X k11 (qiI k11) (qkw _) ?_|refine .X k6 (qiI k6) (qkw _) ?_|refine .Y ?_|fail
    rfl
 by_cases h6:s.nx=6
 ·obtain⟨g,rfl,hg,hbg,htg,hgo⟩:=h6' h6
  have hgc:=hA.at hgo
  obtain⟨H1,hL,d1⟩:=qnW (lo:=0) hg hC hgc hm (Nat.zero_le _) ⟨Nat.zero_le _,Nat.zero_le _⟩
  have l1:qav H none ⟨b,0+1,none⟩=some (qku g):=qiD hr rfl
  have hr1:H1[b]? = some (.row (qpd c s t (qku g)) false):=d1.chg.get hr (by simp [hbg,hb.1,hb.2.1,hb.2.2])
  have ht1:H1[t]? = some (.row (qnL c s.p) false):=d1.chg.get ht (by simp [htg,htc.1,htc.2.1,htc.2.2])
  have dr:Did H1 H1 b (qpd c s t (qku g)) cb (qnN c s.q ws).2.1 bs:=Did.of hr1 d1.cells
  have hc1:Chg (qoU own cb) H H1:=d1.chg.mono (qoV hgo)
  have hrg:=d1.row
  have e0:alS c s ws bs=((qpa s (qnN c s.q ws)).1,(qpa s (qnN c s.q ws)).2,bs,none):=by unfold alS;rw [if_neg h0,if_neg h1,if_neg h2,if_neg h3,if_neg h4,if_neg h5,if_pos h6]
  rw [e0]
  unfold qnU at hL
  generalize qnN c s.q ws=r at hL dr hrg⊢
  obtain⟨q',w',e,dn⟩:=r
  simp only at hL hrg
  cases dn with
  | true =>
    have dd:=dr.set (row':=qpd c {s with q:=q',nx:=11} t (qku g)) hb
    refine⟨own,_, ?_,⟨hP.mem,by simp [qpa],t,qku g,dd.row,qiA hbt ht1,hbt,hto,fun h=>by simp [qpa]at h⟩,dd.cells,.same (hc1.trans (dd.chg.mono hsub))⟩
    refine qgx rfl Fn.zab rfl rfl ?_
    repeat' first|refine .A ?_|refine .B ?_|refine .C ?_|refine .D ?_|refine .F ?_|refine .G ?_|refine .H ?_|refine .J ?_|refine .t5 ?_|refine .f5 ?_|refine .L l7 ?_|refine .L l1 ?_|refine .P hL ?_|refine .S (qiF dr.row hlo (Nat.le_of_ble_eq_true rfl) rfl) ?_|refine .Y ?_|fail
    rfl
  | false =>
    refine⟨own,H1, ?_,⟨hP.mem,hn,t,qku g,hr1,ht1,hbt,hto,fun _=>⟨g,rfl,hrg,hbg,htg,hgo⟩⟩,dr.cells,.same hc1⟩
    refine qgx rfl Fn.zab rfl rfl ?_
    repeat' first|refine .A ?_|refine .B ?_|refine .C ?_|refine .D ?_|refine .F ?_|refine .G ?_|refine .H ?_|refine .J ?_|refine .t5 ?_|refine .f5 ?_|refine .L l7 ?_|refine .L l1 ?_|refine .P hL ?_|refine .Y ?_|fail
    rfl
 by_cases h7:s.nx=7
 ·obtain⟨H1,hL,d1⟩:=qpi d hb h7
  have e0:(alS c s ws bs).2.2.2=none∧(alS c s ws bs).1.p=s.p∧((alS c s ws bs).1.nx=7∨(alS c s ws bs).1.nx=8):=by
   unfold alS
   rw [if_neg h0,if_neg h1,if_neg h2,if_neg h3,if_neg h4,if_neg h5,if_neg h6,if_pos h7]
   split
   ·exact⟨rfl,rfl,.inr rfl⟩
   ·exact⟨rfl,rfl,.inl h7⟩
  rw [e0.1]
  refine⟨own,H1, ?_,fin d1 e0.2.1 (by omega) (by omega)⟩
  refine qgx rfl Fn.zab rfl rfl ?_
  repeat' first|refine .A ?_|refine .B ?_|refine .C ?_|refine .D ?_|refine .F ?_|refine .G ?_|refine .H ?_|refine .J ?_|refine .t5 ?_|refine .f5 ?_|refine .L l7 ?_|refine .P hL ?_|refine .Y ?_|fail
  rfl
 by_cases h8:s.nx=8
 ·have e0:alS c s ws bs=({s with nx:=9},qi7 ws (qjy c s.slot 1) s.n,bs,none):=by unfold alS;rw [if_neg h0,if_neg h1,if_neg h2,if_neg h3,if_neg h4,if_neg h5,if_neg h6,if_neg h7,if_pos h8]
  rw [e0]
  have hSz:=fun lo=>qjC lo H hm s.slot
  obtain⟨H1,hL,hC1,ho1⟩:=qjh (lo:=0) hC (Nat.zero_le _) (Nat.zero_le _) (qjy c s.slot 1) s.n
  have d1:=d.on hC1 ho1 (by simp) hb
  refine⟨own,_, ?_,fin (d1.set hb) rfl (by simp) (by simp)⟩
  refine qgx rfl Fn.zab rfl rfl ?_
  repeat' first|refine .A ?_|refine .B ?_|refine .C ?_|refine .D ?_|refine .F ?_|refine .G ?_|refine .H ?_|refine .J ?_|refine .t5 ?_|refine .f5 ?_|refine .L l7 ?_|refine .L (qiD d.row rfl) ?_|refine .L (qiE d.row (Nat.le_of_ble_eq_true rfl) rfl) ?_|refine .X (qiD d.row rfl) (qiI (qiD d.row rfl)) (qkw _) ?_|refine .P (hSz _) ?_|refine .W hL ?_|refine .S (qiF d1.row hlo (Nat.le_of_ble_eq_true rfl) rfl) ?_|refine .Y ?_|fail
  rfl
 by_cases h9:s.nx=9
 ·have e0:alS c s ws bs=(qpb s (qkc (qi6 ws (qjy c s.slot 0))),ws,bs,none):=by unfold alS;rw [if_neg h0,if_neg h1,if_neg h2,if_neg h3,if_neg h4,if_neg h5,if_neg h6,if_neg h7,if_neg h8,if_pos h9]
  rw [e0]
  obtain⟨H1,hL,d1⟩:=qpj d hm hb
  have e1:(qpb s (qkc (qi6 ws (qjy c s.slot 0)))).nx=10∧(qpb s (qkc (qi6 ws (qjy c s.slot 0)))).p=s.p:=by
   unfold qpb
   split
   ·exact⟨rfl,rfl⟩
   ·split<;>exact⟨rfl,rfl⟩
  refine⟨own,H1, ?_,fin d1 e1.2 (by simp only;omega) (by simp only;omega)⟩
  refine qgx rfl Fn.zab rfl rfl ?_
  repeat' first|refine .A ?_|refine .B ?_|refine .C ?_|refine .D ?_|refine .F ?_|refine .G ?_|refine .H ?_|refine .J ?_|refine .t5 ?_|refine .f5 ?_|refine .L l7 ?_|refine .P hL ?_|refine .Y ?_|fail
  rfl
 by_cases h10:s.nx=10
 ·have e0:alS c s ws bs=({s with cl:=false,nx:=11},if s.kept=0 then qi7 ws (qjy c s.slot 0) s.word else ws,bs,none):=by unfold alS;rw [if_neg h0,if_neg h1,if_neg h2,if_neg h3,if_neg h4,if_neg h5,if_neg h6,if_neg h7,if_neg h8,if_neg h9,if_pos h10]
  rw [e0]
  obtain⟨H1,hL,d1⟩:=qpk d hm hb
  refine⟨own,H1, ?_,fin d1 rfl (by simp) (by simp)⟩
  refine qgx rfl Fn.zab rfl rfl ?_
  repeat' first|refine .A ?_|refine .B ?_|refine .C ?_|refine .D ?_|refine .F ?_|refine .G ?_|refine .H ?_|refine .J ?_|refine .t5 ?_|refine .f5 ?_|refine .L l7 ?_|refine .P hL ?_|refine .Y ?_|fail
  rfl
 by_cases h11:s.nx=11
 ·have e0:alS c s ws bs=({s with seen:=qi6 ws 2,nx:=12},ws,bs,none):=by unfold alS;rw [if_neg h0,if_neg h1,if_neg h2,if_neg h3,if_neg h4,if_neg h5,if_neg h6,if_neg h7,if_neg h8,if_neg h9,if_neg h10,if_pos h11]
  rw [e0]
  have hPd:=fun lo=>qjE lo H hm
  obtain⟨H1,hL,hC1,ho1⟩:=qjg (lo:=0) hC (Nat.zero_le _) 2
  have d1:=d.on hC1 ho1 (by simp) hb
  refine⟨own,_, ?_,fin (d1.set hb) rfl (by simp) (by simp)⟩
  refine qgx rfl Fn.zab rfl rfl ?_
  repeat' first|refine .A ?_|refine .B ?_|refine .C ?_|refine .D ?_|refine .F ?_|refine .G ?_|refine .H ?_|refine .J ?_|refine .t5 ?_|refine .f5 ?_|refine .L l7 ?_|refine .L (qiE d.row (Nat.le_of_ble_eq_true rfl) rfl) ?_|refine .P (hPd _) ?_|refine .W hL ?_|refine .S (qiF d1.row hlo (Nat.le_of_ble_eq_true rfl) rfl) ?_|refine .S (qoy (qiC d1.row) hlo (Nat.le_of_ble_eq_true rfl) rfl) ?_|refine .Y ?_|fail
  rfl
 have h12:s.nx=12:=by omega
 obtain⟨H1,hL,d1⟩:=qpf d hm hb (-1) 11 0
 have eS:alS c s ws bs=if qji ws 2 s.seen then({s with nx:=0},qi7 ws 2 (w64 (s.seen + -1)),bs,some (qpc s))else({s with nx:=11},ws,bs,none):=by
  unfold alS;rw [if_neg h0,if_neg h1,if_neg h2,if_neg h3,if_neg h4,if_neg h5,if_neg h6,if_neg h7,if_neg h8,if_neg h9,if_neg h10,if_neg h11]
 cases hcb:qji ws 2 s.seen with
 | true =>
   rw [hcb]at hL d1
   have e0:alS c s ws bs=({s with nx:=0},qi7 ws 2 (w64 (s.seen + -1)),bs,some (qpc s)):=by rw [eS,hcb];rfl
   rw [e0]
   have hRs:qfV En 0 Id.zai [qku b] H1=some (.agg #[I (qpc s).1,I (qpc s).2],H1):=qpl (s := {s with nx:=0}) (Did.of d1.row d1.cells)
   refine⟨own,H1, ?_,fin d1 rfl (by simp) (by simp)⟩
   refine qgx rfl Fn.zab rfl rfl ?_
   repeat' first|refine .A ?_|refine .B ?_|refine .C ?_|refine .D ?_|refine .F ?_|refine .G ?_|refine .J ?_|refine .t5 ?_|refine .f5 ?_|refine .L l7 ?_|refine .P hL ?_|refine .P hRs ?_|refine .Y ?_|fail
   rfl
 | false =>
   rw [hcb]at hL d1
   have e0:alS c s ws bs=({s with nx:=11},ws,bs,none):=by rw [eS,hcb];rfl
   rw [e0]
   refine⟨own,H1, ?_,fin d1 rfl (by simp) (by simp)⟩
   refine qgx rfl Fn.zab rfl rfl ?_
   repeat' first|refine .A ?_|refine .B ?_|refine .C ?_|refine .D ?_|refine .F ?_|refine .G ?_|refine .H ?_|refine .J ?_|refine .t5 ?_|refine .f5 ?_|refine .L l7 ?_|refine .P hL ?_|refine .Y ?_|fail
   rfl
end
end Go.Proofs.YtdinebegmppnoabGreat

