/- An object made, step by step: by the program. -/
import Derived.Test.YtdinebegmppnoaaGreatThreadP7
import Derived.Test.YtdinebegmppnoaaGreatThreadP5
import Derived.Test.YtdinebegmppnoaaGreatThreadP2
set_option linter.unusedVariables false
set_option linter.unusedSimpArgs false

namespace Go.Proofs.YtdinebegmppnoaaGreat
open Go Go.Ir

structure Al where
 n:Int
 nx:Int
 seen:Int
 kept:Int
 slot:Int
 f:Int
 at_:Int
 gen:Int
 word:Int
 cl:Bool
 p:Sk
 q:Sk
def qoW (n:Int):Int:=if 1≤n∧n≤256 then qke n else 0
def qoX (e:Ent):Int:=if e.may then(qj0 e:Nat)else 0
def qoY (s g:Int):Int:=if 0≤s∧s<64∧0≤g∧g≤1000 then hnd s g else 0
def qoZ (s:Al)(r:Sk×List Int×Int×Int×Bool):Al×List Int :=
 if r.2.2.2.2 then(if r.2.2.2.1≠0 then({s with p:=r.1,kept:=r.2.2.2.1,nx:=11},r.2.1)else({s with p:=r.1,slot:=r.2.2.1,nx:=4},r.2.1))else({s with p:=r.1},r.2.1)
def qo0 (s:Al)(r:Sk×List Int×Int×Bool):Al×List Int:=if r.2.2.2 then({s with q:=r.1,nx:=11},r.2.1)else({s with q:=r.1},r.2.1)
def qo1 (s:Al):Option Ent→Al
 | none => {s with gen:=0,kept:=2,nx:=10}
 | some e=>if e.lv then {s with gen:=e.g,kept:=2,nx:=10} else {s with gen:=e.g,word:=qoX ⟨s.f,e.g,0,0,false,true⟩,nx:=10}
def qo2 (s:Al):Int×Int:=if s.kept≠0 then(s.kept,0)else(0,qoY s.slot s.gen)
def alS (c:Cfg)(s:Al)(ws bs:List Int):Al×List Int×List Int×Option (Int×Int) :=
 if s.nx=0 then(s,ws,bs,some (1,0))
 else if s.nx=1 then
  if qoW s.n=0 then({s with nx:=0},ws,bs,some (9,0))else({s with seen:=qiT ws 2,nx:=2},ws,bs,none)
 else if s.nx=2 then
  if qi5 ws 2 s.seen then({s with nx:=3},qiU ws 2 (w64 (s.seen+1)),bs,none)else({s with nx:=1},ws,bs,none)
 else if s.nx=3 then((qoZ s (qnC c s.p ws)).1,(qoZ s (qnC c s.p ws)).2,bs,none)
 else if s.nx=4 then
  if qiT ws 0<0∨w64 (c.A-qoW s.n)<qiT ws 0 then({s with f:=qiT ws 0,kept:=10,q:=⟨1,s.slot,0,0⟩,nx:=6},ws,bs,none)else({s with f:=qiT ws 0,nx:=5},ws,bs,none)
 else if s.nx=5 then
  if qi5 ws 0 s.f then({s with cl:=true,nx:=7},qiU ws 0 (w64 (s.f+qoW s.n)),bs,none)else({s with nx:=4},ws,bs,none)
 else if s.nx=6 then((qo0 s (qnD c s.q ws)).1,(qo0 s (qnD c s.q ws)).2,bs,none)
 else if s.nx=7 then
  if w64 (s.at_+1)=qoW s.n then({s with at_:=w64 (s.at_+1),nx:=8},ws,qiU bs (w64 (s.f+s.at_)) (qiW 0),none)else({s with at_:=w64 (s.at_+1)},ws,qiU bs (w64 (s.f+s.at_)) (qiW 0),none)
 else if s.nx=8 then({s with nx:=9},qiU ws (qjl c s.slot 1) s.n,bs,none)
 else if s.nx=9 then(qo1 s (qjZ (qiT ws (qjl c s.slot 0))),ws,bs,none)
 else if s.nx=10 then({s with cl:=false,nx:=11},if s.kept=0 then qiU ws (qjl c s.slot 0) s.word else ws,bs,none)
 else if s.nx=11 then({s with seen:=qiT ws 2,nx:=12},ws,bs,none)
 else if qi5 ws 2 s.seen then({s with nx:=0},qiU ws 2 (w64 (s.seen + -1)),bs,some (qo2 s))else({s with nx:=11},ws,bs,none)

def qo3 (c:Cfg)(s:Al)(t:Nat)(gv:Value):List Value :=
 [qkh t,gv,I c.T,I c.S,I c.A,I s.n,I (qoW s.n),I s.nx,I s.seen,I s.kept,I s.slot,I s.f,I s.at_,I s.gen,I s.word,.bool s.cl]
structure AlP (H:qab)(own:List Nat)(c:Cfg)(s:Al)(b:Nat):Prop where
 mem:b∈own
 nx:0≤s.nx∧s.nx≤12
 row:∃t gv,H[b]? = some (.row (qo3 c s t gv) false)∧H[t]? = some (.row (qnB c s.p) false)∧b≠t∧t∈own∧
  (s.nx=6→∃g,gv=qkh g∧H[g]? = some (.row (qnB c s.q) false)∧b≠g∧t≠g∧g∈own)

section
variable {H:qab}{b t:Nat}{c:Cfg}{s:Al}{cb:CB}{ws bs:List Int}{gv:Value}
theorem qo4 (d:Did H H b (qo3 c s t gv) cb ws bs)(e k:Int):qfV En 0 Id.zac [qkh b,I e,I k] H=some (qag,H.set b (.row (qo3 c {s with kept:=e,nx:=k} t gv) false)):=by
 have hlo:0≤b:=Nat.zero_le _
 refine qgx rfl Fn.zac rfl rfl ?_
 repeat' first|refine .B ?_|refine .nil rfl ?_|refine .A ?_|refine .S (qis d.row hlo (Nat.le_of_ble_eq_true rfl) rfl) ?_|refine .S (qoo (qip d.row) hlo (Nat.le_of_ble_eq_true rfl) rfl) ?_|refine .F ?_|refine .Y ?_|fail
 rfl
theorem qo5 (d:Did H H b (qo3 c s t gv) cb ws bs)(hm:c.may)(hb:b≠cb.P∧b≠cb.W∧b≠cb.Y)(by_ again next:Int) :
  ∃H',qfV En 0 Id.zaf [qkh b,ifC cb,I by_,I again,I next] H=some (.bool (qi5 ws 2 s.seen),H')∧Did H H' b (qo3 c {s with nx:=if qi5 ws 2 s.seen then next else again} t gv) cb (if qi5 ws 2 s.seen then qiU ws 2 (w64 (s.seen+by_))else ws) bs:=by
 have hlo:0≤b:=Nat.zero_le _
 have hP:=fun lo=>qjr lo H hm
 obtain⟨H1,hL,hC1,ho1⟩:=qi6 (lo:=0) d.cells (Nat.zero_le _) (Nat.zero_le _) 2 s.seen (w64 (s.seen+by_))
 have d1:=d.on hC1 ho1 (by simp) hb
 cases hcb:qi5 ws 2 s.seen with
 | true =>
   rw [hcb]at hL d1
   refine⟨_, ?_,d1.set hb⟩
   refine qgx rfl Fn.zaf rfl rfl ?_
   repeat' first|refine .A ?_|refine .B ?_|refine .D ?_|refine .F ?_|refine .J ?_|refine .L (qir d.row (Nat.le_of_ble_eq_true rfl) rfl) ?_|refine .X (qiq d.row rfl) (qiv (qiq d.row rfl)) (qkj _) ?_|refine .P (hP _) ?_|refine .W hL ?_|refine .S (qis d1.row hlo (Nat.le_of_ble_eq_true rfl) rfl) ?_|refine .Y ?_|fail
   rfl
 | false =>
   rw [hcb]at hL d1
   refine⟨_, ?_,d1.set hb⟩
   refine qgx rfl Fn.zaf rfl rfl ?_
   repeat' first|refine .A ?_|refine .B ?_|refine .C ?_|refine .J ?_|refine .L (qir d.row (Nat.le_of_ble_eq_true rfl) rfl) ?_|refine .X (qiq d.row rfl) (qiv (qiq d.row rfl)) (qkj _) ?_|refine .P (hP _) ?_|refine .W hL ?_|refine .S (qis d1.row hlo (Nat.le_of_ble_eq_true rfl) rfl) ?_|refine .F ?_|refine .Y ?_|fail
   rfl

set_option maxHeartbeats 1600000 in
theorem qo6 (d:Did H H b (qo3 c s t gv) cb ws bs)(hm:c.may)(hb:b≠cb.P∧b≠cb.W∧b≠cb.Y)(ht:H[t]? = some (.row (qnB c s.p) false))(hbt:b≠t)(htc:t≠cb.P∧t≠cb.W∧t≠cb.Y) :
  ∃H',qfV En 0 Id.zai [qkh b,ifC cb] H=some (qag,H')∧H'[b]? = some (.row (qo3 c (qoZ s (qnC c s.p ws)).1 t gv) false)∧H'[t]? = some (.row (qnB c (qoZ s (qnC c s.p ws)).1.p) false)∧IsC H' cb (qoZ s (qnC c s.p ws)).2 bs∧Chg [b,t,cb.P,cb.W,cb.Y] H H':=by
 have hlo:0≤b:=Nat.zero_le _
 obtain⟨H1,hL,d1⟩:=qnL (lo:=0) ht d.cells htc hm (Nat.zero_le _) ⟨Nat.zero_le _,Nat.zero_le _⟩
 have l0:qav H none ⟨b,0+0,none⟩=some (qkh t):=qiq d.row rfl
 have hr1:H1[b]? = some (.row (qo3 c s t gv) false):=d1.chg.get d.row (by simp [hbt,hb.1,hb.2.1,hb.2.2])
 have dr:Did H1 H1 b (qo3 c s t gv) cb (qnC c s.p ws).2.1 bs:=Did.of hr1 d1.cells
 have hc1:Chg [b,t,cb.P,cb.W,cb.Y] H H1:=d1.chg.mono (by intro i hi;simp only [List.mem_cons,List.mem_nil_iff,or_false]at hi⊢;omega)
 have hsub:∀i∈[b,cb.P,cb.W,cb.Y],i∈[b,t,cb.P,cb.W,cb.Y]:=by intro i hi;simp only [List.mem_cons,List.mem_nil_iff,or_false]at hi⊢;omega
 have hrt:=d1.row
 unfold qnJ at hL
 generalize qnC c s.p ws=r at hL dr hrt⊢
 obtain⟨p',w',sl,e,dn⟩:=r
 simp only at hL hrt dr
 have hF:=fun e k=>qo4 dr e k
 cases dn with
 | false =>
   refine⟨H1, ?_,hr1,hrt,dr.cells,hc1⟩
   refine qgx rfl Fn.zai rfl rfl ?_
   repeat' first|refine .A ?_|refine .B ?_|refine .D ?_|refine .F ?_|refine .G ?_|refine .H ?_|refine .nil rfl ?_|refine .L l0 ?_|refine .P hL ?_|refine .Y ?_|fail
   rfl
 | true =>
   by_cases he:e≠0
   ·have e1:qoZ s (p',w',sl,e,true)=({s with p:=p',kept:=e,nx:=11},w'):=by unfold qoZ;simp [he]
    rw [e1]
    have dd:=dr.set (row':=qo3 c {s with p:=p',kept:=e,nx:=11} t gv) hb
    refine⟨_, ?_,dd.row,qin hbt hrt,dd.cells,hc1.trans (dd.chg.mono hsub)⟩
    refine qgx rfl Fn.zai rfl rfl ?_
    repeat' first|refine .A ?_|refine .B ?_|refine .C ?_|refine .G ?_|refine .H ?_|refine .nil rfl ?_|refine .t6 ?_|refine .L l0 ?_|refine .P hL ?_|refine .P (hF _ _) ?_|refine .F ?_|refine .Y ?_|fail
    rfl
   ·have e1:qoZ s (p',w',sl,e,true)=({s with p:=p',slot:=sl,nx:=4},w'):=by unfold qoZ;simp [he]
    rw [e1]
    have he0:e=0:=Decidable.not_not.1 he
    have dd:=dr.set (row':=qo3 c {s with p:=p',slot:=sl,nx:=4} t gv) hb
    refine⟨_, ?_,dd.row,qin hbt hrt,dd.cells,hc1.trans (dd.chg.mono hsub)⟩
    refine qgx rfl Fn.zai rfl rfl ?_
    repeat' first|refine .A ?_|refine .B ?_|refine .C ?_|refine .D ?_|refine .G ?_|refine .H ?_|refine .nil rfl ?_|refine .f6 ?_|refine .L l0 ?_|refine .P hL ?_|refine .S (qis dr.row hlo (Nat.le_of_ble_eq_true rfl) rfl) ?_|refine .S (qoo (qip dr.row) hlo (Nat.le_of_ble_eq_true rfl) rfl) ?_|refine .F ?_|refine .Y ?_|fail
    rfl

set_option maxHeartbeats 1600000 in
theorem qo7 (d:Did H H b (qo3 c s t gv) cb ws bs)(hm:c.may)(hb:b≠cb.P∧b≠cb.W∧b≠cb.Y) :
  if qiT ws 0<0∨w64 (c.A-qoW s.n)<qiT ws 0 then
   ∃H' g,qfV En 0 Id.zad [qkh b,ifC cb] H=some (qag,H')∧Did H H' b (qo3 c {s with f:=qiT ws 0,kept:=10,nx:=6} t (qkh g)) cb ws bs∧H'[g]? = some (.row (qnB c ⟨1,s.slot,0,0⟩) false)∧H.length≤g
  else ∃H',qfV En 0 Id.zad [qkh b,ifC cb] H=some (qag,H')∧Did H H' b (qo3 c {s with f:=qiT ws 0,nx:=5} t gv) cb ws bs:=by
 have hlo:0≤b:=Nat.zero_le _
 have hF:=fun lo=>qjq lo H hm
 obtain⟨H1,hL,hC1,ho1⟩:=qi3 (lo:=0) d.cells (Nat.zero_le _) 0
 have d1:=d.on hC1 ho1 (by simp) hb
 generalize qiT ws 0=f0 at hL⊢
 have d2:=d1.set (row':=qo3 c {s with f:=f0} t gv) hb
 have s2:stN 0 H1 ⟨b,0+11,none⟩ (qaf (I f0))=some (H1.set b (.row (qo3 c {s with f:=f0} t gv) false)):=qis d1.row hlo (Nat.le_of_ble_eq_true rfl) rfl
 generalize H1.set b (.row (qo3 c {s with f:=f0} t gv) false)=H2 at d2 s2
 have d3:=d2.set (row':=qo3 c {s with f:=f0,nx:=5} t gv) hb
 have s3:stN 0 H2 ⟨b,0+7,none⟩ (qaf (I 5))=some (H2.set b (.row (qo3 c {s with f:=f0,nx:=5} t gv) false)):=qis d2.row hlo (Nat.le_of_ble_eq_true rfl) rfl
 generalize H2.set b (.row (qo3 c {s with f:=f0,nx:=5} t gv) false)=H3 at d3 s3
 have k11:qav H3 none ⟨b,0+11,none⟩=some (I f0):=qiq d3.row rfl
 have k4:qav H3 none ⟨b,0+4,none⟩=some (I c.A):=qiq d3.row rfl
 have k6:qav H3 none ⟨b,0+6,none⟩=some (I (qoW s.n)):=qiq d3.row rfl
 have k10:qav H3 none ⟨b,0+10,none⟩=some (I s.slot):=qiq d3.row rfl
 have k2:qav H3 (some 2) ⟨b,0+2,none⟩=some (lay c.T c.S):=qir d3.row (Nat.le_of_ble_eq_true rfl) rfl
 by_cases hc:f0<0∨w64 (c.A-qoW s.n)<f0
 ·rw [if_pos hc]
  have hNP:=fun lo=>qoR lo H3 c s.slot
  have hbl:b<H3.length:=qip d3.row
  have d4:Did H (H3 ++ [.row (qnB c ⟨1,s.slot,0,0⟩) false]) b (qo3 c {s with f:=f0,nx:=5} t gv) cb ws bs:=⟨qio d3.row,d3.cells.app _,d3.chg.app _⟩
  have hg:(H3 ++ [Blk.row (qnB c ⟨1,s.slot,0,0⟩) false])[H3.length]? = some (.row (qnB c ⟨1,s.slot,0,0⟩) false):=List.getElem?_concat_length
  generalize H3 ++ [Blk.row (qnB c ⟨1,s.slot,0,0⟩) false]=H4 at hNP d4 hg
  have d5:=d4.set (row':=qo3 c {s with f:=f0,nx:=5} t (qkh H3.length)) hb
  have s5:stN 0 H4 ⟨b,0+1,none⟩ (qaf (qkh H3.length))=some (H4.set b (.row (qo3 c {s with f:=f0,nx:=5} t (qkh H3.length)) false)):=qis d4.row hlo (Nat.le_of_ble_eq_true rfl) rfl
  have hg5:(H4.set b (.row (qo3 c {s with f:=f0,nx:=5} t (qkh H3.length)) false))[H3.length]? = some (.row (qnB c ⟨1,s.slot,0,0⟩) false):=qin (by omega) hg
  generalize H4.set b (.row (qo3 c {s with f:=f0,nx:=5} t (qkh H3.length)) false)=H5 at d5 s5 hg5
  have hFl:=fun e k=>qo4 (Did.of d5.row d5.cells) e k
  refine⟨_,H3.length, ?_,d5.set hb,qin (by omega) hg5,d3.chg.len⟩
  refine qgx rfl Fn.zad rfl rfl ?_
  by_cases hc1:f0<0
  ·repeat' first|refine .A ?_|refine .B ?_|refine .C ?_|refine .nil rfl ?_|refine .t1 ?_|refine .L k11 ?_|refine .L k10 ?_|refine .L k2 ?_|refine .L (qir d.row (Nat.le_of_ble_eq_true rfl) rfl) ?_|refine .P (hF _) ?_|refine .P (hNP _) ?_|refine .P (hFl _ _) ?_|refine .W hL ?_|refine .S s2 ?_|refine .S s3 ?_|refine .S s5 ?_|refine .D ?_|refine .F ?_|refine .Y ?_|fail
   rfl
  ·have hc2:IntKind.i64.wrap (c.A-qoW s.n)<f0:=by rcases hc with h|h;exact absurd h hc1;exact h
   repeat' first|refine .A ?_|refine .B ?_|refine .C ?_|refine .nil rfl ?_|refine .f1 ?_|refine .t3 ?_|(show EG _ _ (⟨_,.load _ _,_,_⟩::_) _ _ _ _ _ _;first|refine .L k11 ?_|refine .L k4 ?_|refine .L k6 ?_|refine .L k10 ?_|refine .L k2 ?_|refine .L (qir d.row (Nat.le_of_ble_eq_true rfl) rfl) ?_)|refine .P (hF _) ?_|refine .P (hNP _) ?_|refine .P (hFl _ _) ?_|refine .W hL ?_|refine .S s2 ?_|refine .S s3 ?_|refine .S s5 ?_|refine .F ?_|refine .Y ?_|fail
   rfl
 ·rw [if_neg hc]
  have hc1:¬f0<0:=fun h=>hc (.inl h)
  have hc2:¬IntKind.i64.wrap (c.A-qoW s.n)<f0:=fun h=>hc (.inr h)
  clear hc
  refine⟨H3, ?_,d3⟩
  refine qgx rfl Fn.zad rfl rfl ?_
  repeat' first|refine .A ?_|refine .B ?_|refine .D ?_|refine .F ?_|refine .nil rfl ?_|refine .f1 ?_|refine .f3 ?_|refine .L k11 ?_|refine .L k4 ?_|refine .L k6 ?_|refine .L (qir d.row (Nat.le_of_ble_eq_true rfl) rfl) ?_|refine .P (hF _) ?_|refine .W hL ?_|refine .S s2 ?_|refine .S s3 ?_|refine .Y ?_|fail
  rfl

set_option maxHeartbeats 1600000 in
theorem qo8 (d:Did H H b (qo3 c s t gv) cb ws bs)(hb:b≠cb.P∧b≠cb.W∧b≠cb.Y)(h7:s.nx=7) :
  ∃H',qfV En 0 Id.zab [qkh b,ifC cb] H=some (qag,H')∧Did H H' b (qo3 c (alS c s ws bs).1 t gv) cb (alS c s ws bs).2.1 (alS c s ws bs).2.2.1:=by
 have hlo:0≤b:=Nat.zero_le _
 unfold alS
 rw [if_neg (by omega),if_neg (by omega),if_neg (by omega),if_neg (by omega),if_neg (by omega),if_neg (by omega),if_neg (by omega),if_pos h7]
 obtain⟨H1,hL,hC1,ho1⟩:=qi8 (lo:=0) d.cells (Nat.zero_le _) (Nat.zero_le _) (w64 (s.f+s.at_)) 0
 have d1:=d.on hC1 ho1 (by simp) hb
 have d2:=d1.set (row':=qo3 c {s with at_:=w64 (s.at_+1)} t gv) hb
 have s2:stN 0 H1 ⟨b,0+12,none⟩ (qaf (I (w64 (s.at_+1))))=some (H1.set b (.row (qo3 c {s with at_:=w64 (s.at_+1)} t gv) false)):=qis d1.row hlo (Nat.le_of_ble_eq_true rfl) rfl
 have k12:qav H1 none ⟨b,0+12,none⟩=some (I s.at_):=qiq d1.row rfl
 generalize H1.set b (.row (qo3 c {s with at_:=w64 (s.at_+1)} t gv) false)=H2 at d2 s2
 have m12:qav H2 none ⟨b,0+12,none⟩=some (I (w64 (s.at_+1))):=qiq d2.row rfl
 have m6:qav H2 none ⟨b,0+6,none⟩=some (I (qoW s.n)):=qiq d2.row rfl
 by_cases hc:w64 (s.at_+1)=qoW s.n
 ·rw [if_pos hc]
  refine⟨_, ?_,d2.set hb⟩
  refine qgx rfl Fn.zab rfl rfl ?_
  repeat' first|refine .A ?_|refine .B ?_|refine .C ?_|refine .nil rfl ?_|refine .t5 ?_|refine .L k12 ?_|refine .L m12 ?_|refine .L m6 ?_|refine .L (qiq d.row rfl) ?_|refine .W hL ?_|refine .S s2 ?_|refine .S (qis d2.row hlo (Nat.le_of_ble_eq_true rfl) rfl) ?_|refine .F ?_|refine .Y ?_|fail
  rfl
 ·rw [if_neg hc]
  refine⟨_, ?_,d2⟩
  refine qgx rfl Fn.zab rfl rfl ?_
  repeat' first|refine .A ?_|refine .B ?_|refine .D ?_|refine .F ?_|refine .nil rfl ?_|refine .f5 ?_|refine .L k12 ?_|refine .L m12 ?_|refine .L m6 ?_|refine .L (qiq d.row rfl) ?_|refine .W hL ?_|refine .S s2 ?_|refine .Y ?_|fail
  rfl

set_option maxHeartbeats 1600000 in
theorem qo9 (d:Did H H b (qo3 c s t gv) cb ws bs)(hm:c.may)(hb:b≠cb.P∧b≠cb.W∧b≠cb.Y) :
  ∃H',qfV En 0 Id.zae [qkh b,ifC cb] H=some (qag,H')∧Did H H' b (qo3 c (qo1 s (qjZ (qiT ws (qjl c s.slot 0)))) t gv) cb ws bs:=by
 have hlo:0≤b:=Nat.zero_le _
 have hEn:=fun lo=>qjo lo H hm s.slot
 obtain⟨H1,hL,hC1,ho1⟩:=qi3 (lo:=0) d.cells (Nat.zero_le _) (qjl c s.slot 0)
 have d1:=d.on hC1 ho1 (by simp) hb
 generalize qiT ws (qjl c s.slot 0)=w at hL⊢
 have hU:=fun lo=>qkb lo H1 w
 have d2:=d1.set (row':=qo3 c {s with nx:=10} t gv) hb
 have s2:stN 0 H1 ⟨b,0+7,none⟩ (qaf (I 10))=some (H1.set b (.row (qo3 c {s with nx:=10} t gv) false)):=qis d1.row hlo (Nat.le_of_ble_eq_true rfl) rfl
 generalize H1.set b (.row (qo3 c {s with nx:=10} t gv) false)=H2 at d2 s2
 have hgo:∀g:Int,stN 0 H2 ⟨b,0+13,none⟩ (qaf (I g))=some (H2.set b (.row (qo3 c {s with nx:=10,gen:=g} t gv) false)):=fun g=>qis d2.row hlo (Nat.le_of_ble_eq_true rfl) rfl
 have hd3:∀g:Int,Did H (H2.set b (.row (qo3 c {s with nx:=10,gen:=g} t gv) false)) b (qo3 c {s with nx:=10,gen:=g} t gv) cb ws bs:=fun g=>d2.set hb
 cases hu:qjZ w with
 | none =>
   rw [hu]at hU
   simp only [unV,Ent.zero,Ent.cs]at hU
   have d3:=hd3 0
   have s3:=hgo 0
   generalize H2.set b (.row (qo3 c {s with nx:=10,gen:=0} t gv) false)=H3 at d3 s3
   have hFl:=fun e k=>qo4 (Did.of d3.row d3.cells) e k
   refine⟨_, ?_,d3.set hb⟩
   refine qgx rfl Fn.zae rfl rfl ?_
   repeat' first|refine .A ?_|refine .B ?_|refine .C ?_|refine .J ?_|refine .t6 ?_|refine .L (qiq d.row rfl) ?_|refine .L (qir d.row (Nat.le_of_ble_eq_true rfl) rfl) ?_|refine .P (hEn _) ?_|refine .P (hU _) ?_|refine .P (hFl _ _) ?_|refine .W hL ?_|refine .S s2 ?_|refine .S s3 ?_|refine .D ?_|refine .F ?_|refine .Y ?_|fail
   rfl
 | some e =>
   rw [hu]at hU
   obtain⟨o,g,p,u,lk,lv⟩:=e
   simp only [unV,Ent.cs]at hU
   have d3:=hd3 g
   have s3:=hgo g
   generalize H2.set b (.row (qo3 c {s with nx:=10,gen:=g} t gv) false)=H3 at d3 s3
   have hFl:=fun e k=>qo4 (Did.of d3.row d3.cells) e k
   cases lv with
   | true =>
     refine⟨_, ?_,d3.set hb⟩
     refine qgx rfl Fn.zae rfl rfl ?_
     repeat' first|refine .A ?_|refine .B ?_|refine .C ?_|refine .J ?_|refine .f6 ?_|refine .L (qiq d.row rfl) ?_|refine .L (qir d.row (Nat.le_of_ble_eq_true rfl) rfl) ?_|refine .P (hEn _) ?_|refine .P (hU _) ?_|refine .P (hFl _ _) ?_|refine .W hL ?_|refine .S s2 ?_|refine .S s3 ?_|refine .F ?_|refine .Y ?_|fail
     rfl
   | false =>
     have hP:=fun lo=>qkd lo H3 ⟨s.f,g,0,0,false,true⟩
     have k11:qav H3 none ⟨b,0+11,none⟩=some (I s.f):=qiq d3.row rfl
     have hpk:∃q:Int,pkV ⟨s.f,g,0,0,false,true⟩ = .tuple #[I (qoX ⟨s.f,g,0,0,false,true⟩),I q]:=by
      unfold pkV qoX
      split
      ·exact⟨0,rfl⟩
      ·exact⟨1,rfl⟩
     obtain⟨q,hq⟩:=hpk
     rw [hq]at hP
     simp only [Ent.cs]at hP
     simp only [qo1,Bool.false_eq_true,if_false]
     generalize qoX ⟨s.f,g,0,0,false,true⟩=pk at hP⊢
     refine⟨_, ?_,d3.set hb⟩
     refine qgx rfl Fn.zae rfl rfl ?_
     repeat' first|refine .A ?_|refine .B ?_|refine .D ?_|refine .F ?_|refine .nil rfl ?_|refine .C ?_|refine .f6 ?_|refine .L k11 ?_|refine .L (qiq d.row rfl) ?_|refine .L (qir d.row (Nat.le_of_ble_eq_true rfl) rfl) ?_|refine .P (hEn _) ?_|refine .P (hU _) ?_|refine .P (hP _) ?_|refine .W hL ?_|refine .S s2 ?_|refine .S s3 ?_|refine .S (qis d3.row hlo (Nat.le_of_ble_eq_true rfl) rfl) ?_|refine .Y ?_|fail
     rfl

set_option maxHeartbeats 1600000 in
theorem qpa (d:Did H H b (qo3 c s t gv) cb ws bs)(hm:c.may)(hb:b≠cb.P∧b≠cb.W∧b≠cb.Y) :
  ∃H',qfV En 0 Id.zag [qkh b,ifC cb] H=some (qag,H')∧Did H H' b (qo3 c {s with cl:=false,nx:=11} t gv) cb (if s.kept=0 then qiU ws (qjl c s.slot 0) s.word else ws) bs:=by
 have hlo:0≤b:=Nat.zero_le _
 have hEn:=fun lo=>qjo lo H hm s.slot
 by_cases hk:s.kept=0
 ·rw [if_pos hk]
  obtain⟨H1,hL,hC1,ho1⟩:=qi4 (lo:=0) d.cells (Nat.zero_le _) (Nat.zero_le _) (qjl c s.slot 0) s.word
  have d1:=d.on hC1 ho1 (by simp) hb
  refine⟨_, ?_,d1.set hb⟩
  refine qgx rfl Fn.zag rfl rfl ?_
  repeat' first|refine .A ?_|refine .B ?_|refine .C ?_|refine .nil rfl ?_|refine .t5 ?_|refine .L (qiq d.row rfl) ?_|refine .L (qir d.row (Nat.le_of_ble_eq_true rfl) rfl) ?_|refine .X (qiq d.row rfl) (qiv (qiq d.row rfl)) (qkj _) ?_|refine .P (hEn _) ?_|refine .W hL ?_|refine .S (qis d1.row hlo (Nat.le_of_ble_eq_true rfl) rfl) ?_|refine .S (qoo (qip d1.row) hlo (Nat.le_of_ble_eq_true rfl) rfl) ?_|refine .F ?_|refine .Y ?_|fail
  rfl
 ·rw [if_neg hk]
  refine⟨_, ?_,d.set hb⟩
  refine qgx rfl Fn.zag rfl rfl ?_
  repeat' first|refine .A ?_|refine .B ?_|refine .D ?_|refine .F ?_|refine .nil rfl ?_|refine .f5 ?_|refine .L (qiq d.row rfl) ?_|refine .S (qis d.row hlo (Nat.le_of_ble_eq_true rfl) rfl) ?_|refine .S (qoo (qip d.row) hlo (Nat.le_of_ble_eq_true rfl) rfl) ?_|refine .Y ?_|fail
  rfl

theorem qpb (d:Did H H b (qo3 c s t gv) cb ws bs):qfV En 0 Id.zah [qkh b] H=some (.agg #[I (qo2 s).1,I (qo2 s).2],H):=by
 have hMk:=fun lo=>qnV lo H s.slot s.gen
 have l9:qav H none ⟨b,0+9,none⟩=some (I s.kept):=qiq d.row rfl
 have hlo:0≤b:=Nat.zero_le _
 refine qgx rfl Fn.zah rfl rfl ?_
 unfold qo2
 by_cases hk:s.kept≠0
 ·rw [if_pos hk]
  repeat' first|refine .A ?_|refine .B ?_|refine .C ?_|refine .J ?_|refine .t6 ?_|refine .L l9 ?_|refine .F ?_|refine .Y ?_|fail
  rfl
 ·rw [if_neg hk]
  have hmk:∃q:Int,qnU s.slot s.gen = .tuple #[I (qoY s.slot s.gen),I q]:=by
   unfold qnU qoY
   split
   ·exact⟨0,rfl⟩
   ·exact⟨1,rfl⟩
  obtain⟨q,hq⟩:=hmk
  rw [hq]at hMk
  repeat' first|refine .A ?_|refine .B ?_|refine .D ?_|refine .F ?_|refine .J ?_|refine .f6 ?_|refine .L l9 ?_|refine .L (qiq d.row rfl) ?_|refine .P (hMk _) ?_|refine .Y ?_|fail
  rfl
end
end Go.Proofs.YtdinebegmppnoaaGreat

/- An object made: each step of the program's machine. -/
namespace Go.Proofs.YtdinebegmppnoaaGreat
open Go Go.Ir

section
variable {H:qab}{b t:Nat}{c:Cfg}{s:Al}{cb:CB}{ws bs:List Int}{gv:Value}{own:List Nat}
structure Grew (H H':qab)(own own':List Nat)(cb:CB):Prop where
 chg:Chg (qoK own cb) H H'
 sub:∀x∈own,x∈own'
 new:∀x∈own',x∈own∨H.length≤x
theorem Grew.same {H':qab}{own:List Nat}{cb:CB}(h:Chg (qoK own cb) H H'):Grew H H' own own cb:=⟨h,fun _ h=>h,fun _ h => .inl h⟩
theorem Grew.cons {H':qab}{own:List Nat}{cb:CB}{g:Nat}(h:Chg (qoK own cb) H H')(hg:H.length≤g):Grew H H' own (g::own) cb :=
 ⟨h,fun _ h=>List.mem_cons_of_mem _ h,fun x hx=>by
   rcases List.mem_cons.1 hx with rfl|hx
   ·exact .inr hg
   ·exact .inl hx⟩

theorem AlP.of {H':qab}{s':Al}{ws' bs':List Int}(hmem:b∈own)(ht:H[t]? = some (.row (qnB c s.p) false))(hbt:b≠t)(hto:t∈own)(hA:Apart own cb)(d:Did H H' b (qo3 c s' t gv) cb ws' bs')(hp:s'.p=s.p)(hn:0≤s'.nx∧s'.nx≤12)(h6:s'.nx≠6):AlP H' own c s' b :=
 ⟨hmem,hn,t,gv,d.row,by rw [hp];exact d.chg.get ht (by have:=hA.at hto;simp [hbt.symm,this.1,this.2.1,this.2.2]),hbt,hto,fun h=>absurd h h6⟩
theorem qpc (s:Al)(r:Sk×List Int×Int×Int×Bool):(qoZ s r).1.nx=s.nx∨(qoZ s r).1.nx=4∨(qoZ s r).1.nx=11:=by
 unfold qoZ
 split
 ·split
  ·exact .inr (.inr rfl)
  ·exact .inr (.inl rfl)
 ·exact .inl rfl

set_option maxHeartbeats 4000000 in
theorem qpd (hP:AlP H own c s b)(hC:IsC H cb ws bs)(hA:Apart own cb)(hm:c.may) :
  ∃own' H',qfV En 0 Id.zaa [qkh b,ifC cb] H=some (qob (alS c s ws bs).2.2.2,H')∧AlP H' own' c (alS c s ws bs).1 b∧IsC H' cb (alS c s ws bs).2.1 (alS c s ws bs).2.2.1∧Grew H H' own own' cb:=by
 obtain⟨t,gv,hr,ht,hbt,hto,h6'⟩:=hP.row
 have hb:=hA.at hP.mem
 have htc:=hA.at hto
 have hlo:0≤b:=Nat.zero_le _
 have d:=Did.of hr hC
 have l7:qav H none ⟨b,0+7,none⟩=some (I s.nx):=qiq hr rfl
 have hsub:=qoL (cb:=cb) hP.mem
 have hn:=hP.nx
 have fin:∀{H':qab} {s':Al} {ws' bs':List Int},Did H H' b (qo3 c s' t gv) cb ws' bs'→s'.p=s.p→0≤s'.nx∧s'.nx≤12→s'.nx≠6→AlP H' own c s' b∧IsC H' cb ws' bs'∧Grew H H' own own cb :=
  fun d1 h1 h2 h3=>⟨AlP.of hP.mem ht hbt hto hA d1 h1 h2 h3,d1.cells,.same (d1.chg.mono hsub)⟩
 by_cases h0:s.nx=0
 ·have e0:alS c s ws bs=(s,ws,bs,some (1,0)):=by unfold alS;rw [if_pos h0]
  rw [e0]
  refine⟨own,H, ?_,hP,hC,.same (Chg.refl _ _)⟩
  refine qgx rfl Fn.zaa rfl rfl ?_
  repeat' first|refine .A ?_|refine .B ?_|refine .C ?_|refine .J ?_|refine .t5 ?_|refine .L l7 ?_|refine .F ?_|refine .Y ?_|fail
  rfl
 by_cases h1:s.nx=1
 ·have l6:qav H none ⟨b,0+6,none⟩=some (I (qoW s.n)):=qiq hr rfl
  by_cases hz:qoW s.n=0
  ·have e0:alS c s ws bs=({s with nx:=0},ws,bs,some (9,0)):=by unfold alS;rw [if_neg h0,if_pos h1,if_pos hz]
   rw [e0]
   refine⟨own,_, ?_,fin (d.set hb) rfl (by simp) (by simp)⟩
   refine qgx rfl Fn.zaa rfl rfl ?_
   repeat' first|refine .A ?_|refine .B ?_|refine .C ?_|refine .D ?_|refine .F ?_|refine .G ?_|refine .J ?_|refine .t5 ?_|refine .f5 ?_|refine .L l7 ?_|refine .L l6 ?_|refine .S (qis d.row hlo (Nat.le_of_ble_eq_true rfl) rfl) ?_|refine .Y ?_|fail
   rfl
  ·have e0:alS c s ws bs=({s with seen:=qiT ws 2,nx:=2},ws,bs,none):=by unfold alS;rw [if_neg h0,if_pos h1,if_neg hz]
   rw [e0]
   have hPd:=fun lo=>qjr lo H hm
   obtain⟨H1,hL,hC1,ho1⟩:=qi3 (lo:=0) hC (Nat.zero_le _) 2
   have d1:=d.on hC1 ho1 (by simp) hb
   refine⟨own,_, ?_,fin (d1.set hb) rfl (by simp) (by simp)⟩
   refine qgx rfl Fn.zaa rfl rfl ?_
   repeat' first|refine .A ?_|refine .B ?_|refine .C ?_|refine .D ?_|refine .F ?_|refine .G ?_|refine .H ?_|refine .J ?_|refine .t5 ?_|refine .f5 ?_|refine .L l7 ?_|refine .L l6 ?_|refine .L (qir d.row (Nat.le_of_ble_eq_true rfl) rfl) ?_|refine .P (hPd _) ?_|refine .W hL ?_|refine .S (qis d1.row hlo (Nat.le_of_ble_eq_true rfl) rfl) ?_|refine .S (qoo (qip d1.row) hlo (Nat.le_of_ble_eq_true rfl) rfl) ?_|refine .Y ?_|fail
   rfl
 by_cases h2:s.nx=2
 ·obtain⟨H1,hL,d1⟩:=qo5 d hm hb 1 1 3
  cases hcb:qi5 ws 2 s.seen with
  | true =>
    rw [hcb]at hL d1
    have e0:alS c s ws bs=({s with nx:=3},qiU ws 2 (w64 (s.seen+1)),bs,none):=by unfold alS;rw [if_neg h0,if_neg h1,if_pos h2,hcb];rfl
    rw [e0]
    refine⟨own,H1, ?_,fin d1 rfl (by simp) (by simp)⟩
    refine qgx rfl Fn.zaa rfl rfl ?_
    repeat' first|refine .A ?_|refine .B ?_|refine .C ?_|refine .D ?_|refine .F ?_|refine .G ?_|refine .H ?_|refine .J ?_|refine .t5 ?_|refine .f5 ?_|refine .L l7 ?_|refine .P hL ?_|refine .Y ?_|fail
    rfl
  | false =>
    rw [hcb]at hL d1
    have e0:alS c s ws bs=({s with nx:=1},ws,bs,none):=by unfold alS;rw [if_neg h0,if_neg h1,if_pos h2,hcb];rfl
    rw [e0]
    refine⟨own,H1, ?_,fin d1 rfl (by simp) (by simp)⟩
    refine qgx rfl Fn.zaa rfl rfl ?_
    repeat' first|refine .A ?_|refine .B ?_|refine .C ?_|refine .D ?_|refine .F ?_|refine .G ?_|refine .H ?_|refine .J ?_|refine .t5 ?_|refine .f5 ?_|refine .L l7 ?_|refine .P hL ?_|refine .Y ?_|fail
    rfl
 by_cases h3:s.nx=3
 ·obtain⟨H1,hL,hb1,ht1,hC1,hx⟩:=qo6 d hm hb ht hbt htc
  have e0:alS c s ws bs=((qoZ s (qnC c s.p ws)).1,(qoZ s (qnC c s.p ws)).2,bs,none):=by unfold alS;rw [if_neg h0,if_neg h1,if_neg h2,if_pos h3]
  have hnx:=qpc s (qnC c s.p ws)
  rw [e0]
  refine⟨own,H1, ?_,⟨hP.mem,by rcases hnx with h|h|h<;>simp only<;>rw [h]<;>simp [h3],t,gv,hb1,ht1,hbt,hto,fun h=>by rcases hnx with g|g|g<;>simp only at h<;>rw [g]at h<;>simp [h3]at h⟩,hC1,.same (hx.mono fun i hi => ?_)⟩
  ·refine qgx rfl Fn.zaa rfl rfl ?_
   repeat' first|refine .A ?_|refine .B ?_|refine .C ?_|refine .D ?_|refine .F ?_|refine .G ?_|refine .H ?_|refine .J ?_|refine .t5 ?_|refine .f5 ?_|refine .L l7 ?_|refine .P hL ?_|refine .Y ?_|fail
   rfl
  ·simp only [List.mem_cons,List.mem_nil_iff,or_false]at hi
   unfold qoK
   rcases hi with rfl|rfl|rfl|rfl|rfl<;>simp [hP.mem,hto]
 by_cases h4:s.nx=4
 ·have hF:=qo7 d hm hb
  by_cases hc:qiT ws 0<0∨w64 (c.A-qoW s.n)<qiT ws 0
  ·rw [if_pos hc]at hF
   obtain⟨H1,g,hL,d1,hg,hgl⟩:=hF
   have e0:alS c s ws bs=({s with f:=qiT ws 0,kept:=10,q:=⟨1,s.slot,0,0⟩,nx:=6},ws,bs,none):=by unfold alS;rw [if_neg h0,if_neg h1,if_neg h2,if_neg h3,if_pos h4,if_pos hc]
   rw [e0]
   have hbl:=qip hr
   have htl:=qip ht
   refine⟨g::own,H1, ?_,⟨List.mem_cons_of_mem _ hP.mem,by simp,t,qkh g,d1.row,d1.chg.get ht (by simp [hbt.symm,htc.1,htc.2.1,htc.2.2]),hbt,List.mem_cons_of_mem _ hto,fun _=>⟨g,rfl,hg,by omega,by omega,by simp⟩⟩,d1.cells,.cons (d1.chg.mono hsub) hgl⟩
   refine qgx rfl Fn.zaa rfl rfl ?_
   repeat' first|refine .A ?_|refine .B ?_|refine .C ?_|refine .D ?_|refine .F ?_|refine .G ?_|refine .H ?_|refine .J ?_|refine .t5 ?_|refine .f5 ?_|refine .L l7 ?_|refine .P hL ?_|refine .Y ?_|fail
   rfl
  ·rw [if_neg hc]at hF
   obtain⟨H1,hL,d1⟩:=hF
   have e0:alS c s ws bs=({s with f:=qiT ws 0,nx:=5},ws,bs,none):=by unfold alS;rw [if_neg h0,if_neg h1,if_neg h2,if_neg h3,if_pos h4,if_neg hc]
   rw [e0]
   refine⟨own,H1, ?_,fin d1 rfl (by simp) (by simp)⟩
   refine qgx rfl Fn.zaa rfl rfl ?_
   repeat' first|refine .A ?_|refine .B ?_|refine .C ?_|refine .D ?_|refine .F ?_|refine .G ?_|refine .H ?_|refine .J ?_|refine .t5 ?_|refine .f5 ?_|refine .L l7 ?_|refine .P hL ?_|refine .Y ?_|fail
   rfl
 by_cases h5:s.nx=5
 ·have d1:=d.set (row':=qo3 c {s with nx:=4} t gv) hb
  have s1:stN 0 H ⟨b,0+7,none⟩ (qaf (I 4))=some (H.set b (.row (qo3 c {s with nx:=4} t gv) false)):=qis d.row hlo (Nat.le_of_ble_eq_true rfl) rfl
  generalize H.set b (.row (qo3 c {s with nx:=4} t gv) false)=H1 at d1 s1
  have hFr:=fun lo=>qjq lo H1 hm
  have k11:qav H1 none ⟨b,0+11,none⟩=some (I s.f):=qiq d1.row rfl
  have k6:qav H1 none ⟨b,0+6,none⟩=some (I (qoW s.n)):=qiq d1.row rfl
  have k2:qav H1 (some 2) ⟨b,0+2,none⟩=some (lay c.T c.S):=qir d1.row (Nat.le_of_ble_eq_true rfl) rfl
  obtain⟨H2,hL,hC2,ho2⟩:=qi6 (lo:=0) d1.cells (Nat.zero_le _) (Nat.zero_le _) 0 s.f (w64 (s.f+qoW s.n))
  have d2:=d1.on hC2 ho2 (by simp) hb
  cases hcb:qi5 ws 0 s.f with
  | true =>
    rw [hcb]at hL d2
    have e0:alS c s ws bs=({s with cl:=true,nx:=7},qiU ws 0 (w64 (s.f+qoW s.n)),bs,none):=by unfold alS;rw [if_neg h0,if_neg h1,if_neg h2,if_neg h3,if_neg h4,if_pos h5,hcb];rfl
    rw [e0]
    refine⟨own,_, ?_,fin (d2.set hb) rfl (by simp) (by simp)⟩
    refine qgx rfl Fn.zaa rfl rfl ?_
    repeat' first|refine .A ?_|refine .B ?_|refine .C ?_|refine .D ?_|refine .F ?_|refine .G ?_|refine .H ?_|refine .J ?_|refine .t5 ?_|refine .f5 ?_|refine .L l7 ?_|refine .L k2 ?_|refine .P (hFr _) ?_|refine .W hL ?_|refine .S (qis d2.row hlo (Nat.le_of_ble_eq_true rfl) rfl) ?_|refine .S (qoo (qip d2.row) hlo (Nat.le_of_ble_eq_true rfl) rfl) ?_|refine .S s1 ?_|refine .X k11 (qiv k11) (qkj _) ?_|refine .X k6 (qiv k6) (qkj _) ?_|refine .Y ?_|fail
    rfl
  | false =>
    rw [hcb]at hL d2
    have e0:alS c s ws bs=({s with nx:=4},ws,bs,none):=by unfold alS;rw [if_neg h0,if_neg h1,if_neg h2,if_neg h3,if_neg h4,if_pos h5,hcb];rfl
    rw [e0]
    refine⟨own,H2, ?_,fin d2 rfl (by simp) (by simp)⟩
    refine qgx rfl Fn.zaa rfl rfl ?_
    repeat' first|refine .A ?_|refine .B ?_|refine .C ?_|refine .D ?_|refine .F ?_|refine .G ?_|refine .H ?_|refine .J ?_|refine .t5 ?_|refine .f5 ?_|refine .L l7 ?_|refine .L k2 ?_|refine .P (hFr _) ?_|refine .W hL ?_|refine .S s1 ?_|refine .X k11 (qiv k11) (qkj _) ?_|refine .X k6 (qiv k6) (qkj _) ?_|refine .Y ?_|fail
    rfl
 by_cases h6:s.nx=6
 ·obtain⟨g,rfl,hg,hbg,htg,hgo⟩:=h6' h6
  have hgc:=hA.at hgo
  obtain⟨H1,hL,d1⟩:=qnM (lo:=0) hg hC hgc hm (Nat.zero_le _) ⟨Nat.zero_le _,Nat.zero_le _⟩
  have l1:qav H none ⟨b,0+1,none⟩=some (qkh g):=qiq hr rfl
  have hr1:H1[b]? = some (.row (qo3 c s t (qkh g)) false):=d1.chg.get hr (by simp [hbg,hb.1,hb.2.1,hb.2.2])
  have ht1:H1[t]? = some (.row (qnB c s.p) false):=d1.chg.get ht (by simp [htg,htc.1,htc.2.1,htc.2.2])
  have dr:Did H1 H1 b (qo3 c s t (qkh g)) cb (qnD c s.q ws).2.1 bs:=Did.of hr1 d1.cells
  have hc1:Chg (qoK own cb) H H1:=d1.chg.mono (qoL hgo)
  have hrg:=d1.row
  have e0:alS c s ws bs=((qo0 s (qnD c s.q ws)).1,(qo0 s (qnD c s.q ws)).2,bs,none):=by unfold alS;rw [if_neg h0,if_neg h1,if_neg h2,if_neg h3,if_neg h4,if_neg h5,if_pos h6]
  rw [e0]
  unfold qnK at hL
  generalize qnD c s.q ws=r at hL dr hrg⊢
  obtain⟨q',w',e,dn⟩:=r
  simp only at hL hrg
  cases dn with
  | true =>
    have dd:=dr.set (row':=qo3 c {s with q:=q',nx:=11} t (qkh g)) hb
    refine⟨own,_, ?_,⟨hP.mem,by simp [qo0],t,qkh g,dd.row,qin hbt ht1,hbt,hto,fun h=>by simp [qo0]at h⟩,dd.cells,.same (hc1.trans (dd.chg.mono hsub))⟩
    refine qgx rfl Fn.zaa rfl rfl ?_
    repeat' first|refine .A ?_|refine .B ?_|refine .C ?_|refine .D ?_|refine .F ?_|refine .G ?_|refine .H ?_|refine .J ?_|refine .t5 ?_|refine .f5 ?_|refine .L l7 ?_|refine .L l1 ?_|refine .P hL ?_|refine .S (qis dr.row hlo (Nat.le_of_ble_eq_true rfl) rfl) ?_|refine .Y ?_|fail
    rfl
  | false =>
    refine⟨own,H1, ?_,⟨hP.mem,hn,t,qkh g,hr1,ht1,hbt,hto,fun _=>⟨g,rfl,hrg,hbg,htg,hgo⟩⟩,dr.cells,.same hc1⟩
    refine qgx rfl Fn.zaa rfl rfl ?_
    repeat' first|refine .A ?_|refine .B ?_|refine .C ?_|refine .D ?_|refine .F ?_|refine .G ?_|refine .H ?_|refine .J ?_|refine .t5 ?_|refine .f5 ?_|refine .L l7 ?_|refine .L l1 ?_|refine .P hL ?_|refine .Y ?_|fail
    rfl
 by_cases h7:s.nx=7
 ·obtain⟨H1,hL,d1⟩:=qo8 d hb h7
  have e0:(alS c s ws bs).2.2.2=none∧(alS c s ws bs).1.p=s.p∧((alS c s ws bs).1.nx=7∨(alS c s ws bs).1.nx=8):=by
   unfold alS
   rw [if_neg h0,if_neg h1,if_neg h2,if_neg h3,if_neg h4,if_neg h5,if_neg h6,if_pos h7]
   split
   ·exact⟨rfl,rfl,.inr rfl⟩
   ·exact⟨rfl,rfl,.inl h7⟩
  rw [e0.1]
  refine⟨own,H1, ?_,fin d1 e0.2.1 (by omega) (by omega)⟩
  refine qgx rfl Fn.zaa rfl rfl ?_
  repeat' first|refine .A ?_|refine .B ?_|refine .C ?_|refine .D ?_|refine .F ?_|refine .G ?_|refine .H ?_|refine .J ?_|refine .t5 ?_|refine .f5 ?_|refine .L l7 ?_|refine .P hL ?_|refine .Y ?_|fail
  rfl
 by_cases h8:s.nx=8
 ·have e0:alS c s ws bs=({s with nx:=9},qiU ws (qjl c s.slot 1) s.n,bs,none):=by unfold alS;rw [if_neg h0,if_neg h1,if_neg h2,if_neg h3,if_neg h4,if_neg h5,if_neg h6,if_neg h7,if_pos h8]
  rw [e0]
  have hSz:=fun lo=>qjp lo H hm s.slot
  obtain⟨H1,hL,hC1,ho1⟩:=qi4 (lo:=0) hC (Nat.zero_le _) (Nat.zero_le _) (qjl c s.slot 1) s.n
  have d1:=d.on hC1 ho1 (by simp) hb
  refine⟨own,_, ?_,fin (d1.set hb) rfl (by simp) (by simp)⟩
  refine qgx rfl Fn.zaa rfl rfl ?_
  repeat' first|refine .A ?_|refine .B ?_|refine .C ?_|refine .D ?_|refine .F ?_|refine .G ?_|refine .H ?_|refine .J ?_|refine .t5 ?_|refine .f5 ?_|refine .L l7 ?_|refine .L (qiq d.row rfl) ?_|refine .L (qir d.row (Nat.le_of_ble_eq_true rfl) rfl) ?_|refine .X (qiq d.row rfl) (qiv (qiq d.row rfl)) (qkj _) ?_|refine .P (hSz _) ?_|refine .W hL ?_|refine .S (qis d1.row hlo (Nat.le_of_ble_eq_true rfl) rfl) ?_|refine .Y ?_|fail
  rfl
 by_cases h9:s.nx=9
 ·have e0:alS c s ws bs=(qo1 s (qjZ (qiT ws (qjl c s.slot 0))),ws,bs,none):=by unfold alS;rw [if_neg h0,if_neg h1,if_neg h2,if_neg h3,if_neg h4,if_neg h5,if_neg h6,if_neg h7,if_neg h8,if_pos h9]
  rw [e0]
  obtain⟨H1,hL,d1⟩:=qo9 d hm hb
  have e1:(qo1 s (qjZ (qiT ws (qjl c s.slot 0)))).nx=10∧(qo1 s (qjZ (qiT ws (qjl c s.slot 0)))).p=s.p:=by
   unfold qo1
   split
   ·exact⟨rfl,rfl⟩
   ·split<;>exact⟨rfl,rfl⟩
  refine⟨own,H1, ?_,fin d1 e1.2 (by simp only;omega) (by simp only;omega)⟩
  refine qgx rfl Fn.zaa rfl rfl ?_
  repeat' first|refine .A ?_|refine .B ?_|refine .C ?_|refine .D ?_|refine .F ?_|refine .G ?_|refine .H ?_|refine .J ?_|refine .t5 ?_|refine .f5 ?_|refine .L l7 ?_|refine .P hL ?_|refine .Y ?_|fail
  rfl
 by_cases h10:s.nx=10
 ·have e0:alS c s ws bs=({s with cl:=false,nx:=11},if s.kept=0 then qiU ws (qjl c s.slot 0) s.word else ws,bs,none):=by unfold alS;rw [if_neg h0,if_neg h1,if_neg h2,if_neg h3,if_neg h4,if_neg h5,if_neg h6,if_neg h7,if_neg h8,if_neg h9,if_pos h10]
  rw [e0]
  obtain⟨H1,hL,d1⟩:=qpa d hm hb
  refine⟨own,H1, ?_,fin d1 rfl (by simp) (by simp)⟩
  refine qgx rfl Fn.zaa rfl rfl ?_
  repeat' first|refine .A ?_|refine .B ?_|refine .C ?_|refine .D ?_|refine .F ?_|refine .G ?_|refine .H ?_|refine .J ?_|refine .t5 ?_|refine .f5 ?_|refine .L l7 ?_|refine .P hL ?_|refine .Y ?_|fail
  rfl
 by_cases h11:s.nx=11
 ·have e0:alS c s ws bs=({s with seen:=qiT ws 2,nx:=12},ws,bs,none):=by unfold alS;rw [if_neg h0,if_neg h1,if_neg h2,if_neg h3,if_neg h4,if_neg h5,if_neg h6,if_neg h7,if_neg h8,if_neg h9,if_neg h10,if_pos h11]
  rw [e0]
  have hPd:=fun lo=>qjr lo H hm
  obtain⟨H1,hL,hC1,ho1⟩:=qi3 (lo:=0) hC (Nat.zero_le _) 2
  have d1:=d.on hC1 ho1 (by simp) hb
  refine⟨own,_, ?_,fin (d1.set hb) rfl (by simp) (by simp)⟩
  refine qgx rfl Fn.zaa rfl rfl ?_
  repeat' first|refine .A ?_|refine .B ?_|refine .C ?_|refine .D ?_|refine .F ?_|refine .G ?_|refine .H ?_|refine .J ?_|refine .t5 ?_|refine .f5 ?_|refine .L l7 ?_|refine .L (qir d.row (Nat.le_of_ble_eq_true rfl) rfl) ?_|refine .P (hPd _) ?_|refine .W hL ?_|refine .S (qis d1.row hlo (Nat.le_of_ble_eq_true rfl) rfl) ?_|refine .S (qoo (qip d1.row) hlo (Nat.le_of_ble_eq_true rfl) rfl) ?_|refine .Y ?_|fail
  rfl
 have h12:s.nx=12:=by omega
 obtain⟨H1,hL,d1⟩:=qo5 d hm hb (-1) 11 0
 have eS:alS c s ws bs=if qi5 ws 2 s.seen then({s with nx:=0},qiU ws 2 (w64 (s.seen + -1)),bs,some (qo2 s))else({s with nx:=11},ws,bs,none):=by
  unfold alS;rw [if_neg h0,if_neg h1,if_neg h2,if_neg h3,if_neg h4,if_neg h5,if_neg h6,if_neg h7,if_neg h8,if_neg h9,if_neg h10,if_neg h11]
 cases hcb:qi5 ws 2 s.seen with
 | true =>
   rw [hcb]at hL d1
   have e0:alS c s ws bs=({s with nx:=0},qiU ws 2 (w64 (s.seen + -1)),bs,some (qo2 s)):=by rw [eS,hcb];rfl
   rw [e0]
   have hRs:qfV En 0 Id.zah [qkh b] H1=some (.agg #[I (qo2 s).1,I (qo2 s).2],H1):=qpb (s := {s with nx:=0}) (Did.of d1.row d1.cells)
   refine⟨own,H1, ?_,fin d1 rfl (by simp) (by simp)⟩
   refine qgx rfl Fn.zaa rfl rfl ?_
   repeat' first|refine .A ?_|refine .B ?_|refine .C ?_|refine .D ?_|refine .F ?_|refine .G ?_|refine .J ?_|refine .t5 ?_|refine .f5 ?_|refine .L l7 ?_|refine .P hL ?_|refine .P hRs ?_|refine .Y ?_|fail
   rfl
 | false =>
   rw [hcb]at hL d1
   have e0:alS c s ws bs=({s with nx:=11},ws,bs,none):=by rw [eS,hcb];rfl
   rw [e0]
   refine⟨own,H1, ?_,fin d1 rfl (by simp) (by simp)⟩
   refine qgx rfl Fn.zaa rfl rfl ?_
   repeat' first|refine .A ?_|refine .B ?_|refine .C ?_|refine .D ?_|refine .F ?_|refine .G ?_|refine .H ?_|refine .J ?_|refine .t5 ?_|refine .f5 ?_|refine .L l7 ?_|refine .P hL ?_|refine .Y ?_|fail
   rfl
end
end Go.Proofs.YtdinebegmppnoaaGreat

