/- An object made, step by step: by the program. -/
import Derived.Test.YtlgnnpkdhbhdgaaGreatThreadP7
import Derived.Test.YtlgnnpkdhbhdgaaGreatThreadP5
import Derived.Test.YtlgnnpkdhbhdgaaGreatThreadP2
set_option linter.all false
namespace Go.Proofs.YtlgnnpkdhbhdgaaGreat
open Go Go.Ir
structure Al where
 n:Int
 nx:Int
 seen:Int
 kept:Int
 slot:Int
 f:Int
 at_:Int
 gen:Int
 word:Int
 cl:Bool
 p:Sk
 q:Sk
def qpc (n:Int):Int:=if 1<=n/\n<=256 then qkq n else 0
def qpd (e:Ent):Int:=if e.may then(qkc e:Nat)else 0
def qpe (s g:Int):Int:=if 0<=s/\s<64/\0<=g/\g<=1000 then hnd s g else 0
def qpf (s:Al)(r:Sk×List Int×Int×Int×Bool):Al×List Int :=
 if r.2.2.2.2 then(if r.2.2.2.1≠0 then({s with p:=r.1,kept:=r.2.2.2.1,nx:=11},r.2.1)else({s with p:=r.1,slot:=r.2.2.1,nx:=4},r.2.1))else({s with p:=r.1},r.2.1)
def qpg (s:Al)(r:Sk×List Int×Int×Bool):Al×List Int:=if r.2.2.2 then({s with q:=r.1,nx:=11},r.2.1)else({s with q:=r.1},r.2.1)
def qph (s:Al):Option Ent->Al
 | none => {s with gen:=0,kept:=2,nx:=10}
 | some e=>if e.lv then {s with gen:=e.g,kept:=2,nx:=10} else {s with gen:=e.g,word:=qpd ⟨s.f,e.g,0,0,false,true⟩,nx:=10}
def qpi (s:Al):Int×Int:=if s.kept≠0 then(s.kept,0)else(0,qpe s.slot s.gen)
def alS (c:Cfg)(s:Al)(ws bs:List Int):Al×List Int×List Int×Option (Int×Int) :=
 if s.nx=0 then(s,ws,bs,some (1,0))
 else if s.nx=1 then
  if qpc s.n=0 then({s with nx:=0},ws,bs,some (9,0))else({s with seen:=qi5 ws 2,nx:=2},ws,bs,none)
 else if s.nx=2 then
  if qjh ws 2 s.seen then({s with nx:=3},qi6 ws 2 (w64 (s.seen+1)),bs,none)else({s with nx:=1},ws,bs,none)
 else if s.nx=3 then((qpf s (qnM c s.p ws)).1,(qpf s (qnM c s.p ws)).2,bs,none)
 else if s.nx=4 then
  if qi5 ws 0<0\/w64 (c.A-qpc s.n)<qi5 ws 0 then({s with f:=qi5 ws 0,kept:=10,q:=⟨1,s.slot,0,0⟩,nx:=6},ws,bs,none)else({s with f:=qi5 ws 0,nx:=5},ws,bs,none)
 else if s.nx=5 then
  if qjh ws 0 s.f then({s with cl:=true,nx:=7},qi6 ws 0 (w64 (s.f+qpc s.n)),bs,none)else({s with nx:=4},ws,bs,none)
 else if s.nx=6 then((qpg s (qnN c s.q ws)).1,(qpg s (qnN c s.q ws)).2,bs,none)
 else if s.nx=7 then
  if w64 (s.at_+1)=qpc s.n then({s with at_:=w64 (s.at_+1),nx:=8},ws,qi6 bs (w64 (s.f+s.at_)) (qi8 0),none)else({s with at_:=w64 (s.at_+1)},ws,qi6 bs (w64 (s.f+s.at_)) (qi8 0),none)
 else if s.nx=8 then({s with nx:=9},qi6 ws (qjx c s.slot 1) s.n,bs,none)
 else if s.nx=9 then(qph s (qkb (qi5 ws (qjx c s.slot 0))),ws,bs,none)
 else if s.nx=10 then({s with cl:=false,nx:=11},if s.kept=0 then qi6 ws (qjx c s.slot 0) s.word else ws,bs,none)
 else if s.nx=11 then({s with seen:=qi5 ws 2,nx:=12},ws,bs,none)
 else if qjh ws 2 s.seen then({s with nx:=0},qi6 ws 2 (w64 (s.seen + -1)),bs,some (qpi s))else({s with nx:=11},ws,bs,none)
def qpj (c:Cfg)(s:Al)(t:Nat)(gv:Value):List Value :=
 [qkt t,gv,I c.T,I c.S,I c.A,I s.n,I (qpc s.n),I s.nx,I s.seen,I s.kept,I s.slot,I s.f,I s.at_,I s.gen,I s.word,.bool s.cl]
structure AlP (H:qab)(own:List Nat)(c:Cfg)(s:Al)(b:Nat):Prop where
 mem:b∈own
 nx:0<=s.nx/\s.nx<=12
 row:∃t gv,H[b]? = some (.row (qpj c s t gv) false)/\H[t]? = some (.row (qnL c s.p) false)/\b≠t/\t∈own/\
  (s.nx=6->∃g,gv=qkt g/\H[g]? = some (.row (qnL c s.q) false)/\b≠g/\t≠g/\g∈own)
section
variable {H:qab}{b t:Nat}{c:Cfg}{s:Al}{cb:CB}{ws bs:List Int}{gv:Value}
def qpk (d:Did H H b (qpj c s t gv) cb ws bs)(e k:Int):qfU En 0 Id.zad [qkt b,I e,I k] H=some (qag,H.set b (.row (qpj c {s with kept:=e,nx:=k} t gv) false)):=by
 have hlo:0<=b:=zzZ _
 refine qgw rfl Fn.zad rfl rfl ?_
 repeat' first|refine .B ?_|refine .nil rfl ?_|refine .A ?_|refine .S (qiE d.row hlo (zzL rfl) rfl) ?_|refine .S (qoB (qiB d.row) hlo (zzL rfl) rfl) ?_|refine .F ?_|refine .Y ?_|fail
 rfl
def qpl (d:Did H H b (qpj c s t gv) cb ws bs)(hm:c.may)(hb:b≠cb.P/\b≠cb.W/\b≠cb.Y)(by_ again next:Int) :
  ∃H',qfU En 0 Id.zag [qkt b,ifC cb,I by_,I again,I next] H=some (.bool (qjh ws 2 s.seen),H')/\Did H H' b (qpj c {s with nx:=if qjh ws 2 s.seen then next else again} t gv) cb (if qjh ws 2 s.seen then qi6 ws 2 (w64 (s.seen+by_))else ws) bs:=by
 have hlo:0<=b:=zzZ _
 have hP:=fun lo=>qjD lo H hm
 obtain⟨H1,hL,hC1,ho1⟩:=qji (lo:=0) d.cells (zzZ _) (zzZ _) 2 s.seen (w64 (s.seen+by_))
 have d1:=d.on hC1 ho1 (by simp) hb
 cases hcb:qjh ws 2 s.seen with
 | true =>
   rw [hcb]at hL d1
   refine⟨_, ?_,d1.set hb⟩
   refine qgw rfl Fn.zag rfl rfl ?_
   repeat' first|refine .A ?_|refine .B ?_|refine .D ?_|refine .F ?_|refine .J ?_|refine .L (qiD d.row (zzL rfl) rfl) ?_|refine .X (qiC d.row rfl) (qiH (qiC d.row rfl)) (qkv _) ?_|refine .P (hP _) ?_|refine .W hL ?_|refine .S (qiE d1.row hlo (zzL rfl) rfl) ?_|refine .Y ?_|fail
   rfl
 | false =>
   rw [hcb]at hL d1
   refine⟨_, ?_,d1.set hb⟩
   refine qgw rfl Fn.zag rfl rfl ?_
   repeat' first|refine .A ?_|refine .B ?_|refine .C ?_|refine .J ?_|refine .L (qiD d.row (zzL rfl) rfl) ?_|refine .X (qiC d.row rfl) (qiH (qiC d.row rfl)) (qkv _) ?_|refine .P (hP _) ?_|refine .W hL ?_|refine .S (qiE d1.row hlo (zzL rfl) rfl) ?_|refine .F ?_|refine .Y ?_|fail
   rfl
set_option maxHeartbeats 1600000 in
def qpm (d:Did H H b (qpj c s t gv) cb ws bs)(hm:c.may)(hb:b≠cb.P/\b≠cb.W/\b≠cb.Y)(ht:H[t]? = some (.row (qnL c s.p) false))(hbt:b≠t)(htc:t≠cb.P/\t≠cb.W/\t≠cb.Y) :
  ∃H',qfU En 0 Id.zaj [qkt b,ifC cb] H=some (qag,H')/\H'[b]? = some (.row (qpj c (qpf s (qnM c s.p ws)).1 t gv) false)/\H'[t]? = some (.row (qnL c (qpf s (qnM c s.p ws)).1.p) false)/\IsC H' cb (qpf s (qnM c s.p ws)).2 bs/\Chg [b,t,cb.P,cb.W,cb.Y] H H':=by
 have hlo:0<=b:=zzZ _
 obtain⟨H1,hL,d1⟩:=qnV (lo:=0) ht d.cells htc hm (zzZ _) ⟨zzZ _,zzZ _⟩
 have l0:qau H none ⟨b,0+0,none⟩=some (qkt t):=qiC d.row rfl
 have hr1:H1[b]? = some (.row (qpj c s t gv) false):=d1.yz.get d.row (by simp [hbt,hb.1,hb.2.1,hb.2.2])
 have dr:Did H1 H1 b (qpj c s t gv) cb (qnM c s.p ws).2.1 bs:=Did.of hr1 d1.cells
 have hc1:Chg [b,t,cb.P,cb.W,cb.Y] H H1:=d1.yz.mono (by intro i hi;simp only [List.mem_cons,List.mem_nil_iff,or_false]at hi|-;omega)
 have hsub:∀i∈[b,cb.P,cb.W,cb.Y],i∈[b,t,cb.P,cb.W,cb.Y]:=by intro i hi;simp only [List.mem_cons,List.mem_nil_iff,or_false]at hi|-;omega
 have hrt:=d1.row
 unfold qnT at hL
 generalize qnM c s.p ws=r at hL dr hrt|-
 obtain⟨p',w',sl,e,dn⟩:=r
 simp only at hL hrt dr
 have hF:=fun e k=>qpk dr e k
 cases dn with
 | false =>
   refine⟨H1, ?_,hr1,hrt,dr.cells,hc1⟩
   refine qgw rfl Fn.zaj rfl rfl ?_
   repeat' first|refine .A ?_|refine .B ?_|refine .D ?_|refine .F ?_|refine .G ?_|refine .H ?_|refine .nil rfl ?_|refine .L l0 ?_|refine .P hL ?_|refine .Y ?_|fail
   rfl
 | true =>
   by_cases he:e≠0
   ·have e1:qpf s (p',w',sl,e,true)=({s with p:=p',kept:=e,nx:=11},w'):=by unfold qpf;simp [he]
    rw [e1]
    have dd:=dr.set (row':=qpj c {s with p:=p',kept:=e,nx:=11} t gv) hb
    refine⟨_, ?_,dd.row,qiz hbt hrt,dd.cells,hc1.trans (dd.yz.mono hsub)⟩
    refine qgw rfl Fn.zaj rfl rfl ?_
    repeat' first|refine .A ?_|refine .B ?_|refine .C ?_|refine .G ?_|refine .H ?_|refine .nil rfl ?_|refine .t6 ?_|refine .L l0 ?_|refine .P hL ?_|refine .P (hF _ _) ?_|refine .F ?_|refine .Y ?_|fail
    rfl
   ·have e1:qpf s (p',w',sl,e,true)=({s with p:=p',slot:=sl,nx:=4},w'):=by unfold qpf;simp [he]
    rw [e1]
    have he0:e=0:=Decidable.not_not.1 he
    have dd:=dr.set (row':=qpj c {s with p:=p',slot:=sl,nx:=4} t gv) hb
    refine⟨_, ?_,dd.row,qiz hbt hrt,dd.cells,hc1.trans (dd.yz.mono hsub)⟩
    refine qgw rfl Fn.zaj rfl rfl ?_
    repeat' first|refine .A ?_|refine .B ?_|refine .C ?_|refine .D ?_|refine .G ?_|refine .H ?_|refine .nil rfl ?_|refine .f6 ?_|refine .L l0 ?_|refine .P hL ?_|refine .S (qiE dr.row hlo (zzL rfl) rfl) ?_|refine .S (qoB (qiB dr.row) hlo (zzL rfl) rfl) ?_|refine .F ?_|refine .Y ?_|fail
    rfl
set_option maxHeartbeats 1600000 in
def qpn (d:Did H H b (qpj c s t gv) cb ws bs)(hm:c.may)(hb:b≠cb.P/\b≠cb.W/\b≠cb.Y) :
  if qi5 ws 0<0\/w64 (c.A-qpc s.n)<qi5 ws 0 then
   ∃H' g,qfU En 0 Id.zae [qkt b,ifC cb] H=some (qag,H')/\Did H H' b (qpj c {s with f:=qi5 ws 0,kept:=10,nx:=6} t (qkt g)) cb ws bs/\H'[g]? = some (.row (qnL c ⟨1,s.slot,0,0⟩) false)/\H.length<=g
  else ∃H',qfU En 0 Id.zae [qkt b,ifC cb] H=some (qag,H')/\Did H H' b (qpj c {s with f:=qi5 ws 0,nx:=5} t gv) cb ws bs:=by
 have hlo:0<=b:=zzZ _
 have hF:=fun lo=>qjC lo H hm
 obtain⟨H1,hL,hC1,ho1⟩:=qjf (lo:=0) d.cells (zzZ _) 0
 have d1:=d.on hC1 ho1 (by simp) hb
 generalize qi5 ws 0=f0 at hL|-
 have d2:=d1.set (row':=qpj c {s with f:=f0} t gv) hb
 have s2:stN 0 H1 ⟨b,0+11,none⟩ (qaf (I f0))=some (H1.set b (.row (qpj c {s with f:=f0} t gv) false)):=qiE d1.row hlo (zzL rfl) rfl
 generalize H1.set b (.row (qpj c {s with f:=f0} t gv) false)=H2 at d2 s2
 have d3:=d2.set (row':=qpj c {s with f:=f0,nx:=5} t gv) hb
 have s3:stN 0 H2 ⟨b,0+7,none⟩ (qaf (I 5))=some (H2.set b (.row (qpj c {s with f:=f0,nx:=5} t gv) false)):=qiE d2.row hlo (zzL rfl) rfl
 generalize H2.set b (.row (qpj c {s with f:=f0,nx:=5} t gv) false)=H3 at d3 s3
 have k11:qau H3 none ⟨b,0+11,none⟩=some (I f0):=qiC d3.row rfl
 have k4:qau H3 none ⟨b,0+4,none⟩=some (I c.A):=qiC d3.row rfl
 have k6:qau H3 none ⟨b,0+6,none⟩=some (I (qpc s.n)):=qiC d3.row rfl
 have k10:qau H3 none ⟨b,0+10,none⟩=some (I s.slot):=qiC d3.row rfl
 have k2:qau H3 (some 2) ⟨b,0+2,none⟩=some (lay c.T c.S):=qiD d3.row (zzL rfl) rfl
 by_cases hc:f0<0\/w64 (c.A-qpc s.n)<f0
 ·rw [if_pos hc]
  have hNP:=fun lo=>qo6 lo H3 c s.slot
  have hbl:b<H3.length:=qiB d3.row
  have d4:Did H (H3 ++ [.row (qnL c ⟨1,s.slot,0,0⟩) false]) b (qpj c {s with f:=f0,nx:=5} t gv) cb ws bs:=⟨qiA d3.row,d3.cells.app _,d3.yz.app _⟩
  have hg:(H3 ++ [Blk.row (qnL c ⟨1,s.slot,0,0⟩) false])[H3.length]? = some (.row (qnL c ⟨1,s.slot,0,0⟩) false):=zzC
  generalize H3 ++ [Blk.row (qnL c ⟨1,s.slot,0,0⟩) false]=H4 at hNP d4 hg
  have d5:=d4.set (row':=qpj c {s with f:=f0,nx:=5} t (qkt H3.length)) hb
  have s5:stN 0 H4 ⟨b,0+1,none⟩ (qaf (qkt H3.length))=some (H4.set b (.row (qpj c {s with f:=f0,nx:=5} t (qkt H3.length)) false)):=qiE d4.row hlo (zzL rfl) rfl
  have hg5:(H4.set b (.row (qpj c {s with f:=f0,nx:=5} t (qkt H3.length)) false))[H3.length]? = some (.row (qnL c ⟨1,s.slot,0,0⟩) false):=qiz (by omega) hg
  generalize H4.set b (.row (qpj c {s with f:=f0,nx:=5} t (qkt H3.length)) false)=H5 at d5 s5 hg5
  have hFl:=fun e k=>qpk (Did.of d5.row d5.cells) e k
  refine⟨_,H3.length, ?_,d5.set hb,qiz (by omega) hg5,d3.yz.len⟩
  refine qgw rfl Fn.zae rfl rfl ?_
  by_cases hc1:f0<0
  ·repeat' first|refine .A ?_|refine .B ?_|refine .C ?_|refine .nil rfl ?_|refine .t1 ?_|refine .L k11 ?_|refine .L k10 ?_|refine .L k2 ?_|refine .L (qiD d.row (zzL rfl) rfl) ?_|refine .P (hF _) ?_|refine .P (hNP _) ?_|refine .P (hFl _ _) ?_|refine .W hL ?_|refine .S s2 ?_|refine .S s3 ?_|refine .S s5 ?_|refine .D ?_|refine .F ?_|refine .Y ?_|fail
   rfl
  ·have hc2:IntKind.i64.wrap (c.A-qpc s.n)<f0:=by rcases hc with h|h;exact absurd h hc1;exact h
   repeat' first|refine .A ?_|refine .B ?_|refine .C ?_|refine .nil rfl ?_|refine .f1 ?_|refine .t3 ?_|(show EG _ _ (⟨_,.load _ _,_,_⟩::_) _ _ _ _ _ _;first|refine .L k11 ?_|refine .L k4 ?_|refine .L k6 ?_|refine .L k10 ?_|refine .L k2 ?_|refine .L (qiD d.row (zzL rfl) rfl) ?_)|refine .P (hF _) ?_|refine .P (hNP _) ?_|refine .P (hFl _ _) ?_|refine .W hL ?_|refine .S s2 ?_|refine .S s3 ?_|refine .S s5 ?_|refine .F ?_|refine .Y ?_|fail
   rfl
 ·rw [if_neg hc]
  have hc1:¬f0<0:=fun h=>hc (.inl h)
  have hc2:¬IntKind.i64.wrap (c.A-qpc s.n)<f0:=fun h=>hc (.inr h)
  clear hc
  refine⟨H3, ?_,d3⟩
  refine qgw rfl Fn.zae rfl rfl ?_
  repeat' first|refine .A ?_|refine .B ?_|refine .D ?_|refine .F ?_|refine .nil rfl ?_|refine .f1 ?_|refine .f3 ?_|refine .L k11 ?_|refine .L k4 ?_|refine .L k6 ?_|refine .L (qiD d.row (zzL rfl) rfl) ?_|refine .P (hF _) ?_|refine .W hL ?_|refine .S s2 ?_|refine .S s3 ?_|refine .Y ?_|fail
  rfl
set_option maxHeartbeats 1600000 in
def qpo (d:Did H H b (qpj c s t gv) cb ws bs)(hb:b≠cb.P/\b≠cb.W/\b≠cb.Y)(h7:s.nx=7) :
  ∃H',qfU En 0 Id.zac [qkt b,ifC cb] H=some (qag,H')/\Did H H' b (qpj c (alS c s ws bs).1 t gv) cb (alS c s ws bs).2.1 (alS c s ws bs).2.2.1:=by
 have hlo:0<=b:=zzZ _
 unfold alS
 rw [if_neg (by omega),if_neg (by omega),if_neg (by omega),if_neg (by omega),if_neg (by omega),if_neg (by omega),if_neg (by omega),if_pos h7]
 obtain⟨H1,hL,hC1,ho1⟩:=qjk (lo:=0) d.cells (zzZ _) (zzZ _) (w64 (s.f+s.at_)) 0
 have d1:=d.on hC1 ho1 (by simp) hb
 have d2:=d1.set (row':=qpj c {s with at_:=w64 (s.at_+1)} t gv) hb
 have s2:stN 0 H1 ⟨b,0+12,none⟩ (qaf (I (w64 (s.at_+1))))=some (H1.set b (.row (qpj c {s with at_:=w64 (s.at_+1)} t gv) false)):=qiE d1.row hlo (zzL rfl) rfl
 have k12:qau H1 none ⟨b,0+12,none⟩=some (I s.at_):=qiC d1.row rfl
 generalize H1.set b (.row (qpj c {s with at_:=w64 (s.at_+1)} t gv) false)=H2 at d2 s2
 have m12:qau H2 none ⟨b,0+12,none⟩=some (I (w64 (s.at_+1))):=qiC d2.row rfl
 have m6:qau H2 none ⟨b,0+6,none⟩=some (I (qpc s.n)):=qiC d2.row rfl
 by_cases hc:w64 (s.at_+1)=qpc s.n
 ·rw [if_pos hc]
  refine⟨_, ?_,d2.set hb⟩
  refine qgw rfl Fn.zac rfl rfl ?_
  repeat' first|refine .A ?_|refine .B ?_|refine .C ?_|refine .nil rfl ?_|refine .t5 ?_|refine .L k12 ?_|refine .L m12 ?_|refine .L m6 ?_|refine .L (qiC d.row rfl) ?_|refine .W hL ?_|refine .S s2 ?_|refine .S (qiE d2.row hlo (zzL rfl) rfl) ?_|refine .F ?_|refine .Y ?_|fail
  rfl
 ·rw [if_neg hc]
  refine⟨_, ?_,d2⟩
  refine qgw rfl Fn.zac rfl rfl ?_
  repeat' first|refine .A ?_|refine .B ?_|refine .D ?_|refine .F ?_|refine .nil rfl ?_|refine .f5 ?_|refine .L k12 ?_|refine .L m12 ?_|refine .L m6 ?_|refine .L (qiC d.row rfl) ?_|refine .W hL ?_|refine .S s2 ?_|refine .Y ?_|fail
  rfl
set_option maxHeartbeats 1600000 in
def qpp (d:Did H H b (qpj c s t gv) cb ws bs)(hm:c.may)(hb:b≠cb.P/\b≠cb.W/\b≠cb.Y) :
  ∃H',qfU En 0 Id.zaf [qkt b,ifC cb] H=some (qag,H')/\Did H H' b (qpj c (qph s (qkb (qi5 ws (qjx c s.slot 0)))) t gv) cb ws bs:=by
 have hlo:0<=b:=zzZ _
 have hEn:=fun lo=>qjA lo H hm s.slot
 obtain⟨H1,hL,hC1,ho1⟩:=qjf (lo:=0) d.cells (zzZ _) (qjx c s.slot 0)
 have d1:=d.on hC1 ho1 (by simp) hb
 generalize qi5 ws (qjx c s.slot 0)=w at hL|-
 have hU:=fun lo=>qkn lo H1 w
 have d2:=d1.set (row':=qpj c {s with nx:=10} t gv) hb
 have s2:stN 0 H1 ⟨b,0+7,none⟩ (qaf (I 10))=some (H1.set b (.row (qpj c {s with nx:=10} t gv) false)):=qiE d1.row hlo (zzL rfl) rfl
 generalize H1.set b (.row (qpj c {s with nx:=10} t gv) false)=H2 at d2 s2
 have hgo:∀g:Int,stN 0 H2 ⟨b,0+13,none⟩ (qaf (I g))=some (H2.set b (.row (qpj c {s with nx:=10,gen:=g} t gv) false)):=fun g=>qiE d2.row hlo (zzL rfl) rfl
 have hd3:∀g:Int,Did H (H2.set b (.row (qpj c {s with nx:=10,gen:=g} t gv) false)) b (qpj c {s with nx:=10,gen:=g} t gv) cb ws bs:=fun g=>d2.set hb
 cases hu:qkb w with
 | none =>
   rw [hu]at hU
   simp only [unV,Ent.zero,Ent.cs]at hU
   have d3:=hd3 0
   have s3:=hgo 0
   generalize H2.set b (.row (qpj c {s with nx:=10,gen:=0} t gv) false)=H3 at d3 s3
   have hFl:=fun e k=>qpk (Did.of d3.row d3.cells) e k
   refine⟨_, ?_,d3.set hb⟩
   refine qgw rfl Fn.zaf rfl rfl ?_
   repeat' first|refine .A ?_|refine .B ?_|refine .C ?_|refine .J ?_|refine .t6 ?_|refine .L (qiC d.row rfl) ?_|refine .L (qiD d.row (zzL rfl) rfl) ?_|refine .P (hEn _) ?_|refine .P (hU _) ?_|refine .P (hFl _ _) ?_|refine .W hL ?_|refine .S s2 ?_|refine .S s3 ?_|refine .D ?_|refine .F ?_|refine .Y ?_|fail
   rfl
 | some e =>
   rw [hu]at hU
   obtain⟨o,g,p,u,lk,lv⟩:=e
   simp only [unV,Ent.cs]at hU
   have d3:=hd3 g
   have s3:=hgo g
   generalize H2.set b (.row (qpj c {s with nx:=10,gen:=g} t gv) false)=H3 at d3 s3
   have hFl:=fun e k=>qpk (Did.of d3.row d3.cells) e k
   cases lv with
   | true =>
     refine⟨_, ?_,d3.set hb⟩
     refine qgw rfl Fn.zaf rfl rfl ?_
     repeat' first|refine .A ?_|refine .B ?_|refine .C ?_|refine .J ?_|refine .f6 ?_|refine .L (qiC d.row rfl) ?_|refine .L (qiD d.row (zzL rfl) rfl) ?_|refine .P (hEn _) ?_|refine .P (hU _) ?_|refine .P (hFl _ _) ?_|refine .W hL ?_|refine .S s2 ?_|refine .S s3 ?_|refine .F ?_|refine .Y ?_|fail
     rfl
   | false =>
     have hP:=fun lo=>qkp lo H3 ⟨s.f,g,0,0,false,true⟩
     have k11:qau H3 none ⟨b,0+11,none⟩=some (I s.f):=qiC d3.row rfl
     have hpk:∃q:Int,pkV ⟨s.f,g,0,0,false,true⟩ = .tuple #[I (qpd ⟨s.f,g,0,0,false,true⟩),I q]:=by
      unfold pkV qpd
      split
      ·exact⟨0,rfl⟩
      ·exact⟨1,rfl⟩
     obtain⟨q,hq⟩:=hpk
     rw [hq]at hP
     simp only [Ent.cs]at hP
     simp only [qph,Bool.false_eq_true,if_false]
     generalize qpd ⟨s.f,g,0,0,false,true⟩=pk at hP|-
     refine⟨_, ?_,d3.set hb⟩
     refine qgw rfl Fn.zaf rfl rfl ?_
     repeat' first|refine .A ?_|refine .B ?_|refine .D ?_|refine .F ?_|refine .nil rfl ?_|refine .C ?_|refine .f6 ?_|refine .L k11 ?_|refine .L (qiC d.row rfl) ?_|refine .L (qiD d.row (zzL rfl) rfl) ?_|refine .P (hEn _) ?_|refine .P (hU _) ?_|refine .P (hP _) ?_|refine .W hL ?_|refine .S s2 ?_|refine .S s3 ?_|refine .S (qiE d3.row hlo (zzL rfl) rfl) ?_|refine .Y ?_|fail
     rfl
set_option maxHeartbeats 1600000 in
def qpq (d:Did H H b (qpj c s t gv) cb ws bs)(hm:c.may)(hb:b≠cb.P/\b≠cb.W/\b≠cb.Y) :
  ∃H',qfU En 0 Id.zah [qkt b,ifC cb] H=some (qag,H')/\Did H H' b (qpj c {s with cl:=false,nx:=11} t gv) cb (if s.kept=0 then qi6 ws (qjx c s.slot 0) s.word else ws) bs:=by
 have hlo:0<=b:=zzZ _
 have hEn:=fun lo=>qjA lo H hm s.slot
 by_cases hk:s.kept=0
 ·rw [if_pos hk]
  obtain⟨H1,hL,hC1,ho1⟩:=qjg (lo:=0) d.cells (zzZ _) (zzZ _) (qjx c s.slot 0) s.word
  have d1:=d.on hC1 ho1 (by simp) hb
  refine⟨_, ?_,d1.set hb⟩
  refine qgw rfl Fn.zah rfl rfl ?_
  repeat' first|refine .A ?_|refine .B ?_|refine .C ?_|refine .nil rfl ?_|refine .t5 ?_|refine .L (qiC d.row rfl) ?_|refine .L (qiD d.row (zzL rfl) rfl) ?_|refine .X (qiC d.row rfl) (qiH (qiC d.row rfl)) (qkv _) ?_|refine .P (hEn _) ?_|refine .W hL ?_|refine .S (qiE d1.row hlo (zzL rfl) rfl) ?_|refine .S (qoB (qiB d1.row) hlo (zzL rfl) rfl) ?_|refine .F ?_|refine .Y ?_|fail
  rfl
 ·rw [if_neg hk]
  refine⟨_, ?_,d.set hb⟩
  refine qgw rfl Fn.zah rfl rfl ?_
  repeat' first|refine .A ?_|refine .B ?_|refine .D ?_|refine .F ?_|refine .nil rfl ?_|refine .f5 ?_|refine .L (qiC d.row rfl) ?_|refine .S (qiE d.row hlo (zzL rfl) rfl) ?_|refine .S (qoB (qiB d.row) hlo (zzL rfl) rfl) ?_|refine .Y ?_|fail
  rfl
def qpr (d:Did H H b (qpj c s t gv) cb ws bs):qfU En 0 Id.zai [qkt b] H=some (.agg #[I (qpi s).1,I (qpi s).2],H):=by
 have hMk:=fun lo=>qn6 lo H s.slot s.gen
 have l9:qau H none ⟨b,0+9,none⟩=some (I s.kept):=qiC d.row rfl
 have hlo:0<=b:=zzZ _
 refine qgw rfl Fn.zai rfl rfl ?_
 unfold qpi
 by_cases hk:s.kept≠0
 ·rw [if_pos hk]
  repeat' first|refine .A ?_|refine .B ?_|refine .C ?_|refine .J ?_|refine .t6 ?_|refine .L l9 ?_|refine .F ?_|refine .Y ?_|fail
  rfl
 ·rw [if_neg hk]
  have hmk:∃q:Int,qn5 s.slot s.gen = .tuple #[I (qpe s.slot s.gen),I q]:=by
   unfold qn5 qpe
   split
   ·exact⟨0,rfl⟩
   ·exact⟨1,rfl⟩
  obtain⟨q,hq⟩:=hmk
  rw [hq]at hMk
  repeat' first|refine .A ?_|refine .B ?_|refine .D ?_|refine .F ?_|refine .J ?_|refine .f6 ?_|refine .L l9 ?_|refine .L (qiC d.row rfl) ?_|refine .P (hMk _) ?_|refine .Y ?_|fail
  rfl
end
section
variable {H:qab}{b t:Nat}{c:Cfg}{s:Al}{cb:CB}{ws bs:List Int}{gv:Value}{own:List Nat}
structure Grew (H H':qab)(own own':List Nat)(cb:CB):Prop where
 yz:Chg (qoZ own cb) H H'
 sub:∀x∈own,x∈own'
 new:∀x∈own',x∈own\/H.length<=x
def Grew.same {H':qab}{own:List Nat}{cb:CB}(h:Chg (qoZ own cb) H H'):Grew H H' own own cb:=⟨h,fun _ h=>h,fun _ h => .inl h⟩
def Grew.cons {H':qab}{own:List Nat}{cb:CB}{g:Nat}(h:Chg (qoZ own cb) H H')(hg:H.length<=g):Grew H H' own (g::own) cb :=
 ⟨h,fun _ h=>List.mem_cons_of_mem _ h,fun x hx=>by
   rcases List.mem_cons.1 hx with rfl|hx
   ·exact .inr hg
   ·exact .inl hx⟩
def AlP.of {H':qab}{s':Al}{ws' bs':List Int}(hmem:b∈own)(ht:H[t]? = some (.row (qnL c s.p) false))(hbt:b≠t)(hto:t∈own)(hA:Apart own cb)(d:Did H H' b (qpj c s' t gv) cb ws' bs')(hp:s'.p=s.p)(hn:0<=s'.nx/\s'.nx<=12)(h6:s'.nx≠6):AlP H' own c s' b :=
 ⟨hmem,hn,t,gv,d.row,by rw [hp];exact d.yz.get ht (by have:=hA.at hto;simp [hbt.symm,this.1,this.2.1,this.2.2]),hbt,hto,fun h=>absurd h h6⟩
def qps (s:Al)(r:Sk×List Int×Int×Int×Bool):(qpf s r).1.nx=s.nx\/(qpf s r).1.nx=4\/(qpf s r).1.nx=11:=by
 unfold qpf
 split
 ·split
  ·exact .inr (.inr rfl)
  ·exact .inr (.inl rfl)
 ·exact .inl rfl
set_option maxHeartbeats 4000000 in
def qpt (hP:AlP H own c s b)(hC:IsC H cb ws bs)(hA:Apart own cb)(hm:c.may) :
  ∃own' H',qfU En 0 Id.zab [qkt b,ifC cb] H=some (qom (alS c s ws bs).2.2.2,H')/\AlP H' own' c (alS c s ws bs).1 b/\IsC H' cb (alS c s ws bs).2.1 (alS c s ws bs).2.2.1/\Grew H H' own own' cb:=by
 obtain⟨t,gv,hr,ht,hbt,hto,h6'⟩:=hP.row
 have hb:=hA.at hP.mem
 have htc:=hA.at hto
 have hlo:0<=b:=zzZ _
 have d:=Did.of hr hC
 have l7:qau H none ⟨b,0+7,none⟩=some (I s.nx):=qiC hr rfl
 have hsub:=qo0 (cb:=cb) hP.mem
 have hn:=hP.nx
 have fin:∀{H':qab} {s':Al} {ws' bs':List Int},Did H H' b (qpj c s' t gv) cb ws' bs'->s'.p=s.p->0<=s'.nx/\s'.nx<=12->s'.nx≠6->AlP H' own c s' b/\IsC H' cb ws' bs'/\Grew H H' own own cb :=
  fun d1 h1 h2 h3=>⟨AlP.of hP.mem ht hbt hto hA d1 h1 h2 h3,d1.cells,.same (d1.yz.mono hsub)⟩
 by_cases h0:s.nx=0
 ·have e0:alS c s ws bs=(s,ws,bs,some (1,0)):=by unfold alS;rw [if_pos h0]
  rw [e0]
  refine⟨own,H, ?_,hP,hC,.same (Chg.refl _ _)⟩
  refine qgw rfl Fn.zab rfl rfl ?_
  repeat' first|refine .A ?_|refine .B ?_|refine .C ?_|refine .J ?_|refine .t5 ?_|refine .L l7 ?_|refine .F ?_|refine .Y ?_|fail
  rfl
 by_cases h1:s.nx=1
 ·have l6:qau H none ⟨b,0+6,none⟩=some (I (qpc s.n)):=qiC hr rfl
  by_cases hz:qpc s.n=0
  ·have e0:alS c s ws bs=({s with nx:=0},ws,bs,some (9,0)):=by unfold alS;rw [if_neg h0,if_pos h1,if_pos hz]
   rw [e0]
   refine⟨own,_, ?_,fin (d.set hb) rfl (by simp) (by simp)⟩
   refine qgw rfl Fn.zab rfl rfl ?_
   repeat' first|refine .A ?_|refine .B ?_|refine .C ?_|refine .D ?_|refine .F ?_|refine .G ?_|refine .J ?_|refine .t5 ?_|refine .f5 ?_|refine .L l7 ?_|refine .L l6 ?_|refine .S (qiE d.row hlo (zzL rfl) rfl) ?_|refine .Y ?_|fail
   rfl
  ·have e0:alS c s ws bs=({s with seen:=qi5 ws 2,nx:=2},ws,bs,none):=by unfold alS;rw [if_neg h0,if_pos h1,if_neg hz]
   rw [e0]
   have hPd:=fun lo=>qjD lo H hm
   obtain⟨H1,hL,hC1,ho1⟩:=qjf (lo:=0) hC (zzZ _) 2
   have d1:=d.on hC1 ho1 (by simp) hb
   refine⟨own,_, ?_,fin (d1.set hb) rfl (by simp) (by simp)⟩
   refine qgw rfl Fn.zab rfl rfl ?_
   repeat' first|refine .A ?_|refine .B ?_|refine .C ?_|refine .D ?_|refine .F ?_|refine .G ?_|refine .H ?_|refine .J ?_|refine .t5 ?_|refine .f5 ?_|refine .L l7 ?_|refine .L l6 ?_|refine .L (qiD d.row (zzL rfl) rfl) ?_|refine .P (hPd _) ?_|refine .W hL ?_|refine .S (qiE d1.row hlo (zzL rfl) rfl) ?_|refine .S (qoB (qiB d1.row) hlo (zzL rfl) rfl) ?_|refine .Y ?_|fail
   rfl
 by_cases h2:s.nx=2
 ·obtain⟨H1,hL,d1⟩:=qpl d hm hb 1 1 3
  cases hcb:qjh ws 2 s.seen with
  | true =>
    rw [hcb]at hL d1
    have e0:alS c s ws bs=({s with nx:=3},qi6 ws 2 (w64 (s.seen+1)),bs,none):=by unfold alS;rw [if_neg h0,if_neg h1,if_pos h2,hcb];rfl
    rw [e0]
    refine⟨own,H1, ?_,fin d1 rfl (by simp) (by simp)⟩
    refine qgw rfl Fn.zab rfl rfl ?_
    repeat' first|refine .A ?_|refine .B ?_|refine .C ?_|refine .D ?_|refine .F ?_|refine .G ?_|refine .H ?_|refine .J ?_|refine .t5 ?_|refine .f5 ?_|refine .L l7 ?_|refine .P hL ?_|refine .Y ?_|fail
    rfl
  | false =>
    rw [hcb]at hL d1
    have e0:alS c s ws bs=({s with nx:=1},ws,bs,none):=by unfold alS;rw [if_neg h0,if_neg h1,if_pos h2,hcb];rfl
    rw [e0]
    refine⟨own,H1, ?_,fin d1 rfl (by simp) (by simp)⟩
    refine qgw rfl Fn.zab rfl rfl ?_
    repeat' first|refine .A ?_|refine .B ?_|refine .C ?_|refine .D ?_|refine .F ?_|refine .G ?_|refine .H ?_|refine .J ?_|refine .t5 ?_|refine .f5 ?_|refine .L l7 ?_|refine .P hL ?_|refine .Y ?_|fail
    rfl
 by_cases h3:s.nx=3
 ·obtain⟨H1,hL,hb1,ht1,hC1,hx⟩:=qpm d hm hb ht hbt htc
  have e0:alS c s ws bs=((qpf s (qnM c s.p ws)).1,(qpf s (qnM c s.p ws)).2,bs,none):=by unfold alS;rw [if_neg h0,if_neg h1,if_neg h2,if_pos h3]
  have hnx:=qps s (qnM c s.p ws)
  rw [e0]
  refine⟨own,H1, ?_,⟨hP.mem,by rcases hnx with h|h|h<;>simp only<;>rw [h]<;>simp [h3],t,gv,hb1,ht1,hbt,hto,fun h=>by rcases hnx with g|g|g<;>simp only at h<;>rw [g]at h<;>simp [h3]at h⟩,hC1,.same (hx.mono fun i hi => ?_)⟩
  ·refine qgw rfl Fn.zab rfl rfl ?_
   repeat' first|refine .A ?_|refine .B ?_|refine .C ?_|refine .D ?_|refine .F ?_|refine .G ?_|refine .H ?_|refine .J ?_|refine .t5 ?_|refine .f5 ?_|refine .L l7 ?_|refine .P hL ?_|refine .Y ?_|fail
   rfl
  ·simp only [List.mem_cons,List.mem_nil_iff,or_false]at hi
   unfold qoZ
   rcases hi with rfl|rfl|rfl|rfl|rfl<;>simp [hP.mem,hto]
 by_cases h4:s.nx=4
 ·have hF:=qpn d hm hb
  by_cases hc:qi5 ws 0<0\/w64 (c.A-qpc s.n)<qi5 ws 0
  ·rw [if_pos hc]at hF
   obtain⟨H1,g,hL,d1,hg,hgl⟩:=hF
   have e0:alS c s ws bs=({s with f:=qi5 ws 0,kept:=10,q:=⟨1,s.slot,0,0⟩,nx:=6},ws,bs,none):=by unfold alS;rw [if_neg h0,if_neg h1,if_neg h2,if_neg h3,if_pos h4,if_pos hc]
   rw [e0]
   have hbl:=qiB hr
   have htl:=qiB ht
   refine⟨g::own,H1, ?_,⟨List.mem_cons_of_mem _ hP.mem,by simp,t,qkt g,d1.row,d1.yz.get ht (by simp [hbt.symm,htc.1,htc.2.1,htc.2.2]),hbt,List.mem_cons_of_mem _ hto,fun _=>⟨g,rfl,hg,by omega,by omega,by simp⟩⟩,d1.cells,.cons (d1.yz.mono hsub) hgl⟩
   refine qgw rfl Fn.zab rfl rfl ?_
   repeat' first|refine .A ?_|refine .B ?_|refine .C ?_|refine .D ?_|refine .F ?_|refine .G ?_|refine .H ?_|refine .J ?_|refine .t5 ?_|refine .f5 ?_|refine .L l7 ?_|refine .P hL ?_|refine .Y ?_|fail
   rfl
  ·rw [if_neg hc]at hF
   obtain⟨H1,hL,d1⟩:=hF
   have e0:alS c s ws bs=({s with f:=qi5 ws 0,nx:=5},ws,bs,none):=by unfold alS;rw [if_neg h0,if_neg h1,if_neg h2,if_neg h3,if_pos h4,if_neg hc]
   rw [e0]
   refine⟨own,H1, ?_,fin d1 rfl (by simp) (by simp)⟩
   refine qgw rfl Fn.zab rfl rfl ?_
   repeat' first|refine .A ?_|refine .B ?_|refine .C ?_|refine .D ?_|refine .F ?_|refine .G ?_|refine .H ?_|refine .J ?_|refine .t5 ?_|refine .f5 ?_|refine .L l7 ?_|refine .P hL ?_|refine .Y ?_|fail
   rfl
 by_cases h5:s.nx=5
 ·have d1:=d.set (row':=qpj c {s with nx:=4} t gv) hb
  have s1:stN 0 H ⟨b,0+7,none⟩ (qaf (I 4))=some (H.set b (.row (qpj c {s with nx:=4} t gv) false)):=qiE d.row hlo (zzL rfl) rfl
  generalize H.set b (.row (qpj c {s with nx:=4} t gv) false)=H1 at d1 s1
  have hFr:=fun lo=>qjC lo H1 hm
  have k11:qau H1 none ⟨b,0+11,none⟩=some (I s.f):=qiC d1.row rfl
  have k6:qau H1 none ⟨b,0+6,none⟩=some (I (qpc s.n)):=qiC d1.row rfl
  have k2:qau H1 (some 2) ⟨b,0+2,none⟩=some (lay c.T c.S):=qiD d1.row (zzL rfl) rfl
  obtain⟨H2,hL,hC2,ho2⟩:=qji (lo:=0) d1.cells (zzZ _) (zzZ _) 0 s.f (w64 (s.f+qpc s.n))
  have d2:=d1.on hC2 ho2 (by simp) hb
  cases hcb:qjh ws 0 s.f with
  | true =>
    rw [hcb]at hL d2
    have e0:alS c s ws bs=({s with cl:=true,nx:=7},qi6 ws 0 (w64 (s.f+qpc s.n)),bs,none):=by unfold alS;rw [if_neg h0,if_neg h1,if_neg h2,if_neg h3,if_neg h4,if_pos h5,hcb];rfl
    rw [e0]
    refine⟨own,_, ?_,fin (d2.set hb) rfl (by simp) (by simp)⟩
    refine qgw rfl Fn.zab rfl rfl ?_
    repeat' first|refine .A ?_|refine .B ?_|refine .C ?_|refine .D ?_|refine .F ?_|refine .G ?_|refine .H ?_|refine .J ?_|refine .t5 ?_|refine .f5 ?_|refine .L l7 ?_|refine .L k2 ?_|refine .P (hFr _) ?_|refine .W hL ?_|refine .S (qiE d2.row hlo (zzL rfl) rfl) ?_|refine .S (qoB (qiB d2.row) hlo (zzL rfl) rfl) ?_|refine .S s1 ?_|refine .X k11 (qiH k11) (qkv _) ?_|refine .X k6 (qiH k6) (qkv _) ?_|refine .Y ?_|fail
    rfl
  | false =>
    rw [hcb]at hL d2
    have e0:alS c s ws bs=({s with nx:=4},ws,bs,none):=by unfold alS;rw [if_neg h0,if_neg h1,if_neg h2,if_neg h3,if_neg h4,if_pos h5,hcb];rfl
    rw [e0]
    refine⟨own,H2, ?_,fin d2 rfl (by simp) (by simp)⟩
    refine qgw rfl Fn.zab rfl rfl ?_
    repeat' first|refine .A ?_|refine .B ?_|refine .C ?_|refine .D ?_|refine .F ?_|refine .G ?_|refine .H ?_|refine .J ?_|refine .t5 ?_|refine .f5 ?_|refine .L l7 ?_|refine .L k2 ?_|refine .P (hFr _) ?_|refine .W hL ?_|refine .S s1 ?_|refine .X k11 (qiH k11) (qkv _) ?_|refine .X k6 (qiH k6) (qkv _) ?_|refine .Y ?_|fail
    rfl
 by_cases h6:s.nx=6
 ·obtain⟨g,rfl,hg,hbg,htg,hgo⟩:=h6' h6
  have hgc:=hA.at hgo
  obtain⟨H1,hL,d1⟩:=qnW (lo:=0) hg hC hgc hm (zzZ _) ⟨zzZ _,zzZ _⟩
  have l1:qau H none ⟨b,0+1,none⟩=some (qkt g):=qiC hr rfl
  have hr1:H1[b]? = some (.row (qpj c s t (qkt g)) false):=d1.yz.get hr (by simp [hbg,hb.1,hb.2.1,hb.2.2])
  have ht1:H1[t]? = some (.row (qnL c s.p) false):=d1.yz.get ht (by simp [htg,htc.1,htc.2.1,htc.2.2])
  have dr:Did H1 H1 b (qpj c s t (qkt g)) cb (qnN c s.q ws).2.1 bs:=Did.of hr1 d1.cells
  have hc1:Chg (qoZ own cb) H H1:=d1.yz.mono (qo0 hgo)
  have hrg:=d1.row
  have e0:alS c s ws bs=((qpg s (qnN c s.q ws)).1,(qpg s (qnN c s.q ws)).2,bs,none):=by unfold alS;rw [if_neg h0,if_neg h1,if_neg h2,if_neg h3,if_neg h4,if_neg h5,if_pos h6]
  rw [e0]
  unfold qnU at hL
  generalize qnN c s.q ws=r at hL dr hrg|-
  obtain⟨q',w',e,dn⟩:=r
  simp only at hL hrg
  cases dn with
  | true =>
    have dd:=dr.set (row':=qpj c {s with q:=q',nx:=11} t (qkt g)) hb
    refine⟨own,_, ?_,⟨hP.mem,by simp [qpg],t,qkt g,dd.row,qiz hbt ht1,hbt,hto,fun h=>by simp [qpg]at h⟩,dd.cells,.same (hc1.trans (dd.yz.mono hsub))⟩
    refine qgw rfl Fn.zab rfl rfl ?_
    repeat' first|refine .A ?_|refine .B ?_|refine .C ?_|refine .D ?_|refine .F ?_|refine .G ?_|refine .H ?_|refine .J ?_|refine .t5 ?_|refine .f5 ?_|refine .L l7 ?_|refine .L l1 ?_|refine .P hL ?_|refine .S (qiE dr.row hlo (zzL rfl) rfl) ?_|refine .Y ?_|fail
    rfl
  | false =>
    refine⟨own,H1, ?_,⟨hP.mem,hn,t,qkt g,hr1,ht1,hbt,hto,fun _=>⟨g,rfl,hrg,hbg,htg,hgo⟩⟩,dr.cells,.same hc1⟩
    refine qgw rfl Fn.zab rfl rfl ?_
    repeat' first|refine .A ?_|refine .B ?_|refine .C ?_|refine .D ?_|refine .F ?_|refine .G ?_|refine .H ?_|refine .J ?_|refine .t5 ?_|refine .f5 ?_|refine .L l7 ?_|refine .L l1 ?_|refine .P hL ?_|refine .Y ?_|fail
    rfl
 by_cases h7:s.nx=7
 ·obtain⟨H1,hL,d1⟩:=qpo d hb h7
  have e0:(alS c s ws bs).2.2.2=none/\(alS c s ws bs).1.p=s.p/\((alS c s ws bs).1.nx=7\/(alS c s ws bs).1.nx=8):=by
   unfold alS
   rw [if_neg h0,if_neg h1,if_neg h2,if_neg h3,if_neg h4,if_neg h5,if_neg h6,if_pos h7]
   split
   ·exact⟨rfl,rfl,.inr rfl⟩
   ·exact⟨rfl,rfl,.inl h7⟩
  rw [e0.1]
  refine⟨own,H1, ?_,fin d1 e0.2.1 (by omega) (by omega)⟩
  refine qgw rfl Fn.zab rfl rfl ?_
  repeat' first|refine .A ?_|refine .B ?_|refine .C ?_|refine .D ?_|refine .F ?_|refine .G ?_|refine .H ?_|refine .J ?_|refine .t5 ?_|refine .f5 ?_|refine .L l7 ?_|refine .P hL ?_|refine .Y ?_|fail
  rfl
 by_cases h8:s.nx=8
 ·have e0:alS c s ws bs=({s with nx:=9},qi6 ws (qjx c s.slot 1) s.n,bs,none):=by unfold alS;rw [if_neg h0,if_neg h1,if_neg h2,if_neg h3,if_neg h4,if_neg h5,if_neg h6,if_neg h7,if_pos h8]
  rw [e0]
  have hSz:=fun lo=>qjB lo H hm s.slot
  obtain⟨H1,hL,hC1,ho1⟩:=qjg (lo:=0) hC (zzZ _) (zzZ _) (qjx c s.slot 1) s.n
  have d1:=d.on hC1 ho1 (by simp) hb
  refine⟨own,_, ?_,fin (d1.set hb) rfl (by simp) (by simp)⟩
  refine qgw rfl Fn.zab rfl rfl ?_
  repeat' first|refine .A ?_|refine .B ?_|refine .C ?_|refine .D ?_|refine .F ?_|refine .G ?_|refine .H ?_|refine .J ?_|refine .t5 ?_|refine .f5 ?_|refine .L l7 ?_|refine .L (qiC d.row rfl) ?_|refine .L (qiD d.row (zzL rfl) rfl) ?_|refine .X (qiC d.row rfl) (qiH (qiC d.row rfl)) (qkv _) ?_|refine .P (hSz _) ?_|refine .W hL ?_|refine .S (qiE d1.row hlo (zzL rfl) rfl) ?_|refine .Y ?_|fail
  rfl
 by_cases h9:s.nx=9
 ·have e0:alS c s ws bs=(qph s (qkb (qi5 ws (qjx c s.slot 0))),ws,bs,none):=by unfold alS;rw [if_neg h0,if_neg h1,if_neg h2,if_neg h3,if_neg h4,if_neg h5,if_neg h6,if_neg h7,if_neg h8,if_pos h9]
  rw [e0]
  obtain⟨H1,hL,d1⟩:=qpp d hm hb
  have e1:(qph s (qkb (qi5 ws (qjx c s.slot 0)))).nx=10/\(qph s (qkb (qi5 ws (qjx c s.slot 0)))).p=s.p:=by
   unfold qph
   split
   ·exact⟨rfl,rfl⟩
   ·split<;>exact⟨rfl,rfl⟩
  refine⟨own,H1, ?_,fin d1 e1.2 (by simp only;omega) (by simp only;omega)⟩
  refine qgw rfl Fn.zab rfl rfl ?_
  repeat' first|refine .A ?_|refine .B ?_|refine .C ?_|refine .D ?_|refine .F ?_|refine .G ?_|refine .H ?_|refine .J ?_|refine .t5 ?_|refine .f5 ?_|refine .L l7 ?_|refine .P hL ?_|refine .Y ?_|fail
  rfl
 by_cases h10:s.nx=10
 ·have e0:alS c s ws bs=({s with cl:=false,nx:=11},if s.kept=0 then qi6 ws (qjx c s.slot 0) s.word else ws,bs,none):=by unfold alS;rw [if_neg h0,if_neg h1,if_neg h2,if_neg h3,if_neg h4,if_neg h5,if_neg h6,if_neg h7,if_neg h8,if_neg h9,if_pos h10]
  rw [e0]
  obtain⟨H1,hL,d1⟩:=qpq d hm hb
  refine⟨own,H1, ?_,fin d1 rfl (by simp) (by simp)⟩
  refine qgw rfl Fn.zab rfl rfl ?_
  repeat' first|refine .A ?_|refine .B ?_|refine .C ?_|refine .D ?_|refine .F ?_|refine .G ?_|refine .H ?_|refine .J ?_|refine .t5 ?_|refine .f5 ?_|refine .L l7 ?_|refine .P hL ?_|refine .Y ?_|fail
  rfl
 by_cases h11:s.nx=11
 ·have e0:alS c s ws bs=({s with seen:=qi5 ws 2,nx:=12},ws,bs,none):=by unfold alS;rw [if_neg h0,if_neg h1,if_neg h2,if_neg h3,if_neg h4,if_neg h5,if_neg h6,if_neg h7,if_neg h8,if_neg h9,if_neg h10,if_pos h11]
  rw [e0]
  have hPd:=fun lo=>qjD lo H hm
  obtain⟨H1,hL,hC1,ho1⟩:=qjf (lo:=0) hC (zzZ _) 2
  have d1:=d.on hC1 ho1 (by simp) hb
  refine⟨own,_, ?_,fin (d1.set hb) rfl (by simp) (by simp)⟩
  refine qgw rfl Fn.zab rfl rfl ?_
  repeat' first|refine .A ?_|refine .B ?_|refine .C ?_|refine .D ?_|refine .F ?_|refine .G ?_|refine .H ?_|refine .J ?_|refine .t5 ?_|refine .f5 ?_|refine .L l7 ?_|refine .L (qiD d.row (zzL rfl) rfl) ?_|refine .P (hPd _) ?_|refine .W hL ?_|refine .S (qiE d1.row hlo (zzL rfl) rfl) ?_|refine .S (qoB (qiB d1.row) hlo (zzL rfl) rfl) ?_|refine .Y ?_|fail
  rfl
 have h12:s.nx=12:=by omega
 obtain⟨H1,hL,d1⟩:=qpl d hm hb (-1) 11 0
 have eS:alS c s ws bs=if qjh ws 2 s.seen then({s with nx:=0},qi6 ws 2 (w64 (s.seen + -1)),bs,some (qpi s))else({s with nx:=11},ws,bs,none):=by
  unfold alS;rw [if_neg h0,if_neg h1,if_neg h2,if_neg h3,if_neg h4,if_neg h5,if_neg h6,if_neg h7,if_neg h8,if_neg h9,if_neg h10,if_neg h11]
 cases hcb:qjh ws 2 s.seen with
 | true =>
   rw [hcb]at hL d1
   have e0:alS c s ws bs=({s with nx:=0},qi6 ws 2 (w64 (s.seen + -1)),bs,some (qpi s)):=by rw [eS,hcb];rfl
   rw [e0]
   have hRs:qfU En 0 Id.zai [qkt b] H1=some (.agg #[I (qpi s).1,I (qpi s).2],H1):=qpr (s := {s with nx:=0}) (Did.of d1.row d1.cells)
   refine⟨own,H1, ?_,fin d1 rfl (by simp) (by simp)⟩
   refine qgw rfl Fn.zab rfl rfl ?_
   repeat' first|refine .A ?_|refine .B ?_|refine .C ?_|refine .D ?_|refine .F ?_|refine .G ?_|refine .J ?_|refine .t5 ?_|refine .f5 ?_|refine .L l7 ?_|refine .P hL ?_|refine .P hRs ?_|refine .Y ?_|fail
   rfl
 | false =>
   rw [hcb]at hL d1
   have e0:alS c s ws bs=({s with nx:=11},ws,bs,none):=by rw [eS,hcb];rfl
   rw [e0]
   refine⟨own,H1, ?_,fin d1 rfl (by simp) (by simp)⟩
   refine qgw rfl Fn.zab rfl rfl ?_
   repeat' first|refine .A ?_|refine .B ?_|refine .C ?_|refine .D ?_|refine .F ?_|refine .G ?_|refine .H ?_|refine .J ?_|refine .t5 ?_|refine .f5 ?_|refine .L l7 ?_|refine .P hL ?_|refine .Y ?_|fail
   rfl
end
end Go.Proofs.YtlgnnpkdhbhdgaaGreat
