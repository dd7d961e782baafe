/- A byte read, step by step: by the program. -/
import Derived.Test.YtlgnnpkdhbhdgaaGreatThreadP5
import Derived.Test.YtlgnnpkdhbhdgaaGreatThreadP4
import Derived.Test.YtlgnnpkdhbhdgaaGreatThreadP3
set_option linter.all false
namespace Go.Proofs.YtlgnnpkdhbhdgaaGreat
open Go Go.Ir
def qom:Option (Int×Int)->Value
 | none => .tuple #[.agg #[I 0,I 0],.bool false]
 | some r => .tuple #[.agg #[I r.1,I r.2],.bool true]
def qon (g:Int):Option Ent->Option Ent
 | none=>none
 | some e=>if e.lv=true/\e.g=g then some e else none
def qoo (ws:List Int)(c:Cfg)(s g:Int):Option Ent:=qon g (qkb (qi5 ws (qjx c s 0)))
def qop (g:Int):Option Ent->Value
 | none => .tuple #[.agg Ent.zero.cs.toArray,.bool false]
 | some e => .tuple #[.agg e.cs.toArray,.bool (e.lv&&decide (e.g=g))]
structure Rd where
 h:Int
 off:Int
 nx:Int
 e:Ent
 cd:Int
 nn:Int
def qoq (c:Cfg)(s:Rd):List Value :=
 [I c.T,I c.S,I (ofR s.h c.S).1,I (ofR s.h c.S).2.1,.bool (decide ((ofR s.h c.S).2.2≠0)),I s.off,I s.nx,I s.e.o,I s.e.g,I s.e.p,I s.e.u,.bool s.e.lk,.bool s.e.lv,I s.cd,I s.nn]
def qor (s:Rd):Option Ent->Rd×Option (Int×Int)
 | none=>({s with nx:=0},some (4,0))
 | some e=>if e.lk then(s,none)else({s with e:=e,nx:=2},none)
def qos (s:Rd):Option Ent->Rd×Option (Int×Int)
 | none=>({s with nx:=1},none)
 | some e=>if e.o=s.e.o/\e.lk=false then({s with nx:=0},some (s.cd,s.nn))else({s with nx:=1},none)
def rdS (c:Cfg)(s:Rd)(ws bs:List Int):Rd×Option (Int×Int) :=
 if s.nx=1 then
  if(ofR s.h c.S).2.2≠0 then({s with nx:=0},some (4,0))
  else qor s (qoo ws c (ofR s.h c.S).1 (ofR s.h c.S).2.1)
 else if s.nx=2 then
  if s.off<0\/qi5 ws (qjx c (ofR s.h c.S).1 1)<=s.off then({s with cd:=5,nn:=0,nx:=4},none)else({s with cd:=0,nn:=0,nx:=3},none)
 else if s.nx=3 then({s with nn:=qi5 bs (IntKind.i64.wrap (s.e.o+s.off)),nx:=4},none)
 else if s.nx=4 then qos s (qoo ws c (ofR s.h c.S).1 (ofR s.h c.S).2.1)
 else if s.nx=0 then(s,some (1,0))
 else(s,none)
section
variable {lo:Nat}{H:qab}{b:Nat}{c:Cfg}{s:Rd}{cb:CB}{ws bs:List Int}
def Did.of {row:List Value}(hr:H[b]? = some (.row row false))(hC:IsC H cb ws bs):Did H H b row cb ws bs:=⟨hr,hC,Chg.refl _ _⟩
def Did.set {H1:qab}{row row':List Value}(d:Did H H1 b row cb ws bs)(hb:b≠cb.P/\b≠cb.W/\b≠cb.Y):Did H (H1.set b (.row row' false)) b row' cb ws bs :=
 ⟨qiy (qiB d.row),d.cells.yz (S := [b]) ((Chg.refl [b] H1).set (i:=b) (by simp)) (by simp;omega),d.yz.set (i:=b) (by simp)⟩
def Did.only {H1:qab}{row:List Value}{ws' bs':List Int}{S:List Nat}(hr:H[b]? = some (.row row false))(hC:IsC H1 cb ws' bs')(o:Only S H H1)(hS:∀i∈S,i∈[cb.P,cb.W,cb.Y])(hb:b≠cb.P/\b≠cb.W/\b≠cb.Y):Did H H1 b row cb ws' bs' :=
 ⟨(Chg.of o).get hr fun h=>by have:=hS _ h;simp at this;omega,hC,(Chg.of o).mono fun i hi=>List.mem_cons_of_mem _ (hS i hi)⟩
def qot (hr:H[b]? = some (.row (qoq c s) false))(hlo:lo<=b)(k e:Int):qfU En lo Id.zcF [qkt b,.agg #[I k,I e]] H=some (qom (some (k,e)),H.set b (.row (qoq c {s with nx:=0}) false)):=by
 have hst:stN lo H ⟨b,0+6,none⟩ (qaf (I 0))=some (H.set b (.row (qoq c {s with nx:=0}) false)):=qiE hr hlo (zzL rfl) rfl
 refine qgw rfl Fn.zcF rfl rfl ?_
 repeat' first|refine .A ?_|refine .B ?_|refine .J ?_|refine .S hst ?_|refine .F ?_|refine .Y ?_|fail
 rfl
def qou (hr:H[b]? = some (.row (qoq c s) false))(hC:IsC H cb ws bs)(hm:c.may)(hlo:lo<=b)(hlc:lo<=cb.P)(hb:b≠cb.P/\b≠cb.W/\b≠cb.Y) :
  ∃H',qfU En lo Id.zcG [qkt b,ifC cb] H=some (qop (ofR s.h c.S).2.1 (qkb (qi5 ws (qjx c (ofR s.h c.S).1 0))),H')/\Did H H' b (qoq c s) cb ws bs:=by
 have hE:=fun lo=>qjA lo H hm (ofR s.h c.S).1
 obtain⟨H1,hL,hC1,ho1⟩:=qjf hC hlc (qjx c (ofR s.h c.S).1 0)
 have d1:=Did.only hr hC1 ho1 (by simp) hb
 have hr1:=d1.row
 have hU:=fun lo=>qkn lo H1 (qi5 ws (qjx c (ofR s.h c.S).1 0))
 refine⟨H1, ?_,d1⟩
 refine qgw rfl Fn.zcG rfl rfl ?_
 generalize qi5 ws (qjx c (ofR s.h c.S).1 0)=w at hL hU|-
 cases hu:qkb w with
 | none =>
   rw [hu]at hU
   simp only [unV,Ent.zero,Ent.cs]at hU
   repeat' first|refine .A ?_|refine .B ?_|refine .J ?_|refine .f5 ?_|refine .L (qiD hr (zzL rfl) rfl) ?_|refine .L (qiC hr rfl) ?_|refine .P (hE _) ?_|refine .P (hU _) ?_|refine .W hL ?_|refine .D ?_|refine .F ?_|refine .Y ?_|fail
   rfl
 | some e =>
   rw [hu]at hU
   obtain⟨o,g,p,u,lk,lv⟩:=e
   simp only [unV,Ent.cs]at hU
   have l3:qau H1 none ⟨b,0+3,none⟩=some (I (ofR s.h c.S).2.1):=qiC hr1 rfl
   cases lv with
   | false =>
     repeat' first|refine .A ?_|refine .B ?_|refine .J ?_|refine .C ?_|refine .t5 ?_|refine .L (qiD hr (zzL rfl) rfl) ?_|refine .L (qiC hr rfl) ?_|refine .P (hE _) ?_|refine .P (hU _) ?_|refine .W hL ?_|refine .D ?_|refine .F ?_|refine .Y ?_|fail
     rfl
   | true =>
     simp only [qop,Bool.true_and]
     by_cases hg:g=(ofR s.h c.S).2.1
     ·rw [zzT hg]
      repeat' first|refine .A ?_|refine .B ?_|refine .J ?_|refine .C ?_|refine .t5 ?_|refine .L (qiD hr (zzL rfl) rfl) ?_|refine .L (qiC hr rfl) ?_|refine .L l3 ?_|refine .P (hE _) ?_|refine .P (hU _) ?_|refine .W hL ?_|refine .F ?_|refine .Y ?_|fail
      rfl
     ·rw [zzF hg]
      repeat' first|refine .A ?_|refine .B ?_|refine .J ?_|refine .C ?_|refine .t5 ?_|refine .f5 ?_|refine .L (qiD hr (zzL rfl) rfl) ?_|refine .L (qiC hr rfl) ?_|refine .L l3 ?_|refine .P (hE _) ?_|refine .P (hU _) ?_|refine .W hL ?_|refine .F ?_|refine .Y ?_|fail
      rfl
def qov {g:Int}{o:Option Ent}(h:qon g o=none):∃e:Ent,qop g o = .tuple #[.agg e.cs.toArray,.bool false]:=by
 cases o with
 | none=>exact⟨_,rfl⟩
 | some e =>
   simp only [qon]at h
   by_cases hc:e.lv=true/\e.g=g
   ·rw [if_pos hc]at h;cases h
   ·refine⟨e, ?_⟩
    simp only [qop]
    cases hl:e.lv with
    | false=>rfl
    | true=>rw [zzF fun hg=>hc ⟨hl,hg⟩];rfl
def qow {g:Int}{o:Option Ent}{e:Ent}(h:qon g o=some e):qop g o = .tuple #[.agg e.cs.toArray,.bool true]:=by
 cases o with
 | none=>cases h
 | some e' =>
   simp only [qon]at h
   by_cases hc:e'.lv=true/\e'.g=g
   ·rw [if_pos hc]at h
    injection h with h
    subst h
    simp only [qop]
    rw [hc.1,zzT hc.2];rfl
   ·rw [if_neg hc]at h;cases h
set_option maxHeartbeats 3200000 in
def qox (hr:H[b]? = some (.row (qoq c s) false))(hC:IsC H cb ws bs)(hb:b≠cb.P/\b≠cb.W/\b≠cb.Y)(hm:c.may)(hlo:lo<=b)(hlc:lo<=cb.P) :
  ∃H',qfU En lo Id.zcE [qkt b,ifC cb] H=some (qom (rdS c s ws bs).2,H')/\Did H H' b (qoq c (rdS c s ws bs).1) cb ws bs:=by
 have key:∃v H',qfU En lo Id.zcE [qkt b,ifC cb] H=some (v,H')/\v=qom (rdS c s ws bs).2/\Did H H' b (qoq c (rdS c s ws bs).1) cb ws bs:=by
  refine qiu rfl Fn.zcE rfl rfl ?_
  have l6:qau H none ⟨b,0+6,none⟩=some (I s.nx):=qiC hr rfl
  unfold rdS
  by_cases h1:s.nx=1
  ·rw [if_pos h1]
   have hE:=fun lo hl k e=>qot (lo:=lo) hr hl k e
   have l4:qau H none ⟨b,0+4,none⟩=some (.bool (decide ((ofR s.h c.S).2.2≠0))):=qiC hr rfl
   by_cases hst:(ofR s.h c.S).2.2≠0
   ·rw [if_pos hst]
    rw [zzT hst]at l4
    repeat' first|refine .A ?_|refine .B ?_|refine .C ?_|refine .D ?_|refine .F ?_|refine .G ?_|refine .J ?_|refine .t5 ?_|refine .f5 ?_|refine .L l6 ?_|refine .L l4 ?_|refine .P (hE _ hlo _ _) ?_|refine .Y ?_|fail
    exact⟨rfl,(Did.of hr hC).set hb⟩
   ·rw [if_neg hst]
    rw [zzF hst]at l4
    refine zzX (qou (lo:=lo) hr hC hm hlo hlc hb) fun H1 hq => ?_
    have hL:=hq.1
    have d1:=hq.2
    clear hq
    have hE1:=fun lo hl k e=>qot (lo:=lo) d1.row hl k e
    unfold qoo
    cases hf:qon (ofR s.h c.S).2.1 (qkb (qi5 ws (qjx c (ofR s.h c.S).1 0)))with
    | none =>
      refine zzX (qov hf) fun e he => ?_
      rw [he]at hL
      simp only [Ent.cs]at hL
      repeat' first|refine .A ?_|refine .B ?_|refine .C ?_|refine .D ?_|refine .F ?_|refine .G ?_|refine .J ?_|refine .t5 ?_|refine .f5 ?_|refine .L l6 ?_|refine .L l4 ?_|refine .P hL ?_|refine .P (hE1 _ hlo _ _) ?_|refine .Y ?_|fail
      exact⟨rfl,d1.set hb⟩
    | some e =>
      rw [qow hf]at hL
      obtain⟨o,g,p,u,lk,lv⟩:=e
      simp only [Ent.cs]at hL
      simp only [qor]
      cases lk with
      | true =>
        repeat' first|refine .A ?_|refine .B ?_|refine .C ?_|refine .D ?_|refine .F ?_|refine .G ?_|refine .H ?_|refine .J ?_|refine .t5 ?_|refine .f5 ?_|refine .L l6 ?_|refine .L l4 ?_|refine .P hL ?_|refine .Y ?_|fail
        exact⟨rfl,d1⟩
      | false =>
        have d2:=d1.set (row':=qoq c {s with e:=⟨o,g,p,u,false,lv⟩}) hb
        have s1:stN lo H1 ⟨b,0+7,none⟩ (qaf (.agg #[I o,I g,I p,I u,.bool false,.bool lv]))=some (H1.set b (.row (qoq c {s with e:=⟨o,g,p,u,false,lv⟩}) false)):=qiE d1.row hlo (zzL rfl) rfl
        generalize H1.set b (.row (qoq c {s with e:=⟨o,g,p,u,false,lv⟩}) false)=H2 at d2 s1
        have s2:stN lo H2 ⟨b,0+6,none⟩ (qaf (I 2))=some (H2.set b (.row (qoq c {s with e:=⟨o,g,p,u,false,lv⟩,nx:=2}) false)):=qiE d2.row hlo (zzL rfl) rfl
        repeat' first|refine .A ?_|refine .B ?_|refine .C ?_|refine .D ?_|refine .F ?_|refine .G ?_|refine .H ?_|refine .J ?_|refine .t5 ?_|refine .f5 ?_|refine .L l6 ?_|refine .L l4 ?_|refine .P hL ?_|refine .S s1 ?_|refine .S s2 ?_|refine .Y ?_|fail
        exact⟨rfl,d2.set hb⟩
  rw [if_neg h1]
  by_cases h2:s.nx=2
  ·rw [if_pos h2]
   have d1:=(Did.of hr hC).set (row':=qoq c {s with cd:=0,nn:=0}) hb
   have s1:stN lo H ⟨b,0+13,none⟩ (qaf (.agg #[I 0,I 0]))=some (H.set b (.row (qoq c {s with cd:=0,nn:=0}) false)):=qiE hr hlo (zzL rfl) rfl
   generalize H.set b (.row (qoq c {s with cd:=0,nn:=0}) false)=H1 at d1 s1
   have d2:=d1.set (row':=qoq c {s with cd:=0,nn:=0,nx:=3}) hb
   have s2:stN lo H1 ⟨b,0+6,none⟩ (qaf (I 3))=some (H1.set b (.row (qoq c {s with cd:=0,nn:=0,nx:=3}) false)):=qiE d1.row hlo (zzL rfl) rfl
   generalize H1.set b (.row (qoq c {s with cd:=0,nn:=0,nx:=3}) false)=H2 at d2 s2
   have hr2:=d2.row
   have hSz:=fun lo=>qjB lo H2 hm (ofR s.h c.S).1
   refine zzX (qjf d2.cells hlc (qjx c (ofR s.h c.S).1 1)) fun H3 hq => ?_
   have hL:=hq.1
   have d3:Did H H3 b (qoq c {s with cd:=0,nn:=0,nx:=3}) cb ws bs:=⟨(Chg.of hq.2.2).get hr2 (by simp;omega),hq.2.1,d2.yz.trans ((Chg.of hq.2.2).mono (by simp))⟩
   clear hq
   have hr3:=d3.row
   have l5:qau H3 none ⟨b,0+5,none⟩=some (I s.off):=qiC hr3 rfl
   generalize qi5 ws (qjx c (ofR s.h c.S).1 1)=z at hL|-
   by_cases ho:s.off<0\/z<=s.off
   ·rw [if_pos ho]
    have d4:=d3.set (row':=qoq c {s with cd:=5,nn:=0,nx:=3}) hb
    have s3:stN lo H3 ⟨b,0+13,none⟩ (qaf (.agg #[I 5,I 0]))=some (H3.set b (.row (qoq c {s with cd:=5,nn:=0,nx:=3}) false)):=qiE hr3 hlo (zzL rfl) rfl
    generalize H3.set b (.row (qoq c {s with cd:=5,nn:=0,nx:=3}) false)=H4 at d4 s3
    have s4:stN lo H4 ⟨b,0+6,none⟩ (qaf (I 4))=some (H4.set b (.row (qoq c {s with cd:=5,nn:=0,nx:=4}) false)):=qiE d4.row hlo (zzL rfl) rfl
    by_cases ho1:s.off<0
    ·repeat' first|refine .A ?_|refine .B ?_|refine .C ?_|refine .D ?_|refine .F ?_|refine .G ?_|refine .H ?_|refine .J ?_|refine .t1 ?_|refine .t5 ?_|refine .f5 ?_|refine .L l6 ?_|refine .L l5 ?_|refine .L (qiD hr2 (zzL rfl) rfl) ?_|refine .L (qiC hr2 rfl) ?_|refine .P (hSz _) ?_|refine .W hL ?_|refine .S s1 ?_|refine .S s2 ?_|refine .S s3 ?_|refine .S s4 ?_|refine .Y ?_|fail
     exact⟨rfl,d4.set hb⟩
    ·repeat' first|refine .A ?_|refine .B ?_|refine .C ?_|refine .D ?_|refine .F ?_|refine .G ?_|refine .H ?_|refine .J ?_|refine .f1 ?_|refine .t4 ?_|refine .t5 ?_|refine .f5 ?_|refine .L l6 ?_|refine .L l5 ?_|refine .L (qiD hr2 (zzL rfl) rfl) ?_|refine .L (qiC hr2 rfl) ?_|refine .P (hSz _) ?_|refine .W hL ?_|refine .S s1 ?_|refine .S s2 ?_|refine .S s3 ?_|refine .S s4 ?_|refine .Y ?_|fail
     exact⟨rfl,d4.set hb⟩
   ·rw [if_neg ho]
    repeat' first|refine .A ?_|refine .B ?_|refine .C ?_|refine .D ?_|refine .F ?_|refine .G ?_|refine .H ?_|refine .J ?_|refine .f1 ?_|refine .f4 ?_|refine .t5 ?_|refine .f5 ?_|refine .L l6 ?_|refine .L l5 ?_|refine .L (qiD hr2 (zzL rfl) rfl) ?_|refine .L (qiC hr2 rfl) ?_|refine .P (hSz _) ?_|refine .W hL ?_|refine .S s1 ?_|refine .S s2 ?_|refine .Y ?_|fail
    exact⟨rfl,d3⟩
  rw [if_neg h2]
  by_cases h3:s.nx=3
  ·rw [if_pos h3]
   have k7:qau H none ⟨b,0+7+0,none⟩=some (I s.e.o):=qiC hr rfl
   have l5:qau H none ⟨b,0+5,none⟩=some (I s.off):=qiC hr rfl
   refine zzX (qjj hC hlc (IntKind.i64.wrap (s.e.o+s.off))) fun H1 hq => ?_
   have hL:=hq.1
   have d1:=Did.only hr hq.2.1 hq.2.2 (by simp) hb
   clear hq
   generalize qi5 bs (IntKind.i64.wrap (s.e.o+s.off))=z at hL|-
   have d2:=d1.set (row':=qoq c {s with nn:=z}) hb
   have s1:stN lo H1 ⟨b,0+13+1,none⟩ (qaf (I z))=some (H1.set b (.row (qoq c {s with nn:=z}) false)):=qiE d1.row hlo (zzL rfl) rfl
   generalize H1.set b (.row (qoq c {s with nn:=z}) false)=H2 at d2 s1
   have s2:stN lo H2 ⟨b,0+6,none⟩ (qaf (I 4))=some (H2.set b (.row (qoq c {s with nn:=z,nx:=4}) false)):=qiE d2.row hlo (zzL rfl) rfl
   repeat' first|refine .A ?_|refine .B ?_|refine .C ?_|refine .D ?_|refine .F ?_|refine .G ?_|refine .H ?_|refine .J ?_|refine .t5 ?_|refine .f5 ?_|refine .L l6 ?_|refine .L l5 ?_|refine .L k7 ?_|refine .W hL ?_|refine .S s1 ?_|refine .S s2 ?_|refine .Y ?_|fail
   exact⟨rfl,d2.set hb⟩
  rw [if_neg h3]
  by_cases h4:s.nx=4
  ·rw [if_pos h4]
   refine zzX (qou (lo:=lo) hr hC hm hlo hlc hb) fun H1 hq => ?_
   have hL:=hq.1
   have d1:=hq.2
   clear hq
   have hE1:=fun lo hl k e=>qot (lo:=lo) d1.row hl k e
   have s1:stN lo H1 ⟨b,0+6,none⟩ (qaf (I 1))=some (H1.set b (.row (qoq c {s with nx:=1}) false)):=qiE d1.row hlo (zzL rfl) rfl
   have k7:qau H1 none ⟨b,0+7+0,none⟩=some (I s.e.o):=qiC d1.row rfl
   have k13:qau H1 (some 2) ⟨b,0+13,none⟩=some (.agg #[I s.cd,I s.nn]):=qiD d1.row (zzL rfl) rfl
   unfold qoo
   cases hf:qon (ofR s.h c.S).2.1 (qkb (qi5 ws (qjx c (ofR s.h c.S).1 0)))with
   | none =>
     refine zzX (qov hf) fun e he => ?_
     rw [he]at hL
     simp only [Ent.cs]at hL
     repeat' first|refine .A ?_|refine .B ?_|refine .C ?_|refine .D ?_|refine .F ?_|refine .G ?_|refine .H ?_|refine .J ?_|refine .t5 ?_|refine .f5 ?_|refine .L l6 ?_|refine .P hL ?_|refine .S s1 ?_|refine .Y ?_|fail
     exact⟨rfl,d1.set hb⟩
   | some e =>
     rw [qow hf]at hL
     obtain⟨o,g,p,u,lk,lv⟩:=e
     simp only [Ent.cs]at hL
     simp only [qos]
     by_cases ho:o=s.e.o
     ·cases lk with
      | true =>
        rw [if_neg (by simp)]
        repeat' first|refine .A ?_|refine .B ?_|refine .C ?_|refine .D ?_|refine .F ?_|refine .G ?_|refine .H ?_|refine .J ?_|refine .t5 ?_|refine .f5 ?_|refine .L l6 ?_|refine .L k7 ?_|refine .P hL ?_|refine .S s1 ?_|refine .Y ?_|fail
        exact⟨rfl,d1.set hb⟩
      | false =>
        rw [if_pos ⟨ho,rfl⟩]
        repeat' first|refine .A ?_|refine .B ?_|refine .C ?_|refine .D ?_|refine .F ?_|refine .G ?_|refine .J ?_|refine .t5 ?_|refine .f5 ?_|refine .L l6 ?_|refine .L k7 ?_|refine .L k13 ?_|refine .P hL ?_|refine .P (hE1 _ hlo _ _) ?_|refine .Y ?_|fail
        exact⟨rfl,d1.set hb⟩
     ·rw [if_neg fun hh=>ho hh.1]
      repeat' first|refine .A ?_|refine .B ?_|refine .C ?_|refine .D ?_|refine .F ?_|refine .G ?_|refine .H ?_|refine .J ?_|refine .t5 ?_|refine .f5 ?_|refine .L l6 ?_|refine .L k7 ?_|refine .P hL ?_|refine .S s1 ?_|refine .Y ?_|fail
      exact⟨rfl,d1.set hb⟩
  rw [if_neg h4]
  by_cases h0:s.nx=0
  ·rw [if_pos h0]
   repeat' first|refine .A ?_|refine .B ?_|refine .C ?_|refine .J ?_|refine .t5 ?_|refine .L l6 ?_|refine .F ?_|refine .Y ?_|fail
   exact⟨rfl,Did.of hr hC⟩
  ·rw [if_neg h0]
   repeat' first|refine .A ?_|refine .B ?_|refine .D ?_|refine .F ?_|refine .G ?_|refine .H ?_|refine .J ?_|refine .f5 ?_|refine .L l6 ?_|refine .Y ?_|fail
   exact⟨rfl,Did.of hr hC⟩
 obtain⟨v,H',h1,rfl,h2⟩:=key
 exact⟨H',h1,h2⟩
end
def qoy (c:Cfg)(s:Rd)(kp bb:Int):List Value :=
 [I c.A,I c.S,I c.T,I s.h,I s.off,I s.nx,I s.e.o,I s.e.g,I s.e.p,I s.e.u,.bool s.e.lk,.bool s.e.lv,I kp,I bb]
structure RdI (c:Cfg)(s:Rd)(kp bb:Int):Prop where
 k0:s.nx=2\/s.nx=3->kp=0
 k3:s.nx=3->s.cd=0
 k4:s.nx=4->kp=s.cd/\(s.cd=0->bb=s.nn)/\(s.cd≠0->s.nn=0)
 nx:0<=s.nx/\s.nx<=4
 st:1<s.nx->(ofR s.h c.S).2.2=0
section
variable {lo:Nat}{H:qab}{b:Nat}{c:Cfg}{s:Rd}{cb:CB}{ws bs:List Int}{kp bb:Int}
def DidR.of {row:List Value}(hr:H[b]? = some (.row row false))(hC:IsR H cb ws bs):DidR H H b row cb ws bs:=⟨hr,hC,Chg.refl _ _⟩
def qoz (s:Rd)(o:Option Ent):((qor s o).1.nx=0\/(qor s o).1.nx=s.nx\/(qor s o).1.nx=2)/\(qor s o).1.h=s.h:=by
 unfold qor
 cases o with
 | none=>exact⟨.inl rfl,rfl⟩
 | some e=>simp only;split<;>simp
def qoA (s:Rd)(o:Option Ent):((qos s o).1.nx=0\/(qos s o).1.nx=1)/\(qos s o).1.h=s.h:=by
 unfold qos
 cases o with
 | none=>exact⟨.inr rfl,rfl⟩
 | some e=>simp only;split<;>simp
end
def qoB {lo:Nat}{H:qab}{b o:Nat}{s:Option Nat}{cs vs w:List Value}(hlt:b<H.length)(hlo:lo<=b)(ho:o+vs.length<=cs.length)(hw:splice cs o vs=w):stN lo (H.set b (.row cs false)) ⟨b,o,s⟩ vs=some (H.set b (.row w false)) :=
 (qiE (qiy hlt) hlo ho hw).trans (by rw [List.set_set])
structure Wr where
 h:Int
 off:Int
 v:Int
 nx:Int
 word:Int
 o:Int
 cd:Int
 gd:Bool
def qoC (c:Cfg)(s:Wr):List Value :=
 [I c.T,I c.S,I (ofR s.h c.S).1,I (ofR s.h c.S).2.1,.bool (decide ((ofR s.h c.S).2.2≠0)),I s.off,I s.v,I s.nx,I s.word,I s.o,I s.cd,.bool s.gd]
def qoD (s:Wr):Option Ent->Wr×Option (Int×Int)
 | none=>({s with nx:=0,gd:=false},some (4,0))
 | some e=>if e.lk=false/\e.u<15 then({s with o:=e.o,nx:=2},none)else(s,none)
def wrG (c:Cfg)(s:Wr):Int:=qjx c (ofR s.h c.S).1 0
def wrS (c:Cfg)(s:Wr)(ws bs:List Int):Wr×List Int×List Int×Option (Int×Int) :=
 if s.nx=1 then
  if(ofR s.h c.S).2.2≠0 then({s with nx:=0,gd:=false},ws,bs,some (4,0))
  else((qoD {s with word:=qi5 ws (wrG c s)} (qoo ws c (ofR s.h c.S).1 (ofR s.h c.S).2.1)).1,ws,bs,(qoD {s with word:=qi5 ws (wrG c s)} (qoo ws c (ofR s.h c.S).1 (ofR s.h c.S).2.1)).2)
 else if s.nx=2 then
  if qjh ws (wrG c s) s.word then({s with gd:=true,nx:=3},qi6 ws (wrG c s) (chE s.word (qmt 1)).1,bs,none)else({s with nx:=1},ws,bs,none)
 else if s.nx=3 then
  if s.off<0\/qi5 ws (qjx c (ofR s.h c.S).1 1)<=s.off then({s with cd:=5,nx:=5},ws,bs,none)else({s with nx:=4},ws,bs,none)
 else if s.nx=4 then({s with nx:=5},ws,qi6 bs (IntKind.i64.wrap (s.o+s.off)) (qi8 s.v),none)
 else if s.nx=5 then({s with word:=qi5 ws (wrG c s),nx:=6},ws,bs,none)
 else if s.nx=6 then
  if(chE s.word (qmt (-1))).2≠0 then({s with nx:=0,gd:=false},ws,bs,some (s.cd,0))
  else if qjh ws (wrG c s) s.word then({s with nx:=0,gd:=false},qi6 ws (wrG c s) (chE s.word (qmt (-1))).1,bs,some (s.cd,0))else({s with nx:=5},ws,bs,none)
 else if s.nx=0 then(s,ws,bs,some (1,0))
 else(s,ws,bs,none)
section
variable {lo:Nat}{H:qab}{b:Nat}{c:Cfg}{s:Wr}{cb:CB}{ws bs:List Int}
def Did.on {H1 H2:qab}{row:List Value}{ws1 bs1 ws' bs':List Int}{S:List Nat}(d:Did H H1 b row cb ws1 bs1)(hC:IsC H2 cb ws' bs')(o:Only S H1 H2)(hS:∀i∈S,i∈[cb.P,cb.W,cb.Y])(hb:b≠cb.P/\b≠cb.W/\b≠cb.Y):Did H H2 b row cb ws' bs' :=
 ⟨(Chg.of o).get d.row fun h=>by have:=hS _ h;simp at this;omega,hC,d.yz.trans ((Chg.of o).mono fun i hi=>List.mem_cons_of_mem _ (hS i hi))⟩
def Did.then {H1 H2:qab}{row row':List Value}{ws1 bs1 ws' bs':List Int}(d:Did H H1 b row cb ws1 bs1)(d2:Did H1 H2 b row' cb ws' bs'):Did H H2 b row' cb ws' bs':=⟨d2.row,d2.cells,d.yz.trans d2.yz⟩
def qoE (d:Did H H b (qoC c s) cb ws bs)(hlo:lo<=b)(k:Int):qfU En lo Id.zdM [qkt b,I k] H=some (qom (some (k,0)),H.set b (.row (qoC c {s with nx:=0,gd:=false}) false)):=by
 refine qgw rfl Fn.zdM rfl rfl ?_
 repeat' first|refine .A ?_|refine .B ?_|refine .J ?_|refine .S (qiE d.row hlo (zzL rfl) rfl) ?_|refine .S (qoB (qiB d.row) hlo (zzL rfl) rfl) ?_|refine .F ?_|refine .Y ?_|fail
 rfl
def qoF (d:Did H H b (qoC c s) cb ws bs)(hm:c.may)(hlo:lo<=b)(hlc:lo<=cb.P)(hb:b≠cb.P/\b≠cb.W/\b≠cb.Y) :
  ∃H',qfU En lo Id.zdP [qkt b,ifC cb] H=some (qag,H')/\Did H H' b (qoC c {s with word:=qi5 ws (wrG c s)}) cb ws bs:=by
 have hE:=fun lo=>qjA lo H hm (ofR s.h c.S).1
 obtain⟨H1,hL,hC1,ho1⟩:=qjf d.cells hlc (wrG c s)
 have d1:=d.on hC1 ho1 (by simp) hb
 refine⟨_, ?_,d1.set hb⟩
 refine qgw rfl Fn.zdP rfl rfl ?_
 unfold wrG at hL|-
 repeat' first|refine .B ?_|refine .nil rfl ?_|refine .A ?_|refine .L (qiC d.row rfl) ?_|refine .L (qiD d.row (zzL rfl) rfl) ?_|refine .P (hE _) ?_|refine .W hL ?_|refine .S (qiE d1.row hlo (zzL rfl) rfl) ?_|refine .F ?_|refine .Y ?_|fail
 rfl
def qoG (d:Did H H b (qoC c s) cb ws bs)(hm:c.may)(hlo:lo<=b)(hlc:lo<=cb.P/\lo<=cb.W)(hb:b≠cb.P/\b≠cb.W/\b≠cb.Y)(to:Int) :
  ∃H',qfU En lo Id.zdR [qkt b,ifC cb,I to] H=some (.bool (qjh ws (wrG c s) s.word),H')/\Did H H' b (qoC c s) cb (if qjh ws (wrG c s) s.word then qi6 ws (wrG c s) to else ws) bs:=by
 have hE:=fun lo=>qjA lo H hm (ofR s.h c.S).1
 obtain⟨H1,hL,hC1,ho1⟩:=qji d.cells hlc.1 hlc.2 (wrG c s) s.word to
 have d1:=d.on hC1 ho1 (by simp) hb
 have l8:qau H none ⟨b,0+8,none⟩=some (I s.word):=qiC d.row rfl
 refine⟨_, ?_,d1⟩
 refine qgw rfl Fn.zdR rfl rfl ?_
 unfold wrG at hL|-
 repeat' first|refine .A ?_|refine .B ?_|refine .J ?_|refine .L (qiC d.row rfl) ?_|refine .L (qiD d.row (zzL rfl) rfl) ?_|refine .X (qiC d.row rfl) (qiH (qiC d.row rfl)) (qkv _) ?_|refine .P (hE _) ?_|refine .W hL ?_|refine .F ?_|refine .Y ?_|fail
 rfl
def qoH:Option Ent->Bool
 | none=>true
 | some _=>false
def qoI (d:Did H H b (qoC c s) cb ws bs)(hm:c.may)(hlo:lo<=b)(hlc:lo<=cb.P)(hb:b≠cb.P/\b≠cb.W/\b≠cb.Y)(hst:¬(ofR s.h c.S).2.2≠0) :
  ∃H',qfU En lo Id.zdQ [qkt b,ifC cb] H=some (.bool (qoH (qoo ws c (ofR s.h c.S).1 (ofR s.h c.S).2.1)),H')/\
   Did H H' b (match qoo ws c (ofR s.h c.S).1 (ofR s.h c.S).2.1 with|none=>qoC c {s with word:=qi5 ws (wrG c s)} | some e=>qoC c (qoD {s with word:=qi5 ws (wrG c s)} (some e)).1) cb ws bs:=by
 obtain⟨H1,hL,d1⟩:=qoF (lo:=lo) d hm hlo hlc hb
 have l4:qau H none ⟨b,0+4,none⟩=some (.bool (decide ((ofR s.h c.S).2.2≠0))):=qiC d.row rfl
 rw [zzF hst]at l4
 have hU:=fun lo=>qkn lo H1 (qi5 ws (wrG c s))
 unfold qoo
 rw [show qjx c (ofR s.h c.S).1 0=wrG c s from rfl]
 generalize qi5 ws (wrG c s)=w at hU d1|-
 have k8:qau H1 none ⟨b,0+8,none⟩=some (I w):=qiC d1.row rfl
 have k3:qau H1 none ⟨b,0+3,none⟩=some (I (ofR s.h c.S).2.1):=qiC d1.row rfl
 cases hu:qkb w with
 | none =>
   rw [hu]at hU
   simp only [unV,Ent.zero,Ent.cs]at hU
   refine⟨_, ?_,d1⟩
   refine qgw rfl Fn.zdQ rfl rfl ?_
   repeat' first|refine .A ?_|refine .B ?_|refine .C ?_|refine .D ?_|refine .F ?_|refine .G ?_|refine .J ?_|refine .t6 ?_|refine .L l4 ?_|refine .L k8 ?_|refine .P hL ?_|refine .P (hU _) ?_|refine .Y ?_|fail
   rfl
 | some e =>
   rw [hu]at hU
   obtain⟨o,g,p,u,lk,lv⟩:=e
   simp only [unV,Ent.cs]at hU
   by_cases hf:lv=true/\g=(ofR s.h c.S).2.1
   ·have e1:qon (ofR s.h c.S).2.1 (some ⟨o,g,p,u,lk,lv⟩)=some ⟨o,g,p,u,lk,lv⟩:=if_pos hf
    rw [e1]
    simp only [qoD]
    have hlv:=hf.1
    have hg:=hf.2
    subst hlv
    cases lk with
    | true =>
      rw [if_neg (by simp)]
      refine⟨_, ?_,d1⟩
      refine qgw rfl Fn.zdQ rfl rfl ?_
      repeat' first|refine .A ?_|refine .B ?_|refine .D ?_|refine .F ?_|refine .G ?_|refine .H ?_|refine .J ?_|refine .C ?_|refine .f6 ?_|refine .L l4 ?_|refine .L k8 ?_|refine .L k3 ?_|refine .P hL ?_|refine .P (hU _) ?_|refine .Y ?_|fail
      rfl
    | false =>
      by_cases hu15:u<15
      ·rw [if_pos ⟨rfl,hu15⟩]
       refine⟨_, ?_,d1.set hb⟩
       refine qgw rfl Fn.zdQ rfl rfl ?_
       repeat' first|refine .A ?_|refine .B ?_|refine .C ?_|refine .D ?_|refine .F ?_|refine .G ?_|refine .H ?_|refine .J ?_|refine .t1 ?_|refine .f6 ?_|refine .L l4 ?_|refine .L k8 ?_|refine .L k3 ?_|refine .P hL ?_|refine .P (hU _) ?_|refine .S (qiE d1.row hlo (zzL rfl) rfl) ?_|refine .S (qoB (qiB d1.row) hlo (zzL rfl) rfl) ?_|refine .Y ?_|fail
       rfl
      ·rw [if_neg fun hh=>hu15 hh.2]
       refine⟨_, ?_,d1⟩
       refine qgw rfl Fn.zdQ rfl rfl ?_
       repeat' first|refine .A ?_|refine .B ?_|refine .D ?_|refine .F ?_|refine .G ?_|refine .H ?_|refine .J ?_|refine .C ?_|refine .f1 ?_|refine .f6 ?_|refine .L l4 ?_|refine .L k8 ?_|refine .L k3 ?_|refine .P hL ?_|refine .P (hU _) ?_|refine .Y ?_|fail
       rfl
   ·have e1:qon (ofR s.h c.S).2.1 (some ⟨o,g,p,u,lk,lv⟩)=none:=if_neg hf
    rw [e1]
    refine⟨_, ?_,d1⟩
    refine qgw rfl Fn.zdQ rfl rfl ?_
    cases lv with
    | false =>
      repeat' first|refine .A ?_|refine .B ?_|refine .C ?_|refine .D ?_|refine .F ?_|refine .G ?_|refine .J ?_|refine .f6 ?_|refine .L l4 ?_|refine .L k8 ?_|refine .P hL ?_|refine .P (hU _) ?_|refine .Y ?_|fail
      rfl
    | true =>
      have hg:¬g=(ofR s.h c.S).2.1:=fun h=>hf ⟨rfl,h⟩
      repeat' first|refine .A ?_|refine .B ?_|refine .C ?_|refine .D ?_|refine .F ?_|refine .G ?_|refine .J ?_|refine .t6 ?_|refine .f6 ?_|refine .L l4 ?_|refine .L k8 ?_|refine .L k3 ?_|refine .P hL ?_|refine .P (hU _) ?_|refine .Y ?_|fail
      rfl
def qoJ (d:Did H H b (qoC c s) cb ws bs)(hm:c.may)(hlo:lo<=b)(hlc:lo<=cb.P/\lo<=cb.W)(hb:b≠cb.P/\b≠cb.W/\b≠cb.Y) :
  ∃H',qfU En lo Id.zdN [qkt b,ifC cb] H=some (qag,H')/\Did H H' b (qoC c (if qjh ws (wrG c s) s.word then {s with gd:=true,nx:=3} else {s with nx:=1})) cb (if qjh ws (wrG c s) s.word then qi6 ws (wrG c s) (chE s.word (qmt 1)).1 else ws) bs:=by
 have d0:=d.set (row':=qoC c {s with nx:=1}) hb
 have s1:stN lo H ⟨b,0+7,none⟩ (qaf (I 1))=some (H.set b (.row (qoC c {s with nx:=1}) false)):=qiE d.row hlo (zzL rfl) rfl
 generalize H.set b (.row (qoC c {s with nx:=1}) false)=H0 at d0 s1
 have hG:=fun lo=>qmC lo H0 s.word 1
 unfold qmu at hG
 obtain⟨H1,hW,d1⟩:=qoG (lo:=lo) (Did.of d0.row d0.cells) hm hlo hlc hb (chE s.word (qmt 1)).1
 have hW:qfU En lo Id.zdR [qkt b,ifC cb,I (chE s.word (qmt 1)).1] H0=some (.bool (qjh ws (wrG c s) s.word),H1):=hW
 have d1:Did H0 H1 b (qoC c {s with nx:=1}) cb (if qjh ws (wrG c s) s.word then qi6 ws (wrG c s) (chE s.word (qmt 1)).1 else ws) bs:=d1
 cases hcb:qjh ws (wrG c s) s.word with
 | true =>
   rw [hcb]at hW d1
   refine⟨_, ?_,(d0.then d1).set hb⟩
   refine qgw rfl Fn.zdN rfl rfl ?_
   repeat' first|refine .A ?_|refine .B ?_|refine .C ?_|refine .nil rfl ?_|refine .L (qiC d0.row rfl) ?_|refine .P (hG _) ?_|refine .P hW ?_|refine .S (qiE d1.row hlo (zzL rfl) rfl) ?_|refine .S (qoB (qiB d1.row) hlo (zzL rfl) rfl) ?_|refine .S s1 ?_|refine .F ?_|refine .Y ?_|fail
   rfl
 | false =>
   rw [hcb]at hW d1
   refine⟨_, ?_,d0.then d1⟩
   refine qgw rfl Fn.zdN rfl rfl ?_
   repeat' first|refine .A ?_|refine .B ?_|refine .D ?_|refine .F ?_|refine .nil rfl ?_|refine .L (qiC d0.row rfl) ?_|refine .P (hG _) ?_|refine .P hW ?_|refine .S s1 ?_|refine .Y ?_|fail
   rfl
def qoK (d:Did H H b (qoC c s) cb ws bs)(hm:c.may)(hlo:lo<=b)(hlc:lo<=cb.P/\lo<=cb.W)(hb:b≠cb.P/\b≠cb.W/\b≠cb.Y) :
  ∃H',qfU En lo Id.zdO [qkt b,ifC cb] H=some (.bool (decide ((chE s.word (qmt (-1))).2≠0)||qjh ws (wrG c s) s.word),H')/\
   Did H H' b (qoC c (if(chE s.word (qmt (-1))).2≠0\/qjh ws (wrG c s) s.word=true then s else {s with nx:=5})) cb (if(chE s.word (qmt (-1))).2=0/\qjh ws (wrG c s) s.word=true then qi6 ws (wrG c s) (chE s.word (qmt (-1))).1 else ws) bs:=by
 have hG:=fun lo=>qmC lo H s.word (-1)
 unfold qmu at hG
 by_cases he:(chE s.word (qmt (-1))).2≠0
 ·rw [zzT he,if_pos (.inl he),if_neg fun hh=>he hh.1]
  refine⟨_, ?_,d⟩
  refine qgw rfl Fn.zdO rfl rfl ?_
  repeat' first|refine .A ?_|refine .B ?_|refine .C ?_|refine .J ?_|refine .t6 ?_|refine .L (qiC d.row rfl) ?_|refine .P (hG _) ?_|refine .D ?_|refine .F ?_|refine .Y ?_|fail
  rfl
 ·have he0:(chE s.word (qmt (-1))).2=0:=Decidable.not_not.1 he
  rw [zzF he,Bool.false_or]
  obtain⟨H1,hW,d1⟩:=qoG (lo:=lo) d hm hlo hlc hb (chE s.word (qmt (-1))).1
  cases hcb:qjh ws (wrG c s) s.word with
  | true =>
    rw [hcb]at hW d1
    rw [if_pos (.inr rfl),if_pos ⟨he0,rfl⟩]
    refine⟨_, ?_,d1⟩
    refine qgw rfl Fn.zdO rfl rfl ?_
    repeat' first|refine .A ?_|refine .B ?_|refine .C ?_|refine .J ?_|refine .f6 ?_|refine .L (qiC d.row rfl) ?_|refine .P (hG _) ?_|refine .P hW ?_|refine .F ?_|refine .Y ?_|fail
    rfl
  | false =>
    rw [hcb]at hW d1
    rw [if_neg (by simp [he0]),if_neg (by simp)]
    refine⟨_, ?_,d1.set hb⟩
    refine qgw rfl Fn.zdO rfl rfl ?_
    repeat' first|refine .A ?_|refine .B ?_|refine .D ?_|refine .F ?_|refine .J ?_|refine .f6 ?_|refine .L (qiC d.row rfl) ?_|refine .P (hG _) ?_|refine .P hW ?_|refine .S (qiE d1.row hlo (zzL rfl) rfl) ?_|refine .Y ?_|fail
    rfl
set_option maxHeartbeats 3200000 in
def qoL (hr:H[b]? = some (.row (qoC c s) false))(hC:IsC H cb ws bs)(hb:b≠cb.P/\b≠cb.W/\b≠cb.Y)(hm:c.may)(hlo:lo<=b)(hlc:lo<=cb.P/\lo<=cb.W/\lo<=cb.Y) :
  ∃H',qfU En lo Id.zdL [qkt b,ifC cb] H=some (qom (wrS c s ws bs).2.2.2,H')/\Did H H' b (qoC c (wrS c s ws bs).1) cb (wrS c s ws bs).2.1 (wrS c s ws bs).2.2.1:=by
 have key:∃v H',qfU En lo Id.zdL [qkt b,ifC cb] H=some (v,H')/\v=qom (wrS c s ws bs).2.2.2/\Did H H' b (qoC c (wrS c s ws bs).1) cb (wrS c s ws bs).2.1 (wrS c s ws bs).2.2.1:=by
  refine qiu rfl Fn.zdL rfl rfl ?_
  have d:=Did.of hr hC
  have l7:qau H none ⟨b,0+7,none⟩=some (I s.nx):=qiC hr rfl
  unfold wrS
  by_cases h1:s.nx=1
  ·rw [if_pos h1]
   by_cases hst:(ofR s.h c.S).2.2≠0
   ·rw [if_pos hst]
    have l4:qau H none ⟨b,0+4,none⟩=some (.bool (decide ((ofR s.h c.S).2.2≠0))):=qiC hr rfl
    rw [zzT hst]at l4
    have hLk:qfU En lo Id.zdQ [qkt b,ifC cb] H=some (.bool true,H):=by
     refine qgw rfl Fn.zdQ rfl rfl ?_
     repeat' first|refine .A ?_|refine .B ?_|refine .C ?_|refine .J ?_|refine .L l4 ?_|refine .F ?_|refine .Y ?_|fail
     rfl
    have hE:=fun lo hl k=>qoE (lo:=lo) d hl k
    repeat' first|refine .A ?_|refine .B ?_|refine .C ?_|refine .D ?_|refine .F ?_|refine .G ?_|refine .J ?_|refine .t5 ?_|refine .f5 ?_|refine .L l7 ?_|refine .P hLk ?_|refine .P (hE _ hlo _) ?_|refine .Y ?_|fail
    exact⟨rfl,d.set hb⟩
   ·rw [if_neg hst]
    refine zzX (qoI (lo:=lo) d hm hlo hlc.1 hb hst) fun H1 hq => ?_
    have hL:=hq.1
    have d1:=hq.2
    clear hq
    cases hf:qoo ws c (ofR s.h c.S).1 (ofR s.h c.S).2.1 with
    | none =>
      rw [hf]at hL d1
      simp only [qoH]at hL d1
      have hE:=fun lo hl k=>qoE (lo:=lo) (Did.of d1.row d1.cells) hl k
      repeat' first|refine .A ?_|refine .B ?_|refine .C ?_|refine .D ?_|refine .F ?_|refine .G ?_|refine .J ?_|refine .t5 ?_|refine .f5 ?_|refine .L l7 ?_|refine .P hL ?_|refine .P (hE _ hlo _) ?_|refine .Y ?_|fail
      exact⟨rfl,d1.set hb⟩
    | some e =>
      rw [hf]at hL d1
      simp only [qoH]at hL d1
      have hout:(qoD {s with word:=qi5 ws (wrG c s)} (some e)).2=none:=by simp only [qoD];split<;>rfl
      rw [hout]
      repeat' first|refine .A ?_|refine .B ?_|refine .C ?_|refine .D ?_|refine .F ?_|refine .G ?_|refine .H ?_|refine .J ?_|refine .t5 ?_|refine .f5 ?_|refine .L l7 ?_|refine .P hL ?_|refine .Y ?_|fail
      exact⟨rfl,d1⟩
  rw [if_neg h1]
  by_cases h2:s.nx=2
  ·rw [if_pos h2]
   refine zzX (qoJ (lo:=lo) d hm hlo ⟨hlc.1,hlc.2.1⟩ hb) fun H1 hq => ?_
   have hL:=hq.1
   have d1:=hq.2
   clear hq
   cases hcb:qjh ws (wrG c s) s.word with
   | true =>
     rw [hcb]at d1
     repeat' first|refine .A ?_|refine .B ?_|refine .C ?_|refine .D ?_|refine .F ?_|refine .G ?_|refine .H ?_|refine .J ?_|refine .t5 ?_|refine .f5 ?_|refine .L l7 ?_|refine .P hL ?_|refine .Y ?_|fail
     exact⟨rfl,d1⟩
   | false =>
     rw [hcb]at d1
     repeat' first|refine .A ?_|refine .B ?_|refine .C ?_|refine .D ?_|refine .F ?_|refine .G ?_|refine .H ?_|refine .J ?_|refine .t5 ?_|refine .f5 ?_|refine .L l7 ?_|refine .P hL ?_|refine .Y ?_|fail
     exact⟨rfl,d1⟩
  rw [if_neg h2]
  by_cases h3:s.nx=3
  ·rw [if_pos h3]
   have d1:=d.set (row':=qoC c {s with nx:=4}) hb
   have s1:stN lo H ⟨b,0+7,none⟩ (qaf (I 4))=some (H.set b (.row (qoC c {s with nx:=4}) false)):=qiE d.row hlo (zzL rfl) rfl
   generalize H.set b (.row (qoC c {s with nx:=4}) false)=H1 at d1 s1
   have hSz:=fun lo=>qjB lo H1 hm (ofR s.h c.S).1
   refine zzX (qjf d1.cells hlc.1 (qjx c (ofR s.h c.S).1 1)) fun H2 hq => ?_
   have hL:=hq.1
   have d2:=d1.on hq.2.1 hq.2.2 (by simp) hb
   clear hq
   have k5:qau H2 none ⟨b,0+5,none⟩=some (I s.off):=qiC d2.row rfl
   generalize qi5 ws (qjx c (ofR s.h c.S).1 1)=z at hL|-
   by_cases ho:s.off<0\/z<=s.off
   ·rw [if_pos ho]
    by_cases ho1:s.off<0
    ·repeat' first|refine .A ?_|refine .B ?_|refine .C ?_|refine .D ?_|refine .F ?_|refine .G ?_|refine .H ?_|refine .J ?_|refine .t1 ?_|refine .t5 ?_|refine .f5 ?_|refine .L l7 ?_|refine .L k5 ?_|refine .L (qiC d1.row rfl) ?_|refine .L (qiD d1.row (zzL rfl) rfl) ?_|refine .P (hSz _) ?_|refine .W hL ?_|refine .S (qiE d2.row hlo (zzL rfl) rfl) ?_|refine .S (qoB (qiB d2.row) hlo (zzL rfl) rfl) ?_|refine .S s1 ?_|refine .Y ?_|fail
     exact⟨rfl,d2.set hb⟩
    ·repeat' first|refine .A ?_|refine .B ?_|refine .C ?_|refine .D ?_|refine .F ?_|refine .G ?_|refine .H ?_|refine .J ?_|refine .f1 ?_|refine .t4 ?_|refine .t5 ?_|refine .f5 ?_|refine .L l7 ?_|refine .L k5 ?_|refine .L (qiC d1.row rfl) ?_|refine .L (qiD d1.row (zzL rfl) rfl) ?_|refine .P (hSz _) ?_|refine .W hL ?_|refine .S (qiE d2.row hlo (zzL rfl) rfl) ?_|refine .S (qoB (qiB d2.row) hlo (zzL rfl) rfl) ?_|refine .S s1 ?_|refine .Y ?_|fail
     exact⟨rfl,d2.set hb⟩
   ·rw [if_neg ho]
    repeat' first|refine .A ?_|refine .B ?_|refine .C ?_|refine .D ?_|refine .F ?_|refine .G ?_|refine .H ?_|refine .J ?_|refine .f1 ?_|refine .f4 ?_|refine .t5 ?_|refine .f5 ?_|refine .L l7 ?_|refine .L k5 ?_|refine .L (qiC d1.row rfl) ?_|refine .L (qiD d1.row (zzL rfl) rfl) ?_|refine .P (hSz _) ?_|refine .W hL ?_|refine .S s1 ?_|refine .Y ?_|fail
    exact⟨rfl,d2⟩
  rw [if_neg h3]
  by_cases h4:s.nx=4
  ·rw [if_pos h4]
   refine zzX (qjk hC hlc.1 hlc.2.2 (IntKind.i64.wrap (s.o+s.off)) s.v) fun H1 hq => ?_
   have hL:=hq.1
   have d1:=d.on hq.2.1 hq.2.2 (by simp) hb
   clear hq
   repeat' first|refine .A ?_|refine .B ?_|refine .C ?_|refine .D ?_|refine .F ?_|refine .G ?_|refine .H ?_|refine .J ?_|refine .t5 ?_|refine .f5 ?_|refine .L l7 ?_|refine .L (qiC d.row rfl) ?_|refine .W hL ?_|refine .S (qiE d1.row hlo (zzL rfl) rfl) ?_|refine .Y ?_|fail
   exact⟨rfl,d1.set hb⟩
  rw [if_neg h4]
  by_cases h5:s.nx=5
  ·rw [if_pos h5]
   refine zzX (qoF (lo:=lo) d hm hlo hlc.1 hb) fun H1 hq => ?_
   have hL:=hq.1
   have d1:=hq.2
   clear hq
   repeat' first|refine .A ?_|refine .B ?_|refine .C ?_|refine .D ?_|refine .F ?_|refine .G ?_|refine .H ?_|refine .J ?_|refine .t5 ?_|refine .f5 ?_|refine .L l7 ?_|refine .P hL ?_|refine .S (qiE d1.row hlo (zzL rfl) rfl) ?_|refine .Y ?_|fail
   exact⟨rfl,d1.set hb⟩
  rw [if_neg h5]
  by_cases h6:s.nx=6
  ·rw [if_pos h6]
   refine zzX (qoK (lo:=lo) d hm hlo ⟨hlc.1,hlc.2.1⟩ hb) fun H1 hq => ?_
   have hL:=hq.1
   have d1:=hq.2
   clear hq
   by_cases he:(chE s.word (qmt (-1))).2≠0
   ·rw [if_pos he]
    rw [zzT he,Bool.true_or]at hL
    rw [if_pos (.inl he),if_neg fun hh=>he hh.1]at d1
    have hE:=fun lo hl k=>qoE (lo:=lo) (Did.of d1.row d1.cells) hl k
    repeat' first|refine .A ?_|refine .B ?_|refine .C ?_|refine .D ?_|refine .F ?_|refine .G ?_|refine .J ?_|refine .t5 ?_|refine .f5 ?_|refine .L l7 ?_|refine .L (qiC d1.row rfl) ?_|refine .P hL ?_|refine .P (hE _ hlo _) ?_|refine .Y ?_|fail
    exact⟨rfl,d1.set hb⟩
   ·rw [if_neg he]
    have he0:(chE s.word (qmt (-1))).2=0:=Decidable.not_not.1 he
    rw [zzF he,Bool.false_or]at hL
    cases hcb:qjh ws (wrG c s) s.word with
    | true =>
      rw [hcb]at hL d1
      rw [if_pos (.inr rfl),if_pos ⟨he0,rfl⟩]at d1
      have hE:=fun lo hl k=>qoE (lo:=lo) (Did.of d1.row d1.cells) hl k
      repeat' first|refine .A ?_|refine .B ?_|refine .C ?_|refine .D ?_|refine .F ?_|refine .G ?_|refine .J ?_|refine .t5 ?_|refine .f5 ?_|refine .L l7 ?_|refine .L (qiC d1.row rfl) ?_|refine .P hL ?_|refine .P (hE _ hlo _) ?_|refine .Y ?_|fail
      exact⟨rfl,d1.set hb⟩
    | false =>
      rw [hcb]at hL d1
      rw [if_neg (by simp [he0]),if_neg (by simp)]at d1
      repeat' first|refine .A ?_|refine .B ?_|refine .C ?_|refine .D ?_|refine .F ?_|refine .G ?_|refine .H ?_|refine .J ?_|refine .t5 ?_|refine .f5 ?_|refine .L l7 ?_|refine .P hL ?_|refine .Y ?_|fail
      exact⟨rfl,d1⟩
  rw [if_neg h6]
  by_cases h0:s.nx=0
  ·rw [if_pos h0]
   repeat' first|refine .A ?_|refine .B ?_|refine .C ?_|refine .J ?_|refine .t5 ?_|refine .L l7 ?_|refine .F ?_|refine .Y ?_|fail
   exact⟨rfl,d⟩
  ·rw [if_neg h0]
   repeat' first|refine .A ?_|refine .B ?_|refine .D ?_|refine .F ?_|refine .G ?_|refine .H ?_|refine .J ?_|refine .f5 ?_|refine .L l7 ?_|refine .Y ?_|fail
   exact⟨rfl,d⟩
 obtain⟨v,H',h1,rfl,h2⟩:=key
 exact⟨H',h1,h2⟩
end
section
variable {lo:Nat}{H:qab}{c:CB}{ws bs:List Int}
end
def qoM (c:Cfg)(s:Wr)(e:Ent):List Value :=
 [I c.A,I c.S,I c.T,I s.h,I s.off,I s.v,I s.nx,I s.word,I e.o,I e.g,I e.p,I e.u,.bool e.lk,.bool e.lv,I s.cd,.bool s.gd]
structure WrI (c:Cfg)(s:Wr)(e:Ent):Prop where
 eo:e.o=s.o
 nx:0<=s.nx/\s.nx<=6
 st:1<s.nx->(ofR s.h c.S).2.2=0
section
variable {lo:Nat}{H:qab}{b:Nat}{c:Cfg}{s:Wr}{e:Ent}{cb:CB}{ws bs:List Int}
def DidR.on {H1 H2:qab}{row:List Value}{ws1 bs1 ws' bs':List Int}{S:List Nat}(d:DidR H H1 b row cb ws1 bs1)(hC:IsR H2 cb ws' bs')(o:Only S H1 H2)(hS:∀i∈S,i∈[cb.P,cb.W,cb.Y])(hb:b≠cb.P/\b≠cb.W/\b≠cb.Y):DidR H H2 b row cb ws' bs' :=
 ⟨(Chg.of o).get d.row fun h=>by have:=hS _ h;simp at this;omega,hC,d.yz.trans ((Chg.of o).mono fun i hi=>List.mem_cons_of_mem _ (hS i hi))⟩
def DidR.then {H1 H2:qab}{row row':List Value}{ws1 bs1 ws' bs':List Int}(d:DidR H H1 b row cb ws1 bs1)(d2:DidR H1 H2 b row' cb ws' bs'):DidR H H2 b row' cb ws' bs':=⟨d2.row,d2.cells,d.yz.trans d2.yz⟩
def qoN (s:Wr)(o:Option Ent):((qoD s o).1.nx=0\/(qoD s o).1.nx=s.nx\/(qoD s o).1.nx=2)/\(qoD s o).1.h=s.h:=by
 unfold qoD
 cases o with
 | none=>exact⟨.inl rfl,rfl⟩
 | some e=>simp only;split<;>simp
end
end Go.Proofs.YtlgnnpkdhbhdgaaGreat
