/- A thread, step by step: by the program. -/
import Derived.Test.YtlgnnpkdhbhdgaaGreatThreadQ1
set_option linter.all false
namespace Go.Proofs.YtlgnnpkdhbhdgaaGreat
open Go Go.Ir
structure Th where
 num:Int
 ops:List Op4
 nx:Int
 ep:Int
 m:Mx
 cd:Int
 nn:Int
def evA (num:Int)(o:Op4):List Value := [I num,.bool false,I o.d,I o.h,I o.f,I o.n,I 0,I 0]
def evB (num cd nn:Int):List Value := [I num,.bool true,I 0,I 0,I 0,I 0,I cd,I nn]
def thW (t:Th)(r:Mx×List Int×List Int×Option (Int×Int)):Th×List Int×List Int×List (List Value) :=
 match r.2.2.2 with
 | none=>({t with m:=r.1},r.2.1,r.2.2.1,[])
 | some q=>({t with m:=r.1,cd:=q.1,nn:=q.2,nx:=3},r.2.1,r.2.2.1,[])
def thS (c:Cfg)(t:Th)(ws bs:List Int):Th×List Int×List Int×List (List Value) :=
 match t.ops with
 | []=>(t,ws,bs,[])
 | o::r =>
   if t.nx=0 then({t with ep:=qi5 ws 3,nx:=1},ws,bs,[evA t.num o])
   else if t.nx=1 then({t with m:=mkM o,nx:=2},qi6 ws (qjF c t.num) (w64 (t.ep+1)),bs,[])
   else if t.nx=2 then thW t (mxS c t.m ws bs)
   else({t with ops:=r,nx:=0},qi6 ws (qjF c t.num) 0,bs,[evB t.num t.cd t.nn])
def qpS (c:Cfg)(t:Th)(ov ev mv av:Value):List Value := [I c.A,I c.S,I c.T,I t.num,ov,I t.nx,ev,mv,av,I t.cd,I t.nn]
structure ThP (H:qab)(own:List Nat)(ob:Nat)(cb:CB)(c:Cfg)(t:Th)(b:Nat):Prop where
 mem:b∈own
 note:t.ops≠[]->0<=qjF c t.num
 nx:0<=t.nx/\t.nx<=3
 far:t.ops≠[]->ob∉qoZ own cb
 row:∃ov ev mv av,H[b]? = some (.row (qpS c t ov ev mv av) false)/\OpsV H ov t.ops ob/\
  (t.nx=1->∃e,ev=qkt e/\e∈own/\b≠e/\H[e]? = some (.row (qpF c (qjF c t.num) 2 t.ep) false))/\
  (t.nx=2->∃k mo,mv = .iface (mxT t.m) (mxR k t.m)/\av=mxA k t.m/\(∀x∈mo,x∈own)/\b∉mo/\MxP H mo c k t.m)
def Chg.join {S S':List Nat}{H H1 H2:qab}(a:Chg S H H1)(b:Chg S' H1 H2)(h:∀x∈S',x∈S\/H.length<=x):Chg S H H2 :=
 ⟨Nat.le_trans a.len b.len,fun j hj hn=>(b.same j (Nat.lt_of_lt_of_le hj a.len) fun hm=>by
   rcases h j hm with g|g
   ·exact hn g
   ·omega).trans (a.same j hj hn)⟩
def Chg.waw {S:List Nat}{H H':qab}(e:Ext H H'):Chg S H H':=⟨e.1,fun j hj _=>e.2 j hj⟩
def qpT {own own':List Nat}{cb:CB}(h:∀x∈own,x∈own'):∀x∈qoZ own cb,x∈qoZ own' cb:=fun x hx=>by
 rcases List.mem_append.1 hx with g|g
 ·exact List.mem_append_left _ (h x g)
 ·exact List.mem_append_right _ g
def qpU {own own':List Nat}{cb:CB}{H:qab}{ob:Nat}(hf:ob∉qoZ own cb)(hl:ob<H.length)(h:∀x∈own',x∈own\/H.length<=x):ob∉qoZ own' cb:=fun hm=>by
 rcases List.mem_append.1 hm with g|g
 ·rcases h ob g with e|e
  ·exact hf (List.mem_append_left _ e)
  ·omega
 ·exact hf (List.mem_append_right _ g)
def MxP.keep {H H':qab}{own:List Nat}{c:Cfg}{k:Nat} : ∀{m:Mx},MxP H own c k m->(∀x∈own,H'[x]? = H[x]?)->MxP H' own c k m
 | .al s,h,g=>by
   obtain⟨h1,h2,t,gv,h3,h4,h5,h6,h7⟩:=h
   refine⟨h1,h2,t,gv,(g _ h1).trans h3,(g _ h6).trans h4,h5,h6,fun h => ?_⟩
   obtain⟨q,q1,q2,q3,q4,q5⟩:=h7 h
   exact⟨q,q1,(g _ q5).trans q2,q3,q4,q5⟩
 | .fe s,h,g=>by
   obtain⟨h1,to,more,gv,h2,h3,h4⟩:=h
   refine⟨h1,to,more,gv,(g _ h1).trans h2,h3,fun a1 a2 a3 => ?_⟩
   obtain⟨q,q1,q2,q3,q4⟩:=h4 a1 a2 a3
   exact⟨q,q1,(g _ q4).trans q2,q3,q4⟩
 | .rd s,h,g=>⟨h.1,(g _ h.1).trans h.2⟩
 | .wr s,h,g=>⟨h.1,(g _ h.1).trans h.2⟩
 | .pn s,h,g=>⟨h.1,(g _ h.1).trans h.2⟩
 | .no,_,_=>trivial
def qpV {c:Cfg}{m:Mx}{ws bs:List Int} : mxT (mxS c m ws bs).1=mxT m/\(∀k,mxR k (mxS c m ws bs).1=mxR k m)/\(∀k,mxA k (mxS c m ws bs).1=mxA k m):=by
 cases m<;>exact⟨rfl,fun _=>rfl,fun _=>rfl⟩
def ltC {H:qab}{c:CB}{ws bs:List Int}(hC:IsC H c ws bs):c.P<H.length/\c.W<H.length/\c.Y<H.length:=by
 obtain⟨st,hp⟩:=hC.p
 exact⟨qiB hp,qiB hC.w,qiB hC.y⟩
def ltR {H:qab}{c:CB}{ws bs:List Int}(hC:IsR H c ws bs):c.P<H.length/\c.W<H.length/\c.Y<H.length:=by
 obtain⟨st,hp⟩:=hC.p
 exact⟨qiB hp,qiB hC.w,qiB hC.y⟩
section
variable {H:qab}{b ob:Nat}{c:Cfg}{t:Th}{cb:CB}{ws bs:List Int}{own:List Nat}
def SlN (H H':qab)(v:Value)(es:List (List Value)):Prop:=Sl H' 8 v es/\∀a n k,v = .slice (some a) n k->H.length<=a.block
def qpW (H:qab):Sl H 8 (.slice none 0 0) []:=(Out.nil H 0 8).sl
def qpX (H:qab){e:List Value}(he:e.length=8):Sl (H ++ [.row e false]) 8 (.slice (some ⟨H.length,0,none⟩) 1 1) [e] :=
 ⟨fun x hx=>by rw [List.mem_singleton]at hx;rw [hx];exact he,.inr ⟨_,_,rfl,qgD (a:=⟨H.length,0,none⟩) (cs:=e) (ro:=false) zzC rfl he.symm |>.trans (by simp)⟩⟩
def qpY (H0 H:qab):SlN H0 H (.slice none 0 0) []:=⟨qpW H,fun a n k h=>by injection h with h;cases h⟩
def qpZ (H0 H:qab){e:List Value}(he:e.length=8)(hl:H0.length<=H.length):SlN H0 (H ++ [.row e false]) (.slice (some ⟨H.length,0,none⟩) 1 1) [e] :=
 ⟨qpX H he,fun a n k h=>by injection h with h;injection h with h;subst h;exact hl⟩
def qp0 {ov ev mv av:Value}{a:Option Addr}{k:Nat}(hr:H[b]? = some (.row (qpS c t ov ev mv av) false))(hv:ov = .slice a 0 k):qfU En 0 Id.zdz [qkt b] H=some (.bool true,H):=by
 subst hv
 have l4:qau H none ⟨b,0+4,none⟩=some (.slice a 0 k):=qiC hr rfl
 refine qgw rfl Fn.zdz rfl rfl ?_
 repeat' first|refine .A ?_|refine .B ?_|refine .J ?_|refine .t5 ?_|refine .L l4 ?_|refine .F ?_|refine .Y ?_|fail
 rfl
def qp1 {ov ev mv av:Value}{a:Option Addr}{n k:Nat}(hr:H[b]? = some (.row (qpS c t ov ev mv av) false))(hv:ov = .slice a (n+1) k):qfU En 0 Id.zdz [qkt b] H=some (.bool false,H):=by
 subst hv
 have l4:qau H none ⟨b,0+4,none⟩=some (.slice a (n+1) k):=qiC hr rfl
 refine qgw rfl Fn.zdz rfl rfl ?_
 repeat' first|refine .A ?_|refine .B ?_|refine .J ?_|refine .f5 ?_|refine .L l4 ?_|refine .F ?_|refine .Y ?_|fail
 rfl
def ThD (H:qab)(own:List Nat)(ob:Nat)(cb:CB)(c:Cfg)(t:Th)(b:Nat)(ws bs:List Int):Prop :=
 ∃v own' H',qfU En 0 Id.zdB [qkt b,ifC cb] H=some (v,H')/\SlN H H' v (thS c t ws bs).2.2.2/\ThP H' own' ob cb c (thS c t ws bs).1 b/\IsC H' cb (thS c t ws bs).2.1 (thS c t ws bs).2.2.1/\Grew H H' own own' cb
def qp2 {H1:qab}{row:List Value}{ws' bs':List Int}(d:Did H H1 b row cb ws' bs')(hb:b∈own):Chg (qoZ own cb) H H1:=d.yz.mono (qo0 hb)
set_option maxHeartbeats 3200000 in
def qp3 (hP:ThP H own ob cb c t b)(hC:IsC H cb ws bs)(hA:Apart own cb)(hm:c.may){o:Op4}{r:List Op4}(ho:t.ops=o::r)(h0:t.nx=0):ThD H own ob cb c t b ws bs:=by
 obtain⟨ov,ev,mv,av,hr,hops,_,_⟩:=hP.row
 have hb:=hA.at hP.mem
 have hlo:0<=b:=zzZ _
 have hne:t.ops≠[]:=by rw [ho];simp
 have hnt:=hP.note hne
 have hfar:=hP.far hne
 rw [ho]at hops
 obtain⟨off,hov,hld,hobl,_,_⟩:=hops.head
 have hDn:=qp1 hr hov
 have hbl:=qiB hr
 have e0:thS c t ws bs=({t with ep:=qi5 ws 3,nx:=1},ws,bs,[evA t.num o]):=by unfold thS;rw [ho];simp only;rw [if_pos h0]
 unfold ThD
 rw [e0]
 have hN:=qpH H hm hnt
 have d1:Did H (H ++ [.row (qpF c (qjF c t.num) 1 0) false]) b (qpS c t ov ev mv av) cb ws bs:=⟨qiA hr,hC.app _,(Chg.refl _ _).app _⟩
 have he1:(H ++ [Blk.row (qpF c (qjF c t.num) 1 0) false])[H.length]? = some (.row (qpF c (qjF c t.num) 1 0) false):=zzC
 generalize H ++ [Blk.row (qpF c (qjF c t.num) 1 0) false]=H1 at hN d1 he1
 have d2:=d1.set (row':=qpS c t ov (qkt H.length) mv av) hb
 have s2:stN 0 H1 ⟨b,0+6,none⟩ (qaf (qkt H.length))=some (H1.set b (.row (qpS c t ov (qkt H.length) mv av) false)):=qiE d1.row hlo (zzL rfl) rfl
 have he2:(H1.set b (.row (qpS c t ov (qkt H.length) mv av) false))[H.length]? = some (.row (qpF c (qjF c t.num) 1 0) false):=qiz (by omega) he1
 generalize H1.set b (.row (qpS c t ov (qkt H.length) mv av) false)=H2 at d2 s2 he2
 have lc:=ltC hC
 have hec:H.length≠cb.P/\H.length≠cb.W/\H.length≠cb.Y:=by omega
 obtain⟨H3,hE,d3⟩:=qpI (Did.of he2 d2.cells) hm hec
 have c3:Chg (qoZ own cb) H H3:=(qp2 d2 hP.mem).join d3.yz (fun x hx=>by
  simp only [List.mem_cons,List.mem_nil_iff,or_false]at hx
  unfold qoZ
  rcases hx with rfl|rfl|rfl|rfl
  ·exact .inr (zzR _)
  all_goals exact .inl (by simp))
 have hr3:H3[b]? = some (.row (qpS c t ov (qkt H.length) mv av) false):=d3.yz.get d2.row (by simp [hb.1,hb.2.1,hb.2.2];omega)
 have k6:qau H2 none ⟨b,0+6,none⟩=some (qkt H.length):=qiC d2.row rfl
 have dr3:=Did.of hr3 d3.cells
 have d4:=dr3.set (row':=qpS c {t with ep:=qi5 ws 3,nx:=1} ov (qkt H.length) mv av) hb
 have s4:stN 0 H3 ⟨b,0+5,none⟩ (qaf (I 1))=some (H3.set b (.row (qpS c {t with ep:=qi5 ws 3,nx:=1} ov (qkt H.length) mv av) false)):=qiE hr3 hlo (zzL rfl) rfl
 have he4:(H3.set b (.row (qpS c {t with ep:=qi5 ws 3,nx:=1} ov (qkt H.length) mv av) false))[H.length]? = some (.row (qpF c (qjF c t.num) 2 (qi5 ws 3)) false):=qiz (by omega) d3.row
 generalize H3.set b (.row (qpS c {t with ep:=qi5 ws 3,nx:=1} ov (qkt H.length) mv av) false)=H4 at d4 s4 he4
 have c4:Chg (qoZ own cb) H H4:=c3.trans (qp2 d4 hP.mem)
 have hob4:H4[ob]? = H[ob]? := c4.same ob hobl hfar
 have hops4:=hops.keep hob4
 obtain⟨off',hov',hld4,_,_,_⟩:=hops4.head
 rw [hov]at hov'
 injection hov' with e1 e2 e3
 injection e1 with e1
 injection e1 with e1 e4 e5
 subst e4
 have m3:qau H4 none ⟨b,0+3,none⟩=some (I t.num):=qiC d4.row rfl
 have m4:qau H4 none ⟨b,0+4,none⟩=some (.slice (some (loose ob off)) (r.length+1) 4):=qiC d4.row (by rw [hov];rfl)
 have hi0:0<r.length+1:=by omega
 refine⟨_,H.length::own,_, ?_,qpZ H H4 rfl c4.len,⟨List.mem_cons_of_mem _ hP.mem,hP.note,by simp,fun _=>qpU hfar hobl (fun x hx => ?_),ov,qkt H.length,mv,av,qiA d4.row,(by show OpsV _ ov t.ops ob;rw [ho];exact hops4.keep (zzA (by have:=c4.len;omega))),fun _=>⟨H.length,rfl,by simp,by omega,qiA he4⟩,fun h=>by simp at h⟩,d4.cells.app _,.cons (c4.app _) (zzR _)⟩
 ·refine qgw rfl Fn.zdB rfl rfl ?_
  obtain⟨od,oh,of_,on,p1,p2⟩:=o
  simp only [Op4.cs]at hld4
  repeat' first|refine .A ?_|refine .B ?_|refine .C ?_|refine .D ?_|refine .F ?_|refine .G ?_|refine .J ?_|refine .t5 ?_|(show EG _ _ (⟨_,.load _ _,_,_⟩::_) _ _ _ _ _ _;first|refine .L (qiC (Did.of hr hC).row rfl) ?_|refine .L (qiD (Did.of hr hC).row (zzL rfl) rfl) ?_|refine .L k6 ?_|refine .L m3 ?_|refine .L m4 ?_|refine .L hld4 ?_)|refine .P hDn ?_|refine .P hN ?_|refine .P hE ?_|refine .R hi0 ?_|refine .S s2 ?_|refine .S s4 ?_|refine .Y ?_|fail
  rfl
 ·rcases List.mem_cons.1 hx with rfl|hx
  ·exact .inr (zzR _)
  ·exact .inl hx
set_option maxHeartbeats 3200000 in
def qp4 (hP:ThP H own ob cb c t b)(hC:IsC H cb ws bs)(hA:Apart own cb)(hm:c.may){o:Op4}{r:List Op4}(ho:t.ops=o::r)(h1:t.nx=1):ThD H own ob cb c t b ws bs:=by
 obtain⟨ov,ev,mv,av,hr,hops,hen,_⟩:=hP.row
 obtain⟨e,rfl,heo,hbe,he⟩:=hen h1
 have hb:=hA.at hP.mem
 have hec:=hA.at heo
 have hlo:0<=b:=zzZ _
 have hne:t.ops≠[]:=by rw [ho];simp
 have hfar:=hP.far hne
 rw [ho]at hops
 obtain⟨off,hov,hld,hobl,_,_⟩:=hops.head
 have hDn:=qp1 hr hov
 have hbl:=qiB hr
 have e0:thS c t ws bs=({t with m:=mkM o,nx:=2},qi6 ws (qjF c t.num) (w64 (t.ep+1)),bs,[]):=by unfold thS;rw [ho];simp only;rw [if_neg (by omega),if_pos h1]
 unfold ThD
 rw [e0]
 obtain⟨H1,hE,d1⟩:=qpJ (Did.of he hC) hec
 have c1:Chg (qoZ own cb) H H1:=d1.yz.mono (qo0 heo)
 have hr1:H1[b]? = some (.row (qpS c t ov (qkt e) mv av) false):=d1.yz.get hr (by simp [hbe,hb.1,hb.2.1,hb.2.2])
 obtain⟨k,k0,H2,hT,hx2,hk,hk0,hMx⟩:=qpM H1 hm o
 have hr2:H2[b]? = some (.row (qpS c t ov (qkt e) mv av) false):=(hx2.2 b (qiB hr1)).trans hr1
 have hC2:IsC H2 cb (qi6 ws (qjF c t.num) (w64 (t.ep+1))) bs:=d1.cells.yz (S := []) (Chg.waw hx2) (by simp)
 have c2:Chg (qoZ own cb) H H2:=c1.trans (Chg.waw hx2)
 have l1:=c1.len
 have d2:=Did.of hr2 hC2
 have hbk:b∉[k,k0]:=by simp;omega
 have keepM:∀r',MxP (H2.set b (.row r' false)) [k,k0] c k (mkM o):=fun r'=>by
  have hg:∀x r0,x∈[k,k0]->H2[x]? = some r0->(H2.set b (.row r' false))[x]? = some r0:=fun x r0 hx h=>qiz (fun e=>hbk (by rw [e];exact hx)) h
  exact MxP.keep hMx (fun x hx=>by rw [zzN (fun e=>hbk (by rw [e];exact hx))])
 have d3:=d2.set (row':=qpS c {t with m:=mkM o,nx:=2} ov (qkt e) (.iface (mxT (mkM o)) (mxR k (mkM o))) (mxA k (mkM o))) hb
 have hM3:=keepM (qpS c {t with m:=mkM o,nx:=2} ov (qkt e) (.iface (mxT (mkM o)) (mxR k (mkM o))) (mxA k (mkM o)))
 have c3:Chg (qoZ own cb) H (H2.set b (.row (qpS c {t with m:=mkM o,nx:=2} ov (qkt e) (.iface (mxT (mkM o)) (mxR k (mkM o))) (mxA k (mkM o))) false)):=c2.trans (qp2 d3 hP.mem)
 have hob1:H1[ob]? = H[ob]? := c1.same ob hobl hfar
 have hops1:=hops.keep hob1
 obtain⟨off',hov',hld1,_,_,_⟩:=hops1.head
 rw [hov]at hov'
 injection hov' with e1 e2 e3
 injection e1 with e1
 injection e1 with e1 e4 e5
 subst e4
 have k4:qau H1 none ⟨b,0+4,none⟩=some (.slice (some (loose ob off)) (r.length+1) 4):=qiC hr1 (by rw [hov];rfl)
 have k03:qau H1 (some 3) ⟨b,0+0,none⟩=some (.agg #[I c.A,I c.S,I c.T]):=qiD hr1 (zzL rfl) rfl
 have hi0:0<r.length+1:=by omega
 have l5:qau H none ⟨b,0+5,none⟩=some (I t.nx):=qiC hr rfl
 have l6:qau H none ⟨b,0+6,none⟩=some (qkt e):=qiC hr rfl
 have hob3:(H2.set b (.row (qpS c {t with m:=mkM o,nx:=2} ov (qkt e) (.iface (mxT (mkM o)) (mxR k (mkM o))) (mxA k (mkM o))) false))[ob]? = H[ob]? := c3.same ob hobl hfar
 refine⟨_,k::k0::own,_, ?_,qpY H _,⟨List.mem_cons_of_mem _ (List.mem_cons_of_mem _ hP.mem),hP.note,by simp,fun _=>qpU hfar hobl (fun x hx => ?_),ov,qkt e,_,_,d3.row,(by show OpsV _ ov t.ops ob;rw [ho];exact hops.keep hob3),fun h=>by simp at h,fun _=>⟨k,[k,k0],rfl,rfl,fun x hx => ?_,hbk,hM3⟩⟩,d3.cells,⟨c3,fun x hx=>List.mem_cons_of_mem _ (List.mem_cons_of_mem _ hx),fun x hx => ?_⟩⟩
 ·refine qgw rfl Fn.zdB rfl rfl ?_
  obtain⟨od,oh,of_,on,p1,p2⟩:=o
  simp only [Op4.cs]at hld1
  generalize mkM ⟨od,oh,of_,on,p1,p2⟩=mk at hT
  have hA1:∃av':Value,mxA k mk=av'/\qaf av' = [av']:=by cases mk<;>exact⟨_,rfl,rfl⟩
  have hI1:(qaf (.iface (mxT mk) (mxR k mk))).all qad=true:=by cases mk<;>rfl
  cases mk
  all_goals
   simp only [mxT,mxR,mxA]at hT
   repeat' first|refine .A ?_|refine .B ?_|refine .C ?_|refine .D ?_|refine .F ?_|refine .G ?_|refine .H ?_|refine .J ?_|refine .t5 ?_|refine .f5 ?_|(show EG _ _ (⟨_,.load _ _,_,_⟩::_) _ _ _ _ _ _;first|refine .L l5 ?_|refine .L l6 ?_|refine .L k4 ?_|refine .L k03 ?_|refine .L hld1 ?_)|refine .P hDn ?_|refine .P hE ?_|refine .P hT ?_|refine .R hi0 ?_|refine .S (qiE d2.row hlo (zzL rfl) rfl) ?_|refine .S (qoB (qiB d2.row) hlo (zzL rfl) rfl) ?_|refine .Y ?_|fail
   rfl
 ·simp only [List.mem_cons]at hx
  rcases hx with rfl|rfl|hx
  ·exact .inr (by omega)
  ·exact .inr (by omega)
  ·exact .inl hx
 ·simp only [List.mem_cons,List.mem_nil_iff,or_false]at hx
  rcases hx with rfl|rfl<;>simp
 ·simp only [List.mem_cons]at hx
  rcases hx with rfl|rfl|hx
  ·exact .inr (by omega)
  ·exact .inr (by omega)
  ·exact .inl hx
set_option maxHeartbeats 3200000 in
def qp5 (hP:ThP H own ob cb c t b)(hC:IsC H cb ws bs)(hA:Apart own cb)(hm:c.may){o:Op4}{r:List Op4}(ho:t.ops=o::r)(h3:t.nx=3):ThD H own ob cb c t b ws bs:=by
 obtain⟨ov,ev,mv,av,hr,hops,_,_⟩:=hP.row
 have hb:=hA.at hP.mem
 have hlo:0<=b:=zzZ _
 have hne:t.ops≠[]:=by rw [ho];simp
 have hfar:=hP.far hne
 have hnt:=hP.note hne
 rw [ho]at hops
 obtain⟨off,hov,hld,hobl,hsl,htl⟩:=hops.head
 have hDn:=qp1 hr hov
 have hbl:=qiB hr
 have e0:thS c t ws bs=({t with ops:=r,nx:=0},qi6 ws (qjF c t.num) 0,bs,[evB t.num t.cd t.nn]):=by unfold thS;rw [ho];simp only;rw [if_neg (by omega),if_neg (by omega),if_neg (by omega)]
 unfold ThD
 rw [e0]
 have d:=Did.of hr hC
 obtain⟨H1,hE,hC1,ho1⟩:=qpK hC hm hnt
 have d1:=d.on hC1 ho1 (by simp) hb
 have hr1:=d1.row
 subst hov
 have k4:qau H1 none ⟨b,0+4,none⟩=some (.slice (some (loose ob off)) (r.length+1) 4):=qiC hr1 rfl
 have d2:=d1.set (row':=qpS c {t with ops:=r} (.slice (some (loose ob (off+1*4))) r.length 4) ev mv av) hb
 have s2:stN 0 H1 ⟨b,0+4,none⟩ (qaf (.slice (some (loose ob (off+1*4))) r.length 4))=some (H1.set b (.row (qpS c {t with ops:=r} (.slice (some (loose ob (off+1*4))) r.length 4) ev mv av) false)):=qiE hr1 hlo (zzL rfl) rfl
 generalize H1.set b (.row (qpS c {t with ops:=r} (.slice (some (loose ob (off+1*4))) r.length 4) ev mv av) false)=H2 at d2 s2
 have d3:=d2.set (row':=qpS c {t with ops:=r,nx:=0} (.slice (some (loose ob (off+1*4))) r.length 4) ev mv av) hb
 have s3:stN 0 H2 ⟨b,0+5,none⟩ (qaf (I 0))=some (H2.set b (.row (qpS c {t with ops:=r,nx:=0} (.slice (some (loose ob (off+1*4))) r.length 4) ev mv av) false)):=qiE d2.row hlo (zzL rfl) rfl
 generalize H2.set b (.row (qpS c {t with ops:=r,nx:=0} (.slice (some (loose ob (off+1*4))) r.length 4) ev mv av) false)=H3 at d3 s3
 have m3:qau H3 none ⟨b,0+3,none⟩=some (I t.num):=qiC d3.row rfl
 have m9:qau H3 (some 2) ⟨b,0+9,none⟩=some (.agg #[I t.cd,I t.nn]):=qiD d3.row (zzL rfl) rfl
 have c3:=qp2 d3 hP.mem
 have hob3:H3[ob]? = H[ob]? := c3.same ob hobl hfar
 have l5:qau H none ⟨b,0+5,none⟩=some (I t.nx):=qiC hr rfl
 refine⟨_,own,_, ?_,qpZ H H3 rfl c3.len,⟨hP.mem,fun _=>hnt,by simp,fun _=>hfar,_,ev,mv,av,qiA d3.row,(htl.keep hob3).keep (zzA (by have:=c3.len;omega)),fun h=>by simp at h,fun h=>by simp at h⟩,d3.cells.app _,.same (c3.app _)⟩
 refine qgw rfl Fn.zdB rfl rfl ?_
 repeat' first|refine .A ?_|refine .B ?_|refine .C ?_|refine .D ?_|refine .F ?_|refine .G ?_|refine .J ?_|refine .t5 ?_|refine .f5 ?_|(show EG _ _ (⟨_,.load _ _,_,_⟩::_) _ _ _ _ _ _;first|refine .L l5 ?_|refine .L k4 ?_|refine .L m3 ?_|refine .L m9 ?_|refine .L (qiC d.row rfl) ?_|refine .L (qiD d.row (zzL rfl) rfl) ?_)|refine .P hDn ?_|refine .P hE ?_|refine .slFrom rfl rfl rfl hsl ?_|refine .S s2 ?_|refine .S s3 ?_|refine .Y ?_|fail
 rfl
set_option maxHeartbeats 3200000 in
def qp6 (hP:ThP H own ob cb c t b)(hC:IsC H cb ws bs)(hA:Apart own cb)(hm:c.may){o:Op4}{r:List Op4}(ho:t.ops=o::r)(h2:t.nx=2):ThD H own ob cb c t b ws bs:=by
 obtain⟨ov,ev,mv,av,hr,hops,_,hwk⟩:=hP.row
 obtain⟨k,mo,rfl,rfl,hmo,hbm,hMx⟩:=hwk h2
 have hb:=hA.at hP.mem
 have hlo:0<=b:=zzZ _
 have hne:t.ops≠[]:=by rw [ho];simp
 have hfar:=hP.far hne
 rw [ho]at hops
 obtain⟨off,hov,hld,hobl,_,_⟩:=hops.head
 have hDn:=qp1 hr hov
 have hbl:=qiB hr
 have hAm:Apart mo cb:=fun x hx=>hA x (hmo x hx)
 obtain⟨mo',H1,hS,hM1,hC1,hg⟩:=qpL hMx hC hAm hm
 have e0:thS c t ws bs=thW t (mxS c t.m ws bs):=by unfold thS;rw [ho];simp only;rw [if_neg (by omega),if_neg (by omega),if_pos h2]
 unfold ThD
 rw [e0]
 have hbo:b∉qoZ mo cb:=by
  unfold qoZ
  simp only [List.mem_append,List.mem_cons,List.mem_nil_iff,or_false]
  rintro (h|h|h|h)
  ·exact hbm h
  ·exact hb.1 h
  ·exact hb.2.1 h
  ·exact hb.2.2 h
 have hr1:=hg.yz.get hr hbo
 have hbm1:b∉mo':=fun h=>by
  rcases hg.new b h with g|g
  ·exact hbm g
  ·omega
 have c1:Chg (qoZ own cb) H H1:=hg.yz.mono (qpT hmo)
 have grow:∀H',Chg (qoZ own cb) H H'->Grew H H' own (mo'++own) cb:=fun H' h=>⟨h,fun x hx=>List.mem_append_right _ hx,fun x hx=>by
  rcases List.mem_append.1 hx with g|g
  ·rcases hg.new x g with q|q
   ·exact .inl (hmo x q)
   ·exact .inr q
  ·exact .inl g⟩
 have d1:=Did.of hr1 hC1
 have l5:qau H none ⟨b,0+5,none⟩=some (I t.nx):=qiC hr rfl
 have hsm:=qpV (c:=c) (m:=t.m) (ws:=ws) (bs:=bs)
 have l7:qau H none ⟨b,0+7,none⟩=some (.iface (mxT t.m) (mxR k t.m)):=qiC hr rfl
 unfold thW
 generalize hR:mxS c t.m ws bs=R at hS hM1 hC1 d1 hsm|-
 obtain⟨m',w',b',oc⟩:=R
 simp only at hS hM1 hC1 d1 hsm|-
 cases oc with
 | none =>
   simp only [qom]at hS
   simp only
   have qac:qpS c {t with m:=m'} ov ev (.iface (mxT m') (mxR k m')) (mxA k m')=qpS c t ov ev (.iface (mxT t.m) (mxR k t.m)) (mxA k t.m):=by rw [hsm.1,hsm.2.1,hsm.2.2];rfl
   refine⟨.slice none 0 0,mo'++own,H1, ?_,qpY H _,⟨List.mem_append_right _ hP.mem,hP.note,hP.nx,fun _=>qpU hfar hobl (grow H1 c1).new,ov,ev,.iface (mxT m') (mxR k m'),mxA k m',by rw [qac];exact hr1,(by show OpsV _ ov t.ops ob;rw [ho];exact hops.keep (c1.same ob hobl hfar)),fun h=>absurd h (by show ¬t.nx=1;omega),fun _=>⟨k,mo',rfl,rfl,fun x hx=>List.mem_append_left _ hx,hbm1,hM1⟩⟩,hC1,grow H1 c1⟩
   refine qgw rfl Fn.zdB rfl rfl ?_
   clear qac hsm hM1 hwk hR hMx
   generalize t.m=tm at hS l7
   cases tm
   all_goals
    simp only [mxT,mxR,mxF]at hS l7
    repeat' first|refine .A ?_|refine .B ?_|refine .C ?_|refine .D ?_|refine .F ?_|refine .G ?_|refine .H ?_|refine .J ?_|refine .t5 ?_|refine .f5 ?_|refine .L l5 ?_|refine .L l7 ?_|refine .P hDn ?_|refine .W hS ?_|refine .Y ?_|fail
    rfl
 | some q =>
   obtain⟨q1,q2⟩:=q
   simp only [qom]at hS
   simp only
   have d2:=d1.set (row':=qpS c {t with m:=m',cd:=q1,nn:=q2} ov ev (.iface (mxT t.m) (mxR k t.m)) (mxA k t.m)) hb
   have s2:stN 0 H1 ⟨b,0+9,none⟩ (qaf (.agg #[I q1,I q2]))=some (H1.set b (.row (qpS c {t with m:=m',cd:=q1,nn:=q2} ov ev (.iface (mxT t.m) (mxR k t.m)) (mxA k t.m)) false)):=qiE hr1 hlo (zzL rfl) rfl
   generalize H1.set b (.row (qpS c {t with m:=m',cd:=q1,nn:=q2} ov ev (.iface (mxT t.m) (mxR k t.m)) (mxA k t.m)) false)=H2 at d2 s2
   have d3:=d2.set (row':=qpS c {t with m:=m',cd:=q1,nn:=q2,nx:=3} ov ev (.iface (mxT t.m) (mxR k t.m)) (mxA k t.m)) hb
   have c3:Chg (qoZ own cb) H (H2.set b (.row (qpS c {t with m:=m',cd:=q1,nn:=q2,nx:=3} ov ev (.iface (mxT t.m) (mxR k t.m)) (mxA k t.m)) false)):=c1.trans (qp2 d3 hP.mem)
   refine⟨.slice none 0 0,mo'++own,_, ?_,qpY H _,⟨List.mem_append_right _ hP.mem,hP.note,by simp,fun _=>qpU hfar hobl (grow _ c3).new,ov,ev,_,_,d3.row,(by show OpsV _ ov t.ops ob;rw [ho];exact hops.keep (c3.same ob hobl hfar)),fun h=>by simp at h,fun h=>by simp at h⟩,d3.cells,grow _ c3⟩
   refine qgw rfl Fn.zdB rfl rfl ?_
   have s3:stN 0 H2 ⟨b,0+5,none⟩ (qaf (I 3))=some (H2.set b (.row (qpS c {t with m:=m',cd:=q1,nn:=q2,nx:=3} ov ev (.iface (mxT t.m) (mxR k t.m)) (mxA k t.m)) false)):=qiE d2.row hlo (zzL rfl) rfl
   generalize H2.set b (.row (qpS c {t with m:=m',cd:=q1,nn:=q2,nx:=3} ov ev (.iface (mxT t.m) (mxR k t.m)) (mxA k t.m)) false)=H3 at s3
   clear hsm hM1 hwk hR hMx d2 d3 c3
   generalize t.m=tm at hS l7 s2
   cases tm
   all_goals
    simp only [mxT,mxR,mxF]at hS l7
    repeat' first|refine .A ?_|refine .B ?_|refine .C ?_|refine .D ?_|refine .F ?_|refine .G ?_|refine .H ?_|refine .J ?_|refine .t5 ?_|refine .f5 ?_|refine .L l5 ?_|refine .L l7 ?_|refine .P hDn ?_|refine .W hS ?_|refine .S s2 ?_|refine .S s3 ?_|refine .Y ?_|fail
    rfl
def qp7 (hP:ThP H own ob cb c t b)(hC:IsC H cb ws bs)(hA:Apart own cb)(hm:c.may):ThD H own ob cb c t b ws bs:=by
 cases ho:t.ops with
 | nil =>
   obtain⟨ov,ev,mv,av,hr,hops,_,_⟩:=hP.row
   rw [ho]at hops
   obtain⟨a,k,hov⟩:=hops.len
   have hDn:=qp0 hr hov
   have e0:thS c t ws bs=(t,ws,bs,[]):=by unfold thS;rw [ho]
   unfold ThD
   rw [e0]
   refine⟨.slice none 0 0,own,H, ?_,qpY H _,hP,hC,.same (Chg.refl _ _)⟩
   refine qgw rfl Fn.zdB rfl rfl ?_
   repeat' first|refine .A ?_|refine .B ?_|refine .C ?_|refine .J ?_|refine .P hDn ?_|refine .D ?_|refine .F ?_|refine .Y ?_|fail
   rfl
 | cons o r =>
   have hn:=hP.nx
   by_cases h0:t.nx=0
   ·exact qp3 hP hC hA hm ho h0
   by_cases h1:t.nx=1
   ·exact qp4 hP hC hA hm ho h1
   by_cases h2:t.nx=2
   ·exact qp6 hP hC hA hm ho h2
   ·exact qp5 hP hC hA hm ho (by omega)
end
def OpsV.at {H:qab}{v:Value}{l:List Op4}{ob i:Nat}{o:Op4}(h:OpsV H v l ob)(hi:l[i]? = some o) :
  ∃off,v = .slice (some (loose ob off)) l.length 4/\qau H (some 4) ⟨ob,off+i*4,none⟩=some (.agg o.cs.toArray)/\ob<H.length:=by
 have hil:=(zzS.1 hi).1
 rcases h with⟨h,_⟩|⟨off,cs,h1,h2,h3,h4⟩
 ·rw [h]at hil;simp at hil
 ·refine⟨off,h1,qiD h2 (by omega) ?_,qiB h2⟩
  have h5:=qgA (es:=ocs l) (n:=4) (qn0 l) (qn1 hi)
  rw [<-h4,List.drop_take,List.drop_drop,List.take_take,Nat.min_eq_left (by omega)]at h5
  exact h5
def qp8 (c:Cfg)(t:Th)(at_:Nat)(ov ev xv:Value):List Value := [I c.A,I c.S,I c.T,I t.num,ov,N at_,I (t.nx+1),ev,xv,I t.cd,I t.nn]
structure ThR (H:qab)(own:List Nat)(ob:Nat)(cb:CB)(c:Cfg)(t:Th)(b:Nat):Prop where
 mem:b∈own
 note:t.ops≠[]->0<=qjF c t.num
 nx:0<=t.nx/\t.nx<=3
 row:∃(L:List Op4) (at_:Nat) (ov ev xv:Value),H[b]? = some (.row (qp8 c t at_ ov ev xv) false)/\OpsV H ov L ob/\t.ops=L.drop at_/\at_<=L.length/\L.length<=1000/\(L≠[]->ob∉qoZ own cb)/\
  (t.nx=1->∃e,ev=qkt e/\e∈own/\b≠e/\H[e]? = some (.row (qpG c t.num 2 t.ep) false))/\
  (t.nx=2->∃x k mo d,xv=qkt x/\x∈own/\b≠x/\(∀y∈mo,y∈own)/\b∉mo/\MyR H mo c x k d t.m)
section
variable {H:qab}{b ob:Nat}{c:Cfg}{t:Th}{cb:CB}{ws bs:List Int}{own:List Nat}
def MxR.keep {H H':qab}{own:List Nat}{c:Cfg}{k:Nat} : ∀{m:Mx},MxR H own c k m->(∀x∈own,H'[x]? = H[x]?)->MxR H' own c k m
 | .al s,h,g=>by
   obtain⟨h1,h2,pv,gv,h3,h4,h5⟩:=h
   refine⟨h1,h2,pv,gv,(g _ h1).trans h3,fun h => ?_,fun h => ?_⟩
   ·obtain⟨q,q1,q2,q3,q4⟩:=h4 h
    exact⟨q,q1,(g _ q4).trans q2,q3,q4⟩
   ·obtain⟨q,q1,q2,q3,q4⟩:=h5 h
    exact⟨q,q1,(g _ q4).trans q2,q3,q4⟩
 | .fe s,h,g=>by
   obtain⟨h1,⟨gv,h2,h3⟩,h4,h5⟩:=h
   refine⟨h1,⟨gv,(g _ h1).trans h2,fun a1 a2 a3 => ?_⟩,h4,h5⟩
   obtain⟨q,q1,q2,q3,q4⟩:=h3 a1 a2 a3
   exact⟨q,q1,(g _ q4).trans q2,q3,q4⟩
 | .rd s,h,g=>by
   obtain⟨h1,kp,bb,h2,h3⟩:=h
   exact⟨h1,kp,bb,(g _ h1).trans h2,h3⟩
 | .wr s,h,g=>by
   obtain⟨h1,e,h2,h3⟩:=h
   exact⟨h1,e,(g _ h1).trans h2,h3⟩
 | .pn s,h,g=>⟨h.1,(g _ h.1).trans h.2.1,h.2.2⟩
 | .no,_,_=>trivial
def MyR.keep {H H':qab}{own:List Nat}{c:Cfg}{x k:Nat}{d:Int}{m:Mx}(h:MyR H own c x k d m)(g:∀y∈own,H'[y]? = H[y]?)(hx:H'[x]? = H[x]?):MyR H' own c x k d m :=
 ⟨hx.trans h.row,h.d,h.ok,h.my.keep g,h.no⟩
end
end Go.Proofs.YtlgnnpkdhbhdgaaGreat
