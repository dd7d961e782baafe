/- Machines that have not begun; a thread's coming in: by the program, and by the document. -/
import Derived.Test.YtlgnnpkdhbhdgaaGreatThreadP9
import Derived.Test.YtlgnnpkdhbhdgaaGreatThreadP7
import Derived.Test.YtlgnnpkdhbhdgaaGreatThreadP5
import Derived.Test.YtlgnnpkdhbhdgaaGreatThreadP1
set_option linter.all false
namespace Go.Proofs.YtlgnnpkdhbhdgaaGreat
open Go Go.Ir
def qpv {H:qab}{o:Nat}{s:Option Nat}{cs:List Value}{ro:Bool}{v:Value}(hv:cs[o]? = some v):qau (H ++ [.row cs ro]) none ⟨H.length,o,s⟩=some v:=qiC zzC hv
def qpw {lo:Nat}{H:qab}{o:Nat}{s:Option Nat}{cs vs w:List Value}(hlo:lo<=H.length)(ho:o+vs.length<=cs.length)(hw:splice cs o vs=w):stN lo (H ++ [.row cs false]) ⟨H.length,o,s⟩ vs=some (H ++ [.row w false]) :=
 (qiE zzC hlo ho hw).trans (by rw [List.set_append_right _ _ (zzR _),Nat.sub_self];rfl)
def rd0 (h off:Int):Rd:=⟨h,off,1,Ent.zero,0,0⟩
def wr0 (h off v:Int):Wr:=⟨h,off,v,1,0,0,0,false⟩
def pn0 (h:Int)(un:Bool):Pn:=⟨h,un,1,0,0⟩
def fe0 (h:Int):Fe:=⟨h,1,0,⟨0,0,0,0⟩⟩
def al0 (n:Int):Al:=⟨n,1,0,0,0,0,0,0,0,false,⟨1,0,0,0⟩,⟨0,0,0,0⟩⟩
section
variable {c:Cfg}
def qpx (H:qab)(hm:c.may):∀lo,qfU En lo Id.zcm [.agg #[I c.A,I c.S,I c.T]] H=some (.tuple #[lay c.T c.S,I 0],H):=fun lo=>qjt lo H hm
set_option maxHeartbeats 3200000 in
def qpy (H:qab)(hm:c.may){h:Int}(hh : -9223372036854775808<=h/\h<9223372036854775808)(off:Int) :
  qfU En 0 Id.zcH [.agg #[I c.A,I c.S,I c.T],I h,I off] H=some (qkt H.length,H ++ [.row (qoq c (rd0 h off)) false]):=by
 have hO:=qpx H hm
 have hf:=fun lo (row:List Value)=>qob lo (H ++ [.row row false]) hh c.S
 unfold ofV at hf
 have hlo:0<=H.length:=zzZ _
 refine qgw rfl Fn.zcH rfl rfl ?_
 by_cases hst:(ofR h c.S).2.2≠0
 ·have qac:qoq c (rd0 h off) = [I c.T,I c.S,I (ofR h c.S).1,I (ofR h c.S).2.1,.bool true,I off,I 1,I 0,I 0,I 0,I 0,.bool false,.bool false,I 0,I 0]:=by unfold qoq rd0;simp only [zzT hst];rfl
  rw [qac]
  repeat' first|refine .A ?_|refine .B ?_|refine .C ?_|refine .D ?_|refine .F ?_|refine .J ?_|refine .t6 ?_|refine .f6 ?_|refine .P (hO _) ?_|refine .P (hf _ _) ?_|refine .S (qpw hlo (zzL rfl) rfl) ?_|refine .Y ?_|fail
  rfl
 ·have qac:qoq c (rd0 h off) = [I c.T,I c.S,I (ofR h c.S).1,I (ofR h c.S).2.1,.bool false,I off,I 1,I 0,I 0,I 0,I 0,.bool false,.bool false,I 0,I 0]:=by unfold qoq rd0;simp only [zzF hst];rfl
  rw [qac]
  repeat' first|refine .A ?_|refine .B ?_|refine .D ?_|refine .F ?_|refine .J ?_|refine .C ?_|refine .f6 ?_|refine .P (hO _) ?_|refine .P (hf _ _) ?_|refine .S (qpw hlo (zzL rfl) rfl) ?_|refine .Y ?_|fail
  rfl
set_option maxHeartbeats 3200000 in
def qpz (H:qab)(hm:c.may){h:Int}(hh : -9223372036854775808<=h/\h<9223372036854775808)(off v:Int) :
  qfU En 0 Id.zdS [.agg #[I c.A,I c.S,I c.T],I h,I off,I v] H=some (qkt H.length,H ++ [.row (qoC c (wr0 h off v)) false]):=by
 have hO:=qpx H hm
 have hf:=fun lo (row:List Value)=>qob lo (H ++ [.row row false]) hh c.S
 unfold ofV at hf
 have hlo:0<=H.length:=zzZ _
 by_cases hst:(ofR h c.S).2.2≠0
 ·have qac:qoC c (wr0 h off v) = [I c.T,I c.S,I (ofR h c.S).1,I (ofR h c.S).2.1,.bool true,I off,I v,I 1,I 0,I 0,I 0,.bool false]:=by unfold qoC wr0;simp only [zzT hst]
  rw [qac]
  clear qac
  generalize ofR h c.S=r at hf hst|-
  obtain⟨sl,g,fc⟩:=r
  simp only at hf hst|-
  refine qgw rfl Fn.zdS rfl rfl ?_
  repeat' first|refine .A ?_|refine .B ?_|refine .C ?_|refine .D ?_|refine .F ?_|refine .J ?_|refine .t6 ?_|refine .f6 ?_|refine .P (hO _) ?_|refine .P (hf _ _) ?_|refine .S (qpw hlo (zzL rfl) rfl) ?_|refine .Y ?_|fail
  rfl
 ·have qac:qoC c (wr0 h off v) = [I c.T,I c.S,I (ofR h c.S).1,I (ofR h c.S).2.1,.bool false,I off,I v,I 1,I 0,I 0,I 0,.bool false]:=by unfold qoC wr0;simp only [zzF hst]
  rw [qac]
  clear qac
  generalize ofR h c.S=r at hf hst|-
  obtain⟨sl,g,fc⟩:=r
  simp only at hf hst|-
  refine qgw rfl Fn.zdS rfl rfl ?_
  repeat' first|refine .A ?_|refine .B ?_|refine .D ?_|refine .F ?_|refine .J ?_|refine .C ?_|refine .f6 ?_|refine .P (hO _) ?_|refine .P (hf _ _) ?_|refine .S (qpw hlo (zzL rfl) rfl) ?_|refine .Y ?_|fail
  rfl
set_option maxHeartbeats 3200000 in
def qpA (H:qab)(hm:c.may){h:Int}(hh : -9223372036854775808<=h/\h<9223372036854775808)(un:Bool) :
  qfU En 0 Id.zcu [.agg #[I c.A,I c.S,I c.T],I h,.bool (!un),qoO un] H=some (qkt H.length,H ++ [.row (qoQ c (pn0 h un)) false]):=by
 have hO:=qpx H hm
 have hf:=fun lo=>qob lo H hh c.S
 unfold ofV at hf
 by_cases hst:(ofR h c.S).2.2≠0
 ·have qac:qoQ c (pn0 h un) = [I c.T,I c.S,I (ofR h c.S).1,I (ofR h c.S).2.1,.bool true,qoO un,.bool (!un),I 1,I 0,I 0]:=by unfold qoQ pn0;simp only [zzT hst]
  rw [qac]
  clear qac
  generalize ofR h c.S=r at hf hst|-
  obtain⟨sl,g,fc⟩:=r
  simp only at hf hst|-
  generalize hun:(!un)=nu
  generalize htv:qoO un=tv
  have hflat:∃f0:Go.Fn,tv = .func f0 #[] #[]:=⟨_,htv.symm.trans rfl⟩
  obtain⟨f0,rfl⟩:=hflat
  clear htv hun
  refine qgw rfl Fn.zcu rfl rfl ?_
  repeat' first|refine .A ?_|refine .B ?_|refine .D ?_|refine .F ?_|refine .J ?_|refine .C ?_|refine .t6 ?_|refine .f6 ?_|refine .P (hO _) ?_|refine .P (hf _) ?_|refine .Y ?_|fail
  rfl
 ·have qac:qoQ c (pn0 h un) = [I c.T,I c.S,I (ofR h c.S).1,I (ofR h c.S).2.1,.bool false,qoO un,.bool (!un),I 1,I 0,I 0]:=by unfold qoQ pn0;simp only [zzF hst]
  rw [qac]
  clear qac
  generalize ofR h c.S=r at hf hst|-
  obtain⟨sl,g,fc⟩:=r
  simp only at hf hst|-
  generalize hun:(!un)=nu
  generalize htv:qoO un=tv
  have hflat:∃f0:Go.Fn,tv = .func f0 #[] #[]:=⟨_,htv.symm.trans rfl⟩
  obtain⟨f0,rfl⟩:=hflat
  clear htv hun
  refine qgw rfl Fn.zcu rfl rfl ?_
  repeat' first|refine .A ?_|refine .B ?_|refine .D ?_|refine .F ?_|refine .J ?_|refine .C ?_|refine .f6 ?_|refine .P (hO _) ?_|refine .P (hf _) ?_|refine .Y ?_|fail
  rfl
def qpB (H:qab)(hm:c.may){h:Int}(hh : -9223372036854775808<=h/\h<9223372036854775808) :
  qfU En 0 Id.zcs [.agg #[I c.A,I c.S,I c.T],I h] H=some (qkt H.length,H ++ [.row (qoQ c (pn0 h false)) false]):=by
 have hP:=qpA H hm hh false
 refine qgw rfl Fn.zcs rfl rfl ?_
 repeat' first|refine .A ?_|refine .B ?_|refine .J ?_|refine .P hP ?_|refine .F ?_|refine .Y ?_|fail
 rfl
def qpC (H:qab)(hm:c.may){h:Int}(hh : -9223372036854775808<=h/\h<9223372036854775808) :
  qfU En 0 Id.zct [.agg #[I c.A,I c.S,I c.T],I h] H=some (qkt H.length,H ++ [.row (qoQ c (pn0 h true)) false]):=by
 have hP:=qpA H hm hh true
 refine qgw rfl Fn.zct rfl rfl ?_
 repeat' first|refine .A ?_|refine .B ?_|refine .J ?_|refine .P hP ?_|refine .F ?_|refine .Y ?_|fail
 rfl
set_option maxHeartbeats 3200000 in
def qpD (H:qab)(hm:c.may){h:Int}(hh : -9223372036854775808<=h/\h<9223372036854775808) :
  qfU En 0 Id.zbH [.agg #[I c.A,I c.S,I c.T],I h] H=some (qkt H.length,H ++ [.row (qo3 c (fe0 h) 0 false (.pointer none)) false]):=by
 have hO:=qpx H hm
 have hf:=fun lo=>qob lo H hh c.S
 unfold ofV at hf
 refine qgw rfl Fn.zbH rfl rfl ?_
 by_cases hst:(ofR h c.S).2.2≠0
 ·have qac:qo3 c (fe0 h) 0 false (.pointer none) = [I c.T,I c.S,I (ofR h c.S).1,I (ofR h c.S).2.1,.bool true,I 1,I 0,I 0,.bool false,.pointer none]:=by unfold qo3 fe0;simp only [zzT hst]
  rw [qac]
  repeat' first|refine .A ?_|refine .B ?_|refine .D ?_|refine .F ?_|refine .J ?_|refine .C ?_|refine .t6 ?_|refine .f6 ?_|refine .P (hO _) ?_|refine .P (hf _) ?_|refine .Y ?_|fail
  rfl
 ·have qac:qo3 c (fe0 h) 0 false (.pointer none) = [I c.T,I c.S,I (ofR h c.S).1,I (ofR h c.S).2.1,.bool false,I 1,I 0,I 0,.bool false,.pointer none]:=by unfold qo3 fe0;simp only [zzF hst]
  rw [qac]
  repeat' first|refine .A ?_|refine .B ?_|refine .D ?_|refine .F ?_|refine .J ?_|refine .C ?_|refine .f6 ?_|refine .P (hO _) ?_|refine .P (hf _) ?_|refine .Y ?_|fail
  rfl
set_option maxHeartbeats 3200000 in
def qpE (H:qab)(hm:c.may)(n:Int) :
  qfU En 0 Id.zak [.agg #[I c.A,I c.S,I c.T],I n] H=some (qkt (H.length+1),H ++ [.row (qnL c ⟨1,0,0,0⟩) false] ++ [.row (qpj c (al0 n) H.length (.pointer none)) false]):=by
 have hO:=qpx H hm
 have hP:=fun lo=>qo7 lo H c
 have hl:(H ++ [Blk.row (qnL c ⟨1,0,0,0⟩) false]).length=H.length+1:=by simp
 rw [<-hl]
 have hR:=fun lo (row:List Value)=>qks lo (H ++ [.row (qnL c ⟨1,0,0,0⟩) false] ++ [.row row false]) n
 have hq:∃q:Int,qkr n = .tuple #[I (qpc n),I q]:=by
  unfold qkr qpc
  split
  ·exact⟨0,rfl⟩
  ·exact⟨9,rfl⟩
 obtain⟨q,hq⟩:=hq
 rw [hq]at hR
 generalize hg:H ++ [Blk.row (qnL c ⟨1,0,0,0⟩) false]=H1 at hP hR|-
 have hlo:0<=H1.length:=zzZ _
 refine qgw rfl Fn.zak rfl rfl ?_
 repeat' first|refine .A ?_|refine .B ?_|refine .D ?_|refine .F ?_|refine .J ?_|refine .C ?_|refine .f6 ?_|refine .P (hO _) ?_|refine .P (hP _) ?_|refine .P (hR _ _) ?_|refine .S (qpw hlo (zzL rfl) rfl) ?_|refine .Y ?_|fail
 rfl
def qpF (c:Cfg)(note nx ep:Int):List Value := [I c.T,I c.S,I note,I nx,I ep]
def qpG (c:Cfg)(num nx ep:Int):List Value := [I c.A,I c.S,I c.T,I num,I nx,I ep]
def qpH (H:qab)(hm:c.may){num:Int}(hn:0<=qjF c num):qfU En 0 Id.zbt [.agg #[I c.A,I c.S,I c.T],I num] H=some (qkt H.length,H ++ [.row (qpF c (qjF c num) 1 0) false]):=by
 have hO:=qpx H hm
 have hN:=fun lo=>qjG lo H hm num
 generalize qjF c num=nt at hn hN|-
 refine qgw rfl Fn.zbt rfl rfl ?_
 repeat' first|refine .A ?_|refine .B ?_|refine .D ?_|refine .F ?_|refine .J ?_|refine .f1 ?_|refine .L (qpv rfl) ?_|refine .P (hO _) ?_|refine .P (hN _) ?_|refine .Y ?_|fail
 rfl
section
variable {H:qab}{b:Nat}{cb:CB}{ws bs:List Int}{num ep:Int}
def qpI (d:Did H H b (qpF c (qjF c num) 1 ep) cb ws bs)(hm:c.may)(hb:b≠cb.P/\b≠cb.W/\b≠cb.Y) :
  ∃H',qfU En 0 Id.zbr [qkt b,ifC cb] H=some (.bool false,H')/\Did H H' b (qpF c (qjF c num) 2 (qi5 ws 3)) cb ws bs:=by
 have hlo:0<=b:=zzZ _
 have hE:=fun lo=>qjE lo H hm
 obtain⟨H1,hL,hC1,ho1⟩:=qjf (lo:=0) d.cells (zzZ _) 3
 have d1:=d.on hC1 ho1 (by simp) hb
 refine⟨_, ?_,d1.set hb⟩
 refine qgw rfl Fn.zbr rfl rfl ?_
 repeat' first|refine .A ?_|refine .B ?_|refine .C ?_|refine .D ?_|refine .F ?_|refine .J ?_|refine .t5 ?_|refine .f5 ?_|refine .L (qiC d.row rfl) ?_|refine .L (qiD d.row (zzL rfl) rfl) ?_|refine .P (hE _) ?_|refine .W hL ?_|refine .S (qiE d1.row hlo (zzL rfl) rfl) ?_|refine .S (qoB (qiB d1.row) hlo (zzL rfl) rfl) ?_|refine .Y ?_|fail
 rfl
def qpJ (d:Did H H b (qpF c (qjF c num) 2 ep) cb ws bs)(hb:b≠cb.P/\b≠cb.W/\b≠cb.Y) :
  ∃H',qfU En 0 Id.zbr [qkt b,ifC cb] H=some (.bool true,H')/\Did H H' b (qpF c (qjF c num) 0 ep) cb (qi6 ws (qjF c num) (w64 (ep+1))) bs:=by
 have hlo:0<=b:=zzZ _
 obtain⟨H1,hL,hC1,ho1⟩:=qjg (lo:=0) d.cells (zzZ _) (zzZ _) (qjF c num) (w64 (ep+1))
 have d1:=d.on hC1 ho1 (by simp) hb
 refine⟨_, ?_,d1.set hb⟩
 refine qgw rfl Fn.zbr rfl rfl ?_
 repeat' first|refine .A ?_|refine .B ?_|refine .D ?_|refine .F ?_|refine .J ?_|refine .f5 ?_|refine .L (qiC d.row rfl) ?_|refine .W hL ?_|refine .S (qiE d1.row hlo (zzL rfl) rfl) ?_|refine .Y ?_|fail
 rfl
def qpK (hC:IsC H cb ws bs)(hm:c.may)(hn:0<=qjF c num) :
  ∃H',qfU En 0 Id.zbs [ifC cb,.agg #[I c.A,I c.S,I c.T],I num] H=some (qag,H')/\IsC H' cb (qi6 ws (qjF c num) 0) bs/\Only [cb.P,cb.W] H H':=by
 have hO:=qpx H hm
 have hN:=fun lo=>qjG lo H hm num
 obtain⟨H1,hL,hC1,ho1⟩:=qjg (lo:=0) hC (zzZ _) (zzZ _) (qjF c num) 0
 refine⟨H1, ?_,hC1,ho1⟩
 generalize qjF c num=nt at hn hN hL
 refine qgw rfl Fn.zbs rfl rfl ?_
 repeat' first|refine .A ?_|refine .B ?_|refine .C ?_|refine .nil rfl ?_|refine .t4 ?_|refine .P (hO _) ?_|refine .P (hN _) ?_|refine .W hL ?_|refine .F ?_|refine .Y ?_|fail
 rfl
end
end
inductive Mx where
 | al (s:Al)
 | fe (s:Fe)
 | rd (s:Rd)
 | wr (s:Wr)
 | pn (s:Pn)
 | no
def mxS (c:Cfg)(m:Mx)(ws bs:List Int):Mx×List Int×List Int×Option (Int×Int) :=
 match m with
 | .al s=>(.al (alS c s ws bs).1,(alS c s ws bs).2.1,(alS c s ws bs).2.2.1,(alS c s ws bs).2.2.2)
 | .fe s=>(.fe (feS c s ws).1,(feS c s ws).2.1,bs,(feS c s ws).2.2)
 | .rd s=>(.rd (rdS c s ws bs).1,ws,bs,(rdS c s ws bs).2)
 | .wr s=>(.wr (wrS c s ws bs).1,(wrS c s ws bs).2.1,(wrS c s ws bs).2.2.1,(wrS c s ws bs).2.2.2)
 | .pn s=>(.pn (pnS c s ws).1,(pnS c s ws).2.1,bs,(pnS c s ws).2.2)
 | .no=>(.no,ws,bs,some (1,0))
def mkM (o:Op4):Mx :=
 if o.d=0 then .al (al0 o.n)else if o.d=1 then .fe (fe0 o.h)else if o.d=2 then .rd (rd0 o.h o.f)else if o.d=3 then .wr (wr0 o.h o.f o.n)
 else if o.d=4 then .pn (pn0 o.h false)else if o.d=5 then .pn (pn0 o.h true)else .no
def inR (n:Int):Prop := -9223372036854775808<=n/\n<9223372036854775808
def Mx.ok:Mx->Prop
 | .al s=>inR s.n
 | .fe s=>inR s.h
 | .rd s=>inR s.h
 | .wr s=>inR s.h
 | .pn s=>inR s.h
 | .no=>True
def mxT:Mx->Nat
 | .al _=>alT
 | .fe _=>feT
 | .rd _=>rdT
 | .wr _=>wrT
 | .pn _=>pnT
 | .no=>noT
def mxF:Mx->Nat
 | .al _=>Id.zab
 | .fe _=>Id.zbD
 | .rd _=>Id.zcE
 | .wr _=>Id.zdL
 | .pn _=>Id.zcp
 | .no=>Id.zdC
def mxR (b:Nat):Mx->Value
 | .no => .agg #[]
 | _=>qkt b
def mxA (b:Nat):Mx->Value
 | .al _=>qkt b
 | _ => .pointer none
def MxP (H:qab)(own:List Nat)(c:Cfg)(b:Nat):Mx->Prop
 | .al s=>AlP H own c s b
 | .fe s=>FeP H own c s b
 | .rd s=>b∈own/\H[b]? = some (.row (qoq c s) false)
 | .wr s=>b∈own/\H[b]? = some (.row (qoC c s) false)
 | .pn s=>b∈own/\H[b]? = some (.row (qoQ c s) false)
 | .no=>True
section
variable {H:qab}{own:List Nat}{c:Cfg}{b:Nat}{m:Mx}{cb:CB}{ws bs:List Int}
def qpL (hP:MxP H own c b m)(hC:IsC H cb ws bs)(hA:Apart own cb)(hm:c.may) :
  ∃own' H',qfU En 0 (mxF m) [mxR b m,ifC cb] H=some (qom (mxS c m ws bs).2.2.2,H')/\MxP H' own' c b (mxS c m ws bs).1/\IsC H' cb (mxS c m ws bs).2.1 (mxS c m ws bs).2.2.1/\Grew H H' own own' cb:=by
 cases m with
 | al s=>exact qpt hP hC hA hm
 | fe s =>
   obtain⟨own',H',h1,h2,h3,h4,h5,h6⟩:=qo9 (lo:=0) hP hC hA hm (fun _ _=>zzZ _) ⟨zzZ _,zzZ _⟩
   exact⟨own',H',h1,h2,h3,h4,h5,h6⟩
 | rd s =>
   obtain⟨H',h1,d⟩:=qox (lo:=0) hP.2 hC (hA.at hP.1) hm (zzZ _) (zzZ _)
   exact⟨own,H',h1,⟨hP.1,d.row⟩,d.cells,.same (d.yz.mono (qo0 hP.1))⟩
 | wr s =>
   obtain⟨H',h1,d⟩:=qoL (lo:=0) hP.2 hC (hA.at hP.1) hm (zzZ _) ⟨zzZ _,zzZ _,zzZ _⟩
   exact⟨own,H',h1,⟨hP.1,d.row⟩,d.cells,.same (d.yz.mono (qo0 hP.1))⟩
 | pn s =>
   obtain⟨H',h1,d⟩:=qoW (lo:=0) hP.2 hC (hA.at hP.1) hm (zzZ _) ⟨zzZ _,zzZ _⟩
   exact⟨own,H',h1,⟨hP.1,d.row⟩,d.cells,.same (d.yz.mono (qo0 hP.1))⟩
 | no =>
   refine⟨own,H, ?_,trivial,hC,.same (Chg.refl _ _)⟩
   refine qgw rfl Fn.zdC rfl rfl ?_
   repeat' first|refine .A ?_|refine .B ?_|refine .J ?_|refine .F ?_|refine .Y ?_|fail
   rfl
def qpM (H:qab)(hm:c.may)(o:Op4) :
  ∃k k0 H',qfU En 0 Id.zdD [.agg #[I c.A,I c.S,I c.T],.agg #[I o.d,I o.h,I o.f,I o.n]] H=some (.tuple #[.iface (mxT (mkM o)) (mxR k (mkM o)),mxA k (mkM o)],H')/\Ext H H'/\H.length<=k/\H.length<=k0/\MxP H' [k,k0] c k (mkM o):=by
 have hx1:∀r,Ext H (H ++ [Blk.row r false]):=fun r=>(Ext.refl H).app _
 unfold mkM
 by_cases h0:o.d=0
 ·rw [if_pos h0]
  have hN:=qpE H hm o.n
  have hl:(H ++ [Blk.row (qnL c ⟨1,0,0,0⟩) false]).length=H.length+1:=by simp
  refine⟨H.length+1,H.length,_, ?_,(hx1 _).app _,by omega,zzR _,⟨by simp,by simp [al0],H.length,.pointer none,by rw [<-hl];exact zzC,by
   rw [zzA (by simp)];exact zzC,by omega,by simp,fun h=>by simp [al0]at h⟩⟩
  refine qgw rfl Fn.zdD rfl rfl ?_
  repeat' first|refine .A ?_|refine .B ?_|refine .C ?_|refine .G ?_|refine .J ?_|refine .t5 ?_|refine .P hN ?_|refine .F ?_|refine .Y ?_|fail
  rfl
 rw [if_neg h0]
 by_cases h1:o.d=1
 ·rw [if_pos h1]
  have hN:=qpD H hm o.hr
  refine⟨H.length,H.length,_, ?_,hx1 _,zzR _,zzR _,⟨by simp,0,false,.pointer none,zzC,fun h=>by simp [fe0]at h,fun _ h=>by simp [fe0]at h⟩⟩
  refine qgw rfl Fn.zdD rfl rfl ?_
  repeat' first|refine .A ?_|refine .B ?_|refine .C ?_|refine .D ?_|refine .G ?_|refine .J ?_|refine .t5 ?_|refine .f5 ?_|refine .P hN ?_|refine .F ?_|refine .Y ?_|fail
  rfl
 rw [if_neg h1]
 by_cases h2:o.d=2
 ·rw [if_pos h2]
  have hN:=qpy H hm o.hr o.f
  refine⟨H.length,H.length,_, ?_,hx1 _,zzR _,zzR _,⟨by simp,zzC⟩⟩
  refine qgw rfl Fn.zdD rfl rfl ?_
  repeat' first|refine .A ?_|refine .B ?_|refine .C ?_|refine .D ?_|refine .G ?_|refine .J ?_|refine .t5 ?_|refine .f5 ?_|refine .P hN ?_|refine .F ?_|refine .Y ?_|fail
  rfl
 rw [if_neg h2]
 by_cases h3:o.d=3
 ·rw [if_pos h3]
  have hN:=qpz H hm o.hr o.f o.n
  refine⟨H.length,H.length,_, ?_,hx1 _,zzR _,zzR _,⟨by simp,zzC⟩⟩
  refine qgw rfl Fn.zdD rfl rfl ?_
  repeat' first|refine .A ?_|refine .B ?_|refine .C ?_|refine .D ?_|refine .G ?_|refine .J ?_|refine .t5 ?_|refine .f5 ?_|refine .P hN ?_|refine .F ?_|refine .Y ?_|fail
  rfl
 rw [if_neg h3]
 by_cases h4:o.d=4
 ·rw [if_pos h4]
  have hN:=qpB H hm o.hr
  refine⟨H.length,H.length,_, ?_,hx1 _,zzR _,zzR _,⟨by simp,zzC⟩⟩
  refine qgw rfl Fn.zdD rfl rfl ?_
  repeat' first|refine .A ?_|refine .B ?_|refine .C ?_|refine .D ?_|refine .G ?_|refine .J ?_|refine .t5 ?_|refine .f5 ?_|refine .P hN ?_|refine .F ?_|refine .Y ?_|fail
  rfl
 rw [if_neg h4]
 by_cases h5:o.d=5
 ·rw [if_pos h5]
  have hN:=qpC H hm o.hr
  refine⟨H.length,H.length,_, ?_,hx1 _,zzR _,zzR _,⟨by simp,zzC⟩⟩
  refine qgw rfl Fn.zdD rfl rfl ?_
  repeat' first|refine .A ?_|refine .B ?_|refine .C ?_|refine .D ?_|refine .G ?_|refine .J ?_|refine .t5 ?_|refine .f5 ?_|refine .P hN ?_|refine .F ?_|refine .Y ?_|fail
  rfl
 rw [if_neg h5]
 refine⟨H.length,H.length,H, ?_,.refl _,zzR _,zzR _,trivial⟩
 refine qgw rfl Fn.zdD rfl rfl ?_
 repeat' first|refine .A ?_|refine .B ?_|refine .D ?_|refine .F ?_|refine .G ?_|refine .H ?_|refine .J ?_|refine .C ?_|refine .f5 ?_|refine .Y ?_|fail
 rfl
def qpN (d:Int)(b:Nat):Mx->List Value
 | .al _ => [I d,qkt b,.pointer none,.pointer none,.pointer none,.pointer none]
 | .fe _ => [I d,.pointer none,qkt b,.pointer none,.pointer none,.pointer none]
 | .rd _ => [I d,.pointer none,.pointer none,qkt b,.pointer none,.pointer none]
 | .wr _ => [I d,.pointer none,.pointer none,.pointer none,qkt b,.pointer none]
 | .pn _ => [I d,.pointer none,.pointer none,.pointer none,.pointer none,qkt b]
 | .no => [I d,.pointer none,.pointer none,.pointer none,.pointer none,.pointer none]
def dOk (d:Int):Mx->Prop
 | .al _=>d=0
 | .fe _=>d=1
 | .rd _=>d=2
 | .wr _=>d=3
 | .pn _=>d=4\/d=5
 | .no=>d<0\/5<d
def MxR (H:qab)(own:List Nat)(c:Cfg)(b:Nat):Mx->Prop
 | .al s=>AlR H own c s b
 | .fe s=>FeR H own c s b
 | .rd s=>b∈own/\∃kp bb,H[b]? = some (.row (qoy c s kp bb) false)/\RdI c s kp bb
 | .wr s=>b∈own/\∃e,H[b]? = some (.row (qoM c s e) false)/\WrI c s e
 | .pn s=>b∈own/\H[b]? = some (.row (qoX c s) false)/\PnI c s
 | .no=>True
structure MyR (H:qab)(own:List Nat)(c:Cfg)(x b:Nat)(d:Int)(m:Mx):Prop where
 row:H[x]? = some (.row (qpN d b m) false)
 d:dOk d m
 ok:m.ok
 my:MxR H own c b m
 no:x∉own
def Chg.out {S:List Nat}{H H':qab}(h:Chg S H H'){x:Nat}{r:Blk}(hr:H[x]? = some r)(hx:x∉S):H'[x]? = some r:=h.get hr hx
def qpO (s:Al)(r:Sk×List Int×Int×Int×Bool):(qpf s r).1.n=s.n:=by
 unfold qpf
 split
 ·split<;>rfl
 ·rfl
def qpP (s:Al)(r:Sk×List Int×Int×Bool):(qpg s r).1.n=s.n:=by unfold qpg;split<;>rfl
def qpQ (s:Al)(o:Option Ent):(qph s o).n=s.n:=by
 unfold qph
 split
 ·rfl
 ·split<;>rfl
def qpR (h:m.ok):(mxS c m ws bs).1.ok:=by
 cases m with
 | al s =>
   show inR (alS c s ws bs).1.n
   have:(alS c s ws bs).1.n=s.n:=by
    by_cases h0:s.nx=0
    ·simp only [alS,if_pos h0]
    by_cases h1:s.nx=1
    ·simp only [alS,if_neg h0,if_pos h1];split<;>rfl
    by_cases h2:s.nx=2
    ·simp only [alS,if_neg h0,if_neg h1,if_pos h2];split<;>rfl
    by_cases h3:s.nx=3
    ·simp only [alS,if_neg h0,if_neg h1,if_neg h2,if_pos h3];exact qpO _ _
    by_cases h4:s.nx=4
    ·simp only [alS,if_neg h0,if_neg h1,if_neg h2,if_neg h3,if_pos h4];split<;>rfl
    by_cases h5:s.nx=5
    ·simp only [alS,if_neg h0,if_neg h1,if_neg h2,if_neg h3,if_neg h4,if_pos h5];split<;>rfl
    by_cases h6:s.nx=6
    ·simp only [alS,if_neg h0,if_neg h1,if_neg h2,if_neg h3,if_neg h4,if_neg h5,if_pos h6];exact qpP _ _
    by_cases h7:s.nx=7
    ·simp only [alS,if_neg h0,if_neg h1,if_neg h2,if_neg h3,if_neg h4,if_neg h5,if_neg h6,if_pos h7];split<;>rfl
    by_cases h8:s.nx=8
    ·simp only [alS,if_neg h0,if_neg h1,if_neg h2,if_neg h3,if_neg h4,if_neg h5,if_neg h6,if_neg h7,if_pos h8]
    by_cases h9:s.nx=9
    ·simp only [alS,if_neg h0,if_neg h1,if_neg h2,if_neg h3,if_neg h4,if_neg h5,if_neg h6,if_neg h7,if_neg h8,if_pos h9];exact qpQ _ _
    by_cases h10:s.nx=10
    ·simp only [alS,if_neg h0,if_neg h1,if_neg h2,if_neg h3,if_neg h4,if_neg h5,if_neg h6,if_neg h7,if_neg h8,if_neg h9,if_pos h10]
    by_cases h11:s.nx=11
    ·simp only [alS,if_neg h0,if_neg h1,if_neg h2,if_neg h3,if_neg h4,if_neg h5,if_neg h6,if_neg h7,if_neg h8,if_neg h9,if_neg h10,if_pos h11]
    ·simp only [alS,if_neg h0,if_neg h1,if_neg h2,if_neg h3,if_neg h4,if_neg h5,if_neg h6,if_neg h7,if_neg h8,if_neg h9,if_neg h10,if_neg h11];split<;>rfl
   rw [this];exact h
 | fe s =>
   show inR (feS c s ws).1.h
   have:(feS c s ws).1.h=s.h:=by
    unfold feS
    repeat' split
    all_goals first|rfl|exact(qpb _ _).1|(unfold qo2;split<;>rfl)
   rw [this];exact h
 | rd s =>
   show inR (rdS c s ws bs).1.h
   have:(rdS c s ws bs).1.h=s.h:=by
    unfold rdS
    repeat' split
    all_goals first|rfl|exact(qoz _ _).2|exact(qoA _ _).2
   rw [this];exact h
 | wr s =>
   show inR (wrS c s ws bs).1.h
   have:(wrS c s ws bs).1.h=s.h:=by
    unfold wrS
    repeat' split
    all_goals first|rfl|exact(qoN _ _).2
   rw [this];exact h
 | pn s =>
   show inR (pnS c s ws).1.h
   have:(pnS c s ws).1.h=s.h:=by
    unfold pnS
    repeat' split
    all_goals first|rfl|exact qoY _ _
   rw [this];exact h
 | no=>trivial
end
end Go.Proofs.YtlgnnpkdhbhdgaaGreat
