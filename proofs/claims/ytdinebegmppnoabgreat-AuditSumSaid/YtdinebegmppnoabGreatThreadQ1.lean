/- Machines that have not begun; a thread's coming in: by the program, and by the document. -/
import Derived.Test.YtdinebegmppnoabGreatThreadP9
import Derived.Test.YtdinebegmppnoabGreatThreadP7
import Derived.Test.YtdinebegmppnoabGreatThreadP5
import Derived.Test.YtdinebegmppnoabGreatThreadP1
set_option linter.unusedVariables false
set_option linter.unusedSimpArgs false

namespace Go.Proofs.YtdinebegmppnoabGreat
open Go Go.Ir

theorem qpp {H:qab}{o:Nat}{s:Option Nat}{cs:List Value}{ro:Bool}{v:Value}(hv:cs[o]? = some v):qav (H ++ [.row cs ro]) none ⟨H.length,o,s⟩=some v:=qiD List.getElem?_concat_length hv
theorem qpq {lo:Nat}{H:qab}{o:Nat}{s:Option Nat}{cs vs w:List Value}(hlo:lo≤H.length)(ho:o+vs.length≤cs.length)(hw:splice cs o vs=w):stN lo (H ++ [.row cs false]) ⟨H.length,o,s⟩ vs=some (H ++ [.row w false]) :=
 (qiF List.getElem?_concat_length hlo ho hw).trans (by rw [List.set_append_right _ _ (Nat.le_refl _),Nat.sub_self];rfl)

def rd0 (h off:Int):Rd:=⟨h,off,1,Ent.zero,0,0⟩
def wr0 (h off v:Int):Wr:=⟨h,off,v,1,0,0,0,false⟩
def pn0 (h:Int)(un:Bool):Pn:=⟨h,un,1,0,0⟩
def fe0 (h:Int):Fe:=⟨h,1,0,⟨0,0,0,0⟩⟩
def al0 (n:Int):Al:=⟨n,1,0,0,0,0,0,0,0,false,⟨1,0,0,0⟩,⟨0,0,0,0⟩⟩

section
variable {c:Cfg}
theorem qpr (H:qab)(hm:c.may):∀lo,qfV En lo Id.zcm [.agg #[I c.A,I c.S,I c.T]] H=some (.tuple #[lay c.T c.S,I 0],H):=fun lo=>qju lo H hm

set_option maxHeartbeats 3200000 in
theorem qps (H:qab)(hm:c.may){h:Int}(hh : -9223372036854775808≤h∧h<9223372036854775808)(off:Int) :
  qfV En 0 Id.zcH [.agg #[I c.A,I c.S,I c.T],I h,I off] H=some (qku H.length,H ++ [.row (qop c (rd0 h off)) false]):=by
 have hO:=qpr H hm
 have hf:=fun lo (row:List Value)=>qoa lo (H ++ [.row row false]) hh c.S
 unfold ofV at hf
 have hlo:0≤H.length:=Nat.zero_le _
 refine qgx rfl Fn.zcH rfl rfl ?_
 by_cases hst:(ofR h c.S).2.2≠0
 ·have qac:qop c (rd0 h off) = [I c.T,I c.S,I (ofR h c.S).1,I (ofR h c.S).2.1,.bool true,I off,I 1,I 0,I 0,I 0,I 0,.bool false,.bool false,I 0,I 0]:=by unfold qop rd0;simp only [decide_eq_true hst];rfl
  rw [qac]
  repeat' first|refine .A ?_|refine .B ?_|refine .C ?_|refine .D ?_|refine .F ?_|refine .J ?_|refine .t6 ?_|refine .f6 ?_|refine .P (hO _) ?_|refine .P (hf _ _) ?_|refine .S (qpq hlo (Nat.le_of_ble_eq_true rfl) rfl) ?_|refine .Y ?_|fail
  rfl
 ·have qac:qop c (rd0 h off) = [I c.T,I c.S,I (ofR h c.S).1,I (ofR h c.S).2.1,.bool false,I off,I 1,I 0,I 0,I 0,I 0,.bool false,.bool false,I 0,I 0]:=by unfold qop rd0;simp only [decide_eq_false hst];rfl
  rw [qac]
  repeat' first|refine .A ?_|refine .B ?_|refine .D ?_|refine .F ?_|refine .J ?_|refine .C ?_|refine .f6 ?_|refine .P (hO _) ?_|refine .P (hf _ _) ?_|refine .S (qpq hlo (Nat.le_of_ble_eq_true rfl) rfl) ?_|refine .Y ?_|fail
  rfl
set_option maxHeartbeats 3200000 in
theorem qpt (H:qab)(hm:c.may){h:Int}(hh : -9223372036854775808≤h∧h<9223372036854775808)(off v:Int) :
  qfV En 0 Id.zdB [.agg #[I c.A,I c.S,I c.T],I h,I off,I v] H=some (qku H.length,H ++ [.row (qoz c (wr0 h off v)) false]):=by
 have hO:=qpr H hm
 have hf:=fun lo (row:List Value)=>qoa lo (H ++ [.row row false]) hh c.S
 unfold ofV at hf
 have hlo:0≤H.length:=Nat.zero_le _
 by_cases hst:(ofR h c.S).2.2≠0
 ·have qac:qoz c (wr0 h off v) = [I c.T,I c.S,I (ofR h c.S).1,I (ofR h c.S).2.1,.bool true,I off,I v,I 1,I 0,I 0,I 0,.bool false]:=by unfold qoz wr0;simp only [decide_eq_true hst]
  rw [qac]
  clear qac
  generalize ofR h c.S=r at hf hst⊢
  obtain⟨sl,g,fc⟩:=r
  simp only at hf hst⊢
  refine qgx rfl Fn.zdB rfl rfl ?_
  repeat' first|refine .A ?_|refine .B ?_|refine .C ?_|refine .D ?_|refine .F ?_|refine .J ?_|refine .t6 ?_|refine .f6 ?_|refine .P (hO _) ?_|refine .P (hf _ _) ?_|refine .S (qpq hlo (Nat.le_of_ble_eq_true rfl) rfl) ?_|refine .Y ?_|fail
  rfl
 ·have qac:qoz c (wr0 h off v) = [I c.T,I c.S,I (ofR h c.S).1,I (ofR h c.S).2.1,.bool false,I off,I v,I 1,I 0,I 0,I 0,.bool false]:=by unfold qoz wr0;simp only [decide_eq_false hst]
  rw [qac]
  clear qac
  generalize ofR h c.S=r at hf hst⊢
  obtain⟨sl,g,fc⟩:=r
  simp only at hf hst⊢
  refine qgx rfl Fn.zdB rfl rfl ?_
  repeat' first|refine .A ?_|refine .B ?_|refine .D ?_|refine .F ?_|refine .J ?_|refine .C ?_|refine .f6 ?_|refine .P (hO _) ?_|refine .P (hf _ _) ?_|refine .S (qpq hlo (Nat.le_of_ble_eq_true rfl) rfl) ?_|refine .Y ?_|fail
  rfl
set_option maxHeartbeats 3200000 in
theorem qpu (H:qab)(hm:c.may){h:Int}(hh : -9223372036854775808≤h∧h<9223372036854775808)(un:Bool) :
  qfV En 0 Id.zcu [.agg #[I c.A,I c.S,I c.T],I h,.bool (!un),qoK un] H=some (qku H.length,H ++ [.row (qoM c (pn0 h un)) false]):=by
 have hO:=qpr H hm
 have hf:=fun lo=>qoa lo H hh c.S
 unfold ofV at hf
 by_cases hst:(ofR h c.S).2.2≠0
 ·have qac:qoM c (pn0 h un) = [I c.T,I c.S,I (ofR h c.S).1,I (ofR h c.S).2.1,.bool true,qoK un,.bool (!un),I 1,I 0,I 0]:=by unfold qoM pn0;simp only [decide_eq_true hst]
  rw [qac]
  clear qac
  generalize ofR h c.S=r at hf hst⊢
  obtain⟨sl,g,fc⟩:=r
  simp only at hf hst⊢
  generalize hun:(!un)=nu
  generalize htv:qoK un=tv
  have hflat:∃f0:Go.Fn,tv = .func f0 #[] #[]:=⟨_,htv.symm.trans rfl⟩
  obtain⟨f0,rfl⟩:=hflat
  clear htv hun
  refine qgx rfl Fn.zcu rfl rfl ?_
  repeat' first|refine .A ?_|refine .B ?_|refine .D ?_|refine .F ?_|refine .J ?_|refine .C ?_|refine .t6 ?_|refine .f6 ?_|refine .P (hO _) ?_|refine .P (hf _) ?_|refine .Y ?_|fail
  rfl
 ·have qac:qoM c (pn0 h un) = [I c.T,I c.S,I (ofR h c.S).1,I (ofR h c.S).2.1,.bool false,qoK un,.bool (!un),I 1,I 0,I 0]:=by unfold qoM pn0;simp only [decide_eq_false hst]
  rw [qac]
  clear qac
  generalize ofR h c.S=r at hf hst⊢
  obtain⟨sl,g,fc⟩:=r
  simp only at hf hst⊢
  generalize hun:(!un)=nu
  generalize htv:qoK un=tv
  have hflat:∃f0:Go.Fn,tv = .func f0 #[] #[]:=⟨_,htv.symm.trans rfl⟩
  obtain⟨f0,rfl⟩:=hflat
  clear htv hun
  refine qgx rfl Fn.zcu rfl rfl ?_
  repeat' first|refine .A ?_|refine .B ?_|refine .D ?_|refine .F ?_|refine .J ?_|refine .C ?_|refine .f6 ?_|refine .P (hO _) ?_|refine .P (hf _) ?_|refine .Y ?_|fail
  rfl
theorem qpv (H:qab)(hm:c.may){h:Int}(hh : -9223372036854775808≤h∧h<9223372036854775808) :
  qfV En 0 Id.zcs [.agg #[I c.A,I c.S,I c.T],I h] H=some (qku H.length,H ++ [.row (qoM c (pn0 h false)) false]):=by
 have hP:=qpu H hm hh false
 refine qgx rfl Fn.zcs rfl rfl ?_
 repeat' first|refine .A ?_|refine .B ?_|refine .J ?_|refine .P hP ?_|refine .F ?_|refine .Y ?_|fail
 rfl
theorem qpw (H:qab)(hm:c.may){h:Int}(hh : -9223372036854775808≤h∧h<9223372036854775808) :
  qfV En 0 Id.zct [.agg #[I c.A,I c.S,I c.T],I h] H=some (qku H.length,H ++ [.row (qoM c (pn0 h true)) false]):=by
 have hP:=qpu H hm hh true
 refine qgx rfl Fn.zct rfl rfl ?_
 repeat' first|refine .A ?_|refine .B ?_|refine .J ?_|refine .P hP ?_|refine .F ?_|refine .Y ?_|fail
 rfl
set_option maxHeartbeats 3200000 in
theorem qpx (H:qab)(hm:c.may){h:Int}(hh : -9223372036854775808≤h∧h<9223372036854775808) :
  qfV En 0 Id.zbH [.agg #[I c.A,I c.S,I c.T],I h] H=some (qku H.length,H ++ [.row (qoY c (fe0 h) 0 false (.pointer none)) false]):=by
 have hO:=qpr H hm
 have hf:=fun lo=>qoa lo H hh c.S
 unfold ofV at hf
 refine qgx rfl Fn.zbH rfl rfl ?_
 by_cases hst:(ofR h c.S).2.2≠0
 ·have qac:qoY c (fe0 h) 0 false (.pointer none) = [I c.T,I c.S,I (ofR h c.S).1,I (ofR h c.S).2.1,.bool true,I 1,I 0,I 0,.bool false,.pointer none]:=by unfold qoY fe0;simp only [decide_eq_true hst]
  rw [qac]
  repeat' first|refine .A ?_|refine .B ?_|refine .D ?_|refine .F ?_|refine .J ?_|refine .C ?_|refine .t6 ?_|refine .f6 ?_|refine .P (hO _) ?_|refine .P (hf _) ?_|refine .Y ?_|fail
  rfl
 ·have qac:qoY c (fe0 h) 0 false (.pointer none) = [I c.T,I c.S,I (ofR h c.S).1,I (ofR h c.S).2.1,.bool false,I 1,I 0,I 0,.bool false,.pointer none]:=by unfold qoY fe0;simp only [decide_eq_false hst]
  rw [qac]
  repeat' first|refine .A ?_|refine .B ?_|refine .D ?_|refine .F ?_|refine .J ?_|refine .C ?_|refine .f6 ?_|refine .P (hO _) ?_|refine .P (hf _) ?_|refine .Y ?_|fail
  rfl
set_option maxHeartbeats 3200000 in
theorem qpy (H:qab)(hm:c.may)(n:Int) :
  qfV En 0 Id.zak [.agg #[I c.A,I c.S,I c.T],I n] H=some (qku (H.length+1),H ++ [.row (qnL c ⟨1,0,0,0⟩) false] ++ [.row (qpd c (al0 n) H.length (.pointer none)) false]):=by
 have hO:=qpr H hm
 have hP:=fun lo=>qo2 lo H c
 have hl:(H ++ [Blk.row (qnL c ⟨1,0,0,0⟩) false]).length=H.length+1:=by simp
 rw [←hl]
 have hR:=fun lo (row:List Value)=>qkt lo (H ++ [.row (qnL c ⟨1,0,0,0⟩) false] ++ [.row row false]) n
 have hq:∃q:Int,qks n = .tuple #[I (qo6 n),I q]:=by
  unfold qks qo6
  split
  ·exact⟨0,rfl⟩
  ·exact⟨9,rfl⟩
 obtain⟨q,hq⟩:=hq
 rw [hq]at hR
 generalize hg:H ++ [Blk.row (qnL c ⟨1,0,0,0⟩) false]=H1 at hP hR⊢
 have hlo:0≤H1.length:=Nat.zero_le _
 refine qgx rfl Fn.zak rfl rfl ?_
 repeat' first|refine .A ?_|refine .B ?_|refine .D ?_|refine .F ?_|refine .J ?_|refine .C ?_|refine .f6 ?_|refine .P (hO _) ?_|refine .P (hP _) ?_|refine .P (hR _ _) ?_|refine .S (qpq hlo (Nat.le_of_ble_eq_true rfl) rfl) ?_|refine .Y ?_|fail
 rfl

def qpz (c:Cfg)(note nx ep:Int):List Value := [I c.T,I c.S,I note,I nx,I ep]
def qpA (c:Cfg)(num nx ep:Int):List Value := [I c.A,I c.S,I c.T,I num,I nx,I ep]
theorem qpB (H:qab)(hm:c.may){num:Int}(hn:0≤qjG c num):qfV En 0 Id.zbt [.agg #[I c.A,I c.S,I c.T],I num] H=some (qku H.length,H ++ [.row (qpz c (qjG c num) 1 0) false]):=by
 have hO:=qpr H hm
 have hN:=fun lo=>qjH lo H hm num
 generalize qjG c num=nt at hn hN⊢
 refine qgx rfl Fn.zbt rfl rfl ?_
 repeat' first|refine .A ?_|refine .B ?_|refine .D ?_|refine .F ?_|refine .J ?_|refine .f1 ?_|refine .L (qpp rfl) ?_|refine .P (hO _) ?_|refine .P (hN _) ?_|refine .Y ?_|fail
 rfl
section
variable {H:qab}{b:Nat}{cb:CB}{ws bs:List Int}{num ep:Int}
theorem qpC (d:Did H H b (qpz c (qjG c num) 1 ep) cb ws bs)(hm:c.may)(hb:b≠cb.P∧b≠cb.W∧b≠cb.Y) :
  ∃H',qfV En 0 Id.zbr [qku b,ifC cb] H=some (.bool false,H')∧Did H H' b (qpz c (qjG c num) 2 (qi6 ws 3)) cb ws bs:=by
 have hlo:0≤b:=Nat.zero_le _
 have hE:=fun lo=>qjF lo H hm
 obtain⟨H1,hL,hC1,ho1⟩:=qjg (lo:=0) d.cells (Nat.zero_le _) 3
 have d1:=d.on hC1 ho1 (by simp) hb
 refine⟨_, ?_,d1.set hb⟩
 refine qgx rfl Fn.zbr rfl rfl ?_
 repeat' first|refine .A ?_|refine .B ?_|refine .C ?_|refine .D ?_|refine .F ?_|refine .J ?_|refine .t5 ?_|refine .f5 ?_|refine .L (qiD d.row rfl) ?_|refine .L (qiE d.row (Nat.le_of_ble_eq_true rfl) rfl) ?_|refine .P (hE _) ?_|refine .W hL ?_|refine .S (qiF d1.row hlo (Nat.le_of_ble_eq_true rfl) rfl) ?_|refine .S (qoy (qiC d1.row) hlo (Nat.le_of_ble_eq_true rfl) rfl) ?_|refine .Y ?_|fail
 rfl
theorem qpD (d:Did H H b (qpz c (qjG c num) 2 ep) cb ws bs)(hb:b≠cb.P∧b≠cb.W∧b≠cb.Y) :
  ∃H',qfV En 0 Id.zbr [qku b,ifC cb] H=some (.bool true,H')∧Did H H' b (qpz c (qjG c num) 0 ep) cb (qi7 ws (qjG c num) (w64 (ep+1))) bs:=by
 have hlo:0≤b:=Nat.zero_le _
 obtain⟨H1,hL,hC1,ho1⟩:=qjh (lo:=0) d.cells (Nat.zero_le _) (Nat.zero_le _) (qjG c num) (w64 (ep+1))
 have d1:=d.on hC1 ho1 (by simp) hb
 refine⟨_, ?_,d1.set hb⟩
 refine qgx rfl Fn.zbr rfl rfl ?_
 repeat' first|refine .A ?_|refine .B ?_|refine .D ?_|refine .F ?_|refine .J ?_|refine .f5 ?_|refine .L (qiD d.row rfl) ?_|refine .W hL ?_|refine .S (qiF d1.row hlo (Nat.le_of_ble_eq_true rfl) rfl) ?_|refine .Y ?_|fail
 rfl
theorem qpE (hC:IsC H cb ws bs)(hm:c.may)(hn:0≤qjG c num) :
  ∃H',qfV En 0 Id.zbs [ifC cb,.agg #[I c.A,I c.S,I c.T],I num] H=some (qag,H')∧IsC H' cb (qi7 ws (qjG c num) 0) bs∧Only [cb.P,cb.W] H H':=by
 have hO:=qpr H hm
 have hN:=fun lo=>qjH lo H hm num
 obtain⟨H1,hL,hC1,ho1⟩:=qjh (lo:=0) hC (Nat.zero_le _) (Nat.zero_le _) (qjG c num) 0
 refine⟨H1, ?_,hC1,ho1⟩
 generalize qjG c num=nt at hn hN hL
 refine qgx rfl Fn.zbs rfl rfl ?_
 repeat' first|refine .A ?_|refine .B ?_|refine .C ?_|refine .nil rfl ?_|refine .t4 ?_|refine .P (hO _) ?_|refine .P (hN _) ?_|refine .W hL ?_|refine .F ?_|refine .Y ?_|fail
 rfl
end
end
end Go.Proofs.YtdinebegmppnoabGreat

/- Machines of all kinds, by the program and by the document: one step function. -/
namespace Go.Proofs.YtdinebegmppnoabGreat
open Go Go.Ir

inductive Mx where
 | al (s:Al)
 | fe (s:Fe)
 | rd (s:Rd)
 | wr (s:Wr)
 | pn (s:Pn)
 | no
def mxS (c:Cfg)(m:Mx)(ws bs:List Int):Mx×List Int×List Int×Option (Int×Int) :=
 match m with
 | .al s=>(.al (alS c s ws bs).1,(alS c s ws bs).2.1,(alS c s ws bs).2.2.1,(alS c s ws bs).2.2.2)
 | .fe s=>(.fe (feS c s ws).1,(feS c s ws).2.1,bs,(feS c s ws).2.2)
 | .rd s=>(.rd (rdS c s ws bs).1,ws,bs,(rdS c s ws bs).2)
 | .wr s=>(.wr (wrS c s ws bs).1,(wrS c s ws bs).2.1,(wrS c s ws bs).2.2.1,(wrS c s ws bs).2.2.2)
 | .pn s=>(.pn (pnS c s ws).1,(pnS c s ws).2.1,bs,(pnS c s ws).2.2)
 | .no=>(.no,ws,bs,some (1,0))
def mkM (o:Op4):Mx :=
 if o.d=0 then .al (al0 o.n)else if o.d=1 then .fe (fe0 o.h)else if o.d=2 then .rd (rd0 o.h o.f)else if o.d=3 then .wr (wr0 o.h o.f o.n)
 else if o.d=4 then .pn (pn0 o.h false)else if o.d=5 then .pn (pn0 o.h true)else .no
def inR (n:Int):Prop := -9223372036854775808≤n∧n<9223372036854775808
def Mx.ok:Mx→Prop
 | .al s=>inR s.n
 | .fe s=>inR s.h
 | .rd s=>inR s.h
 | .wr s=>inR s.h
 | .pn s=>inR s.h
 | .no=>True

def mxT:Mx→Nat
 | .al _=>alT
 | .fe _=>feT
 | .rd _=>rdT
 | .wr _=>wrT
 | .pn _=>pnT
 | .no=>noT
def mxF:Mx→Nat
 | .al _=>Id.zab
 | .fe _=>Id.zbD
 | .rd _=>Id.zcE
 | .wr _=>Id.zdu
 | .pn _=>Id.zcp
 | .no=>Id.zdl
def mxR (b:Nat):Mx→Value
 | .no => .agg #[]
 | _=>qku b
def mxA (b:Nat):Mx→Value
 | .al _=>qku b
 | _ => .pointer none
def MxP (H:qab)(own:List Nat)(c:Cfg)(b:Nat):Mx→Prop
 | .al s=>AlP H own c s b
 | .fe s=>FeP H own c s b
 | .rd s=>b∈own∧H[b]? = some (.row (qop c s) false)
 | .wr s=>b∈own∧H[b]? = some (.row (qoz c s) false)
 | .pn s=>b∈own∧H[b]? = some (.row (qoM c s) false)
 | .no=>True

section
variable {H:qab}{own:List Nat}{c:Cfg}{b:Nat}{m:Mx}{cb:CB}{ws bs:List Int}
theorem qpF (hP:MxP H own c b m)(hC:IsC H cb ws bs)(hA:Apart own cb)(hm:c.may) :
  ∃own' H',qfV En 0 (mxF m) [mxR b m,ifC cb] H=some (qol (mxS c m ws bs).2.2.2,H')∧MxP H' own' c b (mxS c m ws bs).1∧IsC H' cb (mxS c m ws bs).2.1 (mxS c m ws bs).2.2.1∧Grew H H' own own' cb:=by
 cases m with
 | al s=>exact qpn hP hC hA hm
 | fe s =>
   obtain⟨own',H',h1,h2,h3,h4,h5,h6⟩:=qo4 (lo:=0) hP hC hA hm (fun _ _=>Nat.zero_le _) ⟨Nat.zero_le _,Nat.zero_le _⟩
   exact⟨own',H',h1,h2,h3,h4,h5,h6⟩
 | rd s =>
   obtain⟨H',h1,d⟩:=qow (lo:=0) hP.2 hC (hA.at hP.1) hm (Nat.zero_le _) (Nat.zero_le _)
   exact⟨own,H',h1,⟨hP.1,d.row⟩,d.cells,.same (d.chg.mono (qoV hP.1))⟩
 | wr s =>
   obtain⟨H',h1,d⟩:=qoI (lo:=0) hP.2 hC (hA.at hP.1) hm (Nat.zero_le _) ⟨Nat.zero_le _,Nat.zero_le _,Nat.zero_le _⟩
   exact⟨own,H',h1,⟨hP.1,d.row⟩,d.cells,.same (d.chg.mono (qoV hP.1))⟩
 | pn s =>
   obtain⟨H',h1,d⟩:=qoS (lo:=0) hP.2 hC (hA.at hP.1) hm (Nat.zero_le _) ⟨Nat.zero_le _,Nat.zero_le _⟩
   exact⟨own,H',h1,⟨hP.1,d.row⟩,d.cells,.same (d.chg.mono (qoV hP.1))⟩
 | no =>
   refine⟨own,H, ?_,trivial,hC,.same (Chg.refl _ _)⟩
   refine qgx rfl Fn.zdl rfl rfl ?_
   repeat' first|refine .A ?_|refine .B ?_|refine .J ?_|refine .F ?_|refine .Y ?_|fail
   rfl

theorem qpG (H:qab)(hm:c.may)(o:Op4) :
  ∃k k0 H',qfV En 0 Id.zdm [.agg #[I c.A,I c.S,I c.T],.agg #[I o.d,I o.h,I o.f,I o.n]] H=some (.tuple #[.iface (mxT (mkM o)) (mxR k (mkM o)),mxA k (mkM o)],H')∧Ext H H'∧H.length≤k∧H.length≤k0∧MxP H' [k,k0] c k (mkM o):=by
 have hx1:∀r,Ext H (H ++ [Blk.row r false]):=fun r=>(Ext.refl H).app _
 unfold mkM
 by_cases h0:o.d=0
 ·rw [if_pos h0]
  have hN:=qpy H hm o.n
  have hl:(H ++ [Blk.row (qnL c ⟨1,0,0,0⟩) false]).length=H.length+1:=by simp
  refine⟨H.length+1,H.length,_, ?_,(hx1 _).app _,by omega,Nat.le_refl _,⟨by simp,by simp [al0],H.length,.pointer none,by rw [←hl];exact List.getElem?_concat_length,by
   rw [List.getElem?_append_left (by simp)];exact List.getElem?_concat_length,by omega,by simp,fun h=>by simp [al0]at h⟩⟩
  refine qgx rfl Fn.zdm rfl rfl ?_
  repeat' first|refine .A ?_|refine .B ?_|refine .C ?_|refine .G ?_|refine .J ?_|refine .t5 ?_|refine .P hN ?_|refine .F ?_|refine .Y ?_|fail
  rfl
 rw [if_neg h0]
 by_cases h1:o.d=1
 ·rw [if_pos h1]
  have hN:=qpx H hm o.hr
  refine⟨H.length,H.length,_, ?_,hx1 _,Nat.le_refl _,Nat.le_refl _,⟨by simp,0,false,.pointer none,List.getElem?_concat_length,fun h=>by simp [fe0]at h,fun _ h=>by simp [fe0]at h⟩⟩
  refine qgx rfl Fn.zdm rfl rfl ?_
  repeat' first|refine .A ?_|refine .B ?_|refine .C ?_|refine .D ?_|refine .G ?_|refine .J ?_|refine .t5 ?_|refine .f5 ?_|refine .P hN ?_|refine .F ?_|refine .Y ?_|fail
  rfl
 rw [if_neg h1]
 by_cases h2:o.d=2
 ·rw [if_pos h2]
  have hN:=qps H hm o.hr o.f
  refine⟨H.length,H.length,_, ?_,hx1 _,Nat.le_refl _,Nat.le_refl _,⟨by simp,List.getElem?_concat_length⟩⟩
  refine qgx rfl Fn.zdm rfl rfl ?_
  repeat' first|refine .A ?_|refine .B ?_|refine .C ?_|refine .D ?_|refine .G ?_|refine .J ?_|refine .t5 ?_|refine .f5 ?_|refine .P hN ?_|refine .F ?_|refine .Y ?_|fail
  rfl
 rw [if_neg h2]
 by_cases h3:o.d=3
 ·rw [if_pos h3]
  have hN:=qpt H hm o.hr o.f o.n
  refine⟨H.length,H.length,_, ?_,hx1 _,Nat.le_refl _,Nat.le_refl _,⟨by simp,List.getElem?_concat_length⟩⟩
  refine qgx rfl Fn.zdm rfl rfl ?_
  repeat' first|refine .A ?_|refine .B ?_|refine .C ?_|refine .D ?_|refine .G ?_|refine .J ?_|refine .t5 ?_|refine .f5 ?_|refine .P hN ?_|refine .F ?_|refine .Y ?_|fail
  rfl
 rw [if_neg h3]
 by_cases h4:o.d=4
 ·rw [if_pos h4]
  have hN:=qpv H hm o.hr
  refine⟨H.length,H.length,_, ?_,hx1 _,Nat.le_refl _,Nat.le_refl _,⟨by simp,List.getElem?_concat_length⟩⟩
  refine qgx rfl Fn.zdm rfl rfl ?_
  repeat' first|refine .A ?_|refine .B ?_|refine .C ?_|refine .D ?_|refine .G ?_|refine .J ?_|refine .t5 ?_|refine .f5 ?_|refine .P hN ?_|refine .F ?_|refine .Y ?_|fail
  rfl
 rw [if_neg h4]
 by_cases h5:o.d=5
 ·rw [if_pos h5]
  have hN:=qpw H hm o.hr
  refine⟨H.length,H.length,_, ?_,hx1 _,Nat.le_refl _,Nat.le_refl _,⟨by simp,List.getElem?_concat_length⟩⟩
  refine qgx rfl Fn.zdm rfl rfl ?_
  repeat' first|refine .A ?_|refine .B ?_|refine .C ?_|refine .D ?_|refine .G ?_|refine .J ?_|refine .t5 ?_|refine .f5 ?_|refine .P hN ?_|refine .F ?_|refine .Y ?_|fail
  rfl
 rw [if_neg h5]
 refine⟨H.length,H.length,H, ?_,.refl _,Nat.le_refl _,Nat.le_refl _,trivial⟩
 refine qgx rfl Fn.zdm rfl rfl ?_
 repeat' first|refine .A ?_|refine .B ?_|refine .D ?_|refine .F ?_|refine .G ?_|refine .H ?_|refine .J ?_|refine .C ?_|refine .f5 ?_|refine .Y ?_|fail
 rfl

def qpH (d:Int)(b:Nat):Mx→List Value
 | .al _ => [I d,qku b,.pointer none,.pointer none,.pointer none,.pointer none]
 | .fe _ => [I d,.pointer none,qku b,.pointer none,.pointer none,.pointer none]
 | .rd _ => [I d,.pointer none,.pointer none,qku b,.pointer none,.pointer none]
 | .wr _ => [I d,.pointer none,.pointer none,.pointer none,qku b,.pointer none]
 | .pn _ => [I d,.pointer none,.pointer none,.pointer none,.pointer none,qku b]
 | .no => [I d,.pointer none,.pointer none,.pointer none,.pointer none,.pointer none]
def dOk (d:Int):Mx→Prop
 | .al _=>d=0
 | .fe _=>d=1
 | .rd _=>d=2
 | .wr _=>d=3
 | .pn _=>d=4∨d=5
 | .no=>d<0∨5<d
def MxR (H:qab)(own:List Nat)(c:Cfg)(b:Nat):Mx→Prop
 | .al s=>AlR H own c s b
 | .fe s=>FeR H own c s b
 | .rd s=>b∈own∧∃kp bb,H[b]? = some (.row (qox c s kp bb) false)∧RdI c s kp bb
 | .wr s=>b∈own∧∃e,H[b]? = some (.row (qoJ c s e) false)∧WrI c s e
 | .pn s=>b∈own∧H[b]? = some (.row (qoT c s) false)∧PnI c s
 | .no=>True
structure MyR (H:qab)(own:List Nat)(c:Cfg)(x b:Nat)(d:Int)(m:Mx):Prop where
 row:H[x]? = some (.row (qpH d b m) false)
 d:dOk d m
 ok:m.ok
 my:MxR H own c b m
 no:x∉own

theorem Chg.out {S:List Nat}{H H':qab}(h:Chg S H H'){x:Nat}{r:Blk}(hr:H[x]? = some r)(hx:x∉S):H'[x]? = some r:=h.get hr hx

end
end Go.Proofs.YtdinebegmppnoabGreat

