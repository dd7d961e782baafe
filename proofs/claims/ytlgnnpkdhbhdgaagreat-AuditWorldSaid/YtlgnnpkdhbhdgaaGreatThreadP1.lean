/- The seat's operations. -/
import Derived.Test.YtlgnnpkdhbhdgaaGreatSoundFn
import Derived.Test.YtlgnnpkdhbhdgaaGreatIrD
set_option linter.all false
namespace Go.Proofs.YtlgnnpkdhbhdgaaGreat
open Go Go.Ir
abbrev qiT:Nat:=51
abbrev alT:Nat:=149
abbrev feT:Nat:=201
abbrev rdT:Nat:=203
abbrev wrT:Nat:=205
abbrev pnT:Nat:=207
abbrev noT:Nat:=210
def qiU (lo:Nat)(h:qab):qfU En lo Id.zcK [] h=some (.bool true,h):=callR_iff.2 ⟨1,by kernel_rfl⟩
abbrev N (n:Nat):Value := .int .i64 (n:Int)
abbrev I (n:Int):Value := .int .i64 n
def qiV {h H:qab}{n m:Int}(e:n=m):Ir.tidy h (.int .i64 n) H=some (.int .i64 m,h):=by subst e;rfl
def qiW {h H:qab}{n m:Bool}(e:n=m):Ir.tidy h (.bool n) H=some (.bool m,h):=by subst e;rfl
def qiX {n:Int}(h0 : -4611686018427387904<=n)(h1:n<=4611686018427387904):IntKind.i64.wrap n=n:=by rw [IntKind.wrap_i64];omega
structure Cfg where
 A:Int
 S:Int
 T:Int
def Cfg.cs (c:Cfg):List Value := [I c.A,I c.S,I c.T]
def Cfg.may (c:Cfg):Prop:=8<=c.A/\c.A<=4096/\c.A.tmod 8=0/\1<=c.S/\c.S<=64/\1<=c.T/\c.T<=4
instance (c:Cfg):Decidable c.may:=by unfold Cfg.may;infer_instance
def inB (n a b:Int):Bool:=decide (a<=n)&&decide (n<=b)
def qiY (lo:Nat)(h:qab)(n a b:Int):qfU En lo Id.zco [I n,I a,I b] h=some (.bool (inB n a b),h):=by
 refine qgx rfl Fn.zco rfl rfl ?_
 repeat' first|refine .A ?_|refine .B ?_|refine .J ?_|refine .k2 (fun hc => ?_) fun hc => ?_|refine .k4 (fun hc => ?_) fun hc => ?_|refine .D ?_|refine .F ?_|refine .Y ?_|fail
 all_goals (refine qiW ?_;simp [inB, *])
def qiZ (c:Cfg):List Value:=if c.may then [I c.T,I c.S]else [I 0,I 0]
def qi0 (lo:Nat)(h:qab)(c:Cfg):qfU En lo Id.zcm [.agg c.cs.toArray] h=some (.tuple #[.agg (qiZ c).toArray,I (if c.may then 0 else 1)],h):=by
 have hin:=fun lo (n a b:Int)=>qiY lo h n a b
 by_cases hm:c.may
 ·have hm':=hm
  unfold Cfg.may at hm'
  refine qgx rfl Fn.zcm rfl rfl ?_
  have i1:=fun lo=>hin lo c.A 8 4096
  have i2:=fun lo=>hin lo c.S 1 64
  have i3:=fun lo=>hin lo c.T 1 4
  rw [show inB c.A 8 4096=true by simp [inB];omega]at i1
  rw [show inB c.S 1 64=true by simp [inB];omega]at i2
  rw [show inB c.T 1 4=true by simp [inB];omega]at i3
  unfold qiZ
  rw [if_pos hm,if_pos hm]
  repeat' first|refine .A ?_|refine .B ?_|refine .D ?_|refine .F ?_|refine .J ?_|refine .C ?_|refine .f6 ?_|refine .P (i1 _) ?_|refine .P (i2 _) ?_|refine .P (i3 _) ?_|refine .Y ?_|fail
  rfl
 ·unfold qiZ
  rw [if_neg hm,if_neg hm]
  refine qgx rfl Fn.zcm rfl rfl ?_
  repeat' first|refine .A ?_|refine .B ?_|refine .C ?_|refine .D ?_|refine .F ?_|refine .J ?_|refine .k6 (fun hc => ?_) fun hc => ?_|refine .y7 rfl rfl (hin _ _ _ _) (fun hc => ?_) (fun hc => ?_)|refine .Y ?_|fail
  all_goals first|rfl|(exfalso;apply hm;unfold Cfg.may;simp [inB]at *;omega)
def qi1 (lo:Nat)(h:qab)(c:Cfg):qfU En lo Id.zcR [.agg c.cs.toArray] h=some (.bool (decide c.may),h):=by
 refine qgx rfl Fn.zcR rfl rfl ?_
 repeat' first|refine .A ?_|refine .B ?_|refine .J ?_|refine .C ?_|refine .k2 (fun hc => ?_) fun hc => ?_|refine .k4 (fun hc => ?_) fun hc => ?_|refine .k5 (fun hc => ?_) fun hc => ?_|refine .D ?_|refine .F ?_|refine .Y ?_|fail
 all_goals
  refine qiW ?_
  first
  | (rw [zzT (show c.may by unfold Cfg.may;omega)])
  | (rw [zzF (show ¬c.may by unfold Cfg.may;omega)])
def qi2 (c:Cfg):Int:=4+c.T+3*c.S
def qi3 (lo:Nat)(h:qab)(a b:Int):qfU En lo Id.zaD [I a,I b] h=some (.bool (inB a 1 4096&&inB b 0 4096),h):=by
 refine qgx rfl Fn.zaD rfl rfl ?_
 repeat' first|refine .A ?_|refine .B ?_|refine .J ?_|refine .k2 (fun hc => ?_) fun hc => ?_|refine .k4 (fun hc => ?_) fun hc => ?_|refine .D ?_|refine .F ?_|refine .Y ?_|fail
 all_goals (refine qiW ?_;simp [inB, *])
structure CB where
 P:Nat
 W:Nat
 Y:Nat
def u8s (l:List Int):List Value:=l.map (.int .u8 ·)
def qi4 (c:CB)(nw nb:Nat)(st:Int):List Value := [.slice (some ⟨c.W,0,none⟩) nw nw,.slice (some ⟨c.Y,0,none⟩) nb nb,I st]
structure IsC (H:qab)(c:CB)(ws bs:List Int):Prop where
 p:∃st,H[c.P]? = some (.row (qi4 c ws.length bs.length st) false)
 w:H[c.W]? = some (.row (qiQ ws) false)
 y:H[c.Y]? = some (.row (u8s bs) false)
 pw:c.P≠c.W
 py:c.P≠c.Y
 wy:c.W≠c.Y
 byte:∀b∈bs,0<=b/\b<256
structure Only (S:List Nat)(H H':qab):Prop where
 len:H'.length=H.length
 same:∀j,j∉S->H'[j]? = H[j]?
def Only.refl (S:List Nat)(H:qab):Only S H H:=⟨rfl,fun _ _=>rfl⟩
def Only.trans {S:List Nat}{H H' H'':qab}(a:Only S H H')(b:Only S H' H''):Only S H H'':=⟨b.len.trans a.len,fun j hj=>(b.same j hj).trans (a.same j hj)⟩
def Only.set {S:List Nat}{H H':qab}(a:Only S H H'){i:Nat}{k:Blk}(hi:i∈S):Only S H (H'.set i k):=⟨by rw [zzQ];exact a.len,fun j hj=>by rw [zzN (fun e=>hj (by rw [<-e];exact hi))];exact a.same j hj⟩
def Only.mono {S S':List Nat}{H H':qab}(a:Only S H H')(h:∀i∈S,i∈S'):Only S' H H':=⟨a.len,fun j hj=>a.same j fun hs=>hj (h j hs)⟩
def qi5 (ws:List Int)(i:Int):Int:=if 0<=i/\i<ws.length then ws.getD i.toNat 0 else 0
def qi6 (ws:List Int)(i n:Int):List Int:=if 0<=i/\i<ws.length then ws.set i.toNat n else ws
def qi7 (ws:List Int)(i n:Int):(qi6 ws i n).length=ws.length:=by unfold qi6;split<;>simp
def qi8 (n:Int):Int:=IntKind.u8.wrap n
def qi9 (n:Int):0<=qi8 n/\qi8 n<256:=by
 unfold qi8 IntKind.wrap
 simp only [IntKind.bits,IntKind.signed,Bool.false_and]
 rw [if_neg (by decide)]
 omega
def qja {ws:List Int}{k:Nat}(h:k<ws.length):ws[k]? = some (ws.getD k 0):=by
 rw [List.getD_eq_getElem?_getD,zzG h];rfl
section
variable {lo:Nat}{H:qab}{c:CB}{ws bs:List Int}
abbrev qjb (c:CB):Value := .pointer (some ⟨c.P,0,none⟩)
def qjc (hC:IsC H c ws bs)(hlo:lo<=c.P)(i:Int):∃H',qfU En lo Id.zaC [qjb c,I i] H=some (.bool (decide (0<=i/\i<ws.length)),H')/\IsC H' c ws bs/\Only [c.P] H H':=by
 refine zzX hC.p fun st hp => ?_
 have hpl:=qiB hp
 have hst:stN lo H ⟨c.P,0+2,none⟩ (qaf (I (IntKind.i64.wrap (st+1))))=some (H.set c.P (.row (qi4 c ws.length bs.length (IntKind.i64.wrap (st+1))) false)):=qiE hp hlo (zzL rfl) rfl
 refine⟨H.set c.P (.row (qi4 c ws.length bs.length (IntKind.i64.wrap (st+1))) false), ?_,⟨⟨_,qiy hpl⟩,qiz hC.pw hC.w,qiz hC.py hC.y,hC.pw,hC.py,hC.wy,hC.byte⟩,(Only.refl _ _).set (by simp)⟩
 refine qgw rfl Fn.zaC rfl rfl ?_
 have l2:qau H none ⟨c.P,0+2,none⟩=some (I st):=qiC hp rfl
 have l0:qau (H.set c.P (.row (qi4 c ws.length bs.length (IntKind.i64.wrap (st+1))) false)) none ⟨c.P,0+0,none⟩=some (.slice (some ⟨c.W,0,none⟩) ws.length ws.length):=qiC (qiy hpl) rfl
 by_cases h0:0<=i
 ·by_cases h1:i<(ws.length:Int)
  ·rw [zzT (show 0<=i/\i<(ws.length:Int)from⟨h0,h1⟩)]
   repeat' first|refine .A ?_|refine .B ?_|refine .D ?_|refine .F ?_|refine .J ?_|refine .t1 ?_|refine .t4 ?_|refine .L l2 ?_|refine .L l0 ?_|refine .S hst ?_|refine .Y ?_|fail
   rfl
  ·rw [zzF (show ¬(0<=i/\i<(ws.length:Int))from fun h=>h1 h.2)]
   repeat' first|refine .A ?_|refine .B ?_|refine .D ?_|refine .F ?_|refine .J ?_|refine .f1 ?_|refine .t4 ?_|refine .L l2 ?_|refine .L l0 ?_|refine .S hst ?_|refine .Y ?_|fail
   rfl
 ·rw [zzF (show ¬(0<=i/\i<(ws.length:Int))from fun h=>h0 h.1)]
  repeat' first|refine .A ?_|refine .B ?_|refine .D ?_|refine .F ?_|refine .J ?_|refine .f4 ?_|refine .L l2 ?_|refine .S hst ?_|refine .Y ?_|fail
  rfl
def qjd (hC:IsC H c ws bs)(hlo:lo<=c.P)(i:Int):∃H',qfU En lo Id.zaB [qjb c,I i] H=some (.bool (decide (0<=i/\i<bs.length)),H')/\IsC H' c ws bs/\Only [c.P] H H':=by
 refine zzX hC.p fun st hp => ?_
 have hpl:=qiB hp
 have hst:stN lo H ⟨c.P,0+2,none⟩ (qaf (I (IntKind.i64.wrap (st+1))))=some (H.set c.P (.row (qi4 c ws.length bs.length (IntKind.i64.wrap (st+1))) false)):=qiE hp hlo (zzL rfl) rfl
 refine⟨H.set c.P (.row (qi4 c ws.length bs.length (IntKind.i64.wrap (st+1))) false), ?_,⟨⟨_,qiy hpl⟩,qiz hC.pw hC.w,qiz hC.py hC.y,hC.pw,hC.py,hC.wy,hC.byte⟩,(Only.refl _ _).set (by simp)⟩
 refine qgw rfl Fn.zaB rfl rfl ?_
 have l2:qau H none ⟨c.P,0+2,none⟩=some (I st):=qiC hp rfl
 have l1:qau (H.set c.P (.row (qi4 c ws.length bs.length (IntKind.i64.wrap (st+1))) false)) none ⟨c.P,0+1,none⟩=some (.slice (some ⟨c.Y,0,none⟩) bs.length bs.length):=qiC (qiy hpl) rfl
 by_cases h0:0<=i
 ·by_cases h1:i<(bs.length:Int)
  ·rw [zzT (show 0<=i/\i<(bs.length:Int)from⟨h0,h1⟩)]
   repeat' first|refine .A ?_|refine .B ?_|refine .D ?_|refine .F ?_|refine .J ?_|refine .t1 ?_|refine .t4 ?_|refine .L l2 ?_|refine .L l1 ?_|refine .S hst ?_|refine .Y ?_|fail
   rfl
  ·rw [zzF (show ¬(0<=i/\i<(bs.length:Int))from fun h=>h1 h.2)]
   repeat' first|refine .A ?_|refine .B ?_|refine .D ?_|refine .F ?_|refine .J ?_|refine .f1 ?_|refine .t4 ?_|refine .L l2 ?_|refine .L l1 ?_|refine .S hst ?_|refine .Y ?_|fail
   rfl
 ·rw [zzF (show ¬(0<=i/\i<(bs.length:Int))from fun h=>h0 h.1)]
  repeat' first|refine .A ?_|refine .B ?_|refine .D ?_|refine .F ?_|refine .J ?_|refine .f4 ?_|refine .L l2 ?_|refine .S hst ?_|refine .Y ?_|fail
  rfl
def IsC.w_ld (hC:IsC H c ws bs){k:Nat}(hk:k<ws.length):qau H none ⟨c.W,0+k*1,none⟩=some (I (ws.getD k 0)) :=
 qiC hC.w (by rw [Nat.zero_add,Nat.mul_one,qiQ,List.getElem?_map,qja hk];rfl)
def IsC.y_ld (hC:IsC H c ws bs){k:Nat}(hk:k<bs.length):qau H none ⟨c.Y,0+k*1,none⟩=some (.int .u8 (bs.getD k 0)) :=
 qiC hC.y (by rw [Nat.zero_add,Nat.mul_one,u8s,List.getElem?_map,qja hk];rfl)
def IsC.p0 (hC:IsC H c ws bs):qau H none ⟨c.P,0+0,none⟩=some (.slice (some ⟨c.W,0,none⟩) ws.length ws.length):=by
 obtain⟨st,hp⟩:=hC.p
 exact qiC hp rfl
def IsC.p1 (hC:IsC H c ws bs):qau H none ⟨c.P,0+1,none⟩=some (.slice (some ⟨c.Y,0,none⟩) bs.length bs.length):=by
 obtain⟨st,hp⟩:=hC.p
 exact qiC hp rfl
def qje {f:Int->Value}{l:List Int}{k:Nat}{n:Int}(hk:k<l.length):splice (l.map f) k [f n]=(l.set k n).map f:=by
 unfold splice
 simp only [List.length_singleton]
 rw [List.map_set,List.set_eq_take_append_cons_drop]
 simp [hk]
def IsC.wax (hC:IsC H c ws bs){k:Nat}(hk:k<ws.length)(n:Int)(hlo:lo<=c.W) :
  stN lo H ⟨c.W,0+k*1,none⟩ (qaf (I n))=some (H.set c.W (.row (qiQ (ws.set k n)) false))/\IsC (H.set c.W (.row (qiQ (ws.set k n)) false)) c (ws.set k n) bs/\Only [c.W] H (H.set c.W (.row (qiQ (ws.set k n)) false)):=by
 refine⟨?_,⟨?_,qiy (qiB hC.w),qiz hC.wy hC.y,hC.pw,hC.py,hC.wy,hC.byte⟩,(Only.refl _ _).set (by simp)⟩
 ·rw [Nat.zero_add,Nat.mul_one]
  exact qiE hC.w hlo (by show k+1<=_;simp [qiQ];omega) (qje hk)
 ·obtain⟨st,hp⟩:=hC.p
  exact⟨st,by rw [zzQ];exact qiz hC.pw.symm hp⟩
def IsC.waP (hC:IsC H c ws bs){k:Nat}(hk:k<bs.length)(n:Int)(hn:0<=n/\n<256)(hlo:lo<=c.Y) :
  stN lo H ⟨c.Y,0+k*1,none⟩ (qaf (.int .u8 n))=some (H.set c.Y (.row (u8s (bs.set k n)) false))/\IsC (H.set c.Y (.row (u8s (bs.set k n)) false)) c ws (bs.set k n)/\Only [c.Y] H (H.set c.Y (.row (u8s (bs.set k n)) false)):=by
 refine⟨?_,⟨?_,qiz hC.wy.symm hC.w,qiy (qiB hC.y),hC.pw,hC.py,hC.wy,fun b hb => ?_⟩,(Only.refl _ _).set (by simp)⟩
 ·rw [Nat.zero_add,Nat.mul_one]
  exact qiE hC.y hlo (by show k+1<=_;simp [u8s];omega) (qje hk)
 ·obtain⟨st,hp⟩:=hC.p
  exact⟨st,by rw [zzQ];exact qiz hC.py.symm hp⟩
 ·rcases List.mem_or_eq_of_mem_set hb with h|h
  ·exact hC.byte b h
  ·subst h;exact hn
def qjf (hC:IsC H c ws bs)(hlo:lo<=c.P)(i:Int):∃H',qfU En lo Id.zax [qjb c,I i] H=some (I (qi5 ws i),H')/\IsC H' c ws bs/\Only [c.P] H H':=by
 refine zzX (qjc hC hlo i) fun H1 hq => ?_
 have hw:=hq.1
 have hC1:=hq.2.1
 refine⟨H1, ?_,hC1,hq.2.2⟩
 clear hq
 refine qgw rfl Fn.zax rfl rfl ?_
 have l0:=hC1.p0
 by_cases hi:0<=i/\i<(ws.length:Int)
 ·rw [zzT hi]at hw
  refine zzX (show ∃k:Nat,i=k from⟨i.toNat,by omega⟩) fun k hk => ?_
  subst hk
  have hkl:k<ws.length:=by omega
  have hL:=hC1.w_ld hkl
  unfold qi5
  rw [if_pos hi,Int.toNat_natCast]
  repeat' first|refine .A ?_|refine .B ?_|refine .D ?_|refine .F ?_|refine .J ?_|refine .L l0 ?_|refine .L hL ?_|refine .P hw ?_|refine .R hkl ?_|refine .Y ?_|fail
  rfl
 ·rw [zzF hi]at hw
  unfold qi5
  rw [if_neg hi]
  repeat' first|refine .A ?_|refine .B ?_|refine .C ?_|refine .J ?_|refine .P hw ?_|refine .F ?_|refine .Y ?_|fail
  rfl
def qjg (hC:IsC H c ws bs)(hlo:lo<=c.P)(hlw:lo<=c.W)(i n:Int):∃H',qfU En lo Id.zaz [qjb c,I i,I n] H=some (qag,H')/\IsC H' c (qi6 ws i n) bs/\Only [c.P,c.W] H H':=by
 refine zzX (qjc hC hlo i) fun H1 hq => ?_
 have hw:=hq.1
 have hC1:=hq.2.1
 have ho:=hq.2.2.mono (S' := [c.P,c.W]) (by simp)
 clear hq
 have l0:=hC1.p0
 by_cases hi:0<=i/\i<(ws.length:Int)
 ·rw [zzT hi]at hw
  refine zzX (show ∃k:Nat,i=k from⟨i.toNat,by omega⟩) fun k hk => ?_
  subst hk
  have hkl:k<ws.length:=by omega
  have hs:=hC1.wax hkl n hlw
  unfold qi6
  rw [if_pos hi,Int.toNat_natCast]
  refine⟨_, ?_,hs.2.1,ho.trans (hs.2.2.mono (by simp))⟩
  refine qgw rfl Fn.zaz rfl rfl ?_
  repeat' first|refine .A ?_|refine .B ?_|refine .C ?_|refine .nil rfl ?_|refine .L l0 ?_|refine .P hw ?_|refine .R hkl ?_|refine .S hs.1 ?_|refine .F ?_|refine .Y ?_|fail
  rfl
 ·rw [zzF hi]at hw
  unfold qi6
  rw [if_neg hi]
  refine⟨H1, ?_,hC1,ho⟩
  refine qgw rfl Fn.zaz rfl rfl ?_
  repeat' first|refine .A ?_|refine .B ?_|refine .D ?_|refine .F ?_|refine .nil rfl ?_|refine .P hw ?_|fail
  rfl
def qjh (ws:List Int)(i old:Int):Bool:=decide (0<=i/\i<ws.length)&&decide (ws.getD i.toNat 0=old)
def qji (hC:IsC H c ws bs)(hlo:lo<=c.P)(hlw:lo<=c.W)(i old n:Int):∃H',qfU En lo Id.zav [qjb c,I i,I old,I n] H=some (.bool (qjh ws i old),H')/\IsC H' c (if qjh ws i old then qi6 ws i n else ws) bs/\Only [c.P,c.W] H H':=by
 refine zzX (qjc hC hlo i) fun H1 hq => ?_
 have hw:=hq.1
 have hC1:=hq.2.1
 have ho:=hq.2.2.mono (S' := [c.P,c.W]) (by simp)
 clear hq
 have l0:=hC1.p0
 unfold qjh
 by_cases hi:0<=i/\i<(ws.length:Int)
 ·rw [zzT hi]at hw|-
  refine zzX (show ∃k:Nat,i=k from⟨i.toNat,by omega⟩) fun k hk => ?_
  subst hk
  have hkl:k<ws.length:=by omega
  have hL:=hC1.w_ld hkl
  have hs:=hC1.wax hkl n hlw
  unfold qi6
  rw [if_pos hi,Int.toNat_natCast,Bool.true_and]
  by_cases he:ws.getD k 0=old
  ·rw [zzT he,if_pos rfl]
   refine⟨_, ?_,hs.2.1,ho.trans (hs.2.2.mono (by simp))⟩
   refine qgw rfl Fn.zav rfl rfl ?_
   repeat' first|refine .A ?_|refine .B ?_|refine .D ?_|refine .F ?_|refine .J ?_|refine .f6 ?_|refine .L l0 ?_|refine .L hL ?_|refine .P hw ?_|refine .R hkl ?_|refine .S hs.1 ?_|refine .Y ?_|fail
   rfl
  ·rw [zzF he,if_neg (by decide)]
   refine⟨_, ?_,hC1,ho⟩
   refine qgw rfl Fn.zav rfl rfl ?_
   repeat' first|refine .A ?_|refine .B ?_|refine .C ?_|refine .J ?_|refine .t6 ?_|refine .L l0 ?_|refine .L hL ?_|refine .P hw ?_|refine .R hkl ?_|refine .F ?_|refine .Y ?_|fail
   rfl
 ·rw [zzF hi]at hw|-
  rw [Bool.false_and,if_neg (by decide)]
  refine⟨H1, ?_,hC1,ho⟩
  refine qgw rfl Fn.zav rfl rfl ?_
  repeat' first|refine .A ?_|refine .B ?_|refine .C ?_|refine .J ?_|refine .P hw ?_|refine .D ?_|refine .F ?_|refine .Y ?_|fail
  rfl
def qjj (hC:IsC H c ws bs)(hlo:lo<=c.P)(i:Int):∃H',qfU En lo Id.zat [qjb c,I i] H=some (I (qi5 bs i),H')/\IsC H' c ws bs/\Only [c.P] H H':=by
 refine zzX (qjd hC hlo i) fun H1 hq => ?_
 have hw:=hq.1
 have hC1:=hq.2.1
 refine⟨H1, ?_,hC1,hq.2.2⟩
 clear hq
 refine qgw rfl Fn.zat rfl rfl ?_
 have l1:=hC1.p1
 by_cases hi:0<=i/\i<(bs.length:Int)
 ·rw [zzT hi]at hw
  refine zzX (show ∃k:Nat,i=k from⟨i.toNat,by omega⟩) fun k hk => ?_
  subst hk
  have hkl:k<bs.length:=by omega
  have hL:=hC1.y_ld hkl
  have hb:=hC.byte _ (List.mem_of_getElem? (qja hkl))
  unfold qi5
  rw [if_pos hi,Int.toNat_natCast]
  repeat' first|refine .A ?_|refine .B ?_|refine .D ?_|refine .F ?_|refine .J ?_|refine .L l1 ?_|refine .L hL ?_|refine .P hw ?_|refine .R hkl ?_|refine .Y ?_|fail
  rw [qiX (by omega) (by omega)]
 ·rw [zzF hi]at hw
  unfold qi5
  rw [if_neg hi]
  repeat' first|refine .A ?_|refine .B ?_|refine .C ?_|refine .J ?_|refine .P hw ?_|refine .F ?_|refine .Y ?_|fail
  rfl
def qjk (hC:IsC H c ws bs)(hlo:lo<=c.P)(hly:lo<=c.Y)(i n:Int):∃H',qfU En lo Id.zay [qjb c,I i,I n] H=some (qag,H')/\IsC H' c ws (qi6 bs i (qi8 n))/\Only [c.P,c.Y] H H':=by
 refine zzX (qjd hC hlo i) fun H1 hq => ?_
 have hw:=hq.1
 have hC1:=hq.2.1
 have ho:=hq.2.2.mono (S' := [c.P,c.Y]) (by simp)
 clear hq
 have l1:=hC1.p1
 by_cases hi:0<=i/\i<(bs.length:Int)
 ·rw [zzT hi]at hw
  refine zzX (show ∃k:Nat,i=k from⟨i.toNat,by omega⟩) fun k hk => ?_
  subst hk
  have hkl:k<bs.length:=by omega
  have hs:=hC1.waP hkl (qi8 n) (qi9 n) hly
  unfold qi6
  rw [if_pos hi,Int.toNat_natCast]
  refine⟨_, ?_,hs.2.1,ho.trans (hs.2.2.mono (by simp))⟩
  refine qgw rfl Fn.zay rfl rfl ?_
  repeat' first|refine .A ?_|refine .B ?_|refine .C ?_|refine .nil rfl ?_|refine .L l1 ?_|refine .P hw ?_|refine .R hkl ?_|refine .S hs.1 ?_|refine .F ?_|refine .Y ?_|fail
  rfl
 ·rw [zzF hi]at hw
  unfold qi6
  rw [if_neg hi]
  refine⟨H1, ?_,hC1,ho⟩
  refine qgw rfl Fn.zay rfl rfl ?_
  repeat' first|refine .A ?_|refine .B ?_|refine .D ?_|refine .F ?_|refine .nil rfl ?_|refine .P hw ?_|fail
  rfl
def qjl (hC:IsC H c ws bs):qfU En lo Id.zaA [qjb c] H=some (N ws.length,H):=by
 refine qgw rfl Fn.zaA rfl rfl ?_
 have l0:=hC.p0
 repeat' first|refine .A ?_|refine .B ?_|refine .D ?_|refine .F ?_|refine .J ?_|refine .L l0 ?_|refine .Y ?_|fail
 rfl
def qjm (hC:IsC H c ws bs):qfU En lo Id.zau [qjb c] H=some (N bs.length,H):=by
 refine qgw rfl Fn.zau rfl rfl ?_
 have l1:=hC.p1
 repeat' first|refine .A ?_|refine .B ?_|refine .D ?_|refine .F ?_|refine .J ?_|refine .L l1 ?_|refine .Y ?_|fail
 rfl
end
def qjn (h:qab)(nw nb:Nat):qab:=h ++ [.row (qiQ (List.replicate nw 0)) false] ++ [.row (u8s (List.replicate nb 0)) false] ++ [.row (qi4 ⟨h.length+2,h.length,h.length+1⟩ nw nb 0) false]
def qjo (h:qab):CB:=⟨h.length+2,h.length,h.length+1⟩
def qjp (k:IntKind):∀n,qaL [Value.int k 0] n=(List.replicate n (0:Int)).map (.int k)
 | 0=>rfl
 | n+1=>by rw [List.replicate_succ,List.map_cons,<-qjp k n];rfl
def qjq (h:qab)(nw nb:Nat):IsC (qjn h nw nb) (qjo h) (List.replicate nw 0) (List.replicate nb 0)/\Ext h (qjn h nw nb):=by
 refine⟨⟨⟨0, ?_⟩, ?_, ?_, ?_, ?_, ?_, ?_⟩, ?_⟩
 ·unfold qjn qjo
  simp only [List.length_replicate]
  rw [zzB (by simp)]
  simp
 ·unfold qjn qjo
  rw [zzA (by simp),zzA (by simp),zzB (by simp)]
  simp
 ·unfold qjn qjo
  rw [zzA (by simp),zzB (by simp)]
  simp
 ·simp [qjo]
 ·simp [qjo]
 ·simp [qjo]
 ·intro b hb
  rw [List.eq_of_mem_replicate hb];omega
 ·exact(((Ext.refl h).app _).app _).app _
def qjr (lo:Nat)(h:qab){nw nb:Nat}(h1:1<=nw)(h2:nw<=4096)(h3:nb<=4096):qfU En lo Id.zas [N nw,N nb] h=some (qjb (qjo h),qjn h nw nb):=by
 refine qgw rfl Fn.zas rfl rfl ?_
 have hm:=fun lo=>qi3 lo h nw nb
 rw [show(inB (nw:Int) 1 4096&&inB (nb:Int) 0 4096)=true by simp [inB];omega]at hm
 repeat' first|refine .A ?_|refine .B ?_|refine .D ?_|refine .F ?_|refine .J ?_|refine .P (hm _) ?_|refine .mks rfl rfl rfl ⟨zzR _,by omega,by decide⟩ ?_|refine .Y ?_|fail
 unfold qjn qjo
 rw [qjp,qjp]
 simp only [zzM,List.length_singleton]
 rfl
abbrev ifC (c:CB):Value := .iface qiT (qjb c)
def lay (T S:Int):Value := .agg #[I T,I S]
def qjs {c:Cfg}(h:c.may):(Value.agg (qiZ c).toArray)=lay c.T c.S:=by unfold qiZ lay;rw [if_pos h]
def qjt (lo:Nat)(h:qab){c:Cfg}(hm:c.may):qfU En lo Id.zcm [.agg c.cs.toArray] h=some (.tuple #[lay c.T c.S,I 0],h):=by rw [qi0,if_pos hm,qjs hm]
def qju (lo:Nat)(h:qab){c:Cfg}(hm:c.may):qfU En lo Id.zcj [lay c.T c.S] h=some (I (qi2 c),h):=by
 refine qgx rfl Fn.zcj rfl rfl ?_
 unfold Cfg.may at hm
 repeat' first|refine .A ?_|refine .B ?_|refine .C ?_|refine .D ?_|refine .F ?_|refine .J ?_|refine .eqc rfl rfl rfl rfl (fun hc => ?_) (fun hc => ?_)|refine .Y ?_|fail
 ·simp at hc;omega
 ·refine qiV ?_
  unfold qi2
  rw [qiX (n:=4+c.T) (by omega) (by omega),qiX (n:=3*c.S) (by omega) (by omega),qiX (by omega) (by omega)]
def qjv (lo:Nat)(h:qab){c:Cfg}(hm:c.may)(n:Int):qfU En lo Id.zcl [lay c.T c.S,I n] h=some (I n,h):=by
 refine qgx rfl Fn.zcl rfl rfl ?_
 unfold Cfg.may at hm
 repeat' first|refine .A ?_|refine .B ?_|refine .C ?_|refine .D ?_|refine .F ?_|refine .J ?_|refine .eqc rfl rfl rfl rfl (fun hc => ?_) (fun hc => ?_)|refine .Y ?_|fail
 ·simp at hc;omega
 ·rfl
def qjw (lo:Nat)(h:qab){c:Cfg}(hm:c.may):qfU En lo Id.zci [lay c.T c.S] h=some (I 1,h):=by
 refine qgx rfl Fn.zci rfl rfl ?_
 repeat' first|refine .A ?_|refine .B ?_|refine .J ?_|refine .P (qjv _ _ hm _) ?_|refine .F ?_|refine .Y ?_|fail
 rfl
def qjx (c:Cfg)(s k:Int):Int:=if 0<=s/\s<c.S then 4+c.T+3*s+k else -1
def qjy (lo:Nat)(h:qab){c:Cfg}(hm:c.may)(s k:Int)(hk:0<=k/\k<=2):qfU En lo Id.zck [lay c.T c.S,I s,I k] h=some (I (qjx c s k),h):=by
 have hin:=fun lo=>qiY lo h s 0 (c.S-1)
 unfold Cfg.may at hm
 have hw:IntKind.i64.wrap (c.S-1)=c.S-1:=qiX (by omega) (by omega)
 unfold qjx
 by_cases hs:0<=s/\s<c.S
 ·rw [show inB s 0 (c.S-1)=true by simp [inB];omega,<-hw]at hin
  rw [if_pos hs]
  refine qgx rfl Fn.zck rfl rfl ?_
  repeat' first|refine .A ?_|refine .B ?_|refine .D ?_|refine .F ?_|refine .J ?_|refine .C ?_|refine .P (hin _) ?_|refine .Y ?_|fail
  refine qiV ?_
  rw [qiX (n:=4+c.T) (by omega) (by omega),qiX (n:=3*s) (by omega) (by omega),qiX (n:=4+c.T+3*s) (by omega) (by omega),qiX (by omega) (by omega)]
 ·rw [show inB s 0 (c.S-1)=false by simp [inB];omega,<-hw]at hin
  rw [if_neg hs]
  refine qgx rfl Fn.zck rfl rfl ?_
  repeat' first|refine .A ?_|refine .B ?_|refine .C ?_|refine .J ?_|refine .P (hin _) ?_|refine .F ?_|refine .Y ?_|fail
  rfl
def qjz (lo:Nat)(h:qab){c:Cfg}(hm:c.may)(s:Int):qfU En lo Id.zce [lay c.T c.S,I s] h=some (I (qjx c s 2),h):=by
 refine qgx rfl Fn.zce rfl rfl ?_
 repeat' first|refine .A ?_|refine .B ?_|refine .J ?_|refine .call rfl rfl (qjy _ _ hm _ _ (by omega)) ?_|refine .F ?_|refine .Y ?_|fail
 rfl
def qjA (lo:Nat)(h:qab){c:Cfg}(hm:c.may)(s:Int):qfU En lo Id.zcb [lay c.T c.S,I s] h=some (I (qjx c s 0),h):=by
 refine qgx rfl Fn.zcb rfl rfl ?_
 repeat' first|refine .A ?_|refine .B ?_|refine .J ?_|refine .call rfl rfl (qjy _ _ hm _ _ (by omega)) ?_|refine .F ?_|refine .Y ?_|fail
 rfl
def qjB (lo:Nat)(h:qab){c:Cfg}(hm:c.may)(s:Int):qfU En lo Id.zch [lay c.T c.S,I s] h=some (I (qjx c s 1),h):=by
 refine qgx rfl Fn.zch rfl rfl ?_
 repeat' first|refine .A ?_|refine .B ?_|refine .J ?_|refine .call rfl rfl (qjy _ _ hm _ _ (by omega)) ?_|refine .F ?_|refine .Y ?_|fail
 rfl
def qjC (lo:Nat)(h:qab){c:Cfg}(hm:c.may):qfU En lo Id.zcd [lay c.T c.S] h=some (I 0,h):=by
 refine qgx rfl Fn.zcd rfl rfl ?_
 repeat' first|refine .A ?_|refine .B ?_|refine .J ?_|refine .P (qjv _ _ hm _) ?_|refine .F ?_|refine .Y ?_|fail
 rfl
def qjD (lo:Nat)(h:qab){c:Cfg}(hm:c.may):qfU En lo Id.zcg [lay c.T c.S] h=some (I 2,h):=by
 refine qgx rfl Fn.zcg rfl rfl ?_
 repeat' first|refine .A ?_|refine .B ?_|refine .J ?_|refine .P (qjv _ _ hm _) ?_|refine .F ?_|refine .Y ?_|fail
 rfl
def qjE (lo:Nat)(h:qab){c:Cfg}(hm:c.may):qfU En lo Id.zcc [lay c.T c.S] h=some (I 3,h):=by
 refine qgx rfl Fn.zcc rfl rfl ?_
 repeat' first|refine .A ?_|refine .B ?_|refine .J ?_|refine .P (qjv _ _ hm _) ?_|refine .F ?_|refine .Y ?_|fail
 rfl
def qjF (c:Cfg)(t:Int):Int:=if 0<=t/\t<c.T then 4+t else -1
def qjG (lo:Nat)(h:qab){c:Cfg}(hm:c.may)(t:Int):qfU En lo Id.zcf [lay c.T c.S,I t] h=some (I (qjF c t),h):=by
 have hin:=fun lo=>qiY lo h t 0 (c.T-1)
 unfold Cfg.may at hm
 have hw:IntKind.i64.wrap (c.T-1)=c.T-1:=qiX (by omega) (by omega)
 unfold qjF
 by_cases hs:0<=t/\t<c.T
 ·rw [show inB t 0 (c.T-1)=true by simp [inB];omega,<-hw]at hin
  rw [if_pos hs]
  refine qgx rfl Fn.zcf rfl rfl ?_
  repeat' first|refine .A ?_|refine .B ?_|refine .D ?_|refine .F ?_|refine .J ?_|refine .C ?_|refine .P (hin _) ?_|refine .Y ?_|fail
  refine qiV ?_
  rw [qiX (by omega) (by omega)]
 ·rw [show inB t 0 (c.T-1)=false by simp [inB];omega,<-hw]at hin
  rw [if_neg hs]
  refine qgx rfl Fn.zcf rfl rfl ?_
  repeat' first|refine .A ?_|refine .B ?_|refine .C ?_|refine .J ?_|refine .P (hin _) ?_|refine .F ?_|refine .Y ?_|fail
  rfl
def qjH (lo:Nat)(h:qab):qfU En lo Id.zbO [I 1,I 0] h=some (.tuple #[I 1,I 0],h):=callR_iff.2 ⟨200,by kernel_rfl⟩
def qjI (c:Cfg)(m:Int)(k:Nat):Int:=if 4+c.T<=k/\((k:Int)-4-c.T)%3=2/\m<=((k:Int)-4-c.T)/3/\((k:Int)-4-c.T)/3+1<c.S then((k:Int)-4-c.T)/3+2 else 0
def qbc (c:Cfg)(m:Int):List Int:=(List.range (qi2 c).toNat).map (qjI c m)
def qjJ (c:Cfg):List Int:=(qbc c 0).set 1 1
def qjK (c:Cfg)(m:Int):(qbc c m).length=(qi2 c).toNat:=by simp [qbc]
def qjL (c:Cfg):(qjJ c).length=(qi2 c).toNat:=by simp [qjJ,qjK]
def qjM (c:Cfg)(m:Int){k:Nat}(h:k<(qi2 c).toNat):(qbc c m)[k]? = some (qjI c m k):=by simp [qbc,h]
def qjN {c:Cfg}(hm:c.may):qbc c c.S=List.replicate (qi2 c).toNat 0:=by
 refine List.ext_getElem? fun k => ?_
 by_cases hk:k<(qi2 c).toNat
 ·rw [qjM c _ hk,List.getElem?_replicate,if_pos hk]
  unfold qjI
  rw [if_neg (by omega)]
 ·rw [zzE (by rw [qjK];omega),zzE (by simp;omega)]
def qjO {c:Cfg}(hm:c.may){m:Int}(h0:0<=m)(h1:m<c.S):qi6 (qbc c (m+1)) (qjx c m 2) (if m+1<c.S then m+2 else 0)=qbc c m:=by
 unfold Cfg.may at hm
 have hs:qjx c m 2=4+c.T+3*m+2:=by unfold qjx;rw [if_pos ⟨h0,h1⟩]
 rw [hs]
 unfold qi6
 rw [if_pos ⟨by omega,by rw [qjK];unfold qi2;omega⟩]
 refine List.ext_getElem? fun k => ?_
 rw [List.getElem?_set]
 by_cases hk:k<(qi2 c).toNat
 ·rw [qjM c _ hk,qjM c _ hk]
  by_cases he:(4+c.T+3*m+2).toNat=k
  ·rw [if_pos he,if_pos (by rw [qjK];omega)]
   congr 1
   unfold qjI
   have e1:((k:Int)-4-c.T)=3*m+2:=by omega
   rw [e1]
   split<;>split<;>omega
  ·rw [if_neg he]
   congr 1
   unfold qjI
   split<;>split<;>omega
 ·rw [zzE (by rw [qjK];omega),zzE (by rw [qjK];omega)]
  split
  ·rw [if_neg (by rw [qjK];omega)]
  ·rfl
set_option maxHeartbeats 1600000 in
def qjP {lo:Nat}{H:qab}{b:CB}{c:Cfg}{ws bs:List Int}(hm:c.may)(hC:IsC H b ws bs)(hlo:lo<=b.P/\lo<=b.W)(hw:ws.length=(qi2 c).toNat)(hb:(bs.length:Int)=c.A) :
  ∃H',qfU En lo Id.zcn [ifC b,.agg c.cs.toArray] H=some (I 0,H')/\IsC H' b (qjJ c) bs/\Only [b.P,b.W] H H':=by
 have key:∃v H',qfU En lo Id.zcn [ifC b,.agg c.cs.toArray] H=some (v,H')/\v=I 0/\IsC H' b (qjJ c) bs/\Only [b.P,b.W] H H':=by
  refine qiu rfl Fn.zcn rfl rfl ?_
  have hm':=hm
  unfold Cfg.may at hm'
  have hwI:(ws.length:Int)=qi2 c:=by rw [hw];unfold qi2;omega
  have hwb:ws.length<=200:=by rw [hw];unfold qi2;omega
  have hO:=fun lo=>qjt lo H hm
  have hLW:=fun lo=>qju lo H hm
  have hCW:=fun lo=>qjl (lo:=lo) hC
  have hCB:=fun lo=>qjm (lo:=lo) hC
  repeat' first|refine .A ?_|refine .B ?_|refine .D ?_|refine .F ?_|refine .G ?_|refine .C ?_|refine .f1 ?_|refine .f6 ?_|refine .P (hO _) ?_|refine .P (hLW _) ?_|refine .W (hCW _) ?_|refine .W (hCB _) ?_|refine .Y ?_|fail
  refine .loop (fun n f H1=>∃(i:Nat) (w1:List Int),n+i=ws.length/\f = [(0,ifC b),(5,lay c.T c.S),(38,I (qi2 c)),(39,N i)]/\IsC H1 b w1 bs/\w1=List.replicate i 0++ws.drop i/\Only [b.P,b.W] H H1) (n:=ws.length)
   ⟨0,ws,rfl,rfl,hC,by simp,.refl _ _⟩ ?_
  rintro n f H1 ⟨i,w1,hn,rfl,hC1,he,ho⟩ next
  by_cases hi:i<ws.length
  ·refine zzX (qjg hC1 hlo.1 hlo.2 (i:Nat) 0) fun H2 hq => ?_
   have hS:=hq.1
   have hC2:=hq.2.1
   have ho2:=ho.trans hq.2.2
   clear hq
   have e2:qi6 w1 (i:Nat) 0=List.replicate (i+1) 0++ws.drop (i+1):=by
    have hl:w1.length=ws.length:=by rw [he];simp;omega
    unfold qi6
    rw [if_pos ⟨by omega,by omega⟩,he,Int.toNat_natCast,List.set_append,if_neg (by simp),List.length_replicate,Nat.sub_self,List.drop_eq_getElem_cons hi,List.set_cons_zero,List.replicate_succ',List.append_assoc]
    rfl
   repeat' first|refine .A ?_|refine .B ?_|refine .C ?_|refine .F ?_|refine .G ?_|refine .H ?_|refine .t1 ?_|refine .n2 ?_|refine .W hS ?_|fail
   exact next (n-1) _ _ (by omega) ⟨i+1,_,by omega,rfl,hC2,e2,ho2⟩
  ·have hw1:w1=qbc c c.S:=by
    rw [he,List.drop_of_length_le (by omega),List.append_nil,qjN hm,show i=(qi2 c).toNat by omega]
   clear next he
   subst hw1
   repeat' first|refine .A ?_|refine .B ?_|refine .D ?_|refine .G ?_|refine .I ?_|refine .C ?_|refine .f1 ?_|refine .F ?_|refine .Y ?_|fail
   refine .loop (fun n f H3=>∃(m:Int),(n:Int)=m+1/\-1<=m/\m<c.S/\f = [(0,ifC b),(5,lay c.T c.S),(8,I (if m+1<c.S then m+2 else 0)),(9,I m)]/\IsC H3 b (qbc c (m+1)) bs/\Only [b.P,b.W] H H3) (n:=c.S.toNat)
    ⟨c.S-1,by omega,by omega,by omega,by show [(0,_),(5,_),(8,I 0),(9,I (IntKind.i64.wrap (c.S-1)))]=_;rw [qiX (by omega) (by omega),if_neg (by omega)],by rw [show c.S-1+1=c.S by omega];exact hC1,ho⟩ ?_
   rintro n f H3 ⟨m,hn3,hm0,hm1,rfl,hC3,ho3⟩ next
   by_cases hp:0<=m
   ·have hL:=fun lo=>qjz lo H3 hm m
    refine zzX (qjg hC3 hlo.1 hlo.2 (qjx c m 2) (if m+1<c.S then m+2 else 0)) fun H4 hq => ?_
    have hS:=hq.1
    have hC4:=hq.2.1
    have ho4:=ho3.trans hq.2.2
    clear hq
    rw [qjO hm hp hm1]at hC4
    repeat' first|refine .A ?_|refine .B ?_|refine .C ?_|refine .F ?_|refine .G ?_|refine .H ?_|refine .t4 ?_|refine .P (hL _) ?_|refine .W hS ?_|refine .Y ?_|fail
    refine next (n-1) _ _ (by omega) ⟨m-1,by omega,by omega,by omega, ?_,by rw [show m-1+1=m by omega];exact hC4,ho4⟩
    show [(0,_),(5,_),(8,I (IntKind.i64.wrap (m+1))),(9,I (IntKind.i64.wrap (m-1)))]=_
    rw [qiX (by omega) (by omega),qiX (by omega) (by omega),if_pos (by omega),show m-1+2=m+1 by omega]
   ·have hm2:m = -1:=by omega
    subst hm2
    have hK:=fun lo=>qjw lo H3 hm
    have hP:=fun lo=>qjH lo H3
    refine zzX (qjg hC3 hlo.1 hlo.2 1 1) fun H4 hq => ?_
    have hS:=hq.1
    have hC4:=hq.2.1
    have ho4:=ho3.trans hq.2.2
    clear hq
    have e4:qi6 (qbc c (-1+1)) 1 1=qjJ c:=by
     unfold qi6 qjJ
     rw [if_pos ⟨by omega,by rw [qjK];unfold qi2;omega⟩];rfl
    rw [e4]at hC4
    have hf:(if(-1:Int)+1<c.S then(-1:Int)+2 else 0)=1:=by rw [if_pos (by omega)];rfl
    rw [hf]
    repeat' first|refine .A ?_|refine .B ?_|refine .D ?_|refine .I ?_|refine .J ?_|refine .f4 ?_|refine .P (hK _) ?_|refine .P (hP _) ?_|refine .W hS ?_|refine .F ?_|refine .Y ?_|fail
    exact⟨rfl,hC4,ho4⟩
 obtain⟨v,H',h1,rfl,h2,h3⟩:=key
 exact⟨H',h1,h2,h3⟩
def qjQ (n:Nat):BitVec.ofInt 64 (n:Int)=BitVec.ofNat 64 n:=by
 apply BitVec.eq_of_toNat_eq
 simp [BitVec.toNat_ofInt]
def qjR {n:Nat}(h:n<2 ^ 62):(BitVec.ofInt 64 (n:Int)).toNat=n:=by
 rw [qjQ,BitVec.toNat_ofNat]
 exact Nat.mod_eq_of_lt (Nat.lt_trans h (by decide))
def qjS {n m:Nat}(hn:n<2 ^ 62)(hm:m<2 ^ 62):IntKind.i64.wrap ((BitVec.ofInt IntKind.i64.bits (n:Int) &&& BitVec.ofInt IntKind.i64.bits (m:Int)).toNat:Int)=((n &&& m:Nat):Int):=by
 show IntKind.i64.wrap ((BitVec.ofInt 64 (n:Int) &&& BitVec.ofInt 64 (m:Int)).toNat:Int)=_
 rw [BitVec.toNat_and,qjR hn,qjR hm]
 exact qis (Nat.lt_of_le_of_lt Nat.and_le_left hn)
def qjT {n m:Nat}(hn:n<2 ^ 62)(hm:m<2 ^ 62):IntKind.i64.wrap ((BitVec.ofInt IntKind.i64.bits (n:Int) ||| BitVec.ofInt IntKind.i64.bits (m:Int)).toNat:Int)=((n ||| m:Nat):Int):=by
 show IntKind.i64.wrap ((BitVec.ofInt 64 (n:Int) ||| BitVec.ofInt 64 (m:Int)).toNat:Int)=_
 rw [BitVec.toNat_or,qjR hn,qjR hm]
 exact qis (Nat.or_lt_two_pow hn hm)
def qjU {n m:Nat}(hn:n<2 ^ 62)(hm:m<2 ^ 62)(hd:n &&& m=0):IntKind.i64.wrap ((BitVec.ofInt IntKind.i64.bits (n:Int) &&& ~~~BitVec.ofInt IntKind.i64.bits (m:Int)).toNat:Int)=(n:Int):=by
 show IntKind.i64.wrap ((BitVec.ofInt 64 (n:Int) &&& ~~~BitVec.ofInt 64 (m:Int)).toNat:Int)=_
 have:BitVec.ofInt 64 (n:Int) &&& ~~~BitVec.ofInt 64 (m:Int)=BitVec.ofInt 64 (n:Int):=by
  rw [qjQ,qjQ]
  apply BitVec.eq_of_getLsbD_eq
  intro i hi
  rw [BitVec.getLsbD_and,BitVec.getLsbD_not]
  have h2:=congrArg (fun x=>x.testBit i) hd
  simp only [Nat.testBit_and,Nat.zero_testBit]at h2
  simp only [BitVec.getLsbD_ofNat,hi,decide_true,Bool.true_and]
  cases h3:n.testBit i<;>cases h4:m.testBit i<;>simp_all
 rw [this,qjR hn]
 exact qis hn
def qjV (n a b:Nat):n &&& ((2 ^ b-1)*2 ^ a)=n/2 ^ a%2 ^ b*2 ^ a:=by
 apply Nat.eq_of_testBit_eq
 intro i
 rw [Nat.testBit_and,Nat.testBit_mul_two_pow,Nat.testBit_mul_two_pow,Nat.testBit_two_pow_sub_one,Nat.testBit_mod_two_pow,Nat.testBit_div_two_pow]
 by_cases h:a<=i
 ·rw [show i-a+a=i by omega]
  by_cases h2:i-a<b<;>simp [h,h2]
 ·simp [h]
def qjW {a b:Nat}(h:a+b<=62)(hb:1<=b):(2 ^ b-1)*2 ^ a<2 ^ 62:=by
 have h1:(2 ^ b-1)*2 ^ a<2 ^ b*2 ^ a:=by
  have:0<2 ^ a:=Nat.two_pow_pos a
  have h3:0<2 ^ b:=Nat.two_pow_pos b
  exact Nat.mul_lt_mul_of_pos_right (by omega) this
 rw [<-Nat.pow_add]at h1
 exact Nat.lt_of_lt_of_le h1 (Nat.pow_le_pow_right (by decide) (by omega))
def fld (a b:Nat):Value := .agg #[N a,N b]
section
variable (lo:Nat)(h:qab){a b:Nat}
def qjX {f:Fr}{call:qaM}{x y:Operand}{n k:Nat}(hx:ev f x=some (N n))(hy:ev f y=some (N k))(hk:k<=62)(hb:n*2 ^ k<2 ^ 62):yf call lo (.bin .shl x y) f h=some (N (n*2 ^ k),h):=by
 simp only [yf,hx,hy,qaq,qap,if_true,qan]
 rw [if_neg (by omega)]
 have:min ((k:Int).toNat) IntKind.i64.bits=k:=by show min _ 64=_;omega
 rw [this,show((n:Int)*2 ^ k)=((n*2 ^ k:Nat):Int) by simp,qis hb]
def qjY {f:Fr}{call:qaM}{x y:Operand}{n k:Nat}(hx:ev f x=some (N n))(hy:ev f y=some (N k))(hk:k<=62):yf call lo (.bin .shr x y) f h=some (N (n/2 ^ k),h):=by
 simp only [yf,hx,hy,qaq,qap,if_true,qan]
 rw [if_neg (by omega)]
 have:min ((k:Int).toNat) IntKind.i64.bits=k:=by show min _ 64=_;omega
 rw [this]
 have h2:((n:Int)).fdiv (2 ^ k)=((n/2 ^ k:Nat):Int):=by
  rw [Int.fdiv_eq_ediv_of_nonneg _ (by exact Int.le_of_lt (Int.pow_pos (by decide)))]
  simp
 rw [h2]
def qjZ {f:Fr}{call:qaM}{x y:Operand}{n m:Nat}(hx:ev f x=some (N n))(hy:ev f y=some (N m))(hn:n<2 ^ 62)(hm:m<2 ^ 62):yf call lo (.bin .and x y) f h=some (N (n &&& m),h):=by
 simp only [yf,hx,hy,qaq,qap,qam,if_true]
 rw [qjS hn hm];rfl
def qj0 {f:Fr}{call:qaM}{x y:Operand}{n m:Nat}(hx:ev f x=some (N n))(hy:ev f y=some (N m))(hn:n<2 ^ 62)(hm:m<2 ^ 62):yf call lo (.bin .or x y) f h=some (N (n ||| m),h):=by
 simp only [yf,hx,hy,qaq,qap,qam,if_true]
 rw [qjT hn hm];rfl
def qj1 {f:Fr}{call:qaM}{x y:Operand}{n m:Nat}(hx:ev f x=some (N n))(hy:ev f y=some (N m))(hn:n<2 ^ 62)(hm:m<2 ^ 62)(hd:n &&& m=0):yf call lo (.bin .andNot x y) f h=some (N n,h):=by
 simp only [yf,hx,hy,qaq,qap,qam,if_true]
 rw [qjU hn hm hd];rfl
def qj2 (n:Int):qfU En lo Id.zbC [I n] h=some (.bool (decide (0<=n/\n<4611686018427387904)),h):=by
 refine qgx rfl Fn.zbC rfl rfl ?_
 repeat' first|refine .A ?_|refine .B ?_|refine .J ?_|refine .k1 (fun hc => ?_) fun hc => ?_|refine .k4 (fun hc => ?_) fun hc => ?_|refine .D ?_|refine .F ?_|refine .Y ?_|fail
 all_goals (refine qiW ?_;simp [*])
def qj3 (hab:a+b<=62)(hb:1<=b/\b<=32):qfU En lo Id.zbx [fld a b] h=some (.bool true,h):=by
 refine qgx rfl Fn.zbx rfl rfl ?_
 repeat' first|refine .A ?_|refine .B ?_|refine .J ?_|refine .C ?_|refine .t2 ?_|refine .t4 ?_|refine .waI (a:=62) rfl rfl rfl (by omega) ?_|refine .F ?_|refine .Y ?_|fail
 rfl
def qj4 (hb:1<=b/\b<=32):qfU En lo Id.zby [fld a b] h=some (N (2 ^ b-1),h):=by
 refine qgx rfl Fn.zby rfl rfl ?_
 have hp:1*2 ^ b<2 ^ 62:=by rw [Nat.one_mul];exact Nat.pow_lt_pow_right (by decide) (by omega)
 have hp2:1<=1*2 ^ b:=by rw [Nat.one_mul];exact Nat.two_pow_pos b
 repeat' first|refine .A ?_|refine .B ?_|refine .J ?_|refine .C ?_|refine .go rfl (qjX (n:=1) _ _ rfl rfl (by omega) hp) rfl ?_|refine .waI (b:=1) rfl rfl rfl ⟨hp2,hp⟩ ?_|refine .F ?_|refine .Y ?_|fail
 rw [Nat.one_mul];rfl
def qj5 (hab:a+b<=62)(hb:1<=b/\b<=32):qfU En lo Id.zbw [fld a b] h=some (N ((2 ^ b-1)*2 ^ a),h):=by
 refine qgx rfl Fn.zbw rfl rfl ?_
 repeat' first|refine .A ?_|refine .B ?_|refine .J ?_|refine .C ?_|refine .P (qj4 _ _ hb) ?_|refine .go rfl (qjX _ _ rfl rfl (by omega) (qjW hab hb.1)) rfl ?_|refine .F ?_|refine .Y ?_|fail
 rfl
def qj6 (hab:a+b<=62)(hb:1<=b/\b<=32)(n:Int):qfU En lo Id.zbB [fld a b,.func (.func Id.zbw) #[] #[],I n] h=some (N ((2 ^ b-1)*2 ^ a),h):=by
 refine qgx rfl Fn.zbB rfl rfl ?_
 repeat' first|refine .A ?_|refine .B ?_|refine .D ?_|refine .F ?_|refine .J ?_|refine .P (qj3 _ _ hab hb) ?_|refine .yt rfl rfl rfl rfl (qj5 _ _ hab hb) ?_|refine .Y ?_|fail
 rfl
def qj7 (hab:a+b<=62)(hb:1<=b/\b<=32){n:Nat}(hn:n<2 ^ 62):qfU En lo Id.zbz [N n,fld a b] h=some (N (n/2 ^ a%2 ^ b),h):=by
 have hw:=fun lo=>qj2 lo h (n:Int)
 rw [zzT (show(0:Int)<=n/\(n:Int)<4611686018427387904 by omega)]at hw
 have hm:=qjW hab hb.1
 refine qgx rfl Fn.zbz rfl rfl ?_
 have mx:∀{f:Fr} {call:qaM} {x:Operand},ev f x=some (N a)->yf call h.length (.max [x,.const (I 0)]) f h=some (N a,h):=fun {f call x} hx=>by
  have h0:ev f (.const (I 0))=some (I 0):=rfl
  have hmx:qaK .i64 (a:Int) [I 0]=some (a:Int):=by
   simp only [qaK,if_true]
   rw [if_neg (by omega)]
  simp only [yf,evs,hx,h0]
  show(match qaK .i64 (a:Int) [I 0]with|some m=>some (Value.int .i64 m,h)|none=>none)=_
  rw [hmx]
 repeat' first|refine .A ?_|refine .B ?_|refine .D ?_|refine .F ?_|refine .J ?_|refine .C ?_|refine .P (hw _) ?_|refine .P (qj6 _ _ hab hb _) ?_|refine .go rfl (qjZ _ _ rfl rfl hn hm) rfl ?_|refine .go rfl (mx rfl) rfl ?_|refine .go rfl (qjY _ _ rfl rfl (by omega)) rfl ?_|refine .Y ?_|fail
 rw [qjV,Nat.mul_div_cancel _ (Nat.two_pow_pos a)];rfl
def qj8 (hab:a+b<=62)(hb:1<=b/\b<=32){n k:Nat}(hn:n<2 ^ a)(hk:k<2 ^ b):qfU En lo Id.zbA [N n,fld a b,N k] h=some (.tuple #[N (n+k*2 ^ a),I 0],h):=by
 have hn62:n<2 ^ 62:=Nat.lt_of_lt_of_le hn (Nat.pow_le_pow_right (by decide) (by omega))
 have hw:=fun lo=>qj2 lo h (n:Int)
 rw [zzT (show(0:Int)<=n/\(n:Int)<4611686018427387904 by omega)]at hw
 have hm:=qjW hab hb.1
 have hkm:k*2 ^ a<2 ^ 62:=Nat.lt_of_le_of_lt (Nat.mul_le_mul_right _ (by omega)) hm
 have hd:n &&& ((2 ^ b-1)*2 ^ a)=0:=by rw [qjV,Nat.div_eq_of_lt hn];simp
 have hor:n ||| (k*2 ^ a)=n+k*2 ^ a:=by
  rw [Nat.or_comm,Nat.mul_comm,<-Nat.two_pow_add_eq_or_of_lt hn,Nat.add_comm]
 refine qgx rfl Fn.zbA rfl rfl ?_
 repeat' first|refine .A ?_|refine .B ?_|refine .D ?_|refine .F ?_|refine .G ?_|refine .H ?_|refine .J ?_|refine .C ?_|refine .f1 ?_|refine .f3 ?_|refine .P (hw _) ?_|refine .P (qj3 _ _ hab hb) ?_|refine .P (qj4 _ _ hb) ?_|refine .P (qj5 _ _ hab hb) ?_|refine .go rfl (qj1 _ _ rfl rfl hn62 hm hd) rfl ?_|refine .go rfl (qjX _ _ rfl rfl (by omega) hkm) rfl ?_|refine .go rfl (qj0 _ _ rfl rfl hn62 hkm) rfl ?_|refine .Y ?_|fail
 rw [hor];rfl
end
structure Ent where
 o:Int
 g:Int
 p:Int
 u:Int
 lk:Bool
 lv:Bool
 deriving DecidableEq
def Ent.cs (e:Ent):List Value := [I e.o,I e.g,I e.p,I e.u,.bool e.lk,.bool e.lv]
def Ent.zero:Ent:=⟨0,0,0,0,false,false⟩
def Ent.may (e:Ent):Prop:=0<=e.o/\e.o<=4096/\0<=e.g/\e.g<=1000/\0<=e.p/\e.p<=7/\0<=e.u/\e.u<=15/\(e.lk=true->e.p+e.u=0)/\(e.lv=false->e.o=0/\e.p=0/\e.u=0/\e.lk=false)
instance (e:Ent):Decidable e.may:=by unfold Ent.may;infer_instance
def qj9 (b:Bool):Nat:=if b then 1 else 0
def qka (n:Nat):Ent:=⟨(n/2 ^ 0%2 ^ 20:Nat),(n/2 ^ 20%2 ^ 20:Nat),(n/2 ^ 40%2 ^ 4:Nat),(n/2 ^ 44%2 ^ 4:Nat),decide (n/2 ^ 48%2 ^ 1=1),decide (n/2 ^ 49%2 ^ 1=1)⟩
def qkb (w:Int):Option Ent:=if 0<=w/\w<1125899906842624/\(qka w.toNat).may then some (qka w.toNat)else none
def qkc (e:Ent):Nat:=e.o.toNat+e.g.toNat*2 ^ 20+e.p.toNat*2 ^ 40+e.u.toNat*2 ^ 44+qj9 e.lk*2 ^ 48+qj9 e.lv*2 ^ 49
def qkd {e:Ent}(h:e.may):qkc e<2 ^ 50:=by
 unfold Ent.may at h
 have h1:qj9 e.lk<=1:=by unfold qj9;split<;>decide
 have h2:qj9 e.lv<=1:=by unfold qj9;split<;>decide
 unfold qkc
 omega
def qke {e:Ent}(h:e.may):qka (qkc e)=e:=by
 unfold Ent.may at h
 have h1:qj9 e.lk<=1:=by unfold qj9;split<;>decide
 have h2:qj9 e.lv<=1:=by unfold qj9;split<;>decide
 have e5:decide (qkc e/2 ^ 48%2 ^ 1=1)=e.lk:=by
  have:qkc e/2 ^ 48%2 ^ 1=qj9 e.lk:=by unfold qkc;omega
  rw [this];unfold qj9;cases e.lk<;>rfl
 have e6:decide (qkc e/2 ^ 49%2 ^ 1=1)=e.lv:=by
  have:qkc e/2 ^ 49%2 ^ 1=qj9 e.lv:=by unfold qkc;omega
  rw [this];unfold qj9;cases e.lv<;>rfl
 unfold qka
 rw [e5,e6]
 obtain⟨o,g,p,u,lk,lv⟩:=e
 simp only at h h1 h2|-
 have q1:((qkc ⟨o,g,p,u,lk,lv⟩/2 ^ 0%2 ^ 20:Nat):Int)=o:=by unfold qkc;simp only;omega
 have q2:((qkc ⟨o,g,p,u,lk,lv⟩/2 ^ 20%2 ^ 20:Nat):Int)=g:=by unfold qkc;simp only;omega
 have q3:((qkc ⟨o,g,p,u,lk,lv⟩/2 ^ 40%2 ^ 4:Nat):Int)=p:=by unfold qkc;simp only;omega
 have q4:((qkc ⟨o,g,p,u,lk,lv⟩/2 ^ 44%2 ^ 4:Nat):Int)=u:=by unfold qkc;simp only;omega
 rw [q1,q2,q3,q4]
def qkf {e:Ent}(h:e.may):qkb (qkc e:Nat)=some e:=by
 have:=qkd h
 unfold qkb
 rw [Int.toNat_natCast,qke h,if_pos ⟨by omega,by omega,h⟩]
def qkg {n:Nat}(h:n<2 ^ 50):qkc (qka n)=n:=by
 unfold qkc qka
 simp only [Int.toNat_natCast]
 have e5:qj9 (decide (n/2 ^ 48%2 ^ 1=1))=n/2 ^ 48%2 ^ 1:=by
  unfold qj9
  by_cases hh:n/2 ^ 48%2 ^ 1=1
  ·rw [zzT hh,if_pos rfl,hh]
  ·rw [zzF hh,if_neg (by decide)];omega
 have e6:qj9 (decide (n/2 ^ 49%2 ^ 1=1))=n/2 ^ 49%2 ^ 1:=by
  unfold qj9
  by_cases hh:n/2 ^ 49%2 ^ 1=1
  ·rw [zzT hh,if_pos rfl,hh]
  ·rw [zzF hh,if_neg (by decide)];omega
 rw [e5,e6]
 omega
def qkh {w:Int}{e:Ent}(h:qkb w=some e):(qkc e:Int)=w/\e.may:=by
 unfold qkb at h
 split at h
 ·rename_i hc
  injection h with h
  subst h
  exact⟨by rw [qkg (by omega)];omega,hc.2.2⟩
 ·cases h
def qki (lo:Nat)(h:qab)(n m:Int):qfU En lo Id.zbq [I n,I m] h=some (.bool (inB n 0 m),h):=by
 refine qgx rfl Fn.zbq rfl rfl ?_
 repeat' first|refine .A ?_|refine .B ?_|refine .J ?_|refine .k2 (fun hc => ?_) fun hc => ?_|refine .k4 (fun hc => ?_) fun hc => ?_|refine .D ?_|refine .F ?_|refine .Y ?_|fail
 all_goals (refine qiW ?_;simp [inB, *])
set_option maxHeartbeats 1600000 in
def qkj (lo:Nat)(h:qab)(e:Ent):qfU En lo Id.zaY [.agg e.cs.toArray] h=some (.bool (decide e.may),h):=by
 have hi:=fun lo n m=>qki lo h n m
 refine qgx rfl Fn.zaY rfl rfl ?_
 by_cases hm:e.may
 ·have hm':=hm
  unfold Ent.may at hm'
  rw [zzT hm]
  have i1:=fun lo=>hi lo e.o 4096
  have i2:=fun lo=>hi lo e.g 1000
  have i3:=fun lo=>hi lo e.p 7
  have i4:=fun lo=>hi lo e.u 15
  rw [show inB e.o 0 4096=true by simp [inB];omega]at i1
  rw [show inB e.g 0 1000=true by simp [inB];omega]at i2
  rw [show inB e.p 0 7=true by simp [inB];omega]at i3
  rw [show inB e.u 0 15=true by simp [inB];omega]at i4
  have hw:IntKind.i64.wrap (e.p+e.u)=e.p+e.u:=qiX (by omega) (by omega)
  obtain⟨o,g,p,u,lk,lv⟩:=e
  cases lk
  all_goals
   cases lv
   all_goals
    simp only at hm' hw
    repeat' first|refine .A ?_|refine .B ?_|refine .C ?_|refine .D ?_|refine .F ?_|refine .G ?_|refine .H ?_|refine .J ?_|refine .k3 (fun hc => ?_) fun hc => ?_|refine .P (i1 _) ?_|refine .P (i2 _) ?_|refine .P (i3 _) ?_|refine .P (i4 _) ?_|refine .eqc rfl rfl rfl rfl (fun hc => ?_) (fun hc => ?_)|refine .Y ?_|fail
    all_goals first|rfl|(exfalso;simp at hc hm'<;>omega)|(exfalso;simp at hm'<;>omega)|(exfalso;omega)
 ·rw [zzF hm]
  unfold Ent.may at hm
  obtain⟨o,g,p,u,lk,lv⟩:=e
  cases lk
  all_goals
   cases lv
   all_goals
    simp only at hm
    repeat' first|refine .A ?_|refine .B ?_|refine .C ?_|refine .D ?_|refine .F ?_|refine .G ?_|refine .H ?_|refine .J ?_|refine .k3 (fun hc => ?_) fun hc => ?_|refine .y7 rfl rfl (hi _ _ _) (fun hc => ?_) (fun hc => ?_)|refine .eqc rfl rfl rfl rfl (fun hc => ?_) (fun hc => ?_)|refine .Y ?_|fail
    all_goals first|rfl|(exfalso;apply hm;simp [inB]at * <;> omega)|(exfalso;apply hm;simp only [IntKind.wrap_i64]at *;simp [inB]at * <;> omega)
def qkk (lo:Nat)(h:qab)(b:Bool):qfU En lo Id.zbn [.bool b] h=some (N (qj9 b),h):=by
 refine qgx rfl Fn.zbn rfl rfl ?_
 cases b
 all_goals
  repeat' first|refine .A ?_|refine .B ?_|refine .C ?_|refine .D ?_|refine .F ?_|refine .J ?_|fail
  rfl
def qkl (lo:Nat)(h:qab):qfU En lo Id.zbp [] h=some (.agg #[I 0,I 20,I 20,I 20,I 40,I 4,I 44,I 4,I 48,I 1,I 49,I 1],h):=callR_iff.2 ⟨60,by kernel_rfl⟩
end Go.Proofs.YtlgnnpkdhbhdgaaGreat
