/- The seat's operations. -/
import Derived.Test.YtdinebegmppnoabGreatSoundFn
import Derived.Test.YtdinebegmppnoabGreatIrD
set_option linter.unusedVariables false
set_option linter.unusedSimpArgs false

namespace Go.Proofs.YtdinebegmppnoabGreat
open Go Go.Ir

abbrev qiU:Nat:=37
abbrev alT:Nat:=107
abbrev feT:Nat:=140
abbrev rdT:Nat:=142
abbrev wrT:Nat:=144
abbrev pnT:Nat:=146
abbrev noT:Nat:=149
theorem qiV (lo:Nat)(h:qab):qfV En lo Id.zcJ [] h=some (.bool true,h):=callR_iff.2 ⟨1,by kernel_rfl⟩
end Go.Proofs.YtdinebegmppnoabGreat

/- Small functions: whether a config may be, and where words lie. -/
namespace Go.Proofs.YtdinebegmppnoabGreat
open Go Go.Ir

abbrev N (n:Nat):Value := .int .i64 (n:Int)
abbrev I (n:Int):Value := .int .i64 n
theorem qiW {h H:qab}{n m:Int}(e:n=m):Ir.tidy h (.int .i64 n) H=some (.int .i64 m,h):=by subst e;rfl
theorem qiX {h H:qab}{n m:Bool}(e:n=m):Ir.tidy h (.bool n) H=some (.bool m,h):=by subst e;rfl
theorem qiY {n:Int}(h0 : -4611686018427387904≤n)(h1:n≤4611686018427387904):IntKind.i64.wrap n=n:=by rw [IntKind.wrap_i64];omega

structure Cfg where
 A:Int
 S:Int
 T:Int
def Cfg.cs (c:Cfg):List Value := [I c.A,I c.S,I c.T]
def Cfg.may (c:Cfg):Prop:=8≤c.A∧c.A≤4096∧c.A.tmod 8=0∧1≤c.S∧c.S≤64∧1≤c.T∧c.T≤4
instance (c:Cfg):Decidable c.may:=by unfold Cfg.may;infer_instance

def inB (n a b:Int):Bool:=decide (a≤n)&&decide (n≤b)
theorem qiZ (lo:Nat)(h:qab)(n a b:Int):qfV En lo Id.zco [I n,I a,I b] h=some (.bool (inB n a b),h):=by
 refine qgy rfl Fn.zco rfl rfl ?_
 repeat' first|refine .A ?_|refine .B ?_|refine .J ?_|refine .k2 (fun hc => ?_) fun hc => ?_|refine .k4 (fun hc => ?_) fun hc => ?_|refine .D ?_|refine .F ?_|refine .Y ?_|fail
 all_goals (refine qiX ?_;simp [inB, *])

def qi0 (c:Cfg):List Value:=if c.may then [I c.T,I c.S]else [I 0,I 0]
theorem qi1 (lo:Nat)(h:qab)(c:Cfg):qfV En lo Id.zcm [.agg c.cs.toArray] h=some (.tuple #[.agg (qi0 c).toArray,I (if c.may then 0 else 1)],h):=by
 have hin:=fun lo (n a b:Int)=>qiZ lo h n a b
 by_cases hm:c.may
 ·have hm':=hm
  unfold Cfg.may at hm'
  refine qgy rfl Fn.zcm rfl rfl ?_
  have i1:=fun lo=>hin lo c.A 8 4096
  have i2:=fun lo=>hin lo c.S 1 64
  have i3:=fun lo=>hin lo c.T 1 4
  rw [show inB c.A 8 4096=true by simp [inB];omega]at i1
  rw [show inB c.S 1 64=true by simp [inB];omega]at i2
  rw [show inB c.T 1 4=true by simp [inB];omega]at i3
  unfold qi0
  rw [if_pos hm,if_pos hm]
  repeat' first|refine .A ?_|refine .B ?_|refine .D ?_|refine .F ?_|refine .J ?_|refine .C ?_|refine .f6 ?_|refine .P (i1 _) ?_|refine .P (i2 _) ?_|refine .P (i3 _) ?_|refine .Y ?_|fail
  rfl
 ·unfold qi0
  rw [if_neg hm,if_neg hm]
  refine qgy rfl Fn.zcm rfl rfl ?_
  repeat' first|refine .A ?_|refine .B ?_|refine .C ?_|refine .D ?_|refine .F ?_|refine .J ?_|refine .k6 (fun hc => ?_) fun hc => ?_|refine .callb rfl rfl (hin _ _ _ _) (fun hc => ?_) (fun hc => ?_)|refine .Y ?_|fail
  all_goals first|rfl|(exfalso;apply hm;unfold Cfg.may;simp [inB]at *;omega)

theorem qi2 (lo:Nat)(h:qab)(c:Cfg):qfV En lo Id.zcL [.agg c.cs.toArray] h=some (.bool (decide c.may),h):=by
 refine qgy rfl Fn.zcL rfl rfl ?_
 repeat' first|refine .A ?_|refine .B ?_|refine .J ?_|refine .C ?_|refine .k2 (fun hc => ?_) fun hc => ?_|refine .k4 (fun hc => ?_) fun hc => ?_|refine .k5 (fun hc => ?_) fun hc => ?_|refine .D ?_|refine .F ?_|refine .Y ?_|fail
 all_goals
  refine qiX ?_
  first
  | (rw [decide_eq_true (show c.may by unfold Cfg.may;omega)])
  | (rw [decide_eq_false (show ¬c.may by unfold Cfg.may;omega)])

def qi3 (c:Cfg):Int:=4+c.T+3*c.S
theorem qi4 (lo:Nat)(h:qab)(a b:Int):qfV En lo Id.zaD [I a,I b] h=some (.bool (inB a 1 4096&&inB b 0 4096),h):=by
 refine qgy rfl Fn.zaD rfl rfl ?_
 repeat' first|refine .A ?_|refine .B ?_|refine .J ?_|refine .k2 (fun hc => ?_) fun hc => ?_|refine .k4 (fun hc => ?_) fun hc => ?_|refine .D ?_|refine .F ?_|refine .Y ?_|fail
 all_goals (refine qiX ?_;simp [inB, *])
end Go.Proofs.YtdinebegmppnoabGreat

/- Cells: what they are in the heap, and what each call does. -/
namespace Go.Proofs.YtdinebegmppnoabGreat
open Go Go.Ir

structure CB where
 P:Nat
 W:Nat
 Y:Nat
def u8s (l:List Int):List Value:=l.map (.int .u8 ·)
def qi5 (c:CB)(nw nb:Nat)(st:Int):List Value := [.slice (some ⟨c.W,0,none⟩) nw nw,.slice (some ⟨c.Y,0,none⟩) nb nb,I st]
structure IsC (H:qab)(c:CB)(ws bs:List Int):Prop where
 p:∃st,H[c.P]? = some (.row (qi5 c ws.length bs.length st) false)
 w:H[c.W]? = some (.row (qiR ws) false)
 y:H[c.Y]? = some (.row (u8s bs) false)
 pw:c.P≠c.W
 py:c.P≠c.Y
 wy:c.W≠c.Y
 byte:∀b∈bs,0≤b∧b<256

structure Only (S:List Nat)(H H':qab):Prop where
 len:H'.length=H.length
 same:∀j,j∉S→H'[j]? = H[j]?
theorem Only.refl (S:List Nat)(H:qab):Only S H H:=⟨rfl,fun _ _=>rfl⟩
theorem Only.trans {S:List Nat}{H H' H'':qab}(a:Only S H H')(b:Only S H' H''):Only S H H'':=⟨b.len.trans a.len,fun j hj=>(b.same j hj).trans (a.same j hj)⟩
theorem Only.set {S:List Nat}{H H':qab}(a:Only S H H'){i:Nat}{k:Blk}(hi:i∈S):Only S H (H'.set i k):=⟨by rw [List.length_set];exact a.len,fun j hj=>by rw [List.getElem?_set_ne (fun e=>hj (by rw [←e];exact hi))];exact a.same j hj⟩
theorem Only.mono {S S':List Nat}{H H':qab}(a:Only S H H')(h:∀i∈S,i∈S'):Only S' H H':=⟨a.len,fun j hj=>a.same j fun hs=>hj (h j hs)⟩

def qi6 (ws:List Int)(i:Int):Int:=if 0≤i∧i<ws.length then ws.getD i.toNat 0 else 0
def qi7 (ws:List Int)(i n:Int):List Int:=if 0≤i∧i<ws.length then ws.set i.toNat n else ws
theorem qi8 (ws:List Int)(i n:Int):(qi7 ws i n).length=ws.length:=by unfold qi7;split<;>simp
def qi9 (n:Int):Int:=IntKind.u8.wrap n
theorem qja (n:Int):0≤qi9 n∧qi9 n<256:=by
 unfold qi9 IntKind.wrap
 simp only [IntKind.bits,IntKind.signed,Bool.false_and]
 rw [if_neg (by decide)]
 omega

theorem qjb {ws:List Int}{k:Nat}(h:k<ws.length):ws[k]? = some (ws.getD k 0):=by
 rw [List.getD_eq_getElem?_getD,List.getElem?_eq_getElem h];rfl

section
variable {lo:Nat}{H:qab}{c:CB}{ws bs:List Int}

abbrev qjc (c:CB):Value := .pointer (some ⟨c.P,0,none⟩)

theorem qjd (hC:IsC H c ws bs)(hlo:lo≤c.P)(i:Int):∃H',qfV En lo Id.zaC [qjc c,I i] H=some (.bool (decide (0≤i∧i<ws.length)),H')∧IsC H' c ws bs∧Only [c.P] H H':=by
 refine Exists.elim hC.p fun st hp => ?_
 have hpl:=qiC hp
 have hst:stN lo H ⟨c.P,0+2,none⟩ (qaf (I (IntKind.i64.wrap (st+1))))=some (H.set c.P (.row (qi5 c ws.length bs.length (IntKind.i64.wrap (st+1))) false)):=qiF hp hlo (Nat.le_of_ble_eq_true rfl) rfl
 refine⟨H.set c.P (.row (qi5 c ws.length bs.length (IntKind.i64.wrap (st+1))) false), ?_,⟨⟨_,qiz hpl⟩,qiA hC.pw hC.w,qiA hC.py hC.y,hC.pw,hC.py,hC.wy,hC.byte⟩,(Only.refl _ _).set (by simp)⟩
 refine qgx rfl Fn.zaC rfl rfl ?_
 have l2:qav H none ⟨c.P,0+2,none⟩=some (I st):=qiD hp rfl
 have l0:qav (H.set c.P (.row (qi5 c ws.length bs.length (IntKind.i64.wrap (st+1))) false)) none ⟨c.P,0+0,none⟩=some (.slice (some ⟨c.W,0,none⟩) ws.length ws.length):=qiD (qiz hpl) rfl
 by_cases h0:0≤i
 ·by_cases h1:i<(ws.length:Int)
  ·rw [decide_eq_true (show 0≤i∧i<(ws.length:Int)from⟨h0,h1⟩)]
   repeat' first|refine .A ?_|refine .B ?_|refine .D ?_|refine .F ?_|refine .J ?_|refine .t1 ?_|refine .t4 ?_|refine .L l2 ?_|refine .L l0 ?_|refine .S hst ?_|refine .Y ?_|fail
   rfl
  ·rw [decide_eq_false (show ¬(0≤i∧i<(ws.length:Int))from fun h=>h1 h.2)]
   repeat' first|refine .A ?_|refine .B ?_|refine .D ?_|refine .F ?_|refine .J ?_|refine .f1 ?_|refine .t4 ?_|refine .L l2 ?_|refine .L l0 ?_|refine .S hst ?_|refine .Y ?_|fail
   rfl
 ·rw [decide_eq_false (show ¬(0≤i∧i<(ws.length:Int))from fun h=>h0 h.1)]
  repeat' first|refine .A ?_|refine .B ?_|refine .D ?_|refine .F ?_|refine .J ?_|refine .f4 ?_|refine .L l2 ?_|refine .S hst ?_|refine .Y ?_|fail
  rfl

theorem qje (hC:IsC H c ws bs)(hlo:lo≤c.P)(i:Int):∃H',qfV En lo Id.zaB [qjc c,I i] H=some (.bool (decide (0≤i∧i<bs.length)),H')∧IsC H' c ws bs∧Only [c.P] H H':=by
 refine Exists.elim hC.p fun st hp => ?_
 have hpl:=qiC hp
 have hst:stN lo H ⟨c.P,0+2,none⟩ (qaf (I (IntKind.i64.wrap (st+1))))=some (H.set c.P (.row (qi5 c ws.length bs.length (IntKind.i64.wrap (st+1))) false)):=qiF hp hlo (Nat.le_of_ble_eq_true rfl) rfl
 refine⟨H.set c.P (.row (qi5 c ws.length bs.length (IntKind.i64.wrap (st+1))) false), ?_,⟨⟨_,qiz hpl⟩,qiA hC.pw hC.w,qiA hC.py hC.y,hC.pw,hC.py,hC.wy,hC.byte⟩,(Only.refl _ _).set (by simp)⟩
 refine qgx rfl Fn.zaB rfl rfl ?_
 have l2:qav H none ⟨c.P,0+2,none⟩=some (I st):=qiD hp rfl
 have l1:qav (H.set c.P (.row (qi5 c ws.length bs.length (IntKind.i64.wrap (st+1))) false)) none ⟨c.P,0+1,none⟩=some (.slice (some ⟨c.Y,0,none⟩) bs.length bs.length):=qiD (qiz hpl) rfl
 by_cases h0:0≤i
 ·by_cases h1:i<(bs.length:Int)
  ·rw [decide_eq_true (show 0≤i∧i<(bs.length:Int)from⟨h0,h1⟩)]
   repeat' first|refine .A ?_|refine .B ?_|refine .D ?_|refine .F ?_|refine .J ?_|refine .t1 ?_|refine .t4 ?_|refine .L l2 ?_|refine .L l1 ?_|refine .S hst ?_|refine .Y ?_|fail
   rfl
  ·rw [decide_eq_false (show ¬(0≤i∧i<(bs.length:Int))from fun h=>h1 h.2)]
   repeat' first|refine .A ?_|refine .B ?_|refine .D ?_|refine .F ?_|refine .J ?_|refine .f1 ?_|refine .t4 ?_|refine .L l2 ?_|refine .L l1 ?_|refine .S hst ?_|refine .Y ?_|fail
   rfl
 ·rw [decide_eq_false (show ¬(0≤i∧i<(bs.length:Int))from fun h=>h0 h.1)]
  repeat' first|refine .A ?_|refine .B ?_|refine .D ?_|refine .F ?_|refine .J ?_|refine .f4 ?_|refine .L l2 ?_|refine .S hst ?_|refine .Y ?_|fail
  rfl

theorem IsC.w_ld (hC:IsC H c ws bs){k:Nat}(hk:k<ws.length):qav H none ⟨c.W,0+k*1,none⟩=some (I (ws.getD k 0)) :=
 qiD hC.w (by rw [Nat.zero_add,Nat.mul_one,qiR,List.getElem?_map,qjb hk];rfl)
theorem IsC.y_ld (hC:IsC H c ws bs){k:Nat}(hk:k<bs.length):qav H none ⟨c.Y,0+k*1,none⟩=some (.int .u8 (bs.getD k 0)) :=
 qiD hC.y (by rw [Nat.zero_add,Nat.mul_one,u8s,List.getElem?_map,qjb hk];rfl)
theorem IsC.p0 (hC:IsC H c ws bs):qav H none ⟨c.P,0+0,none⟩=some (.slice (some ⟨c.W,0,none⟩) ws.length ws.length):=by
 obtain⟨st,hp⟩:=hC.p
 exact qiD hp rfl
theorem IsC.p1 (hC:IsC H c ws bs):qav H none ⟨c.P,0+1,none⟩=some (.slice (some ⟨c.Y,0,none⟩) bs.length bs.length):=by
 obtain⟨st,hp⟩:=hC.p
 exact qiD hp rfl

theorem qjf {f:Int→Value}{l:List Int}{k:Nat}{n:Int}(hk:k<l.length):splice (l.map f) k [f n]=(l.set k n).map f:=by
 unfold splice
 simp only [List.length_singleton]
 rw [List.map_set,List.set_eq_take_append_cons_drop]
 simp [hk]

theorem IsC.set_w (hC:IsC H c ws bs){k:Nat}(hk:k<ws.length)(n:Int)(hlo:lo≤c.W) :
  stN lo H ⟨c.W,0+k*1,none⟩ (qaf (I n))=some (H.set c.W (.row (qiR (ws.set k n)) false))∧IsC (H.set c.W (.row (qiR (ws.set k n)) false)) c (ws.set k n) bs∧Only [c.W] H (H.set c.W (.row (qiR (ws.set k n)) false)):=by
 refine⟨?_,⟨?_,qiz (qiC hC.w),qiA hC.wy hC.y,hC.pw,hC.py,hC.wy,hC.byte⟩,(Only.refl _ _).set (by simp)⟩
 ·rw [Nat.zero_add,Nat.mul_one]
  exact qiF hC.w hlo (by show k+1≤_;simp [qiR];omega) (qjf hk)
 ·obtain⟨st,hp⟩:=hC.p
  exact⟨st,by rw [List.length_set];exact qiA hC.pw.symm hp⟩
theorem IsC.set_y (hC:IsC H c ws bs){k:Nat}(hk:k<bs.length)(n:Int)(hn:0≤n∧n<256)(hlo:lo≤c.Y) :
  stN lo H ⟨c.Y,0+k*1,none⟩ (qaf (.int .u8 n))=some (H.set c.Y (.row (u8s (bs.set k n)) false))∧IsC (H.set c.Y (.row (u8s (bs.set k n)) false)) c ws (bs.set k n)∧Only [c.Y] H (H.set c.Y (.row (u8s (bs.set k n)) false)):=by
 refine⟨?_,⟨?_,qiA hC.wy.symm hC.w,qiz (qiC hC.y),hC.pw,hC.py,hC.wy,fun b hb => ?_⟩,(Only.refl _ _).set (by simp)⟩
 ·rw [Nat.zero_add,Nat.mul_one]
  exact qiF hC.y hlo (by show k+1≤_;simp [u8s];omega) (qjf hk)
 ·obtain⟨st,hp⟩:=hC.p
  exact⟨st,by rw [List.length_set];exact qiA hC.py.symm hp⟩
 ·rcases List.mem_or_eq_of_mem_set hb with h|h
  ·exact hC.byte b h
  ·subst h;exact hn

theorem qjg (hC:IsC H c ws bs)(hlo:lo≤c.P)(i:Int):∃H',qfV En lo Id.zax [qjc c,I i] H=some (I (qi6 ws i),H')∧IsC H' c ws bs∧Only [c.P] H H':=by
 refine Exists.elim (qjd hC hlo i) fun H1 hq => ?_
 have hw:=hq.1
 have hC1:=hq.2.1
 refine⟨H1, ?_,hC1,hq.2.2⟩
 clear hq
 refine qgx rfl Fn.zax rfl rfl ?_
 have l0:=hC1.p0
 by_cases hi:0≤i∧i<(ws.length:Int)
 ·rw [decide_eq_true hi]at hw
  refine Exists.elim (show ∃k:Nat,i=k from⟨i.toNat,by omega⟩) fun k hk => ?_
  subst hk
  have hkl:k<ws.length:=by omega
  have hL:=hC1.w_ld hkl
  unfold qi6
  rw [if_pos hi,Int.toNat_natCast]
  repeat' first|refine .A ?_|refine .B ?_|refine .D ?_|refine .F ?_|refine .J ?_|refine .L l0 ?_|refine .L hL ?_|refine .P hw ?_|refine .R hkl ?_|refine .Y ?_|fail
  rfl
 ·rw [decide_eq_false hi]at hw
  unfold qi6
  rw [if_neg hi]
  repeat' first|refine .A ?_|refine .B ?_|refine .C ?_|refine .J ?_|refine .P hw ?_|refine .F ?_|refine .Y ?_|fail
  rfl

theorem qjh (hC:IsC H c ws bs)(hlo:lo≤c.P)(hlw:lo≤c.W)(i n:Int):∃H',qfV En lo Id.zaz [qjc c,I i,I n] H=some (qag,H')∧IsC H' c (qi7 ws i n) bs∧Only [c.P,c.W] H H':=by
 refine Exists.elim (qjd hC hlo i) fun H1 hq => ?_
 have hw:=hq.1
 have hC1:=hq.2.1
 have ho:=hq.2.2.mono (S' := [c.P,c.W]) (by simp)
 clear hq
 have l0:=hC1.p0
 by_cases hi:0≤i∧i<(ws.length:Int)
 ·rw [decide_eq_true hi]at hw
  refine Exists.elim (show ∃k:Nat,i=k from⟨i.toNat,by omega⟩) fun k hk => ?_
  subst hk
  have hkl:k<ws.length:=by omega
  have hs:=hC1.set_w hkl n hlw
  unfold qi7
  rw [if_pos hi,Int.toNat_natCast]
  refine⟨_, ?_,hs.2.1,ho.trans (hs.2.2.mono (by simp))⟩
  refine qgx rfl Fn.zaz rfl rfl ?_
  repeat' first|refine .A ?_|refine .B ?_|refine .C ?_|refine .nil rfl ?_|refine .L l0 ?_|refine .P hw ?_|refine .R hkl ?_|refine .S hs.1 ?_|refine .F ?_|refine .Y ?_|fail
  rfl
 ·rw [decide_eq_false hi]at hw
  unfold qi7
  rw [if_neg hi]
  refine⟨H1, ?_,hC1,ho⟩
  refine qgx rfl Fn.zaz rfl rfl ?_
  repeat' first|refine .A ?_|refine .B ?_|refine .D ?_|refine .F ?_|refine .nil rfl ?_|refine .P hw ?_|fail
  rfl

def qji (ws:List Int)(i old:Int):Bool:=decide (0≤i∧i<ws.length)&&decide (ws.getD i.toNat 0=old)
theorem qjj (hC:IsC H c ws bs)(hlo:lo≤c.P)(hlw:lo≤c.W)(i old n:Int):∃H',qfV En lo Id.zav [qjc c,I i,I old,I n] H=some (.bool (qji ws i old),H')∧IsC H' c (if qji ws i old then qi7 ws i n else ws) bs∧Only [c.P,c.W] H H':=by
 refine Exists.elim (qjd hC hlo i) fun H1 hq => ?_
 have hw:=hq.1
 have hC1:=hq.2.1
 have ho:=hq.2.2.mono (S' := [c.P,c.W]) (by simp)
 clear hq
 have l0:=hC1.p0
 unfold qji
 by_cases hi:0≤i∧i<(ws.length:Int)
 ·rw [decide_eq_true hi]at hw⊢
  refine Exists.elim (show ∃k:Nat,i=k from⟨i.toNat,by omega⟩) fun k hk => ?_
  subst hk
  have hkl:k<ws.length:=by omega
  have hL:=hC1.w_ld hkl
  have hs:=hC1.set_w hkl n hlw
  unfold qi7
  rw [if_pos hi,Int.toNat_natCast,Bool.true_and]
  by_cases he:ws.getD k 0=old
  ·rw [decide_eq_true he,if_pos rfl]
   refine⟨_, ?_,hs.2.1,ho.trans (hs.2.2.mono (by simp))⟩
   refine qgx rfl Fn.zav rfl rfl ?_
   repeat' first|refine .A ?_|refine .B ?_|refine .D ?_|refine .F ?_|refine .J ?_|refine .f6 ?_|refine .L l0 ?_|refine .L hL ?_|refine .P hw ?_|refine .R hkl ?_|refine .S hs.1 ?_|refine .Y ?_|fail
   rfl
  ·rw [decide_eq_false he,if_neg (by decide)]
   refine⟨_, ?_,hC1,ho⟩
   refine qgx rfl Fn.zav rfl rfl ?_
   repeat' first|refine .A ?_|refine .B ?_|refine .C ?_|refine .J ?_|refine .t6 ?_|refine .L l0 ?_|refine .L hL ?_|refine .P hw ?_|refine .R hkl ?_|refine .F ?_|refine .Y ?_|fail
   rfl
 ·rw [decide_eq_false hi]at hw⊢
  rw [Bool.false_and,if_neg (by decide)]
  refine⟨H1, ?_,hC1,ho⟩
  refine qgx rfl Fn.zav rfl rfl ?_
  repeat' first|refine .A ?_|refine .B ?_|refine .C ?_|refine .J ?_|refine .P hw ?_|refine .D ?_|refine .F ?_|refine .Y ?_|fail
  rfl

theorem qjk (hC:IsC H c ws bs)(hlo:lo≤c.P)(i:Int):∃H',qfV En lo Id.zat [qjc c,I i] H=some (I (qi6 bs i),H')∧IsC H' c ws bs∧Only [c.P] H H':=by
 refine Exists.elim (qje hC hlo i) fun H1 hq => ?_
 have hw:=hq.1
 have hC1:=hq.2.1
 refine⟨H1, ?_,hC1,hq.2.2⟩
 clear hq
 refine qgx rfl Fn.zat rfl rfl ?_
 have l1:=hC1.p1
 by_cases hi:0≤i∧i<(bs.length:Int)
 ·rw [decide_eq_true hi]at hw
  refine Exists.elim (show ∃k:Nat,i=k from⟨i.toNat,by omega⟩) fun k hk => ?_
  subst hk
  have hkl:k<bs.length:=by omega
  have hL:=hC1.y_ld hkl
  have hb:=hC.byte _ (List.mem_of_getElem? (qjb hkl))
  unfold qi6
  rw [if_pos hi,Int.toNat_natCast]
  repeat' first|refine .A ?_|refine .B ?_|refine .D ?_|refine .F ?_|refine .J ?_|refine .L l1 ?_|refine .L hL ?_|refine .P hw ?_|refine .R hkl ?_|refine .Y ?_|fail
  rw [qiY (by omega) (by omega)]
 ·rw [decide_eq_false hi]at hw
  unfold qi6
  rw [if_neg hi]
  repeat' first|refine .A ?_|refine .B ?_|refine .C ?_|refine .J ?_|refine .P hw ?_|refine .F ?_|refine .Y ?_|fail
  rfl

theorem qjl (hC:IsC H c ws bs)(hlo:lo≤c.P)(hly:lo≤c.Y)(i n:Int):∃H',qfV En lo Id.zay [qjc c,I i,I n] H=some (qag,H')∧IsC H' c ws (qi7 bs i (qi9 n))∧Only [c.P,c.Y] H H':=by
 refine Exists.elim (qje hC hlo i) fun H1 hq => ?_
 have hw:=hq.1
 have hC1:=hq.2.1
 have ho:=hq.2.2.mono (S' := [c.P,c.Y]) (by simp)
 clear hq
 have l1:=hC1.p1
 by_cases hi:0≤i∧i<(bs.length:Int)
 ·rw [decide_eq_true hi]at hw
  refine Exists.elim (show ∃k:Nat,i=k from⟨i.toNat,by omega⟩) fun k hk => ?_
  subst hk
  have hkl:k<bs.length:=by omega
  have hs:=hC1.set_y hkl (qi9 n) (qja n) hly
  unfold qi7
  rw [if_pos hi,Int.toNat_natCast]
  refine⟨_, ?_,hs.2.1,ho.trans (hs.2.2.mono (by simp))⟩
  refine qgx rfl Fn.zay rfl rfl ?_
  repeat' first|refine .A ?_|refine .B ?_|refine .C ?_|refine .nil rfl ?_|refine .L l1 ?_|refine .P hw ?_|refine .R hkl ?_|refine .S hs.1 ?_|refine .F ?_|refine .Y ?_|fail
  rfl
 ·rw [decide_eq_false hi]at hw
  unfold qi7
  rw [if_neg hi]
  refine⟨H1, ?_,hC1,ho⟩
  refine qgx rfl Fn.zay rfl rfl ?_
  repeat' first|refine .A ?_|refine .B ?_|refine .D ?_|refine .F ?_|refine .nil rfl ?_|refine .P hw ?_|fail
  rfl

theorem qjm (hC:IsC H c ws bs):qfV En lo Id.zaA [qjc c] H=some (N ws.length,H):=by
 refine qgx rfl Fn.zaA rfl rfl ?_
 have l0:=hC.p0
 repeat' first|refine .A ?_|refine .B ?_|refine .D ?_|refine .F ?_|refine .J ?_|refine .L l0 ?_|refine .Y ?_|fail
 rfl
theorem qjn (hC:IsC H c ws bs):qfV En lo Id.zau [qjc c] H=some (N bs.length,H):=by
 refine qgx rfl Fn.zau rfl rfl ?_
 have l1:=hC.p1
 repeat' first|refine .A ?_|refine .B ?_|refine .D ?_|refine .F ?_|refine .J ?_|refine .L l1 ?_|refine .Y ?_|fail
 rfl
end

def qjo (h:qab)(nw nb:Nat):qab:=h ++ [.row (qiR (List.replicate nw 0)) false] ++ [.row (u8s (List.replicate nb 0)) false] ++ [.row (qi5 ⟨h.length+2,h.length,h.length+1⟩ nw nb 0) false]
def qjp (h:qab):CB:=⟨h.length+2,h.length,h.length+1⟩

theorem qjq (k:IntKind):∀n,qaM [Value.int k 0] n=(List.replicate n (0:Int)).map (.int k)
 | 0=>rfl
 | n+1=>by rw [List.replicate_succ,List.map_cons,←qjq k n];rfl

theorem qjr (h:qab)(nw nb:Nat):IsC (qjo h nw nb) (qjp h) (List.replicate nw 0) (List.replicate nb 0)∧Ext h (qjo h nw nb):=by
 refine⟨⟨⟨0, ?_⟩, ?_, ?_, ?_, ?_, ?_, ?_⟩, ?_⟩
 ·unfold qjo qjp
  simp only [List.length_replicate]
  rw [List.getElem?_append_right (by simp)]
  simp
 ·unfold qjo qjp
  rw [List.getElem?_append_left (by simp),List.getElem?_append_left (by simp),List.getElem?_append_right (by simp)]
  simp
 ·unfold qjo qjp
  rw [List.getElem?_append_left (by simp),List.getElem?_append_right (by simp)]
  simp
 ·simp [qjp]
 ·simp [qjp]
 ·simp [qjp]
 ·intro b hb
  rw [List.eq_of_mem_replicate hb];omega
 ·exact(((Ext.refl h).app _).app _).app _

theorem qjs (lo:Nat)(h:qab){nw nb:Nat}(h1:1≤nw)(h2:nw≤4096)(h3:nb≤4096):qfV En lo Id.zas [N nw,N nb] h=some (qjc (qjp h),qjo h nw nb):=by
 refine qgx rfl Fn.zas rfl rfl ?_
 have hm:=fun lo=>qi4 lo h nw nb
 rw [show(inB (nw:Int) 1 4096&&inB (nb:Int) 0 4096)=true by simp [inB];omega]at hm
 repeat' first|refine .A ?_|refine .B ?_|refine .D ?_|refine .F ?_|refine .J ?_|refine .P (hm _) ?_|refine .mks rfl rfl rfl ⟨Nat.le_refl _,by omega,by decide⟩ ?_|refine .Y ?_|fail
 unfold qjo qjp
 rw [qjq,qjq]
 simp only [List.length_append,List.length_singleton]
 rfl
end Go.Proofs.YtdinebegmppnoabGreat

/- Where words lie; cells as they are at first. -/
namespace Go.Proofs.YtdinebegmppnoabGreat
open Go Go.Ir

abbrev ifC (c:CB):Value := .iface qiU (qjc c)
def lay (T S:Int):Value := .agg #[I T,I S]

theorem qjt {c:Cfg}(h:c.may):(Value.agg (qi0 c).toArray)=lay c.T c.S:=by unfold qi0 lay;rw [if_pos h]
theorem qju (lo:Nat)(h:qab){c:Cfg}(hm:c.may):qfV En lo Id.zcm [.agg c.cs.toArray] h=some (.tuple #[lay c.T c.S,I 0],h):=by rw [qi1,if_pos hm,qjt hm]

theorem qjv (lo:Nat)(h:qab){c:Cfg}(hm:c.may):qfV En lo Id.zcj [lay c.T c.S] h=some (I (qi3 c),h):=by
 refine qgy rfl Fn.zcj rfl rfl ?_
 unfold Cfg.may at hm
 repeat' first|refine .A ?_|refine .B ?_|refine .C ?_|refine .D ?_|refine .F ?_|refine .J ?_|refine .eqc rfl rfl rfl rfl (fun hc => ?_) (fun hc => ?_)|refine .Y ?_|fail
 ·simp at hc;omega
 ·refine qiW ?_
  unfold qi3
  rw [qiY (n:=4+c.T) (by omega) (by omega),qiY (n:=3*c.S) (by omega) (by omega),qiY (by omega) (by omega)]

theorem qjw (lo:Nat)(h:qab){c:Cfg}(hm:c.may)(n:Int):qfV En lo Id.zcl [lay c.T c.S,I n] h=some (I n,h):=by
 refine qgy rfl Fn.zcl rfl rfl ?_
 unfold Cfg.may at hm
 repeat' first|refine .A ?_|refine .B ?_|refine .C ?_|refine .D ?_|refine .F ?_|refine .J ?_|refine .eqc rfl rfl rfl rfl (fun hc => ?_) (fun hc => ?_)|refine .Y ?_|fail
 ·simp at hc;omega
 ·rfl

theorem qjx (lo:Nat)(h:qab){c:Cfg}(hm:c.may):qfV En lo Id.zci [lay c.T c.S] h=some (I 1,h):=by
 refine qgy rfl Fn.zci rfl rfl ?_
 repeat' first|refine .A ?_|refine .B ?_|refine .J ?_|refine .P (qjw _ _ hm _) ?_|refine .F ?_|refine .Y ?_|fail
 rfl

def qjy (c:Cfg)(s k:Int):Int:=if 0≤s∧s<c.S then 4+c.T+3*s+k else -1
theorem qjz (lo:Nat)(h:qab){c:Cfg}(hm:c.may)(s k:Int)(hk:0≤k∧k≤2):qfV En lo Id.zck [lay c.T c.S,I s,I k] h=some (I (qjy c s k),h):=by
 have hin:=fun lo=>qiZ lo h s 0 (c.S-1)
 unfold Cfg.may at hm
 have hw:IntKind.i64.wrap (c.S-1)=c.S-1:=qiY (by omega) (by omega)
 unfold qjy
 by_cases hs:0≤s∧s<c.S
 ·rw [show inB s 0 (c.S-1)=true by simp [inB];omega,←hw]at hin
  rw [if_pos hs]
  refine qgy rfl Fn.zck rfl rfl ?_
  repeat' first|refine .A ?_|refine .B ?_|refine .D ?_|refine .F ?_|refine .J ?_|refine .C ?_|refine .P (hin _) ?_|refine .Y ?_|fail
  refine qiW ?_
  rw [qiY (n:=4+c.T) (by omega) (by omega),qiY (n:=3*s) (by omega) (by omega),qiY (n:=4+c.T+3*s) (by omega) (by omega),qiY (by omega) (by omega)]
 ·rw [show inB s 0 (c.S-1)=false by simp [inB];omega,←hw]at hin
  rw [if_neg hs]
  refine qgy rfl Fn.zck rfl rfl ?_
  repeat' first|refine .A ?_|refine .B ?_|refine .C ?_|refine .J ?_|refine .P (hin _) ?_|refine .F ?_|refine .Y ?_|fail
  rfl
theorem qjA (lo:Nat)(h:qab){c:Cfg}(hm:c.may)(s:Int):qfV En lo Id.zce [lay c.T c.S,I s] h=some (I (qjy c s 2),h):=by
 refine qgy rfl Fn.zce rfl rfl ?_
 repeat' first|refine .A ?_|refine .B ?_|refine .J ?_|refine .call rfl rfl (qjz _ _ hm _ _ (by omega)) ?_|refine .F ?_|refine .Y ?_|fail
 rfl
theorem qjB (lo:Nat)(h:qab){c:Cfg}(hm:c.may)(s:Int):qfV En lo Id.zcb [lay c.T c.S,I s] h=some (I (qjy c s 0),h):=by
 refine qgy rfl Fn.zcb rfl rfl ?_
 repeat' first|refine .A ?_|refine .B ?_|refine .J ?_|refine .call rfl rfl (qjz _ _ hm _ _ (by omega)) ?_|refine .F ?_|refine .Y ?_|fail
 rfl
theorem qjC (lo:Nat)(h:qab){c:Cfg}(hm:c.may)(s:Int):qfV En lo Id.zch [lay c.T c.S,I s] h=some (I (qjy c s 1),h):=by
 refine qgy rfl Fn.zch rfl rfl ?_
 repeat' first|refine .A ?_|refine .B ?_|refine .J ?_|refine .call rfl rfl (qjz _ _ hm _ _ (by omega)) ?_|refine .F ?_|refine .Y ?_|fail
 rfl
theorem qjD (lo:Nat)(h:qab){c:Cfg}(hm:c.may):qfV En lo Id.zcd [lay c.T c.S] h=some (I 0,h):=by
 refine qgy rfl Fn.zcd rfl rfl ?_
 repeat' first|refine .A ?_|refine .B ?_|refine .J ?_|refine .P (qjw _ _ hm _) ?_|refine .F ?_|refine .Y ?_|fail
 rfl
theorem qjE (lo:Nat)(h:qab){c:Cfg}(hm:c.may):qfV En lo Id.zcg [lay c.T c.S] h=some (I 2,h):=by
 refine qgy rfl Fn.zcg rfl rfl ?_
 repeat' first|refine .A ?_|refine .B ?_|refine .J ?_|refine .P (qjw _ _ hm _) ?_|refine .F ?_|refine .Y ?_|fail
 rfl
theorem qjF (lo:Nat)(h:qab){c:Cfg}(hm:c.may):qfV En lo Id.zcc [lay c.T c.S] h=some (I 3,h):=by
 refine qgy rfl Fn.zcc rfl rfl ?_
 repeat' first|refine .A ?_|refine .B ?_|refine .J ?_|refine .P (qjw _ _ hm _) ?_|refine .F ?_|refine .Y ?_|fail
 rfl
def qjG (c:Cfg)(t:Int):Int:=if 0≤t∧t<c.T then 4+t else -1
theorem qjH (lo:Nat)(h:qab){c:Cfg}(hm:c.may)(t:Int):qfV En lo Id.zcf [lay c.T c.S,I t] h=some (I (qjG c t),h):=by
 have hin:=fun lo=>qiZ lo h t 0 (c.T-1)
 unfold Cfg.may at hm
 have hw:IntKind.i64.wrap (c.T-1)=c.T-1:=qiY (by omega) (by omega)
 unfold qjG
 by_cases hs:0≤t∧t<c.T
 ·rw [show inB t 0 (c.T-1)=true by simp [inB];omega,←hw]at hin
  rw [if_pos hs]
  refine qgy rfl Fn.zcf rfl rfl ?_
  repeat' first|refine .A ?_|refine .B ?_|refine .D ?_|refine .F ?_|refine .J ?_|refine .C ?_|refine .P (hin _) ?_|refine .Y ?_|fail
  refine qiW ?_
  rw [qiY (by omega) (by omega)]
 ·rw [show inB t 0 (c.T-1)=false by simp [inB];omega,←hw]at hin
  rw [if_neg hs]
  refine qgy rfl Fn.zcf rfl rfl ?_
  repeat' first|refine .A ?_|refine .B ?_|refine .C ?_|refine .J ?_|refine .P (hin _) ?_|refine .F ?_|refine .Y ?_|fail
  rfl

theorem qjI (lo:Nat)(h:qab):qfV En lo Id.zbO [I 1,I 0] h=some (.tuple #[I 1,I 0],h):=callR_iff.2 ⟨200,by kernel_rfl⟩

def qjJ (c:Cfg)(m:Int)(k:Nat):Int:=if 4+c.T≤k∧((k:Int)-4-c.T)%3=2∧m≤((k:Int)-4-c.T)/3∧((k:Int)-4-c.T)/3+1<c.S then((k:Int)-4-c.T)/3+2 else 0
def qbd (c:Cfg)(m:Int):List Int:=(List.range (qi3 c).toNat).map (qjJ c m)
def qjK (c:Cfg):List Int:=(qbd c 0).set 1 1

theorem qjL (c:Cfg)(m:Int):(qbd c m).length=(qi3 c).toNat:=by simp [qbd]
theorem qjM (c:Cfg):(qjK c).length=(qi3 c).toNat:=by simp [qjK,qjL]
theorem qjN (c:Cfg)(m:Int){k:Nat}(h:k<(qi3 c).toNat):(qbd c m)[k]? = some (qjJ c m k):=by simp [qbd,h]

theorem qjO {c:Cfg}(hm:c.may):qbd c c.S=List.replicate (qi3 c).toNat 0:=by
 refine List.ext_getElem? fun k => ?_
 by_cases hk:k<(qi3 c).toNat
 ·rw [qjN c _ hk,List.getElem?_replicate,if_pos hk]
  unfold qjJ
  rw [if_neg (by omega)]
 ·rw [List.getElem?_eq_none (by rw [qjL];omega),List.getElem?_eq_none (by simp;omega)]

theorem qjP {c:Cfg}(hm:c.may){m:Int}(h0:0≤m)(h1:m<c.S):qi7 (qbd c (m+1)) (qjy c m 2) (if m+1<c.S then m+2 else 0)=qbd c m:=by
 unfold Cfg.may at hm
 have hs:qjy c m 2=4+c.T+3*m+2:=by unfold qjy;rw [if_pos ⟨h0,h1⟩]
 rw [hs]
 unfold qi7
 rw [if_pos ⟨by omega,by rw [qjL];unfold qi3;omega⟩]
 refine List.ext_getElem? fun k => ?_
 rw [List.getElem?_set]
 by_cases hk:k<(qi3 c).toNat
 ·rw [qjN c _ hk,qjN c _ hk]
  by_cases he:(4+c.T+3*m+2).toNat=k
  ·rw [if_pos he,if_pos (by rw [qjL];omega)]
   congr 1
   unfold qjJ
   have e1:((k:Int)-4-c.T)=3*m+2:=by omega
   rw [e1]
   split<;>split<;>omega
  ·rw [if_neg he]
   congr 1
   unfold qjJ
   split<;>split<;>omega
 ·rw [List.getElem?_eq_none (by rw [qjL];omega),List.getElem?_eq_none (by rw [qjL];omega)]
  split
  ·rw [if_neg (by rw [qjL];omega)]
  ·rfl

set_option maxHeartbeats 1600000 in
theorem qjQ {lo:Nat}{H:qab}{b:CB}{c:Cfg}{ws bs:List Int}(hm:c.may)(hC:IsC H b ws bs)(hlo:lo≤b.P∧lo≤b.W)(hw:ws.length=(qi3 c).toNat)(hb:(bs.length:Int)=c.A) :
  ∃H',qfV En lo Id.zcn [ifC b,.agg c.cs.toArray] H=some (I 0,H')∧IsC H' b (qjK c) bs∧Only [b.P,b.W] H H':=by
 have key:∃v H',qfV En lo Id.zcn [ifC b,.agg c.cs.toArray] H=some (v,H')∧v=I 0∧IsC H' b (qjK c) bs∧Only [b.P,b.W] H H':=by
  refine qiv rfl Fn.zcn rfl rfl ?_
  have hm':=hm
  unfold Cfg.may at hm'
  have hwI:(ws.length:Int)=qi3 c:=by rw [hw];unfold qi3;omega
  have hwb:ws.length≤200:=by rw [hw];unfold qi3;omega
  have hO:=fun lo=>qju lo H hm
  have hLW:=fun lo=>qjv lo H hm
  have hCW:=fun lo=>qjm (lo:=lo) hC
  have hCB:=fun lo=>qjn (lo:=lo) hC
  repeat' first|refine .A ?_|refine .B ?_|refine .D ?_|refine .F ?_|refine .G ?_|refine .C ?_|refine .f1 ?_|refine .f6 ?_|refine .P (hO _) ?_|refine .P (hLW _) ?_|refine .W (hCW _) ?_|refine .W (hCB _) ?_|refine .Y ?_|fail
  refine .loop (fun n f H1=>∃(i:Nat) (w1:List Int),n+i=ws.length∧f = [(0,ifC b),(5,lay c.T c.S),(38,I (qi3 c)),(39,N i)]∧IsC H1 b w1 bs∧w1=List.replicate i 0++ws.drop i∧Only [b.P,b.W] H H1) (n:=ws.length)
   ⟨0,ws,rfl,rfl,hC,by simp,.refl _ _⟩ ?_
  rintro n f H1 ⟨i,w1,hn,rfl,hC1,he,ho⟩ next
  by_cases hi:i<ws.length
  ·refine Exists.elim (qjh hC1 hlo.1 hlo.2 (i:Nat) 0) fun H2 hq => ?_
   have hS:=hq.1
   have hC2:=hq.2.1
   have ho2:=ho.trans hq.2.2
   clear hq
   have e2:qi7 w1 (i:Nat) 0=List.replicate (i+1) 0++ws.drop (i+1):=by
    have hl:w1.length=ws.length:=by rw [he];simp;omega
    unfold qi7
    rw [if_pos ⟨by omega,by omega⟩,he,Int.toNat_natCast,List.set_append,if_neg (by simp),List.length_replicate,Nat.sub_self,List.drop_eq_getElem_cons hi,List.set_cons_zero,List.replicate_succ',List.append_assoc]
    rfl
   repeat' first|refine .A ?_|refine .B ?_|refine .C ?_|refine .F ?_|refine .G ?_|refine .H ?_|refine .t1 ?_|refine .n2 ?_|refine .W hS ?_|fail
   exact next (n-1) _ _ (by omega) ⟨i+1,_,by omega,rfl,hC2,e2,ho2⟩
  ·have hw1:w1=qbd c c.S:=by
    rw [he,List.drop_of_length_le (by omega),List.append_nil,qjO hm,show i=(qi3 c).toNat by omega]
   clear next he
   subst hw1
   repeat' first|refine .A ?_|refine .B ?_|refine .D ?_|refine .G ?_|refine .I ?_|refine .C ?_|refine .f1 ?_|refine .F ?_|refine .Y ?_|fail
   refine .loop (fun n f H3=>∃(m:Int),(n:Int)=m+1∧-1≤m∧m<c.S∧f = [(0,ifC b),(5,lay c.T c.S),(8,I (if m+1<c.S then m+2 else 0)),(9,I m)]∧IsC H3 b (qbd c (m+1)) bs∧Only [b.P,b.W] H H3) (n:=c.S.toNat)
    ⟨c.S-1,by omega,by omega,by omega,by show [(0,_),(5,_),(8,I 0),(9,I (IntKind.i64.wrap (c.S-1)))]=_;rw [qiY (by omega) (by omega),if_neg (by omega)],by rw [show c.S-1+1=c.S by omega];exact hC1,ho⟩ ?_
   rintro n f H3 ⟨m,hn3,hm0,hm1,rfl,hC3,ho3⟩ next
   by_cases hp:0≤m
   ·have hL:=fun lo=>qjA lo H3 hm m
    refine Exists.elim (qjh hC3 hlo.1 hlo.2 (qjy c m 2) (if m+1<c.S then m+2 else 0)) fun H4 hq => ?_
    have hS:=hq.1
    have hC4:=hq.2.1
    have ho4:=ho3.trans hq.2.2
    clear hq
    rw [qjP hm hp hm1]at hC4
    repeat' first|refine .A ?_|refine .B ?_|refine .C ?_|refine .F ?_|refine .G ?_|refine .H ?_|refine .t4 ?_|refine .P (hL _) ?_|refine .W hS ?_|refine .Y ?_|fail
    refine next (n-1) _ _ (by omega) ⟨m-1,by omega,by omega,by omega, ?_,by rw [show m-1+1=m by omega];exact hC4,ho4⟩
    show [(0,_),(5,_),(8,I (IntKind.i64.wrap (m+1))),(9,I (IntKind.i64.wrap (m-1)))]=_
    rw [qiY (by omega) (by omega),qiY (by omega) (by omega),if_pos (by omega),show m-1+2=m+1 by omega]
   ·have hm2:m = -1:=by omega
    subst hm2
    have hK:=fun lo=>qjx lo H3 hm
    have hP:=fun lo=>qjI lo H3
    refine Exists.elim (qjh hC3 hlo.1 hlo.2 1 1) fun H4 hq => ?_
    have hS:=hq.1
    have hC4:=hq.2.1
    have ho4:=ho3.trans hq.2.2
    clear hq
    have e4:qi7 (qbd c (-1+1)) 1 1=qjK c:=by
     unfold qi7 qjK
     rw [if_pos ⟨by omega,by rw [qjL];unfold qi3;omega⟩];rfl
    rw [e4]at hC4
    have hf:(if(-1:Int)+1<c.S then(-1:Int)+2 else 0)=1:=by rw [if_pos (by omega)];rfl
    rw [hf]
    repeat' first|refine .A ?_|refine .B ?_|refine .D ?_|refine .I ?_|refine .J ?_|refine .f4 ?_|refine .P (hK _) ?_|refine .P (hP _) ?_|refine .W hS ?_|refine .F ?_|refine .Y ?_|fail
    exact⟨rfl,hC4,ho4⟩
 obtain⟨v,H',h1,rfl,h2,h3⟩:=key
 exact⟨H',h1,h2,h3⟩
end Go.Proofs.YtdinebegmppnoabGreat

/- Fields of words. -/
namespace Go.Proofs.YtdinebegmppnoabGreat
open Go Go.Ir

theorem qjR (n:Nat):BitVec.ofInt 64 (n:Int)=BitVec.ofNat 64 n:=by
 apply BitVec.eq_of_toNat_eq
 simp [BitVec.toNat_ofInt]
theorem qjS {n:Nat}(h:n<2 ^ 62):(BitVec.ofInt 64 (n:Int)).toNat=n:=by
 rw [qjR,BitVec.toNat_ofNat]
 exact Nat.mod_eq_of_lt (Nat.lt_trans h (by decide))
theorem qjT {n m:Nat}(hn:n<2 ^ 62)(hm:m<2 ^ 62):IntKind.i64.wrap ((BitVec.ofInt IntKind.i64.bits (n:Int) &&& BitVec.ofInt IntKind.i64.bits (m:Int)).toNat:Int)=((n &&& m:Nat):Int):=by
 show IntKind.i64.wrap ((BitVec.ofInt 64 (n:Int) &&& BitVec.ofInt 64 (m:Int)).toNat:Int)=_
 rw [BitVec.toNat_and,qjS hn,qjS hm]
 exact qit (Nat.lt_of_le_of_lt Nat.and_le_left hn)
theorem qjU {n m:Nat}(hn:n<2 ^ 62)(hm:m<2 ^ 62):IntKind.i64.wrap ((BitVec.ofInt IntKind.i64.bits (n:Int) ||| BitVec.ofInt IntKind.i64.bits (m:Int)).toNat:Int)=((n ||| m:Nat):Int):=by
 show IntKind.i64.wrap ((BitVec.ofInt 64 (n:Int) ||| BitVec.ofInt 64 (m:Int)).toNat:Int)=_
 rw [BitVec.toNat_or,qjS hn,qjS hm]
 exact qit (Nat.or_lt_two_pow hn hm)
theorem qjV {n m:Nat}(hn:n<2 ^ 62)(hm:m<2 ^ 62)(hd:n &&& m=0):IntKind.i64.wrap ((BitVec.ofInt IntKind.i64.bits (n:Int) &&& ~~~BitVec.ofInt IntKind.i64.bits (m:Int)).toNat:Int)=(n:Int):=by
 show IntKind.i64.wrap ((BitVec.ofInt 64 (n:Int) &&& ~~~BitVec.ofInt 64 (m:Int)).toNat:Int)=_
 have:BitVec.ofInt 64 (n:Int) &&& ~~~BitVec.ofInt 64 (m:Int)=BitVec.ofInt 64 (n:Int):=by
  rw [qjR,qjR]
  apply BitVec.eq_of_getLsbD_eq
  intro i hi
  rw [BitVec.getLsbD_and,BitVec.getLsbD_not]
  have h2:=congrArg (fun x=>x.testBit i) hd
  simp only [Nat.testBit_and,Nat.zero_testBit]at h2
  simp only [BitVec.getLsbD_ofNat,hi,decide_true,Bool.true_and]
  cases h3:n.testBit i<;>cases h4:m.testBit i<;>simp_all
 rw [this,qjS hn]
 exact qit hn

theorem qjW (n a b:Nat):n &&& ((2 ^ b-1)*2 ^ a)=n/2 ^ a%2 ^ b*2 ^ a:=by
 apply Nat.eq_of_testBit_eq
 intro i
 rw [Nat.testBit_and,Nat.testBit_mul_two_pow,Nat.testBit_mul_two_pow,Nat.testBit_two_pow_sub_one,Nat.testBit_mod_two_pow,Nat.testBit_div_two_pow]
 by_cases h:a≤i
 ·rw [show i-a+a=i by omega]
  by_cases h2:i-a<b<;>simp [h,h2]
 ·simp [h]

theorem qjX {a b:Nat}(h:a+b≤62)(hb:1≤b):(2 ^ b-1)*2 ^ a<2 ^ 62:=by
 have h1:(2 ^ b-1)*2 ^ a<2 ^ b*2 ^ a:=by
  have:0<2 ^ a:=Nat.two_pow_pos a
  have h3:0<2 ^ b:=Nat.two_pow_pos b
  exact Nat.mul_lt_mul_of_pos_right (by omega) this
 rw [←Nat.pow_add]at h1
 exact Nat.lt_of_lt_of_le h1 (Nat.pow_le_pow_right (by decide) (by omega))

def fld (a b:Nat):Value := .agg #[N a,N b]

section
variable (lo:Nat)(h:qab){a b:Nat}

theorem qjY {f:Fr}{call:qaN}{x y:Operand}{n k:Nat}(hx:ev f x=some (N n))(hy:ev f y=some (N k))(hk:k≤62)(hb:n*2 ^ k<2 ^ 62):iop call lo (.bin .shl x y) f h=some (N (n*2 ^ k),h):=by
 simp only [iop,hx,hy,qar,qaq,if_true,qao]
 rw [if_neg (by omega)]
 have:min ((k:Int).toNat) IntKind.i64.bits=k:=by show min _ 64=_;omega
 rw [this,show((n:Int)*2 ^ k)=((n*2 ^ k:Nat):Int) by simp,qit hb]
theorem qjZ {f:Fr}{call:qaN}{x y:Operand}{n k:Nat}(hx:ev f x=some (N n))(hy:ev f y=some (N k))(hk:k≤62):iop call lo (.bin .shr x y) f h=some (N (n/2 ^ k),h):=by
 simp only [iop,hx,hy,qar,qaq,if_true,qao]
 rw [if_neg (by omega)]
 have:min ((k:Int).toNat) IntKind.i64.bits=k:=by show min _ 64=_;omega
 rw [this]
 have h2:((n:Int)).fdiv (2 ^ k)=((n/2 ^ k:Nat):Int):=by
  rw [Int.fdiv_eq_ediv_of_nonneg _ (by exact Int.le_of_lt (Int.pow_pos (by decide)))]
  simp
 rw [h2]
theorem qj0 {f:Fr}{call:qaN}{x y:Operand}{n m:Nat}(hx:ev f x=some (N n))(hy:ev f y=some (N m))(hn:n<2 ^ 62)(hm:m<2 ^ 62):iop call lo (.bin .and x y) f h=some (N (n &&& m),h):=by
 simp only [iop,hx,hy,qar,qaq,qan,if_true]
 rw [qjT hn hm];rfl
theorem qj1 {f:Fr}{call:qaN}{x y:Operand}{n m:Nat}(hx:ev f x=some (N n))(hy:ev f y=some (N m))(hn:n<2 ^ 62)(hm:m<2 ^ 62):iop call lo (.bin .or x y) f h=some (N (n ||| m),h):=by
 simp only [iop,hx,hy,qar,qaq,qan,if_true]
 rw [qjU hn hm];rfl
theorem qj2 {f:Fr}{call:qaN}{x y:Operand}{n m:Nat}(hx:ev f x=some (N n))(hy:ev f y=some (N m))(hn:n<2 ^ 62)(hm:m<2 ^ 62)(hd:n &&& m=0):iop call lo (.bin .andNot x y) f h=some (N n,h):=by
 simp only [iop,hx,hy,qar,qaq,qan,if_true]
 rw [qjV hn hm hd];rfl

theorem qj3 (n:Int):qfV En lo Id.zbC [I n] h=some (.bool (decide (0≤n∧n<4611686018427387904)),h):=by
 refine qgy rfl Fn.zbC rfl rfl ?_
 repeat' first|refine .A ?_|refine .B ?_|refine .J ?_|refine .k1 (fun hc => ?_) fun hc => ?_|refine .k4 (fun hc => ?_) fun hc => ?_|refine .D ?_|refine .F ?_|refine .Y ?_|fail
 all_goals (refine qiX ?_;simp [*])

theorem qj4 (hab:a+b≤62)(hb:1≤b∧b≤32):qfV En lo Id.zbx [fld a b] h=some (.bool true,h):=by
 refine qgy rfl Fn.zbx rfl rfl ?_
 repeat' first|refine .A ?_|refine .B ?_|refine .J ?_|refine .C ?_|refine .t2 ?_|refine .t4 ?_|refine .subN (a:=62) rfl rfl rfl (by omega) ?_|refine .F ?_|refine .Y ?_|fail
 rfl
theorem qj5 (hb:1≤b∧b≤32):qfV En lo Id.zby [fld a b] h=some (N (2 ^ b-1),h):=by
 refine qgy rfl Fn.zby rfl rfl ?_
 have hp:1*2 ^ b<2 ^ 62:=by rw [Nat.one_mul];exact Nat.pow_lt_pow_right (by decide) (by omega)
 have hp2:1≤1*2 ^ b:=by rw [Nat.one_mul];exact Nat.two_pow_pos b
 repeat' first|refine .A ?_|refine .B ?_|refine .J ?_|refine .C ?_|refine .go rfl (qjY (n:=1) _ _ rfl rfl (by omega) hp) rfl ?_|refine .subN (b:=1) rfl rfl rfl ⟨hp2,hp⟩ ?_|refine .F ?_|refine .Y ?_|fail
 rw [Nat.one_mul];rfl
theorem qj6 (hab:a+b≤62)(hb:1≤b∧b≤32):qfV En lo Id.zbw [fld a b] h=some (N ((2 ^ b-1)*2 ^ a),h):=by
 refine qgy rfl Fn.zbw rfl rfl ?_
 repeat' first|refine .A ?_|refine .B ?_|refine .J ?_|refine .C ?_|refine .P (qj5 _ _ hb) ?_|refine .go rfl (qjY _ _ rfl rfl (by omega) (qjX hab hb.1)) rfl ?_|refine .F ?_|refine .Y ?_|fail
 rfl
theorem qj7 (hab:a+b≤62)(hb:1≤b∧b≤32)(n:Int):qfV En lo Id.zbB [fld a b,.func (.func Id.zbw) #[] #[],I n] h=some (N ((2 ^ b-1)*2 ^ a),h):=by
 refine qgy rfl Fn.zbB rfl rfl ?_
 repeat' first|refine .A ?_|refine .B ?_|refine .D ?_|refine .F ?_|refine .J ?_|refine .P (qj4 _ _ hab hb) ?_|refine .callv rfl rfl rfl rfl (qj6 _ _ hab hb) ?_|refine .Y ?_|fail
 rfl
theorem qj8 (hab:a+b≤62)(hb:1≤b∧b≤32){n:Nat}(hn:n<2 ^ 62):qfV En lo Id.zbz [N n,fld a b] h=some (N (n/2 ^ a%2 ^ b),h):=by
 have hw:=fun lo=>qj3 lo h (n:Int)
 rw [decide_eq_true (show(0:Int)≤n∧(n:Int)<4611686018427387904 by omega)]at hw
 have hm:=qjX hab hb.1
 refine qgy rfl Fn.zbz rfl rfl ?_
 have mx:∀{f:Fr} {call:qaN} {x:Operand},ev f x=some (N a)→iop call h.length (.max [x,.const (I 0)]) f h=some (N a,h):=fun {f call x} hx=>by
  have h0:ev f (.const (I 0))=some (I 0):=rfl
  have hmx:qaL .i64 (a:Int) [I 0]=some (a:Int):=by
   simp only [qaL,if_true]
   rw [if_neg (by omega)]
  simp only [iop,evs,hx,h0]
  show(match qaL .i64 (a:Int) [I 0]with|some m=>some (Value.int .i64 m,h)|none=>none)=_
  rw [hmx]
 repeat' first|refine .A ?_|refine .B ?_|refine .D ?_|refine .F ?_|refine .J ?_|refine .C ?_|refine .P (hw _) ?_|refine .P (qj7 _ _ hab hb _) ?_|refine .go rfl (qj0 _ _ rfl rfl hn hm) rfl ?_|refine .go rfl (mx rfl) rfl ?_|refine .go rfl (qjZ _ _ rfl rfl (by omega)) rfl ?_|refine .Y ?_|fail
 rw [qjW,Nat.mul_div_cancel _ (Nat.two_pow_pos a)];rfl

theorem qj9 (hab:a+b≤62)(hb:1≤b∧b≤32){n k:Nat}(hn:n<2 ^ a)(hk:k<2 ^ b):qfV En lo Id.zbA [N n,fld a b,N k] h=some (.tuple #[N (n+k*2 ^ a),I 0],h):=by
 have hn62:n<2 ^ 62:=Nat.lt_of_lt_of_le hn (Nat.pow_le_pow_right (by decide) (by omega))
 have hw:=fun lo=>qj3 lo h (n:Int)
 rw [decide_eq_true (show(0:Int)≤n∧(n:Int)<4611686018427387904 by omega)]at hw
 have hm:=qjX hab hb.1
 have hkm:k*2 ^ a<2 ^ 62:=Nat.lt_of_le_of_lt (Nat.mul_le_mul_right _ (by omega)) hm
 have hd:n &&& ((2 ^ b-1)*2 ^ a)=0:=by rw [qjW,Nat.div_eq_of_lt hn];simp
 have hor:n ||| (k*2 ^ a)=n+k*2 ^ a:=by
  rw [Nat.or_comm,Nat.mul_comm,←Nat.two_pow_add_eq_or_of_lt hn,Nat.add_comm]
 refine qgy rfl Fn.zbA rfl rfl ?_
 repeat' first|refine .A ?_|refine .B ?_|refine .D ?_|refine .F ?_|refine .G ?_|refine .H ?_|refine .J ?_|refine .C ?_|refine .f1 ?_|refine .f3 ?_|refine .P (hw _) ?_|refine .P (qj4 _ _ hab hb) ?_|refine .P (qj5 _ _ hb) ?_|refine .P (qj6 _ _ hab hb) ?_|refine .go rfl (qj2 _ _ rfl rfl hn62 hm hd) rfl ?_|refine .go rfl (qjY _ _ rfl rfl (by omega) hkm) rfl ?_|refine .go rfl (qj1 _ _ rfl rfl hn62 hkm) rfl ?_|refine .Y ?_|fail
 rw [hor];rfl
end
end Go.Proofs.YtdinebegmppnoabGreat

/- Entries. -/
namespace Go.Proofs.YtdinebegmppnoabGreat
open Go Go.Ir

structure Ent where
 o:Int
 g:Int
 p:Int
 u:Int
 lk:Bool
 lv:Bool
 deriving DecidableEq
def Ent.cs (e:Ent):List Value := [I e.o,I e.g,I e.p,I e.u,.bool e.lk,.bool e.lv]
def Ent.zero:Ent:=⟨0,0,0,0,false,false⟩
def Ent.may (e:Ent):Prop:=0≤e.o∧e.o≤4096∧0≤e.g∧e.g≤1000∧0≤e.p∧e.p≤7∧0≤e.u∧e.u≤15∧(e.lk=true→e.p+e.u=0)∧(e.lv=false→e.o=0∧e.p=0∧e.u=0∧e.lk=false)
instance (e:Ent):Decidable e.may:=by unfold Ent.may;infer_instance

def qka (b:Bool):Nat:=if b then 1 else 0
def qkb (n:Nat):Ent:=⟨(n/2 ^ 0%2 ^ 20:Nat),(n/2 ^ 20%2 ^ 20:Nat),(n/2 ^ 40%2 ^ 4:Nat),(n/2 ^ 44%2 ^ 4:Nat),decide (n/2 ^ 48%2 ^ 1=1),decide (n/2 ^ 49%2 ^ 1=1)⟩
def qkc (w:Int):Option Ent:=if 0≤w∧w<1125899906842624∧(qkb w.toNat).may then some (qkb w.toNat)else none
def qkd (e:Ent):Nat:=e.o.toNat+e.g.toNat*2 ^ 20+e.p.toNat*2 ^ 40+e.u.toNat*2 ^ 44+qka e.lk*2 ^ 48+qka e.lv*2 ^ 49

theorem qke {e:Ent}(h:e.may):qkd e<2 ^ 50:=by
 unfold Ent.may at h
 have h1:qka e.lk≤1:=by unfold qka;split<;>decide
 have h2:qka e.lv≤1:=by unfold qka;split<;>decide
 unfold qkd
 omega
theorem qkf {e:Ent}(h:e.may):qkb (qkd e)=e:=by
 unfold Ent.may at h
 have h1:qka e.lk≤1:=by unfold qka;split<;>decide
 have h2:qka e.lv≤1:=by unfold qka;split<;>decide
 have e5:decide (qkd e/2 ^ 48%2 ^ 1=1)=e.lk:=by
  have:qkd e/2 ^ 48%2 ^ 1=qka e.lk:=by unfold qkd;omega
  rw [this];unfold qka;cases e.lk<;>rfl
 have e6:decide (qkd e/2 ^ 49%2 ^ 1=1)=e.lv:=by
  have:qkd e/2 ^ 49%2 ^ 1=qka e.lv:=by unfold qkd;omega
  rw [this];unfold qka;cases e.lv<;>rfl
 unfold qkb
 rw [e5,e6]
 obtain⟨o,g,p,u,lk,lv⟩:=e
 simp only at h h1 h2⊢
 have q1:((qkd ⟨o,g,p,u,lk,lv⟩/2 ^ 0%2 ^ 20:Nat):Int)=o:=by unfold qkd;simp only;omega
 have q2:((qkd ⟨o,g,p,u,lk,lv⟩/2 ^ 20%2 ^ 20:Nat):Int)=g:=by unfold qkd;simp only;omega
 have q3:((qkd ⟨o,g,p,u,lk,lv⟩/2 ^ 40%2 ^ 4:Nat):Int)=p:=by unfold qkd;simp only;omega
 have q4:((qkd ⟨o,g,p,u,lk,lv⟩/2 ^ 44%2 ^ 4:Nat):Int)=u:=by unfold qkd;simp only;omega
 rw [q1,q2,q3,q4]
theorem qkg {e:Ent}(h:e.may):qkc (qkd e:Nat)=some e:=by
 have:=qke h
 unfold qkc
 rw [Int.toNat_natCast,qkf h,if_pos ⟨by omega,by omega,h⟩]
theorem qkh {n:Nat}(h:n<2 ^ 50):qkd (qkb n)=n:=by
 unfold qkd qkb
 simp only [Int.toNat_natCast]
 have e5:qka (decide (n/2 ^ 48%2 ^ 1=1))=n/2 ^ 48%2 ^ 1:=by
  unfold qka
  by_cases hh:n/2 ^ 48%2 ^ 1=1
  ·rw [decide_eq_true hh,if_pos rfl,hh]
  ·rw [decide_eq_false hh,if_neg (by decide)];omega
 have e6:qka (decide (n/2 ^ 49%2 ^ 1=1))=n/2 ^ 49%2 ^ 1:=by
  unfold qka
  by_cases hh:n/2 ^ 49%2 ^ 1=1
  ·rw [decide_eq_true hh,if_pos rfl,hh]
  ·rw [decide_eq_false hh,if_neg (by decide)];omega
 rw [e5,e6]
 omega
theorem qki {w:Int}{e:Ent}(h:qkc w=some e):(qkd e:Int)=w∧e.may:=by
 unfold qkc at h
 split at h
 ·rename_i hc
  injection h with h
  subst h
  exact⟨by rw [qkh (by omega)];omega,hc.2.2⟩
 ·cases h

theorem qkj (lo:Nat)(h:qab)(n m:Int):qfV En lo Id.zbq [I n,I m] h=some (.bool (inB n 0 m),h):=by
 refine qgy rfl Fn.zbq rfl rfl ?_
 repeat' first|refine .A ?_|refine .B ?_|refine .J ?_|refine .k2 (fun hc => ?_) fun hc => ?_|refine .k4 (fun hc => ?_) fun hc => ?_|refine .D ?_|refine .F ?_|refine .Y ?_|fail
 all_goals (refine qiX ?_;simp [inB, *])

set_option maxHeartbeats 1600000 in
theorem qkk (lo:Nat)(h:qab)(e:Ent):qfV En lo Id.zaY [.agg e.cs.toArray] h=some (.bool (decide e.may),h):=by
 have hi:=fun lo n m=>qkj lo h n m
 refine qgy rfl Fn.zaY rfl rfl ?_
 by_cases hm:e.may
 ·have hm':=hm
  unfold Ent.may at hm'
  rw [decide_eq_true hm]
  have i1:=fun lo=>hi lo e.o 4096
  have i2:=fun lo=>hi lo e.g 1000
  have i3:=fun lo=>hi lo e.p 7
  have i4:=fun lo=>hi lo e.u 15
  rw [show inB e.o 0 4096=true by simp [inB];omega]at i1
  rw [show inB e.g 0 1000=true by simp [inB];omega]at i2
  rw [show inB e.p 0 7=true by simp [inB];omega]at i3
  rw [show inB e.u 0 15=true by simp [inB];omega]at i4
  have hw:IntKind.i64.wrap (e.p+e.u)=e.p+e.u:=qiY (by omega) (by omega)
  obtain⟨o,g,p,u,lk,lv⟩:=e
  cases lk
  all_goals
   cases lv
   all_goals
    simp only at hm' hw
    repeat' first|refine .A ?_|refine .B ?_|refine .C ?_|refine .D ?_|refine .F ?_|refine .G ?_|refine .H ?_|refine .J ?_|refine .k3 (fun hc => ?_) fun hc => ?_|refine .P (i1 _) ?_|refine .P (i2 _) ?_|refine .P (i3 _) ?_|refine .P (i4 _) ?_|refine .eqc rfl rfl rfl rfl (fun hc => ?_) (fun hc => ?_)|refine .Y ?_|fail
    all_goals first|rfl|(exfalso;simp at hc hm'<;>omega)|(exfalso;simp at hm'<;>omega)|(exfalso;omega)
 ·rw [decide_eq_false hm]
  unfold Ent.may at hm
  obtain⟨o,g,p,u,lk,lv⟩:=e
  cases lk
  all_goals
   cases lv
   all_goals
    simp only at hm
    repeat' first|refine .A ?_|refine .B ?_|refine .C ?_|refine .D ?_|refine .F ?_|refine .G ?_|refine .H ?_|refine .J ?_|refine .k3 (fun hc => ?_) fun hc => ?_|refine .callb rfl rfl (hi _ _ _) (fun hc => ?_) (fun hc => ?_)|refine .eqc rfl rfl rfl rfl (fun hc => ?_) (fun hc => ?_)|refine .Y ?_|fail
    all_goals first|rfl|(exfalso;apply hm;simp [inB]at * <;> omega)|(exfalso;apply hm;simp only [IntKind.wrap_i64]at *;simp [inB]at * <;> omega)

theorem qkl (lo:Nat)(h:qab)(b:Bool):qfV En lo Id.zbn [.bool b] h=some (N (qka b),h):=by
 refine qgy rfl Fn.zbn rfl rfl ?_
 cases b
 all_goals
  repeat' first|refine .A ?_|refine .B ?_|refine .C ?_|refine .D ?_|refine .F ?_|refine .J ?_|fail
  rfl
theorem qkm (lo:Nat)(h:qab):qfV En lo Id.zbp [] h=some (.agg #[I 0,I 20,I 20,I 20,I 40,I 4,I 44,I 4,I 48,I 1,I 49,I 1],h):=callR_iff.2 ⟨60,by kernel_rfl⟩
end Go.Proofs.YtdinebegmppnoabGreat

