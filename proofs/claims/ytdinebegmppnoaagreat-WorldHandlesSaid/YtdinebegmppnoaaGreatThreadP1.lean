/- The seat's operations. -/
import Derived.Test.YtdinebegmppnoaaGreatHandlesFn
import Derived.Test.YtdinebegmppnoaaGreatIrD
set_option linter.unusedVariables false
set_option linter.unusedSimpArgs false

namespace Go.Proofs.YtdinebegmppnoaaGreat
open Go Go.Ir

abbrev qiH:Nat:=38
abbrev alT:Nat:=100
abbrev feT:Nat:=124
abbrev rdT:Nat:=126
abbrev wrT:Nat:=128
abbrev pnT:Nat:=130
abbrev noT:Nat:=133
theorem qiI (lo:Nat)(h:qab):qfV En lo Id.zct [] h=some (.bool true,h):=callR_iff.2 ⟨1,by kernel_rfl⟩
end Go.Proofs.YtdinebegmppnoaaGreat

/- Small functions: whether a config may be, and where words lie. -/
namespace Go.Proofs.YtdinebegmppnoaaGreat
open Go Go.Ir

abbrev N (n:Nat):Value := .int .i64 (n:Int)
abbrev I (n:Int):Value := .int .i64 n
theorem qiJ {h H:qab}{n m:Int}(e:n=m):Ir.tidy h (.int .i64 n) H=some (.int .i64 m,h):=by subst e;rfl
theorem qiK {h H:qab}{n m:Bool}(e:n=m):Ir.tidy h (.bool n) H=some (.bool m,h):=by subst e;rfl
theorem qiL {n:Int}(h0 : -4611686018427387904≤n)(h1:n≤4611686018427387904):IntKind.i64.wrap n=n:=by rw [IntKind.wrap_i64];omega

structure Cfg where
 A:Int
 S:Int
 T:Int
def Cfg.cs (c:Cfg):List Value := [I c.A,I c.S,I c.T]
def Cfg.may (c:Cfg):Prop:=8≤c.A∧c.A≤4096∧c.A.tmod 8=0∧1≤c.S∧c.S≤64∧1≤c.T∧c.T≤4
instance (c:Cfg):Decidable c.may:=by unfold Cfg.may;infer_instance

def inB (n a b:Int):Bool:=decide (a≤n)&&decide (n≤b)
theorem qiM (lo:Nat)(h:qab)(n a b:Int):qfV En lo Id.zce [I n,I a,I b] h=some (.bool (inB n a b),h):=by
 refine qgy rfl Fn.zce rfl rfl ?_
 repeat' first|refine .A ?_|refine .B ?_|refine .J ?_|refine .k2 (fun hc => ?_) fun hc => ?_|refine .k4 (fun hc => ?_) fun hc => ?_|refine .D ?_|refine .F ?_|refine .Y ?_|fail
 all_goals (refine qiK ?_;simp [inB, *])

def qiN (c:Cfg):List Value:=if c.may then [I c.T,I c.S]else [I 0,I 0]
theorem qiO (lo:Nat)(h:qab)(c:Cfg):qfV En lo Id.zcc [.agg c.cs.toArray] h=some (.tuple #[.agg (qiN c).toArray,I (if c.may then 0 else 1)],h):=by
 have hin:=fun lo (n a b:Int)=>qiM lo h n a b
 by_cases hm:c.may
 ·have hm':=hm
  unfold Cfg.may at hm'
  refine qgy rfl Fn.zcc rfl rfl ?_
  have i1:=fun lo=>hin lo c.A 8 4096
  have i2:=fun lo=>hin lo c.S 1 64
  have i3:=fun lo=>hin lo c.T 1 4
  rw [show inB c.A 8 4096=true by simp [inB];omega]at i1
  rw [show inB c.S 1 64=true by simp [inB];omega]at i2
  rw [show inB c.T 1 4=true by simp [inB];omega]at i3
  unfold qiN
  rw [if_pos hm,if_pos hm]
  repeat' first|refine .A ?_|refine .B ?_|refine .D ?_|refine .F ?_|refine .J ?_|refine .C ?_|refine .f6 ?_|refine .P (i1 _) ?_|refine .P (i2 _) ?_|refine .P (i3 _) ?_|refine .Y ?_|fail
  rfl
 ·unfold qiN
  rw [if_neg hm,if_neg hm]
  refine qgy rfl Fn.zcc rfl rfl ?_
  repeat' first|refine .A ?_|refine .B ?_|refine .C ?_|refine .D ?_|refine .F ?_|refine .J ?_|refine .k6 (fun hc => ?_) fun hc => ?_|refine .callb rfl rfl (hin _ _ _ _) (fun hc => ?_) (fun hc => ?_)|refine .Y ?_|fail
  all_goals first|rfl|(exfalso;apply hm;unfold Cfg.may;simp [inB]at *;omega)

theorem qiP (lo:Nat)(h:qab)(c:Cfg):qfV En lo Id.zcx [.agg c.cs.toArray] h=some (.bool (decide c.may),h):=by
 refine qgy rfl Fn.zcx rfl rfl ?_
 repeat' first|refine .A ?_|refine .B ?_|refine .J ?_|refine .C ?_|refine .k2 (fun hc => ?_) fun hc => ?_|refine .k4 (fun hc => ?_) fun hc => ?_|refine .k5 (fun hc => ?_) fun hc => ?_|refine .D ?_|refine .F ?_|refine .Y ?_|fail
 all_goals
  refine qiK ?_
  first
  | (rw [decide_eq_true (show c.may by unfold Cfg.may;omega)])
  | (rw [decide_eq_false (show ¬c.may by unfold Cfg.may;omega)])

def qiQ (c:Cfg):Int:=4+c.T+3*c.S
theorem qiR (lo:Nat)(h:qab)(a b:Int):qfV En lo Id.zau [I a,I b] h=some (.bool (inB a 1 4096&&inB b 0 4096),h):=by
 refine qgy rfl Fn.zau rfl rfl ?_
 repeat' first|refine .A ?_|refine .B ?_|refine .J ?_|refine .k2 (fun hc => ?_) fun hc => ?_|refine .k4 (fun hc => ?_) fun hc => ?_|refine .D ?_|refine .F ?_|refine .Y ?_|fail
 all_goals (refine qiK ?_;simp [inB, *])
end Go.Proofs.YtdinebegmppnoaaGreat

/- Cells: what they are in the heap, and what each call does. -/
namespace Go.Proofs.YtdinebegmppnoaaGreat
open Go Go.Ir

structure CB where
 P:Nat
 W:Nat
 Y:Nat
def u8s (l:List Int):List Value:=l.map (.int .u8 ·)
def qiS (c:CB)(nw nb:Nat)(st:Int):List Value := [.slice (some ⟨c.W,0,none⟩) nw nw,.slice (some ⟨c.Y,0,none⟩) nb nb,I st]
structure IsC (H:qab)(c:CB)(ws bs:List Int):Prop where
 p:∃st,H[c.P]? = some (.row (qiS c ws.length bs.length st) false)
 w:H[c.W]? = some (.row (qiE ws) false)
 y:H[c.Y]? = some (.row (u8s bs) false)
 pw:c.P≠c.W
 py:c.P≠c.Y
 wy:c.W≠c.Y
 byte:∀b∈bs,0≤b∧b<256

structure Only (S:List Nat)(H H':qab):Prop where
 len:H'.length=H.length
 same:∀j,j∉S→H'[j]? = H[j]?
theorem Only.refl (S:List Nat)(H:qab):Only S H H:=⟨rfl,fun _ _=>rfl⟩
theorem Only.trans {S:List Nat}{H H' H'':qab}(a:Only S H H')(b:Only S H' H''):Only S H H'':=⟨b.len.trans a.len,fun j hj=>(b.same j hj).trans (a.same j hj)⟩
theorem Only.set {S:List Nat}{H H':qab}(a:Only S H H'){i:Nat}{k:Blk}(hi:i∈S):Only S H (H'.set i k):=⟨by rw [List.length_set];exact a.len,fun j hj=>by rw [List.getElem?_set_ne (fun e=>hj (by rw [←e];exact hi))];exact a.same j hj⟩
theorem Only.mono {S S':List Nat}{H H':qab}(a:Only S H H')(h:∀i∈S,i∈S'):Only S' H H':=⟨a.len,fun j hj=>a.same j fun hs=>hj (h j hs)⟩

def qiT (ws:List Int)(i:Int):Int:=if 0≤i∧i<ws.length then ws.getD i.toNat 0 else 0
def qiU (ws:List Int)(i n:Int):List Int:=if 0≤i∧i<ws.length then ws.set i.toNat n else ws
theorem qiV (ws:List Int)(i n:Int):(qiU ws i n).length=ws.length:=by unfold qiU;split<;>simp
def qiW (n:Int):Int:=IntKind.u8.wrap n
theorem qiX (n:Int):0≤qiW n∧qiW n<256:=by
 unfold qiW IntKind.wrap
 simp only [IntKind.bits,IntKind.signed,Bool.false_and]
 rw [if_neg (by decide)]
 omega

theorem qiY {ws:List Int}{k:Nat}(h:k<ws.length):ws[k]? = some (ws.getD k 0):=by
 rw [List.getD_eq_getElem?_getD,List.getElem?_eq_getElem h];rfl

section
variable {lo:Nat}{H:qab}{c:CB}{ws bs:List Int}

abbrev qiZ (c:CB):Value := .pointer (some ⟨c.P,0,none⟩)

theorem qi0 (hC:IsC H c ws bs)(hlo:lo≤c.P)(i:Int):∃H',qfV En lo Id.zat [qiZ c,I i] H=some (.bool (decide (0≤i∧i<ws.length)),H')∧IsC H' c ws bs∧Only [c.P] H H':=by
 refine Exists.elim hC.p fun st hp => ?_
 have hpl:=qip hp
 have hst:stN lo H ⟨c.P,0+2,none⟩ (qaf (I (IntKind.i64.wrap (st+1))))=some (H.set c.P (.row (qiS c ws.length bs.length (IntKind.i64.wrap (st+1))) false)):=qis hp hlo (Nat.le_of_ble_eq_true rfl) rfl
 refine⟨H.set c.P (.row (qiS c ws.length bs.length (IntKind.i64.wrap (st+1))) false), ?_,⟨⟨_,qim hpl⟩,qin hC.pw hC.w,qin hC.py hC.y,hC.pw,hC.py,hC.wy,hC.byte⟩,(Only.refl _ _).set (by simp)⟩
 refine qgx rfl Fn.zat rfl rfl ?_
 have l2:qav H none ⟨c.P,0+2,none⟩=some (I st):=qiq hp rfl
 have l0:qav (H.set c.P (.row (qiS c ws.length bs.length (IntKind.i64.wrap (st+1))) false)) none ⟨c.P,0+0,none⟩=some (.slice (some ⟨c.W,0,none⟩) ws.length ws.length):=qiq (qim hpl) rfl
 by_cases h0:0≤i
 ·by_cases h1:i<(ws.length:Int)
  ·rw [decide_eq_true (show 0≤i∧i<(ws.length:Int)from⟨h0,h1⟩)]
   repeat' first|refine .A ?_|refine .B ?_|refine .D ?_|refine .F ?_|refine .J ?_|refine .t1 ?_|refine .t4 ?_|refine .L l2 ?_|refine .L l0 ?_|refine .S hst ?_|refine .Y ?_|fail
   rfl
  ·rw [decide_eq_false (show ¬(0≤i∧i<(ws.length:Int))from fun h=>h1 h.2)]
   repeat' first|refine .A ?_|refine .B ?_|refine .D ?_|refine .F ?_|refine .J ?_|refine .f1 ?_|refine .t4 ?_|refine .L l2 ?_|refine .L l0 ?_|refine .S hst ?_|refine .Y ?_|fail
   rfl
 ·rw [decide_eq_false (show ¬(0≤i∧i<(ws.length:Int))from fun h=>h0 h.1)]
  repeat' first|refine .A ?_|refine .B ?_|refine .D ?_|refine .F ?_|refine .J ?_|refine .f4 ?_|refine .L l2 ?_|refine .S hst ?_|refine .Y ?_|fail
  rfl

theorem qi1 (hC:IsC H c ws bs)(hlo:lo≤c.P)(i:Int):∃H',qfV En lo Id.zas [qiZ c,I i] H=some (.bool (decide (0≤i∧i<bs.length)),H')∧IsC H' c ws bs∧Only [c.P] H H':=by
 refine Exists.elim hC.p fun st hp => ?_
 have hpl:=qip hp
 have hst:stN lo H ⟨c.P,0+2,none⟩ (qaf (I (IntKind.i64.wrap (st+1))))=some (H.set c.P (.row (qiS c ws.length bs.length (IntKind.i64.wrap (st+1))) false)):=qis hp hlo (Nat.le_of_ble_eq_true rfl) rfl
 refine⟨H.set c.P (.row (qiS c ws.length bs.length (IntKind.i64.wrap (st+1))) false), ?_,⟨⟨_,qim hpl⟩,qin hC.pw hC.w,qin hC.py hC.y,hC.pw,hC.py,hC.wy,hC.byte⟩,(Only.refl _ _).set (by simp)⟩
 refine qgx rfl Fn.zas rfl rfl ?_
 have l2:qav H none ⟨c.P,0+2,none⟩=some (I st):=qiq hp rfl
 have l1:qav (H.set c.P (.row (qiS c ws.length bs.length (IntKind.i64.wrap (st+1))) false)) none ⟨c.P,0+1,none⟩=some (.slice (some ⟨c.Y,0,none⟩) bs.length bs.length):=qiq (qim hpl) rfl
 by_cases h0:0≤i
 ·by_cases h1:i<(bs.length:Int)
  ·rw [decide_eq_true (show 0≤i∧i<(bs.length:Int)from⟨h0,h1⟩)]
   repeat' first|refine .A ?_|refine .B ?_|refine .D ?_|refine .F ?_|refine .J ?_|refine .t1 ?_|refine .t4 ?_|refine .L l2 ?_|refine .L l1 ?_|refine .S hst ?_|refine .Y ?_|fail
   rfl
  ·rw [decide_eq_false (show ¬(0≤i∧i<(bs.length:Int))from fun h=>h1 h.2)]
   repeat' first|refine .A ?_|refine .B ?_|refine .D ?_|refine .F ?_|refine .J ?_|refine .f1 ?_|refine .t4 ?_|refine .L l2 ?_|refine .L l1 ?_|refine .S hst ?_|refine .Y ?_|fail
   rfl
 ·rw [decide_eq_false (show ¬(0≤i∧i<(bs.length:Int))from fun h=>h0 h.1)]
  repeat' first|refine .A ?_|refine .B ?_|refine .D ?_|refine .F ?_|refine .J ?_|refine .f4 ?_|refine .L l2 ?_|refine .S hst ?_|refine .Y ?_|fail
  rfl

theorem IsC.w_ld (hC:IsC H c ws bs){k:Nat}(hk:k<ws.length):qav H none ⟨c.W,0+k*1,none⟩=some (I (ws.getD k 0)) :=
 qiq hC.w (by rw [Nat.zero_add,Nat.mul_one,qiE,List.getElem?_map,qiY hk];rfl)
theorem IsC.y_ld (hC:IsC H c ws bs){k:Nat}(hk:k<bs.length):qav H none ⟨c.Y,0+k*1,none⟩=some (.int .u8 (bs.getD k 0)) :=
 qiq hC.y (by rw [Nat.zero_add,Nat.mul_one,u8s,List.getElem?_map,qiY hk];rfl)
theorem IsC.p0 (hC:IsC H c ws bs):qav H none ⟨c.P,0+0,none⟩=some (.slice (some ⟨c.W,0,none⟩) ws.length ws.length):=by
 obtain⟨st,hp⟩:=hC.p
 exact qiq hp rfl
theorem IsC.p1 (hC:IsC H c ws bs):qav H none ⟨c.P,0+1,none⟩=some (.slice (some ⟨c.Y,0,none⟩) bs.length bs.length):=by
 obtain⟨st,hp⟩:=hC.p
 exact qiq hp rfl

theorem qi2 {f:Int→Value}{l:List Int}{k:Nat}{n:Int}(hk:k<l.length):splice (l.map f) k [f n]=(l.set k n).map f:=by
 unfold splice
 simp only [List.length_singleton]
 rw [List.map_set,List.set_eq_take_append_cons_drop]
 simp [hk]

theorem IsC.set_w (hC:IsC H c ws bs){k:Nat}(hk:k<ws.length)(n:Int)(hlo:lo≤c.W) :
  stN lo H ⟨c.W,0+k*1,none⟩ (qaf (I n))=some (H.set c.W (.row (qiE (ws.set k n)) false))∧IsC (H.set c.W (.row (qiE (ws.set k n)) false)) c (ws.set k n) bs∧Only [c.W] H (H.set c.W (.row (qiE (ws.set k n)) false)):=by
 refine⟨?_,⟨?_,qim (qip hC.w),qin hC.wy hC.y,hC.pw,hC.py,hC.wy,hC.byte⟩,(Only.refl _ _).set (by simp)⟩
 ·rw [Nat.zero_add,Nat.mul_one]
  exact qis hC.w hlo (by show k+1≤_;simp [qiE];omega) (qi2 hk)
 ·obtain⟨st,hp⟩:=hC.p
  exact⟨st,by rw [List.length_set];exact qin hC.pw.symm hp⟩
theorem IsC.set_y (hC:IsC H c ws bs){k:Nat}(hk:k<bs.length)(n:Int)(hn:0≤n∧n<256)(hlo:lo≤c.Y) :
  stN lo H ⟨c.Y,0+k*1,none⟩ (qaf (.int .u8 n))=some (H.set c.Y (.row (u8s (bs.set k n)) false))∧IsC (H.set c.Y (.row (u8s (bs.set k n)) false)) c ws (bs.set k n)∧Only [c.Y] H (H.set c.Y (.row (u8s (bs.set k n)) false)):=by
 refine⟨?_,⟨?_,qin hC.wy.symm hC.w,qim (qip hC.y),hC.pw,hC.py,hC.wy,fun b hb => ?_⟩,(Only.refl _ _).set (by simp)⟩
 ·rw [Nat.zero_add,Nat.mul_one]
  exact qis hC.y hlo (by show k+1≤_;simp [u8s];omega) (qi2 hk)
 ·obtain⟨st,hp⟩:=hC.p
  exact⟨st,by rw [List.length_set];exact qin hC.py.symm hp⟩
 ·rcases List.mem_or_eq_of_mem_set hb with h|h
  ·exact hC.byte b h
  ·subst h;exact hn

theorem qi3 (hC:IsC H c ws bs)(hlo:lo≤c.P)(i:Int):∃H',qfV En lo Id.zao [qiZ c,I i] H=some (I (qiT ws i),H')∧IsC H' c ws bs∧Only [c.P] H H':=by
 refine Exists.elim (qi0 hC hlo i) fun H1 hq => ?_
 have hw:=hq.1
 have hC1:=hq.2.1
 refine⟨H1, ?_,hC1,hq.2.2⟩
 clear hq
 refine qgx rfl Fn.zao rfl rfl ?_
 have l0:=hC1.p0
 by_cases hi:0≤i∧i<(ws.length:Int)
 ·rw [decide_eq_true hi]at hw
  refine Exists.elim (show ∃k:Nat,i=k from⟨i.toNat,by omega⟩) fun k hk => ?_
  subst hk
  have hkl:k<ws.length:=by omega
  have hL:=hC1.w_ld hkl
  unfold qiT
  rw [if_pos hi,Int.toNat_natCast]
  repeat' first|refine .A ?_|refine .B ?_|refine .D ?_|refine .F ?_|refine .J ?_|refine .L l0 ?_|refine .L hL ?_|refine .P hw ?_|refine .R hkl ?_|refine .Y ?_|fail
  rfl
 ·rw [decide_eq_false hi]at hw
  unfold qiT
  rw [if_neg hi]
  repeat' first|refine .A ?_|refine .B ?_|refine .C ?_|refine .J ?_|refine .P hw ?_|refine .F ?_|refine .Y ?_|fail
  rfl

theorem qi4 (hC:IsC H c ws bs)(hlo:lo≤c.P)(hlw:lo≤c.W)(i n:Int):∃H',qfV En lo Id.zaq [qiZ c,I i,I n] H=some (qag,H')∧IsC H' c (qiU ws i n) bs∧Only [c.P,c.W] H H':=by
 refine Exists.elim (qi0 hC hlo i) fun H1 hq => ?_
 have hw:=hq.1
 have hC1:=hq.2.1
 have ho:=hq.2.2.mono (S' := [c.P,c.W]) (by simp)
 clear hq
 have l0:=hC1.p0
 by_cases hi:0≤i∧i<(ws.length:Int)
 ·rw [decide_eq_true hi]at hw
  refine Exists.elim (show ∃k:Nat,i=k from⟨i.toNat,by omega⟩) fun k hk => ?_
  subst hk
  have hkl:k<ws.length:=by omega
  have hs:=hC1.set_w hkl n hlw
  unfold qiU
  rw [if_pos hi,Int.toNat_natCast]
  refine⟨_, ?_,hs.2.1,ho.trans (hs.2.2.mono (by simp))⟩
  refine qgx rfl Fn.zaq rfl rfl ?_
  repeat' first|refine .A ?_|refine .B ?_|refine .C ?_|refine .nil rfl ?_|refine .L l0 ?_|refine .P hw ?_|refine .R hkl ?_|refine .S hs.1 ?_|refine .F ?_|refine .Y ?_|fail
  rfl
 ·rw [decide_eq_false hi]at hw
  unfold qiU
  rw [if_neg hi]
  refine⟨H1, ?_,hC1,ho⟩
  refine qgx rfl Fn.zaq rfl rfl ?_
  repeat' first|refine .A ?_|refine .B ?_|refine .D ?_|refine .F ?_|refine .nil rfl ?_|refine .P hw ?_|fail
  rfl

def qi5 (ws:List Int)(i old:Int):Bool:=decide (0≤i∧i<ws.length)&&decide (ws.getD i.toNat 0=old)
theorem qi6 (hC:IsC H c ws bs)(hlo:lo≤c.P)(hlw:lo≤c.W)(i old n:Int):∃H',qfV En lo Id.zan [qiZ c,I i,I old,I n] H=some (.bool (qi5 ws i old),H')∧IsC H' c (if qi5 ws i old then qiU ws i n else ws) bs∧Only [c.P,c.W] H H':=by
 refine Exists.elim (qi0 hC hlo i) fun H1 hq => ?_
 have hw:=hq.1
 have hC1:=hq.2.1
 have ho:=hq.2.2.mono (S' := [c.P,c.W]) (by simp)
 clear hq
 have l0:=hC1.p0
 unfold qi5
 by_cases hi:0≤i∧i<(ws.length:Int)
 ·rw [decide_eq_true hi]at hw⊢
  refine Exists.elim (show ∃k:Nat,i=k from⟨i.toNat,by omega⟩) fun k hk => ?_
  subst hk
  have hkl:k<ws.length:=by omega
  have hL:=hC1.w_ld hkl
  have hs:=hC1.set_w hkl n hlw
  unfold qiU
  rw [if_pos hi,Int.toNat_natCast,Bool.true_and]
  by_cases he:ws.getD k 0=old
  ·rw [decide_eq_true he,if_pos rfl]
   refine⟨_, ?_,hs.2.1,ho.trans (hs.2.2.mono (by simp))⟩
   refine qgx rfl Fn.zan rfl rfl ?_
   repeat' first|refine .A ?_|refine .B ?_|refine .D ?_|refine .F ?_|refine .J ?_|refine .f6 ?_|refine .L l0 ?_|refine .L hL ?_|refine .P hw ?_|refine .R hkl ?_|refine .S hs.1 ?_|refine .Y ?_|fail
   rfl
  ·rw [decide_eq_false he,if_neg (by decide)]
   refine⟨_, ?_,hC1,ho⟩
   refine qgx rfl Fn.zan rfl rfl ?_
   repeat' first|refine .A ?_|refine .B ?_|refine .C ?_|refine .J ?_|refine .t6 ?_|refine .L l0 ?_|refine .L hL ?_|refine .P hw ?_|refine .R hkl ?_|refine .F ?_|refine .Y ?_|fail
   rfl
 ·rw [decide_eq_false hi]at hw⊢
  rw [Bool.false_and,if_neg (by decide)]
  refine⟨H1, ?_,hC1,ho⟩
  refine qgx rfl Fn.zan rfl rfl ?_
  repeat' first|refine .A ?_|refine .B ?_|refine .C ?_|refine .J ?_|refine .P hw ?_|refine .D ?_|refine .F ?_|refine .Y ?_|fail
  rfl

theorem qi7 (hC:IsC H c ws bs)(hlo:lo≤c.P)(i:Int):∃H',qfV En lo Id.zal [qiZ c,I i] H=some (I (qiT bs i),H')∧IsC H' c ws bs∧Only [c.P] H H':=by
 refine Exists.elim (qi1 hC hlo i) fun H1 hq => ?_
 have hw:=hq.1
 have hC1:=hq.2.1
 refine⟨H1, ?_,hC1,hq.2.2⟩
 clear hq
 refine qgx rfl Fn.zal rfl rfl ?_
 have l1:=hC1.p1
 by_cases hi:0≤i∧i<(bs.length:Int)
 ·rw [decide_eq_true hi]at hw
  refine Exists.elim (show ∃k:Nat,i=k from⟨i.toNat,by omega⟩) fun k hk => ?_
  subst hk
  have hkl:k<bs.length:=by omega
  have hL:=hC1.y_ld hkl
  have hb:=hC.byte _ (List.mem_of_getElem? (qiY hkl))
  unfold qiT
  rw [if_pos hi,Int.toNat_natCast]
  repeat' first|refine .A ?_|refine .B ?_|refine .D ?_|refine .F ?_|refine .J ?_|refine .L l1 ?_|refine .L hL ?_|refine .P hw ?_|refine .R hkl ?_|refine .Y ?_|fail
  rw [qiL (by omega) (by omega)]
 ·rw [decide_eq_false hi]at hw
  unfold qiT
  rw [if_neg hi]
  repeat' first|refine .A ?_|refine .B ?_|refine .C ?_|refine .J ?_|refine .P hw ?_|refine .F ?_|refine .Y ?_|fail
  rfl

theorem qi8 (hC:IsC H c ws bs)(hlo:lo≤c.P)(hly:lo≤c.Y)(i n:Int):∃H',qfV En lo Id.zap [qiZ c,I i,I n] H=some (qag,H')∧IsC H' c ws (qiU bs i (qiW n))∧Only [c.P,c.Y] H H':=by
 refine Exists.elim (qi1 hC hlo i) fun H1 hq => ?_
 have hw:=hq.1
 have hC1:=hq.2.1
 have ho:=hq.2.2.mono (S' := [c.P,c.Y]) (by simp)
 clear hq
 have l1:=hC1.p1
 by_cases hi:0≤i∧i<(bs.length:Int)
 ·rw [decide_eq_true hi]at hw
  refine Exists.elim (show ∃k:Nat,i=k from⟨i.toNat,by omega⟩) fun k hk => ?_
  subst hk
  have hkl:k<bs.length:=by omega
  have hs:=hC1.set_y hkl (qiW n) (qiX n) hly
  unfold qiU
  rw [if_pos hi,Int.toNat_natCast]
  refine⟨_, ?_,hs.2.1,ho.trans (hs.2.2.mono (by simp))⟩
  refine qgx rfl Fn.zap rfl rfl ?_
  repeat' first|refine .A ?_|refine .B ?_|refine .C ?_|refine .nil rfl ?_|refine .L l1 ?_|refine .P hw ?_|refine .R hkl ?_|refine .S hs.1 ?_|refine .F ?_|refine .Y ?_|fail
  rfl
 ·rw [decide_eq_false hi]at hw
  unfold qiU
  rw [if_neg hi]
  refine⟨H1, ?_,hC1,ho⟩
  refine qgx rfl Fn.zap rfl rfl ?_
  repeat' first|refine .A ?_|refine .B ?_|refine .D ?_|refine .F ?_|refine .nil rfl ?_|refine .P hw ?_|fail
  rfl

theorem qi9 (hC:IsC H c ws bs):qfV En lo Id.zar [qiZ c] H=some (N ws.length,H):=by
 refine qgx rfl Fn.zar rfl rfl ?_
 have l0:=hC.p0
 repeat' first|refine .A ?_|refine .B ?_|refine .D ?_|refine .F ?_|refine .J ?_|refine .L l0 ?_|refine .Y ?_|fail
 rfl
theorem qja (hC:IsC H c ws bs):qfV En lo Id.zam [qiZ c] H=some (N bs.length,H):=by
 refine qgx rfl Fn.zam rfl rfl ?_
 have l1:=hC.p1
 repeat' first|refine .A ?_|refine .B ?_|refine .D ?_|refine .F ?_|refine .J ?_|refine .L l1 ?_|refine .Y ?_|fail
 rfl
end

def qjb (h:qab)(nw nb:Nat):qab:=h ++ [.row (qiE (List.replicate nw 0)) false] ++ [.row (u8s (List.replicate nb 0)) false] ++ [.row (qiS ⟨h.length+2,h.length,h.length+1⟩ nw nb 0) false]
def qjc (h:qab):CB:=⟨h.length+2,h.length,h.length+1⟩

theorem qjd (k:IntKind):∀n,qaM [Value.int k 0] n=(List.replicate n (0:Int)).map (.int k)
 | 0=>rfl
 | n+1=>by rw [List.replicate_succ,List.map_cons,←qjd k n];rfl

theorem qje (h:qab)(nw nb:Nat):IsC (qjb h nw nb) (qjc h) (List.replicate nw 0) (List.replicate nb 0)∧Ext h (qjb h nw nb):=by
 refine⟨⟨⟨0, ?_⟩, ?_, ?_, ?_, ?_, ?_, ?_⟩, ?_⟩
 ·unfold qjb qjc
  simp only [List.length_replicate]
  rw [List.getElem?_append_right (by simp)]
  simp
 ·unfold qjb qjc
  rw [List.getElem?_append_left (by simp),List.getElem?_append_left (by simp),List.getElem?_append_right (by simp)]
  simp
 ·unfold qjb qjc
  rw [List.getElem?_append_left (by simp),List.getElem?_append_right (by simp)]
  simp
 ·simp [qjc]
 ·simp [qjc]
 ·simp [qjc]
 ·intro b hb
  rw [List.eq_of_mem_replicate hb];omega
 ·exact(((Ext.refl h).app _).app _).app _

theorem qjf (lo:Nat)(h:qab){nw nb:Nat}(h1:1≤nw)(h2:nw≤4096)(h3:nb≤4096):qfV En lo Id.zak [N nw,N nb] h=some (qiZ (qjc h),qjb h nw nb):=by
 refine qgx rfl Fn.zak rfl rfl ?_
 have hm:=fun lo=>qiR lo h nw nb
 rw [show(inB (nw:Int) 1 4096&&inB (nb:Int) 0 4096)=true by simp [inB];omega]at hm
 repeat' first|refine .A ?_|refine .B ?_|refine .D ?_|refine .F ?_|refine .J ?_|refine .P (hm _) ?_|refine .mks rfl rfl rfl ⟨Nat.le_refl _,by omega,by decide⟩ ?_|refine .Y ?_|fail
 unfold qjb qjc
 rw [qjd,qjd]
 simp only [List.length_append,List.length_singleton]
 rfl
end Go.Proofs.YtdinebegmppnoaaGreat

/- Where words lie; cells as they are at first. -/
namespace Go.Proofs.YtdinebegmppnoaaGreat
open Go Go.Ir

abbrev ifC (c:CB):Value := .iface qiH (qiZ c)
def lay (T S:Int):Value := .agg #[I T,I S]

theorem qjg {c:Cfg}(h:c.may):(Value.agg (qiN c).toArray)=lay c.T c.S:=by unfold qiN lay;rw [if_pos h]
theorem qjh (lo:Nat)(h:qab){c:Cfg}(hm:c.may):qfV En lo Id.zcc [.agg c.cs.toArray] h=some (.tuple #[lay c.T c.S,I 0],h):=by rw [qiO,if_pos hm,qjg hm]

theorem qji (lo:Nat)(h:qab){c:Cfg}(hm:c.may):qfV En lo Id.zbZ [lay c.T c.S] h=some (I (qiQ c),h):=by
 refine qgy rfl Fn.zbZ rfl rfl ?_
 unfold Cfg.may at hm
 repeat' first|refine .A ?_|refine .B ?_|refine .C ?_|refine .D ?_|refine .F ?_|refine .J ?_|refine .eqc rfl rfl rfl rfl (fun hc => ?_) (fun hc => ?_)|refine .Y ?_|fail
 ·simp at hc;omega
 ·refine qiJ ?_
  unfold qiQ
  rw [qiL (n:=4+c.T) (by omega) (by omega),qiL (n:=3*c.S) (by omega) (by omega),qiL (by omega) (by omega)]

theorem qjj (lo:Nat)(h:qab){c:Cfg}(hm:c.may)(n:Int):qfV En lo Id.zcb [lay c.T c.S,I n] h=some (I n,h):=by
 refine qgy rfl Fn.zcb rfl rfl ?_
 unfold Cfg.may at hm
 repeat' first|refine .A ?_|refine .B ?_|refine .C ?_|refine .D ?_|refine .F ?_|refine .J ?_|refine .eqc rfl rfl rfl rfl (fun hc => ?_) (fun hc => ?_)|refine .Y ?_|fail
 ·simp at hc;omega
 ·rfl

theorem qjk (lo:Nat)(h:qab){c:Cfg}(hm:c.may):qfV En lo Id.zbY [lay c.T c.S] h=some (I 1,h):=by
 refine qgy rfl Fn.zbY rfl rfl ?_
 repeat' first|refine .A ?_|refine .B ?_|refine .J ?_|refine .P (qjj _ _ hm _) ?_|refine .F ?_|refine .Y ?_|fail
 rfl

def qjl (c:Cfg)(s k:Int):Int:=if 0≤s∧s<c.S then 4+c.T+3*s+k else -1
theorem qjm (lo:Nat)(h:qab){c:Cfg}(hm:c.may)(s k:Int)(hk:0≤k∧k≤2):qfV En lo Id.zca [lay c.T c.S,I s,I k] h=some (I (qjl c s k),h):=by
 have hin:=fun lo=>qiM lo h s 0 (c.S-1)
 unfold Cfg.may at hm
 have hw:IntKind.i64.wrap (c.S-1)=c.S-1:=qiL (by omega) (by omega)
 unfold qjl
 by_cases hs:0≤s∧s<c.S
 ·rw [show inB s 0 (c.S-1)=true by simp [inB];omega,←hw]at hin
  rw [if_pos hs]
  refine qgy rfl Fn.zca rfl rfl ?_
  repeat' first|refine .A ?_|refine .B ?_|refine .D ?_|refine .F ?_|refine .J ?_|refine .C ?_|refine .P (hin _) ?_|refine .Y ?_|fail
  refine qiJ ?_
  rw [qiL (n:=4+c.T) (by omega) (by omega),qiL (n:=3*s) (by omega) (by omega),qiL (n:=4+c.T+3*s) (by omega) (by omega),qiL (by omega) (by omega)]
 ·rw [show inB s 0 (c.S-1)=false by simp [inB];omega,←hw]at hin
  rw [if_neg hs]
  refine qgy rfl Fn.zca rfl rfl ?_
  repeat' first|refine .A ?_|refine .B ?_|refine .C ?_|refine .J ?_|refine .P (hin _) ?_|refine .F ?_|refine .Y ?_|fail
  rfl
theorem qjn (lo:Nat)(h:qab){c:Cfg}(hm:c.may)(s:Int):qfV En lo Id.zbU [lay c.T c.S,I s] h=some (I (qjl c s 2),h):=by
 refine qgy rfl Fn.zbU rfl rfl ?_
 repeat' first|refine .A ?_|refine .B ?_|refine .J ?_|refine .call rfl rfl (qjm _ _ hm _ _ (by omega)) ?_|refine .F ?_|refine .Y ?_|fail
 rfl
theorem qjo (lo:Nat)(h:qab){c:Cfg}(hm:c.may)(s:Int):qfV En lo Id.zbR [lay c.T c.S,I s] h=some (I (qjl c s 0),h):=by
 refine qgy rfl Fn.zbR rfl rfl ?_
 repeat' first|refine .A ?_|refine .B ?_|refine .J ?_|refine .call rfl rfl (qjm _ _ hm _ _ (by omega)) ?_|refine .F ?_|refine .Y ?_|fail
 rfl
theorem qjp (lo:Nat)(h:qab){c:Cfg}(hm:c.may)(s:Int):qfV En lo Id.zbX [lay c.T c.S,I s] h=some (I (qjl c s 1),h):=by
 refine qgy rfl Fn.zbX rfl rfl ?_
 repeat' first|refine .A ?_|refine .B ?_|refine .J ?_|refine .call rfl rfl (qjm _ _ hm _ _ (by omega)) ?_|refine .F ?_|refine .Y ?_|fail
 rfl
theorem qjq (lo:Nat)(h:qab){c:Cfg}(hm:c.may):qfV En lo Id.zbT [lay c.T c.S] h=some (I 0,h):=by
 refine qgy rfl Fn.zbT rfl rfl ?_
 repeat' first|refine .A ?_|refine .B ?_|refine .J ?_|refine .P (qjj _ _ hm _) ?_|refine .F ?_|refine .Y ?_|fail
 rfl
theorem qjr (lo:Nat)(h:qab){c:Cfg}(hm:c.may):qfV En lo Id.zbW [lay c.T c.S] h=some (I 2,h):=by
 refine qgy rfl Fn.zbW rfl rfl ?_
 repeat' first|refine .A ?_|refine .B ?_|refine .J ?_|refine .P (qjj _ _ hm _) ?_|refine .F ?_|refine .Y ?_|fail
 rfl
theorem qjs (lo:Nat)(h:qab){c:Cfg}(hm:c.may):qfV En lo Id.zbS [lay c.T c.S] h=some (I 3,h):=by
 refine qgy rfl Fn.zbS rfl rfl ?_
 repeat' first|refine .A ?_|refine .B ?_|refine .J ?_|refine .P (qjj _ _ hm _) ?_|refine .F ?_|refine .Y ?_|fail
 rfl
def qjt (c:Cfg)(t:Int):Int:=if 0≤t∧t<c.T then 4+t else -1
theorem qju (lo:Nat)(h:qab){c:Cfg}(hm:c.may)(t:Int):qfV En lo Id.zbV [lay c.T c.S,I t] h=some (I (qjt c t),h):=by
 have hin:=fun lo=>qiM lo h t 0 (c.T-1)
 unfold Cfg.may at hm
 have hw:IntKind.i64.wrap (c.T-1)=c.T-1:=qiL (by omega) (by omega)
 unfold qjt
 by_cases hs:0≤t∧t<c.T
 ·rw [show inB t 0 (c.T-1)=true by simp [inB];omega,←hw]at hin
  rw [if_pos hs]
  refine qgy rfl Fn.zbV rfl rfl ?_
  repeat' first|refine .A ?_|refine .B ?_|refine .D ?_|refine .F ?_|refine .J ?_|refine .C ?_|refine .P (hin _) ?_|refine .Y ?_|fail
  refine qiJ ?_
  rw [qiL (by omega) (by omega)]
 ·rw [show inB t 0 (c.T-1)=false by simp [inB];omega,←hw]at hin
  rw [if_neg hs]
  refine qgy rfl Fn.zbV rfl rfl ?_
  repeat' first|refine .A ?_|refine .B ?_|refine .C ?_|refine .J ?_|refine .P (hin _) ?_|refine .F ?_|refine .Y ?_|fail
  rfl

theorem qjv (lo:Nat)(h:qab):qfV En lo Id.zbE [I 1,I 0] h=some (.tuple #[I 1,I 0],h):=callR_iff.2 ⟨200,by kernel_rfl⟩

def qjw (c:Cfg)(m:Int)(k:Nat):Int:=if 4+c.T≤k∧((k:Int)-4-c.T)%3=2∧m≤((k:Int)-4-c.T)/3∧((k:Int)-4-c.T)/3+1<c.S then((k:Int)-4-c.T)/3+2 else 0
def qbd (c:Cfg)(m:Int):List Int:=(List.range (qiQ c).toNat).map (qjw c m)
def qjx (c:Cfg):List Int:=(qbd c 0).set 1 1

theorem qjy (c:Cfg)(m:Int):(qbd c m).length=(qiQ c).toNat:=by simp [qbd]
theorem qjz (c:Cfg):(qjx c).length=(qiQ c).toNat:=by simp [qjx,qjy]
theorem qjA (c:Cfg)(m:Int){k:Nat}(h:k<(qiQ c).toNat):(qbd c m)[k]? = some (qjw c m k):=by simp [qbd,h]

theorem qjB {c:Cfg}(hm:c.may):qbd c c.S=List.replicate (qiQ c).toNat 0:=by
 refine List.ext_getElem? fun k => ?_
 by_cases hk:k<(qiQ c).toNat
 ·rw [qjA c _ hk,List.getElem?_replicate,if_pos hk]
  unfold qjw
  rw [if_neg (by omega)]
 ·rw [List.getElem?_eq_none (by rw [qjy];omega),List.getElem?_eq_none (by simp;omega)]

theorem qjC {c:Cfg}(hm:c.may){m:Int}(h0:0≤m)(h1:m<c.S):qiU (qbd c (m+1)) (qjl c m 2) (if m+1<c.S then m+2 else 0)=qbd c m:=by
 unfold Cfg.may at hm
 have hs:qjl c m 2=4+c.T+3*m+2:=by unfold qjl;rw [if_pos ⟨h0,h1⟩]
 rw [hs]
 unfold qiU
 rw [if_pos ⟨by omega,by rw [qjy];unfold qiQ;omega⟩]
 refine List.ext_getElem? fun k => ?_
 rw [List.getElem?_set]
 by_cases hk:k<(qiQ c).toNat
 ·rw [qjA c _ hk,qjA c _ hk]
  by_cases he:(4+c.T+3*m+2).toNat=k
  ·rw [if_pos he,if_pos (by rw [qjy];omega)]
   congr 1
   unfold qjw
   have e1:((k:Int)-4-c.T)=3*m+2:=by omega
   rw [e1]
   split<;>split<;>omega
  ·rw [if_neg he]
   congr 1
   unfold qjw
   split<;>split<;>omega
 ·rw [List.getElem?_eq_none (by rw [qjy];omega),List.getElem?_eq_none (by rw [qjy];omega)]
  split
  ·rw [if_neg (by rw [qjy];omega)]
  ·rfl

set_option maxHeartbeats 1600000 in
theorem qjD {lo:Nat}{H:qab}{b:CB}{c:Cfg}{ws bs:List Int}(hm:c.may)(hC:IsC H b ws bs)(hlo:lo≤b.P∧lo≤b.W)(hw:ws.length=(qiQ c).toNat)(hb:(bs.length:Int)=c.A) :
  ∃H',qfV En lo Id.zcd [ifC b,.agg c.cs.toArray] H=some (I 0,H')∧IsC H' b (qjx c) bs∧Only [b.P,b.W] H H':=by
 have key:∃v H',qfV En lo Id.zcd [ifC b,.agg c.cs.toArray] H=some (v,H')∧v=I 0∧IsC H' b (qjx c) bs∧Only [b.P,b.W] H H':=by
  refine qii rfl Fn.zcd rfl rfl ?_
  have hm':=hm
  unfold Cfg.may at hm'
  have hwI:(ws.length:Int)=qiQ c:=by rw [hw];unfold qiQ;omega
  have hwb:ws.length≤200:=by rw [hw];unfold qiQ;omega
  have hO:=fun lo=>qjh lo H hm
  have hLW:=fun lo=>qji lo H hm
  have hCW:=fun lo=>qi9 (lo:=lo) hC
  have hCB:=fun lo=>qja (lo:=lo) hC
  repeat' first|refine .A ?_|refine .B ?_|refine .D ?_|refine .F ?_|refine .G ?_|refine .C ?_|refine .f1 ?_|refine .f6 ?_|refine .P (hO _) ?_|refine .P (hLW _) ?_|refine .W (hCW _) ?_|refine .W (hCB _) ?_|refine .Y ?_|fail
  refine .loop (fun n f H1=>∃(i:Nat) (w1:List Int),n+i=ws.length∧f = [(0,ifC b),(5,lay c.T c.S),(38,I (qiQ c)),(39,N i)]∧IsC H1 b w1 bs∧w1=List.replicate i 0++ws.drop i∧Only [b.P,b.W] H H1) (n:=ws.length)
   ⟨0,ws,rfl,rfl,hC,by simp,.refl _ _⟩ ?_
  rintro n f H1 ⟨i,w1,hn,rfl,hC1,he,ho⟩ next
  by_cases hi:i<ws.length
  ·refine Exists.elim (qi4 hC1 hlo.1 hlo.2 (i:Nat) 0) fun H2 hq => ?_
   have hS:=hq.1
   have hC2:=hq.2.1
   have ho2:=ho.trans hq.2.2
   clear hq
   have e2:qiU w1 (i:Nat) 0=List.replicate (i+1) 0++ws.drop (i+1):=by
    have hl:w1.length=ws.length:=by rw [he];simp;omega
    unfold qiU
    rw [if_pos ⟨by omega,by omega⟩,he,Int.toNat_natCast,List.set_append,if_neg (by simp),List.length_replicate,Nat.sub_self,List.drop_eq_getElem_cons hi,List.set_cons_zero,List.replicate_succ',List.append_assoc]
    rfl
   repeat' first|refine .A ?_|refine .B ?_|refine .C ?_|refine .F ?_|refine .G ?_|refine .H ?_|refine .t1 ?_|refine .n2 ?_|refine .W hS ?_|fail
   exact next (n-1) _ _ (by omega) ⟨i+1,_,by omega,rfl,hC2,e2,ho2⟩
  ·have hw1:w1=qbd c c.S:=by
    rw [he,List.drop_of_length_le (by omega),List.append_nil,qjB hm,show i=(qiQ c).toNat by omega]
   clear next he
   subst hw1
   repeat' first|refine .A ?_|refine .B ?_|refine .D ?_|refine .G ?_|refine .I ?_|refine .C ?_|refine .f1 ?_|refine .F ?_|refine .Y ?_|fail
   refine .loop (fun n f H3=>∃(m:Int),(n:Int)=m+1∧-1≤m∧m<c.S∧f = [(0,ifC b),(5,lay c.T c.S),(8,I (if m+1<c.S then m+2 else 0)),(9,I m)]∧IsC H3 b (qbd c (m+1)) bs∧Only [b.P,b.W] H H3) (n:=c.S.toNat)
    ⟨c.S-1,by omega,by omega,by omega,by show [(0,_),(5,_),(8,I 0),(9,I (IntKind.i64.wrap (c.S-1)))]=_;rw [qiL (by omega) (by omega),if_neg (by omega)],by rw [show c.S-1+1=c.S by omega];exact hC1,ho⟩ ?_
   rintro n f H3 ⟨m,hn3,hm0,hm1,rfl,hC3,ho3⟩ next
   by_cases hp:0≤m
   ·have hL:=fun lo=>qjn lo H3 hm m
    refine Exists.elim (qi4 hC3 hlo.1 hlo.2 (qjl c m 2) (if m+1<c.S then m+2 else 0)) fun H4 hq => ?_
    have hS:=hq.1
    have hC4:=hq.2.1
    have ho4:=ho3.trans hq.2.2
    clear hq
    rw [qjC hm hp hm1]at hC4
    repeat' first|refine .A ?_|refine .B ?_|refine .C ?_|refine .F ?_|refine .G ?_|refine .H ?_|refine .t4 ?_|refine .P (hL _) ?_|refine .W hS ?_|refine .Y ?_|fail
    refine next (n-1) _ _ (by omega) ⟨m-1,by omega,by omega,by omega, ?_,by rw [show m-1+1=m by omega];exact hC4,ho4⟩
    show [(0,_),(5,_),(8,I (IntKind.i64.wrap (m+1))),(9,I (IntKind.i64.wrap (m-1)))]=_
    rw [qiL (by omega) (by omega),qiL (by omega) (by omega),if_pos (by omega),show m-1+2=m+1 by omega]
   ·have hm2:m = -1:=by omega
    subst hm2
    have hK:=fun lo=>qjk lo H3 hm
    have hP:=fun lo=>qjv lo H3
    refine Exists.elim (qi4 hC3 hlo.1 hlo.2 1 1) fun H4 hq => ?_
    have hS:=hq.1
    have hC4:=hq.2.1
    have ho4:=ho3.trans hq.2.2
    clear hq
    have e4:qiU (qbd c (-1+1)) 1 1=qjx c:=by
     unfold qiU qjx
     rw [if_pos ⟨by omega,by rw [qjy];unfold qiQ;omega⟩];rfl
    rw [e4]at hC4
    have hf:(if(-1:Int)+1<c.S then(-1:Int)+2 else 0)=1:=by rw [if_pos (by omega)];rfl
    rw [hf]
    repeat' first|refine .A ?_|refine .B ?_|refine .D ?_|refine .I ?_|refine .J ?_|refine .f4 ?_|refine .P (hK _) ?_|refine .P (hP _) ?_|refine .W hS ?_|refine .F ?_|refine .Y ?_|fail
    exact⟨rfl,hC4,ho4⟩
 obtain⟨v,H',h1,rfl,h2,h3⟩:=key
 exact⟨H',h1,h2,h3⟩
end Go.Proofs.YtdinebegmppnoaaGreat

/- Fields of words. -/
namespace Go.Proofs.YtdinebegmppnoaaGreat
open Go Go.Ir

theorem qjE (n:Nat):BitVec.ofInt 64 (n:Int)=BitVec.ofNat 64 n:=by
 apply BitVec.eq_of_toNat_eq
 simp [BitVec.toNat_ofInt]
theorem qjF {n:Nat}(h:n<2 ^ 62):(BitVec.ofInt 64 (n:Int)).toNat=n:=by
 rw [qjE,BitVec.toNat_ofNat]
 exact Nat.mod_eq_of_lt (Nat.lt_trans h (by decide))
theorem qjG {n m:Nat}(hn:n<2 ^ 62)(hm:m<2 ^ 62):IntKind.i64.wrap ((BitVec.ofInt IntKind.i64.bits (n:Int) &&& BitVec.ofInt IntKind.i64.bits (m:Int)).toNat:Int)=((n &&& m:Nat):Int):=by
 show IntKind.i64.wrap ((BitVec.ofInt 64 (n:Int) &&& BitVec.ofInt 64 (m:Int)).toNat:Int)=_
 rw [BitVec.toNat_and,qjF hn,qjF hm]
 exact qig (Nat.lt_of_le_of_lt Nat.and_le_left hn)
theorem qjH {n m:Nat}(hn:n<2 ^ 62)(hm:m<2 ^ 62):IntKind.i64.wrap ((BitVec.ofInt IntKind.i64.bits (n:Int) ||| BitVec.ofInt IntKind.i64.bits (m:Int)).toNat:Int)=((n ||| m:Nat):Int):=by
 show IntKind.i64.wrap ((BitVec.ofInt 64 (n:Int) ||| BitVec.ofInt 64 (m:Int)).toNat:Int)=_
 rw [BitVec.toNat_or,qjF hn,qjF hm]
 exact qig (Nat.or_lt_two_pow hn hm)
theorem qjI {n m:Nat}(hn:n<2 ^ 62)(hm:m<2 ^ 62)(hd:n &&& m=0):IntKind.i64.wrap ((BitVec.ofInt IntKind.i64.bits (n:Int) &&& ~~~BitVec.ofInt IntKind.i64.bits (m:Int)).toNat:Int)=(n:Int):=by
 show IntKind.i64.wrap ((BitVec.ofInt 64 (n:Int) &&& ~~~BitVec.ofInt 64 (m:Int)).toNat:Int)=_
 have:BitVec.ofInt 64 (n:Int) &&& ~~~BitVec.ofInt 64 (m:Int)=BitVec.ofInt 64 (n:Int):=by
  rw [qjE,qjE]
  apply BitVec.eq_of_getLsbD_eq
  intro i hi
  rw [BitVec.getLsbD_and,BitVec.getLsbD_not]
  have h2:=congrArg (fun x=>x.testBit i) hd
  simp only [Nat.testBit_and,Nat.zero_testBit]at h2
  simp only [BitVec.getLsbD_ofNat,hi,decide_true,Bool.true_and]
  cases h3:n.testBit i<;>cases h4:m.testBit i<;>simp_all
 rw [this,qjF hn]
 exact qig hn

theorem qjJ (n a b:Nat):n &&& ((2 ^ b-1)*2 ^ a)=n/2 ^ a%2 ^ b*2 ^ a:=by
 apply Nat.eq_of_testBit_eq
 intro i
 rw [Nat.testBit_and,Nat.testBit_mul_two_pow,Nat.testBit_mul_two_pow,Nat.testBit_two_pow_sub_one,Nat.testBit_mod_two_pow,Nat.testBit_div_two_pow]
 by_cases h:a≤i
 ·rw [show i-a+a=i by omega]
  by_cases h2:i-a<b<;>simp [h,h2]
 ·simp [h]

theorem qjK {a b:Nat}(h:a+b≤62)(hb:1≤b):(2 ^ b-1)*2 ^ a<2 ^ 62:=by
 have h1:(2 ^ b-1)*2 ^ a<2 ^ b*2 ^ a:=by
  have:0<2 ^ a:=Nat.two_pow_pos a
  have h3:0<2 ^ b:=Nat.two_pow_pos b
  exact Nat.mul_lt_mul_of_pos_right (by omega) this
 rw [←Nat.pow_add]at h1
 exact Nat.lt_of_lt_of_le h1 (Nat.pow_le_pow_right (by decide) (by omega))

def fld (a b:Nat):Value := .agg #[N a,N b]

section
variable (lo:Nat)(h:qab){a b:Nat}

theorem qjL {f:Fr}{call:qaN}{x y:Operand}{n k:Nat}(hx:ev f x=some (N n))(hy:ev f y=some (N k))(hk:k≤62)(hb:n*2 ^ k<2 ^ 62):iop call lo (.bin .shl x y) f h=some (N (n*2 ^ k),h):=by
 simp only [iop,hx,hy,qar,qaq,if_true,qao]
 rw [if_neg (by omega)]
 have:min ((k:Int).toNat) IntKind.i64.bits=k:=by show min _ 64=_;omega
 rw [this,show((n:Int)*2 ^ k)=((n*2 ^ k:Nat):Int) by simp,qig hb]
theorem qjM {f:Fr}{call:qaN}{x y:Operand}{n k:Nat}(hx:ev f x=some (N n))(hy:ev f y=some (N k))(hk:k≤62):iop call lo (.bin .shr x y) f h=some (N (n/2 ^ k),h):=by
 simp only [iop,hx,hy,qar,qaq,if_true,qao]
 rw [if_neg (by omega)]
 have:min ((k:Int).toNat) IntKind.i64.bits=k:=by show min _ 64=_;omega
 rw [this]
 have h2:((n:Int)).fdiv (2 ^ k)=((n/2 ^ k:Nat):Int):=by
  rw [Int.fdiv_eq_ediv_of_nonneg _ (by exact Int.le_of_lt (Int.pow_pos (by decide)))]
  simp
 rw [h2]
theorem qjN {f:Fr}{call:qaN}{x y:Operand}{n m:Nat}(hx:ev f x=some (N n))(hy:ev f y=some (N m))(hn:n<2 ^ 62)(hm:m<2 ^ 62):iop call lo (.bin .and x y) f h=some (N (n &&& m),h):=by
 simp only [iop,hx,hy,qar,qaq,qan,if_true]
 rw [qjG hn hm];rfl
theorem qjO {f:Fr}{call:qaN}{x y:Operand}{n m:Nat}(hx:ev f x=some (N n))(hy:ev f y=some (N m))(hn:n<2 ^ 62)(hm:m<2 ^ 62):iop call lo (.bin .or x y) f h=some (N (n ||| m),h):=by
 simp only [iop,hx,hy,qar,qaq,qan,if_true]
 rw [qjH hn hm];rfl
theorem qjP {f:Fr}{call:qaN}{x y:Operand}{n m:Nat}(hx:ev f x=some (N n))(hy:ev f y=some (N m))(hn:n<2 ^ 62)(hm:m<2 ^ 62)(hd:n &&& m=0):iop call lo (.bin .andNot x y) f h=some (N n,h):=by
 simp only [iop,hx,hy,qar,qaq,qan,if_true]
 rw [qjI hn hm hd];rfl

theorem qjQ (n:Int):qfV En lo Id.zbs [I n] h=some (.bool (decide (0≤n∧n<4611686018427387904)),h):=by
 refine qgy rfl Fn.zbs rfl rfl ?_
 repeat' first|refine .A ?_|refine .B ?_|refine .J ?_|refine .k1 (fun hc => ?_) fun hc => ?_|refine .k4 (fun hc => ?_) fun hc => ?_|refine .D ?_|refine .F ?_|refine .Y ?_|fail
 all_goals (refine qiK ?_;simp [*])

theorem qjR (hab:a+b≤62)(hb:1≤b∧b≤32):qfV En lo Id.zbn [fld a b] h=some (.bool true,h):=by
 refine qgy rfl Fn.zbn rfl rfl ?_
 repeat' first|refine .A ?_|refine .B ?_|refine .J ?_|refine .C ?_|refine .t2 ?_|refine .t4 ?_|refine .subN (a:=62) rfl rfl rfl (by omega) ?_|refine .F ?_|refine .Y ?_|fail
 rfl
theorem qjS (hb:1≤b∧b≤32):qfV En lo Id.zbo [fld a b] h=some (N (2 ^ b-1),h):=by
 refine qgy rfl Fn.zbo rfl rfl ?_
 have hp:1*2 ^ b<2 ^ 62:=by rw [Nat.one_mul];exact Nat.pow_lt_pow_right (by decide) (by omega)
 have hp2:1≤1*2 ^ b:=by rw [Nat.one_mul];exact Nat.two_pow_pos b
 repeat' first|refine .A ?_|refine .B ?_|refine .J ?_|refine .C ?_|refine .go rfl (qjL (n:=1) _ _ rfl rfl (by omega) hp) rfl ?_|refine .subN (b:=1) rfl rfl rfl ⟨hp2,hp⟩ ?_|refine .F ?_|refine .Y ?_|fail
 rw [Nat.one_mul];rfl
theorem qjT (hab:a+b≤62)(hb:1≤b∧b≤32):qfV En lo Id.zbm [fld a b] h=some (N ((2 ^ b-1)*2 ^ a),h):=by
 refine qgy rfl Fn.zbm rfl rfl ?_
 repeat' first|refine .A ?_|refine .B ?_|refine .J ?_|refine .C ?_|refine .P (qjS _ _ hb) ?_|refine .go rfl (qjL _ _ rfl rfl (by omega) (qjK hab hb.1)) rfl ?_|refine .F ?_|refine .Y ?_|fail
 rfl
theorem qjU (hab:a+b≤62)(hb:1≤b∧b≤32)(n:Int):qfV En lo Id.zbr [fld a b,.func (.func Id.zbm) #[] #[],I n] h=some (N ((2 ^ b-1)*2 ^ a),h):=by
 refine qgy rfl Fn.zbr rfl rfl ?_
 repeat' first|refine .A ?_|refine .B ?_|refine .D ?_|refine .F ?_|refine .J ?_|refine .P (qjR _ _ hab hb) ?_|refine .callv rfl rfl rfl rfl (qjT _ _ hab hb) ?_|refine .Y ?_|fail
 rfl
theorem qjV (hab:a+b≤62)(hb:1≤b∧b≤32){n:Nat}(hn:n<2 ^ 62):qfV En lo Id.zbp [N n,fld a b] h=some (N (n/2 ^ a%2 ^ b),h):=by
 have hw:=fun lo=>qjQ lo h (n:Int)
 rw [decide_eq_true (show(0:Int)≤n∧(n:Int)<4611686018427387904 by omega)]at hw
 have hm:=qjK hab hb.1
 refine qgy rfl Fn.zbp rfl rfl ?_
 have mx:∀{f:Fr} {call:qaN} {x:Operand},ev f x=some (N a)→iop call h.length (.max [x,.const (I 0)]) f h=some (N a,h):=fun {f call x} hx=>by
  have h0:ev f (.const (I 0))=some (I 0):=rfl
  have hmx:qaL .i64 (a:Int) [I 0]=some (a:Int):=by
   simp only [qaL,if_true]
   rw [if_neg (by omega)]
  simp only [iop,evs,hx,h0]
  show(match qaL .i64 (a:Int) [I 0]with|some m=>some (Value.int .i64 m,h)|none=>none)=_
  rw [hmx]
 repeat' first|refine .A ?_|refine .B ?_|refine .D ?_|refine .F ?_|refine .J ?_|refine .C ?_|refine .P (hw _) ?_|refine .P (qjU _ _ hab hb _) ?_|refine .go rfl (qjN _ _ rfl rfl hn hm) rfl ?_|refine .go rfl (mx rfl) rfl ?_|refine .go rfl (qjM _ _ rfl rfl (by omega)) rfl ?_|refine .Y ?_|fail
 rw [qjJ,Nat.mul_div_cancel _ (Nat.two_pow_pos a)];rfl

theorem qjW (hab:a+b≤62)(hb:1≤b∧b≤32){n k:Nat}(hn:n<2 ^ a)(hk:k<2 ^ b):qfV En lo Id.zbq [N n,fld a b,N k] h=some (.tuple #[N (n+k*2 ^ a),I 0],h):=by
 have hn62:n<2 ^ 62:=Nat.lt_of_lt_of_le hn (Nat.pow_le_pow_right (by decide) (by omega))
 have hw:=fun lo=>qjQ lo h (n:Int)
 rw [decide_eq_true (show(0:Int)≤n∧(n:Int)<4611686018427387904 by omega)]at hw
 have hm:=qjK hab hb.1
 have hkm:k*2 ^ a<2 ^ 62:=Nat.lt_of_le_of_lt (Nat.mul_le_mul_right _ (by omega)) hm
 have hd:n &&& ((2 ^ b-1)*2 ^ a)=0:=by rw [qjJ,Nat.div_eq_of_lt hn];simp
 have hor:n ||| (k*2 ^ a)=n+k*2 ^ a:=by
  rw [Nat.or_comm,Nat.mul_comm,←Nat.two_pow_add_eq_or_of_lt hn,Nat.add_comm]
 refine qgy rfl Fn.zbq rfl rfl ?_
 repeat' first|refine .A ?_|refine .B ?_|refine .D ?_|refine .F ?_|refine .G ?_|refine .H ?_|refine .J ?_|refine .C ?_|refine .f1 ?_|refine .f3 ?_|refine .P (hw _) ?_|refine .P (qjR _ _ hab hb) ?_|refine .P (qjS _ _ hb) ?_|refine .P (qjT _ _ hab hb) ?_|refine .go rfl (qjP _ _ rfl rfl hn62 hm hd) rfl ?_|refine .go rfl (qjL _ _ rfl rfl (by omega) hkm) rfl ?_|refine .go rfl (qjO _ _ rfl rfl hn62 hkm) rfl ?_|refine .Y ?_|fail
 rw [hor];rfl
end
end Go.Proofs.YtdinebegmppnoaaGreat

/- Entries. -/
namespace Go.Proofs.YtdinebegmppnoaaGreat
open Go Go.Ir

structure Ent where
 o:Int
 g:Int
 p:Int
 u:Int
 lk:Bool
 lv:Bool
 deriving DecidableEq
def Ent.cs (e:Ent):List Value := [I e.o,I e.g,I e.p,I e.u,.bool e.lk,.bool e.lv]
def Ent.zero:Ent:=⟨0,0,0,0,false,false⟩
def Ent.may (e:Ent):Prop:=0≤e.o∧e.o≤4096∧0≤e.g∧e.g≤1000∧0≤e.p∧e.p≤7∧0≤e.u∧e.u≤15∧(e.lk=true→e.p+e.u=0)∧(e.lv=false→e.o=0∧e.p=0∧e.u=0∧e.lk=false)
instance (e:Ent):Decidable e.may:=by unfold Ent.may;infer_instance

def qjX (b:Bool):Nat:=if b then 1 else 0
def qjY (n:Nat):Ent:=⟨(n/2 ^ 0%2 ^ 20:Nat),(n/2 ^ 20%2 ^ 20:Nat),(n/2 ^ 40%2 ^ 4:Nat),(n/2 ^ 44%2 ^ 4:Nat),decide (n/2 ^ 48%2 ^ 1=1),decide (n/2 ^ 49%2 ^ 1=1)⟩
def qjZ (w:Int):Option Ent:=if 0≤w∧w<1125899906842624∧(qjY w.toNat).may then some (qjY w.toNat)else none
def qj0 (e:Ent):Nat:=e.o.toNat+e.g.toNat*2 ^ 20+e.p.toNat*2 ^ 40+e.u.toNat*2 ^ 44+qjX e.lk*2 ^ 48+qjX e.lv*2 ^ 49

theorem qj1 {e:Ent}(h:e.may):qj0 e<2 ^ 50:=by
 unfold Ent.may at h
 have h1:qjX e.lk≤1:=by unfold qjX;split<;>decide
 have h2:qjX e.lv≤1:=by unfold qjX;split<;>decide
 unfold qj0
 omega
theorem qj2 {e:Ent}(h:e.may):qjY (qj0 e)=e:=by
 unfold Ent.may at h
 have h1:qjX e.lk≤1:=by unfold qjX;split<;>decide
 have h2:qjX e.lv≤1:=by unfold qjX;split<;>decide
 have e5:decide (qj0 e/2 ^ 48%2 ^ 1=1)=e.lk:=by
  have:qj0 e/2 ^ 48%2 ^ 1=qjX e.lk:=by unfold qj0;omega
  rw [this];unfold qjX;cases e.lk<;>rfl
 have e6:decide (qj0 e/2 ^ 49%2 ^ 1=1)=e.lv:=by
  have:qj0 e/2 ^ 49%2 ^ 1=qjX e.lv:=by unfold qj0;omega
  rw [this];unfold qjX;cases e.lv<;>rfl
 unfold qjY
 rw [e5,e6]
 obtain⟨o,g,p,u,lk,lv⟩:=e
 simp only at h h1 h2⊢
 have q1:((qj0 ⟨o,g,p,u,lk,lv⟩/2 ^ 0%2 ^ 20:Nat):Int)=o:=by unfold qj0;simp only;omega
 have q2:((qj0 ⟨o,g,p,u,lk,lv⟩/2 ^ 20%2 ^ 20:Nat):Int)=g:=by unfold qj0;simp only;omega
 have q3:((qj0 ⟨o,g,p,u,lk,lv⟩/2 ^ 40%2 ^ 4:Nat):Int)=p:=by unfold qj0;simp only;omega
 have q4:((qj0 ⟨o,g,p,u,lk,lv⟩/2 ^ 44%2 ^ 4:Nat):Int)=u:=by unfold qj0;simp only;omega
 rw [q1,q2,q3,q4]
theorem qj3 {e:Ent}(h:e.may):qjZ (qj0 e:Nat)=some e:=by
 have:=qj1 h
 unfold qjZ
 rw [Int.toNat_natCast,qj2 h,if_pos ⟨by omega,by omega,h⟩]
theorem qj4 {n:Nat}(h:n<2 ^ 50):qj0 (qjY n)=n:=by
 unfold qj0 qjY
 simp only [Int.toNat_natCast]
 have e5:qjX (decide (n/2 ^ 48%2 ^ 1=1))=n/2 ^ 48%2 ^ 1:=by
  unfold qjX
  by_cases hh:n/2 ^ 48%2 ^ 1=1
  ·rw [decide_eq_true hh,if_pos rfl,hh]
  ·rw [decide_eq_false hh,if_neg (by decide)];omega
 have e6:qjX (decide (n/2 ^ 49%2 ^ 1=1))=n/2 ^ 49%2 ^ 1:=by
  unfold qjX
  by_cases hh:n/2 ^ 49%2 ^ 1=1
  ·rw [decide_eq_true hh,if_pos rfl,hh]
  ·rw [decide_eq_false hh,if_neg (by decide)];omega
 rw [e5,e6]
 omega
theorem qj5 {w:Int}{e:Ent}(h:qjZ w=some e):(qj0 e:Int)=w∧e.may:=by
 unfold qjZ at h
 split at h
 ·rename_i hc
  injection h with h
  subst h
  exact⟨by rw [qj4 (by omega)];omega,hc.2.2⟩
 ·cases h

theorem qj6 (lo:Nat)(h:qab)(n m:Int):qfV En lo Id.zbg [I n,I m] h=some (.bool (inB n 0 m),h):=by
 refine qgy rfl Fn.zbg rfl rfl ?_
 repeat' first|refine .A ?_|refine .B ?_|refine .J ?_|refine .k2 (fun hc => ?_) fun hc => ?_|refine .k4 (fun hc => ?_) fun hc => ?_|refine .D ?_|refine .F ?_|refine .Y ?_|fail
 all_goals (refine qiK ?_;simp [inB, *])

set_option maxHeartbeats 1600000 in
theorem qj7 (lo:Nat)(h:qab)(e:Ent):qfV En lo Id.zaO [.agg e.cs.toArray] h=some (.bool (decide e.may),h):=by
 have hi:=fun lo n m=>qj6 lo h n m
 refine qgy rfl Fn.zaO rfl rfl ?_
 by_cases hm:e.may
 ·have hm':=hm
  unfold Ent.may at hm'
  rw [decide_eq_true hm]
  have i1:=fun lo=>hi lo e.o 4096
  have i2:=fun lo=>hi lo e.g 1000
  have i3:=fun lo=>hi lo e.p 7
  have i4:=fun lo=>hi lo e.u 15
  rw [show inB e.o 0 4096=true by simp [inB];omega]at i1
  rw [show inB e.g 0 1000=true by simp [inB];omega]at i2
  rw [show inB e.p 0 7=true by simp [inB];omega]at i3
  rw [show inB e.u 0 15=true by simp [inB];omega]at i4
  have hw:IntKind.i64.wrap (e.p+e.u)=e.p+e.u:=qiL (by omega) (by omega)
  obtain⟨o,g,p,u,lk,lv⟩:=e
  cases lk
  all_goals
   cases lv
   all_goals
    simp only at hm' hw
    repeat' first|refine .A ?_|refine .B ?_|refine .C ?_|refine .D ?_|refine .F ?_|refine .G ?_|refine .H ?_|refine .J ?_|refine .k3 (fun hc => ?_) fun hc => ?_|refine .P (i1 _) ?_|refine .P (i2 _) ?_|refine .P (i3 _) ?_|refine .P (i4 _) ?_|refine .eqc rfl rfl rfl rfl (fun hc => ?_) (fun hc => ?_)|refine .Y ?_|fail
    all_goals first|rfl|(exfalso;simp at hc hm'<;>omega)|(exfalso;simp at hm'<;>omega)|(exfalso;omega)
 ·rw [decide_eq_false hm]
  unfold Ent.may at hm
  obtain⟨o,g,p,u,lk,lv⟩:=e
  cases lk
  all_goals
   cases lv
   all_goals
    simp only at hm
    repeat' first|refine .A ?_|refine .B ?_|refine .C ?_|refine .D ?_|refine .F ?_|refine .G ?_|refine .H ?_|refine .J ?_|refine .k3 (fun hc => ?_) fun hc => ?_|refine .callb rfl rfl (hi _ _ _) (fun hc => ?_) (fun hc => ?_)|refine .eqc rfl rfl rfl rfl (fun hc => ?_) (fun hc => ?_)|refine .Y ?_|fail
    all_goals first|rfl|(exfalso;apply hm;simp [inB]at * <;> omega)|(exfalso;apply hm;simp only [IntKind.wrap_i64]at *;simp [inB]at * <;> omega)

theorem qj8 (lo:Nat)(h:qab)(b:Bool):qfV En lo Id.zbd [.bool b] h=some (N (qjX b),h):=by
 refine qgy rfl Fn.zbd rfl rfl ?_
 cases b
 all_goals
  repeat' first|refine .A ?_|refine .B ?_|refine .C ?_|refine .D ?_|refine .F ?_|refine .J ?_|fail
  rfl
theorem qj9 (lo:Nat)(h:qab):qfV En lo Id.zbf [] h=some (.agg #[I 0,I 20,I 20,I 20,I 40,I 4,I 44,I 4,I 48,I 1,I 49,I 1],h):=callR_iff.2 ⟨60,by kernel_rfl⟩
end Go.Proofs.YtdinebegmppnoaaGreat

