/- A pass: what it holds in the heap; its small steps. -/
import Derived.Test.YtdinebegmppnoabGreatWorldP
import Derived.Test.YtdinebegmppnoabGreatThreadP3
import Derived.Test.YtdinebegmppnoabGreatThreadP2
set_option linter.unusedVariables false
set_option linter.unusedSimpArgs false

namespace Go.Proofs.YtdinebegmppnoabGreat
open Go Go.Ir

structure Tn where
 nx:Int
 ep:Int
 ak:Int
structure Mc where
 c:Cfg
 next:Int
 top:Int
 slot:Int
 e:Ent
 objs:List Obj
 g:Nat→Int
 att:Int
 dest:Int
 word:Int
 i:Int
 b:Int
 moved:Int
 turn:Option Tn
 low:Bool

def qmI (c:Cfg)(t:Tn):List Value := [I c.T,I c.S,I c.T,I t.nx,I t.ep,I t.ak]
def qmJ (m:Mc)(ov tv:Value):List Value :=
 [I m.c.T,I m.c.S,I m.c.A,I m.c.S,I m.c.T,I m.next,I m.top,I m.slot,I m.e.o,I m.e.g,I m.e.p,I m.e.u,.bool m.e.lk,.bool m.e.lv,ov]++(List.range 64).map (fun k=>I (m.g k)) ++ [I m.att,I m.dest,I m.word,I m.i,I m.b,I m.moved,tv,.bool m.low]

def ObjsOk (H:qab)(own:List Nat)(M:Nat)(ov:Value)(objs:List Obj):Prop :=
 (objs = []∧ov = .slice none 0 0)∨(objs≠[]∧∃b,b∈own∧b≠M∧ov = .slice (some (loose b 0)) objs.length 4∧H[b]? = some (.row (css objs).flatten false))
def qmK (H:qab)(own:List Nat)(M:Nat)(c:Cfg)(tv:Value)(turn:Option Tn):Prop :=
 (turn=none∧tv = .pointer none)∨∃t b,turn=some t∧b∈own∧b≠M∧tv = .pointer (some ⟨b,0,none⟩)∧H[b]? = some (.row (qmI c t) false)

structure McAt (H:qab)(own:List Nat)(M:Nat)(m:Mc)(ov tv:Value):Prop where
 row:H[M]? = some (.row (qmJ m ov tv) false)
 objs:ObjsOk H own M ov m.objs
 turn:qmK H own M m.c tv m.turn
 mem:M∈own
 lt:∀b∈own,b<H.length

def qmL:Option Int→Value
 | none => .tuple #[.agg #[I 0,I 0],.bool false]
 | some n => .tuple #[.agg #[I 0,I n],.bool true]

section
variable {lo:Nat}{H:qab}{own:List Nat}{M:Nat}{m:Mc}{ov tv:Value}


theorem McAt.put (h:McAt H own M m ov tv){m':Mc}{k:Blk}(hk:k = .row (qmJ m' ov tv) false)(ho:m'.objs=m.objs)(ht:m'.turn=m.turn)(hc:m'.c=m.c):McAt (H.set M k) own M m' ov tv:=by
 subst hk
 refine⟨qiz (h.lt M h.mem), ?_, ?_,h.mem,fun b hb=>by rw [List.length_set];exact h.lt b hb⟩
 ·rw [ho]
  rcases h.objs with h1|⟨h0,b,h1,h2,h3,h4⟩
  ·exact .inl h1
  ·exact .inr ⟨h0,b,h1,h2,h3,qiA h2.symm h4⟩
 ·rw [ht,hc]
  rcases h.turn with h1|⟨t,b,h1,h2,h3,h4,h5⟩
  ·exact .inl h1
  ·exact .inr ⟨t,b,h1,h2,h3,h4,qiA h3.symm h5⟩

theorem McAt.chg (h:McAt H own M m ov tv){S:List Nat}{H':qab}(a:Chg S H H')(hd:∀b∈own,b∉S):McAt H' own M m ov tv:=by
 refine⟨a.get h.row (hd M h.mem), ?_, ?_,h.mem,fun b hb=>Nat.lt_of_lt_of_le (h.lt b hb) a.len⟩
 ·rcases h.objs with h1|⟨h0,b,h1,h2,h3,h4⟩
  ·exact .inl h1
  ·exact .inr ⟨h0,b,h1,h2,h3,a.get h4 (hd b h1)⟩
 ·rcases h.turn with h1|⟨t,b,h1,h2,h3,h4,h5⟩
  ·exact .inl h1
  ·exact .inr ⟨t,b,h1,h2,h3,h4,a.get h5 (hd b h2)⟩

theorem qmM (h:H[M]? = some (.row (qmJ m ov tv) false)):qav H (some 2) ⟨M,0+0,none⟩=some (lay m.c.T m.c.S):=qiE h (Nat.le_of_ble_eq_true rfl) rfl
theorem qmN (h:H[M]? = some (.row (qmJ m ov tv) false)):qav H (some 3) ⟨M,0+2,none⟩=some (.agg m.c.cs.toArray):=qiE h (Nat.le_of_ble_eq_true rfl) rfl

theorem qmO (h:H[M]? = some (.row (qmJ m ov tv) false))(hlo:lo≤M)(n:Int):qfV En lo Id.zaR [qku M,I n] H=some (qmL none,H.set M (.row (qmJ {m with next:=n} ov tv) false)):=by
 have hst:stN lo H ⟨M,0+5,none⟩ (qaf (I n))=some (H.set M (.row (qmJ {m with next:=n} ov tv) false)):=qiF h hlo (Nat.le_of_ble_eq_true rfl) rfl
 refine qgx rfl Fn.zaR rfl rfl ?_
 repeat' first|refine .A ?_|refine .B ?_|refine .J ?_|refine .S hst ?_|refine .F ?_|refine .Y ?_|fail
 rfl
theorem qmP (h:H[M]? = some (.row (qmJ m ov tv) false))(hlo:lo≤M):qfV En lo Id.zaL [qku M] H=some (qmL (some m.moved),H.set M (.row (qmJ {m with next:=0} ov tv) false)):=by
 have hst:stN lo H ⟨M,0+5,none⟩ (qaf (I 0))=some (H.set M (.row (qmJ {m with next:=0} ov tv) false)):=qiF h hlo (Nat.le_of_ble_eq_true rfl) rfl
 have l1:qav (H.set M (.row (qmJ {m with next:=0} ov tv) false)) none ⟨M,0+84,none⟩=some (I m.moved):=qiD (qiz (qiC h)) rfl
 refine qgx rfl Fn.zaL rfl rfl ?_
 repeat' first|refine .A ?_|refine .B ?_|refine .J ?_|refine .L l1 ?_|refine .S hst ?_|refine .F ?_|refine .Y ?_|fail
 rfl

def onM (m:Mc)(n:Int):Mc×Option Int:=({m with next:=n},none)
def qmQ (m:Mc):Mc×Option Int:=({m with next:=0},some m.moved)
def qmR (m:Mc):Mc×Option Int:=if m.att<m.objs.length then onM m 5 else if m.top≤m.dest then qmQ m else onM {m with turn:=some ⟨1,0,0⟩} 10

def Post (H:qab)(own:List Nat)(M:Nat)(r:Mc×Option Int)(S:List Nat)(v:Value)(H':qab):Prop :=
 v=qmL r.2∧∃own' ov' tv',McAt H' own' M r.1 ov' tv'∧Chg S H H'∧∀b∈own',b∈own∨H.length≤b

theorem qmS (lo:Nat)(H:qab){c:Cfg}(hm:c.may):qfV En lo Id.zbu [.agg c.cs.toArray] H=some (qku H.length,H ++ [.row (qmI c ⟨1,0,0⟩) false]):=by
 have hO:=fun lo=>qju lo H hm
 refine qgx rfl Fn.zbu rfl rfl ?_
 repeat' first|refine .A ?_|refine .B ?_|refine .D ?_|refine .F ?_|refine .J ?_|refine .C ?_|refine .f6 ?_|refine .P (hO _) ?_|refine .Y ?_|fail
 rfl

theorem qmT (h:McAt H own M m ov tv)(hm:m.c.may)(hlo:lo≤M):∃v H',qfV En lo Id.zaK [qku M] H=some (v,H')∧Post H own M (qmR m) own v H':=by
 have hr:=h.row
 have l79:qav H none ⟨M,0+79,none⟩=some (I m.att):=qiD hr rfl
 have l14:qav H none ⟨M,0+14,none⟩=some ov:=qiD hr rfl
 have l80:qav H none ⟨M,0+80,none⟩=some (I m.dest):=qiD hr rfl
 have l6:qav H none ⟨M,0+6,none⟩=some (I m.top):=qiD hr rfl
 have l2:=qmN hr
 have hov:∃base cap,ov = .slice base m.objs.length cap:=by
  rcases h.objs with⟨h1,h2⟩|⟨h0,b,h1,h2,h3,h4⟩
  ·exact⟨none,0,by rw [h2,h1];rfl⟩
  ·exact⟨_,_,h3⟩
 obtain⟨ob,oc,hov⟩:=hov
 unfold qmR
 by_cases h1:m.att<(m.objs.length:Int)
 ·rw [if_pos h1]
  refine⟨qmL none,_, ?_,rfl,own,ov,tv,h.put (m' := {m with next:=5}) rfl rfl rfl rfl,(Chg.refl _ _).set h.mem,fun b hb => .inl hb⟩
  have hO:=fun lo hl=>qmO (lo:=lo) hr hl 5
  refine qgx rfl Fn.zaK rfl rfl ?_
  rw [hov]at l14
  repeat' first|refine .A ?_|refine .B ?_|refine .C ?_|refine .G ?_|refine .J ?_|refine .t1 ?_|refine .L l79 ?_|refine .L l14 ?_|refine .P (hO _ hlo) ?_|refine .F ?_|refine .Y ?_|fail
  rfl
 ·rw [if_neg h1]
  by_cases h2:m.top≤m.dest
  ·rw [if_pos h2]
   refine⟨qmL (some m.moved),_, ?_,rfl,own,ov,tv,h.put (m' := {m with next:=0}) rfl rfl rfl rfl,(Chg.refl _ _).set h.mem,fun b hb => .inl hb⟩
   have hE:=fun lo hl=>qmP (lo:=lo) hr hl
   refine qgx rfl Fn.zaK rfl rfl ?_
   rw [hov]at l14
   repeat' first|refine .A ?_|refine .B ?_|refine .C ?_|refine .D ?_|refine .G ?_|refine .J ?_|refine .f1 ?_|refine .t4 ?_|refine .L l79 ?_|refine .L l14 ?_|refine .L l80 ?_|refine .L l6 ?_|refine .P (hE _ hlo) ?_|refine .F ?_|refine .Y ?_|fail
   rfl
  ·rw [if_neg h2]
   have hN:=fun lo=>qmS lo H hm
   have hr2:(H ++ [Blk.row (qmI m.c ⟨1,0,0⟩) false])[M]? = some (.row (qmJ m ov tv) false):=qiB hr
   have hst:stN lo (H ++ [Blk.row (qmI m.c ⟨1,0,0⟩) false]) ⟨M,0+85,none⟩ (qaf (qku H.length))=some ((H ++ [Blk.row (qmI m.c ⟨1,0,0⟩) false]).set M (.row (qmJ {m with turn:=some ⟨1,0,0⟩} ov (qku H.length)) false)):=qiF hr2 hlo (Nat.le_of_ble_eq_true rfl) rfl
   have hO:=fun lo hl=>qmO (lo:=lo) (H:=(H ++ [Blk.row (qmI m.c ⟨1,0,0⟩) false]).set M (.row (qmJ {m with turn:=some ⟨1,0,0⟩} ov (qku H.length)) false)) (m := {m with turn:=some ⟨1,0,0⟩}) (ov:=ov) (tv:=qku H.length) (qiz (qiC hr2)) hl 10
   have hMl:=h.lt M h.mem
   refine⟨qmL none,(((H ++ [Blk.row (qmI m.c ⟨1,0,0⟩) false]).set M (.row (qmJ {m with turn:=some ⟨1,0,0⟩} ov (qku H.length)) false)).set M (.row (qmJ {m with turn:=some ⟨1,0,0⟩,next:=10} ov (qku H.length)) false)), ?_,rfl,H.length::own,ov,qku H.length,⟨qiz (by rw [List.length_set];exact qiC hr2), ?_,.inr ⟨_,H.length,rfl,by simp,by omega,rfl,qiA (by omega) (qiA (by omega) List.getElem?_concat_length)⟩,by simp [h.mem],fun b hb => ?_⟩,((((Chg.refl _ _).app _).set h.mem).set h.mem),fun b hb => ?_⟩
   ·refine qgx rfl Fn.zaK rfl rfl ?_
    rw [hov]at l14
    repeat' first|refine .A ?_|refine .B ?_|refine .D ?_|refine .F ?_|refine .G ?_|refine .H ?_|refine .J ?_|refine .f1 ?_|refine .f4 ?_|(show EG _ _ (⟨_,.load _ _,_,_⟩::_) _ _ _ _ _ _;first|refine .L l79 ?_|refine .L l14 ?_|refine .L l80 ?_|refine .L l6 ?_|refine .L l2 ?_)|refine .P (hN _) ?_|refine .P (hO _ hlo) ?_|refine .S hst ?_|refine .Y ?_|fail
    rfl
   ·rcases h.objs with h3|⟨h0,b,h3,h4,h5,h6⟩
    ·exact .inl h3
    ·exact .inr ⟨h0,b,by simp [h3],h4,h5,qiA h4.symm (qiA h4.symm (qiB h6))⟩
   ·rw [List.length_set,List.length_set,List.length_append,List.length_singleton]
    rcases List.mem_cons.1 hb with h3|h3
    ·omega
    ·have:=h.lt b h3;omega
   ·rcases List.mem_cons.1 hb with h3|h3
    ·exact .inr (by omega)
    ·exact .inl h3
end
end Go.Proofs.YtdinebegmppnoabGreat

/- A pass: scanning. -/
namespace Go.Proofs.YtdinebegmppnoabGreat
open Go Go.Ir

section
variable {lo:Nat}{H:qab}{own:List Nat}{M:Nat}{m:Mc}{ov tv:Value}

theorem ObjsOk.sl {objs:List Obj}(h:ObjsOk H own M ov objs):Sl H 4 ov (css objs):=by
 rcases h with⟨h1,h2⟩|⟨h0,b,h1,h2,h3,h4⟩
 ·subst h1 h2
  exact⟨fun e he=>(by cases he),.inl ⟨rfl,none,0,rfl⟩⟩
 ·subst h3
  refine⟨qky objs,.inr ⟨_,_,by rw [qkS], ?_⟩⟩
  exact qgE (a:=loose b 0) h4 rfl (by rw [qgA (qky objs)])
theorem ObjsOk.nil {objs:List Obj}(h:ObjsOk H own M ov objs)(h0:objs = []):ov = .slice none 0 0:=by
 rcases h with⟨_,h2⟩|⟨h1,_⟩
 ·exact h2
 ·exact absurd h0 h1
theorem ObjsOk.len {objs:List Obj}(h:ObjsOk H own M ov objs):∃base cap,ov = .slice base objs.length cap:=by
 rcases h with⟨h1,h2⟩|⟨h0,b,h1,h2,h3,h4⟩
 ·exact⟨none,0,by rw [h2,h1];rfl⟩
 ·exact⟨_,_,h3⟩

theorem McAt.made (h:McAt H own M m ov tv)(l:List Obj):∃own',McAt ((made H 4 (css l)).2.set M (.row (qmJ {m with objs:=l} (made H 4 (css l)).1 tv) false)) own' M {m with objs:=l} (made H 4 (css l)).1 tv∧
  Chg own H ((made H 4 (css l)).2.set M (.row (qmJ {m with objs:=l} (made H 4 (css l)).1 tv) false))∧∀b∈own',b∈own∨H.length≤b:=by
 have hMl:=h.lt M h.mem
 by_cases h0:l = []
 ·subst h0
  refine⟨own,⟨qiz hMl,.inl ⟨rfl,rfl⟩, ?_,h.mem,fun b hb=>by rw [List.length_set];exact h.lt b hb⟩,(Chg.refl _ _).set h.mem,fun b hb => .inl hb⟩
  rcases h.turn with h1|⟨t,b,h1,h2,h3,h4,h5⟩
  ·exact .inl h1
  ·exact .inr ⟨t,b,h1,h2,h3,h4,qiA h3.symm h5⟩
 ·have hm:Ir.made H 4 (css l)=(.slice (some (loose H.length 0)) l.length 4,H ++ [.row (css l).flatten false]):=by
   unfold Ir.made
   rw [if_neg (by simpa [css]using h0),qkS]
  rw [hm]
  refine⟨H.length::own,⟨qiz (by simp;omega),.inr ⟨h0,H.length,by simp,by omega,rfl,qiA (by omega) List.getElem?_concat_length⟩, ?_,by simp [h.mem],fun b hb => ?_⟩,((Chg.refl _ _).app _).set h.mem,fun b hb => ?_⟩
  ·rcases h.turn with h1|⟨t,b,h1,h2,h3,h4,h5⟩
   ·exact .inl h1
   ·exact .inr ⟨t,b,h1,by simp [h2],h3,h4,qiA h3.symm (qiB h5)⟩
  ·rw [List.length_set,List.length_append,List.length_singleton]
   rcases List.mem_cons.1 hb with h3|h3
   ·omega
   ·have:=h.lt b h3;omega
  ·rcases List.mem_cons.1 hb with h3|h3
   ·exact .inr (by omega)
   ·exact .inl h3

theorem Post.trans {r:Mc×Option Int}{v:Value}{own2:List Nat}{S:List Nat}{H2 H':qab}(c1:Chg S H H2)(o1:∀b∈own2,b∈own∨H.length≤b)(p:Post H2 own2 M r own2 v H')(hS:∀b∈own,b∈S):Post H own M r S v H':=by
 obtain⟨p1,own',ov',tv',p2,p3,p4⟩:=p
 refine⟨p1,own',ov',tv',p2,⟨Nat.le_trans c1.len p3.len,fun j hl hj => ?_⟩,fun b hb => ?_⟩
 ·refine(p3.same j (Nat.lt_of_lt_of_le hl c1.len) fun hm => ?_).trans (c1.same j hl hj)
  rcases o1 j hm with h1|h1
  ·exact hj (hS j h1)
  ·omega
 ·rcases p4 b hb with h1|h1
  ·exact o1 b h1
  ·exact .inr (Nat.le_trans c1.len h1)

theorem Post.pre {r:Mc×Option Int}{v:Value}{S:List Nat}{H2 H':qab}(c1:Chg S H H2)(p:Post H2 own M r S v H'):Post H own M r S v H':=by
 obtain⟨p1,own',ov',tv',p2,p3,p4⟩:=p
 exact⟨p1,own',ov',tv',p2,c1.trans p3,fun b hb=>(p4 b hb).imp id (Nat.le_trans c1.len)⟩

def qmU (m:Mc):Mc×Option Int:=if w64 (m.slot+1)<m.c.S then onM {m with slot:=w64 (m.slot+1)} 3 else qmR {m with slot:=w64 (m.slot+1),objs:=qkO m.objs}

theorem qmV (h:McAt H own M m ov tv)(hm:m.c.may)(hlo:∀b∈own,lo≤b)(hl:m.objs.length≤64):∃v H',qfV En lo Id.zaU [qku M] H=some (v,H')∧Post H own M (qmU m) own v H':=by
 have hr:=h.row
 have hMl:=h.lt M h.mem
 have hloM:=hlo M h.mem
 have l7:qav H none ⟨M,0+7,none⟩=some (I m.slot):=qiD hr rfl
 have hst:stN lo H ⟨M,0+7,none⟩ (qaf (I (w64 (m.slot+1))))=some (H.set M (.row (qmJ {m with slot:=w64 (m.slot+1)} ov tv) false)):=qiF hr hloM (Nat.le_of_ble_eq_true rfl) rfl
 have h1:=h.put (m' := {m with slot:=w64 (m.slot+1)}) rfl rfl rfl rfl
 have c1:Chg own H (H.set M (.row (qmJ {m with slot:=w64 (m.slot+1)} ov tv) false)):=(Chg.refl _ _).set h.mem
 generalize H.set M (.row (qmJ {m with slot:=w64 (m.slot+1)} ov tv) false)=H1 at hst h1 c1
 have hr1:=h1.row
 have k7:qav H1 none ⟨M,0+7,none⟩=some (I (w64 (m.slot+1))):=qiD hr1 rfl
 have k3:qav H1 none ⟨M,0+2+1,none⟩=some (I m.c.S):=qiD hr1 rfl
 have k14:qav H1 none ⟨M,0+14,none⟩=some ov:=qiD hr1 rfl
 unfold qmU
 by_cases hs:w64 (m.slot+1)<m.c.S
 ·rw [if_pos hs]
  have hO:=qmO (lo:=lo) hr1 hloM 3
  refine⟨qmL none,_, ?_,rfl,own,ov,tv,h1.put (m' := {m with slot:=w64 (m.slot+1),next:=3}) rfl rfl rfl rfl,c1.set h.mem,fun b hb => .inl hb⟩
  refine qgx rfl Fn.zaU rfl rfl ?_
  repeat' first|refine .A ?_|refine .B ?_|refine .C ?_|refine .J ?_|refine .t1 ?_|refine .L l7 ?_|refine .L k7 ?_|refine .L k3 ?_|refine .P hO ?_|refine .S hst ?_|refine .F ?_|refine .Y ?_|fail
  rfl
 ·rw [if_neg hs]
  have hP:=fun lo=>qlJ lo (h1.objs.sl) (h1.objs.nil) (show m.objs.length≤74 by omega)
  obtain⟨own2,h3,c3,o3⟩:=h1.made (qkO m.objs)
  have hmd:=qgK (h:=H1) (qky (qkO m.objs))
  generalize made H1 4 (css (qkO m.objs))=mk at hP h3 c3 hmd
  obtain⟨v2,H2⟩:=mk
  simp only at h3 c3 hmd
  have hr2:H2[M]? = some (.row (qmJ {m with slot:=w64 (m.slot+1)} ov tv) false):=by rw [hmd.2.2 M (h1.lt M h.mem)];exact hr1
  have hst2:stN lo H2 ⟨M,0+14,none⟩ (qaf v2)=some (H2.set M (.row (qmJ {m with slot:=w64 (m.slot+1),objs:=qkO m.objs} v2 tv) false)):=by
   have hv2:qaf v2 = [v2]:=by
    obtain⟨base,cap,hv⟩:=hmd.1.len
    rw [hv];rfl
   rw [hv2]
   exact qiF hr2 hloM (Nat.le_of_ble_eq_true rfl) rfl
  have hone:(qaf v2).length=1∧(qaf v2).all qad=true:=by
   obtain⟨base,cap,hv⟩:=hmd.1.len
   rw [hv];exact⟨rfl,rfl⟩
  generalize hH3:H2.set M (.row (qmJ {m with slot:=w64 (m.slot+1),objs:=qkO m.objs} v2 tv) false)=H3 at hst2
  have h3':McAt H3 own2 M {m with slot:=w64 (m.slot+1),objs:=qkO m.objs} v2 tv:=by rw [←hH3];exact h3
  have c3':Chg own H1 H3:=by rw [←hH3];exact c3
  obtain⟨v,H4,hB,hpost⟩:=qmT h3' hm hloM
  refine⟨v,H4, ?_,Post.pre c1 (Post.trans c3' o3 hpost (fun b hb=>hb))⟩
  have hv:=hpost.1
  generalize (qmR {m with slot:=w64 (m.slot+1),objs:=qkO m.objs}).2=rr at hv
  refine qgx rfl Fn.zaU rfl rfl ?_
  subst hv
  cases rr
  all_goals
   repeat' first|refine .A ?_|refine .B ?_|refine .D ?_|refine .F ?_|refine .J ?_|refine .f1 ?_|refine .L l7 ?_|refine .L k7 ?_|refine .L k3 ?_|refine .L k14 ?_|refine .P (hP _) ?_|refine .P hB ?_|refine .S hst ?_|refine .store rfl rfl rfl hone.1 hone.2 hst2 ?_|refine .Y ?_|fail
   rfl
end
end Go.Proofs.YtdinebegmppnoabGreat

/- A pass: scanning, and measuring. -/
namespace Go.Proofs.YtdinebegmppnoabGreat
open Go Go.Ir

theorem qmW {A B C:List Value}{k:Nat}{v:Value}(hk:k<B.length):splice (A++B++C) (A.length+k) [v]=A++B.set k v++C:=by
 unfold splice
 rw [List.append_assoc A B C,List.take_length_add_append,List.length_singleton,Nat.add_assoc,List.drop_length_add_append,List.take_append_of_le_length (by omega),List.drop_append_of_le_length (by omega),List.set_eq_take_append_cons_drop,if_pos hk]
 simp [List.append_assoc]

theorem qmX (f:Nat→Int)(k:Nat)(v:Int):((List.range 64).map fun j=>I (f j)).set k (I v)=(List.range 64).map fun j=>I (if j=k then v else f j):=by
 refine List.ext_getElem? fun j => ?_
 rw [List.getElem?_set]
 by_cases hj:j<64
 ·by_cases hkj:k=j
  ·subst hkj
   rw [if_pos rfl,if_pos (by simpa using hj)]
   simp [hj]
  ·rw [if_neg hkj]
   simp [hj]
   intro e
   exact absurd e.symm hkj
 ·rw [List.getElem?_eq_none (by simpa using hj)]
  by_cases hkj:k=j
  ·rw [if_pos hkj,if_neg (by simp;omega),List.getElem?_eq_none (by simpa using hj)]
  ·rw [if_neg hkj,List.getElem?_eq_none (by simpa using hj)]

theorem qmY (m:Mc)(ov tv:Value){k:Nat}(hk:k<64)(v:Int):splice (qmJ m ov tv) (0+15+k*1) [I v]=qmJ {m with g:=fun j=>if j=k then v else m.g j} ov tv:=by
 have h:=qmW (A := [I m.c.T,I m.c.S,I m.c.A,I m.c.S,I m.c.T,I m.next,I m.top,I m.slot,I m.e.o,I m.e.g,I m.e.p,I m.e.u,.bool m.e.lk,.bool m.e.lv,ov]) (B:=(List.range 64).map (fun k=>I (m.g k)))
  (C := [I m.att,I m.dest,I m.word,I m.i,I m.b,I m.moved,tv,.bool m.low]) (k:=k) (v:=I v) (by simpa using hk)
 rw [qmX]at h
 rw [show 0+15+k*1=15+k by omega]
 exact h
theorem qmZ (m:Mc)(ov tv:Value){k:Nat}(hk:k<64):(qmJ m ov tv)[0+15+k*1]? = some (I (m.g k)):=by
 unfold qmJ
 rw [show 0+15+k*1=15+k by omega,List.getElem?_append_left (by simp;omega),List.getElem?_append_right (by simp)]
 simp [hk]
theorem qm0 (m:Mc)(ov tv:Value):(qmJ m ov tv).length=87:=by simp [qmJ]

section
variable {lo:Nat}{H:qab}{own:List Nat}{M:Nat}{m:Mc}{ov tv:Value}

theorem ObjsOk.push {objs:List Obj}(h:ObjsOk H own M ov objs)(hM:M<H.length)(hlt:∀b∈own,b<H.length)(hlo:∀b∈own,lo≤b)(hl:objs.length+1≤2 ^ 30)(x:Obj) :
  ∃v' H',qaF lo 4 32 (H ++ [.row x.cs false]) ov (.slice (some ⟨H.length,0,none⟩) 1 1)=some (v',H')∧ObjsOk H' ((H.length+1)::own) M v' (objs ++ [x])∧Chg own H H'∧H'[M]? = H[M]?∧H'.length=H.length+2:=by
 have hsrc:∀n,n=1→qaD (H ++ [.row x.cs false]) 4 n (.slice (some ⟨H.length,0,none⟩) 1 1)=some x.cs:=fun n hn=>by
  subst hn
  unfold qaD
  simp only
  rw [if_neg (by decide)]
  exact qgE (a:=⟨H.length,0,none⟩) (cs:=x.cs) (ro:=false) (List.getElem?_concat_length) rfl rfl
 rcases h with⟨rfl,rfl⟩|⟨h0,b,h1,h2,rfl,h4⟩
 ·refine⟨.slice (some (loose (H ++ [Blk.row x.cs false]).length 0)) 1 4,H ++ [Blk.row x.cs false] ++ [Blk.row x.cs false], ?_,.inr ⟨by simp,H.length+1,by simp,by omega,by simp, ?_⟩,((Chg.refl _ _).app _).app _, ?_,by simp⟩
  ·simp only [qaF,qaC,Nat.zero_add,hsrc 1 rfl]
   rw [if_pos (.inl ⟨by omega,by decide⟩)]
   simp
  ·have:H.length+1=(H ++ [Blk.row x.cs false]).length:=by simp
   rw [this,List.getElem?_concat_length]
   simp [css]
  ·rw [List.getElem?_append_left (by simp;omega),List.getElem?_append_left hM]
 ·have hbl:=qiC h4
  have h4':(H ++ [Blk.row x.cs false])[b]? = some (.row (css objs).flatten false):=qiB h4
  have hold:qaD (H ++ [.row x.cs false]) 4 objs.length (.slice (some (loose b 0)) objs.length 4)=some (css objs).flatten:=by
   unfold qaD
   simp only
   rw [if_neg (fun e=>h0 (List.length_eq_zero_iff.1 e))]
   exact qgE (a:=loose b 0) h4' rfl (by rw [qgA (qky objs),qkS])
  refine⟨.slice (some (loose (H ++ [Blk.row x.cs false]).length 0)) (objs.length+1) 4,(H ++ [Blk.row x.cs false]).set b Blk.dead ++ [Blk.row ((css objs).flatten++x.cs) false], ?_,.inr ⟨by simp,H.length+1,by simp,by omega,by simp, ?_⟩,(((Chg.refl _ _).app _).set h1).app _, ?_,by simp⟩
  ·simp only [qaF,qaC,hsrc 1 rfl]
   rw [if_pos (.inl ⟨hl,by decide⟩)]
   simp only [loose]at hold h4'⊢
   simp only [hold,h4']
   simp [hlo b h1]
  ·rw [List.getElem?_append_right (by simp)]
   simp [css]
  ·rw [List.getElem?_append_left (by simp;omega),qiA h2 (List.getElem?_append_left hM)]

theorem Post.mono {r:Mc×Option Int}{v:Value}{S S':List Nat}{H':qab}(p:Post H own M r S v H')(h:∀b∈S,b∈S'):Post H own M r S' v H':=by
 obtain⟨p1,own',ov',tv',p2,p3,p4⟩:=p
 exact⟨p1,own',ov',tv',p2,p3.mono h,p4⟩

def Disj (own:List Nat)(cb:CB):Prop:=∀b∈own,b≠cb.P∧b≠cb.W∧b≠cb.Y
theorem Disj.notP {cb:CB}(d:Disj own cb):∀b∈own,b∉[cb.P]:=fun b hb h=>(d b hb).1 (by simpa using h)
theorem Disj.notPW {cb:CB}(d:Disj own cb):∀b∈own,b∉[cb.P,cb.W]:=fun b hb h=>by
 simp at h
 rcases h with h|h
 ·exact(d b hb).1 h
 ·exact(d b hb).2.1 h
theorem Disj.notPY {cb:CB}(d:Disj own cb):∀b∈own,b∉[cb.P,cb.Y]:=fun b hb h=>by
 simp at h
 rcases h with h|h
 ·exact(d b hb).1 h
 ·exact(d b hb).2.2 h
theorem Disj.cells {cb:CB}(d:Disj own cb):cb.P∉own∧cb.W∉own∧cb.Y∉own:=⟨fun h=>(d _ h).1 rfl,fun h=>(d _ h).2.1 rfl,fun h=>(d _ h).2.2 rfl⟩

def qm1 (own:List Nat)(cb:CB):List Nat:=own ++ [cb.P,cb.W,cb.Y]
def PostC (H:qab)(own:List Nat)(M:Nat)(cb:CB)(r:Mc×Option Int)(ws bs:List Int)(v:Value)(H':qab):Prop:=Post H own M r (qm1 own cb) v H'∧IsC H' cb ws bs

theorem PostC.mk2 {cb:CB}{r:Mc×Option Int}{ws bs:List Int}{v:Value}{H1 H':qab}{S:List Nat}(d:Disj own cb)(o:Only S H H1)(hS:∀b∈S,b∈[cb.P,cb.W,cb.Y])(hC:IsC H1 cb ws bs)(p:Post H1 own M r own v H'):PostC H own M cb r ws bs v H':=by
 refine⟨Post.pre ((Chg.of o).mono fun b hb=>by unfold qm1;simp only [List.mem_append];exact .inr (hS b hb)) (p.mono fun b hb=>by unfold qm1;simp [hb]), ?_⟩
 obtain⟨p1,own',ov',tv',p2,p3,p4⟩:=p
 exact hC.chg p3 d.cells

def qm2 (m:Mc)(ws:List Int):Mc×Option Int :=
 if 1≤qi6 ws (qjy m.c m.slot 1)∧qi6 ws (qjy m.c m.slot 1)≤256 then
  qmU {m with objs:=m.objs ++ [⟨m.slot,m.e.o,qkr (qi6 ws (qjy m.c m.slot 1)),false⟩],g:=fun j=>if j=m.slot.toNat then m.e.g else m.g j}
 else qmU m

theorem qm3 {cb:CB}{ws bs:List Int}(h:McAt H own M m ov tv)(hC:IsC H cb ws bs)(d:Disj own cb)(hm:m.c.may)(hlo:∀b∈own,lo≤b)(hlc:lo≤cb.P)(hl:m.objs.length<64)(hsl:0≤m.slot∧m.slot<64)(hnt:m.turn=none) :
  ∃v H',qfV En lo Id.zaP [qku M,ifC cb] H=some (v,H')∧PostC H own M cb (qm2 m ws) ws bs v H':=by
 have hr:=h.row
 have hloM:=hlo M h.mem
 have l0:=qmM hr
 have l7:qav H none ⟨M,0+7,none⟩=some (I m.slot):=qiD hr rfl
 have hS:=fun lo=>qjC lo H hm m.slot
 obtain⟨H1,hL,hC1,ho1⟩:=qjg hC hlc (qjy m.c m.slot 1)
 have h1:=h.chg (Chg.of ho1) d.notP
 have hr1:=h1.row
 have hR:=fun lo=>qkt lo H1 (qi6 ws (qjy m.c m.slot 1))
 unfold qm2
 unfold qks at hR
 by_cases hn:1≤qi6 ws (qjy m.c m.slot 1)∧qi6 ws (qjy m.c m.slot 1)≤256
 ·rw [if_pos hn]at hR⊢
  obtain⟨k,hk⟩:∃k:Nat,m.slot=k:=⟨m.slot.toNat,by omega⟩
  have hk64:k<64:=by omega
  have k14:qav H1 none ⟨M,0+14,none⟩=some ov:=qiD hr1 rfl
  have k7:qav H1 none ⟨M,0+7,none⟩=some (N k):=(qiD hr1 rfl).trans (by rw [hk])
  have k8:qav H1 none ⟨M,0+8+0,none⟩=some (I m.e.o):=qiD hr1 rfl
  obtain⟨v2,H2,hap,ho2,hc2,hM2,hl2⟩:=h1.objs.push (lo:=lo) (h1.lt M h1.mem) h1.lt hlo (by omega) ⟨(k:Int),m.e.o,qkr (qi6 ws (qjy m.c m.slot 1)),false⟩
  have hr2:H2[M]? = some (.row (qmJ m ov tv) false):=by rw [hM2];exact hr1
  have hov2:∃base cap,v2 = .slice base (m.objs.length+1) cap:=by
   obtain⟨base,cap,hv⟩:=ho2.len
   exact⟨base,cap,by rw [hv];simp⟩
  have hone:(qaf v2).length=1∧(qaf v2).all qad=true∧qaf v2 = [v2]:=by
   obtain⟨base,cap,hv⟩:=hov2
   rw [hv];exact⟨rfl,rfl,rfl⟩
  have hst2:stN lo H2 ⟨M,0+14,none⟩ (qaf v2)=some (H2.set M (.row (qmJ {m with objs:=m.objs ++ [⟨(k:Int),m.e.o,qkr (qi6 ws (qjy m.c m.slot 1)),false⟩]} v2 tv) false)):=by
   rw [hone.2.2]
   exact qiF hr2 hloM (Nat.le_of_ble_eq_true rfl) rfl
  have hM2l:M<H2.length:=qiC hr2
  have q7:qav (H2.set M (.row (qmJ {m with objs:=m.objs ++ [⟨(k:Int),m.e.o,qkr (qi6 ws (qjy m.c m.slot 1)),false⟩]} v2 tv) false)) none ⟨M,0+7,none⟩=some (N k):=(qiD (qiz hM2l) rfl).trans (by rw [hk])
  have q9:qav (H2.set M (.row (qmJ {m with objs:=m.objs ++ [⟨(k:Int),m.e.o,qkr (qi6 ws (qjy m.c m.slot 1)),false⟩]} v2 tv) false)) none ⟨M,0+8+1,none⟩=some (I m.e.g):=qiD (qiz hM2l) rfl
  have hst3:stN lo (H2.set M (.row (qmJ {m with objs:=m.objs ++ [⟨(k:Int),m.e.o,qkr (qi6 ws (qjy m.c m.slot 1)),false⟩]} v2 tv) false)) ⟨M,0+15+k*1,none⟩ (qaf (I m.e.g)) =
    some (H2.set M (.row (qmJ {m with objs:=m.objs ++ [⟨(k:Int),m.e.o,qkr (qi6 ws (qjy m.c m.slot 1)),false⟩],g:=fun j=>if j=k then m.e.g else m.g j} v2 tv) false)) :=
   (qiF (qiz hM2l) hloM (by show 0+15+k*1+1≤_;rw [qm0];omega) (qmY _ _ _ hk64 _)).trans (by rw [List.set_set])
  have h3:McAt (H2.set M (.row (qmJ {m with objs:=m.objs ++ [⟨(k:Int),m.e.o,qkr (qi6 ws (qjy m.c m.slot 1)),false⟩],g:=fun j=>if j=k then m.e.g else m.g j} v2 tv) false)) ((H1.length+1)::own) M
    {m with objs:=m.objs ++ [⟨(k:Int),m.e.o,qkr (qi6 ws (qjy m.c m.slot 1)),false⟩],g:=fun j=>if j=k then m.e.g else m.g j} v2 tv:=by
   refine⟨qiz hM2l, ?_,.inl ⟨hnt, ?_⟩,by simp [h.mem],fun b hb => ?_⟩
   ·rcases ho2 with g1|⟨g0,b,g1,g2,g3,g4⟩
    ·exact .inl g1
    ·exact .inr ⟨g0,b,g1,g2,g3,qiA g2.symm g4⟩
   ·rcases h.turn with⟨_,g⟩|⟨t,b,g,_⟩
    ·exact g
    ·rw [hnt]at g;cases g
   ·rw [List.length_set,hl2]
    rcases List.mem_cons.1 hb with g|g
    ·omega
    ·have:=h1.lt b g;omega
  have c3:Chg own H1 (H2.set M (.row (qmJ {m with objs:=m.objs ++ [⟨(k:Int),m.e.o,qkr (qi6 ws (qjy m.c m.slot 1)),false⟩],g:=fun j=>if j=k then m.e.g else m.g j} v2 tv) false)):=hc2.set h.mem
  have hlo3:∀b∈(H1.length+1)::own,lo≤b:=fun b hb=>by
   rcases List.mem_cons.1 hb with g|g
   ·have:=h1.lt M h.mem;omega
   ·exact hlo b g
  obtain⟨v,H4,hB,hpost⟩:=qmV h3 hm hlo3 (by rw [List.length_append];simp;omega)
  have hpost':Post H1 own M (qmU {m with objs:=m.objs ++ [⟨(k:Int),m.e.o,qkr (qi6 ws (qjy m.c m.slot 1)),false⟩],g:=fun j=>if j=k then m.e.g else m.g j}) own v H4:=Post.trans c3 (fun b hb=>by
   rcases List.mem_cons.1 hb with g|g
   ·exact .inr (by omega)
   ·exact .inl g) hpost (fun b hb=>hb)
  have hkn:m.slot.toNat=k:=by omega
  rw [hkn]
  rw [←hk]at hpost'
  refine⟨v,H4, ?_,PostC.mk2 d ho1 (by simp) hC1 hpost'⟩
  have hv:=hpost.1
  generalize (qmU {m with objs:=m.objs ++ [⟨(k:Int),m.e.o,qkr (qi6 ws (qjy m.c m.slot 1)),false⟩],g:=fun j=>if j=k then m.e.g else m.g j}).2=rr at hv
  refine qgx rfl Fn.zaP rfl rfl ?_
  subst hv
  cases rr
  all_goals
   repeat' first|refine .A ?_|refine .B ?_|refine .C ?_|refine .J ?_|refine .t5 ?_|(show EG _ _ (⟨_,.load _ _,_,_⟩::_) _ _ _ _ _ _;first|refine .L l0 ?_|refine .L l7 ?_|refine .L k14 ?_|refine .L k7 ?_|refine .L k8 ?_|refine .L q7 ?_|refine .L q9 ?_)|refine .P (hS _) ?_|refine .P (hR _) ?_|refine .P hB ?_|refine .iaddrA rfl rfl rfl (hk64) ?_|refine .U hap ?_|refine .W hL ?_|refine .store rfl rfl rfl hone.1 hone.2.1 hst2 ?_|refine .S hst3 ?_|refine .F ?_|refine .Y ?_|fail
   rfl
 ·rw [if_neg hn]at hR⊢
  obtain⟨v,H4,hB,hpost⟩:=qmV h1 hm hlo (by omega)
  refine⟨v,H4, ?_,PostC.mk2 d ho1 (by simp) hC1 hpost⟩
  have hv:=hpost.1
  generalize (qmU m).2=rr at hv
  refine qgx rfl Fn.zaP rfl rfl ?_
  subst hv
  cases rr
  all_goals
   repeat' first|refine .A ?_|refine .B ?_|refine .D ?_|refine .F ?_|refine .J ?_|refine .f5 ?_|refine .L l0 ?_|refine .L l7 ?_|refine .P (hS _) ?_|refine .P (hR _) ?_|refine .P hB ?_|refine .W hL ?_|refine .Y ?_|fail
   rfl

def qm4 (m:Mc)(ws:List Int):Mc×Option Int :=
 match qkc (qi6 ws (qjy m.c m.slot 0))with
 | some e=>if e.lv=true∧e.o<m.top then onM {m with e:=e} 4 else qmU {m with e:=e}
 | none=>qmU {m with e:=Ent.zero}

theorem qm5 {cb:CB}{ws bs:List Int}(h:McAt H own M m ov tv)(hC:IsC H cb ws bs)(d:Disj own cb)(hm:m.c.may)(hlo:∀b∈own,lo≤b)(hlc:lo≤cb.P)(hl:m.objs.length≤64) :
  ∃v H',qfV En lo Id.zaT [qku M,ifC cb] H=some (v,H')∧PostC H own M cb (qm4 m ws) ws bs v H':=by
 have hr:=h.row
 have hloM:=hlo M h.mem
 have l0:=qmM hr
 have l7:qav H none ⟨M,0+7,none⟩=some (I m.slot):=qiD hr rfl
 have hE:=fun lo=>qjB lo H hm m.slot
 obtain⟨H1,hL,hC1,ho1⟩:=qjg hC hlc (qjy m.c m.slot 0)
 have h1:=h.chg (Chg.of ho1) d.notP
 have hU:=fun lo=>qko lo H1 (qi6 ws (qjy m.c m.slot 0))
 have hst:∀e:Ent,stN lo H1 ⟨M,0+8,none⟩ (qaf (.agg e.cs.toArray))=some (H1.set M (.row (qmJ {m with e:=e} ov tv) false)):=fun e=>qiF h1.row hloM (Nat.le_of_ble_eq_true rfl) rfl
 have h2:∀e:Ent,McAt (H1.set M (.row (qmJ {m with e:=e} ov tv) false)) own M {m with e:=e} ov tv:=fun e=>h1.put rfl rfl rfl rfl
 have c2:∀e:Ent,Chg own H1 (H1.set M (.row (qmJ {m with e:=e} ov tv) false)):=fun e=>(Chg.refl _ _).set h.mem
 unfold qm4
 cases hu:qkc (qi6 ws (qjy m.c m.slot 0))with
 | none =>
   rw [hu]at hU
   obtain⟨v,H4,hB,hpost⟩:=qmV (h2 Ent.zero) hm hlo hl
   refine⟨v,H4, ?_,PostC.mk2 d ho1 (by simp) hC1 (Post.pre (c2 _) hpost)⟩
   have hv:=hpost.1
   generalize (qmU {m with e:=Ent.zero}).2=rr at hv
   have hs:=hst Ent.zero
   refine qgx rfl Fn.zaT rfl rfl ?_
   subst hv
   cases rr
   all_goals
    repeat' first|refine .A ?_|refine .B ?_|refine .D ?_|refine .F ?_|refine .J ?_|refine .f5 ?_|refine .L l0 ?_|refine .L l7 ?_|refine .P (hE _) ?_|refine .P (hU _) ?_|refine .P hB ?_|refine .W hL ?_|refine .S hs ?_|refine .Y ?_|fail
    rfl
 | some e =>
   rw [hu]at hU
   have hs:=hst e
   have k6:qav (H1.set M (.row (qmJ {m with e:=e} ov tv) false)) none ⟨M,0+6,none⟩=some (I m.top):=qiD (h2 e).row rfl
   simp only
   by_cases hc:e.lv=true∧e.o<m.top
   ·rw [if_pos hc]
    have hO:=qmO (lo:=lo) (h2 e).row hloM 4
    refine⟨qmL none,_, ?_,PostC.mk2 d ho1 (by simp) hC1 ⟨rfl,own,ov,tv,(h2 e).put (m' := {m with e:=e,next:=4}) rfl rfl rfl rfl,(c2 e).set h.mem,fun b hb => .inl hb⟩⟩
    obtain⟨o,g,p,u,lk,lv⟩:=e
    obtain⟨hc1,hc2⟩:=hc
    simp only at hc1 hc2
    subst hc1
    refine qgx rfl Fn.zaT rfl rfl ?_
    repeat' first|refine .A ?_|refine .B ?_|refine .C ?_|refine .J ?_|refine .t1 ?_|refine .t5 ?_|refine .L l0 ?_|refine .L l7 ?_|refine .L k6 ?_|refine .P (hE _) ?_|refine .P (hU _) ?_|refine .P hO ?_|refine .W hL ?_|refine .S hs ?_|refine .F ?_|refine .Y ?_|fail
    rfl
   ·rw [if_neg hc]
    obtain⟨v,H4,hB,hpost⟩:=qmV (h2 e) hm hlo hl
    refine⟨v,H4, ?_,PostC.mk2 d ho1 (by simp) hC1 (Post.pre (c2 _) hpost)⟩
    have hv:=hpost.1
    generalize (qmU {m with e:=e}).2=rr at hv
    obtain⟨o,g,p,u,lk,lv⟩:=e
    simp only at hc
    refine qgx rfl Fn.zaT rfl rfl ?_
    subst hv
    cases lv
    ·cases rr
     all_goals
      repeat' first|refine .A ?_|refine .B ?_|refine .D ?_|refine .F ?_|refine .J ?_|refine .C ?_|refine .t5 ?_|refine .L l0 ?_|refine .L l7 ?_|refine .P (hE _) ?_|refine .P (hU _) ?_|refine .P hB ?_|refine .W hL ?_|refine .S hs ?_|refine .Y ?_|fail
      rfl
    ·have hc':¬o<m.top:=fun hh=>hc ⟨rfl,hh⟩
     cases rr
     all_goals
      repeat' first|refine .A ?_|refine .B ?_|refine .D ?_|refine .F ?_|refine .J ?_|refine .C ?_|refine .f1 ?_|refine .t5 ?_|refine .L l0 ?_|refine .L l7 ?_|refine .L k6 ?_|refine .P (hE _) ?_|refine .P (hU _) ?_|refine .P hB ?_|refine .W hL ?_|refine .S hs ?_|refine .Y ?_|fail
      rfl
end
end Go.Proofs.YtdinebegmppnoabGreat

