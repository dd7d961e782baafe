/- A pass: what it holds in the heap; its small steps. -/
import Derived.Test.YtlgnnpkdhbhdgaaGreatWorldP
import Derived.Test.YtlgnnpkdhbhdgaaGreatThreadP3
import Derived.Test.YtlgnnpkdhbhdgaaGreatThreadP2
set_option linter.all false
namespace Go.Proofs.YtlgnnpkdhbhdgaaGreat
open Go Go.Ir
structure Tn where
 nx:Int
 ep:Int
 ak:Int
structure Mc where
 c:Cfg
 next:Int
 top:Int
 slot:Int
 e:Ent
 ya:List Obj
 g:Nat->Int
 yx:Int
 dest:Int
 word:Int
 i:Int
 b:Int
 moved:Int
 turn:Option Tn
 low:Bool
def qmI (c:Cfg)(t:Tn):List Value := [I c.T,I c.S,I c.T,I t.nx,I t.ep,I t.ak]
def qmJ (m:Mc)(ov tv:Value):List Value :=
 [I m.c.T,I m.c.S,I m.c.A,I m.c.S,I m.c.T,I m.next,I m.top,I m.slot,I m.e.o,I m.e.g,I m.e.p,I m.e.u,.bool m.e.lk,.bool m.e.lv,ov]++(List.range 64).map (fun k=>I (m.g k)) ++ [I m.yx,I m.dest,I m.word,I m.i,I m.b,I m.moved,tv,.bool m.low]
def ObjsOk (H:qab)(own:List Nat)(M:Nat)(ov:Value)(ya:List Obj):Prop :=
 (ya = []/\ov = .slice none 0 0)\/(ya≠[]/\∃b,b∈own/\b≠M/\ov = .slice (some (loose b 0)) ya.length 4/\H[b]? = some (.row (css ya).flatten false))
def qmK (H:qab)(own:List Nat)(M:Nat)(c:Cfg)(tv:Value)(turn:Option Tn):Prop :=
 (turn=none/\tv = .pointer none)\/∃t b,turn=some t/\b∈own/\b≠M/\tv = .pointer (some ⟨b,0,none⟩)/\H[b]? = some (.row (qmI c t) false)
structure McAt (H:qab)(own:List Nat)(M:Nat)(m:Mc)(ov tv:Value):Prop where
 row:H[M]? = some (.row (qmJ m ov tv) false)
 ya:ObjsOk H own M ov m.ya
 turn:qmK H own M m.c tv m.turn
 mem:M∈own
 lt:∀b∈own,b<H.length
def qmL:Option Int->Value
 | none => .tuple #[.agg #[I 0,I 0],.bool false]
 | some n => .tuple #[.agg #[I 0,I n],.bool true]
section
variable {lo:Nat}{H:qab}{own:List Nat}{M:Nat}{m:Mc}{ov tv:Value}
def McAt.put (h:McAt H own M m ov tv){m':Mc}{k:Blk}(hk:k = .row (qmJ m' ov tv) false)(ho:m'.ya=m.ya)(ht:m'.turn=m.turn)(hc:m'.c=m.c):McAt (H.set M k) own M m' ov tv:=by
 subst hk
 refine⟨qiy (h.lt M h.mem), ?_, ?_,h.mem,fun b hb=>by rw [zzQ];exact h.lt b hb⟩
 ·rw [ho]
  rcases h.ya with h1|⟨h0,b,h1,h2,h3,h4⟩
  ·exact .inl h1
  ·exact .inr ⟨h0,b,h1,h2,h3,qiz h2.symm h4⟩
 ·rw [ht,hc]
  rcases h.turn with h1|⟨t,b,h1,h2,h3,h4,h5⟩
  ·exact .inl h1
  ·exact .inr ⟨t,b,h1,h2,h3,h4,qiz h3.symm h5⟩
def McAt.yz (h:McAt H own M m ov tv){S:List Nat}{H':qab}(a:Chg S H H')(hd:∀b∈own,b∉S):McAt H' own M m ov tv:=by
 refine⟨a.get h.row (hd M h.mem), ?_, ?_,h.mem,fun b hb=>Nat.lt_of_lt_of_le (h.lt b hb) a.len⟩
 ·rcases h.ya with h1|⟨h0,b,h1,h2,h3,h4⟩
  ·exact .inl h1
  ·exact .inr ⟨h0,b,h1,h2,h3,a.get h4 (hd b h1)⟩
 ·rcases h.turn with h1|⟨t,b,h1,h2,h3,h4,h5⟩
  ·exact .inl h1
  ·exact .inr ⟨t,b,h1,h2,h3,h4,a.get h5 (hd b h2)⟩
def qmM (h:H[M]? = some (.row (qmJ m ov tv) false)):qau H (some 2) ⟨M,0+0,none⟩=some (lay m.c.T m.c.S):=qiD h (zzL rfl) rfl
def qmN (h:H[M]? = some (.row (qmJ m ov tv) false)):qau H (some 3) ⟨M,0+2,none⟩=some (.agg m.c.cs.toArray):=qiD h (zzL rfl) rfl
def qmO (h:H[M]? = some (.row (qmJ m ov tv) false))(hlo:lo<=M)(n:Int):qfU En lo Id.zaR [qkt M,I n] H=some (qmL none,H.set M (.row (qmJ {m with next:=n} ov tv) false)):=by
 have hst:stN lo H ⟨M,0+5,none⟩ (qaf (I n))=some (H.set M (.row (qmJ {m with next:=n} ov tv) false)):=qiE h hlo (zzL rfl) rfl
 refine qgw rfl Fn.zaR rfl rfl ?_
 repeat' first|refine .A ?_|refine .B ?_|refine .J ?_|refine .S hst ?_|refine .F ?_|refine .Y ?_|fail
 rfl
def qmP (h:H[M]? = some (.row (qmJ m ov tv) false))(hlo:lo<=M):qfU En lo Id.zaL [qkt M] H=some (qmL (some m.moved),H.set M (.row (qmJ {m with next:=0} ov tv) false)):=by
 have hst:stN lo H ⟨M,0+5,none⟩ (qaf (I 0))=some (H.set M (.row (qmJ {m with next:=0} ov tv) false)):=qiE h hlo (zzL rfl) rfl
 have l1:qau (H.set M (.row (qmJ {m with next:=0} ov tv) false)) none ⟨M,0+84,none⟩=some (I m.moved):=qiC (qiy (qiB h)) rfl
 refine qgw rfl Fn.zaL rfl rfl ?_
 repeat' first|refine .A ?_|refine .B ?_|refine .J ?_|refine .L l1 ?_|refine .S hst ?_|refine .F ?_|refine .Y ?_|fail
 rfl
def onM (m:Mc)(n:Int):Mc×Option Int:=({m with next:=n},none)
def qmQ (m:Mc):Mc×Option Int:=({m with next:=0},some m.moved)
def qmR (m:Mc):Mc×Option Int:=if m.yx<m.ya.length then onM m 5 else if m.top<=m.dest then qmQ m else onM {m with turn:=some ⟨1,0,0⟩} 10
def Post (H:qab)(own:List Nat)(M:Nat)(r:Mc×Option Int)(S:List Nat)(v:Value)(H':qab):Prop :=
 v=qmL r.2/\∃own' ov' tv',McAt H' own' M r.1 ov' tv'/\Chg S H H'/\∀b∈own',b∈own\/H.length<=b
def qmS (lo:Nat)(H:qab){c:Cfg}(hm:c.may):qfU En lo Id.zbu [.agg c.cs.toArray] H=some (qkt H.length,H ++ [.row (qmI c ⟨1,0,0⟩) false]):=by
 have hO:=fun lo=>qjt lo H hm
 refine qgw rfl Fn.zbu rfl rfl ?_
 repeat' first|refine .A ?_|refine .B ?_|refine .D ?_|refine .F ?_|refine .J ?_|refine .C ?_|refine .f6 ?_|refine .P (hO _) ?_|refine .Y ?_|fail
 rfl
def qmT (h:McAt H own M m ov tv)(hm:m.c.may)(hlo:lo<=M):∃v H',qfU En lo Id.zaK [qkt M] H=some (v,H')/\Post H own M (qmR m) own v H':=by
 have hr:=h.row
 have l79:qau H none ⟨M,0+79,none⟩=some (I m.yx):=qiC hr rfl
 have l14:qau H none ⟨M,0+14,none⟩=some ov:=qiC hr rfl
 have l80:qau H none ⟨M,0+80,none⟩=some (I m.dest):=qiC hr rfl
 have l6:qau H none ⟨M,0+6,none⟩=some (I m.top):=qiC hr rfl
 have l2:=qmN hr
 have hov:∃base cap,ov = .slice base m.ya.length cap:=by
  rcases h.ya with⟨h1,h2⟩|⟨h0,b,h1,h2,h3,h4⟩
  ·exact⟨none,0,by rw [h2,h1];rfl⟩
  ·exact⟨_,_,h3⟩
 obtain⟨ob,oc,hov⟩:=hov
 unfold qmR
 by_cases h1:m.yx<(m.ya.length:Int)
 ·rw [if_pos h1]
  refine⟨qmL none,_, ?_,rfl,own,ov,tv,h.put (m' := {m with next:=5}) rfl rfl rfl rfl,(Chg.refl _ _).set h.mem,fun b hb => .inl hb⟩
  have hO:=fun lo hl=>qmO (lo:=lo) hr hl 5
  refine qgw rfl Fn.zaK rfl rfl ?_
  rw [hov]at l14
  repeat' first|refine .A ?_|refine .B ?_|refine .C ?_|refine .G ?_|refine .J ?_|refine .t1 ?_|refine .L l79 ?_|refine .L l14 ?_|refine .P (hO _ hlo) ?_|refine .F ?_|refine .Y ?_|fail
  rfl
 ·rw [if_neg h1]
  by_cases h2:m.top<=m.dest
  ·rw [if_pos h2]
   refine⟨qmL (some m.moved),_, ?_,rfl,own,ov,tv,h.put (m' := {m with next:=0}) rfl rfl rfl rfl,(Chg.refl _ _).set h.mem,fun b hb => .inl hb⟩
   have hE:=fun lo hl=>qmP (lo:=lo) hr hl
   refine qgw rfl Fn.zaK rfl rfl ?_
   rw [hov]at l14
   repeat' first|refine .A ?_|refine .B ?_|refine .C ?_|refine .D ?_|refine .G ?_|refine .J ?_|refine .f1 ?_|refine .t4 ?_|refine .L l79 ?_|refine .L l14 ?_|refine .L l80 ?_|refine .L l6 ?_|refine .P (hE _ hlo) ?_|refine .F ?_|refine .Y ?_|fail
   rfl
  ·rw [if_neg h2]
   have hN:=fun lo=>qmS lo H hm
   have hr2:(H ++ [Blk.row (qmI m.c ⟨1,0,0⟩) false])[M]? = some (.row (qmJ m ov tv) false):=qiA hr
   have hst:stN lo (H ++ [Blk.row (qmI m.c ⟨1,0,0⟩) false]) ⟨M,0+85,none⟩ (qaf (qkt H.length))=some ((H ++ [Blk.row (qmI m.c ⟨1,0,0⟩) false]).set M (.row (qmJ {m with turn:=some ⟨1,0,0⟩} ov (qkt H.length)) false)):=qiE hr2 hlo (zzL rfl) rfl
   have hO:=fun lo hl=>qmO (lo:=lo) (H:=(H ++ [Blk.row (qmI m.c ⟨1,0,0⟩) false]).set M (.row (qmJ {m with turn:=some ⟨1,0,0⟩} ov (qkt H.length)) false)) (m := {m with turn:=some ⟨1,0,0⟩}) (ov:=ov) (tv:=qkt H.length) (qiy (qiB hr2)) hl 10
   have hMl:=h.lt M h.mem
   refine⟨qmL none,(((H ++ [Blk.row (qmI m.c ⟨1,0,0⟩) false]).set M (.row (qmJ {m with turn:=some ⟨1,0,0⟩} ov (qkt H.length)) false)).set M (.row (qmJ {m with turn:=some ⟨1,0,0⟩,next:=10} ov (qkt H.length)) false)), ?_,rfl,H.length::own,ov,qkt H.length,⟨qiy (by rw [zzQ];exact qiB hr2), ?_,.inr ⟨_,H.length,rfl,by simp,by omega,rfl,qiz (by omega) (qiz (by omega) zzC)⟩,by simp [h.mem],fun b hb => ?_⟩,((((Chg.refl _ _).app _).set h.mem).set h.mem),fun b hb => ?_⟩
   ·refine qgw rfl Fn.zaK rfl rfl ?_
    rw [hov]at l14
    repeat' first|refine .A ?_|refine .B ?_|refine .D ?_|refine .F ?_|refine .G ?_|refine .H ?_|refine .J ?_|refine .f1 ?_|refine .f4 ?_|(show EG _ _ (⟨_,.load _ _,_,_⟩::_) _ _ _ _ _ _;first|refine .L l79 ?_|refine .L l14 ?_|refine .L l80 ?_|refine .L l6 ?_|refine .L l2 ?_)|refine .P (hN _) ?_|refine .P (hO _ hlo) ?_|refine .S hst ?_|refine .Y ?_|fail
    rfl
   ·rcases h.ya with h3|⟨h0,b,h3,h4,h5,h6⟩
    ·exact .inl h3
    ·exact .inr ⟨h0,b,by simp [h3],h4,h5,qiz h4.symm (qiz h4.symm (qiA h6))⟩
   ·rw [zzQ,zzQ,zzM,List.length_singleton]
    rcases List.mem_cons.1 hb with h3|h3
    ·omega
    ·have:=h.lt b h3;omega
   ·rcases List.mem_cons.1 hb with h3|h3
    ·exact .inr (by omega)
    ·exact .inl h3
end
section
variable {lo:Nat}{H:qab}{own:List Nat}{M:Nat}{m:Mc}{ov tv:Value}
def ObjsOk.sl {ya:List Obj}(h:ObjsOk H own M ov ya):Sl H 4 ov (css ya):=by
 rcases h with⟨h1,h2⟩|⟨h0,b,h1,h2,h3,h4⟩
 ·subst h1 h2
  exact⟨fun e he=>(by cases he),.inl ⟨rfl,none,0,rfl⟩⟩
 ·subst h3
  refine⟨qkx ya,.inr ⟨_,_,by rw [qkR], ?_⟩⟩
  exact qgD (a:=loose b 0) h4 rfl (by rw [qgz (qkx ya)])
def ObjsOk.nil {ya:List Obj}(h:ObjsOk H own M ov ya)(h0:ya = []):ov = .slice none 0 0:=by
 rcases h with⟨_,h2⟩|⟨h1,_⟩
 ·exact h2
 ·exact absurd h0 h1
def ObjsOk.len {ya:List Obj}(h:ObjsOk H own M ov ya):∃base cap,ov = .slice base ya.length cap:=by
 rcases h with⟨h1,h2⟩|⟨h0,b,h1,h2,h3,h4⟩
 ·exact⟨none,0,by rw [h2,h1];rfl⟩
 ·exact⟨_,_,h3⟩
def McAt.made (h:McAt H own M m ov tv)(l:List Obj):∃own',McAt ((made H 4 (css l)).2.set M (.row (qmJ {m with ya:=l} (made H 4 (css l)).1 tv) false)) own' M {m with ya:=l} (made H 4 (css l)).1 tv/\
  Chg own H ((made H 4 (css l)).2.set M (.row (qmJ {m with ya:=l} (made H 4 (css l)).1 tv) false))/\∀b∈own',b∈own\/H.length<=b:=by
 have hMl:=h.lt M h.mem
 by_cases h0:l = []
 ·subst h0
  refine⟨own,⟨qiy hMl,.inl ⟨rfl,rfl⟩, ?_,h.mem,fun b hb=>by rw [zzQ];exact h.lt b hb⟩,(Chg.refl _ _).set h.mem,fun b hb => .inl hb⟩
  rcases h.turn with h1|⟨t,b,h1,h2,h3,h4,h5⟩
  ·exact .inl h1
  ·exact .inr ⟨t,b,h1,h2,h3,h4,qiz h3.symm h5⟩
 ·have hm:Ir.made H 4 (css l)=(.slice (some (loose H.length 0)) l.length 4,H ++ [.row (css l).flatten false]):=by
   unfold Ir.made
   rw [if_neg (by simpa [css]using h0),qkR]
  rw [hm]
  refine⟨H.length::own,⟨qiy (by simp;omega),.inr ⟨h0,H.length,by simp,by omega,rfl,qiz (by omega) zzC⟩, ?_,by simp [h.mem],fun b hb => ?_⟩,((Chg.refl _ _).app _).set h.mem,fun b hb => ?_⟩
  ·rcases h.turn with h1|⟨t,b,h1,h2,h3,h4,h5⟩
   ·exact .inl h1
   ·exact .inr ⟨t,b,h1,by simp [h2],h3,h4,qiz h3.symm (qiA h5)⟩
  ·rw [zzQ,zzM,List.length_singleton]
   rcases List.mem_cons.1 hb with h3|h3
   ·omega
   ·have:=h.lt b h3;omega
  ·rcases List.mem_cons.1 hb with h3|h3
   ·exact .inr (by omega)
   ·exact .inl h3
def Post.trans {r:Mc×Option Int}{v:Value}{own2:List Nat}{S:List Nat}{H2 H':qab}(c1:Chg S H H2)(o1:∀b∈own2,b∈own\/H.length<=b)(p:Post H2 own2 M r own2 v H')(hS:∀b∈own,b∈S):Post H own M r S v H':=by
 obtain⟨p1,own',ov',tv',p2,p3,p4⟩:=p
 refine⟨p1,own',ov',tv',p2,⟨Nat.le_trans c1.len p3.len,fun j hl hj => ?_⟩,fun b hb => ?_⟩
 ·refine(p3.same j (Nat.lt_of_lt_of_le hl c1.len) fun hm => ?_).trans (c1.same j hl hj)
  rcases o1 j hm with h1|h1
  ·exact hj (hS j h1)
  ·omega
 ·rcases p4 b hb with h1|h1
  ·exact o1 b h1
  ·exact .inr (Nat.le_trans c1.len h1)
def Post.pre {r:Mc×Option Int}{v:Value}{S:List Nat}{H2 H':qab}(c1:Chg S H H2)(p:Post H2 own M r S v H'):Post H own M r S v H':=by
 obtain⟨p1,own',ov',tv',p2,p3,p4⟩:=p
 exact⟨p1,own',ov',tv',p2,c1.trans p3,fun b hb=>(p4 b hb).imp id (Nat.le_trans c1.len)⟩
def qmU (m:Mc):Mc×Option Int:=if w64 (m.slot+1)<m.c.S then onM {m with slot:=w64 (m.slot+1)} 3 else qmR {m with slot:=w64 (m.slot+1),ya:=qkN m.ya}
def qmV (h:McAt H own M m ov tv)(hm:m.c.may)(hlo:∀b∈own,lo<=b)(hl:m.ya.length<=64):∃v H',qfU En lo Id.zaU [qkt M] H=some (v,H')/\Post H own M (qmU m) own v H':=by
 have hr:=h.row
 have hMl:=h.lt M h.mem
 have hloM:=hlo M h.mem
 have l7:qau H none ⟨M,0+7,none⟩=some (I m.slot):=qiC hr rfl
 have hst:stN lo H ⟨M,0+7,none⟩ (qaf (I (w64 (m.slot+1))))=some (H.set M (.row (qmJ {m with slot:=w64 (m.slot+1)} ov tv) false)):=qiE hr hloM (zzL rfl) rfl
 have h1:=h.put (m' := {m with slot:=w64 (m.slot+1)}) rfl rfl rfl rfl
 have c1:Chg own H (H.set M (.row (qmJ {m with slot:=w64 (m.slot+1)} ov tv) false)):=(Chg.refl _ _).set h.mem
 generalize H.set M (.row (qmJ {m with slot:=w64 (m.slot+1)} ov tv) false)=H1 at hst h1 c1
 have hr1:=h1.row
 have k7:qau H1 none ⟨M,0+7,none⟩=some (I (w64 (m.slot+1))):=qiC hr1 rfl
 have k3:qau H1 none ⟨M,0+2+1,none⟩=some (I m.c.S):=qiC hr1 rfl
 have k14:qau H1 none ⟨M,0+14,none⟩=some ov:=qiC hr1 rfl
 unfold qmU
 by_cases hs:w64 (m.slot+1)<m.c.S
 ·rw [if_pos hs]
  have hO:=qmO (lo:=lo) hr1 hloM 3
  refine⟨qmL none,_, ?_,rfl,own,ov,tv,h1.put (m' := {m with slot:=w64 (m.slot+1),next:=3}) rfl rfl rfl rfl,c1.set h.mem,fun b hb => .inl hb⟩
  refine qgw rfl Fn.zaU rfl rfl ?_
  repeat' first|refine .A ?_|refine .B ?_|refine .C ?_|refine .J ?_|refine .t1 ?_|refine .L l7 ?_|refine .L k7 ?_|refine .L k3 ?_|refine .P hO ?_|refine .S hst ?_|refine .F ?_|refine .Y ?_|fail
  rfl
 ·rw [if_neg hs]
  have hP:=fun lo=>qlJ lo (h1.ya.sl) (h1.ya.nil) (show m.ya.length<=74 by omega)
  obtain⟨own2,h3,c3,o3⟩:=h1.made (qkN m.ya)
  have hmd:=qgJ (h:=H1) (qkx (qkN m.ya))
  generalize made H1 4 (css (qkN m.ya))=mk at hP h3 c3 hmd
  obtain⟨v2,H2⟩:=mk
  simp only at h3 c3 hmd
  have hr2:H2[M]? = some (.row (qmJ {m with slot:=w64 (m.slot+1)} ov tv) false):=by rw [hmd.2.2 M (h1.lt M h.mem)];exact hr1
  have hst2:stN lo H2 ⟨M,0+14,none⟩ (qaf v2)=some (H2.set M (.row (qmJ {m with slot:=w64 (m.slot+1),ya:=qkN m.ya} v2 tv) false)):=by
   have hv2:qaf v2 = [v2]:=by
    obtain⟨base,cap,hv⟩:=hmd.1.len
    rw [hv];rfl
   rw [hv2]
   exact qiE hr2 hloM (zzL rfl) rfl
  have hone:(qaf v2).length=1/\(qaf v2).all qad=true:=by
   obtain⟨base,cap,hv⟩:=hmd.1.len
   rw [hv];exact⟨rfl,rfl⟩
  generalize hH3:H2.set M (.row (qmJ {m with slot:=w64 (m.slot+1),ya:=qkN m.ya} v2 tv) false)=H3 at hst2
  have h3':McAt H3 own2 M {m with slot:=w64 (m.slot+1),ya:=qkN m.ya} v2 tv:=by rw [<-hH3];exact h3
  have c3':Chg own H1 H3:=by rw [<-hH3];exact c3
  obtain⟨v,H4,hB,hpost⟩:=qmT h3' hm hloM
  refine⟨v,H4, ?_,Post.pre c1 (Post.trans c3' o3 hpost (fun b hb=>hb))⟩
  have hv:=hpost.1
  generalize (qmR {m with slot:=w64 (m.slot+1),ya:=qkN m.ya}).2=rr at hv
  refine qgw rfl Fn.zaU rfl rfl ?_
  subst hv
  cases rr
  all_goals
   repeat' first|refine .A ?_|refine .B ?_|refine .D ?_|refine .F ?_|refine .J ?_|refine .f1 ?_|refine .L l7 ?_|refine .L k7 ?_|refine .L k3 ?_|refine .L k14 ?_|refine .P (hP _) ?_|refine .P hB ?_|refine .S hst ?_|refine .store rfl rfl rfl hone.1 hone.2 hst2 ?_|refine .Y ?_|fail
   rfl
end
def qmW {A B C:List Value}{k:Nat}{v:Value}(hk:k<B.length):splice (A++B++C) (A.length+k) [v]=A++B.set k v++C:=by
 unfold splice
 rw [List.append_assoc A B C,List.take_length_add_append,List.length_singleton,Nat.add_assoc,List.drop_length_add_append,List.take_append_of_le_length (by omega),List.drop_append_of_le_length (by omega),List.set_eq_take_append_cons_drop,if_pos hk]
 simp [List.append_assoc]
def qmX (f:Nat->Int)(k:Nat)(v:Int):((List.range 64).map fun j=>I (f j)).set k (I v)=(List.range 64).map fun j=>I (if j=k then v else f j):=by
 refine List.ext_getElem? fun j => ?_
 rw [List.getElem?_set]
 by_cases hj:j<64
 ·by_cases hkj:k=j
  ·subst hkj
   rw [if_pos rfl,if_pos (by simpa using hj)]
   simp [hj]
  ·rw [if_neg hkj]
   simp [hj]
   intro e
   exact absurd e.symm hkj
 ·rw [zzE (by simpa using hj)]
  by_cases hkj:k=j
  ·rw [if_pos hkj,if_neg (by simp;omega),zzE (by simpa using hj)]
  ·rw [if_neg hkj,zzE (by simpa using hj)]
def qmY (m:Mc)(ov tv:Value){k:Nat}(hk:k<64)(v:Int):splice (qmJ m ov tv) (0+15+k*1) [I v]=qmJ {m with g:=fun j=>if j=k then v else m.g j} ov tv:=by
 have h:=qmW (A := [I m.c.T,I m.c.S,I m.c.A,I m.c.S,I m.c.T,I m.next,I m.top,I m.slot,I m.e.o,I m.e.g,I m.e.p,I m.e.u,.bool m.e.lk,.bool m.e.lv,ov]) (B:=(List.range 64).map (fun k=>I (m.g k)))
  (C := [I m.yx,I m.dest,I m.word,I m.i,I m.b,I m.moved,tv,.bool m.low]) (k:=k) (v:=I v) (by simpa using hk)
 rw [qmX]at h
 rw [show 0+15+k*1=15+k by omega]
 exact h
def qmZ (m:Mc)(ov tv:Value){k:Nat}(hk:k<64):(qmJ m ov tv)[0+15+k*1]? = some (I (m.g k)):=by
 unfold qmJ
 rw [show 0+15+k*1=15+k by omega,zzA (by simp;omega),zzB (by simp)]
 simp [hk]
def qm0 (m:Mc)(ov tv:Value):(qmJ m ov tv).length=87:=by simp [qmJ]
section
variable {lo:Nat}{H:qab}{own:List Nat}{M:Nat}{m:Mc}{ov tv:Value}
def ObjsOk.push {ya:List Obj}(h:ObjsOk H own M ov ya)(hM:M<H.length)(hlt:∀b∈own,b<H.length)(hlo:∀b∈own,lo<=b)(hl:ya.length+1<=2 ^ 30)(x:Obj) :
  ∃v' H',qaE lo 4 32 (H ++ [.row x.cs false]) ov (.slice (some ⟨H.length,0,none⟩) 1 1)=some (v',H')/\ObjsOk H' ((H.length+1)::own) M v' (ya ++ [x])/\Chg own H H'/\H'[M]? = H[M]?/\H'.length=H.length+2:=by
 have hsrc:∀n,n=1->qaC (H ++ [.row x.cs false]) 4 n (.slice (some ⟨H.length,0,none⟩) 1 1)=some x.cs:=fun n hn=>by
  subst hn
  unfold qaC
  simp only
  rw [if_neg (by decide)]
  exact qgD (a:=⟨H.length,0,none⟩) (cs:=x.cs) (ro:=false) (zzC) rfl rfl
 rcases h with⟨rfl,rfl⟩|⟨h0,b,h1,h2,rfl,h4⟩
 ·refine⟨.slice (some (loose (H ++ [Blk.row x.cs false]).length 0)) 1 4,H ++ [Blk.row x.cs false] ++ [Blk.row x.cs false], ?_,.inr ⟨by simp,H.length+1,by simp,by omega,by simp, ?_⟩,((Chg.refl _ _).app _).app _, ?_,by simp⟩
  ·simp only [qaE,qaB,Nat.zero_add,hsrc 1 rfl]
   rw [if_pos (.inl ⟨by omega,by decide⟩)]
   simp
  ·have:H.length+1=(H ++ [Blk.row x.cs false]).length:=by simp
   rw [this,zzC]
   simp [css]
  ·rw [zzA (by simp;omega),zzA hM]
 ·have hbl:=qiB h4
  have h4':(H ++ [Blk.row x.cs false])[b]? = some (.row (css ya).flatten false):=qiA h4
  have hold:qaC (H ++ [.row x.cs false]) 4 ya.length (.slice (some (loose b 0)) ya.length 4)=some (css ya).flatten:=by
   unfold qaC
   simp only
   rw [if_neg (fun e=>h0 (List.length_eq_zero_iff.1 e))]
   exact qgD (a:=loose b 0) h4' rfl (by rw [qgz (qkx ya),qkR])
  refine⟨.slice (some (loose (H ++ [Blk.row x.cs false]).length 0)) (ya.length+1) 4,(H ++ [Blk.row x.cs false]).set b Blk.dead ++ [Blk.row ((css ya).flatten++x.cs) false], ?_,.inr ⟨by simp,H.length+1,by simp,by omega,by simp, ?_⟩,(((Chg.refl _ _).app _).set h1).app _, ?_,by simp⟩
  ·simp only [qaE,qaB,hsrc 1 rfl]
   rw [if_pos (.inl ⟨hl,by decide⟩)]
   simp only [loose]at hold h4'|-
   simp only [hold,h4']
   simp [hlo b h1]
  ·rw [zzB (by simp)]
   simp [css]
  ·rw [zzA (by simp;omega),qiz h2 (zzA hM)]
def Post.mono {r:Mc×Option Int}{v:Value}{S S':List Nat}{H':qab}(p:Post H own M r S v H')(h:∀b∈S,b∈S'):Post H own M r S' v H':=by
 obtain⟨p1,own',ov',tv',p2,p3,p4⟩:=p
 exact⟨p1,own',ov',tv',p2,p3.mono h,p4⟩
def Disj (own:List Nat)(cb:CB):Prop:=∀b∈own,b≠cb.P/\b≠cb.W/\b≠cb.Y
def Disj.notP {cb:CB}(d:Disj own cb):∀b∈own,b∉[cb.P]:=fun b hb h=>(d b hb).1 (by simpa using h)
def Disj.waD {cb:CB}(d:Disj own cb):∀b∈own,b∉[cb.P,cb.W]:=fun b hb h=>by
 simp at h
 rcases h with h|h
 ·exact(d b hb).1 h
 ·exact(d b hb).2.1 h
def Disj.notPY {cb:CB}(d:Disj own cb):∀b∈own,b∉[cb.P,cb.Y]:=fun b hb h=>by
 simp at h
 rcases h with h|h
 ·exact(d b hb).1 h
 ·exact(d b hb).2.2 h
def Disj.cells {cb:CB}(d:Disj own cb):cb.P∉own/\cb.W∉own/\cb.Y∉own:=⟨fun h=>(d _ h).1 rfl,fun h=>(d _ h).2.1 rfl,fun h=>(d _ h).2.2 rfl⟩
def qm1 (own:List Nat)(cb:CB):List Nat:=own ++ [cb.P,cb.W,cb.Y]
def PostC (H:qab)(own:List Nat)(M:Nat)(cb:CB)(r:Mc×Option Int)(ws bs:List Int)(v:Value)(H':qab):Prop:=Post H own M r (qm1 own cb) v H'/\IsC H' cb ws bs
def PostC.wae {cb:CB}{r:Mc×Option Int}{ws bs:List Int}{v:Value}{H1 H':qab}{S:List Nat}(d:Disj own cb)(o:Only S H H1)(hS:∀b∈S,b∈[cb.P,cb.W,cb.Y])(hC:IsC H1 cb ws bs)(p:Post H1 own M r own v H'):PostC H own M cb r ws bs v H':=by
 refine⟨Post.pre ((Chg.of o).mono fun b hb=>by unfold qm1;simp only [List.mem_append];exact .inr (hS b hb)) (p.mono fun b hb=>by unfold qm1;simp [hb]), ?_⟩
 obtain⟨p1,own',ov',tv',p2,p3,p4⟩:=p
 exact hC.yz p3 d.cells
def qm2 (m:Mc)(ws:List Int):Mc×Option Int :=
 if 1<=qi5 ws (qjx m.c m.slot 1)/\qi5 ws (qjx m.c m.slot 1)<=256 then
  qmU {m with ya:=m.ya ++ [⟨m.slot,m.e.o,qkq (qi5 ws (qjx m.c m.slot 1)),false⟩],g:=fun j=>if j=m.slot.toNat then m.e.g else m.g j}
 else qmU m
def qm3 {cb:CB}{ws bs:List Int}(h:McAt H own M m ov tv)(hC:IsC H cb ws bs)(d:Disj own cb)(hm:m.c.may)(hlo:∀b∈own,lo<=b)(hlc:lo<=cb.P)(hl:m.ya.length<64)(hsl:0<=m.slot/\m.slot<64)(hnt:m.turn=none) :
  ∃v H',qfU En lo Id.zaP [qkt M,ifC cb] H=some (v,H')/\PostC H own M cb (qm2 m ws) ws bs v H':=by
 have hr:=h.row
 have hloM:=hlo M h.mem
 have l0:=qmM hr
 have l7:qau H none ⟨M,0+7,none⟩=some (I m.slot):=qiC hr rfl
 have hS:=fun lo=>qjB lo H hm m.slot
 obtain⟨H1,hL,hC1,ho1⟩:=qjf hC hlc (qjx m.c m.slot 1)
 have h1:=h.yz (Chg.of ho1) d.notP
 have hr1:=h1.row
 have hR:=fun lo=>qks lo H1 (qi5 ws (qjx m.c m.slot 1))
 unfold qm2
 unfold qkr at hR
 by_cases hn:1<=qi5 ws (qjx m.c m.slot 1)/\qi5 ws (qjx m.c m.slot 1)<=256
 ·rw [if_pos hn]at hR|-
  obtain⟨k,hk⟩:∃k:Nat,m.slot=k:=⟨m.slot.toNat,by omega⟩
  have hk64:k<64:=by omega
  have k14:qau H1 none ⟨M,0+14,none⟩=some ov:=qiC hr1 rfl
  have k7:qau H1 none ⟨M,0+7,none⟩=some (N k):=(qiC hr1 rfl).trans (by rw [hk])
  have k8:qau H1 none ⟨M,0+8+0,none⟩=some (I m.e.o):=qiC hr1 rfl
  obtain⟨v2,H2,hap,ho2,hc2,hM2,hl2⟩:=h1.ya.push (lo:=lo) (h1.lt M h1.mem) h1.lt hlo (by omega) ⟨(k:Int),m.e.o,qkq (qi5 ws (qjx m.c m.slot 1)),false⟩
  have hr2:H2[M]? = some (.row (qmJ m ov tv) false):=by rw [hM2];exact hr1
  have hov2:∃base cap,v2 = .slice base (m.ya.length+1) cap:=by
   obtain⟨base,cap,hv⟩:=ho2.len
   exact⟨base,cap,by rw [hv];simp⟩
  have hone:(qaf v2).length=1/\(qaf v2).all qad=true/\qaf v2 = [v2]:=by
   obtain⟨base,cap,hv⟩:=hov2
   rw [hv];exact⟨rfl,rfl,rfl⟩
  have hst2:stN lo H2 ⟨M,0+14,none⟩ (qaf v2)=some (H2.set M (.row (qmJ {m with ya:=m.ya ++ [⟨(k:Int),m.e.o,qkq (qi5 ws (qjx m.c m.slot 1)),false⟩]} v2 tv) false)):=by
   rw [hone.2.2]
   exact qiE hr2 hloM (zzL rfl) rfl
  have hM2l:M<H2.length:=qiB hr2
  have q7:qau (H2.set M (.row (qmJ {m with ya:=m.ya ++ [⟨(k:Int),m.e.o,qkq (qi5 ws (qjx m.c m.slot 1)),false⟩]} v2 tv) false)) none ⟨M,0+7,none⟩=some (N k):=(qiC (qiy hM2l) rfl).trans (by rw [hk])
  have q9:qau (H2.set M (.row (qmJ {m with ya:=m.ya ++ [⟨(k:Int),m.e.o,qkq (qi5 ws (qjx m.c m.slot 1)),false⟩]} v2 tv) false)) none ⟨M,0+8+1,none⟩=some (I m.e.g):=qiC (qiy hM2l) rfl
  have hst3:stN lo (H2.set M (.row (qmJ {m with ya:=m.ya ++ [⟨(k:Int),m.e.o,qkq (qi5 ws (qjx m.c m.slot 1)),false⟩]} v2 tv) false)) ⟨M,0+15+k*1,none⟩ (qaf (I m.e.g)) =
    some (H2.set M (.row (qmJ {m with ya:=m.ya ++ [⟨(k:Int),m.e.o,qkq (qi5 ws (qjx m.c m.slot 1)),false⟩],g:=fun j=>if j=k then m.e.g else m.g j} v2 tv) false)) :=
   (qiE (qiy hM2l) hloM (by show 0+15+k*1+1<=_;rw [qm0];omega) (qmY _ _ _ hk64 _)).trans (by rw [List.set_set])
  have h3:McAt (H2.set M (.row (qmJ {m with ya:=m.ya ++ [⟨(k:Int),m.e.o,qkq (qi5 ws (qjx m.c m.slot 1)),false⟩],g:=fun j=>if j=k then m.e.g else m.g j} v2 tv) false)) ((H1.length+1)::own) M
    {m with ya:=m.ya ++ [⟨(k:Int),m.e.o,qkq (qi5 ws (qjx m.c m.slot 1)),false⟩],g:=fun j=>if j=k then m.e.g else m.g j} v2 tv:=by
   refine⟨qiy hM2l, ?_,.inl ⟨hnt, ?_⟩,by simp [h.mem],fun b hb => ?_⟩
   ·rcases ho2 with g1|⟨g0,b,g1,g2,g3,g4⟩
    ·exact .inl g1
    ·exact .inr ⟨g0,b,g1,g2,g3,qiz g2.symm g4⟩
   ·rcases h.turn with⟨_,g⟩|⟨t,b,g,_⟩
    ·exact g
    ·rw [hnt]at g;cases g
   ·rw [zzQ,hl2]
    rcases List.mem_cons.1 hb with g|g
    ·omega
    ·have:=h1.lt b g;omega
  have c3:Chg own H1 (H2.set M (.row (qmJ {m with ya:=m.ya ++ [⟨(k:Int),m.e.o,qkq (qi5 ws (qjx m.c m.slot 1)),false⟩],g:=fun j=>if j=k then m.e.g else m.g j} v2 tv) false)):=hc2.set h.mem
  have hlo3:∀b∈(H1.length+1)::own,lo<=b:=fun b hb=>by
   rcases List.mem_cons.1 hb with g|g
   ·have:=h1.lt M h.mem;omega
   ·exact hlo b g
  obtain⟨v,H4,hB,hpost⟩:=qmV h3 hm hlo3 (by rw [zzM];simp;omega)
  have hpost':Post H1 own M (qmU {m with ya:=m.ya ++ [⟨(k:Int),m.e.o,qkq (qi5 ws (qjx m.c m.slot 1)),false⟩],g:=fun j=>if j=k then m.e.g else m.g j}) own v H4:=Post.trans c3 (fun b hb=>by
   rcases List.mem_cons.1 hb with g|g
   ·exact .inr (by omega)
   ·exact .inl g) hpost (fun b hb=>hb)
  have hkn:m.slot.toNat=k:=by omega
  rw [hkn]
  rw [<-hk]at hpost'
  refine⟨v,H4, ?_,PostC.wae d ho1 (by simp) hC1 hpost'⟩
  have hv:=hpost.1
  generalize (qmU {m with ya:=m.ya ++ [⟨(k:Int),m.e.o,qkq (qi5 ws (qjx m.c m.slot 1)),false⟩],g:=fun j=>if j=k then m.e.g else m.g j}).2=rr at hv
  refine qgw rfl Fn.zaP rfl rfl ?_
  subst hv
  cases rr
  all_goals
   repeat' first|refine .A ?_|refine .B ?_|refine .C ?_|refine .J ?_|refine .t5 ?_|(show EG _ _ (⟨_,.load _ _,_,_⟩::_) _ _ _ _ _ _;first|refine .L l0 ?_|refine .L l7 ?_|refine .L k14 ?_|refine .L k7 ?_|refine .L k8 ?_|refine .L q7 ?_|refine .L q9 ?_)|refine .P (hS _) ?_|refine .P (hR _) ?_|refine .P hB ?_|refine .yI rfl rfl rfl (hk64) ?_|refine .U hap ?_|refine .W hL ?_|refine .store rfl rfl rfl hone.1 hone.2.1 hst2 ?_|refine .S hst3 ?_|refine .F ?_|refine .Y ?_|fail
   rfl
 ·rw [if_neg hn]at hR|-
  obtain⟨v,H4,hB,hpost⟩:=qmV h1 hm hlo (by omega)
  refine⟨v,H4, ?_,PostC.wae d ho1 (by simp) hC1 hpost⟩
  have hv:=hpost.1
  generalize (qmU m).2=rr at hv
  refine qgw rfl Fn.zaP rfl rfl ?_
  subst hv
  cases rr
  all_goals
   repeat' first|refine .A ?_|refine .B ?_|refine .D ?_|refine .F ?_|refine .J ?_|refine .f5 ?_|refine .L l0 ?_|refine .L l7 ?_|refine .P (hS _) ?_|refine .P (hR _) ?_|refine .P hB ?_|refine .W hL ?_|refine .Y ?_|fail
   rfl
def qm4 (m:Mc)(ws:List Int):Mc×Option Int :=
 match qkb (qi5 ws (qjx m.c m.slot 0))with
 | some e=>if e.lv=true/\e.o<m.top then onM {m with e:=e} 4 else qmU {m with e:=e}
 | none=>qmU {m with e:=Ent.zero}
def qm5 {cb:CB}{ws bs:List Int}(h:McAt H own M m ov tv)(hC:IsC H cb ws bs)(d:Disj own cb)(hm:m.c.may)(hlo:∀b∈own,lo<=b)(hlc:lo<=cb.P)(hl:m.ya.length<=64) :
  ∃v H',qfU En lo Id.zaT [qkt M,ifC cb] H=some (v,H')/\PostC H own M cb (qm4 m ws) ws bs v H':=by
 have hr:=h.row
 have hloM:=hlo M h.mem
 have l0:=qmM hr
 have l7:qau H none ⟨M,0+7,none⟩=some (I m.slot):=qiC hr rfl
 have hE:=fun lo=>qjA lo H hm m.slot
 obtain⟨H1,hL,hC1,ho1⟩:=qjf hC hlc (qjx m.c m.slot 0)
 have h1:=h.yz (Chg.of ho1) d.notP
 have hU:=fun lo=>qkn lo H1 (qi5 ws (qjx m.c m.slot 0))
 have hst:∀e:Ent,stN lo H1 ⟨M,0+8,none⟩ (qaf (.agg e.cs.toArray))=some (H1.set M (.row (qmJ {m with e:=e} ov tv) false)):=fun e=>qiE h1.row hloM (zzL rfl) rfl
 have h2:∀e:Ent,McAt (H1.set M (.row (qmJ {m with e:=e} ov tv) false)) own M {m with e:=e} ov tv:=fun e=>h1.put rfl rfl rfl rfl
 have c2:∀e:Ent,Chg own H1 (H1.set M (.row (qmJ {m with e:=e} ov tv) false)):=fun e=>(Chg.refl _ _).set h.mem
 unfold qm4
 cases hu:qkb (qi5 ws (qjx m.c m.slot 0))with
 | none =>
   rw [hu]at hU
   obtain⟨v,H4,hB,hpost⟩:=qmV (h2 Ent.zero) hm hlo hl
   refine⟨v,H4, ?_,PostC.wae d ho1 (by simp) hC1 (Post.pre (c2 _) hpost)⟩
   have hv:=hpost.1
   generalize (qmU {m with e:=Ent.zero}).2=rr at hv
   have hs:=hst Ent.zero
   refine qgw rfl Fn.zaT rfl rfl ?_
   subst hv
   cases rr
   all_goals
    repeat' first|refine .A ?_|refine .B ?_|refine .D ?_|refine .F ?_|refine .J ?_|refine .f5 ?_|refine .L l0 ?_|refine .L l7 ?_|refine .P (hE _) ?_|refine .P (hU _) ?_|refine .P hB ?_|refine .W hL ?_|refine .S hs ?_|refine .Y ?_|fail
    rfl
 | some e =>
   rw [hu]at hU
   have hs:=hst e
   have k6:qau (H1.set M (.row (qmJ {m with e:=e} ov tv) false)) none ⟨M,0+6,none⟩=some (I m.top):=qiC (h2 e).row rfl
   simp only
   by_cases hc:e.lv=true/\e.o<m.top
   ·rw [if_pos hc]
    have hO:=qmO (lo:=lo) (h2 e).row hloM 4
    refine⟨qmL none,_, ?_,PostC.wae d ho1 (by simp) hC1 ⟨rfl,own,ov,tv,(h2 e).put (m' := {m with e:=e,next:=4}) rfl rfl rfl rfl,(c2 e).set h.mem,fun b hb => .inl hb⟩⟩
    obtain⟨o,g,p,u,lk,lv⟩:=e
    obtain⟨hc1,hc2⟩:=hc
    simp only at hc1 hc2
    subst hc1
    refine qgw rfl Fn.zaT rfl rfl ?_
    repeat' first|refine .A ?_|refine .B ?_|refine .C ?_|refine .J ?_|refine .t1 ?_|refine .t5 ?_|refine .L l0 ?_|refine .L l7 ?_|refine .L k6 ?_|refine .P (hE _) ?_|refine .P (hU _) ?_|refine .P hO ?_|refine .W hL ?_|refine .S hs ?_|refine .F ?_|refine .Y ?_|fail
    rfl
   ·rw [if_neg hc]
    obtain⟨v,H4,hB,hpost⟩:=qmV (h2 e) hm hlo hl
    refine⟨v,H4, ?_,PostC.wae d ho1 (by simp) hC1 (Post.pre (c2 _) hpost)⟩
    have hv:=hpost.1
    generalize (qmU {m with e:=e}).2=rr at hv
    obtain⟨o,g,p,u,lk,lv⟩:=e
    simp only at hc
    refine qgw rfl Fn.zaT rfl rfl ?_
    subst hv
    cases lv
    ·cases rr
     all_goals
      repeat' first|refine .A ?_|refine .B ?_|refine .D ?_|refine .F ?_|refine .J ?_|refine .C ?_|refine .t5 ?_|refine .L l0 ?_|refine .L l7 ?_|refine .P (hE _) ?_|refine .P (hU _) ?_|refine .P hB ?_|refine .W hL ?_|refine .S hs ?_|refine .Y ?_|fail
      rfl
    ·have hc':¬o<m.top:=fun hh=>hc ⟨rfl,hh⟩
     cases rr
     all_goals
      repeat' first|refine .A ?_|refine .B ?_|refine .D ?_|refine .F ?_|refine .J ?_|refine .C ?_|refine .f1 ?_|refine .t5 ?_|refine .L l0 ?_|refine .L l7 ?_|refine .L k6 ?_|refine .P (hE _) ?_|refine .P (hU _) ?_|refine .P hB ?_|refine .W hL ?_|refine .S hs ?_|refine .Y ?_|fail
      rfl
end
end Go.Proofs.YtlgnnpkdhbhdgaaGreat
