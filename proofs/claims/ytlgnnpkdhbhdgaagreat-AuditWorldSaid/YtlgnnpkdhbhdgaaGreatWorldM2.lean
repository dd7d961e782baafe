/- A pass: looking, locking, laying. -/
import Derived.Test.YtlgnnpkdhbhdgaaGreatWorldM1
set_option linter.all false
namespace Go.Proofs.YtlgnnpkdhbhdgaaGreat
open Go Go.Ir
def chA (w:Int)(f:Ent->Ent):Int :=
 match qkb w with
 | none=>0
 | some e=>if e.lv then(if(f e).may then(qkc (f e):Int)else 0)else 0
def chB (w:Int)(f:Ent->Ent):Int :=
 match qkb w with
 | none=>2
 | some e=>if e.lv then(if(f e).may then 0 else 1)else 1
def qm6 (w:Int)(f:Ent->Ent):chV w f = .tuple #[I (chA w f),I (chB w f)]:=by
 unfold chV chA chB pkV
 cases qkb w with
 | none=>rfl
 | some e =>
   simp only
   cases e.lv with
   | false=>rfl
   | true =>
     simp only [if_true]
     split<;>rfl
def qm7 (e:Ent):Ent := {e with lk:=true}
def qm8 (to:Int)(e:Ent):Ent := {e with o:=to,lk:=false}
def qm9 (a b:Int):Int:=if a<b then b else a
section
variable {lo:Nat}{H:qab}{own:List Nat}{M:Nat}{m:Mc}{ov tv:Value}
def qna (h:McAt H own M m ov tv){k:Nat}{o:Obj}(hk:m.yx=k)(ho:m.ya[k]? = some o):qfU En lo Id.zaQ [qkt M] H=some (.agg o.cs.toArray,H):=by
 have hr:=h.row
 have l14:qau H none ⟨M,0+14,none⟩=some ov:=qiC hr rfl
 have l79:qau H none ⟨M,0+79,none⟩=some (N k):=(qiC hr rfl).trans (by rw [hk])
 obtain⟨a,cap,hv,hld,_⟩:=qkS h.ya.sl ho
 have hkl:k<m.ya.length:=(zzS.1 ho).1
 subst hv
 refine qgw rfl Fn.zaQ rfl rfl ?_
 repeat' first|refine .A ?_|refine .B ?_|refine .J ?_|refine .L l14 ?_|refine .L l79 ?_|refine .L hld ?_|refine .R hkl ?_|refine .F ?_|refine .Y ?_|fail
 rfl
def qnb (m:Mc):Mc×Option Int:=qmR {m with yx:=w64 (m.yx+1)}
def qnc (h:McAt H own M m ov tv)(hm:m.c.may)(hloM:lo<=M):∃v H',qfU En lo Id.zaS [qkt M] H=some (v,H')/\Post H own M (qnb m) own v H':=by
 have hr:=h.row
 have l79:qau H none ⟨M,0+79,none⟩=some (I m.yx):=qiC hr rfl
 have hst:stN lo H ⟨M,0+79,none⟩ (qaf (I (w64 (m.yx+1))))=some (H.set M (.row (qmJ {m with yx:=w64 (m.yx+1)} ov tv) false)):=qiE hr hloM (zzL rfl) rfl
 have h1:=h.put (m' := {m with yx:=w64 (m.yx+1)}) rfl rfl rfl rfl
 obtain⟨v,H4,hB,hpost⟩:=qmT h1 hm hloM
 refine⟨v,H4, ?_,Post.pre ((Chg.refl _ _).set h.mem) hpost⟩
 have hv:=hpost.1
 generalize (qmR {m with yx:=w64 (m.yx+1)}).2=rr at hv
 refine qgw rfl Fn.zaS rfl rfl ?_
 subst hv
 cases rr
 all_goals
  repeat' first|refine .A ?_|refine .B ?_|refine .J ?_|refine .L l79 ?_|refine .P hB ?_|refine .S hst ?_|refine .F ?_|refine .Y ?_|fail
  rfl
def qnd (m:Mc)(ws:List Int)(o:Obj):Mc×Option Int :=
 match qkb (qi5 ws (qjx m.c o.s 0))with
 | none=>qnb {m with word:=qi5 ws (qjx m.c o.s 0)}
 | some e =>
   if e.lv=false\/e.g≠m.g o.s.toNat\/e.o≠o.o then qnb {m with word:=qi5 ws (qjx m.c o.s 0)}
   else if 0<e.p+e.u\/e.lk=true\/e.o<=m.dest then qnb {m with word:=qi5 ws (qjx m.c o.s 0),dest:=qm9 m.dest (w64 (o.o+o.n))}
   else onM {m with word:=qi5 ws (qjx m.c o.s 0)} 6
set_option maxHeartbeats 1600000 in
def qne {cb:CB}{ws bs:List Int}(h:McAt H own M m ov tv)(hC:IsC H cb ws bs)(d:Disj own cb)(hm:m.c.may)(hloM:lo<=M)(hlc:lo<=cb.P){k:Nat}{o:Obj}(hk:m.yx=k)(ho:m.ya[k]? = some o)(hs:0<=o.s/\o.s<64) :
  ∃v H',qfU En lo Id.zaO [qkt M,ifC cb] H=some (v,H')/\PostC H own M cb (qnd m ws o) ws bs v H':=by
 have hr:=h.row
 have l0:=qmM hr
 have hO:=fun lo=>qna (lo:=lo) h hk ho
 obtain⟨s,hsn⟩:∃s:Nat,o.s=s:=⟨o.s.toNat,by omega⟩
 have hs64:s<64:=by omega
 have hE:=fun lo=>qjA lo H hm o.s
 obtain⟨H1,hL,hC1,ho1⟩:=qjf hC hlc (qjx m.c o.s 0)
 have h1:=h.yz (Chg.of ho1) d.notP
 have hr1:=h1.row
 generalize hw:qi5 ws (qjx m.c o.s 0)=w at hL
 have hst:stN lo H1 ⟨M,0+81,none⟩ (qaf (I w))=some (H1.set M (.row (qmJ {m with word:=w} ov tv) false)):=qiE hr1 hloM (zzL rfl) rfl
 have h2:McAt (H1.set M (.row (qmJ {m with word:=w} ov tv) false)) own M {m with word:=w} ov tv:=h1.put rfl rfl rfl rfl
 have c2:Chg own H1 (H1.set M (.row (qmJ {m with word:=w} ov tv) false)):=(Chg.refl _ _).set h.mem
 generalize H1.set M (.row (qmJ {m with word:=w} ov tv) false)=H2 at hst h2 c2
 have hr2:=h2.row
 have k81:qau H2 none ⟨M,0+81,none⟩=some (I w):=qiC hr2 rfl
 have kg:qau H2 none ⟨M,0+15+s*1,none⟩=some (I (m.g s)):=qiC hr2 (qmZ _ _ _ hs64)
 have k80:qau H2 none ⟨M,0+80,none⟩=some (I m.dest):=qiC hr2 rfl
 have hU:=fun lo=>qkn lo H2 w
 unfold qnd
 rw [hw]
 have hcs:o.cs = [N s,I o.o,I o.n,.bool o.fx]:=by unfold Obj.cs;rw [hsn]
 have hsl:qjx m.c o.s 0=qjx m.c s 0:=by rw [hsn]
 rw [hsl]at hL
 rw [hcs]at hO
 rw [hsn]at hE
 have hsnn:o.s.toNat=s:=by omega
 rw [hsnn]
 have bad:∀(rr:Mc×Option Int),rr=qnb {m with word:=w}->∃v H',qfU En lo Id.zaS [qkt M] H2=some (v,H')/\Post H1 own M rr own v H':=fun rr hrr=>by
  obtain⟨v,H4,hB,hpost⟩:=qnc h2 hm hloM
  exact⟨v,H4,hB,by rw [hrr];exact Post.pre c2 hpost⟩
 cases hu:qkb w with
 | none =>
   rw [hu]at hU
   obtain⟨v,H4,hB,hpost⟩:=bad _ rfl
   refine⟨v,H4, ?_,PostC.wae d ho1 (by simp) hC1 hpost⟩
   have hv:=hpost.1
   generalize (qnb {m with word:=w}).2=rr at hv
   refine qgw rfl Fn.zaO rfl rfl ?_
   subst hv
   cases rr
   all_goals
    repeat' first|refine .A ?_|refine .B ?_|refine .C ?_|refine .G ?_|refine .J ?_|refine .t6 ?_|refine .L l0 ?_|refine .L k81 ?_|refine .P (hO _) ?_|refine .P (hE _) ?_|refine .P (hU _) ?_|refine .P hB ?_|refine .W hL ?_|refine .S hst ?_|refine .D ?_|refine .F ?_|refine .Y ?_|fail
    rfl
 | some e =>
   rw [hu]at hU
   have hmay:=(qkh hu).2
   unfold Ent.may at hmay
   obtain⟨eo,eg,ep,eu,lk,lv⟩:=e
   simp only at hmay|-
   have hU:∀lo,qfU En lo Id.zbk [I w] H2=some (.tuple #[.agg #[I eo,I eg,I ep,I eu,.bool lk,.bool lv],I 0],H2):=hU
   have hpu:IntKind.i64.wrap (ep+eu)=ep+eu:=qiX (by omega) (by omega)
   by_cases hb:lv=false\/eg≠m.g s\/eo≠o.o
   ·rw [if_pos hb]
    obtain⟨v,H4,hB,hpost⟩:=bad _ rfl
    refine⟨v,H4, ?_,PostC.wae d ho1 (by simp) hC1 hpost⟩
    have hv:=hpost.1
    generalize (qnb {m with word:=w}).2=rr at hv
    refine qgw rfl Fn.zaO rfl rfl ?_
    subst hv
    cases lv
    ·cases rr
     all_goals
      repeat' first|refine .A ?_|refine .B ?_|refine .C ?_|refine .G ?_|refine .J ?_|refine .f6 ?_|refine .L l0 ?_|refine .L k81 ?_|refine .P (hO _) ?_|refine .P (hE _) ?_|refine .P (hU _) ?_|refine .P hB ?_|refine .W hL ?_|refine .S hst ?_|refine .D ?_|refine .F ?_|refine .Y ?_|fail
      rfl
    ·by_cases hg:eg=m.g s
     ·have hoo:¬eo=o.o:=by
       rcases hb with h3|h3|h3
       ·cases h3
       ·exact absurd hg h3
       ·exact h3
      cases rr
      all_goals
       repeat' first|refine .A ?_|refine .B ?_|refine .C ?_|refine .G ?_|refine .J ?_|refine .t6 ?_|refine .f6 ?_|refine .L l0 ?_|refine .L k81 ?_|refine .L kg ?_|refine .P (hO _) ?_|refine .P (hE _) ?_|refine .P (hU _) ?_|refine .P hB ?_|refine .yI rfl rfl rfl (hs64) ?_|refine .W hL ?_|refine .S hst ?_|refine .F ?_|refine .Y ?_|fail
       rfl
     ·cases rr
      all_goals
       repeat' first|refine .A ?_|refine .B ?_|refine .C ?_|refine .G ?_|refine .J ?_|refine .t6 ?_|refine .f6 ?_|refine .L l0 ?_|refine .L k81 ?_|refine .L kg ?_|refine .P (hO _) ?_|refine .P (hE _) ?_|refine .P (hU _) ?_|refine .P hB ?_|refine .yI rfl rfl rfl (hs64) ?_|refine .W hL ?_|refine .S hst ?_|refine .D ?_|refine .F ?_|refine .Y ?_|fail
       rfl
   ·rw [if_neg hb]
    have hlv:lv=true:=by
     cases lv with
     | true=>rfl
     | false=>exact absurd (.inl rfl) hb
    have hg:eg=m.g s:=Decidable.byContradiction fun h3=>hb (.inr (.inl h3))
    have hoo:eo=o.o:=Decidable.byContradiction fun h3=>hb (.inr (.inr h3))
    subst hlv
    clear hb
    by_cases hf:0<ep+eu\/lk=true\/eo<=m.dest
    ·rw [if_pos hf]
     have hst3:stN lo H2 ⟨M,0+80,none⟩ (qaf (I (qm9 m.dest (w64 (o.o+o.n)))))=some (H2.set M (.row (qmJ {m with word:=w,dest:=qm9 m.dest (w64 (o.o+o.n))} ov tv) false)):=qiE hr2 hloM (zzL rfl) rfl
     have h3:McAt (H2.set M (.row (qmJ {m with word:=w,dest:=qm9 m.dest (w64 (o.o+o.n))} ov tv) false)) own M {m with word:=w,dest:=qm9 m.dest (w64 (o.o+o.n))} ov tv:=h2.put rfl rfl rfl rfl
     obtain⟨v,H4,hB,hpost⟩:=qnc h3 hm hloM
     refine⟨v,H4, ?_,PostC.wae d ho1 (by simp) hC1 (Post.pre (c2.set h.mem) hpost)⟩
     have hv:=hpost.1
     generalize (qnb {m with word:=w,dest:=qm9 m.dest (w64 (o.o+o.n))}).2=rr at hv
     refine qgw rfl Fn.zaO rfl rfl ?_
     subst hv
     by_cases hp:0<ep+eu
     ·cases rr
      all_goals
       repeat' first|refine .A ?_|refine .B ?_|refine .C ?_|refine .D ?_|refine .G ?_|refine .J ?_|refine .t3 ?_|refine .f6 ?_|refine .L l0 ?_|refine .L k81 ?_|refine .L kg ?_|refine .L k80 ?_|refine .P (hO _) ?_|refine .P (hE _) ?_|refine .P (hU _) ?_|refine .P hB ?_|refine .yI rfl rfl rfl (hs64) ?_|refine .W hL ?_|refine .S hst ?_|refine .S hst3 ?_|refine .F ?_|refine .Y ?_|fail
       rfl
     ·cases lk
      ·have hd:eo<=m.dest:=by
        rcases hf with h3|h3|h3
        ·exact absurd h3 hp
        ·cases h3
        ·exact h3
       cases rr
       all_goals
        repeat' first|refine .A ?_|refine .B ?_|refine .C ?_|refine .D ?_|refine .G ?_|refine .J ?_|refine .t2 ?_|refine .f3 ?_|refine .f6 ?_|refine .L l0 ?_|refine .L k81 ?_|refine .L kg ?_|refine .L k80 ?_|refine .P (hO _) ?_|refine .P (hE _) ?_|refine .P (hU _) ?_|refine .P hB ?_|refine .yI rfl rfl rfl (hs64) ?_|refine .W hL ?_|refine .S hst ?_|refine .S hst3 ?_|refine .F ?_|refine .Y ?_|fail
        rfl
      ·cases rr
       all_goals
        repeat' first|refine .A ?_|refine .B ?_|refine .C ?_|refine .D ?_|refine .G ?_|refine .J ?_|refine .f3 ?_|refine .f6 ?_|refine .L l0 ?_|refine .L k81 ?_|refine .L kg ?_|refine .L k80 ?_|refine .P (hO _) ?_|refine .P (hE _) ?_|refine .P (hU _) ?_|refine .P hB ?_|refine .yI rfl rfl rfl (hs64) ?_|refine .W hL ?_|refine .S hst ?_|refine .S hst3 ?_|refine .F ?_|refine .Y ?_|fail
        rfl
    ·rw [if_neg hf]
     have hp:¬0<ep+eu:=fun h3=>hf (.inl h3)
     have hlk:lk=false:=by
      cases lk with
      | false=>rfl
      | true=>exact absurd (.inr (.inl rfl)) hf
     have hd:¬eo<=m.dest:=fun h3=>hf (.inr (.inr h3))
     subst hlk
     have hN:=qmO (lo:=lo) hr2 hloM 6
     refine⟨qmL none,_, ?_,PostC.wae d ho1 (by simp) hC1 ⟨rfl,own,ov,tv,h2.put (m' := {m with word:=w,next:=6}) rfl rfl rfl rfl,c2.set h.mem,fun b hb => .inl hb⟩⟩
     refine qgw rfl Fn.zaO rfl rfl ?_
     repeat' first|refine .A ?_|refine .B ?_|refine .D ?_|refine .F ?_|refine .G ?_|refine .H ?_|refine .J ?_|refine .C ?_|refine .f2 ?_|refine .f3 ?_|refine .f6 ?_|refine .L l0 ?_|refine .L k81 ?_|refine .L kg ?_|refine .L k80 ?_|refine .P (hO _) ?_|refine .P (hE _) ?_|refine .P (hU _) ?_|refine .P hN ?_|refine .yI rfl rfl rfl (hs64) ?_|refine .W hL ?_|refine .S hst ?_|refine .Y ?_|fail
     rfl
end
section
variable {lo:Nat}{H:qab}{own:List Nat}{M:Nat}{m:Mc}{ov tv:Value}
def qnf (m:Mc)(ws:List Int)(o:Obj):(Mc×Option Int)×List Int :=
 if qjh ws (qjx m.c o.s 0) m.word then(onM {m with word:=chA m.word qm7,i:=0} 7,qi6 ws (qjx m.c o.s 0) (chA m.word qm7))else(onM m 5,ws)
def qng {cb:CB}{ws bs:List Int}(h:McAt H own M m ov tv)(hC:IsC H cb ws bs)(d:Disj own cb)(hm:m.c.may)(hloM:lo<=M)(hlc:lo<=cb.P/\lo<=cb.W){k:Nat}{o:Obj}(hk:m.yx=k)(ho:m.ya[k]? = some o) :
  ∃v H',qfU En lo Id.zaN [qkt M,ifC cb] H=some (v,H')/\PostC H own M cb (qnf m ws o).1 (qnf m ws o).2 bs v H':=by
 have hr:=h.row
 have l0:=qmM hr
 have l81:qau H none ⟨M,0+81,none⟩=some (I m.word):=qiC hr rfl
 have hO:=fun lo=>qna (lo:=lo) h hk ho
 have hE:=fun lo=>qjA lo H hm o.s
 have hK:∀lo,qfU En lo Id.zbb [I m.word,.bool true] H=some (.tuple #[I (chA m.word qm7),I (chB m.word qm7)],H):=fun lo=>by rw [qmG,<-qm6];rfl
 obtain⟨H1,hL,hC1,ho1⟩:=qji hC hlc.1 hlc.2 (qjx m.c o.s 0) m.word (chA m.word qm7)
 have h1:=h.yz (Chg.of ho1) d.waD
 have hr1:=h1.row
 unfold qnf
 cases hb:qjh ws (qjx m.c o.s 0) m.word with
 | false =>
   rw [hb]at hL hC1
   rw [if_neg (by decide)]at hC1
   rw [if_neg (by decide)]
   have hN:=qmO (lo:=lo) hr1 hloM 5
   refine⟨qmL none,_, ?_,PostC.wae d ho1 (by simp) hC1 ⟨rfl,own,ov,tv,h1.put (m' := {m with next:=5}) rfl rfl rfl rfl,(Chg.refl _ _).set h.mem,fun b hb => .inl hb⟩⟩
   refine qgw rfl Fn.zaN rfl rfl ?_
   repeat' first|refine .A ?_|refine .B ?_|refine .C ?_|refine .J ?_|refine .L l81 ?_|refine .P (hO _) ?_|refine .P (hE _) ?_|refine .P (hK _) ?_|refine .P hN ?_|refine .W hL ?_|refine .X l0 (qiH l0) (qkw _ _) ?_|refine .X l81 (qku l81 l81) (qkv _) ?_|refine .F ?_|refine .Y ?_|fail
   rfl
 | true =>
   rw [hb]at hL hC1
   rw [if_pos rfl]at hC1
   rw [if_pos rfl]
   have hs1:stN lo H1 ⟨M,0+81,none⟩ (qaf (I (chA m.word qm7)))=some (H1.set M (.row (qmJ {m with word:=chA m.word qm7} ov tv) false)):=qiE hr1 hloM (zzL rfl) rfl
   have h2:McAt (H1.set M (.row (qmJ {m with word:=chA m.word qm7} ov tv) false)) own M {m with word:=chA m.word qm7} ov tv:=h1.put rfl rfl rfl rfl
   have c2:Chg own H1 (H1.set M (.row (qmJ {m with word:=chA m.word qm7} ov tv) false)):=(Chg.refl _ _).set h.mem
   generalize H1.set M (.row (qmJ {m with word:=chA m.word qm7} ov tv) false)=H2 at hs1 h2 c2
   have hs2:stN lo H2 ⟨M,0+82,none⟩ (qaf (I 0))=some (H2.set M (.row (qmJ {m with word:=chA m.word qm7,i:=0} ov tv) false)):=qiE h2.row hloM (zzL rfl) rfl
   have h3:McAt (H2.set M (.row (qmJ {m with word:=chA m.word qm7,i:=0} ov tv) false)) own M {m with word:=chA m.word qm7,i:=0} ov tv:=h2.put rfl rfl rfl rfl
   have c3:=c2.set (k := .row (qmJ {m with word:=chA m.word qm7,i:=0} ov tv) false) h.mem
   generalize H2.set M (.row (qmJ {m with word:=chA m.word qm7,i:=0} ov tv) false)=H3 at hs2 h3 c3
   have hN:=qmO (lo:=lo) h3.row hloM 7
   refine⟨qmL none,_, ?_,PostC.wae d ho1 (by simp) hC1 ⟨rfl,own,ov,tv,h3.put (m' := {m with word:=chA m.word qm7,i:=0,next:=7}) rfl rfl rfl rfl,c3.set h.mem,fun b hb => .inl hb⟩⟩
   refine qgw rfl Fn.zaN rfl rfl ?_
   repeat' first|refine .A ?_|refine .B ?_|refine .D ?_|refine .F ?_|refine .J ?_|refine .L l81 ?_|refine .P (hO _) ?_|refine .P (hE _) ?_|refine .P (hK _) ?_|refine .P hN ?_|refine .W hL ?_|refine .X l0 (qiH l0) (qkw _ _) ?_|refine .X l81 (qku l81 l81) (qkv _) ?_|refine .S hs1 ?_|refine .S hs2 ?_|refine .Y ?_|fail
   rfl
def qnh (m:Mc)(bs:List Int)(o:Obj):(Mc×Option Int)×List Int :=
 (onM {m with i:=w64 (m.i+1)} (if w64 (m.i+1)<o.n then 7 else 9),qi6 bs (w64 (m.dest+m.i)) (qi8 m.b))
def qni {cb:CB}{ws bs:List Int}(h:McAt H own M m ov tv)(hC:IsC H cb ws bs)(d:Disj own cb)(hloM:lo<=M)(hlc:lo<=cb.P/\lo<=cb.Y){k:Nat}{o:Obj}(hk:m.yx=k)(ho:m.ya[k]? = some o) :
  ∃v H',qfU En lo Id.zaM [qkt M,ifC cb] H=some (v,H')/\PostC H own M cb (qnh m bs o).1 ws (qnh m bs o).2 v H':=by
 have hr:=h.row
 have l80:qau H none ⟨M,0+80,none⟩=some (I m.dest):=qiC hr rfl
 have l82:qau H none ⟨M,0+82,none⟩=some (I m.i):=qiC hr rfl
 have l83:qau H none ⟨M,0+83,none⟩=some (I m.b):=qiC hr rfl
 obtain⟨H1,hL,hC1,ho1⟩:=qjk hC hlc.1 hlc.2 (w64 (m.dest+m.i)) m.b
 have h1:=h.yz (Chg.of ho1) d.notPY
 have hr1:=h1.row
 have k82:qau H1 none ⟨M,0+82,none⟩=some (I m.i):=qiC hr1 rfl
 have hs1:stN lo H1 ⟨M,0+82,none⟩ (qaf (I (w64 (m.i+1))))=some (H1.set M (.row (qmJ {m with i:=w64 (m.i+1)} ov tv) false)):=qiE hr1 hloM (zzL rfl) rfl
 have h2:McAt (H1.set M (.row (qmJ {m with i:=w64 (m.i+1)} ov tv) false)) own M {m with i:=w64 (m.i+1)} ov tv:=h1.put rfl rfl rfl rfl
 have c2:Chg own H1 (H1.set M (.row (qmJ {m with i:=w64 (m.i+1)} ov tv) false)):=(Chg.refl _ _).set h.mem
 generalize H1.set M (.row (qmJ {m with i:=w64 (m.i+1)} ov tv) false)=H2 at hs1 h2 c2
 have q82:qau H2 none ⟨M,0+82,none⟩=some (I (w64 (m.i+1))):=qiC h2.row rfl
 have hO:=fun lo=>qna (lo:=lo) h2 hk ho
 have hN:=fun n=>qmO (lo:=lo) h2.row hloM n
 unfold qnh
 by_cases hc:w64 (m.i+1)<o.n
 ·rw [if_pos hc]
  refine⟨qmL none,_, ?_,PostC.wae d ho1 (by simp) hC1 ⟨rfl,own,ov,tv,h2.put (m' := {m with i:=w64 (m.i+1),next:=7}) rfl rfl rfl rfl,c2.set h.mem,fun b hb => .inl hb⟩⟩
  refine qgw rfl Fn.zaM rfl rfl ?_
  repeat' first|refine .A ?_|refine .B ?_|refine .C ?_|refine .J ?_|refine .t1 ?_|refine .L l80 ?_|refine .L l82 ?_|refine .L l83 ?_|refine .L k82 ?_|refine .P (hO _) ?_|refine .P (hN _) ?_|refine .W hL ?_|refine .X q82 (qiH q82) (qkv _) ?_|refine .S hs1 ?_|refine .F ?_|refine .Y ?_|fail
  rfl
 ·rw [if_neg hc]
  refine⟨qmL none,_, ?_,PostC.wae d ho1 (by simp) hC1 ⟨rfl,own,ov,tv,h2.put (m' := {m with i:=w64 (m.i+1),next:=9}) rfl rfl rfl rfl,c2.set h.mem,fun b hb => .inl hb⟩⟩
  refine qgw rfl Fn.zaM rfl rfl ?_
  repeat' first|refine .A ?_|refine .B ?_|refine .D ?_|refine .F ?_|refine .J ?_|refine .f1 ?_|refine .L l80 ?_|refine .L l82 ?_|refine .L l83 ?_|refine .L k82 ?_|refine .P (hO _) ?_|refine .P (hN _) ?_|refine .W hL ?_|refine .X q82 (qiH q82) (qkv _) ?_|refine .S hs1 ?_|refine .Y ?_|fail
  rfl
def qnj (m:Mc)(ws:List Int)(o:Obj):(Mc×Option Int)×List Int :=
 (qnb {m with dest:=w64 (m.dest+o.n),moved:=w64 (m.moved+1)},qi6 ws (qjx m.c o.s 0) (chA m.word (qm8 m.dest)))
def qnk {cb:CB}{ws bs:List Int}(h:McAt H own M m ov tv)(hC:IsC H cb ws bs)(d:Disj own cb)(hm:m.c.may)(hloM:lo<=M)(hlc:lo<=cb.P/\lo<=cb.W){k:Nat}{o:Obj}(hk:m.yx=k)(ho:m.ya[k]? = some o) :
  ∃v H',qfU En lo Id.zaV [qkt M,ifC cb] H=some (v,H')/\PostC H own M cb (qnj m ws o).1 (qnj m ws o).2 bs v H':=by
 have hr:=h.row
 have l0:=qmM hr
 have l80:qau H none ⟨M,0+80,none⟩=some (I m.dest):=qiC hr rfl
 have l81:qau H none ⟨M,0+81,none⟩=some (I m.word):=qiC hr rfl
 have hO:=fun lo=>qna (lo:=lo) h hk ho
 have hE:=fun lo=>qjA lo H hm o.s
 have hK:∀lo,qfU En lo Id.zbd [I m.word,I m.dest] H=some (.tuple #[I (chA m.word (qm8 m.dest)),I (chB m.word (qm8 m.dest))],H):=fun lo=>by rw [qmH,<-qm6];rfl
 obtain⟨H1,hL,hC1,ho1⟩:=qjg hC hlc.1 hlc.2 (qjx m.c o.s 0) (chA m.word (qm8 m.dest))
 have h1:=h.yz (Chg.of ho1) d.waD
 have hr1:=h1.row
 have hO1:=fun lo=>qna (lo:=lo) h1 hk ho
 have k80:qau H1 none ⟨M,0+80,none⟩=some (I m.dest):=qiC hr1 rfl
 have hs1:stN lo H1 ⟨M,0+80,none⟩ (qaf (I (w64 (m.dest+o.n))))=some (H1.set M (.row (qmJ {m with dest:=w64 (m.dest+o.n)} ov tv) false)):=qiE hr1 hloM (zzL rfl) rfl
 have h2:McAt (H1.set M (.row (qmJ {m with dest:=w64 (m.dest+o.n)} ov tv) false)) own M {m with dest:=w64 (m.dest+o.n)} ov tv:=h1.put rfl rfl rfl rfl
 have c2:Chg own H1 (H1.set M (.row (qmJ {m with dest:=w64 (m.dest+o.n)} ov tv) false)):=(Chg.refl _ _).set h.mem
 generalize H1.set M (.row (qmJ {m with dest:=w64 (m.dest+o.n)} ov tv) false)=H2 at hs1 h2 c2
 have q84:qau H2 none ⟨M,0+84,none⟩=some (I m.moved):=qiC h2.row rfl
 have hs2:stN lo H2 ⟨M,0+84,none⟩ (qaf (I (w64 (m.moved+1))))=some (H2.set M (.row (qmJ {m with dest:=w64 (m.dest+o.n),moved:=w64 (m.moved+1)} ov tv) false)):=qiE h2.row hloM (zzL rfl) rfl
 have h3:McAt (H2.set M (.row (qmJ {m with dest:=w64 (m.dest+o.n),moved:=w64 (m.moved+1)} ov tv) false)) own M {m with dest:=w64 (m.dest+o.n),moved:=w64 (m.moved+1)} ov tv:=h2.put rfl rfl rfl rfl
 have c3:=c2.set (k := .row (qmJ {m with dest:=w64 (m.dest+o.n),moved:=w64 (m.moved+1)} ov tv) false) h.mem
 generalize H2.set M (.row (qmJ {m with dest:=w64 (m.dest+o.n),moved:=w64 (m.moved+1)} ov tv) false)=H3 at hs2 h3 c3
 obtain⟨v,H4,hB,hpost⟩:=qnc h3 hm hloM
 refine⟨v,H4, ?_,PostC.wae d ho1 (by simp) hC1 (Post.pre c3 hpost)⟩
 have hv:=hpost.1
 generalize (qnb {m with dest:=w64 (m.dest+o.n),moved:=w64 (m.moved+1)}).2=rr at hv
 refine qgw rfl Fn.zaV rfl rfl ?_
 subst hv
 cases rr
 all_goals
  repeat' first|refine .A ?_|refine .B ?_|refine .J ?_|refine .L l80 ?_|refine .L l81 ?_|refine .L q84 ?_|(show EG _ _ (⟨_,.call _ _,_,_⟩::_) _ _ _ _ _ _;first|refine .P (hO _) ?_|refine .P (hO1 _) ?_|refine .P (hE _) ?_|refine .P (hK _) ?_|refine .P hB ?_)|refine .W hL ?_|refine .X l0 (qiH l0) (qkw _ _) ?_|refine .X k80 (qiH k80) (qkv _) ?_|refine .S hs1 ?_|refine .S hs2 ?_|refine .F ?_|refine .Y ?_|fail
  rfl
def olderB (w e:Int):Bool:=decide (0<w)&&decide (w64 (w-1)<e)
def qnl (lo:Nat)(h:qab)(w:Int):qfU En lo Id.zbM [I w] h=some (if 0<w then .tuple #[I (w64 (w-1)),.bool true]else .tuple #[I 0,.bool false],h):=by
 refine qgx rfl Fn.zbM rfl rfl ?_
 by_cases hw:0<w
 ·rw [if_pos hw]
  repeat' first|refine .A ?_|refine .B ?_|refine .D ?_|refine .F ?_|refine .J ?_|refine .f2 ?_|refine .Y ?_|fail
  rfl
 ·rw [if_neg hw]
  repeat' first|refine .A ?_|refine .B ?_|refine .C ?_|refine .J ?_|refine .t2 ?_|refine .F ?_|fail
  rfl
def qnm (lo:Nat)(h:qab)(w e:Int):qfU En lo Id.zbN [I w,I e] h=some (.bool (olderB w e),h):=by
 have hI:=fun lo=>qnl lo h w
 refine qgx rfl Fn.zbN rfl rfl ?_
 unfold olderB
 by_cases hw:0<w
 ·rw [if_pos hw]at hI
  rw [zzT hw]
  repeat' first|refine .A ?_|refine .B ?_|refine .J ?_|refine .k1 (fun hc => ?_) fun hc => ?_|refine .P (hI _) ?_|refine .F ?_|refine .Y ?_|fail
  all_goals (refine qiW ?_;simp [*])
 ·rw [if_neg hw]at hI
  rw [zzF hw]
  repeat' first|refine .A ?_|refine .B ?_|refine .J ?_|refine .P (hI _) ?_|refine .D ?_|refine .F ?_|refine .Y ?_|fail
  rfl
def qnn (c:Cfg)(t:Tn)(ws:List Int):(Tn×Bool×Bool)×List Int :=
 if t.nx=0 then((t,false,true),ws)
 else if t.nx=1 then(({t with ep:=qi5 ws 3,nx:=2},false,false),ws)
 else if t.nx=2 then(({t with nx:=if qjh ws 3 t.ep then 3 else 1},false,false),if qjh ws 3 t.ep then qi6 ws 3 (w64 (t.ep+1))else ws)
 else if t.nx=3 then
  (if olderB (qi5 ws (qjF c t.ak)) (w64 (t.ep+1))=true\/w64 (t.ak+1)=c.T then({t with ak:=w64 (t.ak+1),nx:=0},!olderB (qi5 ws (qjF c t.ak)) (w64 (t.ep+1)),true)
   else({t with ak:=w64 (t.ak+1)},false,false),ws)
 else((t,false,false),ws)
set_option maxHeartbeats 3200000 in
def qno {cb:CB}{ws bs:List Int}{b:Nat}{c:Cfg}{t:Tn}(h:H[b]? = some (.row (qmI c t) false))(hC:IsC H cb ws bs)(hd:b≠cb.P/\b≠cb.W/\b≠cb.Y)(hm:c.may)(hlo:lo<=b)(hlc:lo<=cb.P/\lo<=cb.W) :
  ∃H',qfU En lo Id.zbv [qkt b,ifC cb] H=some (.tuple #[.bool (qnn c t ws).1.2.1,.bool (qnn c t ws).1.2.2],H')/\H'[b]? = some (.row (qmI c (qnn c t ws).1.1) false)/\IsC H' cb (qnn c t ws).2 bs/\Only [b,cb.P,cb.W] H H':=by
 have hbl:=qiB h
 have l3:qau H none ⟨b,0+3,none⟩=some (I t.nx):=qiC h rfl
 have l0:qau H (some 2) ⟨b,0+0,none⟩=some (lay c.T c.S):=qiD h (zzL rfl) rfl
 unfold qnn
 by_cases h0:t.nx=0
 ·rw [if_pos h0]
  refine⟨H, ?_,h,hC,.refl _ _⟩
  refine qgw rfl Fn.zbv rfl rfl ?_
  repeat' first|refine .A ?_|refine .B ?_|refine .C ?_|refine .D ?_|refine .F ?_|refine .G ?_|refine .J ?_|refine .t5 ?_|refine .L l3 ?_|refine .Y ?_|fail
  rfl
 ·rw [if_neg h0]
  have hEp:=fun lo (hh:qab)=>qjE lo hh hm
  by_cases h1:t.nx=1
  ·rw [if_pos h1]
   obtain⟨H1,hL,hC1,ho1⟩:=qjf hC hlc.1 3
   have hr1:H1[b]? = some (.row (qmI c t) false):=by rw [ho1.same b (by simpa using hd.1)];exact h
   have s1:stN lo H1 ⟨b,0+4,none⟩ (qaf (I (qi5 ws 3)))=some (H1.set b (.row (qmI c {t with ep:=qi5 ws 3}) false)):=qiE hr1 hlo (zzL rfl) rfl
   have s2:stN lo (H1.set b (.row (qmI c {t with ep:=qi5 ws 3}) false)) ⟨b,0+3,none⟩ (qaf (I 2))=some (H1.set b (.row (qmI c {t with ep:=qi5 ws 3,nx:=2}) false)) :=
    (qiE (qiy (qiB hr1)) hlo (zzL rfl) rfl).trans (by rw [List.set_set];rfl)
   refine⟨_, ?_,qiy (qiB hr1), ?_,(ho1.mono (by simp)).set (by simp)⟩
   ·refine qgw rfl Fn.zbv rfl rfl ?_
    repeat' first|refine .A ?_|refine .B ?_|refine .C ?_|refine .D ?_|refine .F ?_|refine .G ?_|refine .H ?_|refine .J ?_|refine .t5 ?_|refine .f5 ?_|refine .L l3 ?_|refine .L l0 ?_|refine .P (hEp _ _) ?_|refine .W hL ?_|refine .S s1 ?_|refine .S s2 ?_|refine .Y ?_|fail
    rfl
   ·exact hC1.yz ((Chg.refl [b] _).set (by simp)) (by simp [hd.1.symm,hd.2.1.symm,hd.2.2.symm])
  ·rw [if_neg h1]
   by_cases h2:t.nx=2
   ·rw [if_pos h2]
    have s0:stN lo H ⟨b,0+3,none⟩ (qaf (I 1))=some (H.set b (.row (qmI c {t with nx:=1}) false)):=qiE h hlo (zzL rfl) rfl
    have hr0:(H.set b (.row (qmI c {t with nx:=1}) false))[b]? = some (.row (qmI c {t with nx:=1}) false):=qiy hbl
    have hC0:IsC (H.set b (.row (qmI c {t with nx:=1}) false)) cb ws bs:=hC.yz ((Chg.refl [b] _).set (by simp)) (by simp [hd.1.symm,hd.2.1.symm,hd.2.2.symm])
    have o0:Only [b,cb.P,cb.W] H (H.set b (.row (qmI c {t with nx:=1}) false)):=(Only.refl _ _).set (by simp)
    generalize H.set b (.row (qmI c {t with nx:=1}) false)=H0 at s0 hr0 hC0 o0
    have q4:qau H0 none ⟨b,0+4,none⟩=some (I t.ep):=qiC hr0 rfl
    have q0:qau H0 (some 2) ⟨b,0+0,none⟩=some (lay c.T c.S):=qiD hr0 (zzL rfl) rfl
    obtain⟨H1,hL,hC1,ho1⟩:=qji hC0 hlc.1 hlc.2 3 t.ep (w64 (t.ep+1))
    have hr1:H1[b]? = some (.row (qmI c {t with nx:=1}) false):=by rw [ho1.same b (by simp [hd.1,hd.2.1])];exact hr0
    have o1:=o0.trans (ho1.mono (by simp))
    cases hb:qjh ws 3 t.ep with
    | false =>
      rw [hb]at hL hC1
      rw [if_neg (by decide)]at hC1
      refine⟨_, ?_,hr1,hC1,o1⟩
      refine qgw rfl Fn.zbv rfl rfl ?_
      repeat' first|refine .A ?_|refine .B ?_|refine .C ?_|refine .D ?_|refine .F ?_|refine .G ?_|refine .H ?_|refine .J ?_|refine .t5 ?_|refine .f5 ?_|refine .L l3 ?_|refine .L q0 ?_|refine .P (hEp _ _) ?_|refine .W hL ?_|refine .S s0 ?_|refine .X q4 (qiH q4) (qkv _) ?_|refine .Y ?_|fail
      rfl
    | true =>
      rw [hb]at hL hC1
      rw [if_pos rfl]at hC1
      have s1:stN lo H1 ⟨b,0+3,none⟩ (qaf (I 3))=some (H1.set b (.row (qmI c {t with nx:=3}) false)):=qiE hr1 hlo (zzL rfl) rfl
      refine⟨_, ?_,qiy (qiB hr1),hC1.yz ((Chg.refl [b] _).set (by simp)) (by simp [hd.1.symm,hd.2.1.symm,hd.2.2.symm]),o1.set (by simp)⟩
      refine qgw rfl Fn.zbv rfl rfl ?_
      repeat' first|refine .A ?_|refine .B ?_|refine .C ?_|refine .D ?_|refine .F ?_|refine .G ?_|refine .H ?_|refine .J ?_|refine .t5 ?_|refine .f5 ?_|refine .L l3 ?_|refine .L q0 ?_|refine .P (hEp _ _) ?_|refine .W hL ?_|refine .S s0 ?_|refine .S s1 ?_|refine .X q4 (qiH q4) (qkv _) ?_|refine .Y ?_|fail
      rfl
   ·rw [if_neg h2]
    by_cases h3:t.nx=3
    ·rw [if_pos h3]
     have l5:qau H none ⟨b,0+5,none⟩=some (I t.ak):=qiC h rfl
     have l4:qau H none ⟨b,0+4,none⟩=some (I t.ep):=qiC h rfl
     have hNo:=fun lo=>qjG lo H hm t.ak
     obtain⟨H1,hL,hC1,ho1⟩:=qjf hC hlc.1 (qjF c t.ak)
     have hr1:H1[b]? = some (.row (qmI c t) false):=by rw [ho1.same b (by simpa using hd.1)];exact h
     have o1:Only [b,cb.P,cb.W] H H1:=ho1.mono (by simp)
     have k4:qau H1 none ⟨b,0+4,none⟩=some (I t.ep):=qiC hr1 rfl
     have k5:qau H1 none ⟨b,0+5,none⟩=some (I t.ak):=qiC hr1 rfl
     have hOl:=fun lo=>qnm lo H1 (qi5 ws (qjF c t.ak)) (w64 (t.ep+1))
     generalize olderB (qi5 ws (qjF c t.ak)) (w64 (t.ep+1))=ol at hOl
     have s1:stN lo H1 ⟨b,0+5,none⟩ (qaf (I (w64 (t.ak+1))))=some (H1.set b (.row (qmI c {t with ak:=w64 (t.ak+1)}) false)):=qiE hr1 hlo (zzL rfl) rfl
     have hr2:(H1.set b (.row (qmI c {t with ak:=w64 (t.ak+1)}) false))[b]? = some (.row (qmI c {t with ak:=w64 (t.ak+1)}) false):=qiy (qiB hr1)
     have hC2:IsC (H1.set b (.row (qmI c {t with ak:=w64 (t.ak+1)}) false)) cb ws bs:=hC1.yz ((Chg.refl [b] _).set (by simp)) (by simp [hd.1.symm,hd.2.1.symm,hd.2.2.symm])
     have o2:=o1.set (k := .row (qmI c {t with ak:=w64 (t.ak+1)}) false) (show b∈[b,cb.P,cb.W] by simp)
     generalize H1.set b (.row (qmI c {t with ak:=w64 (t.ak+1)}) false)=H2 at s1 hr2 hC2 o2
     have q5:qau H2 none ⟨b,0+5,none⟩=some (I (w64 (t.ak+1))):=qiC hr2 rfl
     have q2:qau H2 none ⟨b,0+2,none⟩=some (I c.T):=qiC hr2 rfl
     have s2:stN lo H2 ⟨b,0+3,none⟩ (qaf (I 0))=some (H2.set b (.row (qmI c {t with ak:=w64 (t.ak+1),nx:=0}) false)):=qiE hr2 hlo (zzL rfl) rfl
     have hC3:IsC (H2.set b (.row (qmI c {t with ak:=w64 (t.ak+1),nx:=0}) false)) cb ws bs:=hC2.yz ((Chg.refl [b] _).set (by simp)) (by simp [hd.1.symm,hd.2.1.symm,hd.2.2.symm])
     by_cases hT:w64 (t.ak+1)=c.T
     ·rw [if_pos (.inr hT)]
      refine⟨_, ?_,qiy (qiB hr2),hC3,o2.set (by simp)⟩
      refine qgw rfl Fn.zbv rfl rfl ?_
      cases ol
      all_goals
       repeat' first|refine .A ?_|refine .B ?_|refine .C ?_|refine .D ?_|refine .F ?_|refine .G ?_|refine .J ?_|refine .t5 ?_|refine .f5 ?_|(show EG _ _ (⟨_,.load _ _,_,_⟩::_) _ _ _ _ _ _;first|refine .L l3 ?_|refine .L l0 ?_|refine .L l5 ?_|refine .L k5 ?_|refine .L q5 ?_|refine .L q2 ?_)|refine .P (hNo _) ?_|refine .P (hOl _) ?_|refine .W hL ?_|refine .S s1 ?_|refine .S s2 ?_|refine .X k4 (qku l4 l4) (qkv _) ?_|refine .Y ?_|fail
       rfl
     ·cases ol with
      | true =>
        rw [if_pos (.inl rfl)]
        refine⟨_, ?_,qiy (qiB hr2),hC3,o2.set (by simp)⟩
        refine qgw rfl Fn.zbv rfl rfl ?_
        repeat' first|refine .A ?_|refine .B ?_|refine .C ?_|refine .D ?_|refine .F ?_|refine .G ?_|refine .J ?_|refine .t5 ?_|refine .f5 ?_|refine .L l3 ?_|refine .L l0 ?_|refine .L l5 ?_|refine .L k5 ?_|refine .P (hNo _) ?_|refine .P (hOl _) ?_|refine .W hL ?_|refine .S s1 ?_|refine .S s2 ?_|refine .X k4 (qku l4 l4) (qkv _) ?_|refine .Y ?_|fail
        rfl
      | false =>
        rw [if_neg (fun hh=>hh.elim (fun e=>by cases e) hT)]
        refine⟨_, ?_,hr2,hC2,o2⟩
        refine qgw rfl Fn.zbv rfl rfl ?_
        repeat' first|refine .A ?_|refine .B ?_|refine .C ?_|refine .D ?_|refine .F ?_|refine .G ?_|refine .H ?_|refine .J ?_|refine .t5 ?_|refine .f5 ?_|(show EG _ _ (⟨_,.load _ _,_,_⟩::_) _ _ _ _ _ _;first|refine .L l3 ?_|refine .L l0 ?_|refine .L l5 ?_|refine .L k5 ?_|refine .L q5 ?_|refine .L q2 ?_)|refine .P (hNo _) ?_|refine .P (hOl _) ?_|refine .W hL ?_|refine .S s1 ?_|refine .X k4 (qku l4 l4) (qkv _) ?_|refine .Y ?_|fail
        rfl
    ·rw [if_neg h3]
     refine⟨H, ?_,h,hC,.refl _ _⟩
     refine qgw rfl Fn.zbv rfl rfl ?_
     repeat' first|refine .A ?_|refine .B ?_|refine .D ?_|refine .F ?_|refine .G ?_|refine .H ?_|refine .J ?_|refine .f5 ?_|refine .L l3 ?_|refine .Y ?_|fail
     rfl
end
section
variable {lo:Nat}{H:qab}{own:List Nat}{M:Nat}{m:Mc}{ov tv:Value}
def qnp (m:Mc)(t:Tn)(ws:List Int):(Mc×Option Int)×List Int :=
 (if(qnn m.c t ws).1.2.2=false then onM {m with turn:=some (qnn m.c t ws).1.1} 10
  else if(qnn m.c t ws).1.2.1=false then qmQ {m with turn:=some (qnn m.c t ws).1.1}
  else onM {m with turn:=some (qnn m.c t ws).1.1} 11,(qnn m.c t ws).2)
def qnq {cb:CB}{ws bs:List Int}{t:Tn}(h:McAt H own M m ov tv)(ht:m.turn=some t)(hC:IsC H cb ws bs)(d:Disj own cb)(hm:m.c.may)(hlo:∀b∈own,lo<=b)(hlc:lo<=cb.P/\lo<=cb.W) :
  ∃v H',qfU En lo Id.zaW [qkt M,ifC cb] H=some (v,H')/\PostC H own M cb (qnp m t ws).1 (qnp m t ws).2 bs v H':=by
 have hloM:=hlo M h.mem
 obtain⟨b,hb1,hb2,htv,hb3⟩:∃b,b∈own/\b≠M/\tv=qkt b/\H[b]? = some (.row (qmI m.c t) false):=by
  rcases h.turn with⟨g,_⟩|⟨t',b,g1,g2,g3,g4,g5⟩
  ·rw [ht]at g;cases g
  ·rw [ht]at g1;injection g1 with g1;subst g1;exact⟨b,g2,g3,g4,g5⟩
 obtain⟨H1,hL,hr1,hC1,ho1⟩:=qno hb3 hC (d b hb1) hm (hlo b hb1) hlc
 have l85:qau H none ⟨M,0+85,none⟩=some tv:=qiC h.row rfl
 have hMn:M∉[b,cb.P,cb.W]:=by
  have:=d M h.mem
  simp only [List.mem_cons,List.not_mem_nil,or_false]
  rintro (g|g|g)
  ·exact hb2 g.symm
  ·exact this.1 g
  ·exact this.2.1 g
 have h1:McAt H1 own M {m with turn:=some (qnn m.c t ws).1.1} ov tv:=by
  refine⟨by rw [ho1.same M hMn];exact h.row, ?_,.inr ⟨_,b,rfl,hb1,hb2,htv,hr1⟩,h.mem,fun x hx=>by rw [ho1.len];exact h.lt x hx⟩
  rcases h.ya with g|⟨g0,x,g1,g2,g3,g4⟩
  ·exact .inl g
  ·have hxb:x≠b:=fun e=>by
    subst e
    rw [g4]at hb3
    injection hb3 with hb3
    injection hb3 with hb3
    have:=congrArg List.length hb3
    rw [qgz (qkx m.ya),qkR]at this
    simp [qmI]at this
    omega
   refine .inr ⟨g0,x,g1,g2,g3, ?_⟩
   rw [ho1.same x (by
    have:=d x g1
    simp only [List.mem_cons,List.not_mem_nil,or_false]
    rintro (g|g|g)
    ·exact hxb g
    ·exact this.1 g
    ·exact this.2.1 g)]
   exact g4
 have cS:Chg (qm1 own cb) H H1:=(Chg.of ho1).mono fun x hx=>by
  unfold qm1
  simp only [List.mem_cons,List.not_mem_nil,or_false]at hx
  simp only [List.mem_append,List.mem_cons,List.not_mem_nil,or_false]
  rcases hx with g|g|g
  ·exact .inl (g▸hb1)
  ·exact .inr (.inl g)
  ·exact .inr (.inr (.inl g))
 have fin:∀{r:Mc×Option Int} {v:Value} {H':qab},Post H1 own M r own v H'->PostC H own M cb r (qnn m.c t ws).2 bs v H':=fun {r v H'} p=>by
  refine⟨Post.pre cS (p.mono fun x hx=>by unfold qm1;simp [hx]), ?_⟩
  obtain⟨p1,own',ov',tv',p2,p3,p4⟩:=p
  exact hC1.yz p3 d.cells
 subst htv
 unfold qnp
 generalize hst:qnn m.c t ws=st at hL h1 fin
 obtain⟨⟨t',is,dn⟩,ws'⟩:=st
 simp only at hL h1 fin|-
 cases dn with
 | false =>
   rw [if_pos rfl]
   have hN:=qmO (lo:=lo) h1.row hloM 10
   refine⟨qmL none,_, ?_,fin ⟨rfl,own,ov,_,h1.put (m' := {m with turn:=some t',next:=10}) rfl rfl rfl rfl,(Chg.refl _ _).set h.mem,fun b hb => .inl hb⟩⟩
   refine qgw rfl Fn.zaW rfl rfl ?_
   repeat' first|refine .A ?_|refine .B ?_|refine .C ?_|refine .G ?_|refine .J ?_|refine .L l85 ?_|refine .P hL ?_|refine .P hN ?_|refine .F ?_|refine .Y ?_|fail
   rfl
 | true =>
   rw [if_neg (by decide)]
   cases is with
   | false =>
     rw [if_pos rfl]
     have hN:=qmP (lo:=lo) h1.row hloM
     refine⟨qmL (some m.moved),_, ?_,fin ⟨rfl,own,ov,_,h1.put (m' := {m with turn:=some t',next:=0}) rfl rfl rfl rfl,(Chg.refl _ _).set h.mem,fun b hb => .inl hb⟩⟩
     refine qgw rfl Fn.zaW rfl rfl ?_
     repeat' first|refine .A ?_|refine .B ?_|refine .C ?_|refine .D ?_|refine .G ?_|refine .J ?_|refine .L l85 ?_|refine .P hL ?_|refine .P hN ?_|refine .F ?_|refine .Y ?_|fail
     rfl
   | true =>
     rw [if_neg (by decide)]
     have hN:=qmO (lo:=lo) h1.row hloM 11
     refine⟨qmL none,_, ?_,fin ⟨rfl,own,ov,_,h1.put (m' := {m with turn:=some t',next:=11}) rfl rfl rfl rfl,(Chg.refl _ _).set h.mem,fun b hb => .inl hb⟩⟩
     refine qgw rfl Fn.zaW rfl rfl ?_
     repeat' first|refine .A ?_|refine .B ?_|refine .D ?_|refine .F ?_|refine .G ?_|refine .H ?_|refine .J ?_|refine .L l85 ?_|refine .P hL ?_|refine .P hN ?_|refine .Y ?_|fail
     rfl
structure Mc.wf (m:Mc):Prop where
 may:m.c.may
 next:0<=m.next/\m.next<=11
 scan:m.next<=4->m.turn=none/\0<=m.slot/\m.slot<m.c.S/\m.ya.length<=m.slot
 ya:∀o∈m.ya,0<=o.s/\o.s<m.c.S
 at_:0<=m.yx
 look:5<=m.next->m.next<=9->m.yx<m.ya.length
 turn:m.next=10->m.turn≠none
def qnr (m:Mc):Obj:=m.ya.getD m.yx.toNat ⟨0,0,0,false⟩
def qns (m:Mc)(ws bs:List Int):(Mc×Option Int)×List Int×List Int :=
 if m.next=1 then(onM {m with top:=qi5 ws 0} 2,ws,bs)
 else if m.next=2 then(if qi5 ws 2≠0 then qmQ m else onM m 3,ws,bs)
 else if m.next=3 then(qm4 m ws,ws,bs)
 else if m.next=4 then(qm2 m ws,ws,bs)
 else if m.next=5 then(qnd m ws (qnr m),ws,bs)
 else if m.next=6 then((qnf m ws (qnr m)).1,(qnf m ws (qnr m)).2,bs)
 else if m.next=7 then(onM {m with b:=qi5 bs (w64 ((qnr m).o+m.i))} 8,ws,bs)
 else if m.next=8 then((qnh m bs (qnr m)).1,ws,(qnh m bs (qnr m)).2)
 else if m.next=9 then((qnj m ws (qnr m)).1,(qnj m ws (qnr m)).2,bs)
 else if m.next=10 then((qnp m (m.turn.getD ⟨0,0,0⟩) ws).1,(qnp m (m.turn.getD ⟨0,0,0⟩) ws).2,bs)
 else(qmQ {m with low:=qjh ws 0 m.top},if qjh ws 0 m.top then qi6 ws 0 m.dest else ws,bs)
set_option maxHeartbeats 3200000 in
def qnt {cb:CB}{ws bs:List Int}(h:McAt H own M m ov tv)(hw:m.wf)(hC:IsC H cb ws bs)(d:Disj own cb)(hlo:∀b∈own,lo<=b)(hlc:lo<=cb.P/\lo<=cb.W/\lo<=cb.Y)(h0:m.next≠0) :
  ∃v H',qfU En lo Id.zaJ [qkt M,ifC cb] H=some (v,H')/\PostC H own M cb (qns m ws bs).1 (qns m ws bs).2.1 (qns m ws bs).2.2 v H':=by
 have hm:=hw.may
 have hm':=hm
 unfold Cfg.may at hm'
 have hloM:=hlo M h.mem
 have hr:=h.row
 have l5:qau H none ⟨M,0+5,none⟩=some (I m.next):=qiC hr rfl
 have l0:=qmM hr
 have sub:∀{g:Nat} {r:Mc×Option Int} {w' b':List Int} (v:Value),v=qmL r.2->∃o,v=qmL o:=fun v hv=>⟨_,hv⟩
 have hat:5<=m.next->m.next<=9->∃k:Nat,m.yx=k/\m.ya[k]? = some (qnr m)/\0<=(qnr m).s/\(qnr m).s<64:=fun h5 h9=>by
  have h1:=hw.at_
  have h2:=hw.look h5 h9
  have hk:m.yx.toNat<m.ya.length:=by omega
  have hg:m.ya[m.yx.toNat]? = some (qnr m):=by
   unfold qnr
   rw [List.getD_eq_getElem?_getD,zzG hk];rfl
  have h3:=hw.ya _ (List.mem_of_getElem? hg)
  exact⟨m.yx.toNat,by omega,hg,h3.1,by omega⟩
 unfold qns
 rcases(show m.next=1\/m.next=2\/m.next=3\/m.next=4\/m.next=5\/m.next=6\/m.next=7\/m.next=8\/m.next=9\/m.next=10\/m.next=11 by have:=hw.next;omega)with hn|hn|hn|hn|hn|hn|hn|hn|hn|hn|hn
 ·rw [if_pos hn]
  have hF:=fun lo=>qjC lo H hm
  obtain⟨H1,hL,hC1,ho1⟩:=qjf hC hlc.1 0
  have h1:=h.yz (Chg.of ho1) d.notP
  have s1:stN lo H1 ⟨M,0+6,none⟩ (qaf (I (qi5 ws 0)))=some (H1.set M (.row (qmJ {m with top:=qi5 ws 0} ov tv) false)):=qiE h1.row hloM (zzL rfl) rfl
  have h2:McAt (H1.set M (.row (qmJ {m with top:=qi5 ws 0} ov tv) false)) own M {m with top:=qi5 ws 0} ov tv:=h1.put rfl rfl rfl rfl
  have c2:Chg own H1 (H1.set M (.row (qmJ {m with top:=qi5 ws 0} ov tv) false)):=(Chg.refl _ _).set h.mem
  generalize H1.set M (.row (qmJ {m with top:=qi5 ws 0} ov tv) false)=H2 at s1 h2 c2
  have hN:=qmO (lo:=lo) h2.row hloM 2
  refine⟨qmL none,_, ?_,PostC.wae d ho1 (by simp) hC1 ⟨rfl,own,ov,tv,h2.put (m' := {m with top:=qi5 ws 0,next:=2}) rfl rfl rfl rfl,c2.set h.mem,fun b hb => .inl hb⟩⟩
  rw [hn]at l5
  refine qgw rfl Fn.zaJ rfl rfl ?_
  repeat' first|refine .A ?_|refine .B ?_|refine .C ?_|refine .D ?_|refine .F ?_|refine .G ?_|refine .J ?_|refine .t5 ?_|refine .f5 ?_|refine .L l5 ?_|refine .L l0 ?_|refine .P (hF _) ?_|refine .P hN ?_|refine .W hL ?_|refine .S s1 ?_|refine .Y ?_|fail
  rfl
 ·rw [if_neg (by omega),if_pos hn]
  have hF:=fun lo=>qjD lo H hm
  obtain⟨H1,hL,hC1,ho1⟩:=qjf hC hlc.1 2
  have h1:=h.yz (Chg.of ho1) d.notP
  rw [hn]at l5
  by_cases hp:qi5 ws 2≠0
  ·rw [if_pos hp]
   have hN:=qmP (lo:=lo) h1.row hloM
   refine⟨qmL (some m.moved),_, ?_,PostC.wae d ho1 (by simp) hC1 ⟨rfl,own,ov,tv,h1.put (m' := {m with next:=0}) rfl rfl rfl rfl,(Chg.refl _ _).set h.mem,fun b hb => .inl hb⟩⟩
   refine qgw rfl Fn.zaJ rfl rfl ?_
   repeat' first|refine .A ?_|refine .B ?_|refine .C ?_|refine .D ?_|refine .F ?_|refine .G ?_|refine .J ?_|refine .t5 ?_|refine .f5 ?_|refine .t6 ?_|refine .L l5 ?_|refine .L l0 ?_|refine .P (hF _) ?_|refine .P hN ?_|refine .W hL ?_|refine .Y ?_|fail
   rfl
  ·rw [if_neg hp]
   have hN:=qmO (lo:=lo) h1.row hloM 3
   refine⟨qmL none,_, ?_,PostC.wae d ho1 (by simp) hC1 ⟨rfl,own,ov,tv,h1.put (m' := {m with next:=3}) rfl rfl rfl rfl,(Chg.refl _ _).set h.mem,fun b hb => .inl hb⟩⟩
   refine qgw rfl Fn.zaJ rfl rfl ?_
   repeat' first|refine .A ?_|refine .B ?_|refine .C ?_|refine .D ?_|refine .F ?_|refine .G ?_|refine .J ?_|refine .t5 ?_|refine .f5 ?_|refine .f6 ?_|refine .L l5 ?_|refine .L l0 ?_|refine .P (hF _) ?_|refine .P hN ?_|refine .W hL ?_|refine .Y ?_|fail
   rfl
 ·rw [if_neg (by omega),if_neg (by omega),if_pos hn]
  have hs:=hw.scan (by omega)
  obtain⟨v,H',hB,hp⟩:=qm5 h hC d hm hlo hlc.1 (by omega)
  refine⟨v,H', ?_,hp⟩
  have hv:=hp.1.1
  generalize (qm4 m ws).2=rr at hv
  rw [hn]at l5
  refine qgw rfl Fn.zaJ rfl rfl ?_
  subst hv
  cases rr
  all_goals
   repeat' first|refine .A ?_|refine .B ?_|refine .C ?_|refine .D ?_|refine .F ?_|refine .G ?_|refine .J ?_|refine .t5 ?_|refine .f5 ?_|refine .L l5 ?_|refine .P hB ?_|refine .Y ?_|fail
   rfl
 ·rw [if_neg (by omega),if_neg (by omega),if_neg (by omega),if_pos hn]
  have hs:=hw.scan (by omega)
  obtain⟨v,H',hB,hp⟩:=qm3 h hC d hm hlo hlc.1 (by omega) (by omega) hs.1
  refine⟨v,H', ?_,hp⟩
  have hv:=hp.1.1
  generalize (qm2 m ws).2=rr at hv
  rw [hn]at l5
  refine qgw rfl Fn.zaJ rfl rfl ?_
  subst hv
  cases rr
  all_goals
   repeat' first|refine .A ?_|refine .B ?_|refine .C ?_|refine .D ?_|refine .F ?_|refine .G ?_|refine .J ?_|refine .t5 ?_|refine .f5 ?_|refine .L l5 ?_|refine .P hB ?_|refine .Y ?_|fail
   rfl
 ·rw [if_neg (by omega),if_neg (by omega),if_neg (by omega),if_neg (by omega),if_pos hn]
  obtain⟨k,hk,ho,hos⟩:=hat (by omega) (by omega)
  obtain⟨v,H',hB,hp⟩:=qne h hC d hm hloM hlc.1 hk ho hos
  refine⟨v,H', ?_,hp⟩
  have hv:=hp.1.1
  generalize (qnd m ws (qnr m)).2=rr at hv
  rw [hn]at l5
  refine qgw rfl Fn.zaJ rfl rfl ?_
  subst hv
  cases rr
  all_goals
   repeat' first|refine .A ?_|refine .B ?_|refine .C ?_|refine .D ?_|refine .F ?_|refine .G ?_|refine .J ?_|refine .t5 ?_|refine .f5 ?_|refine .L l5 ?_|refine .P hB ?_|refine .Y ?_|fail
   rfl
 ·rw [if_neg (by omega),if_neg (by omega),if_neg (by omega),if_neg (by omega),if_neg (by omega),if_pos hn]
  obtain⟨k,hk,ho,hos⟩:=hat (by omega) (by omega)
  obtain⟨v,H',hB,hp⟩:=qng h hC d hm hloM ⟨hlc.1,hlc.2.1⟩ hk ho
  refine⟨v,H', ?_,hp⟩
  have hv:=hp.1.1
  generalize (qnf m ws (qnr m)).1.2=rr at hv
  rw [hn]at l5
  refine qgw rfl Fn.zaJ rfl rfl ?_
  subst hv
  cases rr
  all_goals
   repeat' first|refine .A ?_|refine .B ?_|refine .C ?_|refine .D ?_|refine .F ?_|refine .G ?_|refine .J ?_|refine .t5 ?_|refine .f5 ?_|refine .L l5 ?_|refine .P hB ?_|refine .Y ?_|fail
   rfl
 ·rw [if_neg (by omega),if_neg (by omega),if_neg (by omega),if_neg (by omega),if_neg (by omega),if_neg (by omega),if_pos hn]
  obtain⟨k,hk,ho,hos⟩:=hat (by omega) (by omega)
  have hO:=fun lo=>qna (lo:=lo) h hk ho
  have l82:qau H none ⟨M,0+82,none⟩=some (I m.i):=qiC hr rfl
  obtain⟨H1,hL,hC1,ho1⟩:=qjj hC hlc.1 (w64 ((qnr m).o+m.i))
  have h1:=h.yz (Chg.of ho1) d.notP
  have s1:stN lo H1 ⟨M,0+83,none⟩ (qaf (I (qi5 bs (w64 ((qnr m).o+m.i)))))=some (H1.set M (.row (qmJ {m with b:=qi5 bs (w64 ((qnr m).o+m.i))} ov tv) false)):=qiE h1.row hloM (zzL rfl) rfl
  have h2:McAt (H1.set M (.row (qmJ {m with b:=qi5 bs (w64 ((qnr m).o+m.i))} ov tv) false)) own M {m with b:=qi5 bs (w64 ((qnr m).o+m.i))} ov tv:=h1.put rfl rfl rfl rfl
  have c2:Chg own H1 (H1.set M (.row (qmJ {m with b:=qi5 bs (w64 ((qnr m).o+m.i))} ov tv) false)):=(Chg.refl _ _).set h.mem
  generalize H1.set M (.row (qmJ {m with b:=qi5 bs (w64 ((qnr m).o+m.i))} ov tv) false)=H2 at s1 h2 c2
  have hN:=qmO (lo:=lo) h2.row hloM 8
  refine⟨qmL none,_, ?_,PostC.wae d ho1 (by simp) hC1 ⟨rfl,own,ov,tv,h2.put (m' := {m with b:=qi5 bs (w64 ((qnr m).o+m.i)),next:=8}) rfl rfl rfl rfl,c2.set h.mem,fun b hb => .inl hb⟩⟩
  rw [hn]at l5
  refine qgw rfl Fn.zaJ rfl rfl ?_
  repeat' first|refine .A ?_|refine .B ?_|refine .C ?_|refine .D ?_|refine .F ?_|refine .G ?_|refine .J ?_|refine .t5 ?_|refine .f5 ?_|refine .L l5 ?_|refine .P (hO _) ?_|refine .P hN ?_|refine .W hL ?_|refine .S s1 ?_|refine .X l82 (qiH l82) (qkv _) ?_|refine .Y ?_|fail
  rfl
 ·rw [if_neg (by omega),if_neg (by omega),if_neg (by omega),if_neg (by omega),if_neg (by omega),if_neg (by omega),if_neg (by omega),if_pos hn]
  obtain⟨k,hk,ho,hos⟩:=hat (by omega) (by omega)
  obtain⟨v,H',hB,hp⟩:=qni h hC d hloM ⟨hlc.1,hlc.2.2⟩ hk ho
  refine⟨v,H', ?_,hp⟩
  have hv:=hp.1.1
  generalize (qnh m bs (qnr m)).1.2=rr at hv
  rw [hn]at l5
  refine qgw rfl Fn.zaJ rfl rfl ?_
  subst hv
  cases rr
  all_goals
   repeat' first|refine .A ?_|refine .B ?_|refine .C ?_|refine .D ?_|refine .F ?_|refine .G ?_|refine .J ?_|refine .t5 ?_|refine .f5 ?_|refine .L l5 ?_|refine .P hB ?_|refine .Y ?_|fail
   rfl
 ·rw [if_neg (by omega),if_neg (by omega),if_neg (by omega),if_neg (by omega),if_neg (by omega),if_neg (by omega),if_neg (by omega),if_neg (by omega),if_pos hn]
  obtain⟨k,hk,ho,hos⟩:=hat (by omega) (by omega)
  obtain⟨v,H',hB,hp⟩:=qnk h hC d hm hloM ⟨hlc.1,hlc.2.1⟩ hk ho
  refine⟨v,H', ?_,hp⟩
  have hv:=hp.1.1
  generalize (qnj m ws (qnr m)).1.2=rr at hv
  rw [hn]at l5
  refine qgw rfl Fn.zaJ rfl rfl ?_
  subst hv
  cases rr
  all_goals
   repeat' first|refine .A ?_|refine .B ?_|refine .C ?_|refine .D ?_|refine .F ?_|refine .G ?_|refine .J ?_|refine .t5 ?_|refine .f5 ?_|refine .L l5 ?_|refine .P hB ?_|refine .Y ?_|fail
   rfl
 ·rw [if_neg (by omega),if_neg (by omega),if_neg (by omega),if_neg (by omega),if_neg (by omega),if_neg (by omega),if_neg (by omega),if_neg (by omega),if_neg (by omega),if_pos hn]
  obtain⟨t,ht⟩:∃t,m.turn=some t:=by
   cases hmt:m.turn with
   | none=>exact absurd hmt (hw.turn hn)
   | some t=>exact⟨t,rfl⟩
  obtain⟨v,H',hB,hp⟩:=qnq h ht hC d hm hlo ⟨hlc.1,hlc.2.1⟩
  rw [ht]
  refine⟨v,H', ?_,hp⟩
  have hv:=hp.1.1
  generalize (qnp m t ws).1.2=rr at hv
  rw [hn]at l5
  refine qgw rfl Fn.zaJ rfl rfl ?_
  subst hv
  cases rr
  all_goals
   repeat' first|refine .A ?_|refine .B ?_|refine .C ?_|refine .D ?_|refine .F ?_|refine .G ?_|refine .J ?_|refine .t5 ?_|refine .f5 ?_|refine .L l5 ?_|refine .P hB ?_|refine .Y ?_|fail
   rfl
 ·rw [if_neg (by omega),if_neg (by omega),if_neg (by omega),if_neg (by omega),if_neg (by omega),if_neg (by omega),if_neg (by omega),if_neg (by omega),if_neg (by omega),if_neg (by omega)]
  have hF:=fun lo=>qjC lo H hm
  have l6:qau H none ⟨M,0+6,none⟩=some (I m.top):=qiC hr rfl
  have l80:qau H none ⟨M,0+80,none⟩=some (I m.dest):=qiC hr rfl
  obtain⟨H1,hL,hC1,ho1⟩:=qji hC hlc.1 hlc.2.1 0 m.top m.dest
  have h1:=h.yz (Chg.of ho1) d.waD
  generalize qjh ws 0 m.top=cs at hL hC1
  have s1:stN lo H1 ⟨M,0+86,none⟩ (qaf (.bool cs))=some (H1.set M (.row (qmJ {m with low:=cs} ov tv) false)):=qiE h1.row hloM (zzL rfl) rfl
  have h2:McAt (H1.set M (.row (qmJ {m with low:=cs} ov tv) false)) own M {m with low:=cs} ov tv:=h1.put rfl rfl rfl rfl
  have c2:Chg own H1 (H1.set M (.row (qmJ {m with low:=cs} ov tv) false)):=(Chg.refl _ _).set h.mem
  generalize H1.set M (.row (qmJ {m with low:=cs} ov tv) false)=H2 at s1 h2 c2
  have hN:=qmP (lo:=lo) h2.row hloM
  refine⟨qmL (some m.moved),_, ?_,PostC.wae d ho1 (by simp) hC1 ⟨rfl,own,ov,tv,h2.put (m' := {m with low:=cs,next:=0}) rfl rfl rfl rfl,c2.set h.mem,fun b hb => .inl hb⟩⟩
  rw [hn]at l5
  refine qgw rfl Fn.zaJ rfl rfl ?_
  repeat' first|refine .A ?_|refine .B ?_|refine .D ?_|refine .F ?_|refine .G ?_|refine .H ?_|refine .J ?_|refine .f5 ?_|refine .L l5 ?_|refine .L l0 ?_|refine .P (hF _) ?_|refine .P hN ?_|refine .W hL ?_|refine .S s1 ?_|refine .X l6 (qiH l6) (qkv _) ?_|refine .X l80 (qiH l80) (qkv _) ?_|refine .Y ?_|fail
  rfl
end
def oS:List Obj->Nat
 | []=>0
 | o::r=>(3+2*o.n.toNat)+oS r
def pot (c:Cfg)(ws:List Int)(s:Int):Nat :=
 match qkb (qi5 ws (qjx c s 0))with
 | some e=>if e.lv=true/\1<=qi5 ws (qjx c s 1)/\qi5 ws (qjx c s 1)<=256 then 3+2*(qkq (qi5 ws (qjx c s 1))).toNat else 0
 | none=>0
def pS (c:Cfg)(ws:List Int):Nat->Nat
 | 0=>0
 | k+1=>pot c ws (c.S-((k+1:Nat):Int))+pS c ws k
def phi (m:Mc)(ws:List Int):Nat :=
 if m.next=1 then 2+2*m.c.S.toNat+pS m.c ws m.c.S.toNat+m.c.T.toNat+3
 else if m.next=2 then 1+2*m.c.S.toNat+pS m.c ws m.c.S.toNat+m.c.T.toNat+3
 else if m.next=3 then 2*(m.c.S-m.slot).toNat+pS m.c ws (m.c.S-m.slot).toNat+oS m.ya+m.c.T.toNat+3
 else if m.next=4 then 2*(m.c.S-m.slot).toNat-1+pS m.c ws (m.c.S-m.slot).toNat+oS m.ya+m.c.T.toNat+3
 else if m.next=5 then oS (m.ya.drop m.yx.toNat)+m.c.T.toNat+3
 else if m.next=6 then oS (m.ya.drop m.yx.toNat)-1+m.c.T.toNat+3
 else if m.next=7 then 2*((qnr m).n-m.i).toNat+1+oS (m.ya.drop (m.yx.toNat+1))+m.c.T.toNat+3
 else if m.next=8 then 2*((qnr m).n-m.i).toNat+oS (m.ya.drop (m.yx.toNat+1))+m.c.T.toNat+3
 else if m.next=9 then 1+oS (m.ya.drop (m.yx.toNat+1))+m.c.T.toNat+3
 else if m.next=10 then
  match m.turn with
  | some t=>if t.nx=1 then m.c.T.toNat+3 else if t.nx=2 then m.c.T.toNat+2 else(m.c.T-t.ak).toNat+1
  | none=>0
 else if m.next=11 then 1 else 0
structure Alo (ws:List Int)(m:Mc):Prop where
 wf:m.wf
 wl:ws.length=(qi2 m.c).toNat
 size:∀o∈m.ya,8<=o.n/\o.n<=256
 first:m.next<=2->m.slot=0/\m.ya = []
 scan:m.next<=4->m.yx=0
 meas:m.next=4->qkb (qi5 ws (qjx m.c m.slot 0))=some m.e/\m.e.lv=true
 lock:m.next=6->qi5 ws (qjx m.c (qnr m).s 0)=m.word
 lay:7<=m.next->m.next<=8->0<=m.i/\m.i<(qnr m).n
 few:m.ya.length<=64
 turn:m.next=10->∃t,m.turn=some t/\((t.nx=1/\t.ak=0)\/(t.nx=2/\t.ak=0/\qi5 ws 3=t.ep)\/(t.nx=3/\0<=t.ak/\t.ak<m.c.T))
def Good (ws':List Int)(r:Mc×Option Int)(b:Nat):Prop:=(r.2=none->Alo ws' r.1/\r.1.next≠0/\phi r.1 ws'<=b)/\(∀n,r.2=some n->r.1.next=0)
def qnu {c:Cfg}(hm:c.may){s k:Int}(h0:0<=s)(h1:s<c.S)(hk:0<=k/\k<=2):qjx c s k=4+c.T+3*s+k/\5<=qjx c s k/\qjx c s k<qi2 c:=by
 unfold Cfg.may at hm
 unfold qjx qi2
 rw [if_pos ⟨h0,h1⟩]
 omega
def Good.mono {ws:List Int}{r:Mc×Option Int}{a b:Nat}(g:Good ws r a)(h:a<=b):Good ws r b:=⟨fun e=>⟨(g.1 e).1,(g.1 e).2.1,Nat.le_trans (g.1 e).2.2 h⟩,g.2⟩
def qnv {l:List Obj}{P:Obj->Prop}(h:∀o∈l,P o):∀o∈qkN l,P o:=fun o ho=>h o ((qk2 l).mem_iff.1 ho)
def qnw {m:Mc}(h0:0<=m.yx)(h1:m.yx<m.ya.length):m.ya[m.yx.toNat]? = some (qnr m):=by
 unfold qnr
 rw [List.getD_eq_getElem?_getD,zzG (by omega)];rfl
section
variable {m:Mc}{ws:List Int}
end
def mc0 (c:Cfg):Mc:=⟨c,1,0,0,Ent.zero,[],fun _=>0,0,0,0,0,0,0,none,false⟩
abbrev qnx:Value := .slice none 0 0
abbrev qny:Value := .pointer none
def qnz (lo:Nat)(H:qab){c:Cfg}(hm:c.may):qfU En lo Id.zaX [.agg c.cs.toArray] H=some (qkt H.length,H ++ [.row (qmJ (mc0 c) qnx qny) false]):=by
 have hO:=fun lo=>qjt lo H hm
 refine qgw rfl Fn.zaX rfl rfl ?_
 repeat' first|refine .A ?_|refine .B ?_|refine .D ?_|refine .F ?_|refine .J ?_|refine .f6 ?_|refine .P (hO _) ?_|refine .Y ?_|fail
 rfl
def qnA (H:qab)(c:Cfg):McAt (H ++ [.row (qmJ (mc0 c) qnx qny) false]) [H.length] H.length (mc0 c) qnx qny:=by
 refine⟨zzC,.inl ⟨rfl,rfl⟩,.inl ⟨rfl,rfl⟩,by simp,fun b hb => ?_⟩
 simp at hb
 simp [hb]
def qnB {c:Cfg}(hm:c.may):(mc0 c).wf:=by
 have hm':=hm
 unfold Cfg.may at hm'
 exact⟨hm,by show(0:Int)<=1/\(1:Int)<=11;omega,fun _=>⟨rfl,by show(0:Int)<=0;omega,by show(0:Int)<c.S;omega,by show(((([]:List Obj).length:Nat)):Int)<=0;simp⟩,fun o ho=>(by cases ho),by show(0:Int)<=0;omega,fun h=>(by have h:(5:Int)<=1:=h;omega),fun h=>(by have h:(1:Int)=10:=h;omega)⟩
def Mc.wg (m:Mc):Prop:=m.wf/\m.ya.length<=64/\m.next≠0
def qnC (c:Cfg)(r:Mc×Option Int):Prop:=r.2=none->r.1.wg/\r.1.c=c
section
variable {m:Mc}{ws bs:List Int}{c:Cfg}
def qnD:qnC c (qmQ m):=fun h=>by cases h
def qnE {n:Int}(hc:m.c=c)(w:({m with next:=n} : Mc).wf)(hf:m.ya.length<=64)(hn:n≠0):qnC c (onM m n):=fun _=>⟨⟨w,hf,hn⟩,hc⟩
def qnF (hc:m.c=c)(hm:m.c.may)(ho:∀o∈m.ya,0<=o.s/\o.s<m.c.S)(few:m.ya.length<=64)(ha:0<=m.yx):qnC c (qmR m):=by
 unfold qmR
 by_cases h1:m.yx<(m.ya.length:Int)
 ·rw [if_pos h1]
  exact qnE hc ⟨hm,by simp,fun hh=>by simp at hh,ho,ha,fun _ _=>h1,fun hh=>by simp at hh⟩ few (by decide)
 ·rw [if_neg h1]
  by_cases h2:m.top<=m.dest
  ·rw [if_pos h2];exact qnD
  ·rw [if_neg h2]
   exact qnE (m := {m with turn:=some ⟨1,0,0⟩}) hc ⟨hm,by simp,fun hh=>by simp at hh,ho,ha,fun _ hh=>by simp at hh,fun _=>by simp⟩ few (by decide)
def qnG (hc:m.c=c)(hm:m.c.may)(ho:∀o∈m.ya,0<=o.s/\o.s<m.c.S)(hl:(m.ya.length:Int)<=m.slot+1)(h0:0<=m.slot)(h1:m.slot<m.c.S)(ht:m.turn=none)(ha:0<=m.yx):qnC c (qmU m):=by
 have hm':=hm
 unfold Cfg.may at hm'
 have hw:w64 (m.slot+1)=m.slot+1:=qiX (by omega) (by omega)
 unfold qmU
 rw [hw]
 by_cases hs:m.slot+1<m.c.S
 ·rw [if_pos hs]
  exact qnE (m := {m with slot:=m.slot+1}) hc ⟨hm,by simp,fun _=>⟨ht,by simp;omega,hs,hl⟩,ho,ha,fun hh=>by simp at hh,fun hh=>by simp at hh⟩ (by show m.ya.length<=64;omega) (by decide)
 ·rw [if_neg hs]
  exact qnF (m := {m with slot:=m.slot+1,ya:=qkN m.ya}) hc hm (qnv ho) (by show(qkN m.ya).length<=64;rw [qkP];omega) ha
def qnH (hc:m.c=c)(hm:m.c.may)(ho:∀o∈m.ya,0<=o.s/\o.s<m.c.S)(few:m.ya.length<=64)(h0:0<=m.yx)(h1:m.yx<m.ya.length):qnC c (qnb m):=by
 have hw:w64 (m.yx+1)=m.yx+1:=qiX (by omega) (by omega)
 unfold qnb
 rw [hw]
 exact qnF (m := {m with yx:=m.yx+1}) hc hm ho few (by show 0<=m.yx+1;omega)
def qnI (h:m.wg)(hc:m.c=c):qnC c (qns m ws bs).1:=by
 obtain⟨w,few,h0⟩:=h
 have hm':=w.may
 unfold Cfg.may at hm'
 have hn:=w.next
 unfold qns
 by_cases h1:m.next=1
 ·rw [if_pos h1]
  exact qnE (m := {m with top:=qi5 ws 0}) hc ⟨w.may,by simp,fun _=>w.scan (by omega),w.ya,w.at_,fun hh=>by simp at hh,fun hh=>by simp at hh⟩ few (by decide)
 by_cases h2:m.next=2
 ·rw [if_neg h1,if_pos h2]
  by_cases hp:qi5 ws 2≠0
  ·rw [if_pos hp];exact qnD
  ·rw [if_neg hp]
   exact qnE hc ⟨w.may,by simp,fun _=>w.scan (by omega),w.ya,w.at_,fun hh=>by simp at hh,fun hh=>by simp at hh⟩ few (by decide)
 by_cases h3:m.next=3
 ·rw [if_neg h1,if_neg h2,if_pos h3]
  have hs:=w.scan (by omega)
  show qnC c (qm4 m ws)
  unfold qm4
  cases qkb (qi5 ws (qjx m.c m.slot 0))with
  | none=>exact qnG (m := {m with e:=Ent.zero}) hc w.may w.ya (by show(m.ya.length:Int)<=m.slot+1;omega) hs.2.1 hs.2.2.1 hs.1 w.at_
  | some e =>
    simp only
    by_cases he:e.lv=true/\e.o<m.top
    ·rw [if_pos he]
     exact qnE (m := {m with e:=e}) hc ⟨w.may,by simp,fun _=>hs,w.ya,w.at_,fun hh=>by simp at hh,fun hh=>by simp at hh⟩ few (by decide)
    ·rw [if_neg he]
     exact qnG (m := {m with e:=e}) hc w.may w.ya (by show(m.ya.length:Int)<=m.slot+1;omega) hs.2.1 hs.2.2.1 hs.1 w.at_
 by_cases h4:m.next=4
 ·rw [if_neg h1,if_neg h2,if_neg h3,if_pos h4]
  have hs:=w.scan (by omega)
  show qnC c (qm2 m ws)
  unfold qm2
  by_cases he:1<=qi5 ws (qjx m.c m.slot 1)/\qi5 ws (qjx m.c m.slot 1)<=256
  ·rw [if_pos he]
   refine qnG (m := {m with ya:=m.ya ++ [⟨m.slot,m.e.o,qkq (qi5 ws (qjx m.c m.slot 1)),false⟩],g:=fun j=>if j=m.slot.toNat then m.e.g else m.g j}) hc w.may (fun o ho => ?_) (by simp;omega) hs.2.1 hs.2.2.1 hs.1 w.at_
   rcases List.mem_append.1 ho with g|g
   ·exact w.ya o g
   ·simp at g;subst g;exact⟨hs.2.1,hs.2.2.1⟩
  ·rw [if_neg he]
   exact qnG hc w.may w.ya (by omega) hs.2.1 hs.2.2.1 hs.1 w.at_
 by_cases h5:m.next=5
 ·rw [if_neg h1,if_neg h2,if_neg h3,if_neg h4,if_pos h5]
  have hl:=w.look (by omega) (by omega)
  show qnC c (qnd m ws (qnr m))
  unfold qnd
  cases qkb (qi5 ws (qjx m.c (qnr m).s 0))with
  | none=>exact qnH (m := {m with word:=_}) hc w.may w.ya few w.at_ hl
  | some e =>
    simp only
    by_cases g1:e.lv=false\/e.g≠m.g (qnr m).s.toNat\/e.o≠(qnr m).o
    ·rw [if_pos g1];exact qnH (m := {m with word:=_}) hc w.may w.ya few w.at_ hl
    ·rw [if_neg g1]
     by_cases g2:0<e.p+e.u\/e.lk=true\/e.o<=m.dest
     ·rw [if_pos g2];exact qnH (m := {m with word:=_,dest:=_}) hc w.may w.ya few w.at_ hl
     ·rw [if_neg g2]
      exact qnE (m := {m with word:=_}) hc ⟨w.may,by simp,fun hh=>by simp at hh,w.ya,w.at_,fun _ _=>hl,fun hh=>by simp at hh⟩ few (by decide)
 by_cases h6:m.next=6
 ·rw [if_neg h1,if_neg h2,if_neg h3,if_neg h4,if_neg h5,if_pos h6]
  have hl:=w.look (by omega) (by omega)
  show qnC c (qnf m ws (qnr m)).1
  unfold qnf
  by_cases hb:qjh ws (qjx m.c (qnr m).s 0) m.word=true
  ·rw [if_pos hb]
   exact qnE (m := {m with word:=_,i:=0}) hc ⟨w.may,by simp,fun hh=>by simp at hh,w.ya,w.at_,fun _ _=>hl,fun hh=>by simp at hh⟩ few (by decide)
  ·rw [if_neg hb]
   exact qnE hc ⟨w.may,by simp,fun hh=>by simp at hh,w.ya,w.at_,fun _ _=>hl,fun hh=>by simp at hh⟩ few (by decide)
 by_cases h7:m.next=7
 ·rw [if_neg h1,if_neg h2,if_neg h3,if_neg h4,if_neg h5,if_neg h6,if_pos h7]
  have hl:=w.look (by omega) (by omega)
  exact qnE (m := {m with b:=_}) hc ⟨w.may,by simp,fun hh=>by simp at hh,w.ya,w.at_,fun _ _=>hl,fun hh=>by simp at hh⟩ few (by decide)
 by_cases h8:m.next=8
 ·rw [if_neg h1,if_neg h2,if_neg h3,if_neg h4,if_neg h5,if_neg h6,if_neg h7,if_pos h8]
  have hl:=w.look (by omega) (by omega)
  show qnC c (qnh m bs (qnr m)).1
  unfold qnh
  by_cases hi:w64 (m.i+1)<(qnr m).n
  ·rw [if_pos hi]
   exact qnE (m := {m with i:=_}) hc ⟨w.may,by simp,fun hh=>by simp at hh,w.ya,w.at_,fun _ _=>hl,fun hh=>by simp at hh⟩ few (by decide)
  ·rw [if_neg hi]
   exact qnE (m := {m with i:=_}) hc ⟨w.may,by simp,fun hh=>by simp at hh,w.ya,w.at_,fun _ _=>hl,fun hh=>by simp at hh⟩ few (by decide)
 by_cases h9:m.next=9
 ·rw [if_neg h1,if_neg h2,if_neg h3,if_neg h4,if_neg h5,if_neg h6,if_neg h7,if_neg h8,if_pos h9]
  exact qnH (m := {m with dest:=_,moved:=_}) hc w.may w.ya few w.at_ (w.look (by omega) (by omega))
 by_cases ha:m.next=10
 ·rw [if_neg h1,if_neg h2,if_neg h3,if_neg h4,if_neg h5,if_neg h6,if_neg h7,if_neg h8,if_neg h9,if_pos ha]
  show qnC c (qnp m (m.turn.getD ⟨0,0,0⟩) ws).1
  unfold qnp
  by_cases g1:(qnn m.c (m.turn.getD ⟨0,0,0⟩) ws).1.2.2=false
  ·rw [if_pos g1]
   exact qnE (m := {m with turn:=some _}) hc ⟨w.may,by simp,fun hh=>by simp at hh,w.ya,w.at_,fun _ hh=>by simp at hh,fun _=>by simp⟩ few (by decide)
  ·rw [if_neg g1]
   by_cases g2:(qnn m.c (m.turn.getD ⟨0,0,0⟩) ws).1.2.1=false
   ·rw [if_pos g2];exact qnD
   ·rw [if_neg g2]
    exact qnE (m := {m with turn:=some _}) hc ⟨w.may,by simp,fun hh=>by simp at hh,w.ya,w.at_,fun _ hh=>by simp at hh,fun hh=>by simp at hh⟩ few (by decide)
 ·rw [if_neg h1,if_neg h2,if_neg h3,if_neg h4,if_neg h5,if_neg h6,if_neg h7,if_neg h8,if_neg h9,if_neg ha]
  exact qnD
def qnJ {c:Cfg}(hm:c.may):(mc0 c).wg:=⟨qnB hm,by show([]:List Obj).length<=64;simp,by show(1:Int)≠0;decide⟩
end
def McAt.keep {H H':qab}{own:List Nat}{M:Nat}{m:Mc}{ov tv:Value}(h:McAt H own M m ov tv)(hl:H.length<=H'.length)(hk:∀x∈own,H'[x]? = H[x]?):McAt H' own M m ov tv:=by
 refine⟨(hk M h.mem).trans h.row, ?_, ?_,h.mem,fun b hb=>Nat.lt_of_lt_of_le (h.lt b hb) hl⟩
 ·rcases h.ya with h1|⟨h0,b,h1,h2,h3,h4⟩
  ·exact .inl h1
  ·exact .inr ⟨h0,b,h1,h2,h3,(hk b h1).trans h4⟩
 ·rcases h.turn with h1|⟨t,b,h1,h2,h3,h4,h5⟩
  ·exact .inl h1
  ·exact .inr ⟨t,b,h1,h2,h3,h4,(hk b h2).trans h5⟩
def qnK {lo:Nat}{H:qab}{own:List Nat}{M:Nat}{m:Mc}{ov tv:Value}(h:McAt H own M m ov tv):qfU En lo Id.zaH [qkt M] H=some (.bool m.low,H):=by
 have l86:qau H none ⟨M,0+86,none⟩=some (.bool m.low):=qiC h.row rfl
 refine qgw rfl Fn.zaH rfl rfl ?_
 repeat' first|refine .A ?_|refine .B ?_|refine .J ?_|refine .L l86 ?_|refine .F ?_|refine .Y ?_|fail
 rfl
end Go.Proofs.YtlgnnpkdhbhdgaaGreat
