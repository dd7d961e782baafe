/- What becomes of an entry's word by a thread's step: plain. -/
import Derived.Test.YtlgnnpkdhbhdgaaGreatThreadQ3
import Derived.Test.YtlgnnpkdhbhdgaaGreatThreadP5
import Derived.Test.YtlgnnpkdhbhdgaaGreatWorldI
set_option linter.all false
namespace Go.Proofs.YtlgnnpkdhbhdgaaGreat
open Go Go.Ir
def qtq {ws:List Int}{i j v:Int}(h:i≠j):qi5 (qi6 ws i v) j=qi5 ws j:=by
 unfold qi6
 split
 ·rename_i hi
  unfold qi5
  rw [zzQ]
  by_cases hj:0<=j/\j<ws.length
  ·rw [if_pos hj,if_pos hj,List.getD_eq_getElem?_getD,List.getD_eq_getElem?_getD,zzN (by omega)]
  ·rw [if_neg hj,if_neg hj]
 ·rfl
def qtr {ws:List Int}{i v:Int}(h0:0<=i)(h1:i<ws.length):qi5 (qi6 ws i v) i=v:=by
 unfold qi6
 rw [if_pos ⟨h0,h1⟩]
 unfold qi5
 rw [zzQ,if_pos ⟨h0,h1⟩,List.getD_eq_getElem?_getD,List.getElem?_set_self (by omega)]
 rfl
def qts {ws:List Int}{i v:Int}(h:qjh ws i v=true):0<=i/\i<ws.length/\qi5 ws i=v:=by
 unfold qjh at h
 simp only [Bool.and_eq_true,decide_eq_true_eq]at h
 refine⟨h.1.1,h.1.2, ?_⟩
 unfold qi5
 rw [if_pos h.1]
 exact h.2
def qtt {c:Cfg}{s t j k:Int}(hs:0<=s)(h1:s<c.S)(hT:0<=c.T)(hj:0<=j/\j<=2)(hk:0<=k/\k<=2)(h:j≠k):qjx c t j≠qjx c s k:=by
 unfold qjx
 rw [if_pos (show 0<=s/\s<c.S from⟨hs,h1⟩)]
 split<;>omega
def qtu {c:Cfg}{s t k:Int}(hs:0<=s)(h1:s<c.S)(hT:0<=c.T)(hk:0<=k)(h:qjx c t k=qjx c s k):t=s:=by
 unfold qjx at h
 rw [if_pos (show 0<=s/\s<c.S from⟨hs,h1⟩)]at h
 split at h<;>omega
def qtv {c:Cfg}{s k:Int}(hs:0<=s)(h1:s<c.S)(hk:0<=k)(hT:0<=c.T):4+c.T<=qjx c s k:=by
 unfold qjx
 rw [if_pos (show 0<=s/\s<c.S from⟨hs,h1⟩)]
 omega
def okW (w:Int):Prop:=∃e,qkb w=some e
def qtw (w:Int):Prop:=∃e,qkb w=some e/\e.p=0
def Tr (w w':Int):Prop:=w'=w\/qtw w'\/∃e e',qkb w=some e/\qkb w'=some e'/\e'.o=e.o/\e'.g=e.g
def Tr.ok {w w':Int}(h:okW w)(t:Tr w w'):okW w':=by
 rcases t with rfl|⟨e,h1,_⟩|⟨e,e',_,h2,_⟩
 ·exact h
 ·exact⟨e,h1⟩
 ·exact⟨e',h2⟩
def TrAll (c:Cfg)(ws ws':List Int):Prop:=∀s,0<=s->s<c.S->Tr (qi5 ws (qjx c s 0)) (qi5 ws' (qjx c s 0))
section
variable {c:Cfg}{ws bs:List Int}
def TrAll.refl:TrAll c ws ws:=fun s _ _ => .inl rfl
end
section
variable {c:Cfg}{ws bs:List Int}
end
def en (c:Cfg)(ws:List Int)(x:Nat):Option Ent:=qkb (qi5 ws (qjx c x 0))
def lkI (c:Cfg)(ws:List Int)(x:Nat):Int:=qi5 ws (qjx c x 2)
def Chain (c:Cfg)(ws:List Int):Nat->List Nat->Prop
 | t,[]=>t=0
 | t,x::r=>t=x+1/\(x:Int)<c.S/\∃t':Nat,lkI c ws x=t'/\Chain c ws t' r
def Chain.congr {c:Cfg}{ws ws':List Int} : ∀{L:List Nat} {t:Nat},Chain c ws t L->(∀x∈L,lkI c ws' x=lkI c ws x)->Chain c ws' t L
 | [],t,h,_=>h
 | x::r,t,h,hl=>by
   obtain⟨h1,h2,t',h3,h4⟩:=h
   exact⟨h1,h2,t',(hl x (List.mem_cons_self ..)).trans h3,h4.congr fun y hy=>hl y (List.mem_cons_of_mem _ hy)⟩
def Chain.lt {c:Cfg}{ws:List Int} : ∀{L:List Nat} {t:Nat},Chain c ws t L->∀x∈L,(x:Int)<c.S
 | [],t,_,x,hx=>by cases hx
 | y::r,t,h,x,hx=>by
   obtain⟨h1,h2,t',h3,h4⟩:=h
   rcases List.mem_cons.1 hx with rfl|hx
   ·exact h2
   ·exact h4.lt x hx
structure SI (c:Cfg)(ws:List Int)(L:List Nat)(own:Nat->Option Nat)(n:Nat):Prop where
 len:ws.length=(qi2 c).toNat
 head:∃t g,qlW (qi5 ws 1)=some (t,g)/\g<=n/\Chain c ws t L
 nodup:L.Nodup
 valid:∀x:Nat,(x:Int)<c.S->∃e,en c ws x=some e
 yP:∀x∈L,∃e,en c ws x=some e/\e.lv=false
 ow:∀i x,own i=some x->(x:Int)<c.S/\x∉L/\∃e,en c ws x=some e/\e.lv=false
 inj:∀i j x,own i=some x->own j=some x->i=j
def qtx (own:Nat->Option Nat)(i:Nat)(o:Option Nat):Nat->Option Nat:=fun k=>if k=i then o else own k
def qty (own:Nat->Option Nat)(i:Nat):qtx own i (own i)=own:=by
 funext k
 unfold qtx
 split
 ·rename_i h;rw [h]
 ·rfl
structure Gu (c:Cfg)(o:Option Nat)(ws ws':List Int)(f:Bool:=true):Prop where
 head:qi5 ws' 1=qi5 ws 1\/∃t g t',qlW (qi5 ws 1)=some (t,g)/\qlW (qi5 ws' 1)=some (t',qlY g)
 link:∀x:Nat,(x:Int)<c.S->o≠some x->lkI c ws' x=lkI c ws x
 ent:∀x:Nat,(x:Int)<c.S->o≠some x->qi5 ws' (qjx c x 0)=qi5 ws (qjx c x 0)\/∃e,en c ws x=some e/\e.lv=true/\(f=true->e.lk=false)
def Mono (c:Cfg)(ws ws':List Int):Prop:=∀(x:Nat) e e',(x:Int)<c.S->en c ws x=some e->en c ws' x=some e'->e.g<=e'.g/\(e.lv=true->e'.lv=false->e.g<e'.g\/e.g=1000)
def Av (c:Cfg)(ws ws':List Int)(L L':List Nat)(own own':Nat->Option Nat):Prop:=∀x:Nat,(x∈L'\/∃k,own' k=some x)->(x∈L\/∃k,own k=some x)\/∀e e',en c ws x=some e->en c ws' x=some e'->e.g<e'.g
structure Res (c:Cfg)(ws:List Int)(L:List Nat)(own:Nat->Option Nat)(n i:Nat)(ws':List Int)(o':Option Nat)(f:Bool:=true):Prop where
 si:∃L',SI c ws' L' (qtx own i o') (n+1)/\Av c ws ws' L L' own (qtx own i o')
 gu:Gu c (own i) ws ws' f
 mono:Mono c ws ws'
def Res.weak {c:Cfg}{ws ws':List Int}{L:List Nat}{own:Nat->Option Nat}{n i:Nat}{o':Option Nat}(h:Res c ws L own n i ws' o'):Res c ws L own n i ws' o' false :=
 ⟨h.si,⟨h.gu.head,h.gu.link,fun x hx hn=>(h.gu.ent x hx hn).imp id fun⟨e,a,b,_⟩=>⟨e,a,b,fun q=>by cases q⟩⟩,h.mono⟩
section
variable {c:Cfg}{ws ws':List Int}{L:List Nat}{own:Nat->Option Nat}{n i:Nat}
def SI.quiet (h:SI c ws L own n)(hl:ws'.length=ws.length)(h1:qi5 ws' 1=qi5 ws 1)(h2:∀x:Nat,(x:Int)<c.S->lkI c ws' x=lkI c ws x)(h3:∀x:Nat,(x:Int)<c.S->qi5 ws' (qjx c x 0)=qi5 ws (qjx c x 0)){o':Option Nat}(ho:o'=own i\/o'=none):Res c ws L own n i ws' o':=by
 have he:∀x:Nat,(x:Int)<c.S->en c ws' x=en c ws x:=fun x hx=>by unfold en;rw [h3 x hx]
 obtain⟨t,g,t1,t2,t3⟩:=h.head
 have out:∀k x,qtx own i o' k=some x->own k=some x:=fun k x hk=>by
  unfold qtx at hk
  split at hk
  ·rename_i q
   rcases ho with rfl|rfl
   ·rw [q];exact hk
   ·cases hk
  ·exact hk
 refine⟨⟨L,⟨hl.trans h.len,⟨t,g,by rw [h1];exact t1,by omega,t3.congr fun x hx=>h2 x (t3.lt x hx)⟩,h.nodup,fun x hx=>by rw [he x hx];exact h.valid x hx,fun x hx=>by rw [he x (t3.lt x hx)];exact h.yP x hx,fun k x hk => ?_,fun k j x hk hj=>h.inj k j x (out k x hk) (out j x hj)⟩,fun x hx => .inl (hx.imp id fun⟨k,hk⟩=>⟨k,out k x hk⟩)⟩,⟨.inl h1,fun x hx _=>h2 x hx,fun x hx _ => .inl (h3 x hx)⟩,fun x e e' hx q1 q2 => ?_⟩
 ·have hk':=out k x hk
  obtain⟨a1,a2,a3⟩:=h.ow k x hk'
  exact⟨a1,a2,by rw [he x a1];exact a3⟩
 ·rw [he x hx,q1]at q2
  injection q2 with q2
  subst q2
  exact⟨Int.le_refl _,fun a b=>by rw [a]at b;cases b⟩
def set_len {k v:Int} : (qi6 ws k v).length=ws.length:=qi7 _ _ _
def SI.word (h:SI c ws L own n)(hm:c.may){k v:Int}(hk:k≠1)(h2:∀x:Nat,(x:Int)<c.S->k≠qjx c x 2/\k≠qjx c x 0){o':Option Nat}(ho:o'=own i\/o'=none):Res c ws L own n i (qi6 ws k v) o' :=
 h.quiet set_len (qtq hk) (fun x hx=>qtq (h2 x hx).1) (fun x hx=>qtq (h2 x hx).2) ho
def qtz (hm:c.may){k:Int}(hk:k<4+c.T):∀x:Nat,(x:Int)<c.S->k≠qjx c x 2/\k≠qjx c x 0:=fun x hx=>by
 unfold Cfg.may at hm
 have a:=qtv (c:=c) (s:=x) (k:=2) (by omega) hx (by omega) (by omega)
 have b:=qtv (c:=c) (s:=x) (k:=0) (by omega) hx (by omega) (by omega)
 omega
def qtA (hm:c.may)(s:Int):∀x:Nat,(x:Int)<c.S->qjx c s 1≠qjx c x 2/\qjx c s 1≠qjx c x 0:=fun x hx=>by
 unfold Cfg.may at hm
 exact⟨qtt (by omega) hx (by omega) (by omega) (by omega) (by omega),qtt (by omega) hx (by omega) (by omega) (by omega) (by omega)⟩
def qtB (h:SI c ws L own n)(hm:c.may){x:Nat}(hx:(x:Int)<c.S){k:Int}(hk:0<=k/\k<=2):5<=qjx c x k/\qjx c x k<ws.length:=by
 have e:=qnu hm (s:=x) (k:=k) (by omega) hx hk
 have:=h.len
 omega
def SI.entry (h:SI c ws L own n)(hm:c.may){x:Nat}(hx:(x:Int)<c.S){v:Int}{e e':Ent}(h1:en c ws x=some e)(hv:e.lv=true)(h2:qkb v=some e')(hg:e.g<=e'.g)(hd:e'.lv=false->e.g<e'.g\/e.g=1000)
  {o':Option Nat} (ho:o'=own i\/(e'.lv=false/\own i=none/\o'=some x/\e.g<e'.g)) {f:Bool} (hk:f=true->e.lk=false):Res c ws L own n i (qi6 ws (qjx c x 0) v) o' f:=by
 have hT:0<=c.T:=by unfold Cfg.may at hm;omega
 have si:=qtB h hm hx (k:=0) (by omega)
 have hnl:x∉L:=fun q=>by
  obtain⟨y,q1,q2⟩:=h.yP x q
  rw [h1]at q1
  injection q1 with q1
  subst q1
  rw [hv]at q2;cases q2
 have hno:∀k,own k≠some x:=fun k q=>by
  obtain⟨_,_,y,q1,q2⟩:=h.ow k x q
  rw [h1]at q1
  injection q1 with q1
  subst q1
  rw [hv]at q2;cases q2
 have hex:en c (qi6 ws (qjx c x 0) v) x=some e':=by unfold en;rw [qtr (by omega) si.2];exact h2
 have hey:∀y:Nat,(y:Int)<c.S->y≠x->qi5 (qi6 ws (qjx c x 0) v) (qjx c y 0)=qi5 ws (qjx c y 0):=fun y hy hyx=>qtq fun q=>hyx (by
  have:=qtu (c:=c) (s:=y) (t:=x) (k:=0) (by omega) hy hT (by omega) q
  omega)
 have hen:∀y:Nat,(y:Int)<c.S->y≠x->en c (qi6 ws (qjx c x 0) v) y=en c ws y:=fun y hy hyx=>by unfold en;rw [hey y hy hyx]
 have hlk:∀y:Nat,(y:Int)<c.S->lkI c (qi6 ws (qjx c x 0) v) y=lkI c ws y:=fun y hy=>qtq (qtt (by omega) hy hT (by omega) (by omega) (by omega))
 have h11:qi5 (qi6 ws (qjx c x 0) v) 1=qi5 ws 1:=qtq (by omega)
 obtain⟨t,g,t1,t2,t3⟩:=h.head
 have old:∀k y,qtx own i o' k=some y->own k=some y\/(k=i/\y=x/\e'.lv=false/\e.g<e'.g):=fun k y hk=>by
  unfold qtx at hk
  split at hk
  ·rename_i q
   subst q
   rcases ho with rfl|⟨a,b,rfl,z⟩
   ·exact .inl hk
   ·injection hk with hk
    exact .inr ⟨rfl,hk.symm,a,z⟩
  ·exact .inl hk
 refine⟨⟨L,⟨set_len.trans h.len,⟨t,g,by rw [h11];exact t1,by omega,t3.congr fun y hy=>hlk y (t3.lt y hy)⟩,h.nodup,fun y hy => ?_,fun y hy => ?_,fun k y hk => ?_,fun k j y hk hj => ?_⟩,fun y hy => ?_⟩,⟨.inl h11,fun y hy _=>hlk y hy,fun y hy _ => ?_⟩,fun y a b hy q1 q2 => ?_⟩
 ·by_cases q:y=x
  ·subst q;exact⟨e',hex⟩
  ·rw [hen y hy q];exact h.valid y hy
 ·rw [hen y (t3.lt y hy) fun q=>hnl (q▸hy)];exact h.yP y hy
 ·rcases old k y hk with q|⟨_,rfl,q,_⟩
  ·obtain⟨a1,a2,a3⟩:=h.ow k y q
   exact⟨a1,a2,by rw [hen y a1 fun z=>hno k (z▸q)];exact a3⟩
  ·exact⟨hx,hnl,e',hex,q⟩
 ·rcases old k y hk with q|⟨q1,q2,_,_⟩
  ·rcases old j y hj with r|⟨r1,r2,_,_⟩
   ·exact h.inj k j y q r
   ·exact absurd (r2▸q) (hno k)
  ·rcases old j y hj with r|⟨r1,r2,_,_⟩
   ·exact absurd (q2▸r) (hno j)
   ·rw [q1,r1]
 ·rcases hy with q|⟨k,q⟩
  ·exact .inl (.inl q)
  ·rcases old k y q with z|⟨_,rfl,_,z⟩
   ·exact .inl (.inr ⟨k,z⟩)
   ·refine .inr fun a b ha hb => ?_
    rw [h1]at ha
    rw [hex]at hb
    injection ha with ha
    injection hb with hb
    subst ha hb
    exact z
 ·by_cases q:y=x
  ·subst q;exact .inr ⟨e,h1,hv,hk⟩
  ·exact .inl (hey y hy q)
 ·by_cases q:y=x
  ·subst q
   rw [h1]at q1
   rw [hex]at q2
   injection q1 with q1
   injection q2 with q2
   subst q1 q2
   exact⟨hg,fun _=>hd⟩
  ·rw [hen y hy q,q1]at q2
   injection q2 with q2
   subst q2
   exact⟨Int.le_refl _,fun a b=>by rw [a]at b;cases b⟩
def SI.waH (h:SI c ws L own n)(hm:c.may){x:Nat}(ho:own i=some x){v:Int}{e e':Ent}(h1:en c ws x=some e)(h2:qkb v=some e')(hg:e'.g=e.g):Res c ws L own n i (qi6 ws (qjx c x 0) v) none:=by
 have hT:0<=c.T:=by unfold Cfg.may at hm;omega
 obtain⟨hx,hnl,y0,y1,y2⟩:=h.ow i x ho
 rw [h1]at y1
 injection y1 with y1
 subst y1
 have si:=qtB h hm hx (k:=0) (by omega)
 have hno:∀k,k≠i->own k≠some x:=fun k hk q=>hk (h.inj k i x q ho)
 have hex:en c (qi6 ws (qjx c x 0) v) x=some e':=by unfold en;rw [qtr (by omega) si.2];exact h2
 have hey:∀y:Nat,(y:Int)<c.S->y≠x->qi5 (qi6 ws (qjx c x 0) v) (qjx c y 0)=qi5 ws (qjx c y 0):=fun y hy hyx=>qtq fun q=>hyx (by
  have:=qtu (c:=c) (s:=y) (t:=x) (k:=0) (by omega) hy hT (by omega) q
  omega)
 have hen:∀y:Nat,(y:Int)<c.S->y≠x->en c (qi6 ws (qjx c x 0) v) y=en c ws y:=fun y hy hyx=>by unfold en;rw [hey y hy hyx]
 have hlk:∀y:Nat,(y:Int)<c.S->lkI c (qi6 ws (qjx c x 0) v) y=lkI c ws y:=fun y hy=>qtq (qtt (by omega) hy hT (by omega) (by omega) (by omega))
 have h11:qi5 (qi6 ws (qjx c x 0) v) 1=qi5 ws 1:=qtq (by omega)
 obtain⟨t,g,t1,t2,t3⟩:=h.head
 have old:∀k y,qtx own i none k=some y->k≠i/\own k=some y:=fun k y hk=>by
  unfold qtx at hk
  split at hk
  ·cases hk
  ·rename_i q;exact⟨q,hk⟩
 refine⟨⟨L,⟨set_len.trans h.len,⟨t,g,by rw [h11];exact t1,by omega,t3.congr fun y hy=>hlk y (t3.lt y hy)⟩,h.nodup,fun y hy => ?_,fun y hy => ?_,fun k y hk => ?_,fun k j y hk hj=>h.inj k j y (old k y hk).2 (old j y hj).2⟩,fun y hy => .inl (hy.imp id fun⟨k,q⟩=>⟨k,(old k y q).2⟩)⟩,⟨.inl h11,fun y hy _=>hlk y hy,fun y hy q => .inl (hey y hy fun z=>q (by rw [z];exact ho))⟩,fun y a b hy q1 q2 => ?_⟩
 ·by_cases q:y=x
  ·subst q;exact⟨e',hex⟩
  ·rw [hen y hy q];exact h.valid y hy
 ·rw [hen y (t3.lt y hy) fun q=>hnl (q▸hy)];exact h.yP y hy
 ·obtain⟨k1,k2⟩:=old k y hk
  obtain⟨a1,a2,a3⟩:=h.ow k y k2
  exact⟨a1,a2,by rw [hen y a1 fun z=>hno k k1 (z▸k2)];exact a3⟩
 ·by_cases q:y=x
  ·subst q
   rw [h1]at q1
   rw [hex]at q2
   injection q1 with q1
   injection q2 with q2
   subst q1 q2
   exact⟨by omega,fun a=>by rw [y2]at a;cases a⟩
  ·rw [hen y hy q,q1]at q2
   injection q2 with q2
   subst q2
   exact⟨Int.le_refl _,fun a b=>by rw [a]at b;cases b⟩
def SI.linked (h:SI c ws L own n)(hm:c.may){x:Nat}(ho:own i=some x)(v:Int):Res c ws L own n i (qi6 ws (qjx c x 2) v) (own i):=by
 have hT:0<=c.T:=by unfold Cfg.may at hm;omega
 obtain⟨hx,hnl,_⟩:=h.ow i x ho
 have si:=qtB h hm hx (k:=2) (by omega)
 have hly:∀y:Nat,(y:Int)<c.S->y≠x->lkI c (qi6 ws (qjx c x 2) v) y=lkI c ws y:=fun y hy hyx=>qtq fun q=>hyx (by
  have:=qtu (c:=c) (s:=y) (t:=x) (k:=2) (by omega) hy hT (by omega) q
  omega)
 have he3:∀y:Nat,(y:Int)<c.S->qi5 (qi6 ws (qjx c x 2) v) (qjx c y 0)=qi5 ws (qjx c y 0):=fun y hy=>qtq (qtt (by omega) hy hT (by omega) (by omega) (by omega))
 have hen:∀y:Nat,(y:Int)<c.S->en c (qi6 ws (qjx c x 2) v) y=en c ws y:=fun y hy=>by unfold en;rw [he3 y hy]
 have h11:qi5 (qi6 ws (qjx c x 2) v) 1=qi5 ws 1:=qtq (by omega)
 obtain⟨t,g,t1,t2,t3⟩:=h.head
 rw [show(own i)=own i from rfl]
 refine⟨⟨L, ?_⟩,⟨.inl h11,fun y hy q=>hly y hy fun z=>q (by rw [z];exact ho),fun y hy _ => .inl (he3 y hy)⟩,fun y a b hy q1 q2 => ?_⟩
 ·rw [qty]
  exact⟨⟨set_len.trans h.len,⟨t,g,by rw [h11];exact t1,by omega,t3.congr fun y hy=>hly y (t3.lt y hy) fun q=>hnl (q▸hy)⟩,h.nodup,fun y hy=>by rw [hen y hy];exact h.valid y hy,fun y hy=>by rw [hen y (t3.lt y hy)];exact h.yP y hy,fun k y hk=>by
   obtain⟨a1,a2,a3⟩:=h.ow k y hk
   exact⟨a1,a2,by rw [hen y a1];exact a3⟩,h.inj⟩,fun y hy => .inl hy⟩
 ·rw [hen y hy,q1]at q2
  injection q2 with q2
  subst q2
  exact⟨Int.le_refl _,fun a b=>by rw [a]at b;cases b⟩
def SI.pop (h:SI c ws L own n)(hm:c.may)(hn:n<4294967294)(ho:own i=none){t g:Nat}(h1:qlW (qi5 ws 1)=some (t+1,g)){v:Int}(hv:∀t':Nat,lkI c ws t=t'->qlW v=some (t',qlY g)):Res c ws L own n i (qi6 ws 1 v) (some t):=by
 have hT:0<=c.T/\5<=qi2 c:=by unfold Cfg.may at hm;unfold qi2;omega
 obtain⟨t0,g0,t1,t2,t3⟩:=h.head
 rw [h1]at t1
 injection t1 with t1
 injection t1 with t1 t1'
 subst t1 t1'
 have hl:(1:Int)<ws.length:=by have:=h.len;omega
 have hlk:∀y:Nat,(y:Int)<c.S->lkI c (qi6 ws 1 v) y=lkI c ws y:=fun y hy=>qtq (by have:=qtv (c:=c) (s:=y) (k:=2) (by omega) hy (by omega) hT.1;omega)
 have he3:∀y:Nat,(y:Int)<c.S->qi5 (qi6 ws 1 v) (qjx c y 0)=qi5 ws (qjx c y 0):=fun y hy=>qtq (by have:=qtv (c:=c) (s:=y) (k:=0) (by omega) hy (by omega) hT.1;omega)
 have hen:∀y:Nat,(y:Int)<c.S->en c (qi6 ws 1 v) y=en c ws y:=fun y hy=>by unfold en;rw [he3 y hy]
 have h11:qi5 (qi6 ws 1 v) 1=v:=qtr (by omega) hl
 cases L with
 | nil=>exact absurd (show t+1=0 from t3) (by omega)
 | cons x r =>
   have t3':=t3
   obtain⟨e1,hx,t',h3,h4⟩:=t3
   have e1:t=x:=by omega
   subst e1
   have hv':=hv t' h3
   have hnd:=h.nodup
   rw [List.nodup_cons]at hnd
   have hg:qlY g<=n+1:=by unfold qlY;split<;>omega
   have old:∀k y,qtx own i (some t) k=some y->own k=some y\/(k=i/\y=t):=fun k y hk=>by
    unfold qtx at hk
    split at hk
    ·rename_i q
     injection hk with hk
     exact .inr ⟨q,hk.symm⟩
    ·exact .inl hk
   have hno:∀k,own k≠some t:=fun k q=>(h.ow k t q).2.1 (List.mem_cons_self ..)
   refine⟨⟨r,⟨set_len.trans h.len,⟨t',qlY g,by rw [h11];exact hv',hg,h4.congr fun y hy=>hlk y (h4.lt y hy)⟩,hnd.2,fun y hy=>by rw [hen y hy];exact h.valid y hy,fun y hy=>by rw [hen y (h4.lt y hy)];exact h.yP y (List.mem_cons_of_mem _ hy),fun k y hk => ?_,fun k j y hk hj => ?_⟩,fun y hy => .inl ?_⟩,⟨.inr ⟨_,_,_,h1,by rw [h11];exact hv'⟩,fun y hy _=>hlk y hy,fun y hy _ => .inl (he3 y hy)⟩,fun y a b hy q1 q2 => ?_⟩
   ·rcases old k y hk with q|⟨_,rfl⟩
    ·obtain⟨a1,a2,a3⟩:=h.ow k y q
     exact⟨a1,fun z=>a2 (List.mem_cons_of_mem _ z),by rw [hen y a1];exact a3⟩
    ·exact⟨hx,hnd.1,by rw [hen _ hx];exact h.yP _ (List.mem_cons_self ..)⟩
   ·rcases old k y hk with q|⟨q1,q2⟩
    ·rcases old j y hj with z|⟨z1,z2⟩
     ·exact h.inj k j y q z
     ·exact absurd (z2▸q) (hno k)
    ·rcases old j y hj with z|⟨z1,z2⟩
     ·exact absurd (q2▸z) (hno j)
     ·rw [q1,z1]
   ·rcases hy with q|⟨k,q⟩
    ·exact .inl (List.mem_cons_of_mem _ q)
    ·rcases old k y q with z|⟨_,rfl⟩
     ·exact .inr ⟨k,z⟩
     ·exact .inl (List.mem_cons_self ..)
   ·rw [hen y hy,q1]at q2
    injection q2 with q2
    subst q2
    exact⟨Int.le_refl _,fun a b=>by rw [a]at b;cases b⟩
def SI.push (h:SI c ws L own n)(hm:c.may)(hn:n<4294967294){x:Nat}(ho:own i=some x){t g:Nat}(h1:qlW (qi5 ws 1)=some (t,g))(hl:lkI c ws x=t){v:Int}(hv:qlW v=some (x+1,qlY g)):Res c ws L own n i (qi6 ws 1 v) none:=by
 have hT:0<=c.T/\5<=qi2 c:=by unfold Cfg.may at hm;unfold qi2;omega
 obtain⟨t0,g0,t1,t2,t3⟩:=h.head
 rw [h1]at t1
 injection t1 with t1
 injection t1 with t1 t1'
 subst t1 t1'
 obtain⟨hx,hnl,hdd⟩:=h.ow i x ho
 have hlen:(1:Int)<ws.length:=by have:=h.len;omega
 have hlk:∀y:Nat,(y:Int)<c.S->lkI c (qi6 ws 1 v) y=lkI c ws y:=fun y hy=>qtq (by have:=qtv (c:=c) (s:=y) (k:=2) (by omega) hy (by omega) hT.1;omega)
 have he3:∀y:Nat,(y:Int)<c.S->qi5 (qi6 ws 1 v) (qjx c y 0)=qi5 ws (qjx c y 0):=fun y hy=>qtq (by have:=qtv (c:=c) (s:=y) (k:=0) (by omega) hy (by omega) hT.1;omega)
 have hen:∀y:Nat,(y:Int)<c.S->en c (qi6 ws 1 v) y=en c ws y:=fun y hy=>by unfold en;rw [he3 y hy]
 have h11:qi5 (qi6 ws 1 v) 1=v:=qtr (by omega) hlen
 have hg:qlY g<=n+1:=by unfold qlY;split<;>omega
 have old:∀k y,qtx own i none k=some y->k≠i/\own k=some y:=fun k y hk=>by
  unfold qtx at hk
  split at hk
  ·cases hk
  ·rename_i q;exact⟨q,hk⟩
 refine⟨⟨x::L,⟨set_len.trans h.len,⟨x+1,qlY g,by rw [h11];exact hv,hg,rfl,hx,t,(hlk x hx).trans hl,t3.congr fun y hy=>hlk y (t3.lt y hy)⟩,List.nodup_cons.2 ⟨hnl,h.nodup⟩,fun y hy=>by rw [hen y hy];exact h.valid y hy,fun y hy => ?_,fun k y hk => ?_,fun k j y hk hj=>h.inj k j y (old k y hk).2 (old j y hj).2⟩,fun y hy => .inl ?_⟩,⟨.inr ⟨_,_,_,h1,by rw [h11];exact hv⟩,fun y hy _=>hlk y hy,fun y hy _ => .inl (he3 y hy)⟩,fun y a b hy q1 q2 => ?_⟩
 ·rcases List.mem_cons.1 hy with rfl|hy
  ·rw [hen _ hx];exact hdd
  ·rw [hen y (t3.lt y hy)];exact h.yP y hy
 ·obtain⟨k1,k2⟩:=old k y hk
  obtain⟨a1,a2,a3⟩:=h.ow k y k2
  refine⟨a1,fun q => ?_,by rw [hen y a1];exact a3⟩
  rcases List.mem_cons.1 q with rfl|q
  ·exact k1 (h.inj k i _ k2 ho)
  ·exact a2 q
 ·rcases hy with q|⟨k,q⟩
  ·rcases List.mem_cons.1 q with rfl|q
   ·exact .inr ⟨i,ho⟩
   ·exact .inl q
  ·exact .inr ⟨k,(old k y q).2⟩
 ·rw [hen y hy,q1]at q2
  injection q2 with q2
  subst q2
  exact⟨Int.le_refl _,fun a b=>by rw [a]at b;cases b⟩
end
def qtC {t g:Nat}(ht:t<=64)(hg:g<4294967296):qlW ((qlX t g:Nat):Int)=some (t,g):=by
 unfold qlW qlX
 rw [if_pos (by omega)]
 congr 1
 refine Prod.ext ?_ ?_<;>simp only<;>omega
def qtD {g:Nat} : qlY g<4294967296\/4294967296<=g:=by unfold qlY;split<;>omega
def Seen (ws:List Int)(w:Int):Prop:=∃tw gw tc gc,qlW w=some (tw,gw)/\qlW (qi5 ws 1)=some (tc,gc)/\gw<=gc/\(gw=gc->w=qi5 ws 1)
section
variable {c:Cfg}{ws ws':List Int}{L:List Nat}{own:Nat->Option Nat}{n i:Nat}{o:Option Nat}
def Seen.gu {w:Int}(h:Seen ws w)(s:SI c ws L own n)(hn:n<4294967294){f:Bool}(g:Gu c o ws ws' f):Seen ws' w/\(w=qi5 ws' 1->qi5 ws' 1=qi5 ws 1):=by
 obtain⟨tw,gw,tc,gc,h1,h2,h3,h4⟩:=h
 obtain⟨t0,g0,s1,s2,_⟩:=s.head
 rw [h2]at s1
 injection s1 with s1
 injection s1 with s1 s1'
 subst s1 s1'
 rcases g.head with q|⟨t,g1,t',q1,q2⟩
 ·exact⟨⟨tw,gw,tc,gc,h1,by rw [q];exact h2,h3,by rw [q];exact h4⟩,fun _=>q⟩
 ·rw [h2]at q1
  injection q1 with q1
  injection q1 with q1 q1'
  subst q1 q1'
  have e:qlY gc=gc+1:=by unfold qlY;rw [if_neg (by omega)]
  rw [e]at q2
  refine⟨⟨tw,gw,t',gc+1,h1,q2,by omega,fun q=>by omega⟩,fun q => ?_⟩
  rw [q,q2]at h1
  injection h1 with h1
  injection h1 with _ h1
  omega
structure PopI (c:Cfg)(ws:List Int)(p:Sk):Prop where
 nx:p.nx=1\/p.nx=2\/p.nx=3
 seen:p.nx≠1->Seen ws p.word/\∃tw gw:Nat,qlW p.word=some (tw+1,gw)/\p.slot=tw
 to:p.nx=3->∃v,(ql2 p.word v).2.2=0/\p.to=(ql2 p.word v).1/\(p.word=qi5 ws 1->qi5 ws (qjx c p.slot 2)=v)
structure PushI (c:Cfg)(ws:List Int)(q:Sk)(x:Nat):Prop where
 slot:q.slot=x
 nx:q.nx=1\/q.nx=2\/q.nx=3
 seen:q.nx≠1->Seen ws q.word
 to:q.nx=3->q.to=(ql4 q.word x).1/\∃tw gw:Nat,qlW q.word=some (tw,gw)/\lkI c ws x=tw
def PopI.gu {p:Sk}(h:PopI c ws p)(s:SI c ws L own n)(hn:n<4294967294){f:Bool}(g:Gu c (own i) ws ws' f):PopI c ws' p:=by
 refine⟨h.nx,fun q=>⟨((h.seen q).1.gu s hn g).1,(h.seen q).2⟩,fun q => ?_⟩
 obtain⟨v,h1,h2,h3⟩:=h.to q
 refine⟨v,h1,h2,fun e => ?_⟩
 obtain⟨hs,tw,gw,a1,a2⟩:=h.seen (by omega)
 have e1:=(hs.gu s hn g).2 e
 have e2:p.word=qi5 ws 1:=e.trans e1
 have h4:=h3 e2
 obtain⟨t0,g0,s1,_,s3⟩:=s.head
 rw [<-e2,a1]at s1
 injection s1 with s1
 injection s1 with s1 _
 subst s1
 cases L with
 | nil=>exact absurd (show tw+1=0 from s3) (by omega)
 | cons x r =>
   obtain⟨b1,b2,_⟩:=s3
   have b1:tw=x:=by omega
   subst b1
   rw [<-h4,a2]
   exact g.link tw b2 fun z=>(s.ow i tw z).2.1 (List.mem_cons_self ..)
def PushI.gu {q:Sk}{x j:Nat}(h:PushI c ws q x)(s:SI c ws L own n)(hn:n<4294967294){f:Bool}(g:Gu c (own i) ws ws' f)(hj:j≠i)(ho:own j=some x):PushI c ws' q x:=by
 refine⟨h.slot,h.nx,fun z=>((h.seen z).gu s hn g).1,fun z => ?_⟩
 obtain⟨h1,tw,gw,h2,h3⟩:=h.to z
 exact⟨h1,tw,gw,h2,(g.link x (s.ow j x ho).1 fun y=>hj (s.inj j i x ho y)).trans h3⟩
structure AI (c:Cfg)(ws:List Int)(s:Al):Prop where
 nx:0<=s.nx/\s.nx<=12
 kept:1<=s.nx->s.nx<=10->s.nx≠6->s.kept=0
 first:s.nx<=2->1<=s.nx->s.p.nx=1
 pop:s.nx=3->PopI c ws s.p
 slot:4<=s.nx->s.nx<=10->0<=s.slot/\s.slot<c.S
 push:s.nx=6->PushI c ws s.q s.slot.toNat
 f:s.nx=5\/(7<=s.nx/\s.nx<=10)->0<=s.f/\s.f<=4096
 pub:s.nx=10->∃e,en c ws s.slot.toNat=some e/\e.lv=false/\s.gen=e.g/\s.word=((qkc ⟨s.f,e.g,0,0,false,true⟩:Nat):Int)/\(⟨s.f,e.g,0,0,false,true⟩:Ent).may
structure FI (c:Cfg)(ws:List Int)(s:Fe):Prop where
 nx:0<=s.nx/\s.nx<=3
 slot:2<=s.nx->0<=(ofR s.h c.S).1/\(ofR s.h c.S).1<c.S
 word:s.nx=2->∃e,qkb s.word=some e/\e.lv=true/\e.p=0/\e.u=0/\e.lk=false
 push:s.nx=3->PushI c ws s.p (ofR s.h c.S).1.toNat
structure WrJ (c:Cfg)(s:Wr):Prop where
 slot:s.nx≠0->s.nx≠1->0<=(ofR s.h c.S).1/\(ofR s.h c.S).1<c.S
 word:s.nx=2->∃e,qkb s.word=some e/\e.lv=true/\e.lk=false/\e.u<15
structure PnJ (c:Cfg)(s:Pn):Prop where
 slot:s.nx≠0->s.nx≠1->0<=(ofR s.h c.S).1/\(ofR s.h c.S).1<c.S
 to:s.nx≠0->s.nx≠1->s.to=(chE s.word (qoP s.un)).1/\(chE s.word (qoP s.un)).2=0
def MI (c:Cfg)(ws:List Int):Mx->Prop
 | .al s=>AI c ws s
 | .fe s=>FI c ws s
 | .wr s=>WrJ c s
 | .pn s=>PnJ c s
 | _=>True
def qtE (c:Cfg):Mx->Option Nat
 | .al s=>if 4<=s.nx/\s.nx<=10 then some s.slot.toNat else none
 | .fe s=>if s.nx=3 then some (ofR s.h c.S).1.toNat else none
 | _=>none
def MI.gu {m:Mx}{j:Nat}(h:MI c ws m)(s:SI c ws L own n)(hn:n<4294967294){f:Bool}(g:Gu c (own i) ws ws' f)(hj:j≠i)(ho:own j=qtE c m):MI c ws' m:=by
 cases m with
 | al a =>
   have h:AI c ws a:=h
   refine⟨h.nx,h.kept,h.first,fun q=>(h.pop q).gu s hn g,h.slot,fun q => ?_,h.f,fun q => ?_⟩
   ·have e:own j=some a.slot.toNat:=ho.trans (if_pos (by omega))
    exact(h.push q).gu s hn g hj e
   ·obtain⟨e,h1,h2,h3⟩:=h.pub q
    have e1:own j=some a.slot.toNat:=ho.trans (if_pos (by omega))
    refine⟨e, ?_,h2,h3⟩
    rcases g.ent _ (s.ow j _ e1).1 (fun y=>hj (s.inj j i _ e1 y))with z|⟨y,z1,z2,_⟩
    ·unfold en at h1|-
     rw [z];exact h1
    ·rw [h1]at z1
     injection z1 with z1
     subst z1
     rw [h2]at z2;cases z2
 | fe a =>
   have h:FI c ws a:=h
   refine⟨h.nx,h.slot,h.word,fun q => ?_⟩
   have e:own j=some (ofR a.h c.S).1.toNat:=ho.trans (if_pos q)
   exact(h.push q).gu s hn g hj e
 | rd a=>trivial
 | wr a=>exact h
 | pn a=>exact h
 | no=>trivial
def qtF {w:Int}{F:Ent->Int×Ent}(h:(chE w F).2=0):∃e,qkb w=some e/\e.lv=true/\(F e).1=0/\(F e).2.may/\qkb (chE w F).1=some (F e).2:=by
 unfold chE at h|-
 cases hu:qkb w with
 | none=>rw [hu]at h;simp at h
 | some e =>
   rw [hu]at h
   simp only at h|-
   by_cases h1:e.lv=true
   ·rw [if_pos h1]at h|-
    by_cases h2:(F e).1=0
    ·rw [if_pos h2]at h|-
     by_cases h3:(F e).2.may
     ·rw [if_pos h3]
      exact⟨e,rfl,h1,h2,h3,qkf h3⟩
     ·rw [if_neg h3]at h;simp at h
    ·rw [if_neg h2]at h;exact absurd h h2
   ·rw [if_neg h1]at h;simp at h
def SI.wab (s:SI c ws L own n):∃t g,qlW (qi5 ws 1)=some (t,g)/\g<=n:=by
 obtain⟨t,g,h1,h2,_⟩:=s.head
 exact⟨t,g,h1,h2⟩
def SI.same (s:SI c ws L own n){o':Option Nat}(ho:o'=own i\/o'=none):Res c ws L own n i ws o':=s.quiet rfl rfl (fun _ _=>rfl) (fun _ _=>rfl) ho
def qtG (hm:c.may)(s:SI c ws L own n)(hn:n<4294967294)(ho:own i=none){p:Sk}(h:PopI c ws p) :
  ((qnM c p ws).2.2.2.2=false/\PopI c (qnM c p ws).2.1 (qnM c p ws).1/\Res c ws L own n i (qnM c p ws).2.1 none)\/
  ((qnM c p ws).2.2.2.2=true/\(qnM c p ws).2.2.2.1≠0/\Res c ws L own n i (qnM c p ws).2.1 none)\/
  ((qnM c p ws).2.2.2.2=true/\(qnM c p ws).2.2.2.1=0/\∃x:Nat,(qnM c p ws).2.2.1=x/\(x:Int)<c.S/\Res c ws L own n i (qnM c p ws).2.1 (some x)):=by
 obtain⟨t,g,s1,s2⟩:=s.wab
 have same:Res c ws L own n i ws none:=s.same (.inr rfl)
 unfold qnM
 rcases h.nx with h1|h1|h1
 ·rw [if_pos h1,s1]
  simp only
  by_cases h0:t=0
  ·rw [if_pos h0]
   exact .inr (.inl ⟨rfl,by show(11:Int)≠0;decide,same⟩)
  ·rw [if_neg h0]
   obtain⟨t',rfl⟩:∃t',t=t'+1:=⟨t-1,by omega⟩
   have ht:=(ql6 s1).1
   have hw:IntKind.i64.wrap (((t'+1:Nat):Int)-1)=t':=by
    rw [show(((t'+1:Nat):Int)-1)=(t':Int) by omega]
    exact qiX (by omega) (by omega)
   rw [hw]
   exact .inl ⟨rfl,⟨.inr (.inl rfl),fun _=>⟨⟨_,_,_,_,s1,s1,zzR _,fun _=>rfl⟩,t',g,s1,rfl⟩,fun q=>absurd q (by show ¬(2:Int)=3;decide)⟩,same⟩
 ·rw [if_neg (by omega),if_pos h1]
  by_cases h0:(ql2 p.word (qi5 ws (qjx c p.slot 2))).2.2=0
  ·rw [if_pos h0]
   exact .inl ⟨rfl,⟨.inr (.inr rfl),fun _=>h.seen (by omega),fun _=>⟨_,h0,rfl,fun _=>rfl⟩⟩,same⟩
  ·rw [if_neg h0]
   exact .inr (.inl ⟨rfl,by show(2:Int)≠0;decide,same⟩)
 ·rw [if_neg (by omega),if_neg (by omega),if_pos h1]
  by_cases hc:qjh ws 1 p.word=true
  ·rw [if_pos hc]
   have e:=(qts hc).2.2
   obtain⟨_,tw,gw,a1,a2⟩:=h.seen (by omega)
   obtain⟨v,b1,b2,b3⟩:=h.to h1
   have hv:=b3 e.symm
   have hw:=a1
   rw [<-e]at a1
   have ht:=ql6 a1
   have hx:(tw:Int)<c.S:=by
    obtain⟨t0,g0,c1,_,c3⟩:=s.head
    rw [a1]at c1
    injection c1 with c1
    injection c1 with c1 _
    subst c1
    cases L with
    | nil=>exact absurd (show tw+1=0 from c3) (by omega)
    | cons x r=>obtain⟨d1,d2,_⟩:=c3;have:tw=x:=by omega
                subst this;exact d2
   refine .inr (.inr ⟨rfl,rfl,tw,a2,hx,s.pop hm hn ho a1 fun t' ht' => ?_⟩)
   have:v=t':=by rw [<-hv,a2];exact ht'
   rw [b2,this]
   rw [this]at b1
   unfold ql2 ql1 at b1|-
   rw [hw]at b1|-
   simp only at b1|-
   by_cases hr:(0:Int)<=(t':Int)/\(t':Int)<=64
   ·rw [if_pos hr,if_neg (by omega)]
    have hg:=qtD (g:=gw)
    rw [Int.toNat_natCast]
    exact qtC (by omega) (by omega)
   ·rw [if_neg hr]at b1;simp at b1
  ·rw [if_neg hc]
   exact .inl ⟨rfl,⟨.inl rfl,fun q=>absurd rfl q,fun q=>absurd q (by show ¬(1:Int)=3;decide)⟩,same⟩
def qtH (hm:c.may)(s:SI c ws L own n)(hn:n<4294967294){x:Nat}(ho:own i=some x){q:Sk}(h:PushI c ws q x) :
  ((qnN c q ws).2.2.2=false/\PushI c (qnN c q ws).2.1 (qnN c q ws).1 x/\Res c ws L own n i (qnN c q ws).2.1 (some x))\/
  ((qnN c q ws).2.2.2=true/\Res c ws L own n i (qnN c q ws).2.1 none):=by
 obtain⟨t,g,s1,s2⟩:=s.wab
 have hx:=(s.ow i x ho).1
 have same:Res c ws L own n i ws (some x):=s.same (.inl ho.symm)
 have hsl:=qtB s hm hx (k:=2) (by omega)
 have hS:c.S<=64:=by unfold Cfg.may at hm;omega
 unfold qnN
 rw [h.slot]
 rcases h.nx with h1|h1|h1
 ·rw [if_pos h1,if_neg (by omega),s1]
  exact .inl ⟨rfl,⟨rfl,.inr (.inl rfl),fun _=>⟨_,_,_,_,s1,s1,zzR _,fun _=>rfl⟩,fun z=>absurd z (by show ¬(2:Int)=3;decide)⟩,same⟩
 ·rw [if_neg (by omega),if_pos h1]
  obtain⟨tw,gw,tc,gc,a1,a2,a3,a4⟩:=h.seen (by omega)
  have r:=s.linked hm ho (ql4 q.word x).2.1
  rw [ho]at r
  have hp:(ql4 q.word x).2.1=tw:=by
   unfold ql4 ql3
   rw [a1]
   simp only
   rw [if_pos (by omega)]
  have h11:qi5 (qi6 ws (qjx c x 2) (ql4 q.word x).2.1) 1=qi5 ws 1:=qtq (by omega)
  refine .inl ⟨rfl,⟨rfl,.inr (.inr rfl),fun _=>⟨tw,gw,tc,gc,a1,by rw [h11];exact a2,a3,by rw [h11];exact a4⟩,fun _=>⟨rfl,tw,gw,a1, ?_⟩⟩,r⟩
  show qi5 (qi6 ws (qjx c x 2) (ql4 q.word x).2.1) (qjx c x 2)=tw
  rw [qtr (by omega) hsl.2]
  exact hp
 ·rw [if_neg (by omega),if_neg (by omega),if_pos h1]
  by_cases hc:qjh ws 1 q.word=true
  ·rw [if_pos hc]
   have e:=(qts hc).2.2
   obtain⟨b1,tw,gw,b2,b3⟩:=h.to h1
   have hw:=b2
   rw [<-e]at b2
   have hg:=qtD (g:=gw)
   have ht:=ql6 b2
   refine .inr ⟨rfl,s.push hm hn ho b2 b3 ?_⟩
   rw [b1]
   unfold ql4 ql3
   rw [hw]
   simp only
   rw [if_pos (by omega),Int.toNat_natCast]
   exact qtC (by omega) (by omega)
  ·rw [if_neg hc]
   exact .inl ⟨rfl,⟨rfl,.inl rfl,fun z=>absurd rfl z,fun z=>absurd z (by show ¬(1:Int)=3;decide)⟩,same⟩
end
section
variable {c:Cfg}{ws bs:List Int}{L:List Nat}{own:Nat->Option Nat}{n i:Nat}
def qtI {a:Al}(h:a.nx=0\/a.nx=11\/a.nx=12):AI c ws a :=
 ⟨by omega,fun _ _ _=>by omega,fun _ _=>by omega,fun q=>by exfalso;omega,fun _ _=>by exfalso;omega,fun q=>by exfalso;omega,fun q=>by exfalso;omega,fun q=>by exfalso;omega⟩
def qtJ {a:Al}(h:4<=a.nx/\a.nx<=10):qtE c (.al a)=some a.slot.toNat:=if_pos h
def qtK {a:Al}(h:¬(4<=a.nx/\a.nx<=10)):qtE c (.al a)=none:=if_neg h
def qtL (n:Int):0<=qpc n/\qpc n<=256:=by
 unfold qpc qkq
 split<;>omega
def qtM (hm:c.may)(s:SI c ws L own n)(hn:n<4294967294){a:Al}(h:AI c ws a)(ho:own i=qtE c (.al a)):Res c ws L own n i (alS c a ws bs).2.1 (qtE c (.al (alS c a ws bs).1))/\AI c (alS c a ws bs).2.1 (alS c a ws bs).1:=by
 have hm':=hm
 unfold Cfg.may at hm'
 have hnx:=h.nx
 unfold alS
 by_cases h0:a.nx=0
 ·rw [if_pos h0];exact⟨s.same (.inl ho.symm),h⟩
 rw [if_neg h0]
 by_cases h1:a.nx=1
 ·rw [if_pos h1]
  have on:own i=none:=ho.trans (qtK (by omega))
  split
  ·exact⟨by rw [qtK (by show ¬(4<=(0:Int)/\(0:Int)<=10);omega)];exact s.same (.inr rfl),qtI (.inl rfl)⟩
  ·refine⟨by rw [qtK (by show ¬(4<=(2:Int)/\(2:Int)<=10);omega)];exact s.same (.inr rfl), ?_⟩
   exact⟨by show 0<=(2:Int)/\(2:Int)<=12;omega,fun _ _ _=>h.kept (by omega) (by omega) (by omega),fun _ _=>h.first (by omega) (by omega),fun q=>absurd q (by show ¬(2:Int)=3;decide),fun q=>absurd q (by show ¬4<=(2:Int);decide),fun q=>absurd q (by show ¬(2:Int)=6;decide),fun q=>absurd q (by show ¬((2:Int)=5\/(7<=(2:Int)/\(2:Int)<=10));omega),fun q=>absurd q (by show ¬(2:Int)=10;decide)⟩
 rw [if_neg h1]
 by_cases h2:a.nx=2
 ·rw [if_pos h2]
  have on:own i=none:=ho.trans (qtK (by omega))
  have hp:=h.first (by omega) (by omega)
  split
  ·refine⟨by rw [qtK (by show ¬(4<=(3:Int)/\(3:Int)<=10);omega)];exact s.word hm (by omega) (qtz hm (by omega)) (.inr rfl), ?_⟩
   exact⟨by show 0<=(3:Int)/\(3:Int)<=12;omega,fun _ _ _=>h.kept (by omega) (by omega) (by omega),fun q=>absurd q (by show ¬(3:Int)<=2;decide),fun _=>⟨.inl hp,fun q=>absurd hp q,fun q=>by have q:a.p.nx=3:=q;omega⟩,fun q=>absurd q (by show ¬4<=(3:Int);decide),fun q=>absurd q (by show ¬(3:Int)=6;decide),fun q=>absurd q (by show ¬((3:Int)=5\/(7<=(3:Int)/\(3:Int)<=10));omega),fun q=>absurd q (by show ¬(3:Int)=10;decide)⟩
  ·refine⟨by rw [qtK (by show ¬(4<=(1:Int)/\(1:Int)<=10);omega)];exact s.same (.inr rfl), ?_⟩
   exact⟨by show 0<=(1:Int)/\(1:Int)<=12;omega,fun _ _ _=>h.kept (by omega) (by omega) (by omega),fun _ _=>hp,fun q=>absurd q (by show ¬(1:Int)=3;decide),fun q=>absurd q (by show ¬4<=(1:Int);decide),fun q=>absurd q (by show ¬(1:Int)=6;decide),fun q=>absurd q (by show ¬((1:Int)=5\/(7<=(1:Int)/\(1:Int)<=10));omega),fun q=>absurd q (by show ¬(1:Int)=10;decide)⟩
 rw [if_neg h2]
 by_cases h3:a.nx=3
 ·rw [if_pos h3]
  have on:own i=none:=ho.trans (qtK (by omega))
  have hr:=qtG hm s hn on (h.pop h3)
  show Res c ws L own n i (qpf a (qnM c a.p ws)).2 (qtE c (.al (qpf a (qnM c a.p ws)).1))/\AI c (qpf a (qnM c a.p ws)).2 (qpf a (qnM c a.p ws)).1
  generalize qnM c a.p ws=r at hr
  unfold qpf
  rcases hr with⟨q1,q2,q3⟩|⟨q1,q2,q3⟩|⟨q1,q2,x,q3,q4,q5⟩
  ·rw [if_neg (by rw [q1];decide)]
   refine⟨by rw [qtK (by show ¬(4<=a.nx/\a.nx<=10);omega)];exact q3, ?_⟩
   exact⟨h.nx,h.kept,fun q=>by have q:a.nx<=2:=q;exfalso;omega,fun _=>q2,fun q=>by have q:4<=a.nx:=q;exfalso;omega,fun q=>by have q:a.nx=6:=q;exfalso;omega,fun q=>by have q:a.nx=5\/(7<=a.nx/\a.nx<=10):=q;exfalso;omega,fun q=>by have q:a.nx=10:=q;exfalso;omega⟩
  ·rw [if_pos q1,if_pos q2]
   exact⟨by rw [qtK (by show ¬(4<=(11:Int)/\(11:Int)<=10);omega)];exact q3,qtI (.inr (.inl rfl))⟩
  ·rw [if_pos q1,if_neg (by omega)]
   have e:(r.2.2.1).toNat=x:=by rw [q3];exact Int.toNat_natCast x
   refine⟨by rw [qtJ (by show 4<=(4:Int)/\(4:Int)<=10;omega)];show Res c ws L own n i r.2.1 (some (r.2.2.1).toNat);rw [e];exact q5, ?_⟩
   exact⟨by show 0<=(4:Int)/\(4:Int)<=12;omega,fun _ _ _=>h.kept (by omega) (by omega) (by omega),fun q=>absurd q (by show ¬(4:Int)<=2;decide),fun q=>absurd q (by show ¬(4:Int)=3;decide),fun _ _=>by show 0<=r.2.2.1/\r.2.2.1<c.S;omega,fun q=>absurd q (by show ¬(4:Int)=6;decide),fun q=>absurd q (by show ¬((4:Int)=5\/(7<=(4:Int)/\(4:Int)<=10));omega),fun q=>absurd q (by show ¬(4:Int)=10;decide)⟩
 rw [if_neg h3]
 by_cases h4:a.nx=4
 ·rw [if_pos h4]
  have on:own i=some a.slot.toNat:=ho.trans (qtJ (by omega))
  have hs:=h.slot (by omega) (by omega)
  split
  ·refine⟨by rw [qtJ (by show 4<=(6:Int)/\(6:Int)<=10;omega)];exact s.same (.inl on.symm), ?_⟩
   exact⟨by show 0<=(6:Int)/\(6:Int)<=12;omega,fun _ _ q=>absurd rfl q,fun q=>absurd q (by show ¬(6:Int)<=2;decide),fun q=>absurd q (by show ¬(6:Int)=3;decide),fun _ _=>hs,fun _=>⟨by show a.slot=((a.slot.toNat:Nat):Int);omega,.inl rfl,fun q=>absurd rfl q,fun q=>absurd q (by show ¬(1:Int)=3;decide)⟩,fun q=>absurd q (by show ¬((6:Int)=5\/(7<=(6:Int)/\(6:Int)<=10));omega),fun q=>absurd q (by show ¬(6:Int)=10;decide)⟩
  ·rename_i hf
   have hb:=qtL a.n
   have hw:w64 (c.A-qpc a.n)=c.A-qpc a.n:=qiX (by omega) (by omega)
   rw [hw]at hf
   refine⟨by rw [qtJ (by show 4<=(5:Int)/\(5:Int)<=10;omega)];exact s.same (.inl on.symm), ?_⟩
   exact⟨by show 0<=(5:Int)/\(5:Int)<=12;omega,fun _ _ _=>h.kept (by omega) (by omega) (by omega),fun q=>absurd q (by show ¬(5:Int)<=2;decide),fun q=>absurd q (by show ¬(5:Int)=3;decide),fun _ _=>hs,fun q=>absurd q (by show ¬(5:Int)=6;decide),fun _=>by show 0<=qi5 ws 0/\qi5 ws 0<=4096;omega,fun q=>absurd q (by show ¬(5:Int)=10;decide)⟩
 rw [if_neg h4]
 by_cases h5:a.nx=5
 ·rw [if_pos h5]
  have on:own i=some a.slot.toNat:=ho.trans (qtJ (by omega))
  have hs:=h.slot (by omega) (by omega)
  have hf:=h.f (.inl h5)
  split
  ·refine⟨by rw [qtJ (by show 4<=(7:Int)/\(7:Int)<=10;omega)];exact s.word hm (by omega) (qtz hm (by omega)) (.inl on.symm), ?_⟩
   exact⟨by show 0<=(7:Int)/\(7:Int)<=12;omega,fun _ _ _=>h.kept (by omega) (by omega) (by omega),fun q=>absurd q (by show ¬(7:Int)<=2;decide),fun q=>absurd q (by show ¬(7:Int)=3;decide),fun _ _=>hs,fun q=>absurd q (by show ¬(7:Int)=6;decide),fun _=>hf,fun q=>absurd q (by show ¬(7:Int)=10;decide)⟩
  ·refine⟨by rw [qtJ (by show 4<=(4:Int)/\(4:Int)<=10;omega)];exact s.same (.inl on.symm), ?_⟩
   exact⟨by show 0<=(4:Int)/\(4:Int)<=12;omega,fun _ _ _=>h.kept (by omega) (by omega) (by omega),fun q=>absurd q (by show ¬(4:Int)<=2;decide),fun q=>absurd q (by show ¬(4:Int)=3;decide),fun _ _=>hs,fun q=>absurd q (by show ¬(4:Int)=6;decide),fun q=>absurd q (by show ¬((4:Int)=5\/(7<=(4:Int)/\(4:Int)<=10));omega),fun q=>absurd q (by show ¬(4:Int)=10;decide)⟩
 rw [if_neg h5]
 by_cases h6:a.nx=6
 ·rw [if_pos h6]
  have on:own i=some a.slot.toNat:=ho.trans (qtJ (by omega))
  have hs:=h.slot (by omega) (by omega)
  have hr:=qtH hm s hn on (h.push h6)
  show Res c ws L own n i (qpg a (qnN c a.q ws)).2 (qtE c (.al (qpg a (qnN c a.q ws)).1))/\AI c (qpg a (qnN c a.q ws)).2 (qpg a (qnN c a.q ws)).1
  generalize qnN c a.q ws=r at hr
  unfold qpg
  rcases hr with⟨q1,q2,q3⟩|⟨q1,q3⟩
  ·rw [if_neg (by rw [q1];decide)]
   refine⟨by rw [qtJ (by show 4<=a.nx/\a.nx<=10;omega)];exact q3, ?_⟩
   exact⟨h.nx,h.kept,fun q=>by have q:a.nx<=2:=q;exfalso;omega,fun q=>by have q:a.nx=3:=q;exfalso;omega,fun _ _=>hs,fun _=>q2,fun q=>by have q:a.nx=5\/(7<=a.nx/\a.nx<=10):=q;exfalso;omega,fun q=>by have q:a.nx=10:=q;exfalso;omega⟩
  ·rw [if_pos q1]
   exact⟨by rw [qtK (by show ¬(4<=(11:Int)/\(11:Int)<=10);omega)];exact q3,qtI (.inr (.inl rfl))⟩
 rw [if_neg h6]
 by_cases h7:a.nx=7
 ·rw [if_pos h7]
  have on:own i=some a.slot.toNat:=ho.trans (qtJ (by omega))
  have hs:=h.slot (by omega) (by omega)
  have hf:=h.f (.inr (by omega))
  split
  ·refine⟨by rw [qtJ (by show 4<=(8:Int)/\(8:Int)<=10;omega)];exact s.same (.inl on.symm), ?_⟩
   exact⟨by show 0<=(8:Int)/\(8:Int)<=12;omega,fun _ _ _=>h.kept (by omega) (by omega) (by omega),fun q=>absurd q (by show ¬(8:Int)<=2;decide),fun q=>absurd q (by show ¬(8:Int)=3;decide),fun _ _=>hs,fun q=>absurd q (by show ¬(8:Int)=6;decide),fun _=>hf,fun q=>absurd q (by show ¬(8:Int)=10;decide)⟩
  ·refine⟨by rw [qtJ (by show 4<=a.nx/\a.nx<=10;omega)];exact s.same (.inl on.symm), ?_⟩
   exact⟨h.nx,h.kept,fun q=>by have q:a.nx<=2:=q;exfalso;omega,fun q=>by have q:a.nx=3:=q;exfalso;omega,fun _ _=>hs,fun q=>by have q:a.nx=6:=q;exfalso;omega,fun _=>hf,fun q=>by have q:a.nx=10:=q;exfalso;omega⟩
 rw [if_neg h7]
 by_cases h8:a.nx=8
 ·rw [if_pos h8]
  have on:own i=some a.slot.toNat:=ho.trans (qtJ (by omega))
  have hs:=h.slot (by omega) (by omega)
  have hf:=h.f (.inr (by omega))
  have hsl:=qnu hm (s:=a.slot) (k:=1) hs.1 hs.2 (by omega)
  refine⟨by rw [qtJ (by show 4<=(9:Int)/\(9:Int)<=10;omega)];exact s.word hm (by omega) (qtA hm _) (.inl on.symm), ?_⟩
  exact⟨by show 0<=(9:Int)/\(9:Int)<=12;omega,fun _ _ _=>h.kept (by omega) (by omega) (by omega),fun q=>absurd q (by show ¬(9:Int)<=2;decide),fun q=>absurd q (by show ¬(9:Int)=3;decide),fun _ _=>hs,fun q=>absurd q (by show ¬(9:Int)=6;decide),fun _=>hf,fun q=>absurd q (by show ¬(9:Int)=10;decide)⟩
 rw [if_neg h8]
 by_cases h9:a.nx=9
 ·rw [if_pos h9]
  have on:own i=some a.slot.toNat:=ho.trans (qtJ (by omega))
  have hs:=h.slot (by omega) (by omega)
  have hf:=h.f (.inr (by omega))
  obtain⟨e,e1,e2⟩:=(s.ow i _ on).2.2
  have e1':=e1
  unfold en at e1
  rw [Int.toNat_of_nonneg hs.1]at e1
  have hem:=qog e1
  have hmay:(⟨a.f,e.g,0,0,false,true⟩:Ent).may:=by unfold Ent.may at hem|-;simp only;exact⟨hf.1,hf.2,hem.2.2.1,hem.2.2.2.1,by omega,by omega,by omega,by omega,fun q=>(by cases q),fun q=>(by cases q)⟩
  show Res c ws L own n i ws (qtE c (.al (qph a (qkb (qi5 ws (qjx c a.slot 0))))))/\AI c ws (qph a (qkb (qi5 ws (qjx c a.slot 0))))
  rw [e1]
  unfold qph
  simp only
  rw [if_neg (by rw [e2];decide)]
  refine⟨by rw [qtJ (by show 4<=(10:Int)/\(10:Int)<=10;omega)];exact s.same (.inl on.symm), ?_⟩
  exact⟨by show 0<=(10:Int)/\(10:Int)<=12;omega,fun _ _ _=>h.kept (by omega) (by omega) (by omega),fun q=>absurd q (by show ¬(10:Int)<=2;decide),fun q=>absurd q (by show ¬(10:Int)=3;decide),fun _ _=>hs,fun q=>absurd q (by show ¬(10:Int)=6;decide),fun _=>hf,fun _=>⟨e,e1',e2,rfl,if_pos hmay,hmay⟩⟩
 rw [if_neg h9]
 by_cases ha:a.nx=10
 ·rw [if_pos ha]
  have on:own i=some a.slot.toNat:=ho.trans (qtJ (by omega))
  have hs:=h.slot (by omega) (by omega)
  have hk:=h.kept (by omega) (by omega) (by omega)
  obtain⟨e,e1,e2,e3,e4,e5⟩:=h.pub ha
  rw [if_pos hk]
  have hr:=s.waH hm on (v:=a.word) (e':=⟨a.f,e.g,0,0,false,true⟩) e1 (by rw [e4];exact qkf e5) rfl
  rw [Int.toNat_of_nonneg hs.1]at hr
  exact⟨by rw [qtK (by show ¬(4<=(11:Int)/\(11:Int)<=10);omega)];exact hr,qtI (.inr (.inl rfl))⟩
 rw [if_neg ha]
 have on:own i=none:=ho.trans (qtK (by omega))
 by_cases hb:a.nx=11
 ·rw [if_pos hb]
  exact⟨by rw [qtK (by show ¬(4<=(12:Int)/\(12:Int)<=10);omega)];exact s.same (.inr rfl),qtI (.inr (.inr rfl))⟩
 rw [if_neg hb]
 split
 ·exact⟨by rw [qtK (by show ¬(4<=(0:Int)/\(0:Int)<=10);omega)];exact s.word hm (by omega) (qtz hm (by omega)) (.inr rfl),qtI (.inl rfl)⟩
 ·exact⟨by rw [qtK (by show ¬(4<=(11:Int)/\(11:Int)<=10);omega)];exact s.same (.inr rfl),qtI (.inr (.inl rfl))⟩
end
section
variable {c:Cfg}{ws bs:List Int}{L:List Nat}{own:Nat->Option Nat}{n i:Nat}
def qtN {h S:Int}(hz:(ofR h S).2.2=0):0<=(ofR h S).1/\(ofR h S).1<S:=by
 unfold ofR ofO at hz|-
 cases hu:qn7 h with
 | none=>rw [hu]at hz;simp at hz
 | some p =>
   rw [hu]at hz
   simp only at hz|-
   by_cases g:S<=(p.1:Int)
   ·rw [if_pos g]at hz;simp at hz
   ·rw [if_neg g];simp only;omega
def qtO {w g:Int}{e:Ent}(h:qon g (qkb w)=some e):qkb w=some e/\e.lv=true:=by
 cases hu:qkb w with
 | none=>rw [hu]at h;cases h
 | some y =>
   rw [hu]at h
   unfold qon at h
   simp only at h
   split at h
   ·rename_i q
    injection h with h
    subst h
    exact⟨rfl,q.1⟩
   ·cases h
def qtP {x:Int}(h:0<=x):((x.toNat:Nat):Int)=x:=Int.toNat_of_nonneg h
def qtQ {a:Fe}(h:a.nx=0\/a.nx=1):FI c ws a:=⟨by omega,fun _=>by exfalso;omega,fun q=>by exfalso;omega,fun q=>by exfalso;omega⟩
def qtR (hm:c.may)(s:SI c ws L own n)(hn:n<4294967294){a:Fe}(h:FI c ws a)(ho:own i=qtE c (.fe a)):Res c ws L own n i (feS c a ws).2.1 (qtE c (.fe (feS c a ws).1))/\FI c (feS c a ws).2.1 (feS c a ws).1:=by
 have hnx:=h.nx
 unfold feS
 by_cases h0:a.nx=0
 ·rw [if_pos h0];exact⟨s.same (.inl ho.symm),h⟩
 rw [if_neg h0]
 by_cases h1:a.nx=1
 ·rw [if_pos h1]
  by_cases hz:(ofR a.h c.S).2.2≠0
  ·rw [if_pos hz]
   exact⟨s.same (.inr rfl),qtQ (.inl rfl)⟩
  ·rw [if_neg hz]
   have hsl:=qtN (Decidable.of_not_not hz)
   show Res c ws L own n i ws (qtE c (.fe (qo1 {a with word:=qi5 ws (feG c a)} (qoo ws c (ofR a.h c.S).1 (ofR a.h c.S).2.1)).1))/\FI c ws (qo1 {a with word:=qi5 ws (feG c a)} (qoo ws c (ofR a.h c.S).1 (ofR a.h c.S).2.1)).1
   cases hf:qoo ws c (ofR a.h c.S).1 (ofR a.h c.S).2.1 with
   | none=>exact⟨s.same (.inr rfl),qtQ (.inl rfl)⟩
   | some e =>
     obtain⟨e1,e2⟩:=qtO hf
     have hem:=qog e1
     unfold Ent.may at hem
     unfold qo1
     simp only
     by_cases g1:0<e.p
     ·rw [if_pos g1];exact⟨s.same (.inr rfl),qtQ (.inl rfl)⟩
     ·rw [if_neg g1]
      by_cases g2:e.u=0/\e.lk=false
      ·rw [if_pos g2]
       exact⟨s.same (.inr rfl),⟨by show 0<=(2:Int)/\(2:Int)<=3;omega,fun _=>hsl,fun _=>⟨e,e1,e2,by omega,g2.1,g2.2⟩,fun q=>absurd q (by show ¬(2:Int)=3;decide)⟩⟩
      ·rw [if_neg g2]
       exact⟨s.same (.inr (if_neg (by show ¬a.nx=3;omega))),qtQ (.inr h1)⟩
 rw [if_neg h1]
 by_cases h2:a.nx=2
 ·rw [if_pos h2]
  have on:own i=none:=ho.trans (if_neg (by omega))
  have hsl:=h.slot (by omega)
  obtain⟨e,e1,e2,e3,e4,e5⟩:=h.word h2
  have hem:=qog e1
  have hem':=hem
  unfold Ent.may at hem'
  have hg:0<=e.g/\e.g<=1000:=⟨hem'.2.2.1,hem'.2.2.2.1⟩
  have hF:qoc e=(0,⟨0,e.g+(if e.g<1000 then 1 else 0),0,0,false,false⟩):=by
   unfold qoc
   rw [if_neg (by rw [e3,e4,e5];decide)]
   congr 2
   unfold qj9
   by_cases q:e.g<1000
   ·rw [zzT q,if_pos rfl,if_pos q]
    exact qiX (by omega) (by omega)
   ·rw [zzF q,if_neg (by decide),if_neg q]
    exact qiX (by omega) (by omega)
  have hmay:(⟨0,e.g+(if e.g<1000 then 1 else 0),0,0,false,false⟩:Ent).may:=by
   unfold Ent.may
   simp only
   refine⟨by omega,by omega,by split<;>omega,by split<;>omega,by omega,by omega,by omega,by omega,fun q=>(by cases q),fun _=>by simp⟩
  have hu:qkb (chE a.word qoc).1=some ⟨0,e.g+(if e.g<1000 then 1 else 0),0,0,false,false⟩:=by
   unfold chE
   rw [e1]
   simp only
   rw [if_pos e2,hF]
   show qkb (if(0:Int)=0 then(if(⟨0,e.g+(if e.g<1000 then 1 else 0),0,0,false,false⟩:Ent).may then _ else _)else _:Int×Int).1=_
   rw [if_pos rfl,if_pos hmay]
   exact qkf hmay
  by_cases hc:qjh ws (feG c a) a.word=true
  ·rw [if_pos hc]
   have he:en c ws (ofR a.h c.S).1.toNat=some e:=by
    unfold en
    rw [qtP hsl.1]
    have:=(qts hc).2.2
    unfold feG at this
    rw [this];exact e1
   have go:∀o',(o'=none\/(qoe a.word=true/\o'=some (ofR a.h c.S).1.toNat))->Res c ws L own n i (qi6 ws (feG c a) (chE a.word qoc).1) o':=fun o' hh=>by
    have:=s.entry hm (i:=i) (f:=true) (x:=(ofR a.h c.S).1.toNat) (by rw [qtP hsl.1];exact hsl.2) (v:=(chE a.word qoc).1) he e2 hu (by simp only;split<;>omega) (fun _=>by simp only;split<;>omega) (o':=o') (by
     rcases hh with rfl|⟨hmo,rfl⟩
     ·exact .inl on.symm
     ·have hlt:e.g<1000:=by
       unfold qoe qod at hmo
       rw [e1]at hmo
       simp only [Bool.and_eq_true,decide_eq_true_eq]at hmo
       exact hmo.2
      exact .inr ⟨rfl,on,rfl,by simp only;rw [if_pos hlt];omega⟩) (fun _=>e5)
    rw [qtP hsl.1]at this
    exact this
   by_cases hmo:qoe a.word=true
   ·rw [if_pos hmo]
    have hown:qtE c (.fe {a with nx:=3,p:=⟨1,(ofR a.h c.S).1,0,0⟩})=some (ofR a.h c.S).1.toNat:=rfl
    have r3:Res c ws L own n i (qi6 ws (feG c a) (chE a.word qoc).1) (qtE c (.fe {a with nx:=3,p:=⟨1,(ofR a.h c.S).1,0,0⟩})):=by rw [hown];exact go _ (.inr ⟨hmo,rfl⟩)
    exact⟨r3,⟨by show 0<=(3:Int)/\(3:Int)<=3;omega,fun _=>hsl,fun q=>absurd q (by show ¬(3:Int)=2;decide),fun _=>⟨(qtP hsl.1).symm,.inl rfl,fun q=>absurd rfl q,fun q=>absurd q (by show ¬(1:Int)=3;decide)⟩⟩⟩
   ·rw [if_neg hmo]
    exact⟨go _ (.inl rfl),qtQ (.inl rfl)⟩
  ·rw [if_neg hc]
   exact⟨s.same (.inr rfl),qtQ (.inr rfl)⟩
 rw [if_neg h2]
 have h3:a.nx=3:=by omega
 have on:own i=some (ofR a.h c.S).1.toNat:=ho.trans (if_pos h3)
 have hr:=qtH hm s hn on (h.push h3)
 have hsl:=h.slot (by omega)
 generalize qnN c a.p ws=r at hr
 unfold qo2
 rcases hr with⟨q1,q2,q3⟩|⟨q1,q3⟩
 ·rw [if_neg (by rw [q1];decide)]
  exact⟨by show Res c ws L own n i r.2.1 (qtE c (.fe {a with p:=r.1}));rw [show qtE c (.fe {a with p:=r.1})=some (ofR a.h c.S).1.toNat from if_pos h3];exact q3,⟨h.nx,fun _=>hsl,fun q=>by have q:a.nx=2:=q;exfalso;omega,fun _=>q2⟩⟩
 ·rw [if_pos q1]
  exact⟨q3,qtQ (.inl rfl)⟩
def qtS {e:Ent}{b:Int}(h:(qmt b e).1=0):(qmt b e).2 = {e with u:=IntKind.i64.wrap (e.u+b)} := by
 unfold qmt at h|-
 split
 ·rename_i q;rw [if_pos q]at h;simp at h
 ·rfl
def qtT {a:Wr}(h:a.nx=0\/a.nx=1):WrJ c a:=⟨fun _ _=>by exfalso;omega,fun q=>by exfalso;omega⟩
def qtU (hm:c.may)(s:SI c ws L own n){a:Wr}(h:WrJ c a)(on:own i=none):Res c ws L own n i (wrS c a ws bs).2.1 none/\WrJ c (wrS c a ws bs).1:=by
 have same:Res c ws L own n i ws none:=s.same (.inr rfl)
 unfold wrS
 by_cases h1:a.nx=1
 ·rw [if_pos h1]
  by_cases hz:(ofR a.h c.S).2.2≠0
  ·rw [if_pos hz];exact⟨same,qtT (.inl rfl)⟩
  ·rw [if_neg hz]
   have hsl:=qtN (Decidable.of_not_not hz)
   refine⟨same, ?_⟩
   show WrJ c (qoD {a with word:=qi5 ws (wrG c a)} (qoo ws c (ofR a.h c.S).1 (ofR a.h c.S).2.1)).1
   cases hf:qoo ws c (ofR a.h c.S).1 (ofR a.h c.S).2.1 with
   | none=>exact qtT (.inl rfl)
   | some e =>
     obtain⟨e1,e2⟩:=qtO hf
     unfold qoD
     simp only
     by_cases g:e.lk=false/\e.u<15
     ·rw [if_pos g]
      exact⟨fun _ _=>hsl,fun _=>⟨e,e1,e2,g.1,g.2⟩⟩
     ·rw [if_neg g];exact qtT (.inr h1)
 rw [if_neg h1]
 by_cases h2:a.nx=2
 ·rw [if_pos h2]
  have hsl:=h.slot (by omega) h1
  by_cases hc:qjh ws (wrG c a) a.word=true
  ·rw [if_pos hc]
   obtain⟨e,e1,e2,e3,e4⟩:=h.word h2
   have hem:=qog e1
   have hem':=hem
   unfold Ent.may at hem'
   have hF:qmt 1 e=(0,{e with u:=e.u+1}):=by
    unfold qmt
    rw [if_neg (by omega),show IntKind.i64.wrap (e.u+1)=e.u+1 from qiX (by omega) (by omega)]
   have hmay:({e with u:=e.u+1} : Ent).may:=by
    unfold Ent.may
    simp only
    exact⟨hem'.1,hem'.2.1,hem'.2.2.1,hem'.2.2.2.1,hem'.2.2.2.2.1,hem'.2.2.2.2.2.1,by omega,by omega,(fun q=>by rw [e3]at q;cases q),(fun q=>by rw [e2]at q;cases q)⟩
   have hu:qkb (chE a.word (qmt 1)).1=some {e with u:=e.u+1} := by
    unfold chE
    rw [e1]
    simp only
    rw [if_pos e2,hF]
    show qkb (if(0:Int)=0 then(if({e with u:=e.u+1} : Ent).may then _ else _)else _:Int×Int).1=_
    rw [if_pos rfl,if_pos hmay]
    exact qkf hmay
   have he:en c ws (ofR a.h c.S).1.toNat=some e:=by
    unfold en
    rw [qtP hsl.1]
    have:=(qts hc).2.2
    unfold wrG at this
    rw [this];exact e1
   have:=s.entry hm (i:=i) (f:=true) (x:=(ofR a.h c.S).1.toNat) (by rw [qtP hsl.1];exact hsl.2) (v:=(chE a.word (qmt 1)).1) he e2 hu (Int.le_refl _) (fun q=>by have q:e.lv=false:=q;rw [e2]at q;cases q) (o':=none) (.inl on.symm) (fun _=>e3)
   rw [qtP hsl.1]at this
   exact⟨this,fun _ _=>hsl,fun q=>absurd q (by show ¬(3:Int)=2;decide)⟩
  ·rw [if_neg hc];exact⟨same,qtT (.inr rfl)⟩
 rw [if_neg h2]
 by_cases h3:a.nx=3
 ·rw [if_pos h3]
  have hsl:=h.slot (by omega) h1
  split
  ·exact⟨same,fun _ _=>hsl,fun q=>absurd q (by show ¬(5:Int)=2;decide)⟩
  ·exact⟨same,fun _ _=>hsl,fun q=>absurd q (by show ¬(4:Int)=2;decide)⟩
 rw [if_neg h3]
 by_cases h4:a.nx=4
 ·rw [if_pos h4]
  exact⟨same,fun _ _=>h.slot (by omega) h1,fun q=>absurd q (by show ¬(5:Int)=2;decide)⟩
 rw [if_neg h4]
 by_cases h5:a.nx=5
 ·rw [if_pos h5]
  exact⟨same,fun _ _=>h.slot (by omega) h1,fun q=>absurd q (by show ¬(6:Int)=2;decide)⟩
 rw [if_neg h5]
 by_cases h6:a.nx=6
 ·rw [if_pos h6]
  have hsl:=h.slot (by omega) h1
  by_cases hz:(chE a.word (qmt (-1))).2≠0
  ·rw [if_pos hz];exact⟨same,qtT (.inl rfl)⟩
  ·rw [if_neg hz]
   obtain⟨e,e1,e2,e3,e4,e5⟩:=qtF (Decidable.of_not_not hz)
   by_cases hc:qjh ws (wrG c a) a.word=true
   ·rw [if_pos hc]
    have hk:=qtS e3
    rw [hk]at e4 e5
    have hem:=qog e1
    have hlk:e.lk=false:=by
     cases q:e.lk with
     | false=>rfl
     | true =>
       unfold Ent.may at hem e4
       have a1:=hem.2.2.2.2.2.2.2.2.1 q
       have a2:=e4.2.2.2.2.2.2.1
       have a3:IntKind.i64.wrap (e.u + -1)=e.u + -1:=qiX (by omega) (by omega)
       simp only [a3]at a2
       omega
    have he:en c ws (ofR a.h c.S).1.toNat=some e:=by
     unfold en
     rw [qtP hsl.1]
     have:=(qts hc).2.2
     unfold wrG at this
     rw [this];exact e1
    have:=s.entry hm (i:=i) (f:=true) (x:=(ofR a.h c.S).1.toNat) (by rw [qtP hsl.1];exact hsl.2) (v:=(chE a.word (qmt (-1))).1) he e2 e5 (Int.le_refl _) (fun q=>by have q:e.lv=false:=q;rw [e2]at q;cases q) (o':=none) (.inl on.symm) (fun _=>hlk)
    rw [qtP hsl.1]at this
    exact⟨this,qtT (.inl rfl)⟩
   ·rw [if_neg hc]
    exact⟨same,fun _ _=>hsl,fun q=>absurd q (by show ¬(5:Int)=2;decide)⟩
 rw [if_neg h6]
 split<;>exact⟨same,h⟩
def qtV {e:Ent}{un:Bool}(h:(qoP un e).1=0)(hm:e.may):(qoP un e).2.g=e.g/\(qoP un e).2.lv=e.lv/\e.lk=false:=by
 unfold Ent.may at hm
 cases un with
 | true =>
   have h:(qms e).1=0:=h
   show(qms e).2.g=e.g/\(qms e).2.lv=e.lv/\e.lk=false
   unfold qms at h|-
   by_cases q:e.p=0
   ·rw [if_pos q]at h;simp at h
   ·rw [if_neg q]
    refine⟨rfl,rfl, ?_⟩
    cases z:e.lk with
    | false=>rfl
    | true=>have:=hm.2.2.2.2.2.2.2.2.1 z;omega
 | false =>
   have h:(qmr e).1=0:=h
   show(qmr e).2.g=e.g/\(qmr e).2.lv=e.lv/\e.lk=false
   unfold qmr at h|-
   cases z:e.lk with
   | true=>rw [z]at h;simp at h
   | false =>
     rw [z]at h
     rw [if_neg (by decide)]at h|-
     by_cases q:e.p=7
     ·rw [if_pos q]at h;simp at h
     ·rw [if_neg q];exact⟨rfl,rfl,rfl⟩
def qtW {a:Pn}(h:a.nx=0\/a.nx=1):PnJ c a:=⟨fun _ _=>by exfalso;omega,fun _ _=>by exfalso;omega⟩
def qtX (hm:c.may)(s:SI c ws L own n){a:Pn}(h:PnJ c a)(on:own i=none):Res c ws L own n i (pnS c a ws).2.1 none/\PnJ c (pnS c a ws).1:=by
 have same:Res c ws L own n i ws none:=s.same (.inr rfl)
 unfold pnS
 by_cases h0:a.nx=0
 ·rw [if_pos h0];exact⟨same,h⟩
 rw [if_neg h0]
 by_cases h1:a.nx=1
 ·rw [if_pos h1]
  by_cases hz:(ofR a.h c.S).2.2≠0
  ·rw [if_pos hz];exact⟨same,qtW (.inl rfl)⟩
  ·rw [if_neg hz]
   have hsl:=qtN (Decidable.of_not_not hz)
   refine⟨same, ?_⟩
   show PnJ c (qoS {a with word:=qi5 ws (pnG c a)} (qoo ws c (ofR a.h c.S).1 (ofR a.h c.S).2.1)).1
   cases hf:qoo ws c (ofR a.h c.S).1 (ofR a.h c.S).2.1 with
   | none=>exact qtW (.inl rfl)
   | some e =>
     unfold qoS
     simp only
     split
     ·exact qtW (.inr h1)
     ·unfold qoR
      by_cases g:(chE (qi5 ws (pnG c a)) (qoP a.un)).2≠0
      ·rw [if_pos g];exact qtW (.inl rfl)
      ·rw [if_neg g]
       exact⟨fun _ _=>hsl,fun _ _=>⟨rfl,Decidable.of_not_not g⟩⟩
 rw [if_neg h1]
 by_cases hc:qjh ws (pnG c a) a.word=true
 ·rw [if_pos hc]
  have hsl:=h.slot h0 h1
  obtain⟨t1,t2⟩:=h.to h0 h1
  obtain⟨e,e1,e2,e3,e4,e5⟩:=qtF t2
  have hk:=qtV e3 (qog e1)
  have he:en c ws (ofR a.h c.S).1.toNat=some e:=by
   unfold en
   rw [qtP hsl.1]
   have:=(qts hc).2.2
   unfold pnG at this
   rw [this];exact e1
  have:=s.entry hm (i:=i) (f:=true) (x:=(ofR a.h c.S).1.toNat) (by rw [qtP hsl.1];exact hsl.2) (v:=(chE a.word (qoP a.un)).1) he e2 e5 (by rw [hk.1];exact Int.le_refl _) (fun q=>by rw [hk.2.1,e2]at q;cases q) (o':=none) (.inl on.symm) (fun _=>hk.2.2)
  rw [qtP hsl.1,<-t1]at this
  exact⟨this,qtW (.inl rfl)⟩
 ·rw [if_neg hc];exact⟨same,qtW (.inr rfl)⟩
def qtY (hm:c.may)(s:SI c ws L own n)(hn:n<4294967294){m:Mx}(h:MI c ws m)(ho:own i=qtE c m):Res c ws L own n i (mxS c m ws bs).2.1 (qtE c (mxS c m ws bs).1)/\MI c (mxS c m ws bs).2.1 (mxS c m ws bs).1:=by
 cases m with
 | al a=>exact qtM hm s hn h ho
 | fe a=>exact qtR hm s hn h ho
 | rd a=>exact⟨s.same (.inr rfl),trivial⟩
 | wr a=>exact qtU hm s h ho
 | pn a=>exact qtX hm s h ho
 | no=>exact⟨s.same (.inr rfl),trivial⟩
def qtZ (o:Op4):MI c ws (mkM o)/\qtE c (mkM o)=none:=by
 unfold mkM
 repeat' split
 all_goals first
  | exact⟨⟨by show 0<=(1:Int)/\(1:Int)<=12;omega,fun _ _ _=>rfl,fun _ _=>rfl,fun q=>absurd q (by show ¬(1:Int)=3;decide),fun q=>absurd q (by show ¬4<=(1:Int);decide),fun q=>absurd q (by show ¬(1:Int)=6;decide),fun q=>absurd q (by show ¬((1:Int)=5\/(7<=(1:Int)/\(1:Int)<=10));omega),fun q=>absurd q (by show ¬(1:Int)=10;decide)⟩,rfl⟩
  | exact⟨qtQ (.inr rfl),rfl⟩
  | exact⟨qtT (.inr rfl),rfl⟩
  | exact⟨qtW (.inr rfl),rfl⟩
  | exact⟨trivial,rfl⟩
end
section
variable {c:Cfg}{ws bs:List Int}{L:List Nat}{own:Nat->Option Nat}{n i:Nat}
def qt0 {a:Al}(h:(alS c a ws bs).2.2.2≠none):qtE c (.al (alS c a ws bs).1)=none:=by
 unfold alS at h|-
 by_cases h0:a.nx=0
 ·rw [if_pos h0];exact qtK (show ¬(4<=a.nx/\a.nx<=10) by omega)
 rw [if_neg h0]at h|-
 by_cases h1:a.nx=1
 ·rw [if_pos h1]at h|-
  by_cases g:qpc a.n=0
  ·rw [if_pos g];exact qtK (by show ¬(4<=(0:Int)/\(0:Int)<=10);omega)
  ·rw [if_neg g]at h;exact absurd rfl h
 rw [if_neg h1]at h|-
 by_cases h2:a.nx=2
 ·rw [if_pos h2]at h
  split at h<;>exact absurd rfl h
 rw [if_neg h2]at h|-
 by_cases h3:a.nx=3
 ·rw [if_pos h3]at h;exact absurd rfl h
 rw [if_neg h3]at h|-
 by_cases h4:a.nx=4
 ·rw [if_pos h4]at h
  split at h<;>exact absurd rfl h
 rw [if_neg h4]at h|-
 by_cases h5:a.nx=5
 ·rw [if_pos h5]at h
  split at h<;>exact absurd rfl h
 rw [if_neg h5]at h|-
 by_cases h6:a.nx=6
 ·rw [if_pos h6]at h;exact absurd rfl h
 rw [if_neg h6]at h|-
 by_cases h7:a.nx=7
 ·rw [if_pos h7]at h
  split at h<;>exact absurd rfl h
 rw [if_neg h7]at h|-
 by_cases h8:a.nx=8
 ·rw [if_pos h8]at h;exact absurd rfl h
 rw [if_neg h8]at h|-
 by_cases h9:a.nx=9
 ·rw [if_pos h9]at h;exact absurd rfl h
 rw [if_neg h9]at h|-
 by_cases ha:a.nx=10
 ·rw [if_pos ha]at h;exact absurd rfl h
 rw [if_neg ha]at h|-
 by_cases hb:a.nx=11
 ·rw [if_pos hb]at h;exact absurd rfl h
 rw [if_neg hb]at h|-
 by_cases g:qjh ws 2 a.seen=true
 ·rw [if_pos g];exact qtK (by show ¬(4<=(0:Int)/\(0:Int)<=10);omega)
 ·rw [if_neg g]at h;exact absurd rfl h
def qt1 {a:Fe}(h:(feS c a ws).2.2≠none):qtE c (.fe (feS c a ws).1)=none:=by
 have e0:∀b:Fe,b.nx=0\/b.nx=1->qtE c (.fe b)=none:=fun b hb=>if_neg (by omega)
 unfold feS at h|-
 by_cases h0:a.nx=0
 ·rw [if_pos h0];exact e0 _ (.inl h0)
 rw [if_neg h0]at h|-
 by_cases h1:a.nx=1
 ·rw [if_pos h1]at h|-
  by_cases hz:(ofR a.h c.S).2.2≠0
  ·rw [if_pos hz];exact e0 _ (.inl rfl)
  ·rw [if_neg hz]
   show qtE c (.fe (qo1 {a with word:=qi5 ws (feG c a)} (qoo ws c (ofR a.h c.S).1 (ofR a.h c.S).2.1)).1)=none
   unfold qo1
   split
   ·exact e0 _ (.inl rfl)
   ·split
    ·exact e0 _ (.inl rfl)
    ·split
     ·rfl
     ·exact e0 _ (.inr h1)
 rw [if_neg h1]at h|-
 by_cases h2:a.nx=2
 ·rw [if_pos h2]at h|-
  by_cases hc:qjh ws (feG c a) a.word=true
  ·rw [if_pos hc]at h|-
   by_cases g:qoe a.word=true
   ·rw [if_pos g]at h;exact absurd rfl h
   ·rw [if_neg g];exact e0 _ (.inl rfl)
  ·rw [if_neg hc]at h;exact absurd rfl h
 rw [if_neg h2]at h|-
 unfold qo2 at h|-
 split at h
 ·rename_i g
  rw [if_pos g];exact e0 _ (.inl rfl)
 ·exact absurd rfl h
def qt2 {m:Mx}(h:(mxS c m ws bs).2.2.2≠none):qtE c (mxS c m ws bs).1=none:=by
 cases m with
 | al a=>exact qt0 h
 | fe a=>exact qt1 h
 | rd a=>rfl
 | wr a=>rfl
 | pn a=>rfl
 | no=>rfl
def qt3 (c:Cfg)(t:Th):Option Nat:=if t.nx=2 then qtE c t.m else none
def TInv (c:Cfg)(ws:List Int)(t:Th):Prop:=t.nx=2->MI c ws t.m
def qt4 (hm:c.may)(s:SI c ws L own n)(hn:n<4294967294){t:Th}(h:TInv c ws t)(ho:own i=qt3 c t):Res c ws L own n i (thS c t ws bs).2.1 (qt3 c (thS c t ws bs).1)/\TInv c (thS c t ws bs).2.1 (thS c t ws bs).1:=by
 have hm':=hm
 unfold Cfg.may at hm'
 have note:∀(k v:Int) (o':Option Nat),(o'=own i\/o'=none)->Res c ws L own n i (qi6 ws (qjF c k) v) o':=fun k v o' hh=>by
  have hk:qjF c k<4+c.T/\qjF c k≠1:=by unfold qjF;split<;>omega
  exact s.word hm hk.2 (qtz hm hk.1) hh
 unfold thS
 split
 ·exact⟨s.same (.inl ho.symm),h⟩
 ·by_cases h0:t.nx=0
  ·rw [if_pos h0]
   exact⟨s.same (.inr (if_neg (by show ¬(1:Int)=2;decide))),fun q=>absurd q (by show ¬(1:Int)=2;decide)⟩
  rw [if_neg h0]
  by_cases h1:t.nx=1
  ·rw [if_pos h1]
   exact⟨note _ _ _ (.inr (by show(if(2:Int)=2 then qtE c (mkM _)else none)=none;rw [if_pos rfl];exact(qtZ (c:=c) (ws:=ws) _).2)),fun _=>(qtZ _).1⟩
  rw [if_neg h1]
  by_cases h2:t.nx=2
  ·rw [if_pos h2]
   have hr:=qtY (bs:=bs) hm s hn (h h2) (ho.trans (if_pos h2))
   have hout:=qt2 (c:=c) (ws:=ws) (bs:=bs) (m:=t.m)
   unfold thW
   generalize mxS c t.m ws bs=r at hr hout
   obtain⟨m',ws',bs',oc⟩:=r
   cases oc with
   | none=>exact⟨by show Res c ws L own n i ws' (if t.nx=2 then qtE c m' else none);rw [if_pos h2];exact hr.1,fun _=>hr.2⟩
   | some q =>
     have e:=hout (by simp)
     refine⟨?_,fun q=>absurd q (by show ¬(3:Int)=2;decide)⟩
     have h1:=hr.1
     rw [e]at h1
     exact h1
  ·rw [if_neg h2]
   exact⟨note _ _ _ (.inr (if_neg (by show ¬(0:Int)=2;decide))),fun q=>absurd q (by show ¬(0:Int)=2;decide)⟩
def TInv.gu {t:Th}{j:Nat}{ws':List Int}{f:Bool}(h:TInv c ws t)(s:SI c ws L own n)(hn:n<4294967294)(g:Gu c (own i) ws ws' f)(hj:j≠i)(ho:own j=qt3 c t):TInv c ws' t:=fun q =>
 (h q).gu s hn g hj (ho.trans (if_pos q))
end
structure PI (c:Cfg)(ws:List Int)(m:Mc):Prop where
 cfg:m.c=c
 wg:m.wg
 e4:m.next=4->0<=m.e.o/\m.e.o<=4096
 ya:∀o∈m.ya,0<=o.o/\o.o<=4096/\8<=o.n/\o.n<=256
 dest:0<=m.dest/\m.dest<=4352
 word:m.next=6->m.dest<=4096/\∃e,qkb m.word=some e/\e.lv=true/\e.lk=false/\e.p=0/\e.u=0
 lock:7<=m.next->m.next<=9->m.dest<=4096/\qi5 ws (qjx c (qnr m).s 0)=m.word/\∃e,qkb m.word=some e/\e.lv=true/\e.lk=true
def PI.gu {c:Cfg}{ws ws':List Int}{L:List Nat}{own:Nat->Option Nat}{n i:Nat}{m:Mc}(h:PI c ws m)(s:SI c ws L own n)(g:Gu c (own i) ws ws'):PI c ws' m:=by
 refine⟨h.cfg,h.wg,h.e4,h.ya,h.dest,h.word,fun h1 h2 => ?_⟩
 obtain⟨d,a,e,b1,b2,b3⟩:=h.lock h1 h2
 refine⟨d, ?_,e,b1,b2,b3⟩
 have hl:=h.wg.1.look (by omega) h2
 have hc:=qnw h.wg.1.at_ hl
 have ho:=h.wg.1.ya _ (List.mem_of_getElem? hc)
 rw [h.cfg]at ho
 have hs:=qtP ho.1
 have he:en c ws (qnr m).s.toNat=some e:=by unfold en;rw [hs,a];exact b1
 rcases g.ent (qnr m).s.toNat (by rw [hs];exact ho.2) (fun q=>by
  obtain⟨_,_,y,y1,y2⟩:=s.ow i _ q
  rw [he]at y1
  injection y1 with y1
  subst y1
  rw [b2]at y2;cases y2)with q|⟨y,y1,_,y3⟩
 ·rw [hs]at q
  rw [q];exact a
 ·rw [he]at y1
  injection y1 with y1
  subst y1
  have:=y3 rfl
  rw [b3]at this;cases this
section
variable {c:Cfg}{ws bs:List Int}{L:List Nat}{own:Nat->Option Nat}{n i:Nat}{m:Mc}
def qt5 (c:Cfg)(ws:List Int)(r:Mc×Option Int):Prop:=r.2=none->PI c ws r.1
def qt6 {k:Int}(st:qnC c (onM m k))(ho:∀o∈m.ya,0<=o.o/\o.o<=4096/\8<=o.n/\o.n<=256)(hd:0<=m.dest/\m.dest<=4352)(h4:k=4->0<=m.e.o/\m.e.o<=4096)(hk:k<6\/9<k):qt5 c ws (onM m k):=fun q =>
 ⟨(st q).2,(st q).1,h4,ho,hd,fun z=>by have z:k=6:=z;exfalso;omega,fun z1 z2=>by have z1:7<=k:=z1;have z2:k<=9:=z2;exfalso;omega⟩
def qt7 (st:qnC c (qmR m))(ho:∀o∈m.ya,0<=o.o/\o.o<=4096/\8<=o.n/\o.n<=256)(hd:0<=m.dest/\m.dest<=4352):qt5 c ws (qmR m):=by
 unfold qmR at st|-
 split
 ·rename_i h1
  rw [if_pos h1]at st
  exact qt6 st ho hd (fun q=>absurd q (by decide)) (by omega)
 ·rename_i h1
  rw [if_neg h1]at st
  split
  ·exact fun q=>by cases q
  ·rename_i h2
   rw [if_neg h2]at st
   exact qt6 (m := {m with turn:=some ⟨1,0,0⟩}) st ho hd (fun q=>absurd q (by decide)) (by omega)
def qt8 (st:qnC c (qmU m))(ho:∀o∈m.ya,0<=o.o/\o.o<=4096/\8<=o.n/\o.n<=256)(hd:0<=m.dest/\m.dest<=4352):qt5 c ws (qmU m):=by
 unfold qmU at st|-
 split
 ·rename_i h1
  rw [if_pos h1]at st
  exact qt6 (m := {m with slot:=_}) st ho hd (fun q=>absurd q (by decide)) (by omega)
 ·rename_i h1
  rw [if_neg h1]at st
  exact qt7 (m := {m with slot:=_,ya:=qkN m.ya}) st (qnv ho) hd
end
section
variable {c:Cfg}{ws bs:List Int}{L:List Nat}{own:Nat->Option Nat}{n i:Nat}{m:Mc}
def qt9 {w:Int}{F:Ent->Ent}{e:Ent}(h:qkb w=some e)(hv:e.lv=true)(hm:(F e).may):qkb (chA w F)=some (F e):=by
 unfold chA
 rw [h]
 simp only
 rw [if_pos hv,if_pos hm]
 exact qkf hm
def qua (hm:c.may)(s:SI c ws L own n)(h:PI c ws m)(on:own i=none):Res c ws L own n i (qns m ws bs).2.1 none false/\qt5 c (qns m ws bs).2.1 (qns m ws bs).1:=by
 have st:=qnI (ws:=ws) (bs:=bs) h.wg h.cfg
 have hm':=hm
 unfold Cfg.may at hm'
 have same:Res c ws L own n i ws none false:=(s.same (.inr rfl)).weak
 have hnx:=h.wg.1.next
 have cur:5<=m.next->m.next<=9->0<=(qnr m).s/\(qnr m).s<c.S/\(0<=(qnr m).o/\(qnr m).o<=4096/\8<=(qnr m).n/\(qnr m).n<=256):=fun h5 h9=>by
  have hl:=h.wg.1.look h5 h9
  have hc:=List.mem_of_getElem? (qnw h.wg.1.at_ hl)
  have ho:=h.wg.1.ya _ hc
  rw [h.cfg]at ho
  exact⟨ho.1,ho.2,h.ya _ hc⟩
 unfold qns at st|-
 by_cases h1:m.next=1
 ·rw [if_pos h1]at st|-
  exact⟨same,qt6 (m := {m with top:=_}) st h.ya h.dest (fun q=>absurd q (by decide)) (by omega)⟩
 rw [if_neg h1]at st|-
 by_cases h2:m.next=2
 ·rw [if_pos h2]at st|-
  refine⟨same, ?_⟩
  show qt5 c ws (if qi5 ws 2≠0 then qmQ m else onM m 3)
  have st:qnC c (if qi5 ws 2≠0 then qmQ m else onM m 3):=st
  by_cases g:qi5 ws 2≠0
  ·rw [if_pos g];exact fun q=>by cases q
  ·rw [if_neg g]at st|-
   exact qt6 st h.ya h.dest (fun q=>absurd q (by decide)) (by omega)
 rw [if_neg h2]at st|-
 by_cases h3:m.next=3
 ·rw [if_pos h3]at st|-
  refine⟨same, ?_⟩
  show qt5 c ws (qm4 m ws)
  have st:qnC c (qm4 m ws):=st
  unfold qm4 at st|-
  cases hu:qkb (qi5 ws (qjx m.c m.slot 0))with
  | none =>
    rw [hu]at st
    exact qt8 (m := {m with e:=Ent.zero}) st h.ya h.dest
  | some e =>
    rw [hu]at st
    simp only at st|-
    have hem:=qog hu
    unfold Ent.may at hem
    by_cases g:e.lv=true/\e.o<m.top
    ·rw [if_pos g]at st|-
     exact qt6 (m := {m with e:=e}) st h.ya h.dest (fun _=>⟨hem.1,hem.2.1⟩) (by omega)
    ·rw [if_neg g]at st|-
     exact qt8 (m := {m with e:=e}) st h.ya h.dest
 rw [if_neg h3]at st|-
 by_cases h4:m.next=4
 ·rw [if_pos h4]at st|-
  refine⟨same, ?_⟩
  show qt5 c ws (qm2 m ws)
  have st:qnC c (qm2 m ws):=st
  unfold qm2 at st|-
  by_cases g:1<=qi5 ws (qjx m.c m.slot 1)/\qi5 ws (qjx m.c m.slot 1)<=256
  ·rw [if_pos g]at st|-
   refine qt8 (m := {m with ya:=m.ya ++ [⟨m.slot,m.e.o,qkq (qi5 ws (qjx m.c m.slot 1)),false⟩],g:=_}) st (fun o ho => ?_) h.dest
   rcases List.mem_append.1 ho with q|q
   ·exact h.ya o q
   ·rw [List.mem_singleton]at q
    subst q
    have:=h.e4 h4
    have hr:8<=qkq (qi5 ws (qjx m.c m.slot 1))/\qkq (qi5 ws (qjx m.c m.slot 1))<=256:=by unfold qkq;omega
    exact⟨this.1,this.2,hr⟩
  ·rw [if_neg g]at st|-
   exact qt8 st h.ya h.dest
 rw [if_neg h4]at st|-
 by_cases h5:m.next=5
 ·rw [if_pos h5]at st|-
  refine⟨same, ?_⟩
  have hcu:=cur (by omega) (by omega)
  show qt5 c ws (qnd m ws (qnr m))
  have st:qnC c (qnd m ws (qnr m)):=st
  unfold qnd at st|-
  cases hu:qkb (qi5 ws (qjx m.c (qnr m).s 0))with
  | none =>
    rw [hu]at st
    exact qt7 (m := {m with word:=_,yx:=_}) st h.ya h.dest
  | some e =>
    rw [hu]at st
    simp only at st|-
    have hem:=qog hu
    unfold Ent.may at hem
    by_cases g1:e.lv=false\/e.g≠m.g (qnr m).s.toNat\/e.o≠(qnr m).o
    ·rw [if_pos g1]at st|-
     exact qt7 (m := {m with word:=_,yx:=_}) st h.ya h.dest
    ·rw [if_neg g1]at st|-
     by_cases g2:0<e.p+e.u\/e.lk=true\/e.o<=m.dest
     ·rw [if_pos g2]at st|-
      refine qt7 (m := {m with word:=_,dest:=qm9 m.dest (w64 ((qnr m).o+(qnr m).n)),yx:=_}) st h.ya ?_
      have hw:w64 ((qnr m).o+(qnr m).n)=(qnr m).o+(qnr m).n:=qiX (by omega) (by omega)
      have hd:=h.dest
      show 0<=qm9 m.dest (w64 ((qnr m).o+(qnr m).n))/\qm9 m.dest (w64 ((qnr m).o+(qnr m).n))<=4352
      rw [hw]
      unfold qm9
      split<;>omega
     ·rw [if_neg g2]at st|-
      have hlv:e.lv=true:=by
       cases q:e.lv with
       | true=>rfl
       | false=>exact absurd (.inl q) g1
      have hlk:e.lk=false:=by
       cases q:e.lk with
       | false=>rfl
       | true=>exact absurd (.inr (.inl q)) g2
      have hd:=h.dest
      exact fun q=>⟨(st q).2,(st q).1,fun z=>absurd z (by show ¬(6:Int)=4;decide),h.ya,hd,fun _=>⟨by show m.dest<=4096;omega,e,hu,hlv,hlk,by omega,by omega⟩,fun z=>absurd z (by show ¬7<=(6:Int);decide)⟩
 rw [if_neg h5]at st|-
 by_cases h6:m.next=6
 ·rw [if_pos h6]at st|-
  have hcu:=cur (by omega) (by omega)
  obtain⟨hd,e,e1,e2,e3,e4,e5⟩:=h.word h6
  show Res c ws L own n i (qnf m ws (qnr m)).2 none false/\qt5 c (qnf m ws (qnr m)).2 (qnf m ws (qnr m)).1
  have st:qnC c (qnf m ws (qnr m)).1:=st
  unfold qnf at st|-
  rw [h.cfg]at st|-
  by_cases hc:qjh ws (qjx c (qnr m).s 0) m.word=true
  ·rw [if_pos hc]at st|-
   have hcg:=qts hc
   have hem:=qog e1
   have hmay:(qm7 e).may:=by
    unfold Ent.may at hem|-
    unfold qm7
    simp only
    exact⟨hem.1,hem.2.1,hem.2.2.1,hem.2.2.2.1,hem.2.2.2.2.1,hem.2.2.2.2.2.1,hem.2.2.2.2.2.2.1,hem.2.2.2.2.2.2.2.1,(fun _=>by omega),(fun q=>by rw [e2]at q;cases q)⟩
   have hu:=qt9 (F:=qm7) e1 e2 hmay
   have he:en c ws (qnr m).s.toNat=some e:=by unfold en;rw [qtP hcu.1,hcg.2.2];exact e1
   have hr:=s.entry hm (i:=i) (f:=true) (x:=(qnr m).s.toNat) (by rw [qtP hcu.1];exact hcu.2.1) (v:=chA m.word qm7) he e2 hu (Int.le_refl _) (fun q=>by have q:e.lv=false:=q;rw [e2]at q;cases q) (o':=none) (.inl on.symm) (fun _=>e3)
   rw [qtP hcu.1]at hr
   refine⟨hr.weak,fun q=>⟨(st q).2,(st q).1,fun z=>absurd z (by show ¬(7:Int)=4;decide),h.ya,h.dest,fun z=>absurd z (by show ¬(7:Int)=6;decide),fun _ _=>⟨hd, ?_,_,hu,e2,rfl⟩⟩⟩
   exact qtr hcg.1 hcg.2.1
  ·rw [if_neg hc]at st|-
   exact⟨same,qt6 st h.ya h.dest (fun q=>absurd q (by decide)) (by omega)⟩
 rw [if_neg h6]at st|-
 by_cases h7:m.next=7
 ·rw [if_pos h7]at st|-
  have hl:=h.lock (by omega) (by omega)
  exact⟨same,fun q=>⟨(st q).2,(st q).1,fun z=>absurd z (by show ¬(8:Int)=4;decide),h.ya,h.dest,fun z=>absurd z (by show ¬(8:Int)=6;decide),fun _ _=>hl⟩⟩
 rw [if_neg h7]at st|-
 by_cases h8:m.next=8
 ·rw [if_pos h8]at st|-
  have hl:=h.lock (by omega) (by omega)
  refine⟨same,fun q=>⟨(st q).2,(st q).1,fun z => ?_,h.ya,h.dest,fun z => ?_,fun _ _=>hl⟩⟩
  ·have z:(if w64 (m.i+1)<(qnr m).n then(7:Int)else 9)=4:=z
   split at z<;>omega
  ·have z:(if w64 (m.i+1)<(qnr m).n then(7:Int)else 9)=6:=z
   split at z<;>omega
 rw [if_neg h8]at st|-
 by_cases h9:m.next=9
 ·rw [if_pos h9]at st|-
  have hcu:=cur (by omega) (by omega)
  obtain⟨hd,a,e,e1,e2,e3⟩:=h.lock (by omega) (by omega)
  show Res c ws L own n i (qnj m ws (qnr m)).2 none false/\qt5 c (qnj m ws (qnr m)).2 (qnj m ws (qnr m)).1
  have st:qnC c (qnj m ws (qnr m)).1:=st
  unfold qnj at st|-
  rw [h.cfg]
  have hem:=qog e1
  have hd0:=h.dest
  have hmay:(qm8 m.dest e).may:=by
   unfold Ent.may at hem|-
   unfold qm8
   simp only
   exact⟨hd0.1,hd,hem.2.2.1,hem.2.2.2.1,hem.2.2.2.2.1,hem.2.2.2.2.2.1,hem.2.2.2.2.2.2.1,hem.2.2.2.2.2.2.2.1,(fun q=>by cases q),(fun q=>by rw [e2]at q;cases q)⟩
  have hu:=qt9 (F:=qm8 m.dest) e1 e2 hmay
  have he:en c ws (qnr m).s.toNat=some e:=by unfold en;rw [qtP hcu.1,a];exact e1
  have hr:=s.entry hm (i:=i) (f:=false) (x:=(qnr m).s.toNat) (by rw [qtP hcu.1];exact hcu.2.1) (v:=chA m.word (qm8 m.dest)) he e2 hu (Int.le_refl _) (fun q=>by have q:e.lv=false:=q;rw [e2]at q;cases q) (o':=none) (.inl on.symm) (fun q=>by cases q)
  rw [qtP hcu.1]at hr
  have hw:w64 (m.dest+(qnr m).n)=m.dest+(qnr m).n:=qiX (by omega) (by omega)
  have hp:qt5 c (qi6 ws (qjx c (qnr m).s 0) (chA m.word (qm8 m.dest))) (qmR {m with dest:=w64 (m.dest+(qnr m).n),moved:=w64 (m.moved+1),yx:=w64 (m.yx+1)}):=qt7 st h.ya (by
   show 0<=w64 (m.dest+(qnr m).n)/\w64 (m.dest+(qnr m).n)<=4352
   rw [hw]
   omega)
  rw [h.cfg]at hp
  exact⟨hr,hp⟩
 rw [if_neg h9]at st|-
 by_cases ha:m.next=10
 ·rw [if_pos ha]at st|-
  have hts:Res c ws L own n i (qnn m.c (m.turn.getD ⟨0,0,0⟩) ws).2 none false:=by
   have w3:∀v,Res c ws L own n i (qi6 ws 3 v) none false:=fun v=>(s.word hm (by omega) (qtz hm (by omega)) (.inr rfl)).weak
   unfold qnn
   repeat' split
   all_goals first|exact same|exact w3 _
  refine⟨hts, ?_⟩
  show qt5 c (qnn m.c (m.turn.getD ⟨0,0,0⟩) ws).2 (qnp m (m.turn.getD ⟨0,0,0⟩) ws).1
  have st:qnC c (qnp m (m.turn.getD ⟨0,0,0⟩) ws).1:=st
  unfold qnp at st|-
  by_cases g1:(qnn m.c (m.turn.getD ⟨0,0,0⟩) ws).1.2.2=false
  ·rw [if_pos g1]at st|-
   exact qt6 (m := {m with turn:=_}) st h.ya h.dest (fun q=>absurd q (by decide)) (by omega)
  ·rw [if_neg g1]at st|-
   by_cases g2:(qnn m.c (m.turn.getD ⟨0,0,0⟩) ws).1.2.1=false
   ·rw [if_pos g2]at st|-
    exact fun q=>by cases q
   ·rw [if_neg g2]at st|-
    exact qt6 (m := {m with turn:=_}) st h.ya h.dest (fun q=>absurd q (by decide)) (by omega)
 rw [if_neg ha]at st|-
 refine⟨?_,fun q=>by cases q⟩
 show Res c ws L own n i (if qjh ws 0 m.top then qi6 ws 0 m.dest else ws) none false
 split
 ·exact(s.word hm (by omega) (qtz hm (by omega)) (.inr rfl)).weak
 ·exact same
end
def qub (c:Cfg)(ts:List Th):Nat->Option Nat:=fun i=>match ts[i]? with|some t=>qt3 c t|none=>none
structure WS (c:Cfg)(w:Wst)(n:Nat)(L:List Nat):Prop where
 si:SI c w.ws L (qub c w.ts) n
 th:∀(i:Nat) t,w.ts[i]? = some t->TInv c w.ws t
 pi:PI c w.ws w.m
def SI.mono {c:Cfg}{ws:List Int}{L:List Nat}{own:Nat->Option Nat}{n:Nat}(h:SI c ws L own n):SI c ws L own (n+1):=by
 obtain⟨t,g,a,b,d⟩:=h.head
 exact⟨h.len,⟨t,g,a,by omega,d⟩,h.nodup,h.valid,h.yP,h.ow,h.inj⟩
def Mono.refl (c:Cfg)(ws:List Int):Mono c ws ws:=fun x e e' _ h1 h2=>by
 rw [h1]at h2
 injection h2 with h2
 subst h2
 exact⟨Int.le_refl _,fun a b=>by rw [a]at b;cases b⟩
def WS.stay {c:Cfg}{w:Wst}{n:Nat}{L:List Nat}(h:WS c w n L):WS c w (n+1) L:=⟨h.si.mono,h.th,h.pi⟩
def Av.refl (c:Cfg)(ws:List Int)(L:List Nat)(own:Nat->Option Nat):Av c ws ws L L own own:=fun x hx => .inl hx
def quc {c:Cfg}(hm:c.may)(ws:List Int):PI c ws (mc0 c) :=
 ⟨rfl,qnJ hm,fun q=>absurd q (by show ¬(1:Int)=4;decide),(fun o ho=>by cases ho),by show(0:Int)<=0/\(0:Int)<=4352;omega,fun q=>absurd q (by show ¬(1:Int)=6;decide),fun q=>absurd q (by show ¬7<=(1:Int);decide)⟩
def qud {c:Cfg}{ts:List Th}{i:Nat}{t:Th}(h:i<ts.length):qub c (ts.set i t)=qtx (qub c ts) i (qt3 c t):=by
 funext k
 unfold qub qtx
 by_cases hk:k=i
 ·subst hk
  rw [List.getElem?_set_self h,if_pos rfl]
 ·rw [zzN (Ne.symm hk),if_neg hk]
def que {c:Cfg}{w:Wst}{n:Nat}{L:List Nat}(hm:c.may)(h:WS c w n L)(hn:n<4294967294)(k:Int):∃L',WS c (qrb c w k).1 (n+1) L'/\Mono c w.ws (qrb c w k).1.ws/\Av c w.ws (qrb c w k).1.ws L L' (qub c w.ts) (qub c (qrb c w k).1.ts):=by
 have st:∃L',WS c w (n+1) L'/\Mono c w.ws w.ws/\Av c w.ws w.ws L L' (qub c w.ts) (qub c w.ts):=⟨L,h.stay,Mono.refl _ _,Av.refl _ _ _ _⟩
 unfold qrb
 split
 ·exact st
 ·split
  ·show ∃L',WS c (qq9 c w) (n+1) L'/\Mono c w.ws (qq9 c w).ws/\Av c w.ws (qq9 c w).ws L L' (qub c w.ts) (qub c (qq9 c w).ts)
   have s:=h.si
   have on:qub c w.ts w.ts.length=none:=by unfold qub;rw [zzE (zzR _)]
   have hr:=qua (bs:=w.bs) hm s h.pi on
   obtain⟨L',hs⟩:=hr.1.si
   rw [<-on,qty]at hs
   have ht:∀(i:Nat) t,w.ts[i]? = some t->TInv c (qns w.m w.ws w.bs).2.1 t:=fun i t hi=>(h.th i t hi).gu (j:=i) (i:=w.ts.length) s hn hr.1.gu (by have:=(zzS.1 hi).1;omega) (by unfold qub;rw [hi])
   unfold qq9
   cases hz:(qns w.m w.ws w.bs).1.2 with
   | none=>exact⟨L',⟨hs.1,ht,hr.2 hz⟩,hr.1.mono,hs.2⟩
   | some q=>exact⟨L',⟨hs.1,ht,quc hm _⟩,hr.1.mono,hs.2⟩
  ·split
   ·exact st
   ·rename_i t ht
    split
    ·exact st
    ·have s:=h.si
     have hil:=(zzS.1 ht).1
     have ho:qub c w.ts k.toNat=qt3 c t:=by unfold qub;rw [ht]
     have hr:=qt4 (bs:=w.bs) hm s hn (h.th _ t ht) ho
     obtain⟨L',hs⟩:=hr.1.si
     rw [<-qud hil]at hs
     refine⟨L',⟨hs.1,fun j u hu => ?_,h.pi.gu s hr.1.gu⟩,hr.1.mono,hs.2⟩
     have hu:(w.ts.set k.toNat (thS c t w.ws w.bs).1)[j]? = some u:=hu
     by_cases hj:j=k.toNat
     ·subst hj
      rw [List.getElem?_set_self hil]at hu
      injection hu with hu
      subst hu
      exact hr.2
     ·rw [zzN (Ne.symm hj)]at hu
      exact(h.th j u hu).gu (j:=j) (i:=k.toNat) s hn hr.1.gu hj (by unfold qub;rw [hu])
def quf {c:Cfg}(hm:c.may){x:Nat}(hx:(x:Int)<c.S):lkI c (qjJ c) x=if(x:Int)+1<c.S then(x:Int)+2 else 0:=by
 unfold Cfg.may at hm
 have e:qjx c x 2=4+c.T+3*x+2:=by unfold qjx;rw [if_pos ⟨by omega,hx⟩]
 have hl:((qjJ c).length:Int)=qi2 c:=by rw [qjL];unfold qi2;omega
 obtain⟨k,hk⟩:∃k:Nat,qjx c x 2=k:=⟨(qjx c x 2).toNat,by omega⟩
 unfold lkI qi5
 unfold qi2 at hl
 rw [if_pos ⟨by omega,by omega⟩,hk,Int.toNat_natCast,List.getD_eq_getElem?_getD]
 unfold qjJ
 rw [zzN (by omega),qjM c 0 (by unfold qi2;omega)]
 unfold qjI
 show(if _ then _ else _:Int)=_
 have e2:((k:Int)-4-c.T)/3=x:=by omega
 rw [e2]
 by_cases h:(x:Int)+1<c.S
 ·rw [if_pos h,if_pos ⟨by omega,by omega,by omega,h⟩]
 ·rw [if_neg h,if_neg (fun q=>h q.2.2.2)]
def qug {c:Cfg}(hm:c.may):∀(k x:Nat),0<k->(x:Int)+k=c.S->Chain c (qjJ c) (x+1) (List.range' x k)
 | 0,x,h,_=>absurd h (Nat.lt_irrefl _)
 | 1,x,_,hs=>by
   refine⟨rfl,by omega,0, ?_,rfl⟩
   rw [quf hm (by omega),if_neg (by omega)]
   rfl
 | k+2,x,_,hs=>by
   refine⟨rfl,by omega,x+1+1, ?_,qug hm (k+1) (x+1) (by omega) (by omega)⟩
   rw [quf hm (by omega),if_pos (by omega)]
   omega
def quh {c:Cfg}(hm:c.may){x:Nat}(hx:(x:Int)<c.S):en c (qjJ c) x=some Ent.zero:=by
 have e:qjx c x 0=4+c.T+3*x:=by unfold qjx;rw [if_pos ⟨by omega,hx⟩];omega
 unfold Cfg.may at hm
 have hl:((qjJ c).length:Int)=qi2 c:=by rw [qjL];unfold qi2;omega
 obtain⟨k,hk⟩:∃k:Nat,qjx c x 0=k:=⟨(qjx c x 0).toNat,by omega⟩
 have hz:qi5 (qjJ c) (qjx c x 0)=0:=by
  unfold qi5
  unfold qi2 at hl
  rw [if_pos ⟨by omega,by omega⟩,hk,Int.toNat_natCast,List.getD_eq_getElem?_getD]
  unfold qjJ
  rw [zzN (by omega),qjM c 0 (by unfold qi2;omega)]
  unfold qjI
  rw [if_neg (by omega)]
  rfl
 unfold en
 rw [hz]
 decide
def qui {c:Cfg}(hm:c.may)(l:List (Value×List Op4)):WS c (w0 c l) 0 (List.range' 0 c.S.toNat):=by
 have hm':=hm
 unfold Cfg.may at hm'
 have on:qub c (w0 c l).ts=fun _=>none:=by
  funext i
  unfold qub
  cases h:(w0 c l).ts[i]? with
  | none=>rfl
  | some t =>
    obtain⟨j,_,rfl⟩:=List.mem_map.1 (List.mem_of_getElem? h)
    rfl
 refine⟨?_,fun i t ht => ?_,quc hm _⟩
 ·rw [on]
  refine⟨qjL c,⟨1,0, ?_,zzR _,qug hm c.S.toNat 0 (by omega) (by omega)⟩,List.nodup_range',fun x hx=>⟨_,quh hm hx⟩,fun x hx => ?_,(fun i x h=>by cases h),(fun i j x h=>by cases h)⟩
  ·have:qi5 (qjJ c) 1=1:=by
    have hl:((qjJ c).length:Int)=qi2 c:=by rw [qjL];unfold qi2;omega
    unfold qi2 at hl
    unfold qi5
    rw [if_pos ⟨by omega,by omega⟩,List.getD_eq_getElem?_getD]
    unfold qjJ at hl|-
    rw [zzQ]at hl
    rw [show(1:Int).toNat=1 from rfl,List.getElem?_set_self (by omega)]
    rfl
   rw [show(w0 c l).ws=qjJ c from rfl,this]
   decide
  ·have hx:x<c.S.toNat:=by
    have:=List.mem_range'.1 hx
    omega
   exact⟨_,quh hm (by omega),rfl⟩
 ·obtain⟨j,_,rfl⟩:=List.mem_map.1 (List.mem_of_getElem? ht)
  exact fun q=>absurd q (by show ¬(0:Int)=2;decide)
end Go.Proofs.YtlgnnpkdhbhdgaaGreat
