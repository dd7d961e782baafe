/- WorldHandles, as the program runs it: what it needs. -/
import Derived.Test.YtdinebegmppnoaaGreatHandlesK
import Derived.Test.YtdinebegmppnoaaGreatHandlesJ
import Derived.Test.YtdinebegmppnoaaGreatWorldI
import Derived.Test.YtdinebegmppnoaaGreatThreadP3
set_option linter.unusedVariables false
set_option linter.unusedSimpArgs false

namespace Go.Proofs.YtdinebegmppnoaaGreat
open Go Go.Ir

section
variable {H:qab}{g:Nat→Nat}{c:Cfg}{cb:CB}{B:Nat}{w:Wst}{pb:List Nat}{M ka kh:Nat}{tv hv:Value}
theorem qsW {es:List (List Value)}(o:OutB H hv es kh)(hn:es.length≤100000):∃v' H',qfV En 0 Id.zcD [hv] H=some (v',H')∧Ext H H'∧Sl H' 8 v' es:=by
 rcases o.2 with⟨rfl,rfl⟩|⟨h0,rfl,h3⟩
 ·refine⟨.slice none 0 0,H, ?_,.refl _,⟨by simp,.inl ⟨rfl,none,0,rfl⟩⟩⟩
  refine qgx rfl Fn.zcD rfl rfl ?_
  repeat' (first|(show ER _ _ _ _ _ _ _;first|refine .seq ?_|refine .reg ?_|refine .yes rfl ?_|refine .no rfl ?_|refine .skip ?_|refine .block ?_|refine .endB ?_|refine .exit rfl ?_|refine .br rfl (fun hc => ?_) (fun hc => ?_)|refine .scope ?_|refine .inScope ?_|refine .label ?_|refine .ret rfl ?_|refine .nil rfl ?_)|(show EG _ _ _ _ _ _ _ _ _;first|refine .mov rfl rfl ?_|refine .lload rfl rfl rfl rfl ?_|refine .laddr rfl rfl rfl ?_|(show EG _ _ (⟨_,.bin _ _ _,_,_⟩::_) _ _ _ _ _ _;first|refine .lss rfl rfl rfl (fun hc => ?_) (fun hc => ?_)|refine .leq rfl rfl rfl (fun hc => ?_) (fun hc => ?_)|refine .gtr rfl rfl rfl (fun hc => ?_) (fun hc => ?_)|refine .geq rfl rfl rfl (fun hc => ?_) (fun hc => ?_)|refine .eql rfl rfl rfl (fun hc => ?_) (fun hc => ?_)|refine .neq rfl rfl rfl (fun hc => ?_) (fun hc => ?_))|refine .skip rfl ?_|refine .fin ?_|refine .go rfl rfl rfl ?_|refine .gono rfl rfl rfl ?_|refine .skipn rfl ?_))
  rfl
 ·have hel:¬es.length=0:=fun e=>h0 (List.length_eq_zero_iff.1 e)
  have hx:Ext H (H ++ [Blk.row [] false]):=(Ext.refl H).app _
  have hold:qaD (H ++ [Blk.row [] false]) 8 es.length (.slice (some (loose kh 0)) es.length 8)=some es.flatten:=by
   unfold qaD
   simp only
   rw [if_neg hel]
   exact qgE (a:=loose kh 0) ((hx.2 kh (qip h3)).trans h3) rfl (qgA o.1).symm
  have ha:qaF 0 8 64 (H ++ [Blk.row [] false]) (.slice (some ⟨H.length,0,none⟩) 0 0) (.slice (some (loose kh 0)) es.length 8)=some (.slice (some (loose (H.length+1) 0)) es.length 8,H ++ [Blk.row [] false] ++ [Blk.row es.flatten false]):=by
   simp only [qaF,qaC,hold,Nat.zero_add]
   rw [if_pos (.inl ⟨by omega,by decide⟩),if_neg hel]
   simp [qaD,h0]
  refine⟨.slice (some (loose (H.length+1) 0)) es.length 8,H ++ [Blk.row [] false] ++ [Blk.row es.flatten false], ?_,hx.app _,⟨o.1,.inr ⟨_,_,rfl, ?_⟩⟩⟩
  ·refine qgx rfl Fn.zcD rfl rfl ?_
   repeat' (first|(show ER _ _ _ _ _ _ _;first|refine .seq ?_|refine .reg ?_|refine .yes rfl ?_|refine .no rfl ?_|refine .skip ?_|refine .block ?_|refine .endB ?_|refine .exit rfl ?_|refine .br rfl (fun hc => ?_) (fun hc => ?_)|refine .scope ?_|refine .inScope ?_|refine .label ?_|refine .ret rfl ?_|refine .nil rfl ?_)|(show EG _ _ _ _ _ _ _ _ _;first|refine .mov rfl rfl ?_|refine .lload rfl rfl rfl rfl ?_|refine .laddr rfl rfl rfl ?_|(show EG _ _ (⟨_,.bin _ _ _,_,_⟩::_) _ _ _ _ _ _;first|refine .lss rfl rfl rfl (fun hc => ?_) (fun hc => ?_)|refine .leq rfl rfl rfl (fun hc => ?_) (fun hc => ?_)|refine .gtr rfl rfl rfl (fun hc => ?_) (fun hc => ?_)|refine .geq rfl rfl rfl (fun hc => ?_) (fun hc => ?_)|refine .eqlT rfl rfl rfl (by omega) ?_|refine .eqlF rfl rfl rfl (by omega) ?_|refine .neq rfl rfl rfl (fun hc => ?_) (fun hc => ?_))|refine .app rfl rfl rfl (ha) ?_|refine .skip rfl ?_|refine .fin ?_|refine .go rfl rfl rfl ?_|refine .gono rfl rfl rfl ?_|refine .skipn rfl ?_))
   rfl
  ·exact qgE (a:=loose (H.length+1) 0) (ro:=false) (by
    show(H ++ [Blk.row [] false] ++ [Blk.row es.flatten false])[H.length+1]? = _
    rw [←show(H ++ [Blk.row [] false]).length=H.length+1 by simp]
    exact List.getElem?_concat_length) rfl (qgA o.1).symm
theorem qsX (h:WInv H g c cb B w pb M ka kh tv hv)(hn:w.evs.length≤100000):∃v' H',qfV En 0 Id.zdh [qkh B] H=some (v',H')∧Ext H H'∧Sl H' 8 v' w.evs:=by
 obtain⟨v',H',h1,h2,h3⟩:=qsW h.out hn
 refine⟨v',H', ?_,h2,h3⟩
 have l6:qav H none ⟨B,0+6,none⟩=some hv:=qiq h.row rfl
 refine qgx rfl Fn.zdh rfl rfl ?_
 repeat' (first|(show ER _ _ _ _ _ _ _;first|refine .seq ?_|refine .reg ?_|refine .yes rfl ?_|refine .no rfl ?_|refine .skip ?_|refine .block ?_|refine .endB ?_|refine .exit rfl ?_|refine .br rfl (fun hc => ?_) (fun hc => ?_)|refine .scope ?_|refine .inScope ?_|refine .label ?_|refine .ret rfl ?_|refine .nil rfl ?_)|(show EG _ _ _ _ _ _ _ _ _;first|refine .mov rfl rfl ?_|refine .lload rfl rfl rfl rfl ?_|refine .laddr rfl rfl rfl ?_|(show EG _ _ (⟨_,.bin _ _ _,_,_⟩::_) _ _ _ _ _ _;first|refine .lss rfl rfl rfl (fun hc => ?_) (fun hc => ?_)|refine .leq rfl rfl rfl (fun hc => ?_) (fun hc => ?_)|refine .gtr rfl rfl rfl (fun hc => ?_) (fun hc => ?_)|refine .geq rfl rfl rfl (fun hc => ?_) (fun hc => ?_)|refine .eql rfl rfl rfl (fun hc => ?_) (fun hc => ?_)|refine .neq rfl rfl rfl (fun hc => ?_) (fun hc => ?_))|refine .load rfl rfl (l6) ?_|refine .call rfl rfl (h1) ?_|refine .skip rfl ?_|refine .fin ?_|refine .go rfl rfl rfl ?_|refine .gono rfl rfl rfl ?_|refine .skipn rfl ?_))
 rfl
end

def KeptG (c:Cfg)(ws:List Int)(W:List Nat):Prop:=∀(s v:Nat),W[s]? = some v→∀e,en c ws s=some e→(v:Int)≤e.g
theorem KeptG.mono {c:Cfg}{ws ws':List Int}{W:List Nat}{sn:Nat}(h:KeptG c ws W)(hS:c.S=sn)(hl:W.length=sn)(hv:∀x:Nat,(x:Int)<c.S→∃e,en c ws x=some e)(m:Mono c ws ws'):KeptG c ws' W:=fun s v hs e he=>by
 have hsl:=(List.getElem?_eq_some_iff.1 hs).1
 obtain⟨e0,h0⟩:=hv s (by omega)
 have h1:=h s v hs e0 h0
 have h2:=(m s e0 e (by omega) h0 he).1
 omega
theorem KeptG.set {c:Cfg}{ws:List Int}{W:List Nat}{s n:Nat}{x:Ent}(h:KeptG c ws W)(hx:en c ws s=some x)(hn:x.g=n):KeptG c ws (W.set s n):=fun t v ht e he=>by
 rcases qsI ht with⟨rfl,rfl⟩|⟨_,q⟩
 ·rw [hx]at he
  injection he with he
  subst he
  omega
 ·exact h t v q e he
theorem qsY:∀n,qaM [Value.int .i64 0] n=(List.replicate n 0).map N
 | 0=>rfl
 | n+1=>by
   rw [List.replicate_succ,List.map_cons,←qsY n]
   rfl

theorem qsZ {c:Cfg}(hm:c.may){i:Nat}(hj:(i:Int)<c.T):qiT (qjx c) (4+i)=0:=by
 unfold Cfg.may at hm
 have hl:((qjx c).length:Int)=qiQ c:=by rw [qjz];unfold qiQ;omega
 unfold qiQ at hl
 unfold qiT
 rw [if_pos ⟨by omega,by omega⟩,show((4:Int)+(i:Int)).toNat=4+i by omega,List.getD_eq_getElem?_getD]
 unfold qjx
 rw [List.getElem?_set_ne (by omega),qjA c 0 (by unfold qiQ;omega)]
 unfold qjw
 rw [if_neg (by omega)]
 rfl
theorem qs0 {c:Cfg}(hm:c.may)(l:List (Value×List Op4)):∀i:Nat,qpS c i (qqb l i)≠[]→(i:Int)<c.T:=fun i q=>by
 unfold qpS at q
 by_cases hg:0≤qjt c i
 ·unfold qjt at hg
  split at hg<;>omega
 ·rw [if_neg hg]at q;exact absurd rfl q
theorem qs1 {c:Cfg}{l:List (Value×List Op4)}{i:Nat}{t:Th}(h:(w0 c l).ts[i]? = some t):t.nx=0:=by
 obtain⟨j,_,rfl⟩:=List.mem_map.1 (List.mem_of_getElem? h)
 rfl
theorem qs2 {c:Cfg}(hm:c.may)(l:List (Value×List Op4)):WHI c (w0 c l) 0 (fun i=>qpS c i (qqb l i)) []:=by
 have hm':=hm
 unfold Cfg.may at hm'
 have no:∀q h,¬TolE [] q h:=fun q h t=>absurd t.lt (Nat.not_lt_zero _)
 have np:∀(i:Nat) t h,(w0 c l).ts[i]? = some t→¬qsv t h:=fun i t h ht p=>by
  have:=qs1 ht
  obtain⟨_,_,_,_,p⟩:=p
  rcases p with⟨p,_⟩|⟨p,_⟩
  ·omega
  ·exact p this
 refine⟨rfl,⟨_,qrB hm l,⟨fun q h t=>absurd t (no q h),fun q _ h t=>absurd t (no q h),fun i t h ht p=>absurd p (np i t h ht),fun i t h q ht p=>absurd p (np i t h ht),fun i j t u h ht _ p=>absurd p (np i t h ht),fun i t ht q => ?_,fun i t ht q=>absurd (qs1 ht) q⟩⟩, ?_⟩
 ·have:=qs1 ht
  omega
 ·refine⟨fun i e he=>by simp at he, ?_,by simp,fun i t ht => ?_⟩
  ·show(tsW c l c.T.toNat).length≤4
   simp [tsW];omega
  ·have ht:(tsW c l c.T.toNat)[i]? = some t:=ht
   unfold tsW at ht
   rw [List.getElem?_map]at ht
   by_cases hil:i<c.T.toNat
   ·rw [List.getElem?_range hil]at ht
    injection ht with ht
    subst ht
    exact⟨rfl,rfl,⟨0,rfl,rfl,fun q=>absurd rfl q⟩,fun hj hn=>absurd (qsZ hm hj) hn⟩
   ·rw [List.getElem?_eq_none (by simp;omega)]at ht
    cases ht
end Go.Proofs.YtdinebegmppnoaaGreat

