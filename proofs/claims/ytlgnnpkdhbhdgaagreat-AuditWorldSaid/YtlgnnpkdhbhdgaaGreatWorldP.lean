/- Objects in their order: picked out of the plan seat's texts by a program. -/
import Derived.Test.YtlgnnpkdhbhdgaaGreatThreadP1
import Derived.Test.YtlgnnpkdhbhdgaaGreatIrD
set_option linter.all false
namespace Go.Proofs.YtlgnnpkdhbhdgaaGreat
open Go Go.Ir
structure Obj where
 s:Int
 o:Int
 n:Int
 fx:Bool
def Obj.cs (x:Obj):List Value := [.int .i64 x.s,.int .i64 x.o,.int .i64 x.n,.bool x.fx]
def css (l:List Obj):List (List Value):=l.map Obj.cs
def qkx (l:List Obj):∀e∈css l,e.length=4:=by
 intro e he
 obtain⟨x,_,rfl⟩:=List.mem_map.1 he
 rfl
def qky (l:List Obj):∀e∈css l,e.all yl=true:=by
 intro e he
 obtain⟨x,_,rfl⟩:=List.mem_map.1 he
 rfl
def qkz {n:Int}(h0:0<=n)(h1:n<2 ^ 62):IntKind.i64.wrap n=n:=by
 rw [IntKind.wrap_i64];omega
section
variable (prims:List (Nat×qaY))
end
section
variable {prims:List (Nat×qaY)}
end
def qkA {l:List Obj}{i:Nat}{x:Obj}(h:l[i]? = some x):(css l)[i]? = some x.cs:=by simp [css,h]
section
variable {prims:List (Nat×qaY)}
end
def qkB (a b:Int):Int:=if a<b then -1 else if b<a then 1 else 0
def qkC:List Int->Int
 | []=>0
 | x::r=>if x=0 then qkC r else x
def qkD (b:Bool):Int:=if b then 1 else 0
def qkE (a b:Obj):Int:=qkC [qkB a.o b.o,qkB a.s b.s,qkB a.n b.n,qkD a.fx-qkD b.fx]
section
variable {lo:Nat}{h:qab}
def qkF (lo:Nat)(h:qab)(n:Int):qfU En lo Id.zaG [.int .i64 n] h=some (.bool false,h):=by
 refine qgx rfl Fn.zaG rfl rfl ?_
 repeat' first|refine .A ?_|refine .B ?_|refine .J ?_|refine .k6 (fun hc => ?_) fun hc => ?_|refine .F ?_|fail
 ·exact absurd rfl ‹_›
 ·rfl
def qkG (lo:Nat)(h:qab)(b:Bool):qfU En lo Id.zcC [.bool b] h=some (.int .i64 (qkD b),h):=by
 refine qgx rfl Fn.zcC rfl rfl ?_
 cases b
 all_goals
  repeat' first|refine .A ?_|refine .B ?_|refine .C ?_|refine .D ?_|refine .F ?_|refine .J ?_|fail
  rfl
def qkH (lo:Nat)(h:qab)(a b:Int):qfU En lo Id.zaE [.int .i64 a,.int .i64 b] h=some (.int .i64 (qkB a b),h):=by
 refine qgx rfl Fn.zaE rfl rfl ?_
 repeat' first|refine .A ?_|refine .B ?_|refine .C ?_|refine .D ?_|refine .F ?_|refine .J ?_|refine .k1 (fun hc => ?_) fun hc => ?_|refine .k3 (fun hc => ?_) fun hc => ?_|refine .P (qkF _ _ _) ?_|fail
 all_goals (refine qiV ?_;unfold qkB;(repeat' split)<;>omega)
def qkI (lo:Nat){h:qab}{v:Value}{l:List Int}(hv:Sl h 1 v (l.map fun n => [.int .i64 n]))(hl:l.length<=100) :
  qfU En lo Id.zaF [v] h=some (.int .i64 (qkC l),h):=by
 obtain⟨base,cap,hve⟩:=hv.len
 refine qgx rfl Fn.zaF rfl rfl ?_
 have hll:(l.map fun n => [Value.int .i64 n]).length=l.length:=by simp
 rw [hll]at hve
 subst hve
 repeat' first|refine .A ?_|refine .B ?_|refine .G ?_|refine .F ?_|refine .Y ?_|fail
 refine .loop (fun n f H=>H=h/\∃i:Nat,n+i=l.length/\f = [(3,.int .i64 0),(6,.slice base l.length cap),(7,.int .i64 (l.length:Nat)),(8,.int .i64 (i:Nat))]/\qkC l=qkC (l.drop i)) (n:=l.length)
  ⟨rfl,0,rfl,rfl,rfl⟩ ?_
 rintro n f H ⟨rfl,i,hn,rfl,hI⟩ next
 by_cases hi:i<l.length
 ·have hie:(l.map fun n => [Value.int .i64 n])[i]? = some [.int .i64 l[i]]:=by simp [hi]
  refine zzX (hv.at hie) fun a hq=>zzX hq fun cap' hq2 => ?_
  have hva:=hq2.1
  have hld:=hq2.2.1 0 _ rfl
  rw [hll]at hva
  injection hva with e1 e2 e3
  subst e1
  have hd:l.drop i=l[i]::l.drop (i+1):=List.drop_eq_getElem_cons hi
  generalize l[i]=x at hd hld
  repeat' first|refine .A ?_|refine .B ?_|refine .C ?_|refine .D ?_|refine .F ?_|refine .G ?_|refine .H ?_|refine .I ?_|refine .J ?_|refine .k1 (fun hc => ?_) fun hc => ?_|refine .k6 (fun hc => ?_) fun hc => ?_|refine .L hld ?_|refine .R hi ?_|refine .Y ?_|fail
  ·refine qiV ?_
   rw [hI,hd,qkC,if_neg ‹_›]
  ·refine next (n-1) _ _ (by omega) ⟨rfl,i+1,by omega, ?_, ?_⟩
   ·show [(3,_),(6,_),(7,_),(8,Value.int .i64 (IntKind.i64.wrap ((i:Int)+1)))]=_
    rw [qkz (by omega) (by omega)];rfl
   ·rw [hI,hd,qkC,if_pos ‹_›]
  ·omega
 ·repeat' first|refine .A ?_|refine .B ?_|refine .C ?_|refine .D ?_|refine .F ?_|refine .G ?_|refine .I ?_|refine .J ?_|refine .k1 (fun hc => ?_) fun hc => ?_|fail
  ·omega
  ·refine qiV ?_
   rw [hI,List.drop_of_length_le (by omega)]
   rfl
def qkJ (h:qab)(l:List Int):Sl (h ++ [.row (l.map (.int .i64)) false]) 1 (.slice (some ⟨h.length,0,none⟩) l.length l.length) (l.map fun n => [.int .i64 n]):=by
 refine⟨fun e he => ?_,.inr ⟨⟨h.length,0,none⟩,l.length,by simp, ?_⟩⟩
 ·obtain⟨x,_,rfl⟩:=List.mem_map.1 he
  rfl
 ·have:(l.map fun n => [Value.int .i64 n]).flatten=l.map (.int .i64):=by
   induction l with
   | nil=>rfl
   | cons a l ih=>simp [ih]
  rw [this]
  exact qgD (a:=⟨h.length,0,none⟩) zzC rfl (by simp)
def qkK (lo:Nat)(h:qab)(a b:Obj):qfU En lo Id.zcD [.agg a.cs.toArray,.agg b.cs.toArray] h=some (.int .i64 (qkE a b),h):=by
 refine qgx rfl Fn.zcD rfl rfl ?_
 have hw:IntKind.i64.wrap (qkD a.fx-qkD b.fx)=qkD a.fx-qkD b.fx:=by cases a.fx<;>cases b.fx<;>rfl
 repeat' first|refine .A ?_|refine .B ?_|refine .J ?_|refine .C ?_|refine .P (qkH _ _ _ _) ?_|refine .P (qkG _ _ _) ?_|refine .P (qkI _ (qkJ _ [qkB a.o b.o,qkB a.s b.s,qkB a.n b.n,IntKind.i64.wrap (qkD a.fx-qkD b.fx)]) (zzL rfl)) ?_|refine .F ?_|refine .Y ?_|fail
 refine qiV ?_
 rw [hw,qkE]
end
def qkL (a b:Obj):Bool :=
 if a.o=b.o then(if a.s=b.s then(if a.n=b.n then !a.fx&&b.fx else decide (a.n<b.n))else decide (a.s<b.s))else decide (a.o<b.o)
def qkM (x:Obj):List Obj->List Obj
 | [] => [x]
 | y::r=>if qkL x y then x::y::r else y::qkM x r
def qkN (l:List Obj):List Obj:=l.foldl (fun acc x=>qkM x acc) []
def qkO (x:Obj):∀l,(qkM x l).length=l.length+1
 | []=>rfl
 | y::r=>by
   unfold qkM
   split
   ·simp
   ·simp [qkO x r]
def qkP (l:List Obj):(qkN l).length=l.length:=by
 have:∀(l acc:List Obj),(l.foldl (fun acc x=>qkM x acc) acc).length=acc.length+l.length:=by
  intro l
  induction l with
  | nil=>simp
  | cons x l ih=>intro acc;rw [List.foldl_cons,ih,qkO,List.length_cons];omega
 have h:=this l []
 simp only [List.length_nil,Nat.zero_add]at h
 exact h
def Out.mono {H:qab}{lo lo' n:Nat}{v:Value}{es:List (List Value)}(o:Out H lo n v es)(h:lo'<=lo):Out H lo' n v es:=by
 refine⟨o.1, ?_⟩
 rcases o.2 with h1|⟨h0,b,h1,h2,h3⟩
 ·exact .inl h1
 ·exact .inr ⟨h0,b,h1,by omega,h3⟩
def qkQ (l:List Obj)(x:Obj):css l ++ [x.cs]=css (l ++ [x]):=by simp [css]
def qkR (l:List Obj):(css l).length=l.length:=by simp [css]
def qkS {h:qab}{v:Value}{l:List Obj}(hv:Sl h 4 v (css l)){i:Nat}{x:Obj}(hi:l[i]? = some x) :
  ∃a cap,v = .slice (some a) l.length cap/\qau h (some 4) ⟨a.block,a.off+i*4,none⟩=some (.agg x.cs.toArray)/\
   qau h none ⟨a.block,a.off+i*4+0,none⟩=some (.int .i64 x.s)/\qau h none ⟨a.block,a.off+i*4+1,none⟩=some (.int .i64 x.o)/\
   qau h none ⟨a.block,a.off+i*4+2,none⟩=some (.int .i64 x.n)/\qau h none ⟨a.block,a.off+i*4+3,none⟩=some (.bool x.fx):=by
 obtain⟨a,cap,h1,h2,h3⟩:=hv.at (qkA hi)
 rw [qkR]at h1
 exact⟨a,cap,h1,h3,h2 0 _ rfl,h2 1 _ rfl,h2 2 _ rfl,h2 3 _ rfl⟩
def qkT:Obj:=⟨0,0,0,false⟩
def gt (l:List Obj)(i:Nat):Obj:=(l[i]?).getD qkT
def qkU {l:List Obj}{i:Nat}(h:i<l.length):l[i]? = some (gt l i):=by simp [gt,h]
def qkV {l:List Obj}{i j:Nat}{x:Obj} : gt (l.set i x) j=if i=j/\i<l.length then x else gt l j:=by
 unfold gt
 rw [List.getElem?_set]
 by_cases h:i=j
 ·subst h
  by_cases h2:i<l.length
  ·simp [h2]
  ·simp [h2]
 ·simp [h]
def sw (l:List Obj)(i j:Nat):List Obj:=(l.set i (gt l j)).set j (gt l i)
def qkW (l:List Obj)(i j:Nat):(sw l i j).length=l.length:=by simp [sw]
def qkX {l:List Obj}{i j:Nat}(hi:i<l.length)(hj:j<l.length)(k:Nat):gt (sw l i j) k=if k=j then gt l i else if k=i then gt l j else gt l k:=by
 unfold sw
 rw [qkV,qkV,zzQ]
 by_cases h1:k=j
 ·subst h1;simp [hj]
 ·rw [if_neg (by omega),if_neg h1]
  by_cases h2:k=i
  ·subst h2;simp [hi]
  ·rw [if_neg (by omega),if_neg h2]
def qkY {l:List Obj}{i j:Nat}(hi:i<l.length)(hj:j<l.length):(sw l i j).Perm l:=by
 have h1:gt l i=l[i]:=by simp [gt,hi]
 have h2:gt l j=l[j]:=by simp [gt,hj]
 unfold sw
 rw [h1,h2]
 exact List.set_set_perm hi hj
structure Same (a b:Nat)(l l':List Obj):Prop where
 len:l'.length=l.length
 perm:l'.Perm l
 out:∀i,i<a\/b<=i->gt l' i=gt l i
 inn:∀i,a<=i->i<b->∃j,a<=j/\j<b/\gt l' i=gt l j
def Same.refl (a b:Nat)(l:List Obj):Same a b l l:=⟨rfl,.refl _,fun _ _=>rfl,fun i h1 h2=>⟨i,h1,h2,rfl⟩⟩
def Same.trans {a b:Nat}{l l' l'':List Obj}(h:Same a b l l')(k:Same a b l' l''):Same a b l l'' :=
 ⟨k.len.trans h.len,k.perm.trans h.perm,fun i hi=>(k.out i hi).trans (h.out i hi),fun i h1 h2=>by
   obtain⟨j,g1,g2,g3⟩:=k.inn i h1 h2
   obtain⟨m,f1,f2,f3⟩:=h.inn j g1 g2
   exact⟨m,f1,f2,g3.trans f3⟩⟩
def Same.mono {a b a' b':Nat}{l l':List Obj}(h:Same a b l l')(ha:a'<=a)(hb:b<=b'):Same a' b' l l' :=
 ⟨h.len,h.perm,fun i hi=>h.out i (by omega),fun i h1 h2=>by
   by_cases hc:a<=i/\i<b
   ·obtain⟨j,g1,g2,g3⟩:=h.inn i hc.1 hc.2
    exact⟨j,by omega,by omega,g3⟩
   ·exact⟨i,h1,h2,h.out i (by omega)⟩⟩
def Same.sw {a b i j:Nat}{l:List Obj}(hb:b<=l.length)(h1:a<=i)(h2:i<b)(h3:a<=j)(h4:j<b):Same a b l (sw l i j):=by
 have hg:=qkX (l:=l) (i:=i) (j:=j) (by omega) (by omega)
 refine⟨qkW ..,qkY (by omega) (by omega),fun k hk => ?_,fun k g1 g2 => ?_⟩
 ·rw [hg,if_neg (by omega),if_neg (by omega)]
 ·rw [hg]
  by_cases e1:k=j
  ·exact⟨i,h1,h2,by rw [if_pos e1]⟩
  ·by_cases e2:k=i
   ·exact⟨j,h3,h4,by rw [if_neg e1,if_pos e2]⟩
   ·exact⟨k,g1,g2,by rw [if_neg e1,if_neg e2]⟩
def ltP (x y:Obj):Prop:=x.o<y.o\/(x.o=y.o/\(x.s<y.s\/(x.s=y.s/\(x.n<y.n\/(x.n=y.n/\qkD x.fx<qkD y.fx)))))
def qkZ (x y:Obj):qkE x y<0↔ltP x y:=by
 unfold qkE ltP
 have h1:0<=qkD x.fx/\qkD x.fx<=1:=by cases x.fx<;>decide
 have h2:0<=qkD y.fx/\qkD y.fx<=1:=by cases y.fx<;>decide
 simp only [qkC,qkB]
 (repeat' split)<;>omega
def Le (x y:Obj):Prop:=¬ltP y x
def Le.trans {x y z:Obj}(h:Le x y)(k:Le y z):Le x z:=by
 unfold Le ltP at *
 omega
def Le.of_lt {x y:Obj}(h:ltP x y):Le x y:=by
 unfold Le ltP at *
 omega
def Le.antisymm {x y:Obj}(h:Le x y)(k:Le y x):x=y:=by
 obtain⟨a,b,c,d⟩:=x
 obtain⟨a',b',c',d'⟩:=y
 have hb:qkD d=qkD d'->d=d':=by cases d<;>cases d'<;>decide
 unfold Le ltP at *
 simp only at *
 have e1:b=b':=by omega
 have e2:a=a':=by omega
 have e3:c=c':=by omega
 have e4:qkD d=qkD d':=by omega
 rw [e1,e2,e3,hb e4]
def Srt (l:List Obj)(a b:Nat):Prop:=∀i j,a<=i->i<j->j<b->Le (gt l i) (gt l j)
def qk0 (x y:Obj):qkL x y=true↔ltP x y:=by
 unfold qkL ltP
 have hb:∀d d',(!d&&d')=true↔qkD d<qkD d':=by intro d d';cases d<;>cases d'<;>decide
 split
 ·split
  ·split
   ·rw [hb];omega
   ·simp;omega
  ·simp;omega
 ·simp;omega
def qk1 (x:Obj):∀l,(qkM x l).Perm (x::l)
 | [] => .refl _
 | y::r=>by
   unfold qkM
   split
   ·exact .refl _
   ·exact((qk1 x r).cons y).trans (.swap ..)
def qk2 (l:List Obj):(qkN l).Perm l:=by
 have:∀(l acc:List Obj),(l.foldl (fun acc x=>qkM x acc) acc).Perm (acc++l):=by
  intro l
  induction l with
  | nil=>intro acc;simp
  | cons x l ih =>
    intro acc
    rw [List.foldl_cons]
    refine(ih _).trans ?_
    refine((qk1 x acc).append_right l).trans ?_
    exact(List.perm_middle (l₁:=acc) (l₂:=l) (a:=x)).symm
 exact this l []
def qk3 (x:Obj):∀{l},l.Pairwise Le->(qkM x l).Pairwise Le
 | [],_=>by simp [qkM]
 | y::r,h=>by
   have h1:=List.pairwise_cons.1 h
   unfold qkM
   split
   ·rename_i ha
    have hxy:Le x y := .of_lt ((qk0 x y).1 ha)
    refine List.pairwise_cons.2 ⟨fun z hz => ?_,h⟩
    rcases List.mem_cons.1 hz with rfl|hz
    ·exact hxy
    ·exact hxy.trans (h1.1 z hz)
   ·rename_i ha
    have hyx:Le y x:=fun hc=>ha ((qk0 x y).2 hc)
    refine List.pairwise_cons.2 ⟨fun z hz => ?_,qk3 x h1.2⟩
    rcases List.mem_cons.1 ((qk1 x r).mem_iff.1 hz)with rfl|hz
    ·exact hyx
    ·exact h1.1 z hz
def qk4 (l:List Obj):(qkN l).Pairwise Le:=by
 have:∀(l acc:List Obj),acc.Pairwise Le->(l.foldl (fun acc x=>qkM x acc) acc).Pairwise Le:=by
  intro l
  induction l with
  | nil=>intro acc h;exact h
  | cons x l ih=>intro acc h;rw [List.foldl_cons];exact ih _ (qk3 x h)
 exact this l [] .nil
def qk5:∀{l l':List Obj},l.Perm l'->l.Pairwise Le->l'.Pairwise Le->l=l':=by
 intro l l' hp h h'
 exact hp.eq_of_pairwise (fun a b _ _ g1 g2=>Le.antisymm g1 g2) h h'
def Srt.pairwise {l:List Obj}(h:Srt l 0 l.length):l.Pairwise Le:=by
 rw [List.pairwise_iff_getElem]
 intro i j hi hj hij
 have:=h i j (zzZ _) hij hj
 simpa [gt,hi,hj]using this
def qk6 {l l':List Obj}(hp:l'.Perm l)(h:Srt l' 0 l'.length):l'=qkN l :=
 qk5 (hp.trans (qk2 l).symm) h.pairwise (qk4 l)
def qk7:∀{l:List Obj} {j:Nat} {x:Obj},j<l.length->splice (css l).flatten (j*4) x.cs=(css (l.set j x)).flatten
 | [],j,x,h=>by simp at h
 | y::l,0,x,h=>by
   simp only [css,List.map_cons,List.flatten_cons,Nat.zero_mul,List.set_cons_zero,splice,List.take_zero,List.nil_append,Nat.zero_add]
   rw [List.drop_append_of_le_length (by simp [Obj.cs])]
   simp [Obj.cs]
 | y::l,j+1,x,h=>by
   have ih:=qk7 (l:=l) (j:=j) (x:=x) (by simpa using h)
   simp only [css,List.map_cons,List.flatten_cons,List.set_cons_succ]at ih|-
   rw [<-ih]
   unfold splice
   have e:(j+1)*4=y.cs.length+j*4:=by simp [Obj.cs];omega
   rw [e,List.take_length_add_append,Nat.add_assoc,List.drop_length_add_append]
   simp
def hw (H:qab)(b:Nat)(l:List Obj):qab:=H.set b (.row (css l).flatten false)
def dat (b:Nat)(n:Nat)(cap:Nat):Value := .slice (some (loose b 0)) n cap
def qk8 (H:qab)(b:Nat)(l:List Obj):(hw H b l).length=H.length:=by simp [hw]
def qk9 {H:qab}{b:Nat}{l:List Obj}{cap:Nat}(hb:b<H.length):Sl (hw H b l) 4 (dat b l.length cap) (css l):=by
 refine⟨qkx l,.inr ⟨_,cap,by rw [qkR];rfl, ?_⟩⟩
 refine qgD (a:=loose b 0) (cs:=(css l).flatten) (ro:=false) ?_ rfl (qgz (qkx l)).symm
 simp [hw,loose,hb]
def qla {H:qab}{b:Nat}{l:List Obj}{j:Nat}(hb:b<H.length)(hj:j<l.length):qau (hw H b l) (some 4) ⟨b,0+j*4,none⟩=some (.agg (gt l j).cs.toArray):=by
 obtain⟨a,cap,h1,h2,_⟩:=qkS (qk9 (cap:=4) hb) (qkU hj)
 injection h1 with h1
 injection h1 with h1
 subst h1
 exact h2
def qlb {H:qab}{lo b:Nat}{l:List Obj}{j:Nat}{x:Obj}(hlo:lo<=b)(hb:b<H.length)(hj:j<l.length):stN lo (hw H b l) ⟨b,0+j*4,none⟩ (qaf (.agg x.cs.toArray))=some (hw H b (l.set j x)):=by
 have e1:(hw H b l)[b]? = some (.row (css l).flatten false):=by simp [hw,hb]
 have hfl:(css l).flatten.length=l.length*4:=by rw [qgz (qkx l),qkR]
 unfold stN
 simp only [e1]
 rw [if_pos hlo,if_pos trivial,if_pos (by rw [hfl];show 0+j*4+4<=_;omega)]
 show some ((hw H b l).set b (.row (splice (css l).flatten (0+j*4) x.cs) false))=_
 rw [Nat.zero_add,qk7 hj]
 simp [hw]
abbrev FB:Value := .func (.func Id.zcD) #[] #[]
section
variable {H:qab}{lo b cap:Nat}
structure Ins (l:List Obj)(a i j:Nat):Prop where
 rest:∀p q,a<=p->p<q->q<=i->p≠j->q≠j->Le (gt l p) (gt l q)
 one:∀q,j<q->q<=i->Le (gt l j) (gt l q)
def Ins.start {l:List Obj}{a i:Nat}(h:Srt l a i):Ins l a i i:=⟨fun p q h1 h2 h3 h4 h5=>h p q h1 h2 (by omega),fun q h1 h2=>by omega⟩
def Ins.stop {l:List Obj}{a i j:Nat}(h:Ins l a i j)(hj:j<=i)(he:j<=a\/¬qkE (gt l j) (gt l (j-1))<0):Srt l a (i+1):=by
 intro p q h1 h2 h3
 by_cases e1:p=j
 ·subst e1;exact h.one q h2 (by omega)
 by_cases e2:q=j
 ·subst e2
  rcases he with he|he
  ·omega
  ·have hle:Le (gt l (q-1)) (gt l q):=fun hc=>he ((qkZ _ _).2 hc)
   by_cases e3:p=q-1
   ·rw [e3];exact hle
   ·exact(h.rest p (q-1) h1 (by omega) (by omega) e1 (by omega)).trans hle
 ·exact h.rest p q h1 h2 (by omega) e1 e2
def Ins.step {l:List Obj}{a i j:Nat}(h:Ins l a i j)(hi:i<l.length)(hj:j<=i)(ha:a<j)(hlt:qkE (gt l j) (gt l (j-1))<0):Ins (sw l j (j-1)) a i (j-1):=by
 have hg:=qkX (l:=l) (i:=j) (j:=j-1) (by omega) (by omega)
 have hL:=(qkZ _ _).1 hlt
 refine⟨fun p q h1 h2 h3 h4 h5 => ?_,fun q h1 h2 => ?_⟩
 ·rw [hg,hg,if_neg h4,if_neg h5]
  by_cases e1:p=j
  ·rw [if_pos e1,if_neg (by omega)]
   exact h.rest (j-1) q (by omega) (by omega) h3 (by omega) (by omega)
  ·rw [if_neg e1]
   by_cases e2:q=j
   ·rw [if_pos e2]
    exact h.rest p (j-1) h1 (by omega) (by omega) e1 (by omega)
   ·rw [if_neg e2]
    exact h.rest p q h1 h2 h3 e1 e2
 ·rw [hg,hg,if_pos rfl,if_neg (by omega)]
  by_cases e2:q=j
  ·rw [if_pos e2]
   exact .of_lt hL
  ·rw [if_neg e2]
   exact h.one q (by omega) h2
def qlc (hlo:lo<=b)(hb:b<H.length){l:List Obj}(hl:l.length<=10000){a e:Nat}(hae:a<=e)(he:e<=l.length) :
  ∃v H',qfU En lo Id.zdl [dat b l.length cap,.int .i64 (a:Nat),.int .i64 (e:Nat),FB] (hw H b l)=some (v,H')/\∃l',H'=hw H b l'/\Same a e l l'/\Srt l' a e:=by
 refine qiu rfl Fn.zdl rfl rfl ?_
 repeat' first|refine .A ?_|refine .B ?_|refine .G ?_|refine .n2 ?_|refine .F ?_|fail
 refine .loop (fun n f H'=>∃(i:Nat) (l1:List Obj),n+i=e+1/\a<i/\f = [(0,dat b l.length cap),(1,.int .i64 (a:Nat)),(2,.int .i64 (e:Nat)),(3,FB),(8,.int .i64 (i:Nat))]/\H'=hw H b l1/\Same a e l l1/\Srt l1 a (min i e)) (n:=e-a)
  ⟨a+1,l,by omega,by omega,rfl,rfl,.refl _ _ _,fun i j h1 h2 h3=>by omega⟩ ?_
 rintro n f H' ⟨i,l1,hn,hai,rfl,rfl,hS,hO⟩ next
 have hll:=hS.len
 repeat' first|refine .A ?_|refine .B ?_|refine .C ?_|refine .D ?_|refine .F ?_|refine .G ?_|refine .I ?_|refine .nil rfl ?_|refine .k1 (fun hc => ?_) fun hc => ?_|fail
 ·refine .loop (fun m f H'=>∃(j:Nat) (l2:List Obj),m=j/\a<=j/\j<=i/\f = [(0,dat b l.length cap),(1,.int .i64 (a:Nat)),(2,.int .i64 (e:Nat)),(3,FB),(8,.int .i64 (i:Nat)),(9,.int .i64 (j:Nat))]/\H'=hw H b l2/\Same a e l l2/\Ins l2 a i j) (n:=i)
   ⟨i,l1,rfl,by omega,by omega,rfl,rfl,hS,Ins.start (fun p q h1 h2 h3=>hO p q h1 h2 (by omega))⟩ ?_
  rintro m f H' ⟨j,l2,hmj,haj,hji,rfl,rfl,hS2,hI⟩ nextj
  have hl2:=hS2.len
  repeat' first|refine .A ?_|refine .B ?_|refine .C ?_|refine .D ?_|refine .F ?_|refine .G ?_|refine .H ?_|refine .I ?_|refine .k1 (fun hc => ?_) fun hc => ?_|refine .k3 (fun hc => ?_) fun hc => ?_|refine .n2 ?_|refine .s2 ?_|refine .load rfl rfl (qla hb (by omega)) ?_|refine .yn rfl rfl rfl (by omega) ?_|refine .yt rfl rfl rfl rfl (qkK _ _ _ _) ?_|refine .store rfl rfl rfl rfl rfl (qlb hlo hb (by omega)) ?_|refine .store rfl rfl rfl rfl rfl (qlb hlo hb (by rw [zzQ];omega)) ?_|refine .Y ?_|fail
  ·exact nextj (j-1) _ _ (by omega) ⟨j-1,sw l2 j (j-1),rfl,by omega,by omega,rfl,rfl,hS2.trans (Same.sw (by omega) (by omega) (by omega) (by omega) (by omega)),hI.step (by omega) hji (by omega) ‹_›⟩
  ·exact next (n-1) _ _ (by omega) ⟨i+1,l2,by omega,by omega,rfl,rfl,hS2,by rw [Nat.min_eq_left (by omega)];exact hI.stop hji (.inr ‹_›)⟩
  ·exact next (n-1) _ _ (by omega) ⟨i+1,l2,by omega,by omega,rfl,rfl,hS2,by rw [Nat.min_eq_left (by omega)];exact hI.stop hji (.inl (by omega))⟩
 ·exact⟨l1,rfl,hS,by rw [Nat.min_eq_right (by omega)]at hO;exact hO⟩
end
def waf (l:List Obj)(a c:Nat):Nat->List Obj
 | 0=>l
 | n+1=>sw (waf l a c n) (a+n) (c+n)
def qld (l:List Obj)(a c:Nat):∀n,(waf l a c n).length=l.length
 | 0=>rfl
 | n+1=>by rw [waf,qkW,qld l a c n]
def qle {l:List Obj}{a c:Nat} : ∀{n:Nat},a+n<=c->c+n<=l.length->∀k,gt (waf l a c n) k=if a<=k/\k<a+n then gt l (k-a+c)else if c<=k/\k<c+n then gt l (k-c+a)else gt l k
 | 0,h1,h2,k=>by rw [if_neg (by omega),if_neg (by omega)];rfl
 | n+1,h1,h2,k=>by
   have ih:=qle (l:=l) (a:=a) (c:=c) (n:=n) (by omega) (by omega)
   rw [waf,qkX (by rw [qld];omega) (by rw [qld];omega),ih,ih,ih]
   (repeat' split)<;>first|(exfalso;omega)|(exact congrArg (gt l) (by omega))
def Same.waf {l:List Obj}{a c p q:Nat}(hp:p<=a)(hq:q<=l.length)(hac:a<=c):∀{n:Nat},c+n<=q->Same p q l (waf l a c n)
 | 0,_ => .refl _ _ _
 | n+1,h=>(Same.waf hp hq hac (n:=n) (by omega)).trans (Same.sw (by rw [qld];omega) (by omega) (by omega) (by omega) (by omega))
def qlf (g:Nat->Obj)(a m e k:Nat):Obj:=if a<=k/\k<a+(e-m)then g (k+(m-a))else if a+(e-m)<=k/\k<e then g (k-(e-m))else g k
def qlg {l:List Obj}{m i:Nat}(hi:i<=m)(h:m+i<=l.length)(k:Nat):gt (waf l (m-i) m i) k=qlf (gt l) (m-i) m (m+i) k:=by
 rw [qle (by omega) (by omega)]
 unfold qlf
 (repeat' split)<;>first|(exfalso;omega)|(exact congrArg (gt l) (by omega))
def qlh {l:List Obj}{m i j:Nat}(hi:i<=m)(hj:j<i)(h:m+j<=l.length)(k:Nat):qlf (gt (waf l (m-i) m j)) (m-(i-j)) m (m+j) k=qlf (gt l) (m-i) m (m+j) k:=by
 have hg:=qle (l:=l) (a:=m-i) (c:=m) (n:=j) (by omega) (by omega)
 unfold qlf
 rw [hg,hg,hg]
 (repeat' split)<;>first|(exfalso;omega)|(exact congrArg (gt l) (by omega))
def qli {l:List Obj}{m i j:Nat}(hi:i<=m)(hj:i<j)(h:m+j<=l.length)(k:Nat):qlf (gt (waf l (m-i) (m+j-i) i)) (m-i) m (m+(j-i)) k=qlf (gt l) (m-i) m (m+j) k:=by
 have hg:=qle (l:=l) (a:=m-i) (c:=m+j-i) (n:=i) (by omega) (by omega)
 unfold qlf
 rw [hg,hg,hg]
 (repeat' split)<;>first|(exfalso;omega)|(exact congrArg (gt l) (by omega))
section
variable {H:qab}{lo b cap:Nat}
def qlj (lo:Nat)(hlo:lo<=b)(hb:b<H.length){l:List Obj}(hl:l.length<=10000){a c n:Nat}(h1:a+n<=c)(h2:c+n<=l.length) :
  qfU En lo Id.zdo [dat b l.length cap,.int .i64 (a:Nat),.int .i64 (c:Nat),.int .i64 (n:Nat),FB] (hw H b l)=some (.tuple #[],hw H b (waf l a c n)):=by
 refine qgw rfl Fn.zdo rfl rfl ?_
 repeat' first|refine .A ?_|refine .B ?_|refine .G ?_|refine .F ?_|fail
 refine .loop (fun z f H'=>∃i:Nat,z+i=n/\f = [(0,dat b l.length cap),(1,.int .i64 (a:Nat)),(2,.int .i64 (c:Nat)),(3,.int .i64 (n:Nat)),(10,.int .i64 (i:Nat))]/\H'=hw H b (waf l a c i)) (n:=n)
  ⟨0,rfl,rfl,rfl⟩ ?_
 rintro z f H' ⟨i,hz,rfl,rfl⟩ next
 have hll:=qld l a c i
 repeat' first|refine .A ?_|refine .B ?_|refine .C ?_|refine .D ?_|refine .F ?_|refine .G ?_|refine .H ?_|refine .I ?_|refine .nil rfl ?_|refine .k1 (fun hc => ?_) fun hc => ?_|refine .n1 ?_|refine .n2 ?_|refine .load rfl rfl (qla hb (by omega)) ?_|refine .yn rfl rfl rfl (by omega) ?_|refine .store rfl rfl rfl rfl rfl (qlb hlo hb (by omega)) ?_|refine .store rfl rfl rfl rfl rfl (qlb hlo hb (by rw [zzQ];omega)) ?_|fail
 ·exact next (z-1) _ _ (by omega) ⟨i+1,by omega,rfl,rfl⟩
 ·have:i=n:=by omega
  subst this
  rfl
def qlk (lo:Nat)(hlo:lo<=b)(hb:b<H.length){l:List Obj}(hl:l.length<=10000){a m e:Nat}(h1:a<m)(h2:m<e)(he:e<=l.length) :
  ∃v H',qfU En lo Id.zdm [dat b l.length cap,.int .i64 (a:Nat),.int .i64 (m:Nat),.int .i64 (e:Nat),FB] (hw H b l)=some (v,H')/\
   ∃l',H'=hw H b l'/\Same a e l l'/\∀k,gt l' k=qlf (gt l) a m e k:=by
 refine qiu rfl Fn.zdm rfl rfl ?_
 repeat' first|refine .A ?_|refine .B ?_|refine .G ?_|refine .s1 ?_|refine .F ?_|fail
 refine .loop (fun z f H'=>∃(i j:Nat) (l1:List Obj),z=i+j/\1<=i/\1<=j/\a<=m-i/\i<=m/\m+j<=e/\f = [(0,dat b l.length cap),(2,.int .i64 (m:Nat)),(4,FB),(10,.int .i64 (i:Nat)),(11,.int .i64 (j:Nat))]/\H'=hw H b l1/\Same a e l l1/\
   ∀k,qlf (gt l1) (m-i) m (m+j) k=qlf (gt l) a m e k) (n:=(m-a)+(e-m))
  ⟨m-a,e-m,l,rfl,by omega,by omega,by omega,by omega,by omega,rfl,rfl,.refl _ _ _,fun k=>by rw [show m-(m-a)=a by omega,show m+(e-m)=e by omega]⟩ ?_
 rintro z f H' ⟨i,j,l1,hz,hi,hj,hai,him,hje,rfl,rfl,hS,hR⟩ next
 have hll:=hS.len
 have sw1:=fun(hij:j<=i)=>qlj (H:=H) (b:=b) (cap:=cap) lo hlo hb (l:=l1) (by omega) (a:=m-i) (c:=m) (n:=j) (by omega) (by omega)
 have sw2:=fun(hij:i<=j)=>qlj (H:=H) (b:=b) (cap:=cap) lo hlo hb (l:=l1) (by omega) (a:=m-i) (c:=m+j-i) (n:=i) (by omega) (by omega)
 have sw3:=fun(hij:i=j)=>qlj (H:=H) (b:=b) (cap:=cap) lo hlo hb (l:=l1) (by omega) (a:=m-i) (c:=m) (n:=i) (by omega) (by omega)
 rw [hll]at sw1 sw2 sw3
 repeat' first|refine .A ?_|refine .B ?_|refine .C ?_|refine .D ?_|refine .F ?_|refine .G ?_|refine .H ?_|refine .I ?_|refine .nil rfl ?_|refine .k3 (fun hc => ?_) fun hc => ?_|refine .k6 (fun hc => ?_) fun hc => ?_|refine .n1 ?_|refine .s1 ?_|refine .call rfl rfl (sw1 (by omega)) ?_|refine .call rfl rfl (sw2 (by omega)) ?_|refine .call rfl rfl (sw3 (by omega)) ?_|fail
 ·refine next (i-j+j) _ _ (by omega) ⟨i-j,j,waf l1 (m-i) m j,rfl,by omega,by omega,by omega,by omega,by omega,rfl,rfl,hS.trans (Same.waf (by omega) (by omega) (by omega) (by omega)),fun k => ?_⟩
  rw [qlh him (by omega) (by omega)];exact hR k
 ·refine next (i+(j-i)) _ _ (by omega) ⟨i,j-i,waf l1 (m-i) (m+j-i) i,rfl,by omega,by omega,by omega,by omega,by omega,rfl,rfl,hS.trans (Same.waf (by omega) (by omega) (by omega) (by omega)),fun k => ?_⟩
  rw [qli him (by omega) (by omega)];exact hR k
 ·have hij:i=j:=by omega
  subst hij
  exact⟨waf l1 (m-i) m i,rfl,hS.trans (Same.waf (by omega) (by omega) (by omega) (by omega)),fun k=>by rw [qlg him (by omega)];exact hR k⟩
end
def qll {g:Nat->Obj}{s m e:Nat}(h:s=m\/e=m)(hs:s<=m)(he:m<=e)(k:Nat):qlf g s m e k=g k:=by
 unfold qlf
 split
 ·congr 1;omega
 ·split
  ·congr 1;omega
  ·rfl
section
variable {l l1 l2 l3:List Obj}{a m e q s:Nat}
def qlm (hr:∀k,gt l1 k=qlf (gt l) s m (q+m-s) k)(h1:s<=m)(h2:s<=q) :
  (∀k,k<s->gt l1 k=gt l k)/\(∀k,s<=k->k<q->gt l1 k=gt l (k+(m-s)))/\(∀k,q<=k->k<q+m-s->gt l1 k=gt l (k-(q-s)))/\(∀k,q+m-s<=k->gt l1 k=gt l k):=by
 refine⟨fun k hk => ?_,fun k hk hk2 => ?_,fun k hk hk2 => ?_,fun k hk => ?_⟩<;>rw [hr]<;>unfold qlf
 ·rw [if_neg (by omega),if_neg (by omega)]
 ·rw [if_pos (by omega)]
 ·rw [if_neg (by omega),if_pos (by omega)];congr 1;omega
 ·rw [if_neg (by omega),if_neg (by omega)]
def qln (hr:∀k,gt l1 k=qlf (gt l) s m (q+m-s) k)(h1:s<=m)(h2:s<=q)(has:a<=s)(hae:q+m-s<=e)(hA:Srt l a m)(hB:Srt l m e) :
  Srt l1 a s/\Srt l1 s q/\Srt l1 q (q+m-s)/\Srt l1 (q+m-s) e:=by
 obtain⟨r1,r2,r3,r4⟩:=qlm hr h1 h2
 refine⟨fun i j g1 g2 g3 => ?_,fun i j g1 g2 g3 => ?_,fun i j g1 g2 g3 => ?_,fun i j g1 g2 g3 => ?_⟩
 ·rw [r1 i (by omega),r1 j (by omega)];exact hA i j g1 g2 (by omega)
 ·rw [r2 i (by omega) (by omega),r2 j (by omega) (by omega)];exact hB _ _ (by omega) (by omega) (by omega)
 ·rw [r3 i (by omega) (by omega),r3 j (by omega) (by omega)];exact hA _ _ (by omega) (by omega) (by omega)
 ·rw [r4 i (by omega),r4 j (by omega)];exact hB _ _ (by omega) (by omega) (by omega)
def Srt.yL (h:Srt l a e){i j:Nat}(h1:a<=i)(h2:i<=j)(h3:j<e):Le (gt l i) (gt l j):=by
 by_cases he:i=j
 ·subst he;unfold Le ltP;omega
 ·exact h i j h1 (by omega) h3
def qlo (hr:∀k,gt l1 k=qlf (gt l) s m (q+m-s) k)(h1:s<=m)(h2:s<=q)(has:a<=s)(hae:q+m-s<=e)(hA:Srt l a m)(hB:Srt l m e)
  (c1:s=a\/q+m-s=e\/Le (gt l (s-1)) (gt l (q+m-s))) (c2:q=s\/s=m\/Le (gt l (q+m-s-1)) (gt l s)) {i j:Nat} (hi:a<=i) (hi2:i<q) (hj:q<=j) (hj2:j<e):Le (gt l1 i) (gt l1 j):=by
 obtain⟨r1,r2,r3,r4⟩:=qlm hr h1 h2
 by_cases e1:i<s
 ·rw [r1 i e1]
  by_cases e2:j<q+m-s
  ·rw [r3 j hj e2];exact hA.yL hi (by omega) (by omega)
  ·rw [r4 j (by omega)]
   rcases c1 with c1|c1|c1
   ·omega
   ·omega
   ·exact(hA.yL hi (by omega) (by omega)).trans (c1.trans (hB.yL (by omega) (by omega) hj2))
 ·rw [r2 i (by omega) hi2]
  by_cases e2:j<q+m-s
  ·rw [r3 j hj e2]
   rcases c2 with c2|c2|c2
   ·omega
   ·omega
   ·exact(hB.yL (by omega) (by omega) (by omega)).trans (c2.trans (hA.yL (by omega) (by omega) (by omega)))
  ·rw [r4 j (by omega)];exact hB.yL (by omega) (by omega) (by omega)
def qlp (hS:Same a e l l1)(hc:∀i j,a<=i->i<q->q<=j->j<e->Le (gt l1 i) (gt l1 j))(haq:a<=q)(hqe:q<=e)(h2:Same a q l1 l2)(s2:Srt l2 a q)(h3:Same q e l2 l3)(s3:Srt l3 q e) :
  Same a e l l3/\Srt l3 a e:=by
 refine⟨(hS.trans (h2.mono (zzR _) hqe)).trans (h3.mono haq (zzR _)),fun i j g1 g2 g3 => ?_⟩
 by_cases e1:j<q
 ·rw [h3.out i (by omega),h3.out j (by omega)];exact s2 i j g1 g2 e1
 ·by_cases e2:q<=i
  ·exact s3 i j e2 g2 g3
  ·obtain⟨i',f1,f2,f3⟩:=h2.inn i g1 (by omega)
   obtain⟨j',k1,k2,k3⟩:=h3.inn j (by omega) g3
   rw [h3.out i (by omega),f3,k3,h2.out j' (by omega)]
   exact hc i' j' f1 f2 k1 k2
def qlq (hA:∀p,a+1<=p->p<s->Le (gt l p) (gt l a))(hB:∀p,s<=p->p<e->Le (gt l a) (gt l p))(hS:Srt l (a+1) e)(h1:a+1<=s)(h2:s<=e)
  (hg:∀k,gt l1 k=if a<=k/\k<s-1 then gt l (k+1)else if k=s-1 then gt l a else gt l k):Srt l1 a e:=by
 intro i j g1 g2 g3
 rw [hg i,hg j]
 by_cases e1:a<=i/\i<s-1
 ·rw [if_pos e1]
  by_cases e2:a<=j/\j<s-1
  ·rw [if_pos e2];exact hS _ _ (by omega) (by omega) (by omega)
  ·rw [if_neg e2]
   by_cases e3:j=s-1
   ·rw [if_pos e3];exact hA _ (by omega) (by omega)
   ·rw [if_neg e3];exact hS _ _ (by omega) (by omega) (by omega)
 ·rw [if_neg e1,if_neg (show ¬(a<=j/\j<s-1) by omega),if_neg (show ¬j=s-1 by omega)]
  by_cases e3:i=s-1
  ·rw [if_pos e3];exact hB _ (by omega) (by omega)
  ·rw [if_neg e3];exact hS _ _ (by omega) (by omega) (by omega)
def qlr (hA:∀p,a<=p->p<s->Le (gt l p) (gt l m))(hB:∀p,s<=p->p<m->Le (gt l m) (gt l p))(hS:Srt l a m)(h1:a<=s)(h2:s<=m)
  (hg:∀k,gt l1 k=if s<k/\k<=m then gt l (k-1)else if k=s then gt l m else gt l k):Srt l1 a (m+1):=by
 intro i j g1 g2 g3
 rw [hg i,hg j]
 by_cases e1:s<i/\i<=m
 ·rw [if_pos e1,if_pos (by omega)];exact hS _ _ (by omega) (by omega) (by omega)
 ·rw [if_neg e1]
  by_cases e2:i=s
  ·rw [if_pos e2,if_pos (by omega)];exact hB _ (by omega) (by omega)
  ·rw [if_neg e2]
   by_cases e3:s<j/\j<=m
   ·rw [if_pos e3];exact hS.yL (by omega) (by omega) (by omega)
   ·rw [if_neg e3]
    by_cases e4:j=s
    ·rw [if_pos e4];exact hA _ (by omega) (by omega)
    ·rw [if_neg e4];exact hS _ _ (by omega) (by omega) (by omega)
end
abbrev qls:ICode:=F.zdp.body
section
variable {H:qab}{lo b cap nn:Nat}
def qlt (H:qab)(lo b cap nn d:Nat):Prop:=∀(l:List Obj) (a m e:Nat),l.length=nn->e-a<d->a<m->m<e->e<=nn->Srt l a m->Srt l m e->
 ∃v H',qfU En lo Id.zdp [dat b nn cap,N a,N m,N e,FB] (hw H b l)=some (v,H')/\∃l',H'=hw H b l'/\Same a e l l'/\Srt l' a e
variable {l l1 l2:List Obj}{a m e q s t d:Nat}{Q:Value->qab->Prop}
def qlu (f0:Fr)(hn:nn<=10000)(hl:l2.length=nn)(h1:q<=t)(h2:t<=e)(he:e<=nn)(ih:qlt H lo b cap nn d)(hd:e-q<d)(p1:Srt l2 q t)(p2:Srt l2 t e)
  (fin:∀l3,Same q e l2 l3->Srt l3 q e->Q (.tuple #[]) (hw H b l3)) :
  ER En lo [.code (qin 11 qls)] ((0,dat b nn cap)::(3,N e)::(4,FB)::(18,N q)::(24,N t)::f0) (hw H b l2) [] Q:=by
 by_cases c:q<t/\t<e
 ·refine zzX (ih _ _ _ _ hl hd c.1 c.2 he p1 p2) fun v hq=>zzX hq fun H' hq => ?_
  have hcal:=hq.1
  refine zzX hq.2 fun l3 hq => ?_
  have hH:=hq.1
  subst hH
  repeat' first|refine .A ?_|refine .B ?_|refine .C ?_|refine .D ?_|refine .F ?_|refine .nil rfl ?_|refine .k1 (fun hc => ?_) fun hc => ?_|refine .P hcal ?_|refine .Y ?_|fail
  all_goals first|(exfalso;omega)|exact fin l3 hq.2.1 hq.2.2
 ·have hs:Srt l2 q e:=by
   by_cases e1:q=t
   ·rw [e1];exact p2
   ·have:t=e:=by omega
    rw [<-this];exact p1
  repeat' first|refine .A ?_|refine .B ?_|refine .C ?_|refine .D ?_|refine .F ?_|refine .nil rfl ?_|refine .k1 (fun hc => ?_) fun hc => ?_|refine .Y ?_|fail
  all_goals first|(exfalso;omega)|exact fin l2 (.refl _ _ _) hs
def qlv (f0:Fr)(hn:nn<=10000)(hl:l1.length=nn)(h0:a<=s)(h0':s<=q)(h1:q<=t)(h2:t<=e)(he:e<=nn)(ha:a<q)(hqe:q<e)(ih:qlt H lo b cap nn d)(hd:e-a<=d)
  (p0:Srt l1 a s) (p0':Srt l1 s q) (p1:Srt l1 q t) (p2:Srt l1 t e)
  (fin:∀l2 l3,Same a q l1 l2->Srt l2 a q->Same q e l2 l3->Srt l3 q e->Q (.tuple #[]) (hw H b l3)) :
  ER En lo [.code (qin 10 qls)] ((0,dat b nn cap)::(1,N a)::(3,N e)::(4,FB)::(18,N q)::(20,N s)::(24,N t)::f0) (hw H b l1) [] Q:=by
 have next:∀(l2:List Obj) (f0:Fr),Same a q l1 l2->Srt l2 a q->ER En lo [.code (qin 11 qls)] ((0,dat b nn cap)::(3,N e)::(4,FB)::(18,N q)::(24,N t)::f0) (hw H b l2) [] Q:=fun l2 f0 hS hT =>
  qlu f0 hn (hS.len.trans hl) h1 h2 he ih (by omega) (fun i j g1 g2 g3=>by rw [hS.out i (by omega),hS.out j (by omega)];exact p1 i j g1 g2 g3) (fun i j g1 g2 g3=>by rw [hS.out i (by omega),hS.out j (by omega)];exact p2 i j g1 g2 g3)
   (fun l3 k1 k2=>fin l2 l3 hS hT k1 k2)
 refine .seq ?_
 by_cases c:a<s/\s<q
 ·refine zzX (ih _ _ _ _ hl (by omega) c.1 c.2 (by omega) p0 p0') fun v hq=>zzX hq fun H' hq => ?_
  have hcal:=hq.1
  refine zzX hq.2 fun l3 hq => ?_
  have hH:=hq.1
  subst hH
  have nx:=fun f0=>next l3 f0 hq.2.1 hq.2.2
  repeat' first|(exact ER.fe' (nx _) (.cons rfl (.cons rfl (.cons rfl (.cons rfl (.cons rfl (FE.refl _)))))))|refine .A ?_|refine .B ?_|refine .C ?_|refine .D ?_|refine .F ?_|refine .nil rfl ?_|refine .k1 (fun hc => ?_) fun hc => ?_|refine .P hcal ?_|refine .Y ?_|fail
  all_goals (exfalso;omega)
 ·have hs:Srt l1 a q:=by
   by_cases e1:a=s
   ·rw [e1];exact p0'
   ·have:s=q:=by omega
    rw [<-this];exact p0
  have nx:=fun f0=>next l1 f0 (.refl _ _ _) hs
  repeat' first|(exact ER.fe' (nx _) (.cons rfl (.cons rfl (.cons rfl (.cons rfl (.cons rfl (FE.refl _)))))))|refine .A ?_|refine .B ?_|refine .C ?_|refine .D ?_|refine .F ?_|refine .k1 (fun hc => ?_) fun hc => ?_|refine .Y ?_|fail
  all_goals (exfalso;omega)
def qlw (f0:Fr)(hlo:lo<=b)(hb:b<H.length)(hn:nn<=10000)(hl:l.length=nn)(h1:s<=m)(h2:s<=q)(has:a<=s)(hte:q+m-s<=e)(hm:m<e)(he:e<=nn)(ha:a<q)(hqe:q<e)(ih:qlt H lo b cap nn d)(hd:e-a<=d)
  (hA:Srt l a m) (hB:Srt l m e) (c1:s=a\/q+m-s=e\/Le (gt l (s-1)) (gt l (q+m-s))) (c2:q=s\/s=m\/Le (gt l (q+m-s-1)) (gt l s))
  (fin:∀l3,Same a e l l3->Srt l3 a e->Q (.tuple #[]) (hw H b l3)) :
  ER En lo [.code (qin 9 qls)] ((0,dat b nn cap)::(1,N a)::(2,N m)::(3,N e)::(4,FB)::(18,N q)::(20,N s)::(24,N (q+m-s))::f0) (hw H b l) [] Q:=by
 have next:∀(l1:List Obj) (f0:Fr),Same a e l l1->(∀k,gt l1 k=qlf (gt l) s m (q+m-s) k)->
   ER En lo [.code (qin 10 qls)] ((0,dat b nn cap)::(1,N a)::(3,N e)::(4,FB)::(18,N q)::(20,N s)::(24,N (q+m-s))::f0) (hw H b l1) [] Q:=fun l1 f0 hS hr=>by
  obtain⟨g1,g2,g3,g4⟩:=qln hr h1 h2 has hte hA hB
  exact qlv f0 hn (hS.len.trans hl) has h2 (by omega) hte he ha hqe ih hd g1 g2 g3 g4 fun l2 l3 k1 k2 k3 k4=>by
   obtain⟨m1,m2⟩:=qlp hS (fun i j=>qlo hr h1 h2 has hte hA hB c1 c2) (by omega) (by omega) k1 k2 k3 k4
   exact fin l3 m1 m2
 refine .seq ?_
 by_cases c:s<m/\m<q+m-s
 ·have hR:=qlk (H:=H) (b:=b) (cap:=cap) lo hlo hb (l:=l) (by omega) c.1 c.2 (by omega)
  rw [hl]at hR
  refine zzX hR fun v hq=>zzX hq fun H' hq => ?_
  have hcal:=hq.1
  refine zzX hq.2 fun l1 hq => ?_
  have hH:=hq.1
  subst hH
  have nx:=fun f0=>next l1 f0 (hq.2.1.mono has hte) hq.2.2
  repeat' first|(exact ER.fe' (nx _) (.cons rfl (.cons rfl (.cons rfl (.cons rfl (.cons rfl (.cons rfl (.cons rfl (FE.refl _)))))))))|refine .A ?_|refine .B ?_|refine .C ?_|refine .D ?_|refine .F ?_|refine .nil rfl ?_|refine .k1 (fun hc => ?_) fun hc => ?_|refine .P hcal ?_|refine .Y ?_|fail
  all_goals (exfalso;omega)
 ·have nx:=fun f0=>next l f0 (.refl _ _ _) (fun k=>(qll (by omega) h1 (by omega) k).symm)
  repeat' first|(exact ER.fe' (nx _) (.cons rfl (.cons rfl (.cons rfl (.cons rfl (.cons rfl (.cons rfl (.cons rfl (FE.refl _)))))))))|refine .A ?_|refine .B ?_|refine .C ?_|refine .D ?_|refine .F ?_|refine .k1 (fun hc => ?_) fun hc => ?_|refine .Y ?_|fail
  all_goals (exfalso;omega)
def qlx (f0:Fr)(hlo:lo<=b)(hb:b<H.length)(hn:nn<=10000)(hl:l.length=nn)(ham:a<m)(hm:m<e)(he:e<=nn)(hq1:2*q<=a+e)(hq2:a+e<=2*q+1)(hbig:a+1<m)(hbig2:m+1<e)
  {s0 r0:Nat} (hK:(q<m/\s0=q+m-e/\r0=q)\/(m<=q/\s0=a/\r0=m)) (ih:qlt H lo b cap nn d) (hd:e-a<=d) (hA:Srt l a m) (hB:Srt l m e)
  (fin:∀l3,Same a e l l3->Srt l3 a e->Q (.tuple #[]) (hw H b l3)) :
  ER En lo [.code (qin 6 qls)] ((0,dat b nn cap)::(1,N a)::(2,N m)::(3,N e)::(4,FB)::(18,N q)::(19,N (q+m))::(20,N s0)::(21,N r0)::f0) (hw H b l) [] Q:=by
 repeat' first|refine .A ?_|refine .B ?_|refine .G ?_|refine .s2 ?_|refine .F ?_|fail
 refine .loop (fun z f H'=>∃s r:Nat,z+s=r/\s0<=s/\r<=r0/\f = [(0,dat b nn cap),(1,N a),(2,N m),(3,N e),(4,FB),(18,N q),(19,N (q+m)),(20,N s),(21,N r),(22,N (q+m-1))]/\H'=hw H b l/\
   (s=s0\/Le (gt l (s-1)) (gt l (q+m-s)))/\(r=r0\/Le (gt l (q+m-1-r)) (gt l r))) (n:=r0-s0)
  ⟨s0,r0,by omega,by omega,by omega,rfl,rfl,.inl rfl,.inl rfl⟩ ?_
 rintro z f H' ⟨s,r,hz,hs,hr,rfl,rfl,hL,hR⟩ next
 have nx:=fun f0 (hsr:s=r)=>qlw (Q:=Q) f0 hlo hb hn hl (s:=s) (q:=q) (m:=m) (a:=a) (e:=e) (by omega) (by omega) (by omega) (by omega) hm he (by omega) (by omega) ih hd hA hB
  (by rcases hL with hL|hL
      ·rcases hK with hK|hK
       ·exact .inr (.inl (by omega))
       ·exact .inl (by omega)
      ·exact .inr (.inr hL))
  (by rcases hR with hR|hR
      ·rcases hK with hK|hK
       ·exact .inl (by omega)
       ·exact .inr (.inl (by omega))
      ·refine .inr (.inr ?_)
       rw [show q+m-s-1=q+m-1-r by omega,hsr];exact hR) fin
 repeat' first|(exact ER.fe' (nx _ (by omega)) (.cons rfl (.cons rfl (.cons rfl (.cons rfl (.cons rfl (.cons rfl (.cons rfl (.cons rfl (FE.refl _))))))))))|refine .A ?_|refine .B ?_|refine .C ?_|refine .D ?_|refine .F ?_|refine .G ?_|refine .H ?_|refine .I ?_|(show EG _ _ (⟨_,.bin _ _ _,_,_⟩::_) _ _ _ _ _ _;first|refine .k1 (fun hc => ?_) fun hc => ?_|refine .n1 ?_|refine .n2 ?_|refine .s1 ?_|refine .wap rfl rfl ?_)|refine .load rfl rfl (qla hb (by omega)) ?_|refine .yn rfl rfl rfl (by omega) ?_|refine .yt rfl rfl rfl rfl (qkK _ _ _ _) ?_|refine .toU rfl rfl (by omega) ?_|refine .toI rfl rfl (by omega) ?_|refine .Y ?_|fail
 ·exact next ((s+r)/2-s) _ _ (by omega) ⟨s,(s+r)/2,by omega,hs,by omega,rfl,rfl,hL,.inr (.of_lt ((qkZ _ _).1 ‹_›))⟩
 ·refine next (r-((s+r)/2+1)) _ _ (by omega) ⟨(s+r)/2+1,r,by omega,by omega,hr,rfl,rfl,.inr ?_,hR⟩
  rw [show q+m-((s+r)/2+1)=q+m-1-(s+r)/2 by omega]
  exact fun hc => ‹¬qkE _ _<0› ((qkZ _ _).2 hc)
def qly (hlo:lo<=b)(hb:b<H.length)(hn:nn<=10000)(hl:l.length=nn)(h1:a<m)(h2:m<e)(he:e<=nn)(hA:Srt l a m)(hB:Srt l m e)(c1:m-a=1):∃v H',qfU En lo Id.zdp [dat b nn cap,N a,N m,N e,FB] (hw H b l)=some (v,H')/\∃l',H'=hw H b l'/\Same a e l l'/\Srt l' a e:=by
 refine qiu rfl Fn.zdp rfl rfl ?_
 repeat' first|refine .A ?_|refine .B ?_|refine .C ?_|refine .G ?_|refine .t5 ?_|refine .s1 ?_|refine .F ?_|fail
 refine .loop (fun z f H'=>∃i j:Nat,z+i=j/\m<=i/\j<=e/\f = [(0,dat b nn cap),(1,N a),(4,FB),(10,N i),(11,N j)]/\H'=hw H b l/\
   (∀p,m<=p->p<i->Le (gt l p) (gt l a))/\(∀p,j<=p->p<e->Le (gt l a) (gt l p))) (n:=e-m)
  ⟨m,e,by omega,by omega,by omega,rfl,rfl,fun p g1 g2=>by omega,fun p g1 g2=>by omega⟩ ?_
 rintro z f H' ⟨i,j,hz,hi,hj,rfl,rfl,hL,hR⟩ next
 repeat' first|refine .A ?_|refine .B ?_|refine .C ?_|refine .D ?_|refine .F ?_|refine .G ?_|refine .H ?_|refine .I ?_|refine .k1 (fun hc => ?_) fun hc => ?_|refine .n1 ?_|refine .n2 ?_|refine .wap rfl rfl ?_|refine .load rfl rfl (qla hb (by omega)) ?_|refine .yn rfl rfl rfl (by omega) ?_|refine .yt rfl rfl rfl rfl (qkK _ _ _ _) ?_|refine .toU rfl rfl (by omega) ?_|refine .toI rfl rfl (by omega) ?_|fail
 ·refine next (j-((i+j)/2+1)) _ _ (by omega) ⟨(i+j)/2+1,j,by omega,by omega,hj,rfl,rfl,fun p g1 g2 => ?_,hR⟩
  exact Le.trans (y:=gt l ((i+j)/2)) (hB.yL g1 (by omega) (by omega)) (.of_lt ((qkZ _ _).1 hc))
 ·refine next ((i+j)/2-i) _ _ (by omega) ⟨i,(i+j)/2,by omega,hi,by omega,rfl,rfl,hL,fun p g1 g2 => ?_⟩
  exact Le.trans (y:=gt l ((i+j)/2)) (fun hn=>hc ((qkZ _ _).2 hn)) (hB.yL (by omega) g1 g2)
 ·refine .loop (fun z f H'=>∃(k:Nat) (l1:List Obj),z+k=i-1/\a<=k/\f = [(0,dat b nn cap),(10,N i),(13,N k)]/\H'=hw H b l1/\Same a e l l1/\
    (∀q,gt l1 q=if a<=q/\q<k then gt l (q+1)else if q=k then gt l a else gt l q)) (n:=i-1-a)
   ⟨a,l,by omega,by omega,rfl,rfl,.refl _ _ _,fun q=>by rw [if_neg (by omega)];split<;>simp_all⟩ ?_
  rintro z f H' ⟨k,l1,hz,hk,rfl,rfl,hS,hg⟩ next
  have hll:=hS.len
  repeat' first|refine .A ?_|refine .B ?_|refine .C ?_|refine .D ?_|refine .F ?_|refine .G ?_|refine .H ?_|refine .I ?_|refine .J ?_|refine .k1 (fun hc => ?_) fun hc => ?_|refine .n2 ?_|refine .s2 ?_|refine .load rfl rfl (qla hb (by omega)) ?_|refine .yn rfl rfl rfl (by omega) ?_|refine .store rfl rfl rfl rfl rfl (qlb hlo hb (by omega)) ?_|refine .store rfl rfl rfl rfl rfl (qlb hlo hb (by rw [zzQ];omega)) ?_|fail
  ·refine next (z-1) _ _ (by omega) ⟨k+1,sw l1 k (k+1),by omega,by omega,rfl,rfl,hS.trans (Same.sw (by omega) (by omega) (by omega) (by omega) (by omega)),fun q => ?_⟩
   rw [qkX (by omega) (by omega),hg,hg,hg]
   by_cases e1:q=k+1
   ·rw [if_pos e1,if_neg (by omega),if_pos rfl,if_neg (by omega),if_pos e1]
   ·rw [if_neg e1]
    by_cases e2:q=k
    ·rw [if_pos e2,if_neg (by omega),if_neg (by omega),if_pos (by omega),e2]
    ·rw [if_neg e2]
     by_cases e3:a<=q/\q<k
     ·rw [if_pos e3,if_pos (by omega)]
     ·rw [if_neg e3,if_neg e2,if_neg (by omega),if_neg (by omega)]
  ·refine⟨l1,rfl,hS, ?_⟩
   have hki:k=i-1:=by omega
   subst hki
   exact qlq (s:=i) (fun p g1 g2=>hL p (by omega) g2) (fun p g1 g2=>hR p (by omega) g2) (by rw [show a+1=m by omega];exact hB) (by omega) (by omega) hg
def qlz (hlo:lo<=b)(hb:b<H.length)(hn:nn<=10000)(hl:l.length=nn)(h1:a<m)(h2:m<e)(he:e<=nn)(hA:Srt l a m)(hB:Srt l m e)(c1:¬m-a=1)(c2:e-m=1):∃v H',qfU En lo Id.zdp [dat b nn cap,N a,N m,N e,FB] (hw H b l)=some (v,H')/\∃l',H'=hw H b l'/\Same a e l l'/\Srt l' a e:=by
 refine qiu rfl Fn.zdp rfl rfl ?_
 repeat' first|refine .A ?_|refine .B ?_|refine .C ?_|refine .D ?_|refine .F ?_|refine .G ?_|refine .t5 ?_|refine .f5 ?_|refine .s1 ?_|fail
 refine .loop (fun z f H'=>∃i j:Nat,z+i=j/\a<=i/\j<=m/\f = [(0,dat b nn cap),(2,N m),(4,FB),(14,N i),(15,N j)]/\H'=hw H b l/\
   (∀p,a<=p->p<i->Le (gt l p) (gt l m))/\(∀p,j<=p->p<m->Le (gt l m) (gt l p))) (n:=m-a)
  ⟨a,m,by omega,by omega,by omega,rfl,rfl,fun p g1 g2=>by omega,fun p g1 g2=>by omega⟩ ?_
 rintro z f H' ⟨i,j,hz,hi,hj,rfl,rfl,hL,hR⟩ next
 repeat' first|refine .A ?_|refine .B ?_|refine .C ?_|refine .D ?_|refine .F ?_|refine .G ?_|refine .H ?_|refine .I ?_|refine .k1 (fun hc => ?_) fun hc => ?_|refine .n1 ?_|refine .n2 ?_|refine .wap rfl rfl ?_|refine .load rfl rfl (qla hb (by omega)) ?_|refine .yn rfl rfl rfl (by omega) ?_|refine .yt rfl rfl rfl rfl (qkK _ _ _ _) ?_|refine .toU rfl rfl (by omega) ?_|refine .toI rfl rfl (by omega) ?_|refine .Y ?_|fail
 ·refine next ((i+j)/2-i) _ _ (by omega) ⟨i,(i+j)/2,by omega,hi,by omega,rfl,rfl,hL,fun p g1 g2 => ?_⟩
  exact Le.trans (y:=gt l ((i+j)/2)) (.of_lt ((qkZ _ _).1 hc)) (hA.yL (by omega) g1 g2)
 ·refine next (j-((i+j)/2+1)) _ _ (by omega) ⟨(i+j)/2+1,j,by omega,by omega,hj,rfl,rfl,fun p g1 g2 => ?_,hR⟩
  exact Le.trans (y:=gt l ((i+j)/2)) (hA.yL g1 (by omega) (by omega)) (fun hn=>hc ((qkZ _ _).2 hn))
 ·refine .loop (fun z f H'=>∃(k:Nat) (l1:List Obj),z+i=k/\k<=m/\f = [(0,dat b nn cap),(14,N i),(17,N k)]/\H'=hw H b l1/\Same a e l l1/\
    (∀q,gt l1 q=if k<q/\q<=m then gt l (q-1)else if q=k then gt l m else gt l q)) (n:=m-i)
   ⟨m,l,by omega,by omega,rfl,rfl,.refl _ _ _,fun q=>by rw [if_neg (by omega)];split<;>simp_all⟩ ?_
  rintro z f H' ⟨k,l1,hz,hk,rfl,rfl,hS,hg⟩ next
  have hll:=hS.len
  repeat' first|refine .A ?_|refine .B ?_|refine .C ?_|refine .D ?_|refine .F ?_|refine .G ?_|refine .H ?_|refine .I ?_|refine .J ?_|refine .k3 (fun hc => ?_) fun hc => ?_|refine .s2 ?_|refine .load rfl rfl (qla hb (by omega)) ?_|refine .yn rfl rfl rfl (by omega) ?_|refine .store rfl rfl rfl rfl rfl (qlb hlo hb (by omega)) ?_|refine .store rfl rfl rfl rfl rfl (qlb hlo hb (by rw [zzQ];omega)) ?_|fail
  ·refine next (z-1) _ _ (by omega) ⟨k-1,sw l1 k (k-1),by omega,by omega,rfl,rfl,hS.trans (Same.sw (by omega) (by omega) (by omega) (by omega) (by omega)),fun q => ?_⟩
   rw [qkX (by omega) (by omega),hg,hg,hg]
   by_cases e1:q=k-1
   ·rw [if_pos e1,if_neg (by omega),if_pos rfl,if_neg (by omega),if_pos e1]
   ·rw [if_neg e1]
    by_cases e2:q=k
    ·rw [if_pos e2,if_neg (by omega),if_neg (by omega),if_pos (by omega),e2]
    ·rw [if_neg e2]
     by_cases e3:k<q/\q<=m
     ·rw [if_pos e3,if_pos (by omega)]
     ·rw [if_neg e3,if_neg e2,if_neg (by omega),if_neg e1]
  ·refine⟨l1,rfl,hS, ?_⟩
   have hki:k=i:=by omega
   subst hki
   have hem:e=m+1:=by omega
   rw [hem]
   exact qlr (s:=k) hL (fun p g1 g2=>hR p (by omega) g2) hA (by omega) (by omega) hg
def qlA (hlo:lo<=b)(hb:b<H.length)(hn:nn<=10000)(hl:l.length=nn)(h1:a<m)(h2:m<e)(he:e<=nn)(hA:Srt l a m)(hB:Srt l m e)(c1:¬m-a=1)(c2:¬e-m=1)(ih:qlt H lo b cap nn d)(hd:e-a<d+1):∃v H',qfU En lo Id.zdp [dat b nn cap,N a,N m,N e,FB] (hw H b l)=some (v,H')/\∃l',H'=hw H b l'/\Same a e l l'/\Srt l' a e:=by
 refine qiu rfl Fn.zdp rfl rfl ?_
 have nx:=fun(f0:Fr) (s0 r0:Nat) hK=>qlx (Q:=fun v H'=>∃l',H'=hw H b l'/\Same a e l l'/\Srt l' a e) (q:=(a+e)/2) f0 hlo hb hn hl h1 h2 he (by omega) (by omega) (by omega) (by omega) (s0:=s0) (r0:=r0) hK ih (by omega) hA hB (fun l3 g1 g2=>⟨l3,rfl,g1,g2⟩)
 repeat' first|(exact ER.fe' (nx _ ((a+e)/2+m-e) ((a+e)/2) (by omega)) (.cons rfl (.cons rfl (.cons rfl (.cons rfl (.cons rfl (.cons rfl (.cons rfl (.cons rfl (.cons rfl (FE.refl _)))))))))))|(exact ER.fe' (nx _ a m (by omega)) (.cons rfl (.cons rfl (.cons rfl (.cons rfl (.cons rfl (.cons rfl (.cons rfl (.cons rfl (.cons rfl (FE.refl _)))))))))))|refine .A ?_|refine .B ?_|refine .C ?_|refine .D ?_|refine .F ?_|(show EG _ _ (⟨_,.bin _ _ _,_,_⟩::_) _ _ _ _ _ _;first|refine .k3 (fun hc => ?_) fun hc => ?_|refine .f5 ?_|refine .n1 ?_|refine .s1 ?_|refine .wap rfl rfl ?_)|refine .toU rfl rfl (by omega) ?_|refine .toI rfl rfl (by omega) ?_|fail
def qlB (hlo:lo<=b)(hb:b<H.length)(hn:nn<=10000):∀d,qlt H lo b cap nn d
 | 0=>fun l a m e hl hd=>by omega
 | d+1=>fun l a m e hl hd h1 h2 he hA hB=>by
   by_cases c1:m-a=1
   ·exact qly hlo hb hn hl h1 h2 he hA hB c1
   ·by_cases c2:e-m=1
    ·exact qlz hlo hb hn hl h1 h2 he hA hB c1 c2
    ·exact qlA hlo hb hn hl h1 h2 he hA hB c1 c2 (qlB hlo hb hn d) hd
end
section
variable {H:qab}{lo b cap nn:Nat}
abbrev stB:ICode:=F.zdn.body
def qlC:ICode->ICode
 | .block _ (.loop _ b)=>b
 | c=>c
def qlD {K:List Ir.Item}{rs:List qaj}{Q:Value->qab->Prop}(hlo:lo<=b)(hb:b<H.length)(hn:nn<=74){l l1:List Obj}(hl:l.length=nn)(cb:20<nn)(hS:Same 0 nn l l1)(hO:∀i j,i<j->j<nn->i/20=j/20->Le (gt l1 i) (gt l1 j))
  (next:∀(l3:List Obj) (f':Fr),keep [0,1,2,6] f' = [(0,dat b nn cap),(1,N nn),(2,FB),(6,N 40)]->Same 0 nn l l3->(∀i j,i<j->j<nn->i/40=j/40->Le (gt l3 i) (gt l3 j))->ER En lo K f' (hw H b l3) rs Q) :
  ER En lo (.code (qlC (qin 4 stB))::K) [(0,dat b nn cap),(1,N nn),(2,FB),(6,N 20)] (hw H b l1) rs Q:=by
 have hll:=hS.len
 repeat' first|refine .A ?_|refine .B ?_|refine .C ?_|refine .F ?_|refine .G ?_|refine .t1 ?_|refine .mulN (a:=2) rfl rfl rfl (by omega) ?_|fail
 refine .loop (fun z f H'=>∃(a:Nat) (l2:List Obj),z+a=nn+40/\a%40=0/\a<=nn/\f = [(0,dat b nn cap),(1,N nn),(2,FB),(6,N 20),(7,N a),(8,N (a+40))]/\H'=hw H b l2/\Same 0 nn l l2/\
   (∀i j,i<j->j<nn->i/20=j/20->Le (gt l2 i) (gt l2 j))/\(∀i j,i<j->j<a->i/40=j/40->Le (gt l2 i) (gt l2 j))) (n:=nn+40)
  ⟨0,l1,by omega,by omega,by omega,rfl,rfl,hS,hO,fun i j g1 g2=>by omega⟩ ?_
 rintro z f H' ⟨a,l2,hz,hmod,han,rfl,rfl,hS2,hD,hE⟩ next2
 have hll2:=hS2.len
 by_cases c:a+40<=nn
 ·refine zzX (qlB (H:=H) (lo:=lo) (b:=b) (cap:=cap) hlo hb (nn:=nn) (by omega) 41 l2 a (a+20) (a+40) (by omega) (by omega) (by omega) (by omega) c (fun i j g1 g2 g3=>hD i j g2 (by omega) (by omega)) (fun i j g1 g2 g3=>hD i j g2 (by omega) (by omega))) fun v hq=>zzX hq fun H' hq => ?_
  have hcal:=hq.1
  refine zzX hq.2 fun l3 hq => ?_
  have hH:=hq.1
  subst hH
  have hT:=hq.2.1
  have hU:=hq.2.2
  repeat' first|refine .A ?_|refine .B ?_|refine .C ?_|refine .F ?_|refine .G ?_|refine .H ?_|refine .t2 ?_|refine .n1 ?_|refine .mulN (a:=2) rfl rfl rfl (by omega) ?_|refine .P hcal ?_|fail
  refine next2 (z-40) _ _ (by omega) ⟨a+40,l3,by omega,by omega,by omega,rfl,rfl,hS2.trans (hT.mono (by omega) (by omega)),fun i j g1 g2 g3 => ?_,fun i j g1 g2 g3 => ?_⟩
  ·by_cases e1:a<=i/\j<a+40
   ·exact hU i j e1.1 g1 e1.2
   ·rw [hT.out i (by omega),hT.out j (by omega)];exact hD i j g1 g2 g3
  ·by_cases e1:a<=i
   ·exact hU i j e1 g1 g2
   ·rw [hT.out i (by omega),hT.out j (by omega)];exact hE i j g1 (by omega) g3
 ·by_cases c2:a+20<nn
  ·refine zzX (qlB (H:=H) (lo:=lo) (b:=b) (cap:=cap) hlo hb (nn:=nn) (by omega) 41 l2 a (a+20) nn (by omega) (by omega) (by omega) c2 (by omega) (fun i j g1 g2 g3=>hD i j g2 (by omega) (by omega)) (fun i j g1 g2 g3=>hD i j g2 (by omega) (by omega))) fun v hq=>zzX hq fun H' hq => ?_
   have hcal:=hq.1
   refine zzX hq.2 fun l3 hq => ?_
   have hH:=hq.1
   subst hH
   have hT:=hq.2.1
   have hU:=hq.2.2
   repeat' first|refine .A ?_|refine .B ?_|refine .C ?_|refine .D ?_|refine .H ?_|refine .I ?_|refine .t1 ?_|refine .f2 ?_|refine .n1 ?_|refine .mulN (b:=2) rfl rfl rfl (by omega) ?_|refine .P hcal ?_|refine .F ?_|fail
   refine next l3 _ rfl (hS2.trans (hT.mono (by omega) (by omega))) (fun i j g1 g2 g3 => ?_)
   by_cases e1:a<=i
   ·exact hU i j e1 g1 g2
   ·rw [hT.out i (by omega),hT.out j (by omega)];exact hE i j g1 (by omega) g3
  ·repeat' first|refine .A ?_|refine .B ?_|refine .D ?_|refine .F ?_|refine .H ?_|refine .I ?_|refine .f1 ?_|refine .f2 ?_|refine .n1 ?_|refine .mulN (b:=2) rfl rfl rfl (by omega) ?_|fail
   refine next l2 _ rfl hS2 (fun i j g1 g2 g3 => ?_)
   by_cases e1:a<=i
   ·exact hD i j g1 g2 (by omega)
   ·exact hE i j g1 (by omega) g3
def qlE {K:List Ir.Item}{rs:List qaj}{Q:Value->qab->Prop}(hlo:lo<=b)(hb:b<H.length)(hn:nn<=74){l l1:List Obj}(hl:l.length=nn)(cb:40<nn)(hS:Same 0 nn l l1)(hO:∀i j,i<j->j<nn->i/40=j/40->Le (gt l1 i) (gt l1 j))
  (next:∀(l3:List Obj) (f':Fr),keep [0,1,2,6] f' = [(0,dat b nn cap),(1,N nn),(2,FB),(6,N 80)]->Same 0 nn l l3->(∀i j,i<j->j<nn->i/80=j/80->Le (gt l3 i) (gt l3 j))->ER En lo K f' (hw H b l3) rs Q) :
  ER En lo (.code (qlC (qin 4 stB))::K) [(0,dat b nn cap),(1,N nn),(2,FB),(6,N 40)] (hw H b l1) rs Q:=by
 have hll:=hS.len
 repeat' first|refine .A ?_|refine .B ?_|refine .C ?_|refine .F ?_|refine .G ?_|refine .t1 ?_|refine .mulN (a:=2) rfl rfl rfl (by omega) ?_|fail
 refine .loop (fun z f H'=>∃(a:Nat) (l2:List Obj),z+a=nn+80/\a%80=0/\a<=nn/\f = [(0,dat b nn cap),(1,N nn),(2,FB),(6,N 40),(7,N a),(8,N (a+80))]/\H'=hw H b l2/\Same 0 nn l l2/\
   (∀i j,i<j->j<nn->i/40=j/40->Le (gt l2 i) (gt l2 j))/\(∀i j,i<j->j<a->i/80=j/80->Le (gt l2 i) (gt l2 j))) (n:=nn+80)
  ⟨0,l1,by omega,by omega,by omega,rfl,rfl,hS,hO,fun i j g1 g2=>by omega⟩ ?_
 rintro z f H' ⟨a,l2,hz,hmod,han,rfl,rfl,hS2,hD,hE⟩ next2
 have hll2:=hS2.len
 by_cases c:a+80<=nn
 ·refine zzX (qlB (H:=H) (lo:=lo) (b:=b) (cap:=cap) hlo hb (nn:=nn) (by omega) 81 l2 a (a+40) (a+80) (by omega) (by omega) (by omega) (by omega) c (fun i j g1 g2 g3=>hD i j g2 (by omega) (by omega)) (fun i j g1 g2 g3=>hD i j g2 (by omega) (by omega))) fun v hq=>zzX hq fun H' hq => ?_
  have hcal:=hq.1
  refine zzX hq.2 fun l3 hq => ?_
  have hH:=hq.1
  subst hH
  have hT:=hq.2.1
  have hU:=hq.2.2
  repeat' first|refine .A ?_|refine .B ?_|refine .C ?_|refine .F ?_|refine .G ?_|refine .H ?_|refine .t2 ?_|refine .n1 ?_|refine .mulN (a:=2) rfl rfl rfl (by omega) ?_|refine .P hcal ?_|fail
  refine next2 (z-80) _ _ (by omega) ⟨a+80,l3,by omega,by omega,by omega,rfl,rfl,hS2.trans (hT.mono (by omega) (by omega)),fun i j g1 g2 g3 => ?_,fun i j g1 g2 g3 => ?_⟩
  ·by_cases e1:a<=i/\j<a+80
   ·exact hU i j e1.1 g1 e1.2
   ·rw [hT.out i (by omega),hT.out j (by omega)];exact hD i j g1 g2 g3
  ·by_cases e1:a<=i
   ·exact hU i j e1 g1 g2
   ·rw [hT.out i (by omega),hT.out j (by omega)];exact hE i j g1 (by omega) g3
 ·by_cases c2:a+40<nn
  ·refine zzX (qlB (H:=H) (lo:=lo) (b:=b) (cap:=cap) hlo hb (nn:=nn) (by omega) 81 l2 a (a+40) nn (by omega) (by omega) (by omega) c2 (by omega) (fun i j g1 g2 g3=>hD i j g2 (by omega) (by omega)) (fun i j g1 g2 g3=>hD i j g2 (by omega) (by omega))) fun v hq=>zzX hq fun H' hq => ?_
   have hcal:=hq.1
   refine zzX hq.2 fun l3 hq => ?_
   have hH:=hq.1
   subst hH
   have hT:=hq.2.1
   have hU:=hq.2.2
   repeat' first|refine .A ?_|refine .B ?_|refine .C ?_|refine .D ?_|refine .H ?_|refine .I ?_|refine .t1 ?_|refine .f2 ?_|refine .n1 ?_|refine .mulN (b:=2) rfl rfl rfl (by omega) ?_|refine .P hcal ?_|refine .F ?_|fail
   refine next l3 _ rfl (hS2.trans (hT.mono (by omega) (by omega))) (fun i j g1 g2 g3 => ?_)
   by_cases e1:a<=i
   ·exact hU i j e1 g1 g2
   ·rw [hT.out i (by omega),hT.out j (by omega)];exact hE i j g1 (by omega) g3
  ·exfalso;omega
def qlF (hlo:lo<=b)(hb:b<H.length)(hn:nn<=74){l:List Obj}(hl:l.length=nn) :
  ∃v H',qfU En lo Id.zdn [dat b nn cap,N nn,FB] (hw H b l)=some (v,H')/\∃l',H'=hw H b l'/\Same 0 nn l l'/\Srt l' 0 nn:=by
 refine qiu rfl Fn.zdn rfl rfl ?_
 repeat' first|refine .A ?_|refine .B ?_|refine .G ?_|refine .F ?_|fail
 refine .loop (fun z f H'=>∃(a:Nat) (l1:List Obj),z+a=nn+20/\a%20=0/\a<=nn/\f = [(0,dat b nn cap),(1,N nn),(2,FB),(6,N 20),(7,N a),(8,N (a+20))]/\H'=hw H b l1/\Same 0 nn l l1/\
   (∀i j,i<j->j<a->i/20=j/20->Le (gt l1 i) (gt l1 j))) (n:=nn+20)
  ⟨0,l,by omega,by omega,by omega,rfl,rfl,.refl _ _ _,fun i j g1 g2=>by omega⟩ ?_
 rintro z f H' ⟨a,l1,hz,hmod,han,rfl,rfl,hS,hO⟩ next
 have hll:=hS.len
 by_cases c:a+20<=nn
 ·have hI:=qlc (H:=H) (lo:=lo) (b:=b) (cap:=cap) hlo hb (l:=l1) (by omega) (a:=a) (e:=a+20) (by omega) (by omega)
  rw [hll,hl]at hI
  refine zzX hI fun v hq=>zzX hq fun H' hq => ?_
  have hcal:=hq.1
  refine zzX hq.2 fun l2 hq => ?_
  have hH:=hq.1
  subst hH
  have hT:=hq.2.1
  have hU:=hq.2.2
  repeat' first|refine .A ?_|refine .B ?_|refine .C ?_|refine .F ?_|refine .G ?_|refine .H ?_|refine .t2 ?_|refine .n1 ?_|refine .P hcal ?_|fail
  refine next (z-20) _ _ (by omega) ⟨a+20,l2,by omega,by omega,by omega,rfl,rfl,hS.trans (hT.mono (by omega) (by omega)),fun i j g1 g2 g3 => ?_⟩
  by_cases e1:a<=i
  ·exact hU i j e1 g1 g2
  ·rw [hT.out i (by omega),hT.out j (by omega)];exact hO i j g1 (by omega) g3
 ·have hI:=qlc (H:=H) (lo:=lo) (b:=b) (cap:=cap) hlo hb (l:=l1) (by omega) (a:=a) (e:=nn) (by omega) (by omega)
  rw [hll,hl]at hI
  refine zzX hI fun v hq=>zzX hq fun H' hq => ?_
  have hcal:=hq.1
  refine zzX hq.2 fun l2 hq => ?_
  have hH:=hq.1
  subst hH
  have hT:=hq.2.1
  have hU:=hq.2.2
  repeat' first|refine .A ?_|refine .B ?_|refine .D ?_|refine .G ?_|refine .I ?_|refine .f2 ?_|refine .P hcal ?_|refine .F ?_|fail
  refine .loop (fun z f H'=>∃(bs:Nat) (l1:List Obj),z=100-bs/\(bs=20\/bs=40\/bs=80)/\f = [(0,dat b nn cap),(1,N nn),(2,FB),(6,N bs)]/\H'=hw H b l1/\Same 0 nn l l1/\
    (∀i j,i<j->j<nn->i/bs=j/bs->Le (gt l1 i) (gt l1 j))) (n:=80)
   ⟨20,l2,rfl,.inl rfl,rfl,rfl,hS.trans (hT.mono (by omega) (by omega)),fun i j g1 g2 g3 => ?_⟩ ?_
  ·by_cases e1:a<=i
   ·exact hU i j e1 g1 g2
   ·rw [hT.out i (by omega),hT.out j (by omega)];exact hO i j g1 (by omega) g3
  clear next hI hT hU hO hS hll
  rintro z f H' ⟨bs,l1,rfl,hbs,rfl,rfl,hS,hO⟩ next
  have hll:=hS.len
  by_cases cb:nn<=bs
  ·repeat' first|refine .A ?_|refine .B ?_|refine .D ?_|refine .I ?_|refine .nil rfl ?_|refine .f1 ?_|refine .F ?_|fail
   refine⟨l1,rfl,hS,fun i j g1 g2 g3=>hO i j g2 g3 ?_⟩
   rw [Nat.div_eq_of_lt (by omega),Nat.div_eq_of_lt (by omega)]
  rcases hbs with hbs|hbs|hbs
  ·subst hbs
   exact qlD (l:=l) hlo hb hn hl (by omega) hS hO fun l3 f' g1 g2 g3=>next 60 f' _ (by omega) ⟨40,l3,rfl,by omega,g1,rfl,g2,g3⟩
  ·subst hbs
   exact qlE (l:=l) hlo hb hn hl (by omega) hS hO fun l3 f' g1 g2 g3=>next 20 f' _ (by omega) ⟨80,l3,rfl,by omega,g1,rfl,g2,g3⟩
  ·omega
def qlG (hlo:lo<=b)(hb:b<H.length)(hn:nn<=74){l:List Obj}(hl:l.length=nn) :
  ∃l',qfU En lo Id.zdk [dat b nn cap,FB] (hw H b l)=some (.tuple #[],hw H b l')/\Same 0 nn l l'/\Srt l' 0 nn:=by
 refine zzX (qlF (cap:=cap) hlo hb hn hl) fun v hq=>zzX hq fun H' hq => ?_
 have hcal:=hq.1
 refine zzX hq.2 fun l2 hq => ?_
 have hH:=hq.1
 subst hH
 refine⟨l2, ?_,hq.2⟩
 refine qgw rfl Fn.zdk rfl rfl ?_
 repeat' first|refine .B ?_|refine .nil rfl ?_|refine .A ?_|refine .P hcal ?_|refine .F ?_|refine .Y ?_|fail
 rfl
end
def qlH (lo:Nat)(h:qab):qfU En lo Id.zdk [.slice none 0 0,FB] h=some (.tuple #[],h):=callR_iff.2 ⟨300,by kernel_rfl⟩
def qlI (lo:Nat){h:qab}{v:Value}{l:List Obj}(hv:Sl h 4 v (css l))(h0:l = []->v = .slice none 0 0)(hl:l.length<=1000) :
  qfU En lo Id.zdg [v] h=some (made h 4 (css l)):=by
 refine qgx rfl Fn.zdg rfl rfl ?_
 rcases hv.2 with⟨h1,base,cap,h2⟩|⟨a,cap,h1,h2⟩
 ·have:l = []:=by cases l with|nil=>rfl|cons _ _=>simp [css]at h1
  subst this
  rw [h0 rfl]
  repeat' first|refine .A ?_|refine .B ?_|refine .C ?_|refine .J ?_|refine .F ?_|refine .Y ?_|fail
  rfl
 ·rw [qkR]at h1
  by_cases hne:l = []
  ·subst hne
   rw [h0 rfl]
   repeat' first|refine .A ?_|refine .B ?_|refine .C ?_|refine .J ?_|refine .F ?_|refine .Y ?_|fail
   rfl
  ·have hpos:0<l.length:=List.length_pos_iff.2 hne
   subst h1
   have hs:qaC (h ++ [Blk.row [] false]) 4 l.length (.slice (some a) l.length cap)=some (css l).flatten:=by
    unfold qaC
    simp only
    rw [if_neg (by omega)]
    rw [qkR]at h2
    exact qgE ((Ext.refl h).app _) h2
   have ha:qaE h.length 4 32 (h ++ [Blk.row [] false]) (.slice (some ⟨h.length,0,none⟩) 0 0) (.slice (some a) l.length cap)=some (.slice (some (loose (h.length+1) 0)) l.length 4,h ++ [Blk.row [] false] ++ [Blk.row (css l).flatten false]):=by
    simp only [qaE,qaB,hs]
    rw [if_pos (.inl ⟨by omega,by omega⟩),if_neg (by omega)]
    simp [qaC]
   repeat' first|refine .A ?_|refine .B ?_|refine .D ?_|refine .F ?_|refine .J ?_|refine .U ha ?_|refine .Y ?_|fail
   refine Out.tidy ⟨qkx l,.inr ⟨by simpa [css]using hne,h.length+1,by rw [qkR],by omega,by simp⟩⟩ (qky l)
def qlJ (lo:Nat){h:qab}{v:Value}{l:List Obj}(hv:Sl h 4 v (css l))(h0:l = []->v = .slice none 0 0)(hl:l.length<=74) :
  qfU En lo Id.zcA [v] h=some (made h 4 (css (qkN l))):=by
 have hC:=fun lo=>qlI lo hv h0 (by omega)
 refine qgx rfl Fn.zcA rfl rfl ?_
 by_cases hne:l = []
 ·subst hne
  rw [show made h 4 (css [])=(.slice none 0 0,h)from rfl]at hC
  repeat' first|refine .A ?_|refine .B ?_|refine .J ?_|refine .P (hC _) ?_|refine .P (qlH _ _) ?_|refine .F ?_|fail
  rfl
 ·have hm:made h 4 (css l)=(dat h.length l.length 4,hw (h ++ [.row (css l).flatten false]) h.length l):=by
   unfold made
   rw [if_neg (by simpa [css]using hne),qkR]
   simp [dat,hw]
  rw [hm]at hC
  refine zzX (qlG (H:=h ++ [.row (css l).flatten false]) (lo:=h.length) (b:=h.length) (cap:=4) (zzR _) (by simp) hl rfl) fun l' hq => ?_
  have hS:=hq.1
  have hsame:=hq.2.1
  have hsrt:=hq.2.2
  have hlen:=hsame.len
  have hl':l'=qkN l:=qk6 hsame.perm (by rw [hlen];exact hsrt)
  repeat' first|refine .A ?_|refine .B ?_|refine .J ?_|refine .P (hC _) ?_|refine .P hS ?_|refine .F ?_|fail
  rw [<-hl',<-hlen]
  refine Out.tidy ⟨qkx l',.inr ⟨by intro hc;apply hne;have:=congrArg List.length hc;rw [qkR,hlen]at this;exact List.length_eq_zero_iff.1 this,h.length,by rw [qkR];rfl,zzR _,by simp [hw]⟩⟩ (qky l')
end Go.Proofs.YtlgnnpkdhbhdgaaGreat
