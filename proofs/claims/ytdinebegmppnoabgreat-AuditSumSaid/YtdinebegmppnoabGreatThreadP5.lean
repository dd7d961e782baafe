/- The stack's machines, step by step: by the document. -/
import Derived.Test.YtdinebegmppnoabGreatThreadP4
import Derived.Test.YtdinebegmppnoabGreatThreadP1
import Derived.Test.YtdinebegmppnoabGreatThreadP3
import Derived.Test.YtdinebegmppnoabGreatThreadP2
set_option linter.unusedVariables false
set_option linter.unusedSimpArgs false

namespace Go.Proofs.YtdinebegmppnoabGreat
open Go Go.Ir

def qnX (c:Cfg)(p:Bool)(s:Sk):List Value := [I c.A,I c.S,I c.T,.bool p,I s.slot,I s.nx,I s.word,I s.to]

structure DidR (H H':qab)(b:Nat)(row:List Value)(cb:CB)(ws bs:List Int):Prop where
 row:H'[b]? = some (.row row false)
 cells:IsR H' cb ws bs
 chg:Chg [b,cb.P,cb.W,cb.Y] H H'

section
variable {lo:Nat}{H:qab}{b:Nat}{c:Cfg}{s:Sk}{cb:CB}{ws bs:List Int}{p:Bool}

theorem DidR.put {H1:qab}{row row':List Value}(d:DidR H H1 b row cb ws bs)(hb:b≠cb.P∧b≠cb.W∧b≠cb.Y):DidR H (H1.set b (.row row' false)) b row' cb ws bs :=
 ⟨qiz (qiC d.row),d.cells.chg (S := [b]) ((Chg.refl [b] H1).set (i:=b) (by simp)) (by simp;omega),d.chg.set (i:=b) (by simp)⟩
end
end Go.Proofs.YtdinebegmppnoabGreat

/- A slot given, step by step: by the document. -/
namespace Go.Proofs.YtdinebegmppnoabGreat
open Go Go.Ir

section
variable {lo:Nat}{H:qab}{b:Nat}{c:Cfg}{s:Sk}{cb:CB}{ws bs:List Int}

end
end Go.Proofs.YtdinebegmppnoabGreat

/- Words in their range. -/
namespace Go.Proofs.YtdinebegmppnoabGreat
open Go Go.Ir

def Rng (ws:List Int):Prop:=∀w∈ws,-9223372036854775808≤w∧w<9223372036854775808
theorem Rng.get {ws:List Int}(h:Rng ws)(i:Int) : -9223372036854775808≤qi6 ws i∧qi6 ws i<9223372036854775808:=by
 unfold qi6
 split
 ·rename_i hi
  rw [List.getD_eq_getElem?_getD]
  cases hg:ws[i.toNat]? with
  | none=>simp
  | some x=>exact h x (List.mem_of_getElem? hg)
 ·omega

end Go.Proofs.YtdinebegmppnoabGreat

/- Ops of a thread: rows of four numbers. -/
namespace Go.Proofs.YtdinebegmppnoabGreat
open Go Go.Ir

structure Op4 where
 d:Int
 h:Int
 f:Int
 n:Int
 hr : -9223372036854775808≤h∧h<9223372036854775808
 nr : -9223372036854775808≤n∧n<9223372036854775808
def Op4.cs (t:Op4):List Value := [I t.d,I t.h,I t.f,I t.n]
def ocs (l:List Op4):List (List Value):=l.map Op4.cs
theorem qnY (l:List Op4):(ocs l).length=l.length:=by simp [ocs]
theorem qnZ (l:List Op4):∀e∈ocs l,e.length=4:=by
 intro e he
 obtain⟨n,_,rfl⟩:=List.mem_map.1 he
 rfl
theorem qn0 {l:List Op4}{i:Nat}{o:Op4}(h:l[i]? = some o):(ocs l)[i]? = some o.cs:=by simp [ocs,h]

def OpsV (H:qab)(v:Value)(l:List Op4)(ob:Nat):Prop :=
 (l = []∧∃a k,v = .slice a 0 k∧(a=none→k=0)∧∀x,a=some x→x.spot=none∧0≤k)∨
 ∃off cs,v = .slice (some (loose ob off)) l.length 4∧H[ob]? = some (.row cs false)∧off+l.length*4≤cs.length∧(cs.drop off).take (l.length*4)=(ocs l).flatten
theorem OpsV.keep {H H':qab}{v:Value}{l:List Op4}{ob:Nat}(h:OpsV H v l ob)(hk:H'[ob]? = H[ob]?):OpsV H' v l ob:=by
 rcases h with h|⟨off,cs,h1,h2,h3⟩
 ·exact .inl h
 ·exact .inr ⟨off,cs,h1,hk.trans h2,h3⟩
theorem OpsV.len {H:qab}{v:Value}{l:List Op4}{ob:Nat}(h:OpsV H v l ob):∃a k,v = .slice a l.length k:=by
 rcases h with⟨rfl,a,k,h1,_⟩|⟨off,cs,h1,_⟩
 ·exact⟨a,k,h1⟩
 ·exact⟨_,_,h1⟩
theorem OpsV.head {H:qab}{v:Value}{o:Op4}{r:List Op4}{ob:Nat}(h:OpsV H v (o::r) ob) :
  ∃off,v = .slice (some (loose ob off)) (r.length+1) 4∧qav H (some 4) ⟨ob,off+0*4,none⟩=some (.agg o.cs.toArray)∧ob<H.length∧
   qaB 4 v (some (I 1)) none none=some (.slice (some (loose ob (off+1*4))) r.length 4)∧OpsV H (.slice (some (loose ob (off+1*4))) r.length 4) r ob:=by
 rcases h with⟨h,_⟩|⟨off,cs,h1,h2,h3,h4⟩
 ·cases h
 ·have hlen:(o::r).length=r.length+1:=rfl
  rw [hlen]at h1 h3 h4
  have hfl:(ocs (o::r)).flatten=o.cs++(ocs r).flatten:=rfl
  have h5:(cs.drop off).take 4=o.cs:=by
   have:=congrArg (List.take 4) h4
   rw [List.take_take,hfl,Nat.min_eq_left (by omega)]at this
   rw [this]
   exact List.take_left' rfl
  have h6:(cs.drop (off+1*4)).take (r.length*4)=(ocs r).flatten:=by
   have:=congrArg (List.drop 4) h4
   rw [List.drop_take,hfl,List.drop_drop]at this
   rw [show(r.length+1)*4-4=r.length*4 by omega,show off+4=off+1*4 by omega]at this
   rw [this]
   exact List.drop_left' rfl
  refine⟨off,h1,qiE h2 (by omega) (by rw [Nat.zero_mul,Nat.add_zero];exact h5),qiC h2, ?_,.inr ⟨_,cs,rfl,h2,by omega,h6⟩⟩
  rw [h1]
  have hib:qaA (r.length+1) (r.length+1) (some (I 1)) none none=some (1,r.length+1,r.length+1):=by
   have h1:qaw (I 1) (r.length+1)=some 1:=by
    show(if(0:Int)≤1∧(1:Int)≤((r.length+1:Nat):Int)then some (1:Int).toNat else none)=some 1
    rw [if_pos ⟨by omega,by omega⟩]
    rfl
   simp only [qaA,qax,qay,qaz,h1]
  simp only [qaB,loose,hib,if_true]
  simp
end Go.Proofs.YtdinebegmppnoabGreat

/- Handles: by the program, and by the document. -/
namespace Go.Proofs.YtdinebegmppnoabGreat
open Go Go.Ir

section
variable {E:Env}{lo:Nat}{os:List IOper}{f:Fr}{h:qab}{hs:List qab}{k:List Ir.Item}{rs:List qak}{Q:Value→qab→Prop}{d:Nat}{g:Option (Nat×Bool)}{x y:Operand}
theorem qn1 {a b r:Nat}(hr:a ||| b=r)(hw:want g f=some true)(hx:ev f x=some (N a))(hy:ev f y=some (N b))(ha:a<2 ^ 62)(hb:b<2 ^ 62)(c:EG E lo os hs k ((d,N r)::f) h rs Q) :
  EG E lo (⟨some d,.bin .or x y,g,0⟩::os) hs k f h rs Q := .go hw (by rw [←hr];exact qj1 _ _ hx hy ha hb) rfl c
theorem qn2 {n k' r:Nat}{j:IntKind}(hr:n*2 ^ k'=r)(hw:want g f=some true)(hx:ev f x=some (N n))(hy:ev f y=some (.int j (k':Nat)))(hk:k'≤62)(hb:n*2 ^ k'<2 ^ 62)(c:EG E lo os hs k ((d,N r)::f) h rs Q) :
  EG E lo (⟨some d,.bin .shl x y,g,0⟩::os) hs k f h rs Q := .go hw (by rw [←hr];exact qlK hx hy hk hb) rfl c
theorem qn3 {a b r:Int}(hr:IntKind.i64.wrap (a-b)=r)(hw:want g f=some true)(hx:ev f x=some (I a))(hy:ev f y=some (I b))(c:EG E lo os hs k ((d,I r)::f) h rs Q) :
  EG E lo (⟨some d,.bin .sub x y,g,0⟩::os) hs k f h rs Q := .go hw (by rw [←hr];simp only [iop,hx,hy,qar,qaq,qan,if_true];rfl) rfl c
end

def hnd (s g:Int):Int:=1099511627776+g*1048576+s
def qn4 (s g:Int):Value:=if 0≤s∧s<64∧0≤g∧g≤1000 then .tuple #[I (hnd s g),I 0]else .tuple #[I 0,I 1]
theorem qn5 (lo:Nat)(h:qab)(s g:Int):qfV En lo Id.zbI [I s,I g] h=some (qn4 s g,h):=by
 refine qgy rfl Fn.zbI rfl rfl ?_
 unfold qn4
 by_cases h1:0≤s∧s<64∧0≤g∧g≤1000
 ·rw [if_pos h1]
  refine Exists.elim (show ∃a b:Nat,s=a∧g=b from⟨s.toNat,g.toNat,by omega,by omega⟩) fun a hq=>Exists.elim hq fun b hq => ?_
  have ha:=hq.1
  have hb:=hq.2
  subst ha hb
  clear hq
  have q1:b*2 ^ 20=b*1048576:=rfl
  have q2:1099511627776 ||| b*1048576=1099511627776+b*1048576:=by
   have:=Nat.two_pow_add_eq_or_of_lt (i:=40) (b:=b*1048576) (by omega) 1
   rw [Nat.mul_one]at this
   exact this.symm
  have q3:(1099511627776+b*1048576) ||| a=1099511627776+b*1048576+a:=by
   have:=Nat.two_pow_add_eq_or_of_lt (i:=20) (b:=a) (by omega) (1048576+b)
   rw [show 2 ^ 20*(1048576+b)=1099511627776+b*1048576 by omega]at this
   exact this.symm
  repeat' first|refine .A ?_|refine .B ?_|refine .D ?_|refine .F ?_|refine .J ?_|refine .f1 ?_|refine .f3 ?_|refine .f4 ?_|refine qn2 (n:=b) (k':=20) q1 rfl rfl rfl (by decide) (by omega) ?_|refine qn1 (a:=1099511627776) q2 rfl rfl rfl (by decide) (by omega) ?_|refine qn1 q3 rfl rfl rfl (by omega) (by omega) ?_|refine .Y ?_|fail
  rfl
 ·rw [if_neg h1]
  by_cases h2:s<0
  ·repeat' first|refine .A ?_|refine .B ?_|refine .C ?_|refine .J ?_|refine .t1 ?_|refine .D ?_|refine .F ?_|refine .Y ?_|fail
   rfl
  ·by_cases h3:64≤s
   ·repeat' first|refine .A ?_|refine .B ?_|refine .C ?_|refine .J ?_|refine .f1 ?_|refine .t4 ?_|refine .D ?_|refine .F ?_|refine .Y ?_|fail
    rfl
   ·by_cases h4:g<0
    ·repeat' first|refine .A ?_|refine .B ?_|refine .C ?_|refine .J ?_|refine .t1 ?_|refine .f1 ?_|refine .f4 ?_|refine .D ?_|refine .F ?_|refine .Y ?_|fail
     rfl
    ·repeat' first|refine .A ?_|refine .B ?_|refine .C ?_|refine .J ?_|refine .f1 ?_|refine .t3 ?_|refine .f4 ?_|refine .F ?_|refine .Y ?_|fail
     rfl

def qn6 (h:Int):Option (Nat×Nat) :=
 if 1099511627776≤h∧(h-1099511627776)%1048576<64∧(h-1099511627776)/1048576≤1000 then some (((h-1099511627776)%1048576).toNat,((h-1099511627776)/1048576).toNat)else none
theorem qn7 {h:Int}{s g:Nat}(hs:s<64)(hg:g≤1000)(hh:h=1099511627776+(g:Int)*1048576+(s:Int)):qn6 h=some (s,g):=by
 unfold qn6
 rw [if_pos (by omega)]
 congr 1
 refine Prod.ext ?_ ?_<;>simp only<;>omega
def qn8:Option (Nat×Nat)→Value
 | some p => .tuple #[N p.1,N p.2,.bool true]
 | none => .tuple #[I 0,I 0,.bool false]
theorem qn9 (lo:Nat)(H:qab){h:Int}(hr : -9223372036854775808≤h∧h<9223372036854775808):qfV En lo Id.zbL [I h] H=some (qn8 (qn6 h),H):=by
 refine qgy rfl Fn.zbL rfl rfl ?_
 have hM:=fun lo s g=>qn5 lo H s g
 by_cases h1:1099511627776≤h
 ·refine Exists.elim (show ∃n:Nat,IntKind.i64.wrap (h-1099511627776)=(n:Nat)∧h-1099511627776=n from⟨(h-1099511627776).toNat,by rw [IntKind.wrap_i64];omega,by omega⟩) fun n hn => ?_
  refine Exists.elim (show ∃s,n%1048576=s from⟨_,rfl⟩) fun s hs => ?_
  refine Exists.elim (show ∃g,n/2 ^ 20=g from⟨_,rfl⟩) fun g hg => ?_
  have hn1:=hn.1
  have hMm:=fun lo=>hM lo (s:Nat) (g:Nat)
  by_cases h2:s<64∧g≤1000
  ·rw [qn7 h2.1 h2.2 (by omega)]
   have e:qn4 (s:Nat) (g:Nat) = .tuple #[I (hnd (s:Nat) (g:Nat)),I 0]:=if_pos (by omega)
   rw [e]at hMm
   repeat' first|refine .A ?_|refine .B ?_|refine .D ?_|refine .F ?_|refine .J ?_|(show EG _ _ (⟨_,.bin _ _ _,_,_⟩::_) _ _ _ _ _ _;first|refine qn3 (a:=h) (b:=1099511627776) hn1 rfl rfl rfl ?_|refine qlO (a:=n) (b:=1048576) hs rfl rfl rfl (by decide) ?_|refine qlN (n:=n) (k':=20) hg rfl rfl rfl (by decide) ?_|refine .f1 ?_|refine .f6 ?_)|refine .P (hMm _) ?_|refine .Y ?_|fail
   rfl
  ·have e:qn4 (s:Nat) (g:Nat) = .tuple #[I 0,I 1]:=if_neg (by omega)
   rw [e]at hMm
   have e2:qn6 h=none:=by unfold qn6;rw [if_neg (by omega)]
   rw [e2]
   repeat' first|refine .A ?_|refine .B ?_|refine .C ?_|refine .D ?_|refine .F ?_|refine .J ?_|(show EG _ _ (⟨_,.bin _ _ _,_,_⟩::_) _ _ _ _ _ _;first|refine qn3 (a:=h) (b:=1099511627776) hn1 rfl rfl rfl ?_|refine qlO (a:=n) (b:=1048576) hs rfl rfl rfl (by decide) ?_|refine qlN (n:=n) (k':=20) hg rfl rfl rfl (by decide) ?_|refine .f1 ?_|refine .t6 ?_)|refine .P (hMm _) ?_|refine .Y ?_|fail
   rfl
 ·have e2:qn6 h=none:=by unfold qn6;rw [if_neg (by omega)]
  rw [e2]
  by_cases h2 : -9223372036854775808≤h-1099511627776
  ·have hn1:IntKind.i64.wrap (h-1099511627776)=h-1099511627776:=by rw [IntKind.wrap_i64];omega
   repeat' first|refine .A ?_|refine .B ?_|refine .C ?_|refine .J ?_|refine qn3 (a:=h) (b:=1099511627776) hn1 rfl rfl rfl ?_|refine .t1 ?_|refine .F ?_|fail
   rfl
  ·refine Exists.elim (show ∃n:Nat,IntKind.i64.wrap (h-1099511627776)=(n:Nat)∧9000000000000000000<n from⟨(h-1099511627776+18446744073709551616).toNat,by rw [IntKind.wrap_i64];omega,by omega⟩) fun n hn => ?_
   refine Exists.elim (show ∃s,n%1048576=s from⟨_,rfl⟩) fun s hs => ?_
   refine Exists.elim (show ∃g,n/2 ^ 20=g from⟨_,rfl⟩) fun g hg => ?_
   have hn1:=hn.1
   have hMm:=fun lo=>hM lo (s:Nat) (g:Nat)
   have e:qn4 (s:Nat) (g:Nat) = .tuple #[I 0,I 1]:=if_neg (by omega)
   rw [e]at hMm
   repeat' first|refine .A ?_|refine .B ?_|refine .C ?_|refine .D ?_|refine .F ?_|refine .J ?_|(show EG _ _ (⟨_,.bin _ _ _,_,_⟩::_) _ _ _ _ _ _;first|refine qn3 (a:=h) (b:=1099511627776) hn1 rfl rfl rfl ?_|refine qlO (a:=n) (b:=1048576) hs rfl rfl rfl (by decide) ?_|refine qlN (n:=n) (k':=20) hg rfl rfl rfl (by decide) ?_|refine .f1 ?_|refine .t6 ?_)|refine .P (hMm _) ?_|refine .Y ?_|fail
   rfl

def ofO (S:Int):Option (Nat×Nat)→Int×Int×Int
 | some p=>if S≤(p.1:Int)then(0,0,4)else((p.1:Nat),(p.2:Nat),0)
 | none=>(0,0,4)
def ofR (h S:Int):Int×Int×Int:=ofO S (qn6 h)
def ofV (h S:Int):Value := .tuple #[I (ofR h S).1,I (ofR h S).2.1,I (ofR h S).2.2]
theorem qoa (lo:Nat)(H:qab){h:Int}(hr : -9223372036854775808≤h∧h<9223372036854775808)(S:Int):qfV En lo Id.zbJ [I h,I S] H=some (ofV h S,H):=by
 refine qgy rfl Fn.zbJ rfl rfl ?_
 have hM:=fun lo=>qn9 lo H hr
 unfold ofV ofR
 cases hu:qn6 h with
 | none =>
   rw [hu]at hM
   simp only [qn8]at hM
   repeat' first|refine .A ?_|refine .B ?_|refine .C ?_|refine .J ?_|refine .P (hM _) ?_|refine .D ?_|refine .F ?_|refine .Y ?_|fail
   rfl
 | some p =>
   obtain⟨s,g⟩:=p
   rw [hu]at hM
   simp only [qn8]at hM
   by_cases h1:S≤(s:Int)
   ·simp only [ofO,if_pos h1]
    repeat' first|refine .A ?_|refine .B ?_|refine .C ?_|refine .J ?_|refine .t4 ?_|refine .P (hM _) ?_|refine .F ?_|refine .Y ?_|fail
    rfl
   ·simp only [ofO,if_neg h1]
    repeat' first|refine .A ?_|refine .B ?_|refine .D ?_|refine .F ?_|refine .J ?_|refine .f4 ?_|refine .P (hM _) ?_|refine .Y ?_|fail
    rfl

end Go.Proofs.YtdinebegmppnoabGreat

/- Entries changed, by the document; the next generation, by both. -/
namespace Go.Proofs.YtdinebegmppnoabGreat
open Go Go.Ir

def qob (e:Ent):Int×Ent:=if 0<IntKind.i64.wrap (e.p+e.u)∨e.lk=true then(1,e)else(0,⟨0,IntKind.i64.wrap (e.g+(qka (decide (e.g<1000)):Nat)),0,0,false,false⟩)
def qoc:Option Ent→Bool
 | none=>false
 | some e=>e.lv&&decide ((qob e).1=0)&&decide (e.g<1000)
def qod (w:Int):Bool:=qoc (qkc w)
def qoe (w:Int):Value := .tuple #[I (chE w qob).1,.bool (qod w),I (chE w qob).2]
theorem qof {w:Int}{e:Ent}(h:qkc w=some e):e.may:=by
 unfold qkc at h
 split at h
 ·rename_i hh;injection h with h;rw [←h];exact hh.2.2
 ·cases h

def qog (h:qab)(e:Ent):qab:=if 0<IntKind.i64.wrap (e.p+e.u)∨e.lk=true then h ++ [.row [.bool false] false] ++ [.row e.cs false]else h ++ [.row [.bool (decide (e.g<1000))] false] ++ [.row (qob e).2.cs false]
theorem qoh {lo:Nat}(h:qab)(hlo:lo≤h.length)(e:Ent):qfV En lo Id.zbg [.pointer (some ⟨(h ++ [Blk.row [.bool false] false]).length,0,none⟩),.pointer (some ⟨h.length,0,none⟩)] (h ++ [Blk.row [.bool false] false] ++ [.row e.cs false])=some (I (qob e).1,qog h e):=by
 have hlen:(h ++ [Blk.row [.bool false] false]).length=h.length+1:=by simp
 rw [hlen]
 have hb:(h ++ [Blk.row [.bool false] false] ++ [.row e.cs false])[h.length+1]? = some (.row e.cs false):=by rw [←hlen];exact List.getElem?_concat_length
 have hc:(h ++ [Blk.row [.bool false] false] ++ [.row e.cs false])[h.length]? = some (.row [.bool false] false):=by
  rw [List.getElem?_append_left (by simp)];exact List.getElem?_concat_length
 have l2:qav (h ++ [Blk.row [.bool false] false] ++ [.row e.cs false]) none ⟨h.length+1,0+2,none⟩=some (I e.p):=qiD hb rfl
 have l3:qav (h ++ [Blk.row [.bool false] false] ++ [.row e.cs false]) none ⟨h.length+1,0+3,none⟩=some (I e.u):=qiD hb rfl
 have l4:qav (h ++ [Blk.row [.bool false] false] ++ [.row e.cs false]) none ⟨h.length+1,0+4,none⟩=some (.bool e.lk):=qiD hb rfl
 have l1:qav (h ++ [Blk.row [.bool false] false] ++ [.row e.cs false]) none ⟨h.length+1,0+1,none⟩=some (I e.g):=qiD hb rfl
 unfold qog
 by_cases h0:0<IntKind.i64.wrap (e.p+e.u)
 ·have hF:qob e=(1,e):=by unfold qob;rw [if_pos (.inl h0)]
  rw [if_pos (.inl h0),hF]
  refine qgx rfl Fn.zbg rfl rfl ?_
  repeat' first|refine .A ?_|refine .B ?_|refine .C ?_|refine .J ?_|refine .t3 ?_|refine .L l2 ?_|refine .L l3 ?_|refine .D ?_|refine .F ?_|refine .Y ?_|fail
  rfl
 ·cases hk:e.lk with
  | true =>
    rw [hk]at l4
    have hF:qob e=(1,e):=by unfold qob;rw [if_pos (.inr hk)]
    rw [if_pos (.inr rfl),hF]
    refine qgx rfl Fn.zbg rfl rfl ?_
    repeat' first|refine .A ?_|refine .B ?_|refine .C ?_|refine .J ?_|refine .f3 ?_|refine .L l2 ?_|refine .L l3 ?_|refine .L l4 ?_|refine .F ?_|refine .Y ?_|fail
    rfl
  | false =>
    rw [hk]at l4
    have hF:qob e=(0,⟨0,IntKind.i64.wrap (e.g+(qka (decide (e.g<1000)):Nat)),0,0,false,false⟩):=by unfold qob;rw [if_neg (by rw [hk];simp only [Bool.false_eq_true,or_false];exact h0)]
    rw [if_neg (by simp only [Bool.false_eq_true,or_false];exact h0),hF]
    refine qgx rfl Fn.zbg rfl rfl ?_
    by_cases hg:e.g<1000
    all_goals
     first|rw [decide_eq_true hg]|rw [decide_eq_false hg]
     first
     | (have hst:stN lo (h ++ [Blk.row [.bool false] false] ++ [.row e.cs false]) ⟨h.length,0,none⟩ (qaf (.bool true))=some (h ++ [Blk.row [.bool true] false] ++ [.row e.cs false]) :=
         (qiF (w := [.bool true]) hc hlo (Nat.le_of_ble_eq_true rfl) rfl).trans (by rw [List.set_append_left _ _ (by simp),qmv])
        have hb2:(h ++ [Blk.row [.bool true] false] ++ [.row e.cs false])[h.length+1]? = some (.row e.cs false):=by rw [show h.length+1=(h ++ [Blk.row [.bool true] false]).length by simp];exact List.getElem?_concat_length
        have hc2:(h ++ [Blk.row [.bool true] false] ++ [.row e.cs false])[h.length]? = some (.row [.bool true] false):=by
         rw [List.getElem?_append_left (by simp)];exact List.getElem?_concat_length
        have m1:qav (h ++ [Blk.row [.bool true] false] ++ [.row e.cs false]) none ⟨h.length+1,0+1,none⟩=some (I e.g):=qiD hb2 rfl
        have m0:qav (h ++ [Blk.row [.bool true] false] ++ [.row e.cs false]) none ⟨h.length,0,none⟩=some (.bool true):=qiD hc2 rfl
        have hB:=fun lo=>qkl lo (h ++ [Blk.row [.bool true] false] ++ [.row e.cs false]) true
        have hst2:stN lo (h ++ [Blk.row [.bool true] false] ++ [.row e.cs false]) ⟨h.length+1,0,none⟩ (qaf (.agg #[I 0,I (IntKind.i64.wrap (e.g+(qka true:Nat))),I 0,I 0,.bool false,.bool false]))=some (h ++ [Blk.row [.bool true] false] ++ [.row (⟨0,IntKind.i64.wrap (e.g+(qka true:Nat)),0,0,false,false⟩:Ent).cs false]) :=
         (qiF (w:=(⟨0,IntKind.i64.wrap (e.g+(qka true:Nat)),0,0,false,false⟩:Ent).cs) hb2 (by omega) (Nat.le_of_ble_eq_true rfl) rfl).trans (by rw [show h.length+1=(h ++ [Blk.row [.bool true] false]).length by simp,qmv])
        repeat' first|refine .A ?_|refine .B ?_|refine .D ?_|refine .F ?_|refine .J ?_|refine .t1 ?_|refine .f1 ?_|refine .f3 ?_|(show EG _ _ (⟨_,.load _ _,_,_⟩::_) _ _ _ _ _ _;first|refine .L l2 ?_|refine .L l3 ?_|refine .L l4 ?_|refine .L l1 ?_|refine .L m0 ?_)|refine .P (hB _) ?_|refine .X m1 (qiI m1) (qkw _) ?_|refine .S hst ?_|refine .S hst2 ?_|refine .Y ?_|fail
        rfl)
     | (have hst:stN lo (h ++ [Blk.row [.bool false] false] ++ [.row e.cs false]) ⟨h.length,0,none⟩ (qaf (.bool false))=some (h ++ [Blk.row [.bool false] false] ++ [.row e.cs false]) :=
         (qiF (w := [.bool false]) hc hlo (Nat.le_of_ble_eq_true rfl) rfl).trans (by rw [List.set_append_left _ _ (by simp),qmv])
        have m0:qav (h ++ [Blk.row [.bool false] false] ++ [.row e.cs false]) none ⟨h.length,0,none⟩=some (.bool false):=qiD hc rfl
        have hB:=fun lo=>qkl lo (h ++ [Blk.row [.bool false] false] ++ [.row e.cs false]) false
        have hst2:stN lo (h ++ [Blk.row [.bool false] false] ++ [.row e.cs false]) ⟨h.length+1,0,none⟩ (qaf (.agg #[I 0,I (IntKind.i64.wrap (e.g+(qka false:Nat))),I 0,I 0,.bool false,.bool false]))=some (h ++ [Blk.row [.bool false] false] ++ [.row (⟨0,IntKind.i64.wrap (e.g+(qka false:Nat)),0,0,false,false⟩:Ent).cs false]) :=
         (qiF (w:=(⟨0,IntKind.i64.wrap (e.g+(qka false:Nat)),0,0,false,false⟩:Ent).cs) hb (by omega) (Nat.le_of_ble_eq_true rfl) rfl).trans (by rw [show h.length+1=(h ++ [Blk.row [.bool false] false]).length by simp,qmv])
        repeat' first|refine .A ?_|refine .B ?_|refine .D ?_|refine .F ?_|refine .J ?_|refine .f1 ?_|refine .f3 ?_|(show EG _ _ (⟨_,.load _ _,_,_⟩::_) _ _ _ _ _ _;first|refine .L l2 ?_|refine .L l3 ?_|refine .L l4 ?_|refine .L l1 ?_|refine .L m0 ?_)|refine .P (hB _) ?_|refine .X l1 (qiI l1) (qkw _) ?_|refine .S hst ?_|refine .S hst2 ?_|refine .Y ?_|fail
        rfl)

theorem qoi (h:qab)(e:Ent):(qog h e)[(h ++ [Blk.row [.bool false] false]).length]? = some (.row (qob e).2.cs false):=by
 unfold qog
 split
 ·rename_i hc
  rw [List.getElem?_concat_length]
  unfold qob
  rw [if_pos hc]
 ·have:(h ++ [Blk.row [.bool false] false]).length=(h ++ [Blk.row [.bool (decide (e.g<1000))] false]).length:=by simp
  rw [this,List.getElem?_concat_length]
theorem qoj (h:qab)(e:Ent):(qog h e)[h.length]? = some (.row [.bool (decide ((qob e).1=0)&&decide (e.g<1000))] false):=by
 unfold qog qob
 split
 ·rw [List.getElem?_append_left (by simp),List.getElem?_concat_length];rfl
 ·rw [List.getElem?_append_left (by simp),List.getElem?_concat_length];simp
theorem qok (lo:Nat)(h:qab)(w:Int):qfV En lo Id.zbf [I w] h=some (qoe w,h):=by
 have hC:=qmw (lo:=h.length) (h:=h ++ [.row [.bool false] false]) (w:=w) (F:=qob) (G:=qog h) (fn:=Id.zbg) (caps := #[.pointer (some ⟨h.length,0,none⟩)]) (by simp) (fun e=>qoh h (Nat.le_refl _) e) (fun e=>qoi h e)
 have hst:stN h.length (h ++ [.row [.bool false] false]) ⟨h.length,0,none⟩ (qaf (.bool false))=some (h ++ [.row [.bool false] false]) :=
  (qiF (w := [.bool false]) List.getElem?_concat_length (Nat.le_refl _) (Nat.le_of_ble_eq_true rfl) rfl).trans (by rw [qmv])
 refine qgy rfl Fn.zbf rfl rfl ?_
 unfold qmu at hC
 unfold qoe qod
 cases hu:qkc w with
 | none =>
   rw [hu]at hC
   have hl:qav (h ++ [Blk.row [.bool false] false] ++ [.row Ent.zero.cs false]) none ⟨h.length,0,none⟩=some (.bool false):=qiD (by rw [List.getElem?_append_left (by simp)];exact List.getElem?_concat_length) rfl
   repeat' first|refine .A ?_|refine .B ?_|refine .J ?_|refine .L hl ?_|refine .P hC ?_|refine .S hst ?_|refine .F ?_|refine .Y ?_|fail
   rfl
 | some e =>
   rw [hu]at hC
   simp only at hC
   cases hv:e.lv with
   | false =>
     rw [hv,if_neg (by simp)]at hC
     have hl:qav (h ++ [Blk.row [.bool false] false] ++ [.row e.cs false]) none ⟨h.length,0,none⟩=some (.bool false):=qiD (by rw [List.getElem?_append_left (by simp)];exact List.getElem?_concat_length) rfl
     have hm:qoc (some e)=false:=by simp [qoc,hv]
     rw [hm]
     repeat' first|refine .A ?_|refine .B ?_|refine .J ?_|refine .L hl ?_|refine .P hC ?_|refine .S hst ?_|refine .F ?_|refine .Y ?_|fail
     rfl
   | true =>
     rw [hv,if_pos rfl]at hC
     have hl:qav (qog h e) none ⟨h.length,0,none⟩=some (.bool (qoc (some e))):=qiD (qoj h e) (by simp [qoc,hv])
     generalize qoc (some e)=mo at hl⊢
     repeat' first|refine .A ?_|refine .B ?_|refine .J ?_|refine .L hl ?_|refine .P hC ?_|refine .S hst ?_|refine .F ?_|refine .Y ?_|fail
     rfl

end Go.Proofs.YtdinebegmppnoabGreat

