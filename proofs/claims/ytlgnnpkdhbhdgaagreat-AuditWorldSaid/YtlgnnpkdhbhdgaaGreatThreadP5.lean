/- The stack's machines, step by step: by the document. -/
import Derived.Test.YtlgnnpkdhbhdgaaGreatThreadP4
import Derived.Test.YtlgnnpkdhbhdgaaGreatThreadP1
import Derived.Test.YtlgnnpkdhbhdgaaGreatThreadP3
import Derived.Test.YtlgnnpkdhbhdgaaGreatThreadP2
set_option linter.all false
namespace Go.Proofs.YtlgnnpkdhbhdgaaGreat
open Go Go.Ir
def qnX (c:Cfg)(p:Bool)(s:Sk):List Value := [I c.A,I c.S,I c.T,.bool p,I s.slot,I s.nx,I s.word,I s.to]
structure DidR (H H':qab)(b:Nat)(row:List Value)(cb:CB)(ws bs:List Int):Prop where
 row:H'[b]? = some (.row row false)
 cells:IsR H' cb ws bs
 yz:Chg [b,cb.P,cb.W,cb.Y] H H'
section
variable {lo:Nat}{H:qab}{b:Nat}{c:Cfg}{s:Sk}{cb:CB}{ws bs:List Int}{p:Bool}
def DidR.put {H1:qab}{row row':List Value}(d:DidR H H1 b row cb ws bs)(hb:b≠cb.P/\b≠cb.W/\b≠cb.Y):DidR H (H1.set b (.row row' false)) b row' cb ws bs :=
 ⟨qiy (qiB d.row),d.cells.yz (S := [b]) ((Chg.refl [b] H1).set (i:=b) (by simp)) (by simp;omega),d.yz.set (i:=b) (by simp)⟩
end
section
variable {lo:Nat}{H:qab}{b:Nat}{c:Cfg}{s:Sk}{cb:CB}{ws bs:List Int}
end
def Rng (ws:List Int):Prop:=∀w∈ws,-9223372036854775808<=w/\w<9223372036854775808
def Rng.get {ws:List Int}(h:Rng ws)(i:Int) : -9223372036854775808<=qi5 ws i/\qi5 ws i<9223372036854775808:=by
 unfold qi5
 split
 ·rename_i hi
  rw [List.getD_eq_getElem?_getD]
  cases hg:ws[i.toNat]? with
  | none=>simp
  | some x=>exact h x (List.mem_of_getElem? hg)
 ·omega
def qnY {ws:List Int}(h:Rng ws)(i:Int){n:Int}(hn : -9223372036854775808<=n/\n<9223372036854775808):Rng (qi6 ws i n):=by
 intro w hw
 unfold qi6 at hw
 split at hw
 ·rcases List.mem_or_eq_of_mem_set hw with h1|h1
  ·exact h w h1
  ·rw [h1];exact hn
 ·exact h w hw
structure Op4 where
 d:Int
 h:Int
 f:Int
 n:Int
 hr : -9223372036854775808<=h/\h<9223372036854775808
 nr : -9223372036854775808<=n/\n<9223372036854775808
def Op4.cs (t:Op4):List Value := [I t.d,I t.h,I t.f,I t.n]
def ocs (l:List Op4):List (List Value):=l.map Op4.cs
def qnZ (l:List Op4):(ocs l).length=l.length:=by simp [ocs]
def qn0 (l:List Op4):∀e∈ocs l,e.length=4:=by
 intro e he
 obtain⟨n,_,rfl⟩:=List.mem_map.1 he
 rfl
def qn1 {l:List Op4}{i:Nat}{o:Op4}(h:l[i]? = some o):(ocs l)[i]? = some o.cs:=by simp [ocs,h]
def OpsV (H:qab)(v:Value)(l:List Op4)(ob:Nat):Prop :=
 (l = []/\∃a k,v = .slice a 0 k/\(a=none->k=0)/\∀x,a=some x->x.spot=none/\0<=k)\/
 ∃off cs,v = .slice (some (loose ob off)) l.length 4/\H[ob]? = some (.row cs false)/\off+l.length*4<=cs.length/\(cs.drop off).take (l.length*4)=(ocs l).flatten
def OpsV.keep {H H':qab}{v:Value}{l:List Op4}{ob:Nat}(h:OpsV H v l ob)(hk:H'[ob]? = H[ob]?):OpsV H' v l ob:=by
 rcases h with h|⟨off,cs,h1,h2,h3⟩
 ·exact .inl h
 ·exact .inr ⟨off,cs,h1,hk.trans h2,h3⟩
def OpsV.len {H:qab}{v:Value}{l:List Op4}{ob:Nat}(h:OpsV H v l ob):∃a k,v = .slice a l.length k:=by
 rcases h with⟨rfl,a,k,h1,_⟩|⟨off,cs,h1,_⟩
 ·exact⟨a,k,h1⟩
 ·exact⟨_,_,h1⟩
def OpsV.head {H:qab}{v:Value}{o:Op4}{r:List Op4}{ob:Nat}(h:OpsV H v (o::r) ob) :
  ∃off,v = .slice (some (loose ob off)) (r.length+1) 4/\qau H (some 4) ⟨ob,off+0*4,none⟩=some (.agg o.cs.toArray)/\ob<H.length/\
   qaA 4 v (some (I 1)) none none=some (.slice (some (loose ob (off+1*4))) r.length 4)/\OpsV H (.slice (some (loose ob (off+1*4))) r.length 4) r ob:=by
 rcases h with⟨h,_⟩|⟨off,cs,h1,h2,h3,h4⟩
 ·cases h
 ·have hlen:(o::r).length=r.length+1:=rfl
  rw [hlen]at h1 h3 h4
  have hfl:(ocs (o::r)).flatten=o.cs++(ocs r).flatten:=rfl
  have h5:(cs.drop off).take 4=o.cs:=by
   have:=congrArg (List.take 4) h4
   rw [List.take_take,hfl,Nat.min_eq_left (by omega)]at this
   rw [this]
   exact List.take_left' rfl
  have h6:(cs.drop (off+1*4)).take (r.length*4)=(ocs r).flatten:=by
   have:=congrArg (List.drop 4) h4
   rw [List.drop_take,hfl,List.drop_drop]at this
   rw [show(r.length+1)*4-4=r.length*4 by omega,show off+4=off+1*4 by omega]at this
   rw [this]
   exact List.drop_left' rfl
  refine⟨off,h1,qiD h2 (by omega) (by rw [Nat.zero_mul,Nat.add_zero];exact h5),qiB h2, ?_,.inr ⟨_,cs,rfl,h2,by omega,h6⟩⟩
  rw [h1]
  have hib:qaz (r.length+1) (r.length+1) (some (I 1)) none none=some (1,r.length+1,r.length+1):=by
   have h1:qav (I 1) (r.length+1)=some 1:=by
    show(if(0:Int)<=1/\(1:Int)<=((r.length+1:Nat):Int)then some (1:Int).toNat else none)=some 1
    rw [if_pos ⟨by omega,by omega⟩]
    rfl
   simp only [qaz,qaw,qax,qay,h1]
  simp only [qaA,loose,hib,if_true]
  simp
section
variable {E:Env}{lo:Nat}{os:List IOper}{f:Fr}{h:qab}{hs:List qab}{k:List Ir.Item}{rs:List qaj}{Q:Value->qab->Prop}{d:Nat}{g:Option (Nat×Bool)}{x y:Operand}
def qn2 {a b r:Nat}(hr:a ||| b=r)(hw:want g f=some true)(hx:ev f x=some (N a))(hy:ev f y=some (N b))(ha:a<2 ^ 62)(hb:b<2 ^ 62)(c:EG E lo os hs k ((d,N r)::f) h rs Q) :
  EG E lo (⟨some d,.bin .or x y,g,0⟩::os) hs k f h rs Q := .go hw (by rw [<-hr];exact qj0 _ _ hx hy ha hb) rfl c
def qn3 {n k' r:Nat}{j:IntKind}(hr:n*2 ^ k'=r)(hw:want g f=some true)(hx:ev f x=some (N n))(hy:ev f y=some (.int j (k':Nat)))(hk:k'<=62)(hb:n*2 ^ k'<2 ^ 62)(c:EG E lo os hs k ((d,N r)::f) h rs Q) :
  EG E lo (⟨some d,.bin .shl x y,g,0⟩::os) hs k f h rs Q := .go hw (by rw [<-hr];exact qlK hx hy hk hb) rfl c
def qn4 {a b r:Int}(hr:IntKind.i64.wrap (a-b)=r)(hw:want g f=some true)(hx:ev f x=some (I a))(hy:ev f y=some (I b))(c:EG E lo os hs k ((d,I r)::f) h rs Q) :
  EG E lo (⟨some d,.bin .sub x y,g,0⟩::os) hs k f h rs Q := .go hw (by rw [<-hr];simp only [yf,hx,hy,qaq,qap,qam,if_true];rfl) rfl c
end
def hnd (s g:Int):Int:=1099511627776+g*1048576+s
def qn5 (s g:Int):Value:=if 0<=s/\s<64/\0<=g/\g<=1000 then .tuple #[I (hnd s g),I 0]else .tuple #[I 0,I 1]
def qn6 (lo:Nat)(h:qab)(s g:Int):qfU En lo Id.zbI [I s,I g] h=some (qn5 s g,h):=by
 refine qgx rfl Fn.zbI rfl rfl ?_
 unfold qn5
 by_cases h1:0<=s/\s<64/\0<=g/\g<=1000
 ·rw [if_pos h1]
  refine zzX (show ∃a b:Nat,s=a/\g=b from⟨s.toNat,g.toNat,by omega,by omega⟩) fun a hq=>zzX hq fun b hq => ?_
  have ha:=hq.1
  have hb:=hq.2
  subst ha hb
  clear hq
  have q1:b*2 ^ 20=b*1048576:=rfl
  have q2:1099511627776 ||| b*1048576=1099511627776+b*1048576:=by
   have:=Nat.two_pow_add_eq_or_of_lt (i:=40) (b:=b*1048576) (by omega) 1
   rw [Nat.mul_one]at this
   exact this.symm
  have q3:(1099511627776+b*1048576) ||| a=1099511627776+b*1048576+a:=by
   have:=Nat.two_pow_add_eq_or_of_lt (i:=20) (b:=a) (by omega) (1048576+b)
   rw [show 2 ^ 20*(1048576+b)=1099511627776+b*1048576 by omega]at this
   exact this.symm
  repeat' first|refine .A ?_|refine .B ?_|refine .D ?_|refine .F ?_|refine .J ?_|refine .f1 ?_|refine .f3 ?_|refine .f4 ?_|refine qn3 (n:=b) (k':=20) q1 rfl rfl rfl (by decide) (by omega) ?_|refine qn2 (a:=1099511627776) q2 rfl rfl rfl (by decide) (by omega) ?_|refine qn2 q3 rfl rfl rfl (by omega) (by omega) ?_|refine .Y ?_|fail
  rfl
 ·rw [if_neg h1]
  by_cases h2:s<0
  ·repeat' first|refine .A ?_|refine .B ?_|refine .C ?_|refine .J ?_|refine .t1 ?_|refine .D ?_|refine .F ?_|refine .Y ?_|fail
   rfl
  ·by_cases h3:64<=s
   ·repeat' first|refine .A ?_|refine .B ?_|refine .C ?_|refine .J ?_|refine .f1 ?_|refine .t4 ?_|refine .D ?_|refine .F ?_|refine .Y ?_|fail
    rfl
   ·by_cases h4:g<0
    ·repeat' first|refine .A ?_|refine .B ?_|refine .C ?_|refine .J ?_|refine .t1 ?_|refine .f1 ?_|refine .f4 ?_|refine .D ?_|refine .F ?_|refine .Y ?_|fail
     rfl
    ·repeat' first|refine .A ?_|refine .B ?_|refine .C ?_|refine .J ?_|refine .f1 ?_|refine .t3 ?_|refine .f4 ?_|refine .F ?_|refine .Y ?_|fail
     rfl
def qn7 (h:Int):Option (Nat×Nat) :=
 if 1099511627776<=h/\(h-1099511627776)%1048576<64/\(h-1099511627776)/1048576<=1000 then some (((h-1099511627776)%1048576).toNat,((h-1099511627776)/1048576).toNat)else none
def qn8 {h:Int}{s g:Nat}(hs:s<64)(hg:g<=1000)(hh:h=1099511627776+(g:Int)*1048576+(s:Int)):qn7 h=some (s,g):=by
 unfold qn7
 rw [if_pos (by omega)]
 congr 1
 refine Prod.ext ?_ ?_<;>simp only<;>omega
def qn9:Option (Nat×Nat)->Value
 | some p => .tuple #[N p.1,N p.2,.bool true]
 | none => .tuple #[I 0,I 0,.bool false]
def qoa (lo:Nat)(H:qab){h:Int}(hr : -9223372036854775808<=h/\h<9223372036854775808):qfU En lo Id.zbL [I h] H=some (qn9 (qn7 h),H):=by
 refine qgx rfl Fn.zbL rfl rfl ?_
 have hM:=fun lo s g=>qn6 lo H s g
 by_cases h1:1099511627776<=h
 ·refine zzX (show ∃n:Nat,IntKind.i64.wrap (h-1099511627776)=(n:Nat)/\h-1099511627776=n from⟨(h-1099511627776).toNat,by rw [IntKind.wrap_i64];omega,by omega⟩) fun n hn => ?_
  refine zzX (show ∃s,n%1048576=s from⟨_,rfl⟩) fun s hs => ?_
  refine zzX (show ∃g,n/2 ^ 20=g from⟨_,rfl⟩) fun g hg => ?_
  have hn1:=hn.1
  have hMm:=fun lo=>hM lo (s:Nat) (g:Nat)
  by_cases h2:s<64/\g<=1000
  ·rw [qn8 h2.1 h2.2 (by omega)]
   have e:qn5 (s:Nat) (g:Nat) = .tuple #[I (hnd (s:Nat) (g:Nat)),I 0]:=if_pos (by omega)
   rw [e]at hMm
   repeat' first|refine .A ?_|refine .B ?_|refine .D ?_|refine .F ?_|refine .J ?_|(show EG _ _ (⟨_,.bin _ _ _,_,_⟩::_) _ _ _ _ _ _;first|refine qn4 (a:=h) (b:=1099511627776) hn1 rfl rfl rfl ?_|refine qlO (a:=n) (b:=1048576) hs rfl rfl rfl (by decide) ?_|refine qlN (n:=n) (k':=20) hg rfl rfl rfl (by decide) ?_|refine .f1 ?_|refine .f6 ?_)|refine .P (hMm _) ?_|refine .Y ?_|fail
   rfl
  ·have e:qn5 (s:Nat) (g:Nat) = .tuple #[I 0,I 1]:=if_neg (by omega)
   rw [e]at hMm
   have e2:qn7 h=none:=by unfold qn7;rw [if_neg (by omega)]
   rw [e2]
   repeat' first|refine .A ?_|refine .B ?_|refine .C ?_|refine .D ?_|refine .F ?_|refine .J ?_|(show EG _ _ (⟨_,.bin _ _ _,_,_⟩::_) _ _ _ _ _ _;first|refine qn4 (a:=h) (b:=1099511627776) hn1 rfl rfl rfl ?_|refine qlO (a:=n) (b:=1048576) hs rfl rfl rfl (by decide) ?_|refine qlN (n:=n) (k':=20) hg rfl rfl rfl (by decide) ?_|refine .f1 ?_|refine .t6 ?_)|refine .P (hMm _) ?_|refine .Y ?_|fail
   rfl
 ·have e2:qn7 h=none:=by unfold qn7;rw [if_neg (by omega)]
  rw [e2]
  by_cases h2 : -9223372036854775808<=h-1099511627776
  ·have hn1:IntKind.i64.wrap (h-1099511627776)=h-1099511627776:=by rw [IntKind.wrap_i64];omega
   repeat' first|refine .A ?_|refine .B ?_|refine .C ?_|refine .J ?_|refine qn4 (a:=h) (b:=1099511627776) hn1 rfl rfl rfl ?_|refine .t1 ?_|refine .F ?_|fail
   rfl
  ·refine zzX (show ∃n:Nat,IntKind.i64.wrap (h-1099511627776)=(n:Nat)/\9000000000000000000<n from⟨(h-1099511627776+18446744073709551616).toNat,by rw [IntKind.wrap_i64];omega,by omega⟩) fun n hn => ?_
   refine zzX (show ∃s,n%1048576=s from⟨_,rfl⟩) fun s hs => ?_
   refine zzX (show ∃g,n/2 ^ 20=g from⟨_,rfl⟩) fun g hg => ?_
   have hn1:=hn.1
   have hMm:=fun lo=>hM lo (s:Nat) (g:Nat)
   have e:qn5 (s:Nat) (g:Nat) = .tuple #[I 0,I 1]:=if_neg (by omega)
   rw [e]at hMm
   repeat' first|refine .A ?_|refine .B ?_|refine .C ?_|refine .D ?_|refine .F ?_|refine .J ?_|(show EG _ _ (⟨_,.bin _ _ _,_,_⟩::_) _ _ _ _ _ _;first|refine qn4 (a:=h) (b:=1099511627776) hn1 rfl rfl rfl ?_|refine qlO (a:=n) (b:=1048576) hs rfl rfl rfl (by decide) ?_|refine qlN (n:=n) (k':=20) hg rfl rfl rfl (by decide) ?_|refine .f1 ?_|refine .t6 ?_)|refine .P (hMm _) ?_|refine .Y ?_|fail
   rfl
def ofO (S:Int):Option (Nat×Nat)->Int×Int×Int
 | some p=>if S<=(p.1:Int)then(0,0,4)else((p.1:Nat),(p.2:Nat),0)
 | none=>(0,0,4)
def ofR (h S:Int):Int×Int×Int:=ofO S (qn7 h)
def ofV (h S:Int):Value := .tuple #[I (ofR h S).1,I (ofR h S).2.1,I (ofR h S).2.2]
def qob (lo:Nat)(H:qab){h:Int}(hr : -9223372036854775808<=h/\h<9223372036854775808)(S:Int):qfU En lo Id.zbJ [I h,I S] H=some (ofV h S,H):=by
 refine qgx rfl Fn.zbJ rfl rfl ?_
 have hM:=fun lo=>qoa lo H hr
 unfold ofV ofR
 cases hu:qn7 h with
 | none =>
   rw [hu]at hM
   simp only [qn9]at hM
   repeat' first|refine .A ?_|refine .B ?_|refine .C ?_|refine .J ?_|refine .P (hM _) ?_|refine .D ?_|refine .F ?_|refine .Y ?_|fail
   rfl
 | some p =>
   obtain⟨s,g⟩:=p
   rw [hu]at hM
   simp only [qn9]at hM
   by_cases h1:S<=(s:Int)
   ·simp only [ofO,if_pos h1]
    repeat' first|refine .A ?_|refine .B ?_|refine .C ?_|refine .J ?_|refine .t4 ?_|refine .P (hM _) ?_|refine .F ?_|refine .Y ?_|fail
    rfl
   ·simp only [ofO,if_neg h1]
    repeat' first|refine .A ?_|refine .B ?_|refine .D ?_|refine .F ?_|refine .J ?_|refine .f4 ?_|refine .P (hM _) ?_|refine .Y ?_|fail
    rfl
def qoc (e:Ent):Int×Ent:=if 0<IntKind.i64.wrap (e.p+e.u)\/e.lk=true then(1,e)else(0,⟨0,IntKind.i64.wrap (e.g+(qj9 (decide (e.g<1000)):Nat)),0,0,false,false⟩)
def qod:Option Ent->Bool
 | none=>false
 | some e=>e.lv&&decide ((qoc e).1=0)&&decide (e.g<1000)
def qoe (w:Int):Bool:=qod (qkb w)
def qof (w:Int):Value := .tuple #[I (chE w qoc).1,.bool (qoe w),I (chE w qoc).2]
def qog {w:Int}{e:Ent}(h:qkb w=some e):e.may:=by
 unfold qkb at h
 split at h
 ·rename_i hh;injection h with h;rw [<-h];exact hh.2.2
 ·cases h
def qoh (h:qab)(e:Ent):qab:=if 0<IntKind.i64.wrap (e.p+e.u)\/e.lk=true then h ++ [.row [.bool false] false] ++ [.row e.cs false]else h ++ [.row [.bool (decide (e.g<1000))] false] ++ [.row (qoc e).2.cs false]
def qoi {lo:Nat}(h:qab)(hlo:lo<=h.length)(e:Ent):qfU En lo Id.zbg [.pointer (some ⟨(h ++ [Blk.row [.bool false] false]).length,0,none⟩),.pointer (some ⟨h.length,0,none⟩)] (h ++ [Blk.row [.bool false] false] ++ [.row e.cs false])=some (I (qoc e).1,qoh h e):=by
 have hlen:(h ++ [Blk.row [.bool false] false]).length=h.length+1:=by simp
 rw [hlen]
 have hb:(h ++ [Blk.row [.bool false] false] ++ [.row e.cs false])[h.length+1]? = some (.row e.cs false):=by rw [<-hlen];exact zzC
 have hc:(h ++ [Blk.row [.bool false] false] ++ [.row e.cs false])[h.length]? = some (.row [.bool false] false):=by
  rw [zzA (by simp)];exact zzC
 have l2:qau (h ++ [Blk.row [.bool false] false] ++ [.row e.cs false]) none ⟨h.length+1,0+2,none⟩=some (I e.p):=qiC hb rfl
 have l3:qau (h ++ [Blk.row [.bool false] false] ++ [.row e.cs false]) none ⟨h.length+1,0+3,none⟩=some (I e.u):=qiC hb rfl
 have l4:qau (h ++ [Blk.row [.bool false] false] ++ [.row e.cs false]) none ⟨h.length+1,0+4,none⟩=some (.bool e.lk):=qiC hb rfl
 have l1:qau (h ++ [Blk.row [.bool false] false] ++ [.row e.cs false]) none ⟨h.length+1,0+1,none⟩=some (I e.g):=qiC hb rfl
 unfold qoh
 by_cases h0:0<IntKind.i64.wrap (e.p+e.u)
 ·have hF:qoc e=(1,e):=by unfold qoc;rw [if_pos (.inl h0)]
  rw [if_pos (.inl h0),hF]
  refine qgw rfl Fn.zbg rfl rfl ?_
  repeat' first|refine .A ?_|refine .B ?_|refine .C ?_|refine .J ?_|refine .t3 ?_|refine .L l2 ?_|refine .L l3 ?_|refine .D ?_|refine .F ?_|refine .Y ?_|fail
  rfl
 ·cases hk:e.lk with
  | true =>
    rw [hk]at l4
    have hF:qoc e=(1,e):=by unfold qoc;rw [if_pos (.inr hk)]
    rw [if_pos (.inr rfl),hF]
    refine qgw rfl Fn.zbg rfl rfl ?_
    repeat' first|refine .A ?_|refine .B ?_|refine .C ?_|refine .J ?_|refine .f3 ?_|refine .L l2 ?_|refine .L l3 ?_|refine .L l4 ?_|refine .F ?_|refine .Y ?_|fail
    rfl
  | false =>
    rw [hk]at l4
    have hF:qoc e=(0,⟨0,IntKind.i64.wrap (e.g+(qj9 (decide (e.g<1000)):Nat)),0,0,false,false⟩):=by unfold qoc;rw [if_neg (by rw [hk];simp only [Bool.false_eq_true,or_false];exact h0)]
    rw [if_neg (by simp only [Bool.false_eq_true,or_false];exact h0),hF]
    refine qgw rfl Fn.zbg rfl rfl ?_
    by_cases hg:e.g<1000
    all_goals
     first|rw [zzT hg]|rw [zzF hg]
     first
     | (have hst:stN lo (h ++ [Blk.row [.bool false] false] ++ [.row e.cs false]) ⟨h.length,0,none⟩ (qaf (.bool true))=some (h ++ [Blk.row [.bool true] false] ++ [.row e.cs false]) :=
         (qiE (w := [.bool true]) hc hlo (zzL rfl) rfl).trans (by rw [List.set_append_left _ _ (by simp),qmv])
        have hb2:(h ++ [Blk.row [.bool true] false] ++ [.row e.cs false])[h.length+1]? = some (.row e.cs false):=by rw [show h.length+1=(h ++ [Blk.row [.bool true] false]).length by simp];exact zzC
        have hc2:(h ++ [Blk.row [.bool true] false] ++ [.row e.cs false])[h.length]? = some (.row [.bool true] false):=by
         rw [zzA (by simp)];exact zzC
        have m1:qau (h ++ [Blk.row [.bool true] false] ++ [.row e.cs false]) none ⟨h.length+1,0+1,none⟩=some (I e.g):=qiC hb2 rfl
        have m0:qau (h ++ [Blk.row [.bool true] false] ++ [.row e.cs false]) none ⟨h.length,0,none⟩=some (.bool true):=qiC hc2 rfl
        have hB:=fun lo=>qkk lo (h ++ [Blk.row [.bool true] false] ++ [.row e.cs false]) true
        have hst2:stN lo (h ++ [Blk.row [.bool true] false] ++ [.row e.cs false]) ⟨h.length+1,0,none⟩ (qaf (.agg #[I 0,I (IntKind.i64.wrap (e.g+(qj9 true:Nat))),I 0,I 0,.bool false,.bool false]))=some (h ++ [Blk.row [.bool true] false] ++ [.row (⟨0,IntKind.i64.wrap (e.g+(qj9 true:Nat)),0,0,false,false⟩:Ent).cs false]) :=
         (qiE (w:=(⟨0,IntKind.i64.wrap (e.g+(qj9 true:Nat)),0,0,false,false⟩:Ent).cs) hb2 (by omega) (zzL rfl) rfl).trans (by rw [show h.length+1=(h ++ [Blk.row [.bool true] false]).length by simp,qmv])
        repeat' first|refine .A ?_|refine .B ?_|refine .D ?_|refine .F ?_|refine .J ?_|refine .t1 ?_|refine .f1 ?_|refine .f3 ?_|(show EG _ _ (⟨_,.load _ _,_,_⟩::_) _ _ _ _ _ _;first|refine .L l2 ?_|refine .L l3 ?_|refine .L l4 ?_|refine .L l1 ?_|refine .L m0 ?_)|refine .P (hB _) ?_|refine .X m1 (qiH m1) (qkv _) ?_|refine .S hst ?_|refine .S hst2 ?_|refine .Y ?_|fail
        rfl)
     | (have hst:stN lo (h ++ [Blk.row [.bool false] false] ++ [.row e.cs false]) ⟨h.length,0,none⟩ (qaf (.bool false))=some (h ++ [Blk.row [.bool false] false] ++ [.row e.cs false]) :=
         (qiE (w := [.bool false]) hc hlo (zzL rfl) rfl).trans (by rw [List.set_append_left _ _ (by simp),qmv])
        have m0:qau (h ++ [Blk.row [.bool false] false] ++ [.row e.cs false]) none ⟨h.length,0,none⟩=some (.bool false):=qiC hc rfl
        have hB:=fun lo=>qkk lo (h ++ [Blk.row [.bool false] false] ++ [.row e.cs false]) false
        have hst2:stN lo (h ++ [Blk.row [.bool false] false] ++ [.row e.cs false]) ⟨h.length+1,0,none⟩ (qaf (.agg #[I 0,I (IntKind.i64.wrap (e.g+(qj9 false:Nat))),I 0,I 0,.bool false,.bool false]))=some (h ++ [Blk.row [.bool false] false] ++ [.row (⟨0,IntKind.i64.wrap (e.g+(qj9 false:Nat)),0,0,false,false⟩:Ent).cs false]) :=
         (qiE (w:=(⟨0,IntKind.i64.wrap (e.g+(qj9 false:Nat)),0,0,false,false⟩:Ent).cs) hb (by omega) (zzL rfl) rfl).trans (by rw [show h.length+1=(h ++ [Blk.row [.bool false] false]).length by simp,qmv])
        repeat' first|refine .A ?_|refine .B ?_|refine .D ?_|refine .F ?_|refine .J ?_|refine .f1 ?_|refine .f3 ?_|(show EG _ _ (⟨_,.load _ _,_,_⟩::_) _ _ _ _ _ _;first|refine .L l2 ?_|refine .L l3 ?_|refine .L l4 ?_|refine .L l1 ?_|refine .L m0 ?_)|refine .P (hB _) ?_|refine .X l1 (qiH l1) (qkv _) ?_|refine .S hst ?_|refine .S hst2 ?_|refine .Y ?_|fail
        rfl)
def qoj (h:qab)(e:Ent):(qoh h e)[(h ++ [Blk.row [.bool false] false]).length]? = some (.row (qoc e).2.cs false):=by
 unfold qoh
 split
 ·rename_i hc
  rw [zzC]
  unfold qoc
  rw [if_pos hc]
 ·have:(h ++ [Blk.row [.bool false] false]).length=(h ++ [Blk.row [.bool (decide (e.g<1000))] false]).length:=by simp
  rw [this,zzC]
def qok (h:qab)(e:Ent):(qoh h e)[h.length]? = some (.row [.bool (decide ((qoc e).1=0)&&decide (e.g<1000))] false):=by
 unfold qoh qoc
 split
 ·rw [zzA (by simp),zzC];rfl
 ·rw [zzA (by simp),zzC];simp
def qol (lo:Nat)(h:qab)(w:Int):qfU En lo Id.zbf [I w] h=some (qof w,h):=by
 have hC:=qmw (lo:=h.length) (h:=h ++ [.row [.bool false] false]) (w:=w) (F:=qoc) (G:=qoh h) (fn:=Id.zbg) (caps := #[.pointer (some ⟨h.length,0,none⟩)]) (by simp) (fun e=>qoi h (zzR _) e) (fun e=>qoj h e)
 have hst:stN h.length (h ++ [.row [.bool false] false]) ⟨h.length,0,none⟩ (qaf (.bool false))=some (h ++ [.row [.bool false] false]) :=
  (qiE (w := [.bool false]) zzC (zzR _) (zzL rfl) rfl).trans (by rw [qmv])
 refine qgx rfl Fn.zbf rfl rfl ?_
 unfold qmu at hC
 unfold qof qoe
 cases hu:qkb w with
 | none =>
   rw [hu]at hC
   have hl:qau (h ++ [Blk.row [.bool false] false] ++ [.row Ent.zero.cs false]) none ⟨h.length,0,none⟩=some (.bool false):=qiC (by rw [zzA (by simp)];exact zzC) rfl
   repeat' first|refine .A ?_|refine .B ?_|refine .J ?_|refine .L hl ?_|refine .P hC ?_|refine .S hst ?_|refine .F ?_|refine .Y ?_|fail
   rfl
 | some e =>
   rw [hu]at hC
   simp only at hC
   cases hv:e.lv with
   | false =>
     rw [hv,if_neg (by simp)]at hC
     have hl:qau (h ++ [Blk.row [.bool false] false] ++ [.row e.cs false]) none ⟨h.length,0,none⟩=some (.bool false):=qiC (by rw [zzA (by simp)];exact zzC) rfl
     have hm:qod (some e)=false:=by simp [qod,hv]
     rw [hm]
     repeat' first|refine .A ?_|refine .B ?_|refine .J ?_|refine .L hl ?_|refine .P hC ?_|refine .S hst ?_|refine .F ?_|refine .Y ?_|fail
     rfl
   | true =>
     rw [hv,if_pos rfl]at hC
     have hl:qau (qoh h e) none ⟨h.length,0,none⟩=some (.bool (qod (some e))):=qiC (qok h e) (by simp [qod,hv])
     generalize qod (some e)=mo at hl|-
     repeat' first|refine .A ?_|refine .B ?_|refine .J ?_|refine .L hl ?_|refine .P hC ?_|refine .S hst ?_|refine .F ?_|refine .Y ?_|fail
     rfl
end Go.Proofs.YtlgnnpkdhbhdgaaGreat
