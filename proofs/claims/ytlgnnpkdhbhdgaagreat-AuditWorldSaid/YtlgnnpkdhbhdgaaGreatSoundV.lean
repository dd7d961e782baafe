/- Objects in their order: picked out of the plan seat's texts by a program. -/
import Derived.Test.YtlgnnpkdhbhdgaaGreatWorldP
import Derived.Test.YtlgnnpkdhbhdgaaGreatThreadP2
import Derived.Test.YtlgnnpkdhbhdgaaGreatThreadP3
import Derived.Test.YtlgnnpkdhbhdgaaGreatThreadP5
set_option linter.all false
namespace Go.Proofs.YtlgnnpkdhbhdgaaGreat
open Go Go.Ir
def qrw (x:Obj)(t:Int):Bool:=decide (x.o<=t)&&decide (0<=IntKind.i64.wrap (t-x.o))&&decide (IntKind.i64.wrap (t-x.o)<x.n)
section
variable {prims:List (Nat×qaY)}
end
def qrx (x y:Obj):Bool:=decide (0<x.n)&&(decide (0<y.n)&&(qrw x y.o||qrw y x.o))
section
variable {prims:List (Nat×qaY)}
end
def qry (l:List Obj):Prop:=∀(i k:Nat) (x y:Obj),k<i->l[i]? = some x->l[k]? = some y->qrx x y=false
open Classical in
noncomputable def qrz (l:List Obj):Bool:=decide (qry l)
open Classical in
def qrA {l:List Obj}(h:qry l):qrz l=true:=by unfold qrz;exact zzT h
open Classical in
def qrB {l:List Obj}(h:¬qry l):qrz l=false:=by unfold qrz;exact zzF h
section
variable {prims:List (Nat×qaY)}
end
def qrC (arena:Int)(x:Obj):Prop:=0<=x.o/\1<=x.n/\x.n<=4096/\x.o<=IntKind.i64.wrap (arena-x.n)
def okP (arena:Int)(l:List Obj):Prop:=0<=arena/\arena<=4096/\qry l/\∀(i:Nat) (x:Obj),l[i]? = some x->qrC arena x
open Classical in
noncomputable def okN (arena:Int)(l:List Obj):Int:=if okP arena l then 0 else 1
open Classical in
def qrD {arena:Int}{l:List Obj}(h:okP arena l):okN arena l=0:=by unfold okN;exact if_pos h
open Classical in
def qrE {arena:Int}{l:List Obj}(h:¬okP arena l):okN arena l=1:=by unfold okN;exact if_neg h
section
variable {lo:Nat}{h:qab}
def qrF (lo:Nat)(h:qab)(a b:Obj):qfU En lo Id.zcB [.agg a.cs.toArray,.agg b.cs.toArray] h=some (.bool (qrw b a.o),h):=by
 refine qgx rfl Fn.zcB rfl rfl ?_
 repeat' first|refine .A ?_|refine .B ?_|refine .J ?_|refine .C ?_|refine .k1 (fun hc => ?_) fun hc => ?_|refine .k4 (fun hc => ?_) fun hc => ?_|refine .D ?_|refine .F ?_|refine .Y ?_|fail
 all_goals (refine qiW ?_;simp [qrw, *])
def qrG (arena:Int)(x:Obj):Bool:=decide (x.o<0)||decide (x.n<1)||decide (4096<x.n)||decide (IntKind.i64.wrap (arena-x.n)<x.o)
def qrH (lo:Nat){h:qab}{a:Addr}{arena:Int}(hld:qau h none a=some (.int .i64 arena))(x:Obj) :
  qfU En lo Id.zcz [.agg x.cs.toArray,.pointer (some a)] h=some (.bool (qrG arena x),h):=by
 refine qgx rfl Fn.zcz rfl rfl ?_
 repeat' first|refine .A ?_|refine .B ?_|refine .J ?_|refine .C ?_|refine .k1 (fun hc => ?_) fun hc => ?_|refine .k3 (fun hc => ?_) fun hc => ?_|refine .L hld ?_|refine .D ?_|refine .F ?_|refine .Y ?_|fail
 all_goals (refine qiW ?_;simp [qrG, *])
def qrI (lo:Nat)(h:qab)(x:Obj):qfU En lo Id.zcw [.agg x.cs.toArray] h=some (.bool (decide (x.n<1)),h):=by
 refine qgx rfl Fn.zcw rfl rfl ?_
 repeat' first|refine .A ?_|refine .B ?_|refine .J ?_|refine .C ?_|refine .k1 (fun hc => ?_) fun hc => ?_|refine .F ?_|refine .Y ?_|fail
 all_goals (refine qiW ?_;simp [*])
def qrJ (lo:Nat){h:qab}{a:Addr}{x:Obj}(hld:qau h (some 4) a=some (.agg x.cs.toArray))(y:Obj) :
  qfU En lo Id.zcx [.agg y.cs.toArray,.pointer (some a)] h=some (.bool (qrw y x.o||qrw x y.o),h):=by
 refine qgx rfl Fn.zcx rfl rfl ?_
 repeat' first|refine .A ?_|refine .B ?_|refine .J ?_|refine .L hld ?_|refine .y7 rfl rfl (qrF _ _ x y) (fun hc => ?_) (fun hc => ?_)|refine .y7 rfl rfl (qrF _ _ y x) (fun hc => ?_) (fun hc => ?_)|refine .D ?_|refine .F ?_|refine .Y ?_|fail
 all_goals (refine qiW ?_;simp [*])
end
structure Mv where
 s:Int
 f:Int
 t:Int
 n:Int
def Mv.cs (x:Mv):List Value := [.int .i64 x.s,.int .i64 x.f,.int .i64 x.t,.int .i64 x.n]
def qrK (arena:Int)(l:List Obj):okN arena l=0\/okN arena l=1:=by
 by_cases h:okP arena l
 ·exact .inl (qrD h)
 ·exact .inr (qrE h)
def qrL (p:Obj->Bool):List Obj->Nat->Int
 | [],_ => -1
 | x::r,i=>if p x then(i:Int)else qrL p r (i+1)
def qrM (p:Obj->Bool):∀(l:List Obj) (i:Nat),decide (0<=qrL p l i)=l.any p
 | [],i=>rfl
 | x::r,i=>by
   unfold qrL
   rw [List.any_cons]
   cases h:p x with
   | true=>simp
   | false=>simpa [h]using qrM p r (i+1)
def qrN (p:Obj->Bool):∀(l:List Obj) (i:Nat),(qrL p l i = -1/\∀x∈l,p x=false)\/∃k,k<l.length/\qrL p l i=((i+k:Nat):Int)/\(∀x∈l.take k,p x=false)/\p (gt l k)=true
 | [],i => .inl ⟨rfl,fun x h=>by cases h⟩
 | x::r,i=>by
   unfold qrL
   cases h:p x with
   | true=>exact .inr ⟨0,by simp,by simp,fun y hy=>by simp at hy,h⟩
   | false =>
     rcases qrN p r (i+1)with⟨h1,h2⟩|⟨k,h1,h2,h3,h4⟩
     ·refine .inl ⟨by simpa using h1,fun y hy => ?_⟩
      rcases List.mem_cons.1 hy with rfl|hy
      ·exact h
      ·exact h2 y hy
     ·refine .inr ⟨k+1,by simpa using h1,by simp [h2];omega,fun y hy => ?_,h4⟩
      rw [List.take_succ_cons]at hy
      rcases List.mem_cons.1 hy with rfl|hy
      ·exact h
      ·exact h3 y hy
section
variable {h:qab}{v:Value}{l:List Obj}{g:Nat}{caps:List Value}{p:Obj->Bool}
def qrO (lo:Nat)(hv:Sl h 4 v (css l))(hl:l.length<=1000)(hp:∀lo x,qfU En lo g (.agg x.cs.toArray::caps) h=some (.bool (p x),h)) :
  qfU En lo Id.zdj [v,.func (.func g) #[] caps.toArray] h=some (.int .i64 (qrL p l 0),h):=by
 refine zzX hv.len fun base hq=>zzX hq fun cap hve => ?_
 rw [qkR]at hve
 refine qgx rfl Fn.zdj rfl rfl ?_
 subst hve
 repeat' first|refine .A ?_|refine .B ?_|refine .G ?_|refine .F ?_|refine .Y ?_|fail
 refine .loop (fun n f H=>H=h/\∃i:Nat,n+i=l.length/\f = [(0,.slice base l.length cap),(1,.func (.func g) #[] caps.toArray),(7,N l.length),(8,N i)]/\qrL p l 0=qrL p (l.drop i) i) (n:=l.length)
  ⟨rfl,0,rfl,rfl,rfl⟩ ?_
 rintro n f H ⟨rfl,i,hn,rfl,hI⟩ next
 by_cases hi:i<l.length
 ·have hgi:l[i]? = some l[i]:=zzG hi
  have hd:l.drop i=l[i]::l.drop (i+1):=List.drop_eq_getElem_cons hi
  refine zzX (qkS hv hgi) fun a hq=>zzX hq fun cap' hq => ?_
  have hva:=hq.1
  have q0:=hq.2.1
  injection hva with e1 e2 e3
  subst e1
  generalize l[i]=x at q0 hd
  repeat' first|refine .A ?_|refine .B ?_|refine .C ?_|refine .D ?_|refine .F ?_|refine .G ?_|refine .H ?_|refine .J ?_|refine .t1 ?_|refine .n2 ?_|refine .L q0 ?_|refine .yn rfl rfl rfl (by omega) ?_|refine .waA rfl rfl rfl rfl (hp _ x) (fun hc => ?_) (fun hc => ?_)|fail
  ·refine qiV ?_
   rw [hI,hd,qrL,if_pos ‹_›]
  ·refine next (n-1) _ _ (by omega) ⟨rfl,i+1,by omega,rfl, ?_⟩
   rw [hI,hd,qrL,if_neg (by simp [*])]
 ·repeat' first|refine .A ?_|refine .B ?_|refine .D ?_|refine .I ?_|refine .J ?_|refine .f1 ?_|refine .F ?_|fail
  refine qiV ?_
  rw [hI,List.drop_of_length_le (by omega)]
  rfl
def qrP (lo:Nat)(hv:Sl h 4 v (css l))(hl:l.length<=1000)(hp:∀lo x,qfU En lo g (.agg x.cs.toArray::caps) h=some (.bool (p x),h)) :
  qfU En lo Id.zdh [v,.func (.func g) #[] caps.toArray] h=some (.bool (l.any p),h):=by
 refine qgx rfl Fn.zdh rfl rfl ?_
 have ha:=qrM p l 0
 repeat' first|refine .A ?_|refine .B ?_|refine .J ?_|refine .k4 (fun hc => ?_) fun hc => ?_|refine .P (qrO _ hv hl hp) ?_|refine .F ?_|fail
 ·exact qiW (by rw [<-ha,zzT ‹_›])
 ·exact qiW (by rw [<-ha,zzF ‹_›])
end
section
variable {E:Env}{lo:Nat}{os:List IOper}{f:Fr}{h h':qab}{hs hs':List qab}{v:Value}{k:List Ir.Item}{rs:List qaj}{Q:Value->qab->Prop}{d:Nat}{g:Option (Nat×Bool)}
variable {x y:Operand}{b n i esz:Nat}
def EG.upTo (hw:want g f=some true)(hx:ev f x=some (.slice (some (loose b 0)) n esz))(hy:ev f y=some (N i))(hi:i<=n)(c:EG E lo os hs k ((d,.slice (some (loose b 0)) i esz)::f) h rs Q) :
  EG E lo (⟨some d,.slice esz x none (some y) none,g,0⟩::os) hs k f h rs Q := .go hw (by
   simp only [yf,hx,waa,hy,qaA,loose,if_true,qaz,qaw,qax,qav,qay]
   rw [if_pos ⟨by omega,by omega⟩]
   simp) rfl c
def EG.fromOn (hw:want g f=some true)(hx:ev f x=some (.slice (some (loose b 0)) n esz))(hy:ev f y=some (N i))(hi:i<=n)(c:EG E lo os hs k ((d,.slice (some (loose b (i*esz))) (n-i) esz)::f) h rs Q) :
  EG E lo (⟨some d,.slice esz x (some y) none none,g,0⟩::os) hs k f h rs Q := .go hw (by
   simp only [yf,hx,waa,hy,qaA,loose,if_true,qaz,qaw,qax,qav,qay]
   rw [if_pos ⟨by omega,by omega⟩]
   simp) rfl c
end
def qrQ {cs:List Value} : ∀n,(qaL cs n).length=n*cs.length
 | 0=>by simp [qaL]
 | n+1=>by
   have ih:=qrQ (cs:=cs) n
   simp only [qaL,zzM,ih]
   rw [Nat.add_mul];omega
section
variable {H:qab}{lo b:Nat}{l:List Obj}
def qrR {l:List Obj}{i:Nat}(hi:i<=l.length):(css (l.take i)).flatten=(css l).flatten.take (i*4):=by
 have e:(css l).flatten=(css (l.take i)).flatten++(css (l.drop i)).flatten:=by
  rw [<-List.flatten_append]
  congr 1
  simp only [css,<-List.map_append,List.take_append_drop]
 have hlen:(css (l.take i)).flatten.length=i*4:=by rw [qgz (qkx _),qkR,List.length_take,Nat.min_eq_left hi]
 rw [e,<-hlen,List.take_left]
def qrS {h:qab}{cap:Nat}{l:List Obj}(hv:Sl h 4 (.slice (some (loose b 0)) l.length cap) (css l)){i:Nat}(hi:i<=l.length):Sl h 4 (.slice (some (loose b 0)) i cap) (css (l.take i)):=by
 refine⟨qkx _, ?_⟩
 have hlt:(l.take i).length=i:=by rw [List.length_take];omega
 rcases hv.2 with⟨h1,base,cap',h2⟩|⟨a,cap',h1,h2⟩
 ·have:l = []:=by cases l with|nil=>rfl|cons _ _=>simp [css]at h1
  subst this
  refine .inl ⟨by simp [css],some (loose b 0),cap, ?_⟩
  simp at hi
  rw [hi]
 ·rw [qkR]at h1 h2
  injection h1 with e1 e2 e3
  injection e1 with e1
  subst e1
  refine .inr ⟨loose b 0,cap,by rw [qkR,hlt], ?_⟩
  obtain⟨cs,ro,hb,g1,g2⟩:=qgB h2
  rw [qkR,hlt,qgC hb (by omega)]
  rw [qrR hi,g2,List.take_take,Nat.min_eq_left (by omega)]
def qrT {n:Nat}(hlo:lo<=b)(hb:b<H.length){i:Nat}(hn:l.length=i+n) :
  stN lo (hw H b l) ⟨b,i*4,none⟩ (qaL [.int .i64 0,.int .i64 0,.int .i64 0,.bool false] n)=some (hw H b (l.take i++List.replicate n qkT)):=by
 have e1:(hw H b l)[b]? = some (.row (css l).flatten false):=by simp [hw,hb]
 have hfl:(css l).flatten.length=l.length*4:=by rw [qgz (qkx l),qkR]
 have hr:qaL [.int .i64 0,.int .i64 0,.int .i64 0,.bool false] n=(css (List.replicate n qkT)).flatten:=by
  induction n with
  | zero=>rfl
  | succ n ih =>
    have:∀m,qaL [Value.int .i64 0,.int .i64 0,.int .i64 0,.bool false] m=(css (List.replicate m qkT)).flatten:=by
     intro m
     induction m with
     | zero=>rfl
     | succ m ih =>
       simp only [qaL,ih,List.replicate_succ,css,List.map_cons,List.flatten_cons]
       rfl
    exact this _
 have hlen:(qaL [Value.int .i64 0,.int .i64 0,.int .i64 0,.bool false] n).length=n*4:=qrQ n
 have hlt:(l.take i).length=i:=by rw [List.length_take];omega
 unfold stN
 simp only [e1]
 rw [if_pos hlo,if_pos trivial,if_pos (by rw [hfl,hlen];show i*4+n*4<=_;omega)]
 have hs:splice (css l).flatten (i*4) (qaL [.int .i64 0,.int .i64 0,.int .i64 0,.bool false] n)=(css (l.take i++List.replicate n qkT)).flatten:=by
  unfold splice
  rw [hlen,List.drop_of_length_le (by rw [hfl];omega),List.append_nil,hr]
  rw [show css (l.take i++List.replicate n qkT)=css (l.take i)++css (List.replicate n qkT) by simp [css],List.flatten_append,qrR (by omega)]
 rw [hs]
 simp [hw]
end
def big (x:Obj):Bool := !decide (x.n<1)
abbrev FA:Value := .func (.func Id.zcw) #[] #[]
section
variable {H:qab}{lo b:Nat}{l:List Obj}
def qrU {l:List Obj}{j:Nat}(hj:j<l.length):(l.take (j+1)).filter big=(l.take j).filter big++(if big (gt l j)then [gt l j]else []):=by
 rw [List.take_succ_eq_append_getElem hj,List.filter_append]
 congr 1
 have:gt l j=l[j]:=by simp [gt,hj]
 rw [this]
 cases h:big l[j]<;>simp [h]
def qrV {l:List Obj}{i:Nat}{x:Obj}(hi:i<l.length):(l.set i x).take (i+1)=l.take i ++ [x]:=by
 rw [List.take_succ_eq_append_getElem (by simpa using hi),List.take_set,List.set_eq_of_length_le (by simp;omega)]
 simp
def qrW (hlo:lo<=b)(hb:b<H.length)(hl:l.length<=1000) :
  ∃v H',qfU En lo Id.zdi [dat b l.length 4,FA] (hw H b l)=some (v,H')/\v=dat b (l.filter big).length 4/\Sl H' 4 v (css (l.filter big))/\H.length=H'.length:=by
 have hI:=fun lo=>qrO (g:=Id.zcw) (caps := []) (p:=fun x=>decide (x.n<1)) lo (qk9 (cap:=4) (l:=l) hb) hl (fun lo x=>qrI lo _ x)
 refine qiu rfl Fn.zdi rfl rfl ?_
 rcases qrN (fun x=>decide (x.n<1)) l 0 with⟨h1,h2⟩|⟨k,h1,h2,h3,h4⟩
 ·rw [h1]at hI
  have hf:l.filter big=l:=List.filter_eq_self.2 fun x hx=>by have:=h2 x hx;simp only [big,this];rfl
  repeat' first|refine .A ?_|refine .B ?_|refine .C ?_|refine .J ?_|refine .t5 ?_|refine .P (hI _) ?_|refine .F ?_|fail
  rw [hf]
  exact⟨rfl,qk9 hb,(qk8 ..).symm⟩
 ·rw [h2]at hI
  repeat' first|refine .A ?_|refine .B ?_|refine .D ?_|refine .F ?_|refine .G ?_|refine .f5 ?_|refine .n2 ?_|refine .P (hI _) ?_|fail
  refine .loop (fun z f H'=>∃(i j:Nat) (l1:List Obj),z+j=l.length/\i<j/\l1.length=l.length/\f = [(0,dat b l.length 4),(1,FA),(5,N i),(6,N j)]/\H'=hw H b l1/\
    l1.take i=(l.take j).filter big/\∀q,j<=q->gt l1 q=gt l q) (n:=l.length-(k+1))
   ⟨0+k,0+k+1,l,by omega,by omega,rfl,rfl,rfl, ?_,fun _ _=>rfl⟩ ?_
  ·rw [Nat.zero_add,qrU h1]
   have hbk:big (gt l k)=false:=by simp only [big,h4];rfl
   rw [hbk]
   have:(l.take k).filter big=l.take k:=List.filter_eq_self.2 fun x hx=>by have:=h3 x hx;simp only [big,this];rfl
   rw [this]
   simp
  rintro z f H' ⟨i,j,l1,hz,hij,hll,rfl,rfl,hT,hG⟩ next
  by_cases hj:j<l.length
  ·have hgj:=hG j (zzR _)
   have hft:=qrU hj
   repeat' first|refine .A ?_|refine .B ?_|refine .C ?_|refine .D ?_|refine .F ?_|refine .G ?_|refine .H ?_|refine .t1 ?_|refine .n2 ?_|refine .load rfl rfl (qla hb (by omega)) ?_|refine .yn rfl rfl rfl (by omega) ?_|refine .waA rfl rfl rfl rfl (qrI _ _ (gt l1 j)) (fun hc => ?_) (fun hc => ?_)|refine .store rfl rfl rfl rfl rfl (qlb hlo hb (by omega)) ?_|refine .Y ?_|fail
   ·refine next (z-1) _ _ (by omega) ⟨i,j+1,l1,by omega,by omega,hll,rfl,rfl, ?_,fun q hq=>hG q (by omega)⟩
    rw [hft,<-hgj,show big (gt l1 j)=false by simp only [big,hc];rfl,hT]
    simp
   ·refine next (z-1) _ _ (by omega) ⟨i+1,j+1,l1.set i (gt l1 j),by omega,by omega,by rw [zzQ];exact hll,rfl,rfl, ?_,fun q hq => ?_⟩
    ·rw [hft,<-hgj,show big (gt l1 j)=true by simp only [big,hc];rfl,qrV (by omega),hT]
     rfl
    ·rw [qkV,if_neg (by omega)];exact hG q (by omega)
  ·have hjl:j=l.length:=by omega
   rw [hjl,List.take_length]at hT
   repeat' first|refine .A ?_|refine .B ?_|refine .D ?_|refine .I ?_|refine .J ?_|refine .f1 ?_|refine EG.fromOn rfl rfl rfl (by omega) ?_|refine EG.upTo rfl rfl rfl (by omega) ?_|refine .clr rfl rfl (by omega) (qrT hlo hb (by omega)) ?_|refine .F ?_|refine .Y ?_|fail
   have hlen:(l1.take i++List.replicate (l.length-i) qkT).length=l.length:=by simp;omega
   have hs:=qk9 (cap:=4) (l:=l1.take i++List.replicate (l.length-i) qkT) (b:=b) hb
   have ht:=qrS hs (i:=i) (by omega)
   have hti:(l1.take i++List.replicate (l.length-i) qkT).take i=l.filter big:=by
    rw [List.take_append_of_le_length (by simp;omega),List.take_take,Nat.min_self,hT]
   rw [hti]at ht
   have hfl:(l.filter big).length=i:=by rw [<-hT,List.length_take];omega
   exact⟨by rw [hfl];rfl,ht,(qk8 ..).symm⟩
end
def qrX (y x:Obj):Bool:=qrw y x.o||qrw x y.o
def qrY (ls:List Obj):Prop:=∀i x,ls[i]? = some x->(ls.take i).any (fun y=>qrX y x)=false
def qrZ (x y:Obj):qrx x y=qrx y x:=by
 unfold qrx
 rw [Bool.or_comm]
 cases decide (0<x.n)<;>cases decide (0<y.n)<;>rfl
def qr0 {x y:Obj}(hx:big x=true)(hy:big y=true):qrx x y=qrX y x:=by
 have h1:0<x.n:=by simp [big]at hx;omega
 have h2:0<y.n:=by simp [big]at hy;omega
 simp only [qrx,qrX,h1,h2,decide_true,Bool.true_and]
 rw [Bool.or_comm]
def qr1 {x y:Obj}(h:big x=false\/big y=false):qrx x y=false:=by
 unfold qrx
 rcases h with h|h
 ·have:¬0<x.n:=by simp [big]at h;omega
  simp [this]
 ·have:¬0<y.n:=by simp [big]at h;omega
  simp [this]
def qr2 (l:List Obj):qry l↔l.Pairwise (fun y x=>qrx x y=false):=by
 rw [List.pairwise_iff_getElem]
 constructor
 ·intro h i j hi hj hij
  exact h j i _ _ hij (zzG hj) (zzG hi)
 ·intro h i k x y hk hx hy
  obtain⟨hi,rfl⟩:=zzS.1 hx
  obtain⟨hk',rfl⟩:=zzS.1 hy
  exact h k i hk' hi hk
def qr3 (l:List Obj):qrY l↔l.Pairwise (fun y x=>qrX y x=false):=by
 rw [List.pairwise_iff_getElem]
 constructor
 ·intro h i j hi hj hij
  have:=List.any_eq_false.1 (h j _ (zzG hj)) l[i] (List.mem_iff_getElem.2 ⟨i,by rw [List.length_take];omega,by simp⟩)
  simpa using this
 ·intro h i x hx
  obtain⟨hi,rfl⟩:=zzS.1 hx
  rw [List.any_eq_false]
  intro y hy
  obtain⟨k,hk,rfl⟩:=List.mem_iff_getElem.1 hy
  rw [List.length_take]at hk
  have:=h k i (by omega) hi (by omega)
  simp only [List.getElem_take,this]
  decide
def qr4 (l:List Obj):qrY ((qkN l).filter big)↔qry l:=by
 rw [qr3,qr2,<-(qk2 l).pairwise_iff (R:=fun y x=>qrx x y=false) (fun {x y} h=>by rw [qrZ];exact h)]
 rw [List.pairwise_filter]
 constructor
 ·intro h
  refine h.imp fun {y x} hxy => ?_
  cases hx:big x with
  | false=>exact qr1 (.inl hx)
  | true =>
    cases hy:big y with
    | false=>exact qr1 (.inr hy)
    | true=>rw [qr0 hx hy];exact hxy hy hx
 ·intro h
  refine h.imp fun {y x} hxy hy hx => ?_
  rw [<-qr0 hx hy];exact hxy
def qr5 {H:qab}{lo:Nat}{cs:List Value}{x:Obj}(hlo:lo<=H.length)(hc:cs.length=4):stN lo (H ++ [Blk.row cs false]) ⟨H.length,0,none⟩ (qaf (.agg x.cs.toArray))=some (H ++ [Blk.row x.cs false]):=by
 unfold stN
 simp only [zzC]
 rw [if_pos hlo,if_pos trivial,if_pos (by rw [hc];exact zzR 4)]
 have:splice cs 0 (qaf (.agg x.cs.toArray))=x.cs:=by
  unfold splice
  rw [List.drop_of_length_le (by rw [hc];exact zzR 4)]
  rfl
 rw [this]
 simp
def qr6 {H:qab}{x:Obj} : qau (H ++ [Blk.row x.cs false]) (some 4) ⟨H.length,0,none⟩=some (.agg x.cs.toArray):=by
 unfold qau
 simp only
 rw [qgD (a:=⟨H.length,0,none⟩) (n:=4) (cs:=x.cs) (ro:=false) zzC rfl rfl]
def qr7 (lo:Nat)(h:qab):qfU En lo Id.zcv [.slice none 0 0] h=some (.bool true,h):=callR_iff.2 ⟨500,by kernel_rfl⟩
def qr8 (lo:Nat){h:qab}{v:Value}{l:List Obj}(hv:Sl h 4 v (css l))(h0:l = []->v = .slice none 0 0)(hl:l.length<=74) :
  qfU En lo Id.zcv [v] h=some (.bool (qrz l),h):=by
 by_cases hne:l = []
 ·subst hne
  rw [h0 rfl,qrA (fun i k x y _ hx=>by simp at hx)]
  exact qr7 _ _
 have hS:=fun lo=>qlJ lo hv h0 hl
 have hslen:=qkP l
 have hbr:=qr4 l
 have hm:made h 4 (css (qkN l))=(dat h.length (qkN l).length 4,hw (h ++ [.row (css (qkN l)).flatten false]) h.length (qkN l)):=by
  unfold made
  rw [if_neg (by intro hc;apply hne;have:=congrArg List.length hc;rw [qkR,hslen]at this;exact List.length_eq_zero_iff.1 this),qkR]
  simp [dat,hw]
 rw [hm]at hS
 generalize hH:h ++ [Blk.row (css (qkN l)).flatten false]=H at hS
 have hHl:H.length=h.length+1:=by rw [<-hH];simp
 generalize qkN l=so at hS hslen hbr
 refine zzX (qrW (H:=H) (lo:=h.length) (b:=h.length) (l:=so) (zzR _) (by omega) (by omega)) fun w hq=>zzX hq fun H1 hq => ?_
 have hD:=hq.1
 have hw:=hq.2.1
 have hs1:=hq.2.2.1
 have hl1:=hq.2.2.2
 have hfl:(so.filter big).length<=so.length:=List.length_filter_le ..
 generalize so.filter big=ls at hw hs1 hbr hfl
 subst hw
 refine qgx rfl Fn.zcv rfl rfl ?_
 repeat' first|refine .A ?_|refine .B ?_|refine .G ?_|refine .P (hS _) ?_|refine .P hD ?_|refine .F ?_|refine .Y ?_|fail
 refine .loop (fun z f Hc=>∃i:Nat,z+i=ls.length/\f = [(3,dat h.length ls.length 4),(9,dat h.length ls.length 4),(10,N ls.length),(11,N i)]/\Ext H1 Hc/\∀i' x,i'<i->ls[i']? = some x->(ls.take i').any (fun y=>qrX y x)=false) (n:=ls.length)
  ⟨0,by omega,rfl,.refl _,fun i' x hi=>by omega⟩ ?_
 rintro z f Hc ⟨i,hz,rfl,hx,hI⟩ next
 by_cases hi:i<ls.length
 ·have hgi:=qkU hi
  have hsc:=hs1.ext hx
  have hx1:=hx.1
  refine zzX (qkS hsc hgi) fun a hq=>zzX hq fun cap' hq => ?_
  have hva:=hq.1
  have q0:=hq.2.1
  injection hva with e1 e2 e3
  injection e1 with e1
  subst e1
  generalize gt ls i=x at hgi q0
  have hsl:=(qrS hsc (i:=i) (by omega)).ext ((Ext.refl Hc).app [Blk.row x.cs false])
  have hC:=fun lo=>qrP (g:=Id.zcx) (caps := [.pointer (some ⟨Hc.length,0,none⟩)]) (p:=fun y=>qrX y x) lo hsl (by rw [List.length_take];omega) (fun lo y=>qrJ lo qr6 y)
  repeat' first|refine .A ?_|refine .B ?_|refine .C ?_|refine .D ?_|refine .F ?_|refine .G ?_|refine .H ?_|refine .J ?_|refine .t1 ?_|refine .n2 ?_|refine .L q0 ?_|refine .y7 rfl rfl (hC _) (fun hc => ?_) (fun hc => ?_)|refine .yn rfl rfl rfl (by omega) ?_|refine .store rfl rfl rfl rfl rfl (qr5 (by omega) rfl) ?_|refine EG.upTo rfl rfl rfl (by omega) ?_|refine .Y ?_|fail
  ·refine qiW ?_
   rw [qrB]
   intro hA
   have:=hbr.2 hA i x hgi
   rw [hc]at this
   cases this
  ·refine next (z-1) _ _ (by omega) ⟨i+1,by omega,rfl,hx.app _,fun i' y hi' hy => ?_⟩
   by_cases e:i'=i
   ·subst e
    rw [hgi]at hy
    injection hy with hy
    subst hy
    exact hc
   ·exact hI i' y (by omega) hy
 ·repeat' first|refine .A ?_|refine .B ?_|refine .D ?_|refine .I ?_|refine .J ?_|refine .f1 ?_|refine .F ?_|fail
  refine qiW ?_
  rw [qrA]
  exact hbr.1 fun i' x hx'=>hI i' x (by have:=(zzS.1 hx').1;omega) hx'
def qr9 {H:qab}{u:Value} : qau (H ++ [Blk.row [u] false]) none ⟨H.length,0,none⟩=some u:=by
 simp [qau,ld1,qac]
def qsa (arena:Int)(x:Obj):qrG arena x=false↔qrC arena x:=by
 unfold qrG qrC
 simp
 omega
def qsb (lo:Nat){h:qab}{v:Value}{l:List Obj}{arena:Int}(hv:Sl h 4 v (css l))(h0:l = []->v = .slice none 0 0)(hl:l.length<=74) :
  qfU En lo Id.zcy [v,.int .i64 arena] h=some (.int .i64 (okN arena l),h):=by
 have hsb:=hv.ext ((Ext.refl h).app [Blk.row [.int .i64 arena] false])
 have hC:=fun lo=>qrP (g:=Id.zcz) (caps := [.pointer (some ⟨h.length,0,none⟩)]) (p:=qrG arena) lo hsb (by omega) (fun lo y=>qrH lo qr9 y)
 have hA:=fun lo=>qr8 lo hsb h0 hl
 refine qgx rfl Fn.zcy rfl rfl ?_
 repeat' first|refine .A ?_|refine .B ?_|refine .C ?_|refine .D ?_|refine .F ?_|refine .J ?_|refine .k1 (fun hc => ?_) fun hc => ?_|refine .k3 (fun hc => ?_) fun hc => ?_|refine .L qr9 ?_|refine .y7 rfl rfl (hC _) (fun hc => ?_) (fun hc => ?_)|refine .y7 rfl rfl (hA _) (fun hc => ?_) (fun hc => ?_)|refine .Y ?_|fail
 ·exact qiV (qrE (fun hk=>by have:=hk.1;omega)).symm
 ·exact qiV (qrE (fun hk=>by have:=hk.2.1;omega)).symm
 ·refine qiV (qrE (fun hk => ?_)).symm
  obtain⟨x,hx,hw⟩:=List.any_eq_true.1 hc
  obtain⟨i,hi,rfl⟩:=List.mem_iff_getElem.1 hx
  have:=(qsa arena _).2 (hk.2.2.2 i _ (zzG hi))
  rw [this]at hw
  cases hw
 ·rename_i ha hany
  refine qiV (qrD ⟨by omega,by omega,Classical.byContradiction (fun hn=>by rw [qrB hn]at hc;cases hc),fun i x hx => ?_⟩).symm
  refine(qsa arena x).1 ?_
  have:=List.any_eq_false.1 hany x (List.mem_of_getElem? hx)
  simpa using this
 ·exact qiV (qrE (fun hk=>by rw [qrA hk.2.2.1]at hc;cases hc)).symm
end Go.Proofs.YtlgnnpkdhbhdgaaGreat
namespace Go.Ir
open Go
def Out.keep {H H':qab}{lo n:Nat}{v:Value}{es:List (List Value)}(o:Out H lo n v es)(h:∀i,lo<=i->i<H.length->H'[i]? = H[i]?):Out H' lo n v es:=by
 refine⟨o.1, ?_⟩
 rcases o.2 with h1|⟨h0,b,h1,h2,h3⟩
 ·exact .inl h1
 ·exact .inr ⟨h0,b,h1,h2,by rw [h b h2 (zzS.1 h3).1];exact h3⟩
def Out.waN {H:qab}{l0 lo n bytes:Nat}{v:Value}{es:List (List Value)}{e:List Value}(o:Out H lo n v es)(he:e.length=n)(hl0:l0<=lo)(hlo:lo<=H.length)(hn:es.length+1<=2 ^ 30)(hb:bytes<=2 ^ 12) :
  ∃v' H',qaE l0 n bytes (H ++ [.row e false]) v (.slice (some ⟨H.length,0,none⟩) 1 1)=some (v',H')/\Out H' lo n v' (es ++ [e])/\lo<=H'.length/\∀i,i<lo->H'[i]? = H[i]? := by
 obtain⟨v',H',h1,h2,h3⟩:=o.waC (bytes:=bytes) he hl0 hlo hn hb
 have hl:(H.take lo).length=lo:=by rw [List.length_take];omega
 have hx:=h3 (H.take lo) (by omega) ⟨by omega,fun i hi=>by rw [hl]at hi;rw [List.getElem?_take,if_pos hi]⟩
 refine⟨v',H',h1,h2,by have:=hx.1;omega,fun i hi => ?_⟩
 rw [hx.2 i (by omega),List.getElem?_take,if_pos hi]
end Go.Ir
namespace Go.Proofs.YtlgnnpkdhbhdgaaGreat
open Go Go.Ir
structure Fd where
 x:Obj
 e:Ent
def Fd.cs (a:Fd):List Value:=a.x.cs++a.e.cs
def fcs (l:List Fd):List (List Value):=l.map Fd.cs
def qsc (l:List Fd):(fcs l).length=l.length:=by simp [fcs]
def qsd (l:List Fd)(a:Fd):fcs l ++ [a.cs]=fcs (l ++ [a]):=by simp [fcs]
def fdO (s n:Int):Option Ent->Option (List Fd)
 | none=>none
 | some e=>if e.lv=false then some []else if 1<=n/\n<=256 then some [⟨⟨s,e.o,qkq n,decide (0<e.p)⟩,e⟩]else none
def fdS (ws:List Int)(c:Cfg)(s:Int):Option (List Fd):=fdO s (qi5 ws (qjx c s 1)) (qkb (qi5 ws (qjx c s 0)))
def fdB (l:List Fd):Option (List Fd)->Option (List Fd)
 | none=>none
 | some y=>some (l++y)
def fdA (ws:List Int)(c:Cfg)(k:Nat):Option (List Fd)->Option (List Fd)
 | none=>none
 | some l=>fdB l (fdS ws c k)
def fdL (ws:List Int)(c:Cfg):Nat->Option (List Fd)
 | 0=>some []
 | k+1=>fdA ws c k (fdL ws c k)
def qse {ws:List Int}{c:Cfg}{k:Nat}(h:fdL ws c k=none):∀j,fdL ws c (k+j)=none
 | 0=>h
 | j+1=>by rw [<-Nat.add_assoc,fdL,qse h j];rfl
def qsf {ws:List Int}{c:Cfg}{k m:Nat}(h:fdL ws c k=none)(hm:k<=m):fdL ws c m=none:=by
 have:=qse h (m-k)
 rwa [show k+(m-k)=m by omega]at this
def qsg {ws:List Int}{c:Cfg}{s:Int}{y:List Fd}(h:fdS ws c s=some y):y.length<=1:=by
 unfold fdS at h
 cases hu:qkb (qi5 ws (qjx c s 0))with
 | none=>rw [hu]at h;cases h
 | some e =>
   rw [hu]at h
   simp only [fdO]at h
   split at h
   ·cases h;simp
   ·split at h
    ·cases h;simp
    ·cases h
def qsh {ws:List Int}{c:Cfg} : ∀{k:Nat} {l:List Fd},fdL ws c k=some l->l.length<=k
 | 0,l,h=>by cases h;simp
 | k+1,l,h=>by
   rw [fdL]at h
   cases hk:fdL ws c k with
   | none=>rw [hk]at h;cases h
   | some l' =>
     rw [hk]at h
     simp only [fdA]at h
     cases hs:fdS ws c k with
     | none=>rw [hs]at h;cases h
     | some y =>
       rw [hs]at h
       simp only [fdB]at h
       cases h
       have:=qsh hk
       have:=qsg hs
       simp;omega
def fdE (o:Option (List Fd)):Int:=if o.isSome then 0 else 2
def qsi (ws:List Int)(c:Cfg):Prop:=c.may/\qi2 c<=ws.length
instance (ws:List Int) (c:Cfg):Decidable (qsi ws c):=by unfold qsi;infer_instance
def qsj (ws:List Int)(c:Cfg):List Fd:=if qsi ws c then(fdL ws c c.S.toNat).getD []else []
def qsk (ws:List Int)(c:Cfg):Int:=if qsi ws c then fdE (fdL ws c c.S.toNat)else 1
def IsC.keep {H H':qab}{c:CB}{ws bs:List Int}(hC:IsC H c ws bs){lo:Nat}(h:∀i,i<lo->H'[i]? = H[i]?)(hb:c.P<lo/\c.W<lo/\c.Y<lo):IsC H' c ws bs:=by
 obtain⟨st,hp⟩:=hC.p
 exact⟨⟨st,(h _ hb.1).trans hp⟩,(h _ hb.2.1).trans hC.w,(h _ hb.2.2).trans hC.y,hC.pw,hC.py,hC.wy,hC.byte⟩
def Chg.keep {S:List Nat}{H H1 H2:qab}(a:Chg S H H1){lo:Nat}(hl:H.length<=lo)(h2:lo<=H2.length)(h:∀i,i<lo->H2[i]? = H1[i]?):Chg S H H2 :=
 ⟨by omega,fun j hj hs=>by rw [h j (by omega)];exact a.same j hj hs⟩
def IsC.lts {H:qab}{c:CB}{ws bs:List Int}(hC:IsC H c ws bs):c.P<H.length/\c.W<H.length/\c.Y<H.length:=by
 obtain⟨st,hp⟩:=hC.p
 exact⟨qiB hp,qiB hC.w,qiB hC.y⟩
section
variable {lo:Nat}{H:qab}{cb:CB}{ws bs:List Int}
set_option maxHeartbeats 4000000 in
def qsl (hC:IsC H cb ws bs)(hlo:lo<=cb.P)(c:Cfg) :
  ∃v H',qfU En lo Id.zar [ifC cb,.agg c.cs.toArray] H=some (.tuple #[v,I (qsk ws c)],H')/\IsC H' cb ws bs/\Chg [cb.P] H H'/\Out H' H.length 10 v (fcs (qsj ws c)):=by
 have key:∃u H',qfU En lo Id.zar [ifC cb,.agg c.cs.toArray] H=some (u,H')/\∃v,u = .tuple #[v,I (qsk ws c)]/\IsC H' cb ws bs/\Chg [cb.P] H H'/\Out H' H.length 10 v (fcs (qsj ws c)):=by
  refine qiu rfl Fn.zar rfl rfl ?_
  have hCW:=fun lo=>qjl (lo:=lo) hC
  have hlt:=hC.lts
  by_cases hm:c.may
  ·have hO:=fun lo=>qjt lo H hm
   have hLW:=fun lo=>qju lo H hm
   have hm':=hm
   unfold Cfg.may at hm'
   by_cases hw:qi2 c<=ws.length
   ·have hp:qsi ws c:=⟨hm,hw⟩
    have eL:qsj ws c=(fdL ws c c.S.toNat).getD []:=if_pos hp
    have eE:qsk ws c=fdE (fdL ws c c.S.toNat):=if_pos hp
    rw [eL,eE]
    clear eL eE
    repeat' first|refine .A ?_|refine .B ?_|refine .D ?_|refine .F ?_|refine .G ?_|refine .C ?_|refine .f1 ?_|refine .f6 ?_|refine .P (hO _) ?_|refine .P (hLW _) ?_|refine .W (hCW _) ?_|refine .Y ?_|fail
    refine .loop (fun n f H1=>∃(i:Nat) (l:List Fd) (o:Value),(n:Int)+i=c.S/\fdL ws c i=some l/\f = [(0,ifC cb),(6,lay c.T c.S),(8,o),(33,I c.S),(34,N i)]/\IsC H1 cb ws bs/\Chg [cb.P] H H1/\Out H1 H.length 10 o (fcs l)) (n:=c.S.toNat)
     ⟨0,[],_,by omega,rfl,rfl,hC,.refl _ _,Out.nil _ _ _⟩ ?_
    rintro n f H1 ⟨i,l,o,hn,hl,rfl,hC1,hx,ho⟩ next
    by_cases hi:(i:Int)<c.S
    ·have hLE:=fun lo=>qjA lo H1 hm (i:Nat)
     have hll:=qsh hl
     refine zzX (qjf hC1 hlo (qjx c i 0)) fun H2 hq => ?_
     have hL1:=hq.1
     have hC2:=hq.2.1
     have hx2:=hx.trans (.of hq.2.2)
     have ho2:=ho.keep fun j h1 h2=>hq.2.2.same j (by simp;omega)
     clear hq
     have hU:=fun lo=>qkn lo H2 (qi5 ws (qjx c i 0))
     have hLS:=fun lo=>qjB lo H2 hm (i:Nat)
     refine zzX (qjf hC2 hlo (qjx c i 1)) fun H3 hq => ?_
     have hL2:=hq.1
     have hC3:=hq.2.1
     have hx3:=hx2.trans (.of hq.2.2)
     have ho3:=ho2.keep fun j h1 h2=>hq.2.2.same j (by simp;omega)
     clear hq
     have hR:=fun lo=>qks lo H3 (qi5 ws (qjx c i 1))
     have hS:fdL ws c (i+1)=fdB l (fdO i (qi5 ws (qjx c i 1)) (qkb (qi5 ws (qjx c i 0)))):=by rw [fdL,hl];rfl
     clear hC1 hC2 ho ho2 hx hx2
     generalize qi5 ws (qjx c i 0)=w0 at hL1 hU hS
     generalize qi5 ws (qjx c i 1)=w1 at hL2 hR hS
     generalize qkb w0=u at hU hS
     cases u with
     | none =>
       simp only [fdO,fdB]at hS
       have hN:=qsf hS (show i+1<=c.S.toNat by omega)
       rw [hN]
       unfold unV at hU
       unfold qkr at hR
       by_cases hr:1<=w1/\w1<=256
       ·rw [if_pos hr]at hR
        repeat' first|refine .A ?_|refine .B ?_|refine .C ?_|refine .F ?_|refine .G ?_|refine .J ?_|refine .t1 ?_|refine .t6 ?_|refine .P (hLE _) ?_|refine .P (hU _) ?_|refine .P (hLS _) ?_|refine .P (hR _) ?_|refine .W hL1 ?_|refine .W hL2 ?_|refine .D ?_|refine .Y ?_|fail
        exact⟨_,rfl,hC3,hx3,Out.nil _ _ _⟩
       ·rw [if_neg hr]at hR
        repeat' first|refine .A ?_|refine .B ?_|refine .C ?_|refine .F ?_|refine .G ?_|refine .J ?_|refine .t1 ?_|refine .t6 ?_|refine .P (hLE _) ?_|refine .P (hU _) ?_|refine .P (hLS _) ?_|refine .P (hR _) ?_|refine .W hL1 ?_|refine .W hL2 ?_|refine .D ?_|refine .Y ?_|fail
        exact⟨_,rfl,hC3,hx3,Out.nil _ _ _⟩
     | some e =>
       obtain⟨eo,eg,ep,eu,lk,lv⟩:=e
       unfold unV at hU
       simp only [Ent.cs]at hU
       unfold qkr at hR
       cases lv with
       | false =>
         simp only [fdO,if_true,fdB]at hS
         by_cases hr:1<=w1/\w1<=256
         ·rw [if_pos hr]at hR
          repeat' first|refine .A ?_|refine .B ?_|refine .C ?_|refine .D ?_|refine .F ?_|refine .G ?_|refine .H ?_|refine .t1 ?_|refine .f6 ?_|refine .n2 ?_|refine .P (hLE _) ?_|refine .P (hU _) ?_|refine .P (hLS _) ?_|refine .P (hR _) ?_|refine .W hL1 ?_|refine .W hL2 ?_|refine .Y ?_|fail
          exact next (n-1) _ _ (by omega) ⟨i+1,l ++ [],_,by omega,hS,rfl,hC3,hx3,by rw [List.append_nil];exact ho3⟩
         ·rw [if_neg hr]at hR
          repeat' first|refine .A ?_|refine .B ?_|refine .C ?_|refine .D ?_|refine .F ?_|refine .G ?_|refine .H ?_|refine .t1 ?_|refine .f6 ?_|refine .n2 ?_|refine .P (hLE _) ?_|refine .P (hU _) ?_|refine .P (hLS _) ?_|refine .P (hR _) ?_|refine .W hL1 ?_|refine .W hL2 ?_|refine .Y ?_|fail
          exact next (n-1) _ _ (by omega) ⟨i+1,l ++ [],_,by omega,hS,rfl,hC3,hx3,by rw [List.append_nil];exact ho3⟩
       | true =>
         by_cases hr:1<=w1/\w1<=256
         ·rw [if_pos hr]at hR
          simp only [fdO,if_pos hr,fdB,Bool.true_eq_false,if_false]at hS
          refine zzX (ho3.waN (l0:=lo) (bytes:=72) (e:=Fd.cs ⟨⟨i,eo,qkq w1,decide (0<ep)⟩,⟨eo,eg,ep,eu,lk,true⟩⟩) rfl (by omega) hx3.len (by rw [qsc];omega) (by omega)) fun o' hq=>zzX hq fun H4 hq => ?_
          have hap:=hq.1
          have ho4:=hq.2.1
          have hC4:=hC3.keep hq.2.2.2 hlt
          have hx4:=hx3.keep (zzR _) hq.2.2.1 hq.2.2.2
          clear hq
          rw [qsd]at ho4
          by_cases hp0:0<ep
          ·rw [show Fd.cs ⟨⟨i,eo,qkq w1,decide (0<ep)⟩,⟨eo,eg,ep,eu,lk,true⟩⟩=Fd.cs ⟨⟨i,eo,qkq w1,true⟩,⟨eo,eg,ep,eu,lk,true⟩⟩ by rw [zzT hp0]]at hap
           repeat' first|refine .A ?_|refine .B ?_|refine .C ?_|refine .D ?_|refine .F ?_|refine .G ?_|refine .H ?_|refine .t1 ?_|refine .t3 ?_|refine .f6 ?_|refine .n2 ?_|refine .P (hLE _) ?_|refine .P (hU _) ?_|refine .P (hLS _) ?_|refine .P (hR _) ?_|refine .U hap ?_|refine .W hL1 ?_|refine .W hL2 ?_|refine .Y ?_|fail
           exact next (n-1) _ _ (by omega) ⟨i+1,_,o',by omega,hS,rfl,hC4,hx4,ho4⟩
          ·rw [show Fd.cs ⟨⟨i,eo,qkq w1,decide (0<ep)⟩,⟨eo,eg,ep,eu,lk,true⟩⟩=Fd.cs ⟨⟨i,eo,qkq w1,false⟩,⟨eo,eg,ep,eu,lk,true⟩⟩ by rw [zzF hp0]]at hap
           repeat' first|refine .A ?_|refine .B ?_|refine .C ?_|refine .D ?_|refine .F ?_|refine .G ?_|refine .H ?_|refine .t1 ?_|refine .f3 ?_|refine .f6 ?_|refine .n2 ?_|refine .P (hLE _) ?_|refine .P (hU _) ?_|refine .P (hLS _) ?_|refine .P (hR _) ?_|refine .U hap ?_|refine .W hL1 ?_|refine .W hL2 ?_|refine .Y ?_|fail
           exact next (n-1) _ _ (by omega) ⟨i+1,_,o',by omega,hS,rfl,hC4,hx4,ho4⟩
         ·rw [if_neg hr]at hR
          simp only [fdO,if_neg hr,fdB,Bool.true_eq_false,if_false]at hS
          have hN:=qsf hS (show i+1<=c.S.toNat by omega)
          rw [hN]
          repeat' first|refine .A ?_|refine .B ?_|refine .C ?_|refine .F ?_|refine .G ?_|refine .J ?_|refine .t1 ?_|refine .t6 ?_|refine .f6 ?_|refine .P (hLE _) ?_|refine .P (hU _) ?_|refine .P (hLS _) ?_|refine .P (hR _) ?_|refine .W hL1 ?_|refine .W hL2 ?_|refine .Y ?_|fail
          exact⟨_,rfl,hC3,hx3,Out.nil _ _ _⟩
    ·have hi2:i=c.S.toNat:=by omega
     rw [hi2]at hl
     rw [hl]
     repeat' first|refine .A ?_|refine .B ?_|refine .D ?_|refine .I ?_|refine .J ?_|refine .f1 ?_|refine .F ?_|fail
     exact⟨_,rfl,hC1,hx,ho⟩
   ·have hp:¬qsi ws c:=fun h=>hw h.2
    have eL:qsj ws c = []:=if_neg hp
    have eE:qsk ws c=1:=if_neg hp
    rw [eL,eE]
    repeat' first|refine .A ?_|refine .B ?_|refine .C ?_|refine .J ?_|refine .t1 ?_|refine .f6 ?_|refine .P (hO _) ?_|refine .P (hLW _) ?_|refine .W (hCW _) ?_|refine .F ?_|refine .Y ?_|fail
    exact⟨_,rfl,hC,.refl _ _,Out.nil _ _ _⟩
  ·have hp:¬qsi ws c:=fun h=>hm h.1
   have eL:qsj ws c = []:=if_neg hp
   have eE:qsk ws c=1:=if_neg hp
   rw [eL,eE]
   have hO:=fun lo=>qi0 lo H c
   unfold qiZ at hO
   rw [if_neg hm,if_neg hm]at hO
   repeat' first|refine .A ?_|refine .B ?_|refine .C ?_|refine .J ?_|refine .t6 ?_|refine .P (hO _) ?_|refine .D ?_|refine .F ?_|refine .Y ?_|fail
   exact⟨_,rfl,hC,.refl _ _,Out.nil _ _ _⟩
 obtain⟨u,H',h1,v,rfl,h2⟩:=key
 exact⟨v,H',h1,h2⟩
end
def qsm (ws:List Int)(c:Cfg):Nat->Int->List Int
 | 0,_ => []
 | k+1,t=>if 1<=t/\t<=c.S then(t-1)::qsm ws c k (qi5 ws (qjx c (t-1) 2))else []
def qsn:Option (Nat×Nat)->Int
 | some p=>(p.1:Nat)
 | none=>0
def qso (ws:List Int)(c:Cfg):List Int:=qsm ws c c.S.toNat (qsn (qlW (qi5 ws 1)))
def qsp (ws:List Int)(c:Cfg):∀k t,(qsm ws c k t).length<=k
 | 0,_=>by simp [qsm]
 | k+1,t=>by
   rw [qsm]
   split
   ·have:=qsp ws c k (qi5 ws (qjx c (t-1) 2))
    simp;omega
   ·simp
def qsq (ws:List Int)(c:Cfg):∀k t,∀s∈qsm ws c k t,0<=s/\s<c.S
 | 0,_,s,h=>by simp [qsm]at h
 | k+1,t,s,h=>by
   rw [qsm]at h
   split at h
   ·rcases List.mem_cons.1 h with rfl|h
    ·omega
    ·exact qsq ws c k _ s h
   ·simp at h
def ics (l:List Int):List (List Value):=l.map fun n => [I n]
def qsr (l:List Int)(n:Int):ics l ++ [[I n]]=ics (l ++ [n]):=by simp [ics]
def qss (l:List Int):(ics l).length=l.length:=by simp [ics]
section
variable {lo:Nat}{H:qab}{cb:CB}{ws bs:List Int}{c:Cfg}
set_option maxHeartbeats 4000000 in
def qst (hC:IsC H cb ws bs)(hlo:lo<=cb.P)(hm:c.may)(hr:Rng ws) :
  ∃v H',qfU En lo Id.zdq [ifC cb,lay c.T c.S] H=some (v,H')/\IsC H' cb ws bs/\Chg [cb.P] H H'/\Out H' H.length 1 v (ics (qso ws c)):=by
 refine qiu rfl Fn.zdq rfl rfl ?_
 have hlt:=hC.lts
 have hm':=hm
 unfold Cfg.may at hm'
 have hK:=fun lo=>qjw lo H hm
 refine zzX (qjf hC hlo 1) fun H0 hq => ?_
 have hL0:=hq.1
 have hC0:=hq.2.1
 have hx0:Chg [cb.P] H H0 := .of hq.2.2
 clear hq
 have hU:=fun lo=>qmn lo H0 (qi5 ws 1)
 have hLW:=fun lo=>qju lo H0 hm
 have hFR:qso ws c=qsm ws c c.S.toNat (qsn (qlW (qi5 ws 1))):=rfl
 rw [hFR]
 generalize qi5 ws 1=w1 at hL0 hU|-
 unfold ql0 at hU
 have hT:∃g code:Int,qlZ (qlW w1) = .tuple #[I (qsn (qlW w1)),I g,I code]/\-9223372036854775808<=qsn (qlW w1)/\qsn (qlW w1)<9223372036854775808:=by
  cases hh:qlW w1 with
  | none=>exact⟨0,2,rfl,by simp [qsn],by simp [qsn]⟩
  | some p => 
    obtain⟨t,g⟩:=p
    have:=ql6 hh
    exact⟨(g:Nat),0,rfl,by simp only [qsn];omega,by simp only [qsn];omega⟩
 refine zzX hT fun g hq=>zzX hq fun code hq => ?_
 rw [hq.1]at hU
 have hT0:=hq.2
 clear hq hT
 generalize qsn (qlW w1)=t0 at hU hT0|-
 have hw9:qi2 c=4+c.T+3*c.S:=rfl
 repeat' first|refine .A ?_|refine .B ?_|refine .D ?_|refine .F ?_|refine .G ?_|refine .P (hK _) ?_|refine .P (hU _) ?_|refine .P (hLW _) ?_|refine .W hL0 ?_|refine .Y ?_|fail
 refine .loop (fun n f H1=>∃(i:Nat) (pre:List Int) (t:Int) (o:Value),(n:Int)+i=c.S/\pre.length=i/\pre++qsm ws c n t=qsm ws c c.S.toNat t0/\(-9223372036854775808<=t/\t<9223372036854775808)/\f = [(0,ifC cb),(3,lay c.T c.S),(5,o),(6,I t),(24,I (qi2 c)),(25,N i)]/\IsC H1 cb ws bs/\Chg [cb.P] H H1/\Out H1 H.length 1 o (ics pre)) (n:=c.S.toNat)
  ⟨0,[],t0,_,by omega,rfl,rfl,hT0,rfl,hC0,hx0,Out.nil _ _ _⟩ ?_
 rintro n f H1 ⟨i,pre,t,o,hn,hpl,hpre,ht,rfl,hC1,hx,ho⟩ next
 have hol:∃base cap,o = .slice base i cap:=by
  obtain⟨base,cap,e⟩:=ho.sl.len
  rw [qss,hpl]at e
  exact⟨base,cap,e⟩
 refine zzX hol fun base hq=>zzX hq fun cap ho0 => ?_
 subst ho0
 have hk:=fun lo=>qjz lo H1 hm (IntKind.i64.wrap (t-1))
 have hEn:=fun lo=>qjA lo H1 hm (i:Nat)
 by_cases hgo:1<=t/\t<=c.S/\(i:Int)<c.S
 ·obtain⟨h1,h2,h3⟩:=hgo
  have hw1:IntKind.i64.wrap (t-1)=t-1:=qiX (by omega) (by omega)
  have hs2:0<=qjx c (IntKind.i64.wrap (t-1)) 2:=by rw [hw1];unfold qjx;rw [if_pos (by omega)];omega
  have hs0:0<=qjx c (i:Nat) 0:=by unfold qjx;rw [if_pos (by omega)];omega
  refine zzX (ho.waN (l0:=lo) (bytes:=8) (e := [I (IntKind.i64.wrap (t-1))]) rfl (by omega) hx.len (by rw [qss];omega) (by omega)) fun o' hq=>zzX hq fun H2 hq => ?_
  have hap:=hq.1
  have ho2:=hq.2.1
  have hC2:=hC1.keep hq.2.2.2 hlt
  have hx2:=hx.keep (zzR _) hq.2.2.1 hq.2.2.2
  clear hq
  rw [qsr,hw1]at ho2
  have hk2:=fun lo=>qjz lo H2 hm (IntKind.i64.wrap (t-1))
  refine zzX (qjf hC2 hlo (qjx c (IntKind.i64.wrap (t-1)) 2)) fun H3 hq => ?_
  have hL3:=hq.1
  have hC3:=hq.2.1
  have hx3:=hx2.trans (.of hq.2.2)
  have ho3:=ho2.keep fun j h1 h2=>hq.2.2.same j (by simp;omega)
  clear hq
  have hrg:=hr.get (qjx c (IntKind.i64.wrap (t-1)) 2)
  have hpre2:(pre ++ [t-1])++qsm ws c (n-1) (qi5 ws (qjx c (IntKind.i64.wrap (t-1)) 2))=qsm ws c c.S.toNat t0:=by
   rw [<-hpre,hw1]
   have e:n=(n-1)+1:=by omega
   rw [e,qsm,if_pos ⟨h1,h2⟩,Nat.add_sub_cancel,List.append_assoc]
   rfl
  generalize qi5 ws (qjx c (IntKind.i64.wrap (t-1)) 2)=t1 at hL3 hrg hpre2
  generalize qjx c (IntKind.i64.wrap (t-1)) 2=q2 at hk hk2 hL3 hs2
  generalize qjx c (i:Nat) 0=q0 at hEn hs0
  repeat' first|refine .A ?_|refine .B ?_|refine .C ?_|refine .D ?_|refine .F ?_|refine .G ?_|refine .H ?_|refine .t1 ?_|refine .f1 ?_|refine .f5 ?_|refine .n2 ?_|refine .P (hk _) ?_|refine .P (hEn _) ?_|refine .P (hk2 _) ?_|refine .U hap ?_|refine .W hL3 ?_|refine .Y ?_|fail
  exact next (n-1) _ _ (by omega) ⟨i+1,pre ++ [t-1],t1,o',by omega,by simp [hpl],hpre2,hrg,rfl,hC3,hx3,ho3⟩
 ·have hend:pre=qsm ws c c.S.toNat t0:=by
   rw [<-hpre]
   cases n with
   | zero=>simp [qsm]
   | succ n=>rw [qsm,if_neg (by omega)];simp
  rw [<-hend]
  by_cases hk1:1<=t/\t<=c.S
  ·have hw1:IntKind.i64.wrap (t-1)=t-1:=qiX (by omega) (by omega)
   have hs2:0<=qjx c (IntKind.i64.wrap (t-1)) 2:=by rw [hw1];unfold qjx;rw [if_pos (by omega)];omega
   have hs0:qjx c (i:Nat) 0 = -1:=by unfold qjx;rw [if_neg (by omega)]
   rw [hs0]at hEn
   generalize qjx c (IntKind.i64.wrap (t-1)) 2=q2 at hk hs2
   by_cases h64:i=64
   ·repeat' first|refine .A ?_|refine .B ?_|refine .C ?_|refine .F ?_|refine .G ?_|refine .I ?_|refine .J ?_|refine .t1 ?_|refine .f1 ?_|refine .t5 ?_|refine .P (hk _) ?_|refine .D ?_|refine .Y ?_|fail
    exact⟨hC1,hx,ho⟩
   ·repeat' first|refine .A ?_|refine .B ?_|refine .C ?_|refine .F ?_|refine .G ?_|refine .I ?_|refine .J ?_|refine .t1 ?_|refine .f1 ?_|refine .f5 ?_|refine .P (hk _) ?_|refine .P (hEn _) ?_|refine .Y ?_|fail
    exact⟨hC1,hx,ho⟩
  ·have hs2:qjx c (IntKind.i64.wrap (t-1)) 2 = -1:=by
    unfold qjx
    refine if_neg fun hh => ?_
    rw [IntKind.wrap_i64]at hh
    omega
   rw [hs2]at hk
   repeat' first|refine .A ?_|refine .B ?_|refine .C ?_|refine .F ?_|refine .G ?_|refine .I ?_|refine .J ?_|refine .t1 ?_|refine .P (hk _) ?_|refine .D ?_|refine .Y ?_|fail
   exact⟨hC1,hx,ho⟩
end
def qsu {h:qab}{v:Value}{l:List Fd}(hv:Sl h 10 v (fcs l)){i:Nat}{a:Fd}(hi:l[i]? = some a) :
  ∃ad cap,v = .slice (some ad) l.length cap/\qau h (some 10) ⟨ad.block,ad.off+i*10,none⟩=some (.agg a.cs.toArray):=by
 obtain⟨ad,cap,h1,h2,h3⟩:=hv.at (show(fcs l)[i]? = some a.cs by simp [fcs,hi])
 rw [qsc]at h1
 exact⟨ad,cap,h1,h3⟩
def Ext.keep {H H':qab}(e:Ext H H'):∀i,i<H.length->H'[i]? = H[i]? := e.2
def Chg.ext {S:List Nat}{H H1 H2:qab}(a:Chg S H H1)(e:Ext H1 H2):Chg S H H2 :=
 ⟨Nat.le_trans a.len e.1,fun j hj hs=>(e.2 j (Nat.lt_of_lt_of_le hj a.len)).trans (a.same j hj hs)⟩
def IsC.ext {H H':qab}{c:CB}{ws bs:List Int}(hC:IsC H c ws bs)(e:Ext H H'):IsC H' c ws bs:=hC.keep e.2 hC.lts
def qsv {ws:List Int}{c:Cfg}{s:Int}{y:List Fd}(h:fdS ws c s=some y){a:Fd}(ha:a∈y) :
  a.x.s=s/\qkb (qi5 ws (qjx c s 0))=some a.e/\a.e.lv=true/\1<=qi5 ws (qjx c s 1)/\qi5 ws (qjx c s 1)<=256/\a.x.o=a.e.o/\a.x.n=qkq (qi5 ws (qjx c s 1)):=by
 unfold fdS at h
 cases hu:qkb (qi5 ws (qjx c s 0))with
 | none=>rw [hu]at h;cases h
 | some e =>
   rw [hu]at h
   simp only [fdO]at h
   split at h
   ·cases h;cases ha
   ·rename_i hl
    split at h
    ·rename_i hr
     cases h
     rw [List.mem_singleton]at ha
     subst ha
     exact⟨rfl,rfl,by simpa using hl,hr.1,hr.2,rfl,rfl⟩
    ·cases h
def qsw {ws:List Int}{c:Cfg} : ∀{k:Nat} {l:List Fd},fdL ws c k=some l->∀{a:Fd},a∈l->∃s:Nat,s<k/\∃y,fdS ws c s=some y/\a∈y
 | 0,l,h,a,ha=>by cases h;cases ha
 | k+1,l,h,a,ha=>by
   rw [fdL]at h
   cases hk:fdL ws c k with
   | none=>rw [hk]at h;cases h
   | some l' =>
     rw [hk]at h
     simp only [fdA]at h
     cases hs:fdS ws c k with
     | none=>rw [hs]at h;cases h
     | some y =>
       rw [hs]at h
       simp only [fdB]at h
       cases h
       rcases List.mem_append.1 ha with ha|ha
       ·obtain⟨s,h1,h2⟩:=qsw hk ha
        exact⟨s,by omega,h2⟩
       ·exact⟨k,by omega,y,hs,ha⟩
def qsx {ws:List Int}{c:Cfg}{a:Fd}(ha:a∈qsj ws c):qsi ws c/\∃s:Nat,s<c.S.toNat/\∃y,fdS ws c s=some y/\a∈y:=by
 unfold qsj at ha
 split at ha
 ·rename_i hp
  cases hl:fdL ws c c.S.toNat with
  | none=>rw [hl]at ha;cases ha
  | some l=>rw [hl]at ha;exact⟨hp,qsw hl ha⟩
 ·cases ha
def qsy (ws:List Int)(c:Cfg):(qsj ws c).length<=64:=by
 unfold qsj
 split
 ·rename_i hp
  have hm:=hp.1
  unfold Cfg.may at hm
  cases hl:fdL ws c c.S.toNat with
  | none=>simp
  | some l=>have:=qsh hl;simp;omega
 ·simp
section
variable {lo:Nat}{H:qab}{cb:CB}{ws bs:List Int}
end
def qsz {cs:List Value}{k:Nat}{v:Value}(hk:k<cs.length):splice cs k [v]=cs.set k v:=by
 unfold splice
 rw [List.set_eq_take_append_cons_drop,if_pos hk,List.append_assoc]
 rfl
def qsA (v:Mv)(is:Bool)(a:Fd):Obj×Bool :=
 if a.e.lk=false then(a.x,true)
 else if is=false\/v.s≠a.x.s\/v.f≠a.x.o\/v.n≠a.x.n\/v.f<=v.t then(a.x,false)
 else(⟨a.x.s,v.t,IntKind.i64.wrap (IntKind.i64.wrap (v.f+v.n)-v.t),a.x.fx⟩,true)
def qsB (l:List Obj)(r:Obj×Bool):Option (List Obj):=if r.2 then some (l ++ [r.1])else none
def qsC (v:Mv)(is:Bool)(a:Fd):Option (List Obj)->Option (List Obj)
 | none=>none
 | some l=>qsB l (qsA v is a)
def qsD (v:Mv)(is:Bool)(l:List Fd):Option (List Obj):=l.foldl (fun acc a=>qsC v is a acc) (some [])
def qsE (v:Mv)(is:Bool):∀l:List Fd,l.foldl (fun acc a=>qsC v is a acc) none=none
 | []=>rfl
 | a::l=>qsE v is l
def qsF (v:Mv)(is:Bool){l:List Fd}{i:Nat}(hi:i<l.length):qsD v is (l.take (i+1))=qsC v is l[i] (qsD v is (l.take i)):=by
 unfold qsD
 rw [List.take_succ_eq_append_getElem hi,List.foldl_append]
 rfl
def qsG (v:Mv)(is:Bool){l:List Fd}{i:Nat}(h:qsD v is (l.take i)=none):qsD v is l=none:=by
 have e:l=l.take i++l.drop i:=(List.take_append_drop ..).symm
 rw [e]
 unfold qsD at h|-
 rw [List.foldl_append,h,qsE]
def qsH (v:Mv)(is:Bool){l:List Fd} : ∀{i:Nat},i<=l.length->∀{r:List Obj},qsD v is (l.take i)=some r->r.length=i
 | 0,_,r,h=>by
   have:some ([]:List Obj)=some r:=h
   injection this with this
   subst this;rfl
 | i+1,hi,r,h=>by
   rw [qsF v is (by omega)]at h
   cases hk:qsD v is (l.take i)with
   | none=>rw [hk]at h;cases h
   | some r' =>
     have:=qsH v is (by omega) hk
     rw [hk]at h
     simp only [qsC,qsB]at h
     split at h
     ·injection h with h
      subst h
      simp [this]
     ·cases h
def lkN (l:List Fd):Nat:=(l.filter fun a=>a.e.lk).length
def qsI {l:List Fd}{i:Nat}(hi:i<l.length):lkN (l.take (i+1))=lkN (l.take i)+(if l[i].e.lk then 1 else 0):=by
 unfold lkN
 rw [List.take_succ_eq_append_getElem hi,List.filter_append,zzM]
 congr 1
 cases h:l[i].e.lk<;>simp [h]
def qsJ (l:List Fd):lkN l<=l.length:=List.length_filter_le ..
def qsK (sl fr:List Int):Prop:=∀(j:Nat) (s:Int),fr[j]? = some s->s∉sl/\∀k,k<j->fr[k]?≠some s
structure Sta where
 hv:Value
 v:Mv
 is:Bool
def qsL (m:Value)(c:Cfg)(t:Sta):Value := .agg #[m,I c.A,I c.S,I c.T,t.hv,I t.v.s,I t.v.f,I t.v.t,I t.v.n,.bool t.is]
section
variable {lo:Nat}{H:qab}
set_option maxHeartbeats 4000000 in
def qsM (lo:Nat)(H:qab)(m:Value)(c:Cfg)(t:Sta)(a:Fd) :
  qfU En lo Id.zap [qsL m c t,.agg a.cs.toArray] H=some (.tuple #[.agg (qsA t.v t.is a).1.cs.toArray,.bool (qsA t.v t.is a).2],H):=by
 obtain⟨⟨s,o1,n1,fx⟩,⟨eo,eg,ep,eu,lk,lv⟩⟩:=a
 obtain⟨hv,⟨vs,vf,vt,vn⟩,is⟩:=t
 simp only [Fd.cs,Obj.cs,Ent.cs,List.cons_append,List.nil_append,qsL]
 cases lk with
 | false =>
   refine qgx rfl Fn.zap rfl rfl ?_
   repeat' first|refine .A ?_|refine .B ?_|refine .C ?_|refine .J ?_|refine .F ?_|refine .Y ?_|fail
   rfl
 | true =>
   unfold qsA
   simp only [Bool.true_eq_false,if_false]
   cases is with
   | false =>
     rw [if_pos (.inl rfl)]
     refine qgx rfl Fn.zap rfl rfl ?_
     repeat' first|refine .A ?_|refine .B ?_|refine .C ?_|refine .D ?_|refine .F ?_|refine .J ?_|refine .Y ?_|fail
     rfl
   | true =>
     by_cases h1:vs=s
     ·by_cases h2:vf=o1
      ·by_cases h3:vn=n1
       ·by_cases h4:vf<=vt
        ·rw [if_pos (by simp [h4])]
         refine qgx rfl Fn.zap rfl rfl ?_
         repeat' first|refine .A ?_|refine .B ?_|refine .C ?_|refine .D ?_|refine .F ?_|refine .J ?_|refine .t4 ?_|refine .f6 ?_|refine .Y ?_|fail
         rfl
        ·rw [if_neg (by simp [h1,h2,h3,h4];omega)]
         refine qgx rfl Fn.zap rfl rfl ?_
         repeat' first|refine .A ?_|refine .B ?_|refine .D ?_|refine .F ?_|refine .J ?_|refine .C ?_|refine .f4 ?_|refine .f6 ?_|refine .Y ?_|fail
         rfl
       ·rw [if_pos (by simp [h3])]
        refine qgx rfl Fn.zap rfl rfl ?_
        repeat' first|refine .A ?_|refine .B ?_|refine .C ?_|refine .D ?_|refine .F ?_|refine .J ?_|refine .t6 ?_|refine .f6 ?_|refine .Y ?_|fail
        rfl
      ·rw [if_pos (by simp [h2])]
       refine qgx rfl Fn.zap rfl rfl ?_
       repeat' first|refine .A ?_|refine .B ?_|refine .C ?_|refine .D ?_|refine .F ?_|refine .J ?_|refine .t6 ?_|refine .f6 ?_|refine .Y ?_|fail
       rfl
     ·rw [if_pos (by simp [h1])]
      refine qgx rfl Fn.zap rfl rfl ?_
      repeat' first|refine .A ?_|refine .B ?_|refine .C ?_|refine .D ?_|refine .F ?_|refine .J ?_|refine .t6 ?_|refine .Y ?_|fail
      rfl
def qsN (u:List Int):List Bool:=(List.range 64).map fun(j:Nat)=>decide ((j:Int)∈u)
def qsO (u:List Int):List Value:=(qsN u).map .bool
def qsP (u:List Int):(qsO u).length=64:=by simp [qsO,qsN]
def qsQ (u:List Int){s:Nat}(hs:s<64):(qsO u)[s]? = some (.bool (decide ((s:Int)∈u))):=by simp [qsO,qsN,hs]
def qsR (u:List Int){s:Nat}(hs:s<64):splice (qsO u) s [.bool true]=qsO ((s:Int)::u):=by
 rw [qsz (by rw [qsP];exact hs)]
 refine List.ext_getElem? fun i => ?_
 by_cases hi:i<64
 ·rw [qsQ _ hi,List.getElem?_set,qsP]
  by_cases he:s=i
  ·subst he
   rw [if_pos rfl,if_pos hs]
   simp
  ·rw [if_neg he,qsQ _ hi]
   have:((i:Int)∈(s:Int)::u)↔((i:Int)∈u):=by rw [List.mem_cons];exact⟨fun h=>h.resolve_left (by omega),.inr⟩
   simp only [this]
 ·rw [zzE (by rw [zzQ,qsP];omega),zzE (by rw [qsP];omega)]
def qsS (h:qab)(k k':Blk):(h ++ [k]).set h.length k'=h ++ [k']:=by rw [List.set_append_right _ _ (zzR _),Nat.sub_self];rfl
def qsT {h:qab}{v:Value}{l:List Int}(hv:Sl h 1 v (ics l)){i:Nat}{n:Int}(hi:l[i]? = some n) :
  ∃ad cap,v = .slice (some ad) l.length cap/\qau h none ⟨ad.block,ad.off+i*1,none⟩=some (I n):=by
 obtain⟨ad,cap,h1,h2,h3⟩:=hv.at (show(ics l)[i]? = some [I n] by simp [ics,hi])
 rw [qss]at h1
 exact⟨ad,cap,h1,h2 0 _ rfl⟩
variable {cb:CB}{ws bs:List Int}{c:Cfg}
set_option maxHeartbeats 4000000 in
def qsU (hC:IsC H cb ws bs)(hlo:lo<=cb.P)(hm:c.may)(hr:Rng ws)(t:Sta){v:Value}{l:List Fd}(hs:Sl H 10 v (fcs l))(hll:l.length<=64)(hsl:∀a∈l,0<=a.x.s/\a.x.s<64) :
  ∃b H',qfU En lo Id.zao [qsL (ifC cb) c t,v] H=some (.bool b,H')/\(b=true↔qsK (l.map (·.x.s)) (qso ws c))/\IsC H' cb ws bs/\Chg [cb.P] H H':=by
 have key:∃u H',qfU En lo Id.zao [qsL (ifC cb) c t,v] H=some (u,H')/\∃b,u = .bool b/\(b=true↔qsK (l.map (·.x.s)) (qso ws c))/\IsC H' cb ws bs/\Chg [cb.P] H H':=by
  refine qiu rfl Fn.zao rfl rfl ?_
  have hlt:=hC.lts
  have hO:=fun lo=>qjt lo H hm
  have hm':=hm
  unfold Cfg.may at hm'
  refine zzX hs.len fun base hq=>zzX hq fun cap hve => ?_
  rw [qsc]at hve
  subst hve
  have hst:qsL (ifC cb) c t = .agg #[ifC cb,I c.A,I c.S,I c.T,t.hv,I t.v.s,I t.v.f,I t.v.t,I t.v.n,.bool t.is]:=rfl
  rw [hst]
  generalize t.hv=thv
  repeat' first|refine .A ?_|refine .B ?_|refine .G ?_|refine .C ?_|refine .P (hO _) ?_|refine .F ?_|refine .Y ?_|fail
  refine .loop (fun n f H1=>∃(i:Nat) (u:List Int),n+i=l.length/\f = [(2,.agg #[ifC cb,I c.A,I c.S,I c.T,thv,I t.v.s,I t.v.f,I t.v.t,I t.v.n,.bool t.is]),(5,lay c.T c.S),(7,.pointer (some ⟨H.length,0,none⟩)),(18,.slice base l.length cap),(19,N l.length),(20,N i)]/\(∀s,s∈u↔s∈(l.take i).map (·.x.s))/\H1=H ++ [.row (qsO u) false]) (n:=l.length)
   ⟨0,[],rfl,rfl,by simp,rfl⟩ ?_
  rintro n f H1 ⟨i,u,hn,rfl,hu,rfl⟩ next
  have hx1:Ext H (H ++ [.row (qsO u) false]):=(Ext.refl H).app _
  have hb7:(H ++ [.row (qsO u) false])[H.length]? = some (.row (qsO u) false):=zzC
  by_cases hi:i<l.length
  ·have hg:l[i]? = some l[i]:=zzG hi
   have htk:(l.take (i+1)).map (·.x.s)=(l.take i).map (·.x.s) ++ [l[i].x.s]:=by rw [List.take_succ_eq_append_getElem hi,List.map_append];rfl
   have hsa:=hsl l[i] (List.getElem_mem hi)
   refine zzX (qsu (hs.ext hx1) hg) fun ad hq=>zzX hq fun cap' hq => ?_
   have hva:=hq.1
   have hld:=hq.2
   clear hq
   injection hva with e1 e2 e3
   subst e1
   generalize l[i]=a at hg htk hld hsa
   obtain⟨⟨s,o1,n1,fx⟩,⟨eo,eg,ep,eu,lk,lv⟩⟩:=a
   refine zzX (show ∃k:Nat,s=k/\k<64 from⟨s.toNat,by have:=hsa.1;simp only at this;omega,by have:=hsa;simp only at this;omega⟩) fun sn hq => ?_
   have hs64:=hq.2
   have hsn:=hq.1
   clear hq
   subst hsn
   simp only [Fd.cs,Obj.cs,Ent.cs,List.cons_append,List.nil_append]at hld
   have hst:stN lo (H ++ [.row (qsO u) false]) ⟨H.length,0+sn*1,none⟩ (qaf (.bool true))=some (H ++ [.row (qsO ((sn:Int)::u)) false]):=by
    exact(qiE (w:=qsO ((sn:Int)::u)) hb7 (by omega) (by rw [qsP];exact(by omega:0+sn*1+1<=64)) (by rw [Nat.zero_add,Nat.mul_one];exact qsR u hs64)).trans (by rw [qsS])
   repeat' first|refine .A ?_|refine .B ?_|refine .C ?_|refine .F ?_|refine .G ?_|refine .H ?_|refine .t1 ?_|refine .n2 ?_|refine .L hld ?_|refine .R hi ?_|refine .yI rfl rfl rfl (hs64) ?_|refine .S hst ?_|refine .Y ?_|fail
   refine next (n-1) _ _ (by omega) ⟨i+1,(sn:Int)::u,by omega,rfl,fun s => ?_,rfl⟩
   rw [htk,List.mem_cons,List.mem_append,List.mem_singleton,hu]
   exact Or.comm
  ·rw [List.take_of_length_le (by omega)]at hu
   have hC1:=hC.ext hx1
   have hx01:Chg [cb.P] H (H ++ [.row (qsO u) false]):=(Chg.refl _ _).ext hx1
   refine zzX (qst (lo:=lo) hC1 hlo hm hr) fun v2 hq=>zzX hq fun H2 hq => ?_
   have hF:=hq.1
   have hC2:=hq.2.1
   have hx2:=hx01.trans hq.2.2.1
   have hb2:H2[H.length]? = some (.row (qsO u) false):=hq.2.2.1.get hb7 (by simp;omega)
   have ho2:=hq.2.2.2
   clear hq
   have hfi:=qsq ws c c.S.toNat (qsn (qlW (qi5 ws 1)))
   have hfr:qsm ws c c.S.toNat (qsn (qlW (qi5 ws 1)))=qso ws c:=rfl
   have hfl:=qsp ws c c.S.toNat (qsn (qlW (qi5 ws 1)))
   rw [hfr]at hfi hfl
   generalize qso ws c=fr at ho2 hfi hfl|-
   refine zzX ho2.sl.len fun base2 hq=>zzX hq fun cap2 hve => ?_
   rw [qss]at hve
   subst hve
   repeat' first|refine .A ?_|refine .B ?_|refine .D ?_|refine .G ?_|refine .I ?_|refine .C ?_|refine .f1 ?_|refine .P hF ?_|refine .F ?_|refine .Y ?_|fail
   refine .loop (fun n f H3=>∃(i:Nat) (u2:List Int),n+i=fr.length/\f = [(7,.pointer (some ⟨H.length,0,none⟩)),(32,.slice base2 fr.length cap2),(33,N fr.length),(34,N i)]/\(∀s,s∈u2↔(s∈u\/s∈fr.take i))/\H3[H.length]? = some (.row (qsO u2) false)/\Only [H.length] H2 H3/\(∀(j:Nat) (s:Int),j<i->fr[j]? = some s->s∉l.map (·.x.s)/\∀k,k<j->fr[k]?≠some s)) (n:=fr.length)
    ⟨0,u,rfl,rfl,by simp,hb2,.refl _ _,fun j s hj=>by omega⟩ ?_
   rintro n f H3 ⟨i,u2,hn2,rfl,hu2,hb3,hx3,hgood⟩ next2
   have hC3:IsC H3 cb ws bs:=hC2.yz (.of hx3) (by simp;omega)
   have hx03:Chg [cb.P] H H3:=⟨by rw [hx3.len];exact hx2.len,fun j hj hs=>by rw [hx3.same j (by simp;omega)];exact hx2.same j hj hs⟩
   by_cases hi2:i<fr.length
   ·have hg:fr[i]? = some fr[i]:=zzG hi2
    have htk:fr.take (i+1)=fr.take i ++ [fr[i]]:=List.take_succ_eq_append_getElem hi2
    have hsa:=hfi fr[i] (List.getElem_mem hi2)
    have ho3:=ho2.keep fun j h1 h2=>hx3.same j (by rw [zzM]at h1;simp at h1|-;omega)
    refine zzX (qsT ho3.sl hg) fun ad hq=>zzX hq fun cap' hq => ?_
    have hva:=hq.1
    have hld:=hq.2
    clear hq
    injection hva with e1 e2 e3
    subst e1
    generalize fr[i]=s at hg htk hld hsa
    refine zzX (show ∃k:Nat,s=k/\k<64 from⟨s.toNat,by omega,by omega⟩) fun sn hq => ?_
    have hs64:=hq.2
    have hsn:=hq.1
    clear hq
    subst hsn
    have lb:qau H3 none ⟨H.length,0+sn*1,none⟩=some (.bool (decide ((sn:Int)∈u2))):=qiC hb3 (by rw [Nat.zero_add,Nat.mul_one];exact qsQ u2 hs64)
    by_cases hmem:(sn:Int)∈u2
    ·rw [zzT hmem]at lb
     have hno:¬qsK (l.map (·.x.s)) fr:=fun hp=>by
      have hp:=hp i _ hg
      rcases(hu2 _).1 hmem with h1|h1
      ·exact hp.1 ((hu _).1 h1)
      ·obtain⟨k,hk,hk2⟩:=List.mem_iff_getElem.1 h1
       rw [List.length_take]at hk
       refine hp.2 k (by omega) ?_
       rw [List.getElem_take]at hk2
       rw [<-hk2]
       exact zzG _
     repeat' first|refine .A ?_|refine .B ?_|refine .C ?_|refine .F ?_|refine .G ?_|refine .J ?_|refine .t1 ?_|refine .L hld ?_|refine .L lb ?_|refine .R hi2 ?_|refine .yI rfl rfl rfl (hs64) ?_|fail
     exact⟨_,rfl,⟨fun h=>(by cases h),fun h=>absurd h hno⟩,hC3,hx03⟩
    ·rw [zzF hmem]at lb
     have hst:stN lo H3 ⟨H.length,0+sn*1,none⟩ (qaf (.bool true))=some (H3.set H.length (.row (qsO ((sn:Int)::u2)) false)) :=
      qiE hb3 (by omega) (by rw [qsP];show 0+sn*1+1<=64;omega) (by rw [Nat.zero_add,Nat.mul_one];exact qsR u2 hs64)
     repeat' first|refine .A ?_|refine .B ?_|refine .C ?_|refine .D ?_|refine .F ?_|refine .G ?_|refine .H ?_|refine .t1 ?_|refine .n2 ?_|refine .L hld ?_|refine .L lb ?_|refine .R hi2 ?_|refine .yI rfl rfl rfl (hs64) ?_|refine .S hst ?_|fail
     refine next2 (n-1) _ _ (by omega) ⟨i+1,(sn:Int)::u2,by omega,rfl,fun s => ?_,qiy (qiB hb3),hx3.set (by simp),fun j s hj hjs => ?_⟩
     ·rw [htk,List.mem_cons,List.mem_append,List.mem_singleton,hu2]
      constructor
      ·rintro (h|h|h)
       ·exact .inr (.inr h)
       ·exact .inl h
       ·exact .inr (.inl h)
      ·rintro (h|h|h)
       ·exact .inr (.inl h)
       ·exact .inr (.inr h)
       ·exact .inl h
     ·by_cases hji:j<i
      ·exact hgood j s hji hjs
      ·have:j=i:=by omega
       subst this
       rw [hg]at hjs
       injection hjs with hjs
       subst hjs
       refine⟨fun h=>hmem ((hu2 _).2 (.inl ((hu _).2 h))),fun k hk he=>hmem ((hu2 _).2 (.inr ?_))⟩
       have:(fr.take j)[k]? = some (sn:Int):=by rw [List.getElem?_take,if_pos hk];exact he
       exact List.mem_of_getElem? this
   ·have hyes:qsK (l.map (·.x.s)) fr:=fun j s hj=>hgood j s (by have:=(zzS.1 hj).1;omega) hj
    repeat' first|refine .A ?_|refine .B ?_|refine .D ?_|refine .I ?_|refine .J ?_|refine .f1 ?_|refine .F ?_|fail
    exact⟨_,rfl,⟨fun _=>hyes,fun _=>rfl⟩,hC3,hx03⟩
 obtain⟨u,H',h1,b,rfl,h2⟩:=key
 exact⟨b,H',h1,h2⟩
open Classical in
noncomputable def qsV (ws:List Int)(c:Cfg)(v:Mv)(is:Bool)(hl:List Obj):Int :=
 if qsk ws c≠0 then qsk ws c
 else match qsD v is (qsj ws c)with
  | none=>2
  | some r=>if 0<=qi5 ws 0/\qi5 ws 0<=c.A/\¬(is=true/\lkN (qsj ws c)=0)/\okN (qi5 ws 0) (r++hl)=0/\qsK ((qsj ws c).map (·.x.s)) (qso ws c)then 0 else 2
def qsW {ws:List Int}{c:Cfg}{v:Mv}{is:Bool}{hl:List Obj}(h:qsk ws c≠0):qsV ws c v is hl=qsk ws c:=by unfold qsV;rw [if_pos h]
def qsX {ws:List Int}{c:Cfg}{v:Mv}{is:Bool}{hl:List Obj}(h:qsk ws c=0)(hs:qsD v is (qsj ws c)=none):qsV ws c v is hl=2:=by unfold qsV;rw [if_neg (by simp [h]),hs]
def qsY {ws:List Int}{c:Cfg}{v:Mv}{is:Bool}{hl r:List Obj}(h:qsk ws c=0)(hs:qsD v is (qsj ws c)=some r)
  (hh:0<=qi5 ws 0/\qi5 ws 0<=c.A/\¬(is=true/\lkN (qsj ws c)=0)/\okN (qi5 ws 0) (r++hl)=0/\qsK ((qsj ws c).map (·.x.s)) (qso ws c)):qsV ws c v is hl=0:=by
 unfold qsV;rw [if_neg (by simp [h]),hs];exact if_pos hh
def qsZ {ws:List Int}{c:Cfg}{v:Mv}{is:Bool}{hl r:List Obj}(h:qsk ws c=0)(hs:qsD v is (qsj ws c)=some r)
  (hh:¬(0<=qi5 ws 0/\qi5 ws 0<=c.A/\¬(is=true/\lkN (qsj ws c)=0)/\okN (qi5 ws 0) (r++hl)=0/\qsK ((qsj ws c).map (·.x.s)) (qso ws c))):qsV ws c v is hl=2:=by
 unfold qsV;rw [if_neg (by simp [h]),hs];exact if_neg hh
def qs0 {ws:List Int}{c:Cfg}(h:¬qsi ws c):qsk ws c=1:=if_neg h
def qs1 {ws:List Int}{c:Cfg}(h:qsk ws c=0):qsi ws c:=Classical.byContradiction fun hn=>by rw [qs0 hn]at h;cases h
def qs2 {ws:List Int}{c:Cfg}{a:Fd}(ha:a∈qsj ws c):0<=a.x.s/\a.x.s<64:=by
 obtain⟨hp,s,h1,y,h2,h3⟩:=qsx ha
 have h4:=(qsv h2 h3).1
 have hm:=hp.1
 unfold Cfg.may at hm
 rw [h4];omega
set_option maxHeartbeats 8000000 in
def qs3 (hC:IsC H cb ws bs)(hlo:lo<=cb.P)(hr:Rng ws)(c:Cfg)(t:Sta){hl:List Obj}(hll:hl.length<=10)(hs:∀H',(∀i,i<H.length->i≠cb.P->H'[i]? = H[i]?)->Sl H' 4 t.hv (css hl)) :
  ∃H',qfU En lo Id.zam [qsL (ifC cb) c t] H=some (I (qsV ws c t.v t.is hl),H')/\IsC H' cb ws bs/\Chg [cb.P] H H':=by
 have key:∃u H',qfU En lo Id.zam [qsL (ifC cb) c t] H=some (u,H')/\u=I (qsV ws c t.v t.is hl)/\IsC H' cb ws bs/\Chg [cb.P] H H':=by
  refine qiu rfl Fn.zam rfl rfl ?_
  have hlt:=hC.lts
  refine zzX (qsl hC hlo c) fun v0 hq=>zzX hq fun H1 hq => ?_
  have hA:=hq.1
  have hC1:=hq.2.1
  have hx1:=hq.2.2.1
  have ho1:=hq.2.2.2
  clear hq
  have hlen:=qsy ws c
  have hst:qsL (ifC cb) c t = .agg #[ifC cb,I c.A,I c.S,I c.T,t.hv,I t.v.s,I t.v.f,I t.v.t,I t.v.n,.bool t.is]:=rfl
  have hSt:=fun lo H a=>qsM lo H (ifC cb) c t a
  have hSp:=fun {lo:Nat} {H:qab} (hC:IsC H cb ws bs) (hlo:lo<=cb.P) (hm:c.may)=>fun {v:Value} {l:List Fd} => qsU (lo:=lo) (H:=H) hC hlo hm hr t (v:=v) (l:=l)
  rw [hst]at hSt|-
  by_cases hE:qsk ws c=0
  ·have hp:=qs1 hE
   have hm:=hp.1
   rw [hE]at hA
   have hO:=fun lo=>qjt lo H1 hm
   have hF:=fun lo=>qjC lo H1 hm
   have hbad:∀i,qsD t.v t.is ((qsj ws c).take i)=none->qsV ws c t.v t.is hl=2:=fun i hi=>qsX hE (qsG _ _ hi)
   have hyes:=fun r=>qsY (hl:=hl) (r:=r) (v:=t.v) (is:=t.is) hE
   have hno:=fun r=>qsZ (hl:=hl) (r:=r) (v:=t.v) (is:=t.is) hE
   generalize qsV ws c t.v t.is hl=ans at *
   refine zzX (qjf hC1 hlo 0) fun H2 hq => ?_
   have hL:=hq.1
   have hC2:=hq.2.1
   have hx2:=hx1.trans (.of hq.2.2)
   have ho2:=ho1.keep fun j h1 h2=>hq.2.2.same j (by simp;omega)
   clear hq
   have hsl:∀a∈qsj ws c,0<=a.x.s/\a.x.s<64:=fun a ha=>qs2 ha
   generalize qi5 ws 0=top at *
   generalize qsj ws c=l at *
   refine zzX ho2.sl.len fun base hq=>zzX hq fun cap hve => ?_
   rw [qsc]at hve
   subst hve
   repeat' first|refine .A ?_|refine .B ?_|refine .D ?_|refine .F ?_|refine .G ?_|refine .C ?_|refine .f6 ?_|refine .P hA ?_|refine .P (hO _) ?_|refine .P (hF _) ?_|refine .W hL ?_|refine .Y ?_|fail
   refine .loop (fun n f H3=>∃(i:Nat) (r:List Obj) (o:Value),n+i=l.length/\qsD t.v t.is (l.take i)=some r/\f = [(1,.agg #[ifC cb,I c.A,I c.S,I c.T,t.hv,I t.v.s,I t.v.f,I t.v.t,I t.v.n,.bool t.is]),(3,.slice base l.length cap),(7,I top),(8,o),(9,N (lkN (l.take i))),(38,.slice base l.length cap),(39,N l.length),(40,N i)]/\Ext H2 H3/\Out H3 H2.length 4 o (css r)) (n:=l.length)
    ⟨0,[],_,rfl,rfl,rfl,.refl _,Out.nil _ _ _⟩ ?_
   rintro n f H3 ⟨i,r,o,hn,hr3,rfl,hx3,ho3⟩ next
   have hrl:r.length=i:=qsH t.v t.is (by omega) hr3
   by_cases hi:i<l.length
   ·have hg:l[i]? = some l[i]:=zzG hi
    have hsu:=qsF t.v t.is hi
    have hku:=qsI hi
    have hkl:=qsJ (l.take i)
    rw [List.length_take]at hkl
    rw [hr3]at hsu
    simp only [qsC]at hsu
    refine zzX (qsu (ho2.sl.ext hx3) hg) fun ad hq=>zzX hq fun cap' hq => ?_
    have hva:=hq.1
    have hld:=hq.2
    clear hq
    injection hva with e1 e2 e3
    subst e1
    generalize l[i]=a at hg hsu hku hld
    have hS:=fun lo H=>hSt lo H a
    generalize qsA t.v t.is a=q at hS hsu
    obtain⟨⟨s',o',n',fx'⟩,ok⟩:=q
    obtain⟨⟨s,o1,n1,fx⟩,⟨eo,eg,ep,eu,lk,lv⟩⟩:=a
    simp only [Fd.cs,Obj.cs,Ent.cs,List.cons_append,List.nil_append]at hld hS
    cases ok with
    | false =>
      simp only [qsB,Bool.false_eq_true,if_false]at hsu
      rw [hbad _ hsu]
      repeat' first|refine .A ?_|refine .B ?_|refine .C ?_|refine .F ?_|refine .G ?_|refine .J ?_|refine .t1 ?_|refine .L hld ?_|refine .P (hS _ _) ?_|refine .R hi ?_|refine .Y ?_|fail
      exact⟨rfl,hC2.ext hx3,hx2.ext hx3⟩
    | true =>
      simp only [qsB,if_true]at hsu
      refine zzX (ho3.waC (l0:=lo) (bytes:=32) (e:=Obj.cs ⟨s',o',n',fx'⟩) rfl (by have:=hx2.len;omega) hx3.1 (by rw [qkR];omega) (by omega)) fun o4 hq=>zzX hq fun H4 hq => ?_
      have hap:=hq.1
      have ho4:=hq.2.1
      have hx4:=hq.2.2 H2 (zzR _) hx3
      clear hq
      rw [qkQ]at ho4
      cases lk with
      | false =>
        simp only [Bool.false_eq_true,if_false,Nat.add_zero]at hku
        repeat' first|refine .A ?_|refine .B ?_|refine .C ?_|refine .D ?_|refine .F ?_|refine .G ?_|refine .H ?_|refine .t1 ?_|refine .n2 ?_|refine .L hld ?_|refine .P (hS _ _) ?_|refine .R hi ?_|refine .U hap ?_|refine .Y ?_|fail
        exact next (n-1) _ _ (by omega) ⟨i+1,_,o4,by omega,hsu,by rw [hku];rfl,hx4,ho4⟩
      | true =>
        simp only [if_true]at hku
        repeat' first|refine .A ?_|refine .B ?_|refine .C ?_|refine .D ?_|refine .F ?_|refine .G ?_|refine .H ?_|refine .t1 ?_|refine .n2 ?_|refine .L hld ?_|refine .P (hS _ _) ?_|refine .R hi ?_|refine .U hap ?_|refine .Y ?_|fail
        exact next (n-1) _ _ (by omega) ⟨i+1,_,o4,by omega,hsu,by rw [hku];rfl,hx4,ho4⟩
   ·rw [List.take_of_length_le (by omega)]at hr3
    rw [List.take_of_length_le (by omega:l.length<=i)]
    have hC3:=hC2.ext hx3
    have hx03:=hx2.ext hx3
    refine zzX (ho3.more (u:=t.hv) (fs:=css hl) (l0:=lo) (bytes:=32) (hs H3 fun j h1 h2=>hx03.same j h1 (by simpa using h2)) (by have:=hx2.len;omega) hx3.1 (by rw [qkR,qkR];omega) (by omega)) fun o5 hq=>zzX hq fun H5 hq => ?_
    have hap:=hq.1
    have ho5:=hq.2.1
    have hx5:=hq.2.2 H2 (zzR _) hx3
    clear hq
    have hC5:=hC2.ext hx5
    have hx05:=hx2.ext hx5
    have hcs:css r++css hl=css (r++hl):=by simp [css]
    rw [hcs]at ho5
    have h0:r++hl = []->o5 = .slice none 0 0:=fun h=>by
     rcases ho5.2 with⟨_,h2⟩|⟨h1,_⟩
     ·exact h2
     ·exact absurd (by rw [h];rfl) h1
    have hPC:=fun lo=>qsb lo (arena:=top) ho5.sl h0 (by rw [zzM];omega)
    refine zzX (hSp (lo:=lo) hC5 hlo hm (ho2.sl.ext hx5) hlen hsl) fun b hq=>zzX hq fun H6 hq => ?_
    have hSP:=hq.1
    have hb:=hq.2.1
    have hC6:=hq.2.2.1
    have hx6:=hx05.trans hq.2.2.2
    clear hq
    rw [show qsL (ifC cb) c t = .agg #[ifC cb,I c.A,I c.S,I c.T,t.hv,I t.v.s,I t.v.f,I t.v.t,I t.v.n,.bool t.is]from rfl]at hSP
    have hno:=hno r hr3
    have hyes:=hyes r hr3
    clear hSp hSt hbad next
    generalize t.is=is at *
    rcases qrK top (r++hl)with c4|c4
    all_goals rw [c4]at hPC hno hyes
    ·by_cases c1:top<0
     ·rw [hno fun h=>by have:=h.1;omega]
      repeat' first|refine .A ?_|refine .B ?_|refine .C ?_|refine .D ?_|refine .I ?_|refine .J ?_|refine .t1 ?_|refine .f1 ?_|refine .U hap ?_|refine .F ?_|refine .Y ?_|fail
      exact⟨rfl,hC5,hx05⟩
     ·by_cases c2:c.A<top
      ·rw [hno fun h=>by have:=h.2.1;omega]
       repeat' first|refine .A ?_|refine .B ?_|refine .C ?_|refine .D ?_|refine .I ?_|refine .J ?_|refine .f1 ?_|refine .t3 ?_|refine .U hap ?_|refine .F ?_|refine .Y ?_|fail
       exact⟨rfl,hC5,hx05⟩
      ·have fin:∀is',is=is'->¬(is'=true/\lkN l=0)->(b=true->ans=0)/\(b=false->ans=2):=fun is' h1 h2 =>
        ⟨fun h=>hyes ⟨by omega,by omega,by rw [h1];exact h2,rfl,hb.1 h⟩,fun h=>hno fun hh=>by rw [hb.2 hh.2.2.2.2]at h;cases h⟩
       cases is with
       | false =>
         have fin:=fin false rfl (by simp)
         cases b with
         | true =>
           rw [fin.1 rfl]
           repeat' first|refine .A ?_|refine .B ?_|refine .D ?_|refine .F ?_|refine .I ?_|refine .J ?_|refine .C ?_|refine .f1 ?_|refine .f3 ?_|refine .f6 ?_|refine .P (hPC _) ?_|refine .P hSP ?_|refine .U hap ?_|refine .Y ?_|fail
           exact⟨rfl,hC6,hx6⟩
         | false =>
           rw [fin.2 rfl]
           repeat' first|refine .A ?_|refine .B ?_|refine .C ?_|refine .D ?_|refine .I ?_|refine .J ?_|refine .f1 ?_|refine .f3 ?_|refine .f6 ?_|refine .P (hPC _) ?_|refine .P hSP ?_|refine .U hap ?_|refine .F ?_|refine .Y ?_|fail
           exact⟨rfl,hC6,hx6⟩
       | true =>
         by_cases c3:lkN l=0
         ·rw [hno fun h=>h.2.2.1 ⟨rfl,c3⟩]
          repeat' first|refine .A ?_|refine .B ?_|refine .C ?_|refine .D ?_|refine .I ?_|refine .J ?_|refine .f1 ?_|refine .f3 ?_|refine .t5 ?_|refine .U hap ?_|refine .F ?_|refine .Y ?_|fail
          exact⟨rfl,hC5,hx05⟩
         ·have fin:=fin true rfl (by simp [c3])
          cases b with
          | true =>
            rw [fin.1 rfl]
            repeat' first|refine .A ?_|refine .B ?_|refine .D ?_|refine .F ?_|refine .I ?_|refine .J ?_|refine .C ?_|refine .f1 ?_|refine .f3 ?_|refine .f5 ?_|refine .f6 ?_|refine .P (hPC _) ?_|refine .P hSP ?_|refine .U hap ?_|refine .Y ?_|fail
            exact⟨rfl,hC6,hx6⟩
          | false =>
            rw [fin.2 rfl]
            repeat' first|refine .A ?_|refine .B ?_|refine .C ?_|refine .D ?_|refine .I ?_|refine .J ?_|refine .f1 ?_|refine .f3 ?_|refine .f5 ?_|refine .f6 ?_|refine .P (hPC _) ?_|refine .P hSP ?_|refine .U hap ?_|refine .F ?_|refine .Y ?_|fail
            exact⟨rfl,hC6,hx6⟩
    ·have hn2:ans=2:=hno fun h=>by have:=h.2.2.2.1;cases this
     rw [hn2]
     by_cases c1:top<0
     ·repeat' first|refine .A ?_|refine .B ?_|refine .C ?_|refine .D ?_|refine .I ?_|refine .J ?_|refine .t1 ?_|refine .f1 ?_|refine .U hap ?_|refine .F ?_|refine .Y ?_|fail
      exact⟨rfl,hC5,hx05⟩
     ·by_cases c2:c.A<top
      ·repeat' first|refine .A ?_|refine .B ?_|refine .C ?_|refine .D ?_|refine .I ?_|refine .J ?_|refine .f1 ?_|refine .t3 ?_|refine .U hap ?_|refine .F ?_|refine .Y ?_|fail
       exact⟨rfl,hC5,hx05⟩
      ·cases is with
       | false =>
         repeat' first|refine .A ?_|refine .B ?_|refine .C ?_|refine .D ?_|refine .I ?_|refine .J ?_|refine .f1 ?_|refine .f3 ?_|refine .t6 ?_|refine .P (hPC _) ?_|refine .U hap ?_|refine .F ?_|refine .Y ?_|fail
         exact⟨rfl,hC5,hx05⟩
       | true =>
         by_cases c3:lkN l=0
         ·repeat' first|refine .A ?_|refine .B ?_|refine .C ?_|refine .D ?_|refine .I ?_|refine .J ?_|refine .f1 ?_|refine .f3 ?_|refine .t5 ?_|refine .U hap ?_|refine .F ?_|refine .Y ?_|fail
          exact⟨rfl,hC5,hx05⟩
         ·repeat' first|refine .A ?_|refine .B ?_|refine .C ?_|refine .D ?_|refine .I ?_|refine .J ?_|refine .f1 ?_|refine .f3 ?_|refine .f5 ?_|refine .t6 ?_|refine .P (hPC _) ?_|refine .U hap ?_|refine .F ?_|refine .Y ?_|fail
          exact⟨rfl,hC5,hx05⟩
  ·rw [qsW hE]
   have hE2:qsk ws c=1\/qsk ws c=2:=by
    unfold qsk at hE|-
    split
    ·rename_i hp
     rw [if_pos hp]at hE
     unfold fdE at hE|-
     split
     ·rename_i h2;rw [if_pos h2]at hE;exact absurd rfl hE
     ·exact .inr rfl
    ·exact .inl rfl
   rcases hE2 with e|e
   ·rw [e]at hA|-
    repeat' first|refine .A ?_|refine .B ?_|refine .C ?_|refine .J ?_|refine .t6 ?_|refine .P hA ?_|refine .F ?_|refine .Y ?_|fail
    exact⟨rfl,hC1,hx1⟩
   ·rw [e]at hA|-
    repeat' first|refine .A ?_|refine .B ?_|refine .C ?_|refine .J ?_|refine .t6 ?_|refine .P hA ?_|refine .F ?_|refine .Y ?_|fail
    exact⟨rfl,hC1,hx1⟩
 obtain⟨u,H',h1,rfl,h2⟩:=key
 exact⟨H',h1,h2⟩
end
end Go.Proofs.YtlgnnpkdhbhdgaaGreat
