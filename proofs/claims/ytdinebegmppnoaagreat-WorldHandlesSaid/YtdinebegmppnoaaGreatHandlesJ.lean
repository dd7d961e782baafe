/- What the document's calls of a history are: picked out of the event seat's texts. -/
import Derived.Test.YtdinebegmppnoaaGreatThreadP1
import Derived.Test.YtdinebegmppnoaaGreatIrD
set_option linter.unusedVariables false
set_option linter.unusedSimpArgs false

namespace Go.Proofs.YtdinebegmppnoaaGreat
open Go Go.Ir

structure Kall where
 th:Int
 od:Int
 oh:Int
 oo:Int
 on:Int
 rc:Int
 rn:Int
 dn:Bool
 fr:Int
 to:Int

def Kall.cs (c:Kall):List Value := [.int .i64 c.th,.int .i64 c.od,.int .i64 c.oh,.int .i64 c.oo,.int .i64 c.on,.int .i64 c.rc,.int .i64 c.rn,.bool c.dn,.int .i64 c.fr,.int .i64 c.to]

structure Evt where
 th:Int
 bk:Bool
 d:Int
 h:Int
 o:Int
 n:Int
 rc:Int
 rn:Int

def Evt.cs (e:Evt):List Value := [.int .i64 e.th,.bool e.bk,.int .i64 e.d,.int .i64 e.h,.int .i64 e.o,.int .i64 e.n,.int .i64 e.rc,.int .i64 e.rn]

def vcs (l:List Evt):List (List Value):=l.map Evt.cs

def lcs (l:List Kall):List (List Value):=l.map Kall.cs

theorem qrC (l:List Kall):∀e∈lcs l,e.length=10:=by
 intro e he
 obtain⟨x,_,rfl⟩:=List.mem_map.1 he
 rfl

theorem qrD (l:List Kall):∀e∈lcs l,e.all flat1=true:=by
 intro e he
 obtain⟨x,_,rfl⟩:=List.mem_map.1 he
 rfl

theorem qrE (l:List Evt):(vcs l).length=l.length:=by simp [vcs]

theorem qrF (l:List Kall):(lcs l).length=l.length:=by simp [lcs]

theorem qrG {l:List Evt}{i:Nat}{x:Evt}(h:l[i]? = some x):(vcs l)[i]? = some x.cs:=by simp [vcs,h]

theorem qrH {l:List Kall}{i:Nat}{x:Kall}(h:l[i]? = some x):(lcs l)[i]? = some x.cs:=by simp [lcs,h]

theorem qrI (l:List Kall)(x:Kall):lcs l ++ [x.cs]=lcs (l ++ [x]):=by simp [lcs]

def Evt.zo (e:Evt):Bool:=e.d==0&&(e.h==0&&(e.o==0&&(e.n==0&&true)))

def Evt.zr (e:Evt):Bool:=e.rc==0&&(e.rn==0&&true)

def qrJ (h:qab):Option (List Kall)→Value×qab
 | none=>(.tuple #[.slice none 0 0,.int .i64 2],h)
 | some C=>(.tuple #[(made h 10 (lcs C)).1,.int .i64 0],(made h 10 (lcs C)).2)

theorem qrK {C:List Kall}(h:0<C.length):lcs C≠[]:=fun e=>by have:=congrArg List.length e;rw [qrF,List.length_nil]at this;omega
def qrL (W:List Nat):Blk := .row (W.map N) false
theorem qrM {W:List Nat}{t n:Nat}(h:t<W.length):splice (W.map N) t (qaf (N n))=(W.set t n).map N:=by
 unfold splice qaf
 simp only [List.length_singleton]
 rw [List.map_set,List.set_eq_take_append_cons_drop]
 simp [h]
theorem qrN {lo:Nat}{H:qab}{b t n:Nat}{W:List Nat}(hb:H[b]? = some (qrL W))(hlo:lo≤b)(ht:t<W.length):stN lo H ⟨b,0+t*1,none⟩ (qaf (N n))=some (H.set b (qrL (W.set t n))):=by
 rw [Nat.zero_add,Nat.mul_one]
 refine qis hb hlo ?_ (qrM ht)
 simp [qaf];omega
theorem qrO {h:qab}{v:Value}{C:List Kall}(hv:Sl h 10 v (lcs C))(h0:0<C.length):∃a cap,v = .slice (some a) C.length cap∧∀(i:Nat) (c:Kall),C[i]? = some c→
  qav h none ⟨a.block,a.off+i*10+0,none⟩=some (.int .i64 c.th)∧qav h none ⟨a.block,a.off+i*10+7,none⟩=some (.bool c.dn)∧
  qav h none ⟨a.block,a.off+i*10+8,none⟩=some (.int .i64 c.fr)∧qav h none ⟨a.block,a.off+i*10+9,none⟩=some (.int .i64 c.to)∧qav h (some 10) ⟨a.block,a.off+i*10,none⟩=some (.agg c.cs.toArray):=by
 obtain⟨a,cap,h1,h2⟩:=hv.row (qrK h0)
 rw [qrF]at h1
 refine⟨a,cap,h1,fun i c hc => ?_⟩
 obtain⟨g1,g2⟩:=h2 i _ (qrH hc)
 exact⟨g1 0 _ rfl,g1 7 _ rfl,g1 8 _ rfl,g1 9 _ rfl,g2⟩

def qrP (t:Int)(p:List Evt):Nat:=p.countP (fun e=>e.th==t)

def okR (p:List Evt)(e:Evt):Bool:=decide (0≤e.th)&&decide (e.th<4)&&(e.bk==decide (qrP e.th p%2=1))&&(if e.bk then e.zo else e.zr)

def qrQ (l:List Evt):Prop:=∀(i:Nat) (e:Evt),l[i]? = some e→okR (l.take i) e=true

def qrR (t:Int):List Evt→Nat→Nat
 | [],j=>j
 | e::r,j=>if e.th=t then j else qrR t r (j+1)

def qrS (l:List Evt)(t:Int)(a:Nat):Nat:=qrR t (l.drop (a+1)) (a+1)

def mkC (n:Nat)(p:List Evt)(a:Nat)(e:Evt):Kall :=
 match p[qrS p e.th a]? with
 | some b=>⟨e.th,e.d,e.h,e.o,e.n,b.rc,b.rn,true,a,qrS p e.th a⟩
 | none=>⟨e.th,e.d,e.h,e.o,e.n,0,0,false,a,n⟩

def qrT (n:Nat)(p:List Evt)(a:Nat):List Kall :=
 match p[a]? with
 | some e=>if e.bk then []else [mkC n p a e]
 | none => []

def qrU (n:Nat)(p:List Evt)(i:Nat):List Kall:=(List.range i).flatMap (qrT n p)

theorem qrV (n:Nat)(p:List Evt)(i:Nat):qrU n p (i+1)=qrU n p i++qrT n p i:=by
 simp [qrU,List.range_succ]

theorem qrW (t:Int)(p:List Evt)(e:Evt):qrP t (p ++ [e])=qrP t p+(if e.th=t then 1 else 0):=by
 simp [qrP,List.countP_append,List.countP_singleton]

theorem qrX (p:List Evt)(e:Evt):qrQ (p ++ [e])↔qrQ p∧okR p e=true:=by
 constructor
 ·intro h
  refine⟨fun i x hx => ?_, ?_⟩
  ·have hi:=(List.getElem?_eq_some_iff.1 hx).1
   have:=h i x (by rw [List.getElem?_append_left hi];exact hx)
   rwa [List.take_append_of_le_length (by omega)]at this
  ·have:=h p.length e List.getElem?_concat_length
   rwa [List.take_append_of_le_length (Nat.le_refl _),List.take_length]at this
 ·rintro ⟨h1,h2⟩ i x hx
  by_cases hi:i<p.length
  ·rw [List.getElem?_append_left hi]at hx
   rw [List.take_append_of_le_length (by omega)]
   exact h1 i x hx
  ·have hil:=(List.getElem?_eq_some_iff.1 hx).1
   simp at hil
   have:i=p.length:=by omega
   subst this
   rw [List.getElem?_concat_length]at hx
   injection hx with hx
   subst hx
   rw [List.take_append_of_le_length (Nat.le_refl _),List.take_length]
   exact h2

theorem qrY (t:Int):∀(r:List Evt) (j:Nat),j≤qrR t r j∧qrR t r j≤j+r.length
 | [],j=>by simp [qrR]
 | e::r,j=>by
   unfold qrR
   have:=qrY t r (j+1)
   split<;>simp<;>omega

theorem qrZ {p:List Evt}{t:Int}{a:Nat}(ha:a<p.length):a<qrS p t a∧qrS p t a≤p.length:=by
 have:=qrY t (p.drop (a+1)) (a+1)
 rw [List.length_drop]at this
 unfold qrS
 omega

theorem qr0 {h:qab}{v:Value}{l:List Evt}(hv:Sl h 8 v (vcs l))(h0:0<l.length):∃a cap,v = .slice (some a) l.length cap∧∀(i:Nat) (e:Evt),l[i]? = some e→
  qav h none ⟨a.block,a.off+i*8+0,none⟩=some (.int .i64 e.th)∧qav h none ⟨a.block,a.off+i*8+1,none⟩=some (.bool e.bk)∧qav h (some 8) ⟨a.block,a.off+i*8,none⟩=some (.agg e.cs.toArray):=by
 obtain⟨a,cap,h1,h2⟩:=hv.row (fun e=>by have:=congrArg List.length e;rw [qrE,List.length_nil]at this;omega)
 rw [qrE]at h1
 refine⟨a,cap,h1,fun i c hc => ?_⟩
 obtain⟨g1,g2⟩:=h2 i _ (qrG hc)
 exact⟨g1 0 _ rfl,g1 1 _ rfl,g2⟩

theorem qr1 (l k:List Evt):vcs l++vcs k=vcs (l++k):=by simp [vcs]

theorem qr2 {p:List Evt}{i:Nat}{e:Evt}{t:Int}(h:p[i]? = some e):qrP t (p.take (i+1))=qrP t (p.take i)+(if e.th=t then 1 else 0):=by
 obtain⟨hi,he⟩:=List.getElem?_eq_some_iff.1 h
 rw [List.take_succ_eq_append_getElem hi,he,qrW]

theorem qr3 (t:Int)(p:List Evt):qrP t p≤p.length:=List.countP_le_length

end Go.Proofs.YtdinebegmppnoaaGreat

/- The document's calls of a history: picked out of the event seat's texts. -/
namespace Go.Proofs.YtdinebegmppnoaaGreat
open Go Go.Ir

theorem qr4 (lo:Nat){h:qab}{v:Value}{l:List Evt}(hv:Sl h 8 v (vcs l))(hl:l.length≤1000){k:Nat}{e:Evt}(hk:l[k]? = some e) :
  qfV En lo Id.zcB [v,.int .i64 (k:Nat)] h=some (.int .i64 ((qrP e.th (l.take k):Nat):Int),h):=by
 have hkl:=(List.getElem?_eq_some_iff.1 hk).1
 refine Exists.elim (qr0 hv (by omega)) fun a hq=>Exists.elim hq fun cap hq => ?_
 have hva:=hq.1
 have hld:=hq.2
 have K0:=(hld k e hk).1
 subst hva
 refine qgy rfl Fn.zcB rfl rfl ?_
 repeat' (first|(show ER _ _ _ _ _ _ _;first|refine .seq ?_|refine .reg ?_|refine .yes rfl ?_|refine .no rfl ?_|refine .skip ?_|refine .block ?_|refine .endB ?_|refine .exit rfl ?_|refine .br rfl (fun hc => ?_) (fun hc => ?_)|refine .scope ?_|refine .inScope ?_|refine .label ?_|refine .ret rfl ?_|refine .nil rfl ?_)|(show EG _ _ _ _ _ _ _ _ _;first|refine .mov rfl rfl ?_|refine .lload rfl rfl rfl rfl ?_|refine .laddr rfl rfl rfl ?_|(show EG _ _ (⟨_,.bin _ _ _,_,_⟩::_) _ _ _ _ _ _;first|refine .lss rfl rfl rfl (fun hc => ?_) (fun hc => ?_)|refine .leq rfl rfl rfl (fun hc => ?_) (fun hc => ?_)|refine .gtr rfl rfl rfl (fun hc => ?_) (fun hc => ?_)|refine .geq rfl rfl rfl (fun hc => ?_) (fun hc => ?_)|refine .eql rfl rfl rfl (fun hc => ?_) (fun hc => ?_)|refine .neq rfl rfl rfl (fun hc => ?_) (fun hc => ?_))|refine .skip rfl ?_|refine .fin ?_|refine .go rfl rfl rfl ?_|refine .gono rfl rfl rfl ?_|refine .skipn rfl ?_))
 refine .loop (fun n f H=>H=h∧∃i:Nat,n+i=k∧f = [(0,.slice (some a) l.length cap),(1,N k),(5,N (qrP e.th (l.take i))),(6,N i)]) (n:=k) ⟨rfl,0,rfl,rfl⟩ ?_
 rintro n f H ⟨rfl,i,hn,rfl⟩ next
 by_cases hi:i<k
 ·have hil:i<l.length:=by omega
  have hgi:l[i]? = some l[i]:=List.getElem?_eq_getElem hil
  generalize l[i]=x at hgi
  have I0:=(hld i x hgi).1
  have hc:=qr2 (t:=e.th) hgi
  have hcl:=qr3 e.th (l.take i)
  rw [List.length_take]at hcl
  by_cases ht:x.th=e.th
  ·rw [if_pos ht]at hc
   repeat' (first|(show ER _ _ _ _ _ _ _;first|refine .seq ?_|refine .reg ?_|refine .yes rfl ?_|refine .no rfl ?_|refine .skip ?_|refine .block ?_|refine .endB ?_|refine .exit rfl ?_|refine .br rfl (fun hc => ?_) (fun hc => ?_)|refine .scope ?_|refine .inScope ?_|refine .label ?_|refine .ret rfl ?_|refine .nil rfl ?_)|(show EG _ _ _ _ _ _ _ _ _;first|refine .mov rfl rfl ?_|refine .lload rfl rfl rfl rfl ?_|refine .laddr rfl rfl rfl ?_|(show EG _ _ (⟨_,.bin _ _ _,_,_⟩::_) _ _ _ _ _ _;first|refine .lssT rfl rfl rfl (by omega) ?_|refine .lssF rfl rfl rfl (by omega) ?_|refine .leq rfl rfl rfl (fun hc => ?_) (fun hc => ?_)|refine .gtr rfl rfl rfl (fun hc => ?_) (fun hc => ?_)|refine .geq rfl rfl rfl (fun hc => ?_) (fun hc => ?_)|refine .eqlT rfl rfl rfl (by omega) ?_|refine .eqlF rfl rfl rfl (by omega) ?_|refine .neq rfl rfl rfl (fun hc => ?_) (fun hc => ?_)|refine .addN rfl rfl rfl (by omega) ?_|refine .addN (b:=1) rfl rfl rfl (by omega) ?_|refine .subN rfl rfl rfl (by omega) ?_|refine .subN (b:=1) rfl rfl rfl (by omega) ?_)|(show EG _ _ (⟨_,.load _ _,_,_⟩::_) _ _ _ _ _ _;first|refine .load rfl rfl (I0) ?_|refine .load rfl rfl (K0) ?_)|(show EG _ _ (⟨_,.iaddr _ _ _ _,_,_⟩::_) _ _ _ _ _ _;first|refine .iaddr rfl rfl rfl (hil) ?_|refine .iaddr rfl rfl rfl (hkl) ?_)|refine .skip rfl ?_|refine .fin ?_|refine .go rfl rfl rfl ?_|refine .gono rfl rfl rfl ?_|refine .skipn rfl ?_))
   exact next (n-1) _ _ (by omega) ⟨rfl,i+1,by omega,by rw [hc];rfl⟩
  ·rw [if_neg ht,Nat.add_zero]at hc
   repeat' (first|(show ER _ _ _ _ _ _ _;first|refine .seq ?_|refine .reg ?_|refine .yes rfl ?_|refine .no rfl ?_|refine .skip ?_|refine .block ?_|refine .endB ?_|refine .exit rfl ?_|refine .br rfl (fun hc => ?_) (fun hc => ?_)|refine .scope ?_|refine .inScope ?_|refine .label ?_|refine .ret rfl ?_|refine .nil rfl ?_)|(show EG _ _ _ _ _ _ _ _ _;first|refine .mov rfl rfl ?_|refine .lload rfl rfl rfl rfl ?_|refine .laddr rfl rfl rfl ?_|(show EG _ _ (⟨_,.bin _ _ _,_,_⟩::_) _ _ _ _ _ _;first|refine .lssT rfl rfl rfl (by omega) ?_|refine .lssF rfl rfl rfl (by omega) ?_|refine .leq rfl rfl rfl (fun hc => ?_) (fun hc => ?_)|refine .gtr rfl rfl rfl (fun hc => ?_) (fun hc => ?_)|refine .geq rfl rfl rfl (fun hc => ?_) (fun hc => ?_)|refine .eqlT rfl rfl rfl (by omega) ?_|refine .eqlF rfl rfl rfl (by omega) ?_|refine .neq rfl rfl rfl (fun hc => ?_) (fun hc => ?_)|refine .addN rfl rfl rfl (by omega) ?_|refine .addN (b:=1) rfl rfl rfl (by omega) ?_|refine .subN rfl rfl rfl (by omega) ?_|refine .subN (b:=1) rfl rfl rfl (by omega) ?_)|(show EG _ _ (⟨_,.load _ _,_,_⟩::_) _ _ _ _ _ _;first|refine .load rfl rfl (I0) ?_|refine .load rfl rfl (K0) ?_)|(show EG _ _ (⟨_,.iaddr _ _ _ _,_,_⟩::_) _ _ _ _ _ _;first|refine .iaddr rfl rfl rfl (hil) ?_|refine .iaddr rfl rfl rfl (hkl) ?_)|refine .skip rfl ?_|refine .fin ?_|refine .go rfl rfl rfl ?_|refine .gono rfl rfl rfl ?_|refine .skipn rfl ?_))
   exact next (n-1) _ _ (by omega) ⟨rfl,i+1,by omega,by rw [hc];rfl⟩
 ·have hik:i=k:=by omega
  subst hik
  repeat' (first|(show ER _ _ _ _ _ _ _;first|refine .seq ?_|refine .reg ?_|refine .yes rfl ?_|refine .no rfl ?_|refine .skip ?_|refine .block ?_|refine .endB ?_|refine .exit rfl ?_|refine .br rfl (fun hc => ?_) (fun hc => ?_)|refine .scope ?_|refine .inScope ?_|refine .label ?_|refine .ret rfl ?_|refine .nil rfl ?_)|(show EG _ _ _ _ _ _ _ _ _;first|refine .mov rfl rfl ?_|refine .lload rfl rfl rfl rfl ?_|refine .laddr rfl rfl rfl ?_|(show EG _ _ (⟨_,.bin _ _ _,_,_⟩::_) _ _ _ _ _ _;first|refine .lssT rfl rfl rfl (by omega) ?_|refine .lssF rfl rfl rfl (by omega) ?_|refine .leq rfl rfl rfl (fun hc => ?_) (fun hc => ?_)|refine .gtr rfl rfl rfl (fun hc => ?_) (fun hc => ?_)|refine .geq rfl rfl rfl (fun hc => ?_) (fun hc => ?_)|refine .eql rfl rfl rfl (fun hc => ?_) (fun hc => ?_)|refine .neq rfl rfl rfl (fun hc => ?_) (fun hc => ?_))|refine .skip rfl ?_|refine .fin ?_|refine .go rfl rfl rfl ?_|refine .gono rfl rfl rfl ?_|refine .skipn rfl ?_))
  rfl

theorem qr5 (lo:Nat){h:qab}{v:Value}{l:List Evt}(hv:Sl h 8 v (vcs l))(hl:l.length≤1000){k:Nat}{e:Evt}(hk:l[k]? = some e) :
  qfV En lo Id.zcA [v,.int .i64 (k:Nat)] h=some (.int .i64 ((qrS l e.th k:Nat):Int),h):=by
 have hkl:=(List.getElem?_eq_some_iff.1 hk).1
 refine Exists.elim (qr0 hv (by omega)) fun a hq=>Exists.elim hq fun cap hq => ?_
 have hva:=hq.1
 have hld:=hq.2
 have K0:=(hld k e hk).1
 subst hva
 refine qgy rfl Fn.zcA rfl rfl ?_
 repeat' (first|(show ER _ _ _ _ _ _ _;first|refine .seq ?_|refine .reg ?_|refine .yes rfl ?_|refine .no rfl ?_|refine .skip ?_|refine .block ?_|refine .endB ?_|refine .exit rfl ?_|refine .br rfl (fun hc => ?_) (fun hc => ?_)|refine .scope ?_|refine .inScope ?_|refine .label ?_|refine .ret rfl ?_|refine .nil rfl ?_)|(show EG _ _ _ _ _ _ _ _ _;first|refine .mov rfl rfl ?_|refine .lload rfl rfl rfl rfl ?_|refine .laddr rfl rfl rfl ?_|(show EG _ _ (⟨_,.bin _ _ _,_,_⟩::_) _ _ _ _ _ _;first|refine .lss rfl rfl rfl (fun hc => ?_) (fun hc => ?_)|refine .leq rfl rfl rfl (fun hc => ?_) (fun hc => ?_)|refine .gtr rfl rfl rfl (fun hc => ?_) (fun hc => ?_)|refine .geq rfl rfl rfl (fun hc => ?_) (fun hc => ?_)|refine .eql rfl rfl rfl (fun hc => ?_) (fun hc => ?_)|refine .neq rfl rfl rfl (fun hc => ?_) (fun hc => ?_)|refine .addN rfl rfl rfl (by omega) ?_|refine .addN (b:=1) rfl rfl rfl (by omega) ?_|refine .subN rfl rfl rfl (by omega) ?_|refine .subN (b:=1) rfl rfl rfl (by omega) ?_)|refine .skip rfl ?_|refine .fin ?_|refine .go rfl rfl rfl ?_|refine .gono rfl rfl rfl ?_|refine .skipn rfl ?_))
 refine .loop (fun n f H=>H=h∧∃i:Nat,n+i=l.length∧f = [(0,.slice (some a) l.length cap),(1,N k),(5,N i)]∧qrS l e.th k=qrR e.th (l.drop i) i) (n:=l.length-(k+1)) ⟨rfl,k+1,by omega,rfl,rfl⟩ ?_
 rintro n f H ⟨rfl,i,hn,rfl,hI⟩ next
 by_cases hi:i<l.length
 ·have hgi:l[i]? = some l[i]:=List.getElem?_eq_getElem hi
  rw [List.drop_eq_getElem_cons hi]at hI
  generalize l[i]=x at hgi hI
  have I0:=(hld i x hgi).1
  unfold qrR at hI
  by_cases ht:x.th=e.th
  ·rw [if_pos ht]at hI
   repeat' (first|(show ER _ _ _ _ _ _ _;first|refine .seq ?_|refine .reg ?_|refine .yes rfl ?_|refine .no rfl ?_|refine .skip ?_|refine .block ?_|refine .endB ?_|refine .exit rfl ?_|refine .br rfl (fun hc => ?_) (fun hc => ?_)|refine .scope ?_|refine .inScope ?_|refine .label ?_|refine .ret rfl ?_|refine .nil rfl ?_)|(show EG _ _ _ _ _ _ _ _ _;first|refine .mov rfl rfl ?_|refine .lload rfl rfl rfl rfl ?_|refine .laddr rfl rfl rfl ?_|(show EG _ _ (⟨_,.bin _ _ _,_,_⟩::_) _ _ _ _ _ _;first|refine .lssT rfl rfl rfl (by omega) ?_|refine .lssF rfl rfl rfl (by omega) ?_|refine .leq rfl rfl rfl (fun hc => ?_) (fun hc => ?_)|refine .gtr rfl rfl rfl (fun hc => ?_) (fun hc => ?_)|refine .geq rfl rfl rfl (fun hc => ?_) (fun hc => ?_)|refine .eqlT rfl rfl rfl (by omega) ?_|refine .eqlF rfl rfl rfl (by omega) ?_|refine .neq rfl rfl rfl (fun hc => ?_) (fun hc => ?_))|(show EG _ _ (⟨_,.load _ _,_,_⟩::_) _ _ _ _ _ _;first|refine .load rfl rfl (I0) ?_|refine .load rfl rfl (K0) ?_)|(show EG _ _ (⟨_,.iaddr _ _ _ _,_,_⟩::_) _ _ _ _ _ _;first|refine .iaddr rfl rfl rfl (hi) ?_|refine .iaddr rfl rfl rfl (hkl) ?_)|refine .skip rfl ?_|refine .fin ?_|refine .go rfl rfl rfl ?_|refine .gono rfl rfl rfl ?_|refine .skipn rfl ?_))
   rw [hI];rfl
  ·rw [if_neg ht]at hI
   repeat' (first|(show ER _ _ _ _ _ _ _;first|refine .seq ?_|refine .reg ?_|refine .yes rfl ?_|refine .no rfl ?_|refine .skip ?_|refine .block ?_|refine .endB ?_|refine .exit rfl ?_|refine .br rfl (fun hc => ?_) (fun hc => ?_)|refine .scope ?_|refine .inScope ?_|refine .label ?_|refine .ret rfl ?_|refine .nil rfl ?_)|(show EG _ _ _ _ _ _ _ _ _;first|refine .mov rfl rfl ?_|refine .lload rfl rfl rfl rfl ?_|refine .laddr rfl rfl rfl ?_|(show EG _ _ (⟨_,.bin _ _ _,_,_⟩::_) _ _ _ _ _ _;first|refine .lssT rfl rfl rfl (by omega) ?_|refine .lssF rfl rfl rfl (by omega) ?_|refine .leq rfl rfl rfl (fun hc => ?_) (fun hc => ?_)|refine .gtr rfl rfl rfl (fun hc => ?_) (fun hc => ?_)|refine .geq rfl rfl rfl (fun hc => ?_) (fun hc => ?_)|refine .eqlT rfl rfl rfl (by omega) ?_|refine .eqlF rfl rfl rfl (by omega) ?_|refine .neq rfl rfl rfl (fun hc => ?_) (fun hc => ?_)|refine .addN rfl rfl rfl (by omega) ?_|refine .addN (b:=1) rfl rfl rfl (by omega) ?_|refine .subN rfl rfl rfl (by omega) ?_|refine .subN (b:=1) rfl rfl rfl (by omega) ?_)|(show EG _ _ (⟨_,.load _ _,_,_⟩::_) _ _ _ _ _ _;first|refine .load rfl rfl (I0) ?_|refine .load rfl rfl (K0) ?_)|(show EG _ _ (⟨_,.iaddr _ _ _ _,_,_⟩::_) _ _ _ _ _ _;first|refine .iaddr rfl rfl rfl (hi) ?_|refine .iaddr rfl rfl rfl (hkl) ?_)|refine .skip rfl ?_|refine .fin ?_|refine .go rfl rfl rfl ?_|refine .gono rfl rfl rfl ?_|refine .skipn rfl ?_))
   exact next (n-1) _ _ (by omega) ⟨rfl,i+1,by omega,rfl,hI⟩
 ·rw [List.drop_of_length_le (by omega)]at hI
  have hil:i=l.length:=by omega
  subst hil
  repeat' (first|(show ER _ _ _ _ _ _ _;first|refine .seq ?_|refine .reg ?_|refine .yes rfl ?_|refine .no rfl ?_|refine .skip ?_|refine .block ?_|refine .endB ?_|refine .exit rfl ?_|refine .br rfl (fun hc => ?_) (fun hc => ?_)|refine .scope ?_|refine .inScope ?_|refine .label ?_|refine .ret rfl ?_|refine .nil rfl ?_)|(show EG _ _ _ _ _ _ _ _ _;first|refine .mov rfl rfl ?_|refine .lload rfl rfl rfl rfl ?_|refine .laddr rfl rfl rfl ?_|(show EG _ _ (⟨_,.bin _ _ _,_,_⟩::_) _ _ _ _ _ _;first|refine .lssT rfl rfl rfl (by omega) ?_|refine .lssF rfl rfl rfl (by omega) ?_|refine .leq rfl rfl rfl (fun hc => ?_) (fun hc => ?_)|refine .gtr rfl rfl rfl (fun hc => ?_) (fun hc => ?_)|refine .geq rfl rfl rfl (fun hc => ?_) (fun hc => ?_)|refine .eql rfl rfl rfl (fun hc => ?_) (fun hc => ?_)|refine .neq rfl rfl rfl (fun hc => ?_) (fun hc => ?_))|refine .skip rfl ?_|refine .fin ?_|refine .go rfl rfl rfl ?_|refine .gono rfl rfl rfl ?_|refine .skipn rfl ?_))
  rw [hI];rfl

open Classical in
noncomputable def qr6 (l:List Evt):Bool:=decide (qrQ l)

open Classical in
theorem okB'_true {l:List Evt}(h:qrQ l):qr6 l=true:=by unfold qr6;exact decide_eq_true h

open Classical in
theorem okB'_false {l:List Evt}(h:¬qrQ l):qr6 l=false:=by unfold qr6;exact decide_eq_false h

theorem qr7 {h:qab}{v:Value}{l:List Evt}(hv:Sl h 8 v (vcs l)){a:Addr}{len cap:Nat}(he:v = .slice (some a) len cap){i:Nat}{e:Evt}(hc:l[i]? = some e) :
  qav h (some 4) ⟨a.block,a.off+i*8+2,none⟩=some (.agg #[.int .i64 e.d,.int .i64 e.h,.int .i64 e.o,.int .i64 e.n])∧
  qav h (some 2) ⟨a.block,a.off+i*8+6,none⟩=some (.agg #[.int .i64 e.rc,.int .i64 e.rn]) :=
 ⟨hv.part (qrG hc) (by decide) he,hv.part (qrG hc) (by decide) he⟩

theorem qr8 {n:Nat} : (n:Int).tmod 2=((n%2:Nat):Int):=by
 rw [Int.tmod_eq_emod_of_nonneg (by omega)];omega

set_option maxHeartbeats 1600000 in
theorem qr9 (lo:Nat){h:qab}{v:Value}{l:List Evt}(hv:Sl h 8 v (vcs l))(hl:l.length≤1000) :
  qfV En lo Id.zcz [v] h=some (.int .i64 (if qr6 l then 0 else 2),h):=by
 refine Exists.elim hv.len fun base hq=>Exists.elim hq fun cap hve => ?_
 rw [qrE]at hve
 have hT:=fun lo k e hk=>qr4 lo hv hl (k:=k) (e:=e) hk
 subst hve
 refine qgy rfl Fn.zcz rfl rfl ?_
 repeat' (first|(show ER _ _ _ _ _ _ _;first|refine .seq ?_|refine .reg ?_|refine .yes rfl ?_|refine .no rfl ?_|refine .skip ?_|refine .block ?_|refine .endB ?_|refine .exit rfl ?_|refine .br rfl (fun hc => ?_) (fun hc => ?_)|refine .scope ?_|refine .inScope ?_|refine .label ?_|refine .ret rfl ?_|refine .nil rfl ?_)|(show EG _ _ _ _ _ _ _ _ _;first|refine .mov rfl rfl ?_|refine .lload rfl rfl rfl rfl ?_|refine .laddr rfl rfl rfl ?_|(show EG _ _ (⟨_,.bin _ _ _,_,_⟩::_) _ _ _ _ _ _;first|refine .lss rfl rfl rfl (fun hc => ?_) (fun hc => ?_)|refine .leq rfl rfl rfl (fun hc => ?_) (fun hc => ?_)|refine .gtr rfl rfl rfl (fun hc => ?_) (fun hc => ?_)|refine .geq rfl rfl rfl (fun hc => ?_) (fun hc => ?_)|refine .eql rfl rfl rfl (fun hc => ?_) (fun hc => ?_)|refine .neq rfl rfl rfl (fun hc => ?_) (fun hc => ?_))|refine .skip rfl ?_|refine .fin ?_|refine .go rfl rfl rfl ?_|refine .gono rfl rfl rfl ?_|refine .skipn rfl ?_))
 refine .loop (fun n f H=>H=h∧∃i:Nat,n+i=l.length∧f = [(0,.slice base l.length cap),(3,N i)]∧∀(j:Nat) (e:Evt),j<i→l[j]? = some e→okR (l.take j) e=true) (n:=l.length) ⟨rfl,0,rfl,rfl,by simp⟩ ?_
 rintro n f H ⟨rfl,i,hn,rfl,hI⟩ next
 by_cases hi:i<l.length
 ·have hgi:l[i]? = some l[i]:=List.getElem?_eq_getElem hi
  generalize l[i]=e at hgi
  refine Exists.elim (qr0 hv (by omega)) fun a hq=>Exists.elim hq fun cap' hq => ?_
  have hva:=hq.1
  injection hva with e1 e2 e3
  subst e1
  have I0:=(hq.2 i e hgi).1
  have I1:=(hq.2 i e hgi).2.1
  have I2:=(qr7 hv rfl hgi).1
  have I6:=(qr7 hv rfl hgi).2
  have hTi:=fun lo=>hT lo i e hgi
  have hbad:okR (l.take i) e=false→Ir.tidy H (.int .i64 2) H=some (.int .i64 (if qr6 l then 0 else 2),H):=fun hb=>by
   rw [okB'_false (fun hk=>by have:=hk i e hgi;rw [hb]at this;cases this)];rfl
  have hgood:okR (l.take i) e=true→∀(j:Nat) (x:Evt),j<i+1→l[j]? = some x→okR (l.take j) x=true:=fun hb j x hj hx=>by
   by_cases hji:j=i
   ·subst hji
    rw [hgi]at hx
    injection hx with hx
    subst hx
    exact hb
   ·exact hI j x (by omega) hx
  unfold okR at hbad hgood
  rcases e with⟨th,bk,ed,eh,eo,en,erc,ern⟩
  simp only at I0 I1 I2 I6 hTi hbad hgood
  have hcl:=qr3 th (l.take i)
  rw [List.length_take]at hcl
  generalize qrP th (l.take i)=c at hTi hbad hgood hcl
  have hrem:((c:Int)).tmod 2=((c%2:Nat):Int):=qr8
  by_cases h0:th<0
  ·repeat' (first|(show ER _ _ _ _ _ _ _;first|refine .seq ?_|refine .reg ?_|refine .yes rfl ?_|refine .no rfl ?_|refine .skip ?_|refine .block ?_|refine .endB ?_|refine .exit rfl ?_|refine .br rfl (fun hc => ?_) (fun hc => ?_)|refine .scope ?_|refine .inScope ?_|refine .label ?_|refine .ret rfl ?_|refine .nil rfl ?_)|(show EG _ _ _ _ _ _ _ _ _;first|refine .mov rfl rfl ?_|refine .lload rfl rfl rfl rfl ?_|refine .laddr rfl rfl rfl ?_|(show EG _ _ (⟨_,.bin _ _ _,_,_⟩::_) _ _ _ _ _ _;first|refine .lssT rfl rfl rfl (by omega) ?_|refine .lssF rfl rfl rfl (by omega) ?_|refine .leq rfl rfl rfl (fun hc => ?_) (fun hc => ?_)|refine .gtr rfl rfl rfl (fun hc => ?_) (fun hc => ?_)|refine .geq rfl rfl rfl (fun hc => ?_) (fun hc => ?_)|refine .eql rfl rfl rfl (fun hc => ?_) (fun hc => ?_)|refine .neq rfl rfl rfl (fun hc => ?_) (fun hc => ?_))|refine .load rfl rfl (I0) ?_|refine .iaddr rfl rfl rfl (hi) ?_|refine .skip rfl ?_|refine .fin ?_|refine .go rfl rfl rfl ?_|refine .gono rfl rfl rfl ?_|refine .skipn rfl ?_))
   exact hbad (by rw [decide_eq_false (show ¬(0:Int)≤th by omega)];rfl)
  ·by_cases h4:3<th
   ·repeat' (first|(show ER _ _ _ _ _ _ _;first|refine .seq ?_|refine .reg ?_|refine .yes rfl ?_|refine .no rfl ?_|refine .skip ?_|refine .block ?_|refine .endB ?_|refine .exit rfl ?_|refine .br rfl (fun hc => ?_) (fun hc => ?_)|refine .scope ?_|refine .inScope ?_|refine .label ?_|refine .ret rfl ?_|refine .nil rfl ?_)|(show EG _ _ _ _ _ _ _ _ _;first|refine .mov rfl rfl ?_|refine .lload rfl rfl rfl rfl ?_|refine .laddr rfl rfl rfl ?_|(show EG _ _ (⟨_,.bin _ _ _,_,_⟩::_) _ _ _ _ _ _;first|refine .lssT rfl rfl rfl (by omega) ?_|refine .lssF rfl rfl rfl (by omega) ?_|refine .leq rfl rfl rfl (fun hc => ?_) (fun hc => ?_)|refine .gtrT rfl rfl rfl (by omega) ?_|refine .gtrF rfl rfl rfl (by omega) ?_|refine .geq rfl rfl rfl (fun hc => ?_) (fun hc => ?_)|refine .eql rfl rfl rfl (fun hc => ?_) (fun hc => ?_)|refine .neq rfl rfl rfl (fun hc => ?_) (fun hc => ?_))|refine .load rfl rfl (I0) ?_|refine .iaddr rfl rfl rfl (hi) ?_|refine .skip rfl ?_|refine .fin ?_|refine .go rfl rfl rfl ?_|refine .gono rfl rfl rfl ?_|refine .skipn rfl ?_))
    exact hbad (by rw [decide_eq_false (show ¬th<4 by omega)];simp)
   ·rw [decide_eq_true (show(0:Int)≤th by omega),decide_eq_true (show th<4 by omega)]at hbad hgood
    by_cases hp:c%2=1
    ·rw [decide_eq_true hp]at hbad hgood
     cases bk with
     | true =>
       repeat' (first|(show ER _ _ _ _ _ _ _;first|refine .seq ?_|refine .reg ?_|refine .yes rfl ?_|refine .no rfl ?_|refine .skip ?_|refine .block ?_|refine .endB ?_|refine .exit rfl ?_|refine .br rfl (fun hc => ?_) (fun hc => ?_)|refine .scope ?_|refine .inScope ?_|refine .label ?_|refine .ret rfl ?_|refine .nil rfl ?_)|(show EG _ _ _ _ _ _ _ _ _;first|refine .mov rfl rfl ?_|refine .lload rfl rfl rfl rfl ?_|refine .laddr rfl rfl rfl ?_|(show EG _ _ (⟨_,.bin _ _ _,_,_⟩::_) _ _ _ _ _ _;first|refine .lssT rfl rfl rfl (by omega) ?_|refine .lssF rfl rfl rfl (by omega) ?_|refine .leq rfl rfl rfl (fun hc => ?_) (fun hc => ?_)|refine .gtrT rfl rfl rfl (by omega) ?_|refine .gtrF rfl rfl rfl (by omega) ?_|refine .geq rfl rfl rfl (fun hc => ?_) (fun hc => ?_)|refine .eqlT rfl rfl rfl (by omega) ?_|refine .eqlF rfl rfl rfl (by omega) ?_|refine .neq rfl rfl rfl (fun hc => ?_) (fun hc => ?_)|refine .addN rfl rfl rfl (by omega) ?_|refine .addN (b:=1) rfl rfl rfl (by omega) ?_|refine .subN rfl rfl rfl (by omega) ?_|refine .subN (b:=1) rfl rfl rfl (by omega) ?_)|(show EG _ _ (⟨_,.load _ _,_,_⟩::_) _ _ _ _ _ _;first|refine .load rfl rfl (I0) ?_|refine .load rfl rfl (I1) ?_|refine .load rfl rfl (I2) ?_|refine .load rfl rfl (I6) ?_)|refine .call rfl rfl (hTi _) ?_|refine .iaddr rfl rfl rfl (hi) ?_|refine .eqc rfl rfl rfl rfl (fun hc => ?_) (fun hc => ?_)|refine .loadc rfl rfl I1 (qiv I1) rfl ?_|refine .skip rfl ?_|refine .fin ?_|refine .go rfl rfl rfl ?_|refine .gono rfl rfl rfl ?_|refine .skipn rfl ?_))
       ·exact hbad hc
       ·exact next (n-1) _ _ (by omega) ⟨rfl,i+1,by omega,rfl,hgood hc⟩
     | false =>
       repeat' (first|(show ER _ _ _ _ _ _ _;first|refine .seq ?_|refine .reg ?_|refine .yes rfl ?_|refine .no rfl ?_|refine .skip ?_|refine .block ?_|refine .endB ?_|refine .exit rfl ?_|refine .br rfl (fun hc => ?_) (fun hc => ?_)|refine .scope ?_|refine .inScope ?_|refine .label ?_|refine .ret rfl ?_|refine .nil rfl ?_)|(show EG _ _ _ _ _ _ _ _ _;first|refine .mov rfl rfl ?_|refine .lload rfl rfl rfl rfl ?_|refine .laddr rfl rfl rfl ?_|(show EG _ _ (⟨_,.bin _ _ _,_,_⟩::_) _ _ _ _ _ _;first|refine .lssT rfl rfl rfl (by omega) ?_|refine .lssF rfl rfl rfl (by omega) ?_|refine .leq rfl rfl rfl (fun hc => ?_) (fun hc => ?_)|refine .gtrT rfl rfl rfl (by omega) ?_|refine .gtrF rfl rfl rfl (by omega) ?_|refine .geq rfl rfl rfl (fun hc => ?_) (fun hc => ?_)|refine .eqlT rfl rfl rfl (by omega) ?_|refine .eqlF rfl rfl rfl (by omega) ?_|refine .neq rfl rfl rfl (fun hc => ?_) (fun hc => ?_)|refine .addN rfl rfl rfl (by omega) ?_|refine .addN (b:=1) rfl rfl rfl (by omega) ?_|refine .subN rfl rfl rfl (by omega) ?_|refine .subN (b:=1) rfl rfl rfl (by omega) ?_)|(show EG _ _ (⟨_,.load _ _,_,_⟩::_) _ _ _ _ _ _;first|refine .load rfl rfl (I0) ?_|refine .load rfl rfl (I1) ?_|refine .load rfl rfl (I2) ?_|refine .load rfl rfl (I6) ?_)|refine .call rfl rfl (hTi _) ?_|refine .iaddr rfl rfl rfl (hi) ?_|refine .eqc rfl rfl rfl rfl (fun hc => ?_) (fun hc => ?_)|refine .loadc rfl rfl I1 (qiv I1) rfl ?_|refine .skip rfl ?_|refine .fin ?_|refine .go rfl rfl rfl ?_|refine .gono rfl rfl rfl ?_|refine .skipn rfl ?_))
       exact hbad rfl
    ·rw [decide_eq_false hp]at hbad hgood
     cases bk with
     | true =>
       repeat' (first|(show ER _ _ _ _ _ _ _;first|refine .seq ?_|refine .reg ?_|refine .yes rfl ?_|refine .no rfl ?_|refine .skip ?_|refine .block ?_|refine .endB ?_|refine .exit rfl ?_|refine .br rfl (fun hc => ?_) (fun hc => ?_)|refine .scope ?_|refine .inScope ?_|refine .label ?_|refine .ret rfl ?_|refine .nil rfl ?_)|(show EG _ _ _ _ _ _ _ _ _;first|refine .mov rfl rfl ?_|refine .lload rfl rfl rfl rfl ?_|refine .laddr rfl rfl rfl ?_|(show EG _ _ (⟨_,.bin _ _ _,_,_⟩::_) _ _ _ _ _ _;first|refine .lssT rfl rfl rfl (by omega) ?_|refine .lssF rfl rfl rfl (by omega) ?_|refine .leq rfl rfl rfl (fun hc => ?_) (fun hc => ?_)|refine .gtrT rfl rfl rfl (by omega) ?_|refine .gtrF rfl rfl rfl (by omega) ?_|refine .geq rfl rfl rfl (fun hc => ?_) (fun hc => ?_)|refine .eqlT rfl rfl rfl (by omega) ?_|refine .eqlF rfl rfl rfl (by omega) ?_|refine .neq rfl rfl rfl (fun hc => ?_) (fun hc => ?_)|refine .addN rfl rfl rfl (by omega) ?_|refine .addN (b:=1) rfl rfl rfl (by omega) ?_|refine .subN rfl rfl rfl (by omega) ?_|refine .subN (b:=1) rfl rfl rfl (by omega) ?_)|(show EG _ _ (⟨_,.load _ _,_,_⟩::_) _ _ _ _ _ _;first|refine .load rfl rfl (I0) ?_|refine .load rfl rfl (I1) ?_|refine .load rfl rfl (I2) ?_|refine .load rfl rfl (I6) ?_)|refine .call rfl rfl (hTi _) ?_|refine .iaddr rfl rfl rfl (hi) ?_|refine .eqc rfl rfl rfl rfl (fun hc => ?_) (fun hc => ?_)|refine .loadc rfl rfl I1 (qiv I1) rfl ?_|refine .skip rfl ?_|refine .fin ?_|refine .go rfl rfl rfl ?_|refine .gono rfl rfl rfl ?_|refine .skipn rfl ?_))
       exact hbad rfl
     | false =>
       repeat' (first|(show ER _ _ _ _ _ _ _;first|refine .seq ?_|refine .reg ?_|refine .yes rfl ?_|refine .no rfl ?_|refine .skip ?_|refine .block ?_|refine .endB ?_|refine .exit rfl ?_|refine .br rfl (fun hc => ?_) (fun hc => ?_)|refine .scope ?_|refine .inScope ?_|refine .label ?_|refine .ret rfl ?_|refine .nil rfl ?_)|(show EG _ _ _ _ _ _ _ _ _;first|refine .mov rfl rfl ?_|refine .lload rfl rfl rfl rfl ?_|refine .laddr rfl rfl rfl ?_|(show EG _ _ (⟨_,.bin _ _ _,_,_⟩::_) _ _ _ _ _ _;first|refine .lssT rfl rfl rfl (by omega) ?_|refine .lssF rfl rfl rfl (by omega) ?_|refine .leq rfl rfl rfl (fun hc => ?_) (fun hc => ?_)|refine .gtrT rfl rfl rfl (by omega) ?_|refine .gtrF rfl rfl rfl (by omega) ?_|refine .geq rfl rfl rfl (fun hc => ?_) (fun hc => ?_)|refine .eqlT rfl rfl rfl (by omega) ?_|refine .eqlF rfl rfl rfl (by omega) ?_|refine .neq rfl rfl rfl (fun hc => ?_) (fun hc => ?_)|refine .addN rfl rfl rfl (by omega) ?_|refine .addN (b:=1) rfl rfl rfl (by omega) ?_|refine .subN rfl rfl rfl (by omega) ?_|refine .subN (b:=1) rfl rfl rfl (by omega) ?_)|(show EG _ _ (⟨_,.load _ _,_,_⟩::_) _ _ _ _ _ _;first|refine .load rfl rfl (I0) ?_|refine .load rfl rfl (I1) ?_|refine .load rfl rfl (I2) ?_|refine .load rfl rfl (I6) ?_)|refine .call rfl rfl (hTi _) ?_|refine .iaddr rfl rfl rfl (hi) ?_|refine .eqc rfl rfl rfl rfl (fun hc => ?_) (fun hc => ?_)|refine .loadc rfl rfl I1 (qiv I1) rfl ?_|refine .skip rfl ?_|refine .fin ?_|refine .go rfl rfl rfl ?_|refine .gono rfl rfl rfl ?_|refine .skipn rfl ?_))
       ·exact hbad hc
       ·exact next (n-1) _ _ (by omega) ⟨rfl,i+1,by omega,rfl,hgood hc⟩
 ·have hik:qr6 l=true:=okB'_true fun j e hj=>hI j e (by have:=(List.getElem?_eq_some_iff.1 hj).1;omega) hj
  repeat' (first|(show ER _ _ _ _ _ _ _;first|refine .seq ?_|refine .reg ?_|refine .yes rfl ?_|refine .no rfl ?_|refine .skip ?_|refine .block ?_|refine .endB ?_|refine .exit rfl ?_|refine .br rfl (fun hc => ?_) (fun hc => ?_)|refine .scope ?_|refine .inScope ?_|refine .label ?_|refine .ret rfl ?_|refine .nil rfl ?_)|(show EG _ _ _ _ _ _ _ _ _;first|refine .mov rfl rfl ?_|refine .lload rfl rfl rfl rfl ?_|refine .laddr rfl rfl rfl ?_|(show EG _ _ (⟨_,.bin _ _ _,_,_⟩::_) _ _ _ _ _ _;first|refine .lssT rfl rfl rfl (by omega) ?_|refine .lssF rfl rfl rfl (by omega) ?_|refine .leq rfl rfl rfl (fun hc => ?_) (fun hc => ?_)|refine .gtr rfl rfl rfl (fun hc => ?_) (fun hc => ?_)|refine .geq rfl rfl rfl (fun hc => ?_) (fun hc => ?_)|refine .eql rfl rfl rfl (fun hc => ?_) (fun hc => ?_)|refine .neq rfl rfl rfl (fun hc => ?_) (fun hc => ?_))|refine .skip rfl ?_|refine .fin ?_|refine .go rfl rfl rfl ?_|refine .gono rfl rfl rfl ?_|refine .skipn rfl ?_))
  rw [hik];rfl

theorem qsa (a:Int):qaQ (.int .i64 a) (.int .i64 a)=true:=by simp [qaQ,qaP]
theorem qsb (a b c d:Int):qaQ (.agg #[.int .i64 a,.int .i64 b,.int .i64 c,.int .i64 d]) (.agg #[.int .i64 a,.int .i64 b,.int .i64 c,.int .i64 d])=true:=by simp [qaQ,sameL,qaP]

theorem qsc (n:Nat)(p:List Evt):∀i,(qrU n p i).length≤i
 | 0=>Nat.le_refl _
 | i+1=>by
   rw [qrV,List.length_append]
   have:=qsc n p i
   have h2:(qrT n p i).length≤1:=by
    unfold qrT
    split
    ·split<;>simp
    ·simp
   omega

set_option maxHeartbeats 1600000 in
theorem qsd (lo:Nat){h:qab}{v:Value}{l:List Evt}(hv:Sl h 8 v (vcs l))(hl:l.length≤1000)(hok:qrQ l) :
  qfV En lo Id.zcy [v] h=some (qrJ h (some (qrU l.length l l.length))):=by
 refine Exists.elim hv.len fun base hq=>Exists.elim hq fun cap hve => ?_
 rw [qrE]at hve
 have hA:=fun lo k e (hh:qab) (x:Ext h hh) hk=>qr5 lo (hv.ext x) hl (k:=k) (e:=e) hk
 have hK:=fun lo=>qr9 lo hv hl
 subst hve
 refine qgy rfl Fn.zcy rfl rfl ?_
 rw [okB'_true hok]at hK
 have hK:∀lo,qfV En lo Id.zcz [.slice base l.length cap] h=some (.int .i64 0,h):=hK
 repeat' (first|(show ER _ _ _ _ _ _ _;first|refine .seq ?_|refine .reg ?_|refine .yes rfl ?_|refine .no rfl ?_|refine .skip ?_|refine .block ?_|refine .endB ?_|refine .exit rfl ?_|refine .br rfl (fun hc => ?_) (fun hc => ?_)|refine .scope ?_|refine .inScope ?_|refine .label ?_|refine .ret rfl ?_|refine .nil rfl ?_)|(show EG _ _ _ _ _ _ _ _ _;first|refine .mov rfl rfl ?_|refine .lload rfl rfl rfl rfl ?_|refine .laddr rfl rfl rfl ?_|(show EG _ _ (⟨_,.bin _ _ _,_,_⟩::_) _ _ _ _ _ _;first|refine .lss rfl rfl rfl (fun hc => ?_) (fun hc => ?_)|refine .leq rfl rfl rfl (fun hc => ?_) (fun hc => ?_)|refine .gtr rfl rfl rfl (fun hc => ?_) (fun hc => ?_)|refine .geq rfl rfl rfl (fun hc => ?_) (fun hc => ?_)|refine .eql rfl rfl rfl (fun hc => ?_) (fun hc => ?_)|refine .neqT rfl rfl rfl (by omega) ?_|refine .neqF rfl rfl rfl (by omega) ?_)|refine .call rfl rfl (hK _) ?_|refine .skip rfl ?_|refine .fin ?_|refine .go rfl rfl rfl ?_|refine .gono rfl rfl rfl ?_|refine .skipn rfl ?_))
 refine .loop (fun n f H=>∃(i:Nat) (o:Value),n+i=l.length∧f = [(0,.slice base l.length cap),(4,o),(5,N i)]∧Ext h H∧Out H h.length 10 o (lcs (qrU l.length l i))) (n:=l.length)
  ⟨0,_,rfl,rfl,.refl _,Out.nil _ _ _⟩ ?_
 rintro n f H ⟨i,o,hn,rfl,hx,ho⟩ next
 by_cases hi:i<l.length
 ·have hgi:l[i]? = some l[i]:=List.getElem?_eq_getElem hi
  have hsc:=qrV l.length l i
  unfold qrT at hsc
  have hdl:=qsc l.length l i
  rw [hgi]at hsc
  dsimp only at hsc
  generalize l[i]=e at hgi hsc
  refine Exists.elim (qr0 (hv.ext hx) (by omega)) fun a hq=>Exists.elim hq fun cap' hq => ?_
  have hva:=hq.1
  have hld:=hq.2
  injection hva with e1 e2 e3
  subst e1
  have I0:=(hq.2 i e hgi).1
  have I1:=(hq.2 i e hgi).2.1
  have I2:=(qr7 (hv.ext hx) rfl hgi).1
  have hAi:=fun lo=>hA lo i e H hx hgi
  have han:=qrZ (t:=e.th) hi
  cases hb:e.bk with
  | true =>
    rw [hb]at I1 hsc
    rw [if_pos rfl,List.append_nil]at hsc
    repeat' (first|(show ER _ _ _ _ _ _ _;first|refine .seq ?_|refine .reg ?_|refine .yes rfl ?_|refine .no rfl ?_|refine .skip ?_|refine .block ?_|refine .endB ?_|refine .exit rfl ?_|refine .br rfl (fun hc => ?_) (fun hc => ?_)|refine .scope ?_|refine .inScope ?_|refine .label ?_|refine .ret rfl ?_|refine .nil rfl ?_)|(show EG _ _ _ _ _ _ _ _ _;first|refine .mov rfl rfl ?_|refine .lload rfl rfl rfl rfl ?_|refine .laddr rfl rfl rfl ?_|(show EG _ _ (⟨_,.bin _ _ _,_,_⟩::_) _ _ _ _ _ _;first|refine .lssT rfl rfl rfl (by omega) ?_|refine .lssF rfl rfl rfl (by omega) ?_|refine .leq rfl rfl rfl (fun hc => ?_) (fun hc => ?_)|refine .gtr rfl rfl rfl (fun hc => ?_) (fun hc => ?_)|refine .geq rfl rfl rfl (fun hc => ?_) (fun hc => ?_)|refine .eql rfl rfl rfl (fun hc => ?_) (fun hc => ?_)|refine .neq rfl rfl rfl (fun hc => ?_) (fun hc => ?_)|refine .addN rfl rfl rfl (by omega) ?_|refine .addN (b:=1) rfl rfl rfl (by omega) ?_|refine .subN rfl rfl rfl (by omega) ?_|refine .subN (b:=1) rfl rfl rfl (by omega) ?_)|refine .load rfl rfl (I1) ?_|refine .iaddr rfl rfl rfl (hi) ?_|refine .skip rfl ?_|refine .fin ?_|refine .go rfl rfl rfl ?_|refine .gono rfl rfl rfl ?_|refine .skipn rfl ?_))
    exact next (n-1) _ _ (by omega) ⟨i+1,o,by omega,rfl,hx,by rw [hsc];exact ho⟩
  | false =>
    rw [hb]at I1 hsc
    rw [if_neg (by decide)]at hsc
    unfold mkC at hsc
    have hpl:(lcs (qrU l.length l i)).length+1≤2 ^ 30:=by rw [qrF];omega
    generalize qrS l e.th i=j at hAi han hsc
    by_cases hj:j<l.length
    ·have hgj:l[j]? = some l[j]:=List.getElem?_eq_getElem hj
     rw [hgj]at hsc
     dsimp only at hsc
     generalize l[j]=b at hgj hsc
     have J6:=(qr7 (hv.ext hx) rfl hgj).2
     refine Exists.elim (ho.push (bytes:=80) (e:=Kall.cs ⟨e.th,e.d,e.h,e.o,e.n,b.rc,b.rn,true,i,j⟩) rfl hx.1 hpl (by decide)) fun o' hq1=>Exists.elim hq1 fun H' hq2 => ?_
     have hap:=hq2.1
     have ho':=hq2.2.1
     have hx':=hq2.2.2 h (Nat.le_refl _) hx
     rw [qrI,←hsc]at ho'
     repeat' (first|(show ER _ _ _ _ _ _ _;first|refine .seq ?_|refine .reg ?_|refine .yes rfl ?_|refine .no rfl ?_|refine .skip ?_|refine .block ?_|refine .endB ?_|refine .exit rfl ?_|refine .br rfl (fun hc => ?_) (fun hc => ?_)|refine .scope ?_|refine .inScope ?_|refine .label ?_|refine .ret rfl ?_|refine .nil rfl ?_)|(show EG _ _ _ _ _ _ _ _ _;first|refine .mov rfl rfl ?_|refine .lload rfl rfl rfl rfl ?_|refine .laddr rfl rfl rfl ?_|(show EG _ _ (⟨_,.bin _ _ _,_,_⟩::_) _ _ _ _ _ _;first|refine .lssT rfl rfl rfl (by omega) ?_|refine .lssF rfl rfl rfl (by omega) ?_|refine .leq rfl rfl rfl (fun hc => ?_) (fun hc => ?_)|refine .gtr rfl rfl rfl (fun hc => ?_) (fun hc => ?_)|refine .geq rfl rfl rfl (fun hc => ?_) (fun hc => ?_)|refine .eql rfl rfl rfl (fun hc => ?_) (fun hc => ?_)|refine .neq rfl rfl rfl (fun hc => ?_) (fun hc => ?_)|refine .addN rfl rfl rfl (by omega) ?_|refine .addN (b:=1) rfl rfl rfl (by omega) ?_|refine .subN rfl rfl rfl (by omega) ?_|refine .subN (b:=1) rfl rfl rfl (by omega) ?_)|(show EG _ _ (⟨_,.load _ _,_,_⟩::_) _ _ _ _ _ _;first|refine .load rfl rfl (I1) ?_|refine .load rfl rfl (J6) ?_)|refine .call rfl rfl (hAi _) ?_|(show EG _ _ (⟨_,.iaddr _ _ _ _,_,_⟩::_) _ _ _ _ _ _;first|refine .iaddr rfl rfl rfl (hi) ?_|refine .iaddr rfl rfl rfl (hj) ?_)|refine .app rfl rfl rfl (hap) ?_|refine .loadc rfl rfl I0 (qiv I0) (qsa _) ?_|refine .loadc rfl rfl I2 (qiv I2) (qsb _ _ _ _) ?_|refine .skip rfl ?_|refine .fin ?_|refine .go rfl rfl rfl ?_|refine .gono rfl rfl rfl ?_|refine .skipn rfl ?_))
     exact next (n-1) _ _ (by omega) ⟨i+1,o',by omega,rfl,hx',ho'⟩
    ·have hjl:j=l.length:=by omega
     rw [List.getElem?_eq_none (show l.length≤j by omega)]at hsc
     dsimp only at hsc
     refine Exists.elim (ho.push (bytes:=80) (e:=Kall.cs ⟨e.th,e.d,e.h,e.o,e.n,0,0,false,i,l.length⟩) rfl hx.1 hpl (by decide)) fun o' hq1=>Exists.elim hq1 fun H' hq2 => ?_
     have hap:=hq2.1
     have ho':=hq2.2.1
     have hx':=hq2.2.2 h (Nat.le_refl _) hx
     rw [qrI,←hsc]at ho'
     subst hjl
     repeat' (first|(show ER _ _ _ _ _ _ _;first|refine .seq ?_|refine .reg ?_|refine .yes rfl ?_|refine .no rfl ?_|refine .skip ?_|refine .block ?_|refine .endB ?_|refine .exit rfl ?_|refine .br rfl (fun hc => ?_) (fun hc => ?_)|refine .scope ?_|refine .inScope ?_|refine .label ?_|refine .ret rfl ?_|refine .nil rfl ?_)|(show EG _ _ _ _ _ _ _ _ _;first|refine .mov rfl rfl ?_|refine .lload rfl rfl rfl rfl ?_|refine .laddr rfl rfl rfl ?_|(show EG _ _ (⟨_,.bin _ _ _,_,_⟩::_) _ _ _ _ _ _;first|refine .lssT rfl rfl rfl (by omega) ?_|refine .lssF rfl rfl rfl (by omega) ?_|refine .leq rfl rfl rfl (fun hc => ?_) (fun hc => ?_)|refine .gtr rfl rfl rfl (fun hc => ?_) (fun hc => ?_)|refine .geq rfl rfl rfl (fun hc => ?_) (fun hc => ?_)|refine .eql rfl rfl rfl (fun hc => ?_) (fun hc => ?_)|refine .neq rfl rfl rfl (fun hc => ?_) (fun hc => ?_)|refine .addN rfl rfl rfl (by omega) ?_|refine .addN (b:=1) rfl rfl rfl (by omega) ?_|refine .subN rfl rfl rfl (by omega) ?_|refine .subN (b:=1) rfl rfl rfl (by omega) ?_)|refine .load rfl rfl (I1) ?_|refine .call rfl rfl (hAi _) ?_|refine .iaddr rfl rfl rfl (hi) ?_|refine .app rfl rfl rfl (hap) ?_|refine .loadc rfl rfl I0 (qiv I0) (qsa _) ?_|refine .loadc rfl rfl I2 (qiv I2) (qsb _ _ _ _) ?_|refine .skip rfl ?_|refine .fin ?_|refine .go rfl rfl rfl ?_|refine .gono rfl rfl rfl ?_|refine .skipn rfl ?_))
     exact next (n-1) _ _ (by omega) ⟨i+1,o',by omega,rfl,hx',ho'⟩
 ·have hil:i=l.length:=by omega
  subst hil
  repeat' (first|(show ER _ _ _ _ _ _ _;first|refine .seq ?_|refine .reg ?_|refine .yes rfl ?_|refine .no rfl ?_|refine .skip ?_|refine .block ?_|refine .endB ?_|refine .exit rfl ?_|refine .br rfl (fun hc => ?_) (fun hc => ?_)|refine .scope ?_|refine .inScope ?_|refine .label ?_|refine .ret rfl ?_|refine .nil rfl ?_)|(show EG _ _ _ _ _ _ _ _ _;first|refine .mov rfl rfl ?_|refine .lload rfl rfl rfl rfl ?_|refine .laddr rfl rfl rfl ?_|(show EG _ _ (⟨_,.bin _ _ _,_,_⟩::_) _ _ _ _ _ _;first|refine .lssT rfl rfl rfl (by omega) ?_|refine .lssF rfl rfl rfl (by omega) ?_|refine .leq rfl rfl rfl (fun hc => ?_) (fun hc => ?_)|refine .gtr rfl rfl rfl (fun hc => ?_) (fun hc => ?_)|refine .geq rfl rfl rfl (fun hc => ?_) (fun hc => ?_)|refine .eql rfl rfl rfl (fun hc => ?_) (fun hc => ?_)|refine .neq rfl rfl rfl (fun hc => ?_) (fun hc => ?_))|refine .skip rfl ?_|refine .fin ?_|refine .go rfl rfl rfl ?_|refine .gono rfl rfl rfl ?_|refine .skipn rfl ?_))
  exact ho.tidy2 (u := .int .i64 0) (qrD _) rfl (fun a l c e=>by cases e)
end Go.Proofs.YtdinebegmppnoaaGreat

