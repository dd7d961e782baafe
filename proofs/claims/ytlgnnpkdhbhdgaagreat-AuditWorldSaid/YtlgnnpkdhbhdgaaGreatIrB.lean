/- Operations on memory. -/
import Derived.Test.YtlgnnpkdhbhdgaaGreatIrA
import Derived.IntWalk
set_option linter.all false
namespace Go.Ir
def qc4 {w:World}{b:Nat}{C:Array Value}{t:TypeId}{fz:Nat×Nat}(hb:w.heap[b]? = some (.cells C t fz))(o:Nat):w.cell? ⟨b,o,none⟩=C[o]? := by
 simp [World.cell?,hb]
def qc5 {P:Program}{w:World}{b:Nat}{C:Array Value}{t:TypeId}{fz:Nat×Nat}(hb:w.heap[b]? = some (.cells C t fz)){o n:Nat}(hn:o+n<=C.size) :
  (loadCells ⟨b,o,none⟩ n).run P w = .ok ((C.toList.drop o).take n).toArray w:=by
 have hl:((C.toList.drop o).take n).length=n:=by simp;omega
 have:=run_loadCells_list (P:=P) w ⟨b,o,none⟩ ((C.toList.drop o).take n) (fun j v hj=>by
  rw [qcK,qc4 hb]
  rw [List.getElem?_take]at hj
  split at hj
  ·rw [List.getElem?_drop]at hj
   simpa using hj
  ·cases hj)
 rw [hl]at this
 exact this
def qc6 {α:Type}(l:List α)(b n j:Nat)(hj:j<n):((l.drop b).take n)[j]? = l[b+j]? := by
 rw [List.getElem?_take,if_pos hj,List.getElem?_drop]
def qc7 {α:Type}(l:List α)(b m o n:Nat)(h:o+n<=m):((((l.drop b).take m).drop o).take n)=(l.drop (b+o)).take n:=by
 apply List.ext_getElem?
 intro j
 by_cases hj:j<n
 ·rw [qc6 _ _ _ _ hj,qc6 _ _ _ _ hj,qc6 _ _ _ _ (by omega)]
  congr 1
  omega
 ·rw [List.getElem?_take,if_neg hj,List.getElem?_take,if_neg hj]
def qc8 (l us:List Value)(b m o:Nat)(h:o+us.length<=m)(hm:b+m<=l.length):((splice l (b+o) us).drop b).take m=splice ((l.drop b).take m) o us:=by
 apply List.ext_getElem?
 intro j
 by_cases hj:j<m
 ·rw [qc6 _ _ _ _ hj]
  simp only [splice,List.getElem?_append,List.getElem?_take,List.getElem?_drop,zzM,List.length_take,List.length_drop]
  have e1:min (b+o) l.length=b+o:=by omega
  have e2:min o (min m (l.length-b))=o:=by omega
  rw [e1,e2]
  by_cases h1:j<o
  ·simp [h1,show b+j<b+o by omega,show b+j<b+o+us.length by omega,show j<o+us.length by omega,hj]
  ·by_cases h2:j<o+us.length
   ·simp [h1,h2,show ¬b+j<b+o by omega,show b+j<b+o+us.length by omega,show b+j-(b+o)=j-o by omega]
   ·simp [h1,h2,show ¬b+j<b+o by omega,show ¬b+j<b+o+us.length by omega]
    rw [if_pos (by omega)]
    congr 1
    omega
 ·rw [List.getElem?_take,if_neg hj]
  rw [zzE]
  simp [splice]
  omega
def VRs.one {E:Emb} : ∀{vs cs:List Value},VRs E vs cs->vs.all qad=true->∀c∈cs,c.oneCell'=true
 | _,_,.nil,_,c,hc=>by cases hc
 | _,_,.cons v d vs cs hv hs,h,c,hc=>by
   simp only [List.all_cons,Bool.and_eq_true]at h
   rcases List.mem_cons.1 hc with rfl|hc
   ·cases hv<;>simp [qad]at h<;>rfl
   ·exact hs.one h.2 c hc
def qc9 {w:World}{g:Nat}{C C':Array Value}{t:TypeId}{fz:Nat×Nat}(hg:w.heap[g]? = some (.cells C t fz)):(w.setRow g C').heap[g]? = some (.cells C' t fz):=by
 simp [World.setRow,Array.getElem?_modify,hg]
def qda {w:World}{g b:Nat}{C':Array Value}(h:b≠g):(w.setRow g C').heap[b]? = w.heap[b]? := by
 simp only [World.setRow,Array.getElem?_modify]
 rw [if_neg (fun e=>h e.symm)]
def qdb {w:World}{g:Nat}{C':Array Value} : (w.setRow g C').heap.size=w.heap.size:=by simp [World.setRow]
open Go.RowKit in
def Below.setRow {B:Nat}{w0 w:World}(h:Below B w0 w){g:Nat}(hg:B<=g)(C':Array Value):Below B w0 (w.setRow g C') :=
 h.trans ⟨rfl,rfl,rfl,by rw [qdb];exact zzR _,fun k hk=>qda (by omega)⟩
section
variable {B0:Nat}{w0:World}{E:Emb}{h:qab}{w:World}
def Sim.write (s:Sim B0 w0 E h w){i:Nat}{cs:List Value}(hi:h[i]? = some (.row cs false)){x:Ent}(hx:E i=some (some x)){C:Array Value}{t:TypeId}
  (hC:w.heap[x.b]? = some (.cells C t (0,0))) (hsz:C.size=x.size) (hb:x.base+cs.length<=C.size) (hB:B0<=x.b) (hcs:VRs E cs ((C.toList.drop x.base).take cs.length)) (hone:cs.all qad=true)
  {off:Nat} {us ds:List Value} (hu:VRs E us ds) (huo:us.all qad=true) (hl:off+us.length<=cs.length) :
  Sim B0 w0 E (h.set i (.row (splice cs off us) false)) (w.setRow x.b (splice C.toList (x.base+off) ds).toArray)/\
   Later E w E (w.setRow x.b (splice C.toList (x.base+off) ds).toArray):=by
 have hilt:i<h.length:=(zzS.1 hi).1
 have hul:=hu.length
 have hlen:(splice C.toList (x.base+off) ds).length=C.size:=by rw [qbW _ _ _ (by simp;omega)];simp
 have hother:∀j y,j≠i->E j=some (some y)->y.b≠x.b:=fun j y hj hy e=>by
  have:=(s.inj i j x y (fun e=>hj e.symm) hx hy e.symm).1
  rw [hi]at this
  cases this
 constructor
 ·refine⟨Below.setRow s.below hB _,fun j hj=>s.out j (by simpa using hj),fun j hj => ?_,fun j k hj hk => ?_,fun j j' y y' hne hy hy' he => ?_⟩
  ·rw [List.getElem?_set]at hj
   split at hj
   ·cases hj
   ·exact s.dead j hj
  ·by_cases hji:j=i
   ·subst hji
    rw [List.getElem?_set_self hilt]at hj
    injection hj with hj
    subst hj
    refine⟨x,hx,_,t,(0,0),qc9 hC,by simp [hlen,hsz], ?_, ?_,fun _=>⟨hB,rfl⟩,qa2 off hone huo⟩
    ·rw [qbW _ _ _ hl];simp [hlen];omega
    ·rw [qbW _ _ _ hl]
     simp only [List.toList_toArray]
     rw [qc8 _ _ _ _ _ (by omega) (by simp;omega)]
     exact hcs.splice hu off
   ·rw [zzN (fun e=>hji e.symm)]at hj
    obtain⟨y,hy,hbr⟩:=s.live j k hj hk
    exact⟨y,hy,hbr.world (qda (hother j y hji hy))⟩
  ·have:=s.inj j j' y y' hne hy hy' he
   have h1:j≠i:=fun e=>by subst e;rw [hi]at this;cases this.1
   have h2:j'≠i:=fun e=>by subst e;rw [hi]at this;cases this.2
   rw [zzN (fun e=>h1 e.symm),zzN (fun e=>h2 e.symm)]
   exact this
 ·exact⟨Emb.le_refl E,fun j y hy => .inl ⟨j,y,hy,rfl⟩,by rw [qdb];exact zzR _,fun b hb hn=>qda (fun e=>hn i x hx e.symm)⟩
def Emb.put (E:Emb)(n:Nat)(e:Option Ent):Emb:=fun i=>if i=n then some e else E i
def Emb.yh {n:Nat}{e:Option Ent} : E.put n e n=some e:=by simp [Emb.put]
def Emb.yb {n i:Nat}{e:Option Ent}(h:i≠n):E.put n e i=E i:=by simp [Emb.put,h]
def Emb.yX {n:Nat}{e:Option Ent}(h:E n=none):E.le (E.put n e):=fun i e' hi=>by
 by_cases hin:i=n
 ·subst hin;rw [h]at hi;cases hi
 ·exact .inl (by rw [Emb.yb hin];exact hi)
def Sim.push (s:Sim B0 w0 E h w){w':World}{k:Blk}{x:Ent}(hk:k≠.dead)(hbw:Go.RowKit.Below B0 w0 w')(hold:∀b,b<w.heap.size->w'.heap[b]? = w.heap[b]?)
  (hsz:w.heap.size<=w'.heap.size) (hx:w.heap.size<=x.b) (hbr:BR B0 (E.put h.length (some x)) w' x k) :
  Sim B0 w0 (E.put h.length (some x)) (h ++ [k]) w'/\Later E w (E.put h.length (some x)) w':=by
 have hn:E h.length=none:=s.out _ (zzR _)
 have hle:E.le (E.put h.length (some x)):=Emb.yX hn
 have hlt:∀j y,E j=some (some y)->y.b<w.heap.size:=fun j y hy=>by
  rcases s.ent hy with⟨x',k',he,hj,hd,hb⟩|⟨he,_⟩
  ·injection he with he;subst he;exact hb.lt hd
  ·cases he
 have hjl:∀j e,E j=some e->j<h.length:=fun j e hj=>by
  rcases Nat.lt_or_ge j h.length with h1|h1
  ·exact h1
  ·rw [s.out j h1]at hj;cases hj
 constructor
 ·refine⟨hbw,fun j hj => ?_,fun j hj => ?_,fun j k' hj hk' => ?_,fun j j' y y' hne hy hy' he => ?_⟩
  ·simp at hj
   rw [Emb.yb (by omega)]
   exact s.out j (by omega)
  ·rw [List.getElem?_append]at hj
   split at hj
   ·rename_i hjl';rw [Emb.yb (by omega)];exact s.dead j hj
   ·rename_i hjl'
    have:j-h.length=0:=by
     rcases Nat.eq_zero_or_pos (j-h.length)with h0|h0
     ·exact h0
     ·rw [zzE (by simp;omega)]at hj;cases hj
    rw [this]at hj
    simp at hj
    exact absurd hj hk
  ·rw [List.getElem?_append]at hj
   split at hj
   ·rename_i hjl'
    rw [Emb.yb (by omega)]
    obtain⟨y,hy,hb⟩:=s.live j k' hj hk'
    exact⟨y,hy,(hb.mono hle).world (hold _ (hlt j y hy))⟩
   ·rename_i hjl'
    have:j-h.length=0:=by
     rcases Nat.eq_zero_or_pos (j-h.length)with h0|h0
     ·exact h0
     ·rw [zzE (by simp;omega)]at hj;cases hj
    have hje:j=h.length:=by omega
    rw [this]at hj
    simp at hj
    subst hj hje
    exact⟨x,Emb.yh,hbr⟩
  ·by_cases h1:j=h.length
   ·subst h1
    rw [Emb.yh]at hy
    rw [Emb.yb (fun e=>hne e.symm)]at hy'
    injection hy with hy;injection hy with hy;subst hy
    have:=hlt j' y' hy'
    omega
   ·by_cases h2:j'=h.length
    ·subst h2
     rw [Emb.yh]at hy'
     rw [Emb.yb h1]at hy
     injection hy' with hy';injection hy' with hy';subst hy'
     have:=hlt j y hy
     omega
    ·rw [Emb.yb h1]at hy
     rw [Emb.yb h2]at hy'
     have:=s.inj j j' y y' hne hy hy' he
     rw [zzA (hjl _ _ hy),zzA (hjl _ _ hy')]
     exact this
 ·refine⟨hle,fun j y hy => ?_,hsz,fun b hb _=>hold b hb⟩
  by_cases h1:j=h.length
  ·subst h1
   rw [Emb.yh]at hy
   injection hy with hy;injection hy with hy;subst hy
   exact .inr hx
  ·rw [Emb.yb h1]at hy
   exact .inl ⟨j,y,hy,rfl⟩
def Sim.kill (s:Sim B0 w0 E h w){i:Nat}(hi:i<h.length):Sim B0 w0 (E.put i none) (h.set i .dead) w/\Later E w (E.put i none) w:=by
 have hle:E.le (E.put i none):=fun j e hj=>by
  by_cases hji:j=i
  ·subst hji;exact .inr Emb.yh
  ·exact .inl (by rw [Emb.yb hji];exact hj)
 constructor
 ·refine⟨s.below,fun j hj => ?_,fun j hj => ?_,fun j k hj hk => ?_,fun j j' y y' hne hy hy' he => ?_⟩
  ·rw [Emb.yb (by simp at hj;omega)];exact s.out j (by simpa using hj)
  ·by_cases hji:j=i
   ·subst hji;exact Emb.yh
   ·rw [zzN (fun e=>hji e.symm)]at hj
    rw [Emb.yb hji];exact s.dead j hj
  ·have hji:j≠i:=fun e=>by
    subst e
    rw [List.getElem?_set_self hi]at hj
    injection hj with hj
    exact hk hj.symm
   rw [zzN (fun e=>hji e.symm)]at hj
   rw [Emb.yb hji]
   obtain⟨y,hy,hb⟩:=s.live j k hj hk
   exact⟨y,hy,hb.mono hle⟩
  ·have h1:j≠i:=fun e=>by subst e;rw [Emb.yh]at hy;cases hy
   have h2:j'≠i:=fun e=>by subst e;rw [Emb.yh]at hy';cases hy'
   rw [Emb.yb h1]at hy
   rw [Emb.yb h2]at hy'
   rw [zzN (fun e=>h1 e.symm),zzN (fun e=>h2 e.symm)]
   exact s.inj j j' y y' hne hy hy' he
 ·refine⟨hle,fun j y hy => ?_,zzR _,fun _ _ _=>rfl⟩
  have h1:j≠i:=fun e=>by subst e;rw [Emb.yh]at hy;cases hy
  rw [Emb.yb h1]at hy
  exact .inl ⟨j,y,hy,rfl⟩
end
inductive NP (P:Program)(LB:List Nat)(ops:List Oper)(o:Oper):IOp->Prop where
 | waL (t:TypeId) (z:Value) (d:Nat) (ho:o.op = .alloc t) (hz:qa6 P t=some z) (hd:o.dst=some d) (hl:LB.contains d=true):NP P LB ops o (.yi (.const z))
 | waJ (t:TypeId) (z:Value) (d:Nat) (ho:o.op = .alloc t) (hz:qa6 P t=some z) (hd:o.dst=some d):NP P LB ops o (.box (.const z))
 | boxL (t:TypeId) (x:Operand) (d:Nat) (ho:o.op = .box t x) (hx:qa8 LB x=true) (hd:o.dst=some d) (hl:LB.contains d=true):NP P LB ops o (.yi x)
 | boxH (t:TypeId) (x:Operand) (d:Nat) (ho:o.op = .box t x) (hx:qa8 LB x=true) (hd:o.dst=some d):NP P LB ops o (.box x)
 | buildSlice (t e:TypeId) (n len:Nat) (z:Value) (parts:Array (Nat×Operand)) (ho:o.op = .buildSlice t len parts) (hu:P.underlying t=some (.slice e)) (hn:qa4 P e=some n)
    (hz:qa6 P e=some z) (hl:len*n<=2 ^ 20) (hx:(parts.toList.all fun p=>qa8 LB p.2)=true) :
    NP P LB ops o (.buildSlice n len (if len*n=0 then []else qbe z (len*n)) (parts.toList.map fun(i,x)=>(i*n,n,x)))
 | yc (t:TypeId) (x:Operand) (d off:Nat) (n:Option Nat) (ho:o.op = .load t x) (hn:tyN P t=some n) (hl:laX P LB ops x=some (d,off)):NP P LB ops o (.yc (laS LB x) d off n)
 | load (t:TypeId) (x:Operand) (n:Option Nat) (ho:o.op = .load t x) (hn:tyN P t=some n) (hx:qa8 LB x=true):NP P LB ops o (.load n x)
 | yu (t:TypeId) (x y:Operand) (d off n:Nat) (ho:o.op = .store t x y) (hn:qa4 P t=some n) (hl:laX P LB ops x=some (d,off)) (hy:qa8 LB y=true):NP P LB ops o (.yu (laS LB x) d off n y)
 | store (t:TypeId) (x y:Operand) (n:Nat) (ho:o.op = .store t x y) (hn:qa4 P t=some n) (hx:qa8 LB x=true) (hy:qa8 LB y=true):NP P LB ops o (.store n x y)
 | yd (t u:TypeId) (x:Operand) (fi off d o':Nat) (ho:o.op = .fieldAddr t x fi) (hf:qa7 P t fi=some (off,u)) (hl:laX P LB ops x=some (d,o')):NP P LB ops o (.yd (laS LB x) d (o'+off))
 | yK (t:TypeId) (r:Option Operand) (ho:o.op = .makeMap t r) (hr:r=none\/((∃k n,r=some (.const (.int k n)))/\∃e e',P.underlying t=some (.map e e'))):NP P LB ops o .yK
 | yA (t e:TypeId) (n c:Operand) (i:TypeInfo) (z:Value) (ho:o.op = .makeSlice t n c) (hu:P.underlying t=some (.slice e)) (hi:P.info? e=some i) (hz:qa6 P e=some z)
    (hl:(qaf z).length=i.size) (hn:qa8 LB n=true) (hc:qa8 LB c=true):NP P LB ops o (.yA i.size i.bytes (qaf z) n c)
 | lookup (t kt e:TypeId) (j:IntKind) (m k:Operand) (ok:Bool) (z:Value) (ho:o.op = .lookup t m k ok) (hu:P.underlying t=some (.map kt e)) (hk:P.underlying kt=some (.int j))
    (hz:qa6 P e=some z) (h1:qa8 LB m=true) (h2:qa8 LB k=true):NP P LB ops o (.lookup z ok m k)
 | yH (t kt e:TypeId) (j:IntKind) (m k x:Operand) (ho:o.op = .mapUpdate t m k x) (hu:P.underlying t=some (.map kt e)) (hk:P.underlying kt=some (.int j))
    (h1:qa8 LB m=true) (h2:qa8 LB k=true) (h3:qa8 LB x=true):NP P LB ops o (.yH m k x)
 | call (c:Call) (g:Nat) (ho:o.op = .call c) (hc:c.callee = .value (.func g)) (hx:(c.args.toList.all (qa8 LB))=true):NP P LB ops o (.call g c.args.toList)
 | yt (c:Call) (x:Operand) (ho:o.op = .call c) (hc:c.callee = .value x) (h0:qa8 LB x=true) (hx:(c.args.toList.all (qa8 LB))=true):NP P LB ops o (.yt x c.args.toList)
 | invoke (c:Call) (x:Operand) (name:String) (ho:o.op = .call c) (hc:c.callee = .invoke x name) (h0:qa8 LB x=true) (hx:(c.args.toList.all (qa8 LB))=true) :
    NP P LB ops o (.invoke (qba P name) x c.args.toList)
 | append (t u e e':TypeId) (x y:Operand) (i:TypeInfo) (ho:o.op = .call ⟨.builtin .append,#[x,y],#[t,u]⟩) (hu:P.underlying t=some (.slice e)) (hu':P.underlying u=some (.slice e'))
    (hi:P.info? e=some i) (hz:((qa5 P e).map fun z=>(qaf z).length)=some i.size) (h1:qa8 LB x=true) (h2:qa8 LB y=true):NP P LB ops o (.append i.size i.bytes x y)
 | copy (t e:TypeId) (ts:Array TypeId) (x y:Operand) (n:Nat) (ho:o.op = .call ⟨.builtin .copy,#[x,y],ts⟩) (ht:ts[0]? = some t) (hu:P.underlying t=some (.slice e)) (hn:qa4 P e=some n)
    (h1:qa8 LB x=true) (h2:qa8 LB y=true):NP P LB ops o (.copy n x y)
 | clear (t e:TypeId) (x:Operand) (n:Nat) (z:Value) (ho:o.op = .call ⟨.builtin .clear,#[x],#[t]⟩) (hu:P.underlying t=some (.slice e)) (hn:qa4 P e=some n) (hz:qa6 P e=some z)
    (hl:(qaf z).length=n) (h1:qa8 LB x=true):NP P LB ops o (.clear n (qaf z) x)
 | yF (t kt e:TypeId) (ts:Array TypeId) (j:IntKind) (m k:Operand) (ho:o.op = .call ⟨.builtin .delete,#[m,k],ts⟩) (ht:ts[0]? = some t) (hu:P.underlying t=some (.map kt e))
    (hk:P.underlying kt=some (.int j)) (h1:qa8 LB m=true) (h2:qa8 LB k=true):NP P LB ops o (.yF m k)
 | yE (t kt e:TypeId) (x:Operand) (ho:o.op = .call ⟨.builtin .len,#[x],#[t]⟩) (hu:P.underlying t=some (.map kt e)) (h1:qa8 LB x=true):NP P LB ops o (.yE x)
def qdc {P:Program}{LB:List Nat}{ops:List Oper}{o:Oper}{io:IOp}(hc:cOp P LB ops o=some io)(hp:qcX io=false):NP P LB ops o io:=by
 obtain⟨dst,op,ty,pos,after,guard⟩:=o
 cases op<;>simp only [cOp]at hc<;>try (cases hc;done)
 case move x=>obtain⟨h1,rfl⟩:=qbS hc;cases hp
 case assign x=>obtain⟨h1,rfl⟩:=qbS hc;cases hp
 case pick c x y=>obtain⟨h1,rfl⟩:=qbS hc;cases hp
 case alloc t =>
  split at hc<;>try (cases hc;done)
  rename_i z d hz
  split at hc
  ·rename_i hl;injection hc with hc;subst hc;exact .waL t z d rfl hz rfl hl
  ·injection hc with hc;subst hc;exact .waJ t z d rfl hz rfl
 case box t x =>
  split at hc<;>try (cases hc;done)
  rename_i d
  split at hc<;>try (cases hc;done)
  rename_i hx
  split at hc
  ·rename_i hl;injection hc with hc;subst hc;exact .boxL t x d rfl hx rfl hl
  ·injection hc with hc;subst hc;exact .boxH t x d rfl hx rfl
 case build t parts =>
  split at hc<;>try (cases hc;done)
  obtain⟨h1,rfl⟩:=qbS hc
  cases hp
 case buildSlice t n parts =>
  split at hc<;>try (cases hc;done)
  rename_i e hu
  split at hc<;>try (cases hc;done)
  rename_i s z hs hz
  split at hc<;>try (cases hc;done)
  rename_i hl
  obtain⟨h1,rfl⟩:=qbS hc
  exact .buildSlice t e s n z parts rfl hu hs hz hl h1
 case load t x =>
  split at hc<;>try (cases hc;done)
  rename_i n hn
  split at hc
  ·rename_i d off hl;injection hc with hc;subst hc;exact .yc t x d off n rfl hn hl
  ·obtain⟨h1,rfl⟩:=qbS hc;exact .load t x n rfl hn h1
 case store t x y =>
  split at hc<;>try (cases hc;done)
  rename_i n hn
  split at hc
  ·rename_i d off hl;obtain⟨h1,rfl⟩:=qbS hc;exact .yu t x y d off n rfl hn hl h1
  ·obtain⟨h1,rfl⟩:=qbS hc
   simp only [Bool.and_eq_true]at h1
   exact .store t x y n rfl hn h1.1 h1.2
 case nilCheck x =>
  split at hc
  ·obtain⟨h1,rfl⟩:=qbS hc;cases hp
  ·obtain⟨h1,rfl⟩:=qbS hc;cases hp
 case binOp op t x y t' =>
  split at hc<;>try (cases hc;done)
  split at hc
  ·injection hc with hc;subst hc;cases hp
  ·split at hc
   ·injection hc with hc;subst hc;cases hp
   ·injection hc with hc;subst hc;cases hp
   ·obtain⟨k,hk,rfl⟩:=qc2 hc;cases hp
 case unOp op t x=>obtain⟨h1,rfl⟩:=qbS hc;cases hp
 case convert s d x =>
  split at hc<;>try (cases hc;done)
  split at hc<;>(try (cases hc;done))<;>(injection hc with hc;subst hc;cases hp)
 case makeInterface t x =>
  split at hc<;>try (cases hc;done)
  obtain⟨h1,rfl⟩:=qbS hc
  cases hp
 case makeFunc fn first caps=>obtain⟨h1,rfl⟩:=qbS hc;cases hp
 case makeMap t r =>
  split at hc<;>try (cases hc;done)
  ·injection hc with hc;subst hc;exact .yK t _ rfl (.inl rfl)
  ·split at hc<;>try (cases hc;done)
   rename_i e e' hu
   injection hc with hc;subst hc;exact .yK t _ rfl (.inr ⟨⟨_,_,rfl⟩,e,e',hu⟩)
 case makeSlice t n c =>
  split at hc<;>try (cases hc;done)
  rename_i e hu
  split at hc<;>try (cases hc;done)
  rename_i i z hi hz
  split at hc<;>try (cases hc;done)
  rename_i hl
  obtain⟨h1,rfl⟩:=qbS hc
  simp only [Bool.and_eq_true]at h1
  exact .yA t e n c i z rfl hu hi hz hl h1.1 h1.2
 case slice t x lo' hi mx =>
  split at hc<;>try (cases hc;done)
  split at hc<;>try (cases hc;done)
  ·obtain⟨s,hs,rfl⟩:=qc2 hc;cases hp
  ·obtain⟨s,hs,rfl⟩:=qc2 hc;cases hp
  ·obtain⟨h2,rfl⟩:=qc0 hc;cases hp
 case fieldAddr t x fi =>
  split at hc<;>try (cases hc;done)
  rename_i off u hf
  split at hc
  ·rename_i d o' hl;injection hc with hc;subst hc;exact .yd t u x fi off d o' rfl hf hl
  ·obtain⟨h1,rfl⟩:=qbS hc;cases hp
 case field t x fi =>
  split at hc<;>try (cases hc;done)
  split at hc<;>try (cases hc;done)
  obtain⟨h1,rfl⟩:=qbS hc
  cases hp
 case indexAddr t x i =>
  split at hc<;>try (cases hc;done)
  split at hc<;>try (cases hc;done)
  ·obtain⟨s,hs,rfl⟩:=qc2 hc;cases hp
  ·obtain⟨s,hs,rfl⟩:=qc2 hc;cases hp
 case index t x i =>
  split at hc<;>try (cases hc;done)
  split at hc<;>try (cases hc;done)
  ·split at hc<;>try (cases hc;done)
   injection hc with hc;subst hc;cases hp
  ·injection hc with hc;subst hc;cases hp
 case lookup t m k ok =>
  split at hc<;>try (cases hc;done)
  rename_i kt et hmp
  split at hc<;>try (cases hc;done)
  rename_i j z hkt hz
  obtain⟨h1,rfl⟩:=qbS hc
  simp only [Bool.and_eq_true]at h1
  exact .lookup t kt et j m k ok z rfl hmp hkt hz h1.1 h1.2
 case mapUpdate t m k u =>
  split at hc<;>try (cases hc;done)
  rename_i kt et hmp
  split at hc<;>try (cases hc;done)
  rename_i j hkt
  obtain⟨h1,rfl⟩:=qbS hc
  simp only [Bool.and_eq_true]at h1
  exact .yH t kt et j m k u rfl hmp hkt h1.1.1 h1.1.2 h1.2
 case extract x i=>obtain⟨h1,rfl⟩:=qbS hc;cases hp
 case call c =>
  obtain⟨cal,args,ts⟩:=c
  split at hc
  ·rename_i g hg
   obtain⟨h1,rfl⟩:=qbS hc
   exact .call _ g rfl hg h1
  ·rename_i x hg _
   obtain⟨h1,rfl⟩:=qbS hc
   simp only [Bool.and_eq_true]at h1
   exact .yt _ _ rfl (by assumption) h1.1 h1.2
  ·rename_i x name hg
   obtain⟨h1,rfl⟩:=qbS hc
   simp only [Bool.and_eq_true]at h1
   exact .invoke _ _ _ rfl hg h1.1 h1.2
  ·rename_i b hb
   simp only at hb
   subst hb
   unfold qbh at hc
   obtain⟨h1,hc⟩:=qc1 hc
   split at hc
   ·rename_i hx
    split at hc<;>try (cases hc;done)
    rename_i ht
    replace hx:args.toList=_:=hx
    replace ht:ts.toList=_:=ht
    have e1:=qcY hx
    have e2:=qcY ht
    simp only [hx,List.all_cons,Bool.and_eq_true]at h1
    split at hc<;>try (cases hc;done)
    ·injection hc with hc;subst hc;cases hp
    ·injection hc with hc;subst hc;cases hp
    ·rename_i kt et hu1
     injection hc with hc;subst hc
     subst e1 e2
     exact .yE _ kt et _ rfl hu1 h1.1
   ·rename_i hx
    split at hc<;>try (cases hc;done)
    rename_i ht
    replace hx:args.toList=_:=hx
    replace ht:ts.toList=_:=ht
    have e1:=qcZ hx
    have e2:=qcZ ht
    simp only [hx,List.all_cons,Bool.and_eq_true]at h1
    split at hc<;>try (cases hc;done)
    rename_i e e' hu hu'
    split at hc<;>try (cases hc;done)
    rename_i i hi
    obtain⟨h3,rfl⟩:=qc0 hc
    subst e1 e2
    exact .append _ _ e e' _ _ i rfl hu hu' hi h3 h1.1 h1.2.1
   ·rename_i hx
    split at hc<;>try (cases hc;done)
    rename_i ht
    replace hx:args.toList=_:=hx
    replace ht:ts.toList=_:=ht
    have e1:=qcZ hx
    simp only [hx,List.all_cons,Bool.and_eq_true]at h1
    split at hc<;>try (cases hc;done)
    rename_i e hu
    obtain⟨n,hn,rfl⟩:=qc2 hc
    subst e1
    exact .copy _ e ts _ _ n rfl (by rw [<-Array.getElem?_toList,ht];rfl) hu hn h1.1 h1.2.1
   ·rename_i hx
    split at hc<;>try (cases hc;done)
    rename_i ht
    replace hx:args.toList=_:=hx
    replace ht:ts.toList=_:=ht
    have e1:=qcY hx
    have e2:=qcY ht
    simp only [hx,List.all_cons,Bool.and_eq_true]at h1
    split at hc<;>try (cases hc;done)
    rename_i e hu
    split at hc<;>try (cases hc;done)
    rename_i n z hn hz
    obtain⟨h3,rfl⟩:=qc0 hc
    subst e1 e2
    exact .clear _ e _ n z rfl hu hn hz h3 h1.1
   ·injection hc with hc;subst hc;cases hp
   ·injection hc with hc;subst hc;cases hp
   ·injection hc with hc;subst hc;cases hp
   ·injection hc with hc;subst hc;cases hp
   ·injection hc with hc;subst hc;cases hp
   ·rename_i hx
    split at hc<;>try (cases hc;done)
    rename_i ht
    replace hx:args.toList=_:=hx
    replace ht:ts.toList=_:=ht
    have e1:=qcZ hx
    simp only [hx,List.all_cons,Bool.and_eq_true]at h1
    split at hc<;>try (cases hc;done)
    rename_i kt et hu
    split at hc<;>try (cases hc;done)
    rename_i j hkt
    injection hc with hc;subst hc
    subst e1
    exact .yF _ kt et ts j _ _ rfl (by rw [<-Array.getElem?_toList,ht];rfl) hu hkt h1.1 h1.2.1
   ·cases hc
section
variable {P:Program}{LB:List Nat}{F:Emb}{f:Fr}{a:Act}{call:qaM}{lo:Nat}{h h':qab}{v:Value}{w:World}{B0:Nat}
variable {dst:Option Nat}{ty:TypeId}{pos:String}{after:Array Edge}{guard:Option (Nat×Bool)}
def Has (B0:Nat)(F:Emb)(h:qab)(w:World):Prop :=
 ∀i e k,F i=some e->h[i]? = some k->(∃x,e=some x/\k≠.dead/\BR B0 F w x k)\/(e=none/\k = .dead)
def Sim.has {w0:World}(s:Sim B0 w0 F h w):Has B0 F h w:=fun i e k he hk=>by
 rcases s.ent he with⟨x,k',h1,h2,h3,h4⟩|⟨h1,h2⟩
 ·rw [hk]at h2;injection h2 with h2;subst h2
  exact .inl ⟨x,h1,h3,h4⟩
 ·rw [hk]at h2;injection h2 with h2
  exact .inr ⟨h1,h2⟩
def qdd {t:TypeId}{n:Option Nat}(hn:tyN P t=some n){ad c:Addr}{e:Option Ent}(he:F ad.block=some e)(hc:∀x,e=some x->c=⟨x.b,x.base+ad.off,none⟩)
  (hh:Has B0 F h w) (hl:qau h n ad=some v):∃d,(loadVar t c).run P w = .ok d w/\VR F v d:=by
 have qac:∃cs,qac h ad.block=some cs:=by
  cases n with
  | none =>
    simp only [qau,ld1]at hl
    split at hl
    ·rename_i cs hcs;exact⟨cs,hcs⟩
    ·cases hl
  | some n =>
    simp only [qau,ldN]at hl
    split at hl
    ·rename_i l hl2
     split at hl2
     ·rename_i cs hcs;exact⟨cs,hcs⟩
     ·cases hl2
    ·cases hl
 obtain⟨cs,hcs⟩:=qac
 have hb:∃ro,h[ad.block]? = some (.row cs ro):=by
  unfold qac at hcs
  split at hcs
  ·rename_i cs' ro hb;injection hcs with hcs;subst hcs;exact⟨ro,hb⟩
  ·cases hcs
 obtain⟨ro,hb⟩:=hb
 rcases hh _ _ _ he hb with⟨x,rfl,hd,hbr⟩|⟨_,hk⟩
 ·obtain⟨C,ct,fz,h1,h2,h3,h4,h5⟩:=hbr
  have e1:=hc x rfl
  subst e1
  have hag:=qbL hn w
  cases n with
  | none =>
    simp only [qau,ld1,hcs]at hl
    obtain⟨d,h6,h7⟩:=h4.get hl
    refine⟨d, ?_,h7⟩
    have hlt:ad.off<cs.length:=(zzS.1 hl).1
    rw [qc6 _ _ _ _ hlt]at h6
    have:w.cell? ⟨x.b,x.base+ad.off,none⟩=some d:=by rw [qc4 h1];simpa using h6
    simp [loadVar,hag,this]
  | some n =>
    simp only [qau,ldN,hcs]at hl
    split at hl<;>try (cases hl;done)
    rename_i l hl2
    obtain⟨hle,rfl⟩:=qc0 hl2
    injection hl with hl
    subst hl
    have hr:=qc5 (P:=P) h1 (o:=x.base+ad.off) (n:=n) (by omega)
    refine⟨.agg (((C.toList.drop (x.base+ad.off)).take n).toArray), ?_,.agg _ _ ?_⟩
    ·simp [loadVar,hag,qbG (qbM hn),hr]
    ·simp only [List.toList_toArray]
     have:=(h4.drop ad.off).take n
     rwa [qc7 _ _ _ _ _ hle]at this
 ·cases hk
def qde {k:IntKind}{n:Int}{d:TypeDesc}(hd:∃j,d = .int j):∀{es:List (Value×Value)} {xs:List MapEntry} {r:Option Value},MR F es xs->qaF (.int k n) es=some r->
  ∀i,∃q,Instr.findNow d (.int k n) xs i=some q/\(match r,q with|none,none=>True|some u,some (j,c)=>VR F u c/\i<=j/\(∃x,xs[j-i]? = some x/\x.key = .int k n)|_,_=>False)
 | _,_,r,.nil,hg,i=>by
   simp [qaF]at hg;subst hg
   exact⟨none,rfl,trivial⟩
 | _,_,r,.cons k' n' u x es xs hk hv hs,hg,i=>by
   obtain⟨j,rfl⟩:=hd
   simp only [qaF,eq1]at hg
   by_cases hkk:k=k'
   ·subst hkk
    by_cases hn:n=n'
    ·subst hn
     simp at hg
     subst hg
     refine⟨some (i,x.val),by simp [Instr.findNow,hk,Instr.sameNow],hv,zzR _,x,by simp,hk⟩
    ·have:(n==n')=false:=by simpa using hn
     simp [this]at hg
     obtain⟨q,h1,h2⟩:=qde ⟨j,rfl⟩ hs hg (i+1)
     refine⟨q,by simp [Instr.findNow,hk,Instr.sameNow,this,h1], ?_⟩
     cases r with
     | none=>cases q with
       | none=>trivial
       | some q=>exact h2
     | some u =>
       cases q with
       | none=>exact h2
       | some q =>
         obtain⟨h3,h4,y,h5,h6⟩:=h2
         refine⟨h3,by omega,y, ?_,h6⟩
         rw [show q.1-i=(q.1-(i+1))+1 from by omega,List.getElem?_cons_succ]
         exact h5
   ·simp [hkk]at hg
def qdf {t:TypeId}{j:IntKind}(ht:P.underlying t=some (.int j))(b:Bool)(k:IntKind)(n:Int)(m:Nat):(Instr.checkKey b (m+1) t (.int k n)).run P w = .ok () w:=by
 simp [Instr.checkKey,run_underlying ht]
def qdg {v:Value}(h:qaI v=true):∃k n,v = .int k n:=by
 cases v<;>simp [qaI]at h
 exact⟨_,_,rfl⟩
def qdh {es:List (Value×Value)}{r:Nat}(hes:hmap h r=some es):h[r]? = some (.map es):=by
 unfold Ir.hmap at hes
 split at hes
 ·rename_i es' hb;injection hes with hes;subst hes;exact hb
 ·cases hes
def Has.map {r:Nat}{e:Option Ent}{es:List (Value×Value)}(hh:Has B0 F h w)(he:F r=some e)(hes:h[r]? = some (.map es)) :
  ∃x M clk,e=some x/\w.heap[x.b]? = some (.map M clk)/\MR F es M.toList/\B0<=x.b:=by
 rcases hh _ _ _ he hes with⟨x,rfl,hd,hbr⟩|⟨_,hk⟩
 ·obtain⟨M,clk,hM,hmr,hB⟩:=hbr
  exact⟨x,M,clk,rfl,hM,hmr,hB⟩
 ·cases hk
def qdi {b:Nat}{M:Array MapEntry}{clk:Nat}(hM:w.heap[b]? = some (.map M clk)):(getObj b).run P w = .ok (.map M clk) w:=by
 simp [getObj,Sem.run,hM]
def MR.length:∀{es:List (Value×Value)} {xs:List MapEntry},MR F es xs->es.length=xs.length
 | _,_,.nil=>rfl
 | _,_,.cons _ _ _ _ _ _ _ _ hs=>by simp [hs.length]
def qdj {ops:List Oper}{o:Oper}{io:IOp}(hc:NP P LB ops o io)(hp:qbm io=true)(hop:qbQ LB F f a o)(hh:Has B0 F h w)
  (hv:yf call lo io f h=some (v,h')):h'=h/\∃c,(execOp a.eval o).run P w = .ok (.value c) w/\VR F v c:=by
 obtain⟨dst,op,ty,pos,after,guard⟩:=o
 cases hc<;>simp [qbm]at hp
 case load t x n ho hn h1 =>
  simp only at ho
  subst ho
  simp only [yf]at hv
  split at hv<;>try (cases hv;done)
  rename_i ad hu
  split at hv<;>try (cases hv;done)
  rename_i u hl
  injection hv with hv
  injection hv with e1 e2
  subst e1 e2
  have hxv:=hop x (by simp [Op.operands]) h1 _ hu
  generalize hce:a.eval x=cv at hxv
  cases hxv with
  | ptr _ c e hsp he hcc =>
    obtain⟨d,h2,h3⟩:=qdd hn he hcc hh hl
    exact⟨rfl,d,by simp [execOp,hce,Instr.loadAt,Instr.sureAddr,h2],h3⟩
 case lookup t kt et j m k ok z ho hmp hkt hz h1 h2 =>
  simp only at ho
  subst ho
  obtain⟨hz1,hz2,hz3⟩:=qbJ hz
  simp only [yf]at hv
  split at hv<;>try (cases hv;done)
  rename_i r kv hu hu'
  obtain⟨hki,hv⟩:=qc1 hv
  obtain⟨kk,kn,rfl⟩:=qdg hki
  have hkv:=(hop k (by simp [Op.operands]) h2 _ hu').yg rfl
  have hmv:=hop m (by simp [Op.operands]) h1 _ hu
  generalize hme:a.eval m=mv at hmv
  have hz4:VR F z z:=VR.flat hz2
  cases hmv with
  | y9 =>
    simp only [qaF]at hv
    injection hv with hv
    injection hv with e1 e2
    subst e1 e2
    refine⟨rfl,if ok then .tuple #[z,.bool false]else z, ?_, ?_⟩
    ·simp only [execOp,hme,hkv,Instr.lookup,Sem.run_bind,run_underlying hmp,Result.andThen_ok,Sem.run_pure]
     rw [qdf hkt _ _ _ 9999]
     simp [Instr.findKey,run_underlying hkt,Instr.findNow,qbI hz1]
    ·cases ok
     ·exact hz4
     ·exact .tuple _ _ (by simpa using VRs.cons _ _ _ _ hz4 (.cons _ _ _ _ (.bool _) .nil))
  | map r c e he hcc =>
    simp only at hv
    split at hv<;>try (cases hv;done)
    rename_i es hes
    obtain⟨x,M,clk,rfl,hM,hmr,_⟩:=hh.map he (qdh hes)
    ·have e1:=hcc x rfl
     subst e1
     have hget:=qdi (P:=P) hM
     have run:∀q:Option (Nat×Value),Instr.findNow (.int j) (.int kk kn) M.toList 0=some q->
       (execOp a.eval ⟨dst,.lookup t m k ok,ty,pos,after,guard⟩).run P w =
         .ok (.value (match q with|some (_,u)=>if ok then .tuple #[u,.bool true]else u|none=>if ok then .tuple #[z,.bool false]else z)) w:=by
      intro q hq
      simp only [execOp,hme,hkv,Instr.lookup,Sem.run_bind,run_underlying hmp,Result.andThen_ok,hget,Sem.run_pure]
      rw [qdf hkt _ _ _ 9999]
      simp only [Instr.findKey,Sem.run_bind,run_underlying hkt,Result.andThen_ok,hq,Sem.run_pure]
      cases q with
      | none=>simp [qbI hz1]
      | some q=>simp
     split at hv
     ·cases hv
     ·rename_i hg
      obtain⟨q,h4,h3⟩:=qde ⟨j,rfl⟩ hmr hg 0
      injection hv with hv
      injection hv with e1 e2
      subst e1 e2
      cases q with
      | none =>
        refine⟨rfl,_,run none h4, ?_⟩
        cases ok
        ·exact hz4
        ·exact .tuple _ _ (by simpa using VRs.cons _ _ _ _ hz4 (.cons _ _ _ _ (.bool _) .nil))
      | some q=>exact h3.elim
     ·rename_i u hg
      obtain⟨q,h4,h3⟩:=qde ⟨j,rfl⟩ hmr hg 0
      injection hv with hv
      injection hv with e1 e2
      subst e1 e2
      cases q with
      | none=>exact h3.elim
      | some q =>
        refine⟨rfl,_,run _ h4, ?_⟩
        cases ok
        ·exact h3.1
        ·exact .tuple _ _ (by simpa using VRs.cons _ _ _ _ h3.1 (.cons _ _ _ _ (.bool _) .nil))
 case yE t kt et x ho hu1 h1 =>
  simp only at ho
  subst ho
  simp only [yf]at hv
  split at hv<;>try (cases hv;done)
  rename_i r hu
  split at hv<;>try (cases hv;done)
  rename_i es hes
  injection hv with hv
  injection hv with e1 e2
  subst e1 e2
  obtain⟨cs,hcs⟩:=qcO (P:=P) (a:=a) (dst:=dst) (ty:=ty) (pos:=pos) (after:=after) (guard:=guard) (b := .len) (args := #[x]) (ts := #[t])
  refine⟨rfl,.int .i64 es.length, ?_,.int _ _⟩
  rw [hcs]
  have hmv:=hop x (by simp [Op.operands,Call.operands]) h1 _ hu
  generalize hme:a.eval x=mv at hmv
  cases hmv with
  | y9 =>
    simp only at hes
    injection hes with hes
    subst hes
    simp [builtin,Builtin.len_,hme,run_underlying hu1,goInt]
  | map r c e he hcc =>
    simp only at hes
    obtain⟨x,M,clk,rfl,hM,hmr,_⟩:=hh.map he (qdh hes)
    have e1:=hcc x rfl
    subst e1
    have:=hmr.length
    simp at this
    simp [builtin,Builtin.len_,hme,run_underlying hu1,qdi (P:=P) hM,goInt,this]
end
def qdk {xs:Array Value}(h:xs.toList.all yl=true)(i:Nat):yl xs[i]! = true:=by
 rcases Nat.lt_or_ge i xs.size with hi|hi
 ·rw [getElem!_pos xs i hi]
  exact List.all_eq_true.1 h _ (by simp)
 ·rw [getElem!_neg xs i (by omega)]
  rfl
def qdl {z:Value}(h:(qaf z).all yl=true)(n:Nat):(qbe z n).all yl=true:=by
 rw [qbK]at h
 simp only [qbe,List.all_map,List.all_eq_true,Function.comp]
 intro i _
 exact qdk h _
def qdm {α:Type}[Inhabited α](z:Array α)(hz:0<z.size):∀n,((List.range (n*z.size)).map fun i=>z[i%z.size]!)=(List.replicate n z.toList).flatten
 | 0=>by simp
 | n+1=>by
   rw [show(n+1)*z.size=z.size+n*z.size from by rw [Nat.add_mul];omega,List.range_add,List.map_append,List.map_map]
   rw [List.replicate_succ,List.flatten_cons]
   congr 1
   ·apply List.ext_getElem
    ·simp
    ·intro i h1 h2
     simp at h1 h2
     simp [Nat.mod_eq_of_lt h1,getElem!_pos z i h1]
   ·rw [<-qdm z hz n]
    apply List.map_congr_left
    intro i _
    simp
def qdn (z:List Value):∀n,qaL z n=(List.replicate n z).flatten
 | 0=>by simp [qaL]
 | n+1=>by simp [qaL,List.replicate_succ,qdn z n]
def qdo {z:List Value}(h:z.all yl=true):∀n,(qaL z n).all yl=true
 | 0=>rfl
 | n+1=>by simp only [qaL,List.all_append,Bool.and_eq_true];exact⟨h,qdo h n⟩
section
variable {P:Program}{LB:List Nat}{F:Emb}{f:Fr}{a:Act}{call:qaM}{lo:Nat}{h h':qab}{v:Value}{w:World}{B0:Nat}
def Made (P:Program)(B0:Nat)(a:Act)(o:Oper)(F:Emb)(h h':qab)(v:Value)(w:World):Prop :=
 ∃blk c obj x,h'=h ++ [blk]/\blk≠.dead/\(execOp a.eval o).run P w = .ok (.value c) (w.alloc obj)/\x.b=w.heap.size/\(∀F',F.le F'->BR B0 F' (w.alloc obj) x blk)/\
  ∀F':Emb,F' h.length=some (some x)->VR F' v c
def qdp (w:World)(obj:Obj):(w.alloc obj).heap[w.heap.size]? = some obj:=by
 show(w.heap.push obj)[w.heap.size]? = some obj
 simp
def qdq {C:Array Value}{t:TypeId}{cs:List Value}(hB:B0<=w.heap.size)(hr:VRs F cs C.toList)(ho:cs.all qad=true){F':Emb}(hF:F.le F') :
  BR B0 F' (w.alloc (.cells C t)) ⟨w.heap.size,0,C.size⟩ (.row cs false):=by
 have hl:=hr.length
 simp at hl
 refine⟨C,t,(0,0),qdp w _,rfl,by simp;omega, ?_,fun _=>⟨hB,rfl⟩,ho⟩
 simp only [List.drop_zero]
 rw [List.take_of_length_le (by simp;omega)]
 exact hr.mono hF
def qdr {ops:List Oper}{o:Oper}{io:IOp}(hc:NP P LB ops o io)(hp:qbl io=true)(hop:qbQ LB F f a o)(hB:B0<=w.heap.size)
  (hv:yf call lo io f h=some (v,h')):Made P B0 a o F h h' v w:=by
 obtain⟨dst,op,ty,pos,after,guard⟩:=o
 cases hc<;>simp [qbl]at hp
 case waJ t z d ho hz hd =>
  simp only at ho
  subst ho
  obtain⟨hz1,hz2,hz3⟩:=qbJ hz
  simp only [yf,ev]at hv
  obtain⟨hone,hv⟩:=qc0 hv
  injection hv with e1 e2
  subst e1 e2
  refine⟨_,.pointer (some ⟨w.heap.size,0,none⟩),.cells z.cells t,⟨w.heap.size,0,z.cells.size⟩,rfl,by simp, ?_,rfl,fun F' hF=>qdq hB (by rw [qbK]at hz3|-;exact VRs.flat hz3) hone hF,fun F' hF => .ptr _ _ _ rfl hF (fun x hx=>by injection hx with hx;subst hx;rfl)⟩
  simp [execOp,Instr.alloc,qbI hz1,newVar,newRow]
 case boxH t x d ho hx hd =>
  simp only at ho
  subst ho
  simp only [yf]at hv
  split at hv<;>try (cases hv;done)
  rename_i u hu
  obtain⟨hone,hv⟩:=qc0 hv
  injection hv with e1 e2
  subst e1 e2
  have hxv:=hop x (by simp [Op.operands]) hx _ hu
  refine⟨_,.pointer (some ⟨w.heap.size,0,none⟩),.cells (a.eval x).cells t,⟨w.heap.size,0,(a.eval x).cells.size⟩,rfl,by simp, ?_,rfl,fun F' hF=>qdq hB hxv.cells hone hF,fun F' hF => .ptr _ _ _ rfl hF (fun x hx=>by injection hx with hx;subst hx;rfl)⟩
  simp [execOp,Instr.box,newVar,newRow]
 case buildSlice t e n len z parts ho hu hn hz hl hx =>
  simp only at ho
  subst ho
  obtain⟨hz1,hz2,hz3⟩:=qbJ hz
  simp only [yf]at hv
  split at hv<;>try (cases hv;done)
  rename_i us hus
  split at hv<;>try (cases hv;done)
  rename_i cs hcs
  obtain⟨hone,hv⟩:=qc0 hv
  injection hv with e1 e2
  subst e1 e2
  have hpr:=qbU (a:=a) (xs:=parts.toList.map fun(i,x)=>(i*n,n,x)) (LB:=LB) (F:=F) (by simpa [List.all_map,Function.comp]using hx) (fun p hp=>hop p.2.2 (by
   simp at hp
   obtain⟨i,x,hm,rfl⟩:=hp
   simp [Op.operands]
   exact⟨i,hm⟩)) hus
  have qac:VRs F (if len*n=0 then []else qbe z (len*n)) ((Array.range (len*n)).map fun i=>(if len*n=0 then #[]else z.cells)[i%(if len*n=0 then #[]else z.cells).size]!).toList:=by
   by_cases h0:len*n=0
   ·simp [h0];exact .nil
   ·simp only [h0,if_false]
    have:((Array.range (len*n)).map fun i=>z.cells[i%z.cells.size]!).toList=qbe z (len*n):=by
     simp [qbe,Array.toList_range]
    rw [this]
    exact VRs.flat (qdl hz3 _)
  have hps:∀(j i:Nat) (x:Operand),parts.toList[j]? = some (i,x)->(parts.toList.map fun(i,x)=>(i*n,n,x))[j]? = some (i*n,n,x):=fun j i x hj=>by simp [hj]
  obtain⟨cs',h5,h6⟩:=qbX (place:=fun i=>some (i*n,n)) (ix:=parts.toList.map (·.1)) hpr (by simp) (fun j i d hi hd=>by
   simp only [List.getElem?_map]at hi hd
   cases hpj:parts.toList[j]? with
   | none=>simp [hpj]at hi
   | some p =>
     obtain⟨i',x⟩:=p
     simp [hpj]at hi
     subst hi
     simp [hpj]at hd
     subst hd
     rfl) qac hcs
  rw [qcq (by simp) (fun j i x hj=>⟨_,_,hps j i x hj⟩)]at h5
  have hl6:=h6.length
  refine⟨_,.slice (some ⟨w.heap.size,0,none⟩) len len,.cells cs' e,⟨w.heap.size,0,cs'.size⟩,rfl,by simp, ?_,rfl,fun F' hF=>qdq hB h6 hone hF,fun F' hF => .slice _ _ _ _ _ rfl hF (zzR _) (fun x hx _=>by injection hx with hx;subst hx;rfl)⟩
  have hle:¬len*n > 2 ^ 24:=by
   have:(2:Nat) ^ 20=1048576:=rfl
   have:(2:Nat) ^ 24=16777216:=rfl
   omega
  have h5':Instr.fill (fun i=>some (i*n,n)) ((Array.range (len*n)).map fun i=>(if len*n=0 then #[]else z.cells)[i%(if len*n=0 then #[]else z.cells).size]!) (parts.map fun x=>(x.1,a.eval x.2)).toList=some cs':=by
   rw [Array.toList_map];exact h5
  simp only [execOp,Instr.buildSlice,Sem.run_bind,run_underlying hu,Result.andThen_ok,qbG hn,hle,if_false]
  by_cases h0:len*n=0
  ·simp only [h0,if_true]at h5'|-
   simp at h5'
   simp [newRow,h5']
  ·simp only [h0,if_false]at h5'|-
   simp only [Sem.run_bind,qbI hz1,Sem.run_pure,Result.andThen_ok,h5']
   simp [newRow]
 case yK t r ho hr =>
  simp only at ho
  subst ho
  simp only [yf]at hv
  injection hv with hv
  injection hv with e1 e2
  subst e1 e2
  refine⟨.map [],.map (some w.heap.size),.map #[] 0,⟨w.heap.size,0,0⟩,rfl,by simp, ?_,rfl,fun F' hF=>⟨#[],0,qdp w _,.nil,hB⟩,fun F' hF => .map _ _ _ hF (fun x hx=>by injection hx with hx;subst hx;rfl)⟩
  rcases hr with rfl|⟨⟨k,n,rfl⟩,e,e',hu⟩
  ·simp [execOp,Instr.makeMap]
  ·simp [execOp,Instr.makeMap,run_underlying hu,Act.eval,asInt,asIntOf]
 case yA t e n c i z ho hu hi hz hl hn hcc =>
  simp only at ho
  subst ho
  obtain⟨hz1,hz2,hz3⟩:=qbJ hz
  simp only [yf]at hv
  split at hv<;>try (cases hv;done)
  rename_i n' c' hn' hc'
  obtain⟨hb,hv⟩:=qc0 hv
  injection hv with e1 e2
  subst e1 e2
  have e1:=(hop n (by simp [Op.operands]) hn _ hn').yg rfl
  have e2:=(hop c (by simp [Op.operands]) hcc _ hc').yg rfl
  obtain⟨b1,b2,b3,b4⟩:=hb
  have p30:(2:Int) ^ 30=1073741824:=by decide
  have p12:(2:Nat) ^ 12=4096:=rfl
  rw [p30]at b3
  rw [p12]at b4
  have w1:IntKind.i64.wrap n'=n':=IntWalk.i64_in _ (by omega)
  have w2:IntKind.i64.wrap c'=c':=IntWalk.i64_in _ (by omega)
  have hbig:¬((i.bytes:Int)*c' > 2 ^ 48):=by
   have h1:(i.bytes:Int)*c'<=4096*1073741824:=Int.mul_le_mul (by omega) b3 (by omega) (by omega)
   have:(2:Int) ^ 48=281474976710656:=by decide
   rw [this]
   omega
  have hcells:((Array.range (c'.toNat*i.size)).map fun j=>(if c'.toNat*i.size=0 then #[]else z.cells)[j%(if c'.toNat*i.size=0 then #[]else z.cells).size]!).toList=qaL (qaf z) c'.toNat:=by
   have hzs:z.cells.size=i.size:=by rw [<-hl,qbK];simp
   by_cases h0:c'.toNat*i.size=0
   ·simp only [h0,if_true]
    simp
    rcases Nat.mul_eq_zero.1 h0 with h1|h1
    ·rw [h1];rfl
    ·rw [qdn]
     have:qaf z = []:=List.length_eq_zero_iff.1 (by rw [hl];exact h1)
     simp [this]
   ·simp only [h0,if_false]
    have hpos:0<z.cells.size:=by
     rcases Nat.eq_zero_or_pos z.cells.size with h1|h1
     ·exact absurd (by rw [<-hzs,h1,Nat.mul_zero]) h0
     ·exact h1
    rw [Array.toList_map,Array.toList_range,<-hzs,qdm z.cells hpos,qdn,qbK]
  refine⟨_,.slice (some ⟨w.heap.size,0,none⟩) n'.toNat c'.toNat,.cells ((Array.range (c'.toNat*i.size)).map fun j=>(if c'.toNat*i.size=0 then #[]else z.cells)[j%(if c'.toNat*i.size=0 then #[]else z.cells).size]!) e,⟨w.heap.size,0,_⟩,rfl,by simp, ?_,rfl,
   fun F' hF=>qdq hB (by rw [hcells];exact VRs.flat (qdo hz3 _)) (qa1 (qdo hz3 _)) hF,fun F' hF => .slice _ _ _ _ _ rfl hF (by omega) (fun x hx _=>by injection hx with hx;subst hx;rfl)⟩
  simp only [execOp,e1,e2,Instr.makeSlice,Sem.run_bind,run_underlying hu,Result.andThen_ok,asInt,asIntOf,Sem.run_pure,run_typeInfo (w:=w) hi,w1,w2]
  have c1:¬((decide (c'<0)||decide ((i.bytes:Int)*c' > 2 ^ 48))=true\/n'<0\/n' > c'):=by
   simp only [Bool.or_eq_true,decide_eq_true_eq,not_or]
   exact⟨⟨by omega,hbig⟩,by omega,by omega⟩
  have c2:(decide (c'<0)||decide ((i.bytes:Int)*c' > 2 ^ 48)||decide (n'<0)||decide (n' > c'))=false:=by
   simp only [Bool.or_eq_false_iff,decide_eq_false_iff_not]
   exact⟨⟨⟨by omega,hbig⟩,by omega⟩,by omega⟩
  simp only [c2,Bool.false_eq_true,if_false,Sem.run_bind,run_askRoom,Result.andThen_ok,qbH hi]
  by_cases h0:c'.toNat*i.size=0
  ·simp [h0,newRow]
  ·simp [h0,qbI hz1,newRow]
end
section
variable {P:Program}{LB:List Nat}{E:Emb}{f:Fr}{a:Act}{call:qaM}{lo:Nat}{h h':qab}{v:Value}{w w0:World}{B0:Nat}
def qds (P:Program)(B0:Nat)(w0:World)(a:Act)(o:Oper)(E:Emb)(w:World)(h':qab)(v:Value):Prop :=
 ∃c w' E',((execOp a.eval o).run P w = .ok (.value c) w'\/((execOp a.eval o).run P w = .ok .skip w'/\c=undef))/\Sim B0 w0 E' h' w'/\Later E w E' w'/\VR E' v c
def qdt (s:Sim B0 w0 E h w){ad c:Addr}{e:Option Ent}{vs ds:List Value}(he:E ad.block=some e)(hc:∀x,e=some x->c=⟨x.b,x.base+ad.off,none⟩)
  (hv:VRs E vs ds) (h1:vs.all qad=true) (hst:stN lo h ad vs=some h'):∃w',(storeCells c ds).run P w = .ok () w'/\Sim B0 w0 E h' w'/\Later E w E w':=by
 unfold stN at hst
 split at hst<;>try (cases hst;done)
 rename_i cs ro hb
 obtain⟨_,hst⟩:=qc1 hst
 obtain⟨hro,hst⟩:=qc1 hst
 obtain⟨hl,rfl⟩:=qc0 hst
 subst hro
 rcases s.ent he with⟨x,k,rfl,hk,hd,hbr⟩|⟨_,hk⟩
 ·rw [hb]at hk
  injection hk with hk
  subst hk
  obtain⟨C,t,fz,h2,h3,h4,h5,h6,h7⟩:=hbr
  obtain⟨hB,rfl⟩:=h6 rfl
  have e1:=hc x rfl
  subst e1
  have hlen:=hv.length
  have hrun:=run_storeCells_at (P:=P) x.b (x.base+ad.off) t ds 0 C w h2 (by omega) (hv.one h1)
  obtain⟨g1,g2⟩:=s.write hb he h2 h3 h4 hB h5 h7 hv h1 hl
  refine⟨_, ?_,g1,g2⟩
  rw [hrun]
  simp only [Nat.add_zero,splice]
 ·rw [hb]at hk;cases hk
def qdu {F:Emb}(hh:Has B0 F h w){esz n m:Nat}{y y':Value}{l:List Value}(hy:VR F y y')(hl:qaB y=some m)(hn:n<=m)(hs:qaC h esz n y=some l) :
  ∃ds:Array Value,(∀w':World,w'.heap=w.heap->(Builtin.firstCells esz n y').run P w' = .ok ds w')/\VRs F l ds.toList/\l.length=n*esz/\l.all qad=true:=by
 unfold qaC at hs
 split at hs
 ·injection hs with hs;subst hs
  cases hy
  simp [qaB]at hl
  subst hl
  have:n=0:=by omega
  subst this
  exact⟨#[],fun w' _=>by simp [Builtin.firstCells],.nil,by simp,rfl⟩
 ·rename_i ad len cap
  simp [qaB]at hl
  subst hl
  split at hs
  ·rename_i h0
   injection hs with hs;subst hs h0
   cases hy<;>exact⟨#[],fun w' _=>by simp [Builtin.firstCells,loadCells,loadCellsFrom],.nil,by simp,rfl⟩
  ·rename_i h0
   have key:∀(c:Addr) (e:Option Ent),F ad.block=some e->(∀x,e=some x->c=⟨x.b,x.base+ad.off,none⟩)->
     ∃ds:Array Value,(∀w':World,w'.heap=w.heap->(loadCells c (n*esz)).run P w' = .ok ds w')/\VRs F l ds.toList/\l.length=n*esz/\l.all qad=true:=by
    intro c e he hc
    unfold ldN at hs
    split at hs<;>try (cases hs;done)
    rename_i cs hcs
    obtain⟨hle,rfl⟩:=qc0 hs
    have hb:∃ro,h[ad.block]? = some (.row cs ro):=by
     unfold qac at hcs
     split at hcs
     ·rename_i cs' ro hb;injection hcs with hcs;subst hcs;exact⟨ro,hb⟩
     ·cases hcs
    obtain⟨ro,hb⟩:=hb
    rcases hh _ _ _ he hb with⟨x,rfl,hd,hbr⟩|⟨_,hk⟩
    ·obtain⟨C,ct,fz,h1,h2,h3,h4,h5,h6⟩:=hbr
     have e1:=hc x rfl
     subst e1
     refine⟨_,fun w' hw'=>qc5 (P:=P) (w:=w') (by rw [hw'];exact h1) (o:=x.base+ad.off) (n:=n*esz) (by omega), ?_,by simp;omega, ?_⟩
     ·simp only [List.toList_toArray]
      have:=(h4.drop ad.off).take (n*esz)
      rwa [qc7 _ _ _ _ _ hle]at this
     ·simp only [List.all_eq_true]at h6|-
      exact fun v hv=>h6 v (List.mem_of_mem_drop (List.mem_of_mem_take hv))
    ·cases hk
   cases hy with
   | slice _ c _ _ e hsp he hnc hc =>
     obtain⟨ds,h1,h2⟩:=key c e he (fun x hx=>hc x hx (by omega))
     exact⟨ds,fun w' hw'=>by simp [Builtin.firstCells,h1 w' hw'],h2⟩
   | loose _ c _ _ cap' e hsp he hnc hc =>
     obtain⟨ds,h1,h2⟩:=key c e he (fun x hx=>by
      obtain⟨r1,r2,r3,r4⟩:=hc x hx
      have r5:=r3 (by omega)
      obtain⟨cb,co,cs⟩:=c
      simp only at r1 r2 r5
      subst r1 r2 r5
      rfl)
     exact⟨ds,fun w' hw'=>by simp [Builtin.firstCells,h1 w' hw'],h2⟩
 ·cases hs
def qdv {F:Emb}{y y':Value}{n:Nat}(hy:VR F y y')(hl:qaB y=some n)(hs:∀s,y≠.string s):∃b c,y' = .slice b n c:=by
 cases hy<;>simp [qaB]at hl
 case string s=>exact absurd rfl (hs s)
 case yB=>subst hl;exact⟨_,_,rfl⟩
 case slice=>subst hl;exact⟨_,_,rfl⟩
 case loose=>subst hl;exact⟨_,_,rfl⟩
def qdw {esz n:Nat}{y:Value}{l:List Value}(hs:qaC h esz n y=some l):∀s,y≠.string s:=by
 rintro s rfl
 simp [qaC]at hs
def qdx (L:Nat):∀(r c:Nat),Builtin.growBy L r c<=Nat.max c (L+(L+768)/4)
 | 0,c=>by simp only [Builtin.growBy];exact Nat.le_max_left _ _
 | r+1,c=>by
   simp only [Builtin.growBy]
   split
   ·exact Nat.le_max_left _ _
   ·have:=qdx L r (c+(c+768)/4)
    have h1:c+(c+768)/4<=L+(L+768)/4:=by omega
    have h2:Nat.max (c+(c+768)/4) (L+(L+768)/4)=L+(L+768)/4:=Nat.max_eq_right h1
    rw [h2]at this
    exact Nat.le_trans this (Nat.le_max_right _ _)
def qdy (need cap:Nat)(h:cap<need):Builtin.nextslicecap need cap<=2*need+512:=by
 unfold Builtin.nextslicecap
 split
 ·omega
 ·split
  ·omega
  ·have:=qdx need 4 cap
   have h2:Nat.max cap (need+(need+768)/4)=need+(need+768)/4:=Nat.max_eq_right (by omega)
   rw [h2]at this
   omega
def qdz {need sc bytes:Nat}(hr:sc<need)(h:(need<=2 ^ 30/\bytes<=2 ^ 12)\/(sc=0/\need*bytes<=2 ^ 47/\need<=2 ^ 47)):Builtin.nextslicecap need sc*bytes<=2 ^ 48/\need<=2 ^ 62:=by
 rcases h with⟨h1,h2⟩|⟨h0,h1,h2⟩
 ·have h3:=qdy need sc hr
  have h4:Builtin.nextslicecap need sc*bytes<=(2*need+512)*4096:=Nat.mul_le_mul h3 (by omega)
  omega
 ·subst h0
  have:Builtin.nextslicecap need 0=need:=by
   unfold Builtin.nextslicecap
   rw [if_pos (by omega)]
  rw [this]
  omega
def qdA {t u e e':TypeId}{i:TypeInfo}{b b':Option Addr}{sl sc n c':Nat}(hu:P.underlying t=some (.slice e))(hu':P.underlying u=some (.slice e'))
  (hi:P.info? e=some i) {z:Value} (hz:qa5 P e=some z) (hroom:sc<sl+n) (hcp:Builtin.nextslicecap (sl+n) sc*i.bytes<=2 ^ 48/\sl+n<=2 ^ 62) {old new:Array Value} {ty:TypeId}
  (ho:∀w':World,w'.heap=w.heap->(Builtin.firstCells i.size sl (.slice b sl sc)).run P w' = .ok old w') (hn:∀w':World,w'.heap=w.heap->(Builtin.firstCells i.size n (.slice b' n c')).run P w' = .ok new w') :
  ∃(newCap:Nat) (rest:Array Value),sl+n<=newCap/\rest.size=(newCap-(sl+n))*z.cells.size/\
   (Builtin.append_ #[t,u] ty #[.slice b sl sc,.slice b' n c']).run P w =
     .ok (.slice (some ⟨w.heap.size,0,none⟩) (sl+n) newCap) ((w.drew).alloc (.cells (old++new++rest) e)):=by
 have p48:(2:Nat) ^ 48=281474976710656:=rfl
 have hcap:¬Builtin.nextslicecap (sl+n) sc*i.bytes > 2 ^ 48:=by have:=hcp.1;omega
 have hmax:¬(((sl+n:Nat):Int) > IntKind.i64.max/\(False\/i.bytes=0)):=by
  have:IntKind.i64.max=9223372036854775807:=by simp [IntKind.max,IntKind.signed,IntKind.bits]
  rw [this]
  have:=hcp.2
  rintro ⟨h,_⟩
  omega
 refine⟨(Question.appendCap (sl+n) sc e).cut (w.tape w.drawn (.appendCap (sl+n) sc e)),Builtin.zeroCells z.cells ((Question.appendCap (sl+n) sc e).cut (w.tape w.drawn (.appendCap (sl+n) sc e))-(sl+n)), ?_, ?_, ?_⟩
 ·simp [Question.cut]
 ·simp [Builtin.zeroCells]
 ·have a0:(#[t,u]:Array TypeId)[0]? = some t:=rfl
  have a1:(#[t,u]:Array TypeId)[1]? = some u:=rfl
  have a2:(#[.slice b sl sc,.slice b' n c']:Array Value)[0]? = some (.slice b sl sc):=rfl
  have a3:(#[.slice b sl sc,.slice b' n c']:Array Value)[1]? = some (.slice b' n c'):=rfl
  have q1:(sl+n<=sc)=False:=by simp;omega
  have q2:(((sl+n:Nat):Int) > IntKind.i64.max/\(False\/i.bytes=0))=False:=by simpa using hmax
  have q3:(Builtin.nextslicecap (sl+n) sc*i.bytes > 2 ^ 48)=False:=by simpa using hcap
  have rt:∀w',(typeInfo e).run P w' = .ok i w':=fun w'=>run_typeInfo (w:=w') hi
  simp only [Builtin.append_,a0,a1,a2,a3]
  simp only [Sem.run_bind,run_underlying hu,Result.andThen_ok,qbH hi,run_underlying hu',Sem.run_pure,Builtin.lenOf,Sem.run_ite,Bool.false_eq_true,if_false,q1,rt,q2,q3,run_choose,Question.forced,World.drew_eq,run_askRoom,
   ho w.drew rfl,hn w.drew rfl,Bool.not_false,if_true,qbI hz,newRow,run_newObj]
  rfl
def qdB {t u e e':TypeId}{i:TypeInfo}{b b':Option Addr}{sl sc n c':Nat}(hu:P.underlying t=some (.slice e))(hu':P.underlying u=some (.slice e'))
  (hi:P.info? e=some i) (hroom:sl+n<=sc) {new:Array Value} {ty:TypeId}
  (hn:(Builtin.firstCells i.size n (.slice b' n c')).run P w = .ok new w) :
  (Builtin.append_ #[t,u] ty #[.slice b sl sc,.slice b' n c']).run P w =
    (match b with|none => .ok (.slice b (sl+n) sc) w|some ad=>((storeCells (ad.add (sl*i.size)) new.toList).run P w).andThen fun _ w' => .ok (.slice b (sl+n) sc) w'):=by
 have a0:(#[t,u]:Array TypeId)[0]? = some t:=rfl
 have a1:(#[t,u]:Array TypeId)[1]? = some u:=rfl
 have a2:(#[.slice b sl sc,.slice b' n c']:Array Value)[0]? = some (.slice b sl sc):=rfl
 have a3:(#[.slice b sl sc,.slice b' n c']:Array Value)[1]? = some (.slice b' n c'):=rfl
 have q1:(sl+n<=sc)=True:=by simp [hroom]
 simp only [Builtin.append_,a0,a1,a2,a3]
 simp only [Sem.run_bind,run_underlying hu,Result.andThen_ok,qbH hi,run_underlying hu',Sem.run_pure,Builtin.lenOf,Sem.run_ite,Bool.false_eq_true,if_false,q1,Bool.not_false,if_true,hn]
 cases b with
 | none=>simp
 | some ad=>simp
end
def qdC (C us:List Value)(o k:Nat)(h:o+k+us.length<=C.length):((splice C (o+k) us).drop o).take (k+us.length)=(C.drop o).take k++us:=by
 apply List.ext_getElem?
 intro j
 by_cases hj:j<k+us.length
 ·rw [qc6 _ _ _ _ hj]
  simp only [splice,List.getElem?_append,List.getElem?_take,List.getElem?_drop,zzM,List.length_take,List.length_drop]
  have e1:min (o+k) C.length=o+k:=by omega
  have e2:min k (C.length-o)=k:=by omega
  rw [e1,e2]
  by_cases h1:j<k
  ·simp [h1,show o+j<o+k by omega,show o+j<o+k+us.length by omega]
  ·simp [h1,show ¬o+j<o+k by omega,show o+j<o+k+us.length by omega,show o+j-(o+k)=j-k by omega]
 ·rw [List.getElem?_take,if_neg hj,zzE]
  simp
  omega
section
variable {P:Program}{LB:List Nat}{E:Emb}{f:Fr}{a:Act}{call:qaM}{lo:Nat}{h h':qab}{v:Value}{w w0:World}{B0:Nat}
def Has.world {F:Emb}{w':World}(hh:Has B0 F h w)(he:w'.heap=w.heap):Has B0 F h w':=fun i e k hi hk=>by
 rcases hh i e k hi hk with⟨x,h1,h3,h4⟩|h1
 ·exact .inl ⟨x,h1,h3,h4.world (by rw [he])⟩
 ·exact .inr h1
def Sim.reuse (s:Sim B0 w0 E h w){i:Nat}{cs cs':List Value}(hi:h[i]? = some (.row cs false)){x:Ent}(hx:E i=some (some x)){C C':Array Value}{t:TypeId}
  (hC:w.heap[x.b]? = some (.cells C t (0,0))) (hB:B0<=x.b) (hsz:C'.size=C.size) (hxs:C.size=x.size) {o:Nat} (hb:o+cs'.length<=C'.size)
  (hr:VRs E cs' ((C'.toList.drop o).take cs'.length)) (ho:cs'.all qad=true) :
  Sim B0 w0 ((E.put i none).put h.length (some ⟨x.b,o,x.size⟩)) (h.set i .dead ++ [.row cs' false]) (w.setRow x.b C')/\
   Later E w ((E.put i none).put h.length (some ⟨x.b,o,x.size⟩)) (w.setRow x.b C'):=by
 have hilt:i<h.length:=(zzS.1 hi).1
 have hother:∀j y,j≠i->E j=some (some y)->y.b≠x.b:=fun j y hj hy e=>by
  have:=(s.inj i j x y (fun e=>hj e.symm) hx hy e.symm).1
  rw [hi]at this
  cases this
 obtain⟨s1,l1⟩:=s.kill hilt
 have hn:E.put i none h.length=none:=by rw [Emb.yb (by omega)];exact s.out _ (zzR _)
 have hle2:(E.put i none).le ((E.put i none).put h.length (some ⟨x.b,o,x.size⟩)):=Emb.yX hn
 have hle:E.le ((E.put i none).put h.length (some ⟨x.b,o,x.size⟩)):=Emb.le_trans l1.le hle2
 have hjl:∀j e,E.put i none j=some e->j<h.length:=fun j e hj=>by
  rcases Nat.lt_or_ge j h.length with h1|h1
  ·exact h1
  ·rw [Emb.yb (by omega),s.out j h1]at hj;cases hj
 constructor
 ·refine⟨Below.setRow s.below hB _,fun j hj => ?_,fun j hj => ?_,fun j k hj hk => ?_,fun j j' y y' hne hy hy' he => ?_⟩
  ·simp at hj
   rw [Emb.yb (by omega),Emb.yb (by omega)]
   exact s.out j (by omega)
  ·rw [List.getElem?_append]at hj
   split at hj
   ·rename_i hjl';simp at hjl';rw [Emb.yb (by omega)];exact s1.dead j hj
   ·rename_i hjl'
    simp at hjl'
    rcases Nat.eq_zero_or_pos (j-h.length)with h0|h0
    ·simp [h0]at hj
    ·rw [zzE (by simp;omega)]at hj;cases hj
  ·rw [List.getElem?_append]at hj
   split at hj
   ·rename_i hjl'
    simp at hjl'
    rw [Emb.yb (by omega)]
    obtain⟨y,hy,hbr⟩:=s1.live j k hj hk
    have hji:j≠i:=fun e=>by subst e;rw [Emb.yh]at hy;cases hy
    refine⟨y,hy,(hbr.mono hle2).world (qda (hother j y hji ?_))⟩
    rw [Emb.yb hji]at hy
    exact hy
   ·rename_i hjl'
    simp at hjl'
    rcases Nat.eq_zero_or_pos (j-h.length)with h0|h0
    ·have hje:j=h.length:=by omega
     simp [h0]at hj
     subst hj hje
     exact⟨_,Emb.yh,C',t,(0,0),qc9 hC,by simp [hsz,hxs],hb,hr.mono hle,fun _=>⟨hB,rfl⟩,ho⟩
    ·rw [zzE (by simp;omega)]at hj;cases hj
  ·by_cases h1:j=h.length
   ·subst h1
    rw [Emb.yh]at hy
    rw [Emb.yb (fun e=>hne e.symm)]at hy'
    injection hy with hy;injection hy with hy;subst hy
    have hji:j'≠i:=fun e=>by subst e;rw [Emb.yh]at hy';cases hy'
    rw [Emb.yb hji]at hy'
    exact absurd he.symm (hother j' y' hji hy')
   ·by_cases h2:j'=h.length
    ·subst h2
     rw [Emb.yh]at hy'
     rw [Emb.yb h1]at hy
     injection hy' with hy';injection hy' with hy';subst hy'
     have hji:j≠i:=fun e=>by subst e;rw [Emb.yh]at hy;cases hy
     rw [Emb.yb hji]at hy
     exact absurd he (hother j y hji hy)
    ·rw [Emb.yb h1]at hy
     rw [Emb.yb h2]at hy'
     have:=s1.inj j j' y y' hne hy hy' he
     rw [zzA (by simp;exact hjl _ _ hy),zzA (by simp;exact hjl _ _ hy')]
     exact this
 ·refine⟨hle,fun j y hy => ?_,by rw [qdb];exact zzR _,fun b hb hn=>qda (fun e=>hn i x hx e.symm)⟩
  by_cases h1:j=h.length
  ·subst h1
   rw [Emb.yh]at hy
   injection hy with hy;injection hy with hy;subst hy
   exact .inl ⟨i,x,hx,rfl⟩
  ·rw [Emb.yb h1]at hy
   have hji:j≠i:=fun e=>by subst e;rw [Emb.yh]at hy;cases hy
   rw [Emb.yb hji]at hy
   exact .inl ⟨j,y,hy,rfl⟩
def qdD (s:Sim B0 w0 E h w):Sim B0 w0 E h w.drew :=
 ⟨s.below.drew,s.out,s.dead,fun i k hi hk=>by obtain⟨x,hx,hb⟩:=s.live i k hi hk;exact⟨x,hx,hb.world rfl⟩,s.inj⟩
def Sim.grown (s:Sim B0 w0 E h w){cs:List Value}{C rest:Array Value}{t:TypeId}(hB:B0<=w.heap.size)(hr:VRs E cs C.toList)(ho:cs.all qad=true) :
  Sim B0 w0 (E.put h.length (some ⟨w.heap.size,0,(C++rest).size⟩)) (h ++ [.row cs false]) (w.drew.alloc (.cells (C++rest) t))/\
   Later E w (E.put h.length (some ⟨w.heap.size,0,(C++rest).size⟩)) (w.drew.alloc (.cells (C++rest) t)):=by
 have hl:=hr.length
 simp at hl
 refine s.push (by simp) ((s.below.drew).alloc hB _) (fun b hb => ?_) (by simp) (zzR _) ?_
 ·show(w.heap.push _)[b]? = _
  rw [Array.getElem?_push,if_neg (by omega)]
 ·refine⟨C++rest,t,(0,0),qdp w.drew _,rfl,by simp;omega, ?_,fun _=>⟨hB,rfl⟩,ho⟩
  simp only [List.drop_zero,Array.toList_append]
  rw [List.take_append_of_le_length (by simp;omega),List.take_of_length_le (by simp;omega)]
  exact hr.mono (Emb.yX (s.out _ (zzR _)))
end
section
variable {P:Program}{LB:List Nat}{E:Emb}{f:Fr}{a:Act}{call:qaM}{lo:Nat}{h h':qab}{v:Value}{w w0:World}{B0:Nat}
def qdE (s:Sim B0 w0 E h w)(hB:B0<=w.heap.size){t u e e':TypeId}{i:TypeInfo}{x y x' y':Value}{ty:TypeId}(hu:P.underlying t=some (.slice e))(hu':P.underlying u=some (.slice e'))
  (hi:P.info? e=some i) (hz:((qa5 P e).map fun z=>(qaf z).length)=some i.size) (hx:VR E x x') (hy:VR E y y') (hv:qaE lo i.size i.bytes h x y=some (v,h')) :
  ∃c w' E',(Builtin.append_ #[t,u] ty #[x',y']).run P w = .ok c w'/\Sim B0 w0 E' h' w'/\Later E w E' w'/\VR E' v c:=by
 obtain⟨z,hz1,hz2⟩:∃z,qa5 P e=some z/\z.cells.size=i.size:=by
  cases hzz:qa5 P e with
  | none=>simp [hzz]at hz
  | some z=>simp [hzz,qbK]at hz;exact⟨z,rfl,hz⟩
 unfold qaE at hv
 split at hv<;>try (cases hv;done)
 rename_i base len cap n hn
 obtain⟨hbb,hv⟩:=qc1 hv
 split at hv<;>try (cases hv;done)
 rename_i new hnew
 obtain⟨dn,hdn,hdr,hdl,hdo⟩:=qdu (P:=P) s.has hy hn (zzR _) hnew
 obtain⟨b',c',rfl⟩:=qdv hy hn (qdw hnew)
 have hdl':dn.size=n*i.size:=by have:=hdr.length;simp at this;omega
 have hEn:E h.length=none:=s.out _ (zzR _)
 -- what a copy comes to
 have grow:∀{E1:Emb} {h1:qab} (s1:Sim B0 w0 E1 h1 w) (l1:Later E w E1 w) (hh1:h1.length=h.length) (bb:Option Addr) (sc:Nat) (old:List Value) (od:Array Value),
   ((len+n<=2 ^ 30/\i.bytes<=2 ^ 12)\/(sc=0/\(len+n)*i.bytes<=2 ^ 47/\len+n<=2 ^ 47))->sc<len+n->(∀w':World,w'.heap=w.heap->(Builtin.firstCells i.size len (.slice bb len sc)).run P w' = .ok od w')->VRs E old od.toList->old.length=len*i.size->old.all qad=true->
   ∃c w' E',(Builtin.append_ #[t,u] ty #[.slice bb len sc,.slice b' n c']).run P w = .ok c w'/\Sim B0 w0 E' (h1 ++ [.row (old++new) false]) w'/\Later E w E' w'/\
    VR E' (.slice (some (loose h.length 0)) (len+n) i.size) c:=by
  intro E1 h1 s1 l1 hh1 bb sc old od hcs hroom hod hor hol hoo
  obtain⟨nc,rest,g1,g2,g3⟩:=qdA (P:=P) (w:=w) (ty:=ty) hu hu' hi hz1 hroom (qdz hroom hcs) hod hdn
  have hor1:VRs E1 (old++new) (od++dn).toList:=by
   rw [Array.toList_append];exact(hor.app hdr).mono l1.le
  obtain⟨s2,l2⟩:=s1.grown (t:=e) (rest:=rest) hB hor1 (by simp [List.all_append,hoo,hdo])
  refine⟨_,_,_,g3,s2,l1.trans l2, ?_⟩
  refine .loose _ _ _ _ _ _ rfl (by rw [show(loose h.length 0).block=h1.length from hh1.symm];exact Emb.yh) g1 (fun x hx => ?_)
  injection hx with hx
  subst hx
  refine⟨rfl,rfl,fun _=>rfl, ?_⟩
  have hol':od.size=len*i.size:=by have:=hor.length;simp at this;omega
  simp only [Array.size_append,g2,hol',hdl',hz2]
  have:len*i.size+n*i.size+(nc-(len+n))*i.size=nc*i.size:=by
   rw [<-Nat.add_mul,<-Nat.add_mul]
   congr 1
   omega
  omega
 split at hv
 ·-- nil
  cases hx
  have hold:∀w':World,w'.heap=w.heap->(Builtin.firstCells i.size 0 (.slice none 0 0)).run P w' = .ok #[] w':=fun w' _=>by simp [Builtin.firstCells]
  split at hv
  ·rename_i h0
   injection hv with hv
   injection hv with e1 e2
   subst e1 e2 h0
   refine⟨.slice none 0 0,w,E, ?_,s,Later.refl E w,.yB⟩
   have:=qdB (P:=P) (w:=w) (b:=none) (sl:=0) (sc:=0) (ty:=ty) hu hu' hi (by omega) (hdn w rfl)
   simpa using this
  ·rename_i h0
   injection hv with hv
   injection hv with e1 e2
   subst e1 e2
   have:=grow s (Later.refl E w) rfl none 0 [] #[] (hbb.imp id fun g=>⟨rfl,g.2.2⟩) (by omega) hold .nil (by simp) rfl
   simpa using this
 ·rename_i ad _
  split at hv
  ·-- the capacity is known
   rename_i hsp
   cases hx with
   | loose _ c _ _ cap' e0 hsp' he hn' hc=>rw [hsp]at hsp';cases hsp'
   | slice _ c _ _ e0 hsp' he hn' hc =>
     split at hv
     ·rename_i hroom
      split at hv
      ·rename_i h0
       injection hv with hv
       injection hv with e1 e2
       subst e1 e2 h0
       have hdn0:dn = #[]:=Array.eq_empty_of_size_eq_zero (by omega)
       refine⟨.slice (some c) len cap,w,E, ?_,s,Later.refl E w,.slice _ _ _ _ e0 hsp he hn' hc⟩
       rw [qdB (P:=P) hu hu' hi hroom (hdn w rfl)]
       simp [hdn0,storeCells]
      ·rename_i h0
       split at hv<;>try (cases hv;done)
       rename_i h1 hst
       injection hv with hv
       injection hv with e1 e2
       subst e1 e2
       have hbl:(ad.add (len*i.size)).block=ad.block:=by unfold Addr.add;split<;>rfl
       have hof:(ad.add (len*i.size)).off=ad.off+len*i.size:=by unfold Addr.add;split<;>simp_all
       obtain⟨w',g1,g2,g3⟩:=qdt (P:=P) s (ad:=ad.add (len*i.size)) (c:=c.add (len*i.size)) (e:=e0) (by rw [hbl];exact he) (fun x hx=>by
        rw [hc x hx (by omega),qcK,hof,Nat.add_assoc]) hdr hdo hst
       refine⟨.slice (some c) (len+n) cap,w',E, ?_,g2,g3,.slice _ _ _ _ e0 hsp he hroom hc⟩
       rw [qdB (P:=P) hu hu' hi hroom (hdn w rfl)]
       simp [g1]
     ·rename_i hroom
      split at hv<;>try (cases hv;done)
      rename_i old hold
      injection hv with hv
      injection hv with e1 e2
      subst e1 e2
      obtain⟨od,hod,hor,hol,hoo⟩:=qdu (P:=P) s.has (VR.slice ad c len cap e0 hsp he hn' hc) rfl (zzR _) hold
      exact grow s (Later.refl E w) rfl (some c) cap old od (hbb.imp id fun g=>⟨g.1,g.2.2⟩) (by omega) hod hor hol hoo
  ·-- it is not
   rename_i q hsp
   cases hx with
   | slice _ c _ _ e0 hsp' he hn' hc=>rw [hsp]at hsp';cases hsp'
   | loose _ c _ _ cap' e0 hsp' he hn' hc =>
     split at hv
     ·rename_i h0
      injection hv with hv
      injection hv with e1 e2
      subst e1 e2 h0
      have hdn0:dn = #[]:=Array.eq_empty_of_size_eq_zero (by omega)
      refine⟨.slice (some c) len cap',w,E, ?_,s,Later.refl E w,.loose _ _ _ _ _ e0 hsp' he hn' hc⟩
      rw [qdB (P:=P) hu hu' hi (by omega) (hdn w rfl)]
      simp [hdn0,storeCells]
     ·rename_i h0
      split at hv<;>try (cases hv;done)
      rename_i old cs hold hb
      obtain⟨⟨hce,hlo⟩,hv⟩:=qc0 hv
      injection hv with e1 e2
      subst e1 e2
      obtain⟨od,hod,hor,hol,hoo⟩:=qdu (P:=P) s.has (VR.loose ad c len cap cap' e0 hsp' he hn' hc) rfl (zzR _) hold
      have hilt:ad.block<h.length:=(zzS.1 hb).1
      by_cases hroom:len+n<=cap'
      ·rcases s.ent he with⟨x,k,rfl,hk,hd,hbr⟩|⟨_,hk⟩
       ·rw [hb]at hk
        injection hk with hk
        subst hk
        obtain⟨C,ct,fz,k1,k2,k3,k4,k5,k6⟩:=hbr
        obtain⟨hB',rfl⟩:=k5 rfl
        obtain⟨r1,r2,r3,r4⟩:=hc x rfl
        obtain⟨cb,co,csp⟩:=c
        simp only at r1 r2 r3 r4
        subst r1 r2
        have hdone:VRs E new dn.toList:=hdr
        have hsize:co+len*i.size+new.length<=C.size:=by
         have h1:(len+n)*i.size<=cap'*cap:=by rw [hce];exact Nat.mul_le_mul_right _ hroom
         rw [Nat.add_mul]at h1
         omega
        have hone:∀q∈dn.toList,q.oneCell'=true:=hdr.one hdo
        have hrun:=run_storeCells_at (P:=P) x.b (co+len*i.size) ct dn.toList 0 C w k1 (by simp;have:=hdr.length;simp at this;omega) hone
        obtain⟨s2,l2⟩:=s.reuse (cs':=old++new) (C':=(splice C.toList (co+len*i.size) dn.toList).toArray) (o:=co) hb he k1 hB' (by
         have:=qbW C.toList dn.toList (co+len*i.size) (by simp;omega)
         simpa using this) k2 (by
         have:=qbW C.toList dn.toList (co+len*i.size) (by simp;omega)
         simp only [List.size_toArray,this,zzM,Array.length_toList]
         omega) (by
         simp only [List.toList_toArray,zzM]
         rw [hol,show new.length=dn.toList.length by simp;omega,qdC _ _ _ _ (by simp;omega)]
         refine VRs.app ?_ hdr
         by_cases hl0:len=0
         ·subst hl0
          have:old = []:=List.length_eq_zero_iff.1 (by omega)
          subst this
          simpa using VRs.nil
         ·have hco:co=x.base+ad.off:=r3 (by omega)
          have:=hod w rfl
          rw [show(Builtin.firstCells i.size len (.slice (some ⟨x.b,co,none⟩) len cap'):Sem (Array Value))=loadCells ⟨x.b,co,none⟩ (len*i.size)from rfl,
           qc5 (P:=P) k1 (o:=co) (n:=len*i.size) (by omega)]at this
          injection this with this
          rw [<-this]at hor
          simpa using hor) (by simp [List.all_append,hoo,hdo])
        refine⟨.slice (some ⟨x.b,co,none⟩) (len+n) cap',_,_, ?_,s2,l2, ?_⟩
        ·rw [qdB (P:=P) hu hu' hi hroom (hdn w rfl)]
         simp only [qcK,hrun]
         simp [splice]
        ·refine .loose _ _ _ _ _ _ rfl Emb.yh hroom (fun y hy => ?_)
         injection hy with hy
         subst hy
         exact⟨rfl,rfl,fun _=>rfl,by rw [<-hce];exact r4⟩
       ·rw [hb]at hk;cases hk
      ·obtain⟨s1,l1⟩:=s.kill hilt
       exact grow s1 l1 (by simp) (some c) cap' old od (hbb.elim .inl fun g=>by
        have g1:ad.spot.isNone=true:=g.2.1
        rw [hsp]at g1;cases g1) (by omega) hod hor hol hoo
def qdF {k:IntKind}{n:Int}{d:TypeDesc}(hd:∃j,d = .int j){u u':Value}(hu:VR E u u'):∀{es es':List (Value×Value)} {xs:List MapEntry},MR E es xs->qaG (.int k n) u es=some es'->
  ∀i,(∃(j:Nat) (c:Value) (y:MapEntry),Instr.findNow d (.int k n) xs i=some (some (i+j,c))/\xs[j]? = some y/\y.key = .int k n/\∀b:Nat,MR E es' (xs.modify j fun e => {e with key := .int k n,val:=u'}))\/
   (Instr.findNow d (.int k n) xs i=some none/\∀b:Nat,MR E es' (xs ++ [{key := .int k n,val:=u',born:=b}]))
 | _,es',_,.nil,h,i=>by
   simp [qaG]at h;subst h
   exact .inr ⟨rfl,fun b => .cons _ _ _ _ _ _ rfl hu .nil⟩
 | _,es',_,.cons k' n' v x es xs hk hv hs,h,i=>by
   obtain⟨q,rfl⟩:=hd
   simp only [qaG,eq1]at h
   by_cases hkk:k=k'
   ·subst hkk
    by_cases hn:n=n'
    ·subst hn
     simp at h
     subst h
     exact .inl ⟨0,x.val,x,by simp [Instr.findNow,hk,Instr.sameNow],by simp,hk,fun _=>by simpa using MR.cons k n u _ _ _ rfl hu hs⟩
    ·have hf:(n==n')=false:=by simpa using hn
     simp only [if_true,hf]at h
     split at h<;>try (cases h;done)
     rename_i r hr
     injection h with h
     subst h
     rcases qdF ⟨q,rfl⟩ hu hs hr (i+1)with⟨j,c,y,h1,h2,h3,h4⟩|⟨h1,h2⟩
     ·refine .inl ⟨j+1,c,y, ?_,by simpa using h2,h3,fun b => ?_⟩
      ·simp only [Instr.findNow,hk,Instr.sameNow,if_true,hf,h1]
       simp
       omega
      ·rw [List.modify_succ_cons]
       exact .cons k n' v _ _ _ hk hv (h4 b)
     ·refine .inr ⟨by simp [Instr.findNow,hk,Instr.sameNow,hf,h1],fun b => ?_⟩
      rw [List.cons_append]
      exact .cons k n' v _ _ _ hk hv (h2 b)
   ·simp [hkk]at h
def qdG {k:IntKind}{n:Int}{d:TypeDesc}(hd:∃j,d = .int j):∀{es es':List (Value×Value)} {xs:List MapEntry},MR E es xs->qaH (.int k n) es=some es'->
  ∀i,(∃(j:Nat) (c:Value),Instr.findNow d (.int k n) xs i=some (some (i+j,c))/\j<xs.length/\MR E es' (xs.eraseIdx j))\/
   (Instr.findNow d (.int k n) xs i=some none/\MR E es' xs)
 | _,es',_,.nil,h,i=>by
   simp [qaH]at h;subst h
   exact .inr ⟨rfl,.nil⟩
 | _,es',_,.cons k' n' v x es xs hk hv hs,h,i=>by
   obtain⟨q,rfl⟩:=hd
   simp only [qaH,eq1]at h
   by_cases hkk:k=k'
   ·subst hkk
    by_cases hn:n=n'
    ·subst hn
     simp at h
     subst h
     exact .inl ⟨0,x.val,by simp [Instr.findNow,hk,Instr.sameNow],by simp,by simpa using hs⟩
    ·have hf:(n==n')=false:=by simpa using hn
     simp only [if_true,hf]at h
     split at h<;>try (cases h;done)
     rename_i r hr
     injection h with h
     subst h
     rcases qdG ⟨q,rfl⟩ hs hr (i+1)with⟨j,c,h1,h2,h3⟩|⟨h1,h2⟩
     ·refine .inl ⟨j+1,c, ?_,by simpa using h2, ?_⟩
      ·simp only [Instr.findNow,hk,Instr.sameNow,if_true,hf,h1]
       simp
       omega
      ·simpa using MR.cons k n' v _ _ _ hk hv h3
     ·exact .inr ⟨by simp [Instr.findNow,hk,Instr.sameNow,hf,h1],.cons k n' v _ _ _ hk hv h2⟩
   ·simp [hkk]at h
def Sim.wad (s:Sim B0 w0 E h w){i:Nat}{es es':List (Value×Value)}(hi:h[i]? = some (.map es)){x:Ent}(hx:E i=some (some x)){M:Array MapEntry}{clk':Nat}(hB:B0<=x.b)
  (hlt:x.b<w.heap.size) (hr:MR E es' M.toList) :
  Sim B0 w0 E (h.set i (.map es')) {w with heap:=w.heap.setIfInBounds x.b (.map M clk')}/\Later E w E {w with heap:=w.heap.setIfInBounds x.b (.map M clk')} := by
 have hilt:i<h.length:=(zzS.1 hi).1
 have hother:∀j y,j≠i->E j=some (some y)->y.b≠x.b:=fun j y hj hy e=>by
  have:=(s.inj i j x y (fun e=>hj e.symm) hx hy e.symm).1
  rw [hi]at this
  cases this
 have hold:∀b,b≠x.b->(w.heap.setIfInBounds x.b (.map M clk'))[b]? = w.heap[b]? := fun b hb=>by
  rw [Array.getElem?_setIfInBounds_ne (fun e=>hb e.symm)]
 constructor
 ·refine⟨s.below.trans ⟨rfl,rfl,rfl,by simp,fun b hb=>hold b (by omega)⟩,fun j hj=>s.out j (by simpa using hj),fun j hj => ?_,fun j k hj hk => ?_,fun j j' y y' hne hy hy' he => ?_⟩
  ·rw [List.getElem?_set]at hj
   split at hj
   ·cases hj
   ·exact s.dead j hj
  ·by_cases hji:j=i
   ·subst hji
    rw [List.getElem?_set_self hilt]at hj
    injection hj with hj
    subst hj
    exact⟨x,hx,M,clk',by simp [hlt],hr,hB⟩
   ·rw [zzN (fun e=>hji e.symm)]at hj
    obtain⟨y,hy,hbr⟩:=s.live j k hj hk
    exact⟨y,hy,hbr.world (hold _ (hother j y hji hy))⟩
  ·have:=s.inj j j' y y' hne hy hy' he
   have h1:j≠i:=fun e=>by subst e;rw [hi]at this;cases this.1
   have h2:j'≠i:=fun e=>by subst e;rw [hi]at this;cases this.2
   rw [zzN (fun e=>h1 e.symm),zzN (fun e=>h2 e.symm)]
   exact this
 ·exact⟨Emb.le_refl E,fun j y hy => .inl ⟨j,y,hy,rfl⟩,by simp,fun b hb hn=>hold b (fun e=>hn i x hx e.symm)⟩
def qdH {b:Nat}{M:Array MapEntry}{clk:Nat}(hM:w.heap[b]? = some (.map M clk))(o:Obj):(setObj b o).run P w = .ok () {w with heap:=w.heap.setIfInBounds b o} := by
 simp [setObj,Sem.run,hM]
def qdI:IOp->Bool
 | .call .. | .yt .. | .invoke .. => true
 | _=>false
def qdJ {ops:List Oper}{o:Oper}{io:IOp}(hc:NP P LB ops o io)(hp:qaQ io=true)(hnc:qdI io=false)(hop:qbQ LB E f a o)(s:Sim B0 w0 E h w)(hB:B0<=w.heap.size)
  (hv:yf call lo io f h=some (v,h')):qds P B0 w0 a o E w h' v:=by
 have vnone:VR E qag undef := .tuple _ _ (by simpa using VRs.nil)
 obtain⟨dst,op,ty,pos,after,guard⟩:=o
 cases hc<;>simp [qaQ]at hp<;>simp [qdI]at hnc
 case store t x y n ho hn hx hy =>
  simp only at ho
  subst ho
  simp only [yf]at hv
  split at hv<;>try (cases hv;done)
  rename_i ad u hu hu'
  obtain⟨⟨hl,h1⟩,hv⟩:=qc1 hv
  split at hv<;>try (cases hv;done)
  rename_i h2 hst
  injection hv with hv
  injection hv with e1 e2
  subst e1 e2
  have hxv:=hop x (by simp [Op.operands]) hx _ hu
  have hyv:=hop y (by simp [Op.operands]) hy _ hu'
  generalize hce:a.eval x=cv at hxv
  cases hxv with
  | ptr _ c e hsp he hcc =>
    have hcl:=hyv.cells
    obtain⟨w',g1,g2,g3⟩:=qdt (P:=P) s he hcc hcl h1 hst
    refine⟨undef,w',E,.inr ⟨?_,rfl⟩,g2,g3,vnone⟩
    have hsz:(a.eval y).cells.size=n:=by have:=hcl.length;simp at this;omega
    simp [execOp,hce,Instr.storeAt,Instr.sureAddr,storeVar,qbG hn,hsz,g1]
 case append t u e e' x y i ho hu hu' hi hz h1 h2 =>
  simp only at ho
  subst ho
  simp only [yf]at hv
  split at hv<;>try (cases hv;done)
  rename_i xv yv hxe hye
  have hxv:=hop x (by simp [Op.operands,Call.operands]) h1 _ hxe
  have hyv:=hop y (by simp [Op.operands,Call.operands]) h2 _ hye
  obtain⟨c,w',E',g1,g2,g3,g4⟩:=qdE (P:=P) (ty:=ty) s hB hu hu' hi hz hxv hyv hv
  obtain⟨cs,hcs⟩:=qcO (P:=P) (a:=a) (dst:=dst) (ty:=ty) (pos:=pos) (after:=after) (guard:=guard) (b := .append) (args := #[x,y]) (ts := #[t,u])
  refine⟨c,w',E',.inl ?_,g2,g3,g4⟩
  rw [hcs]
  simp [builtin,g1]
 case copy t e ts x y n ho ht hu hn h1 h2 =>
  simp only at ho
  subst ho
  simp only [yf]at hv
  split at hv<;>try (cases hv;done)
  rename_i base dlen dcap yv hxe hye
  have hxv:=hop x (by simp [Op.operands,Call.operands]) h1 _ hxe
  have hyv:=hop y (by simp [Op.operands,Call.operands]) h2 _ hye
  split at hv<;>try (cases hv;done)
  rename_i slen hsl
  split at hv<;>try (cases hv;done)
  rename_i cs hcs
  obtain⟨dn,hdn,hdr,hdl,hdo⟩:=qdu (P:=P) s.has hyv hsl (Nat.min_le_left _ _) hcs
  obtain⟨b',c',hye'⟩:=qdv hyv hsl (qdw hcs)
  rw [hye']at hdn hyv
  obtain⟨bs,hbs⟩:=qcO (P:=P) (a:=a) (dst:=dst) (ty:=ty) (pos:=pos) (after:=after) (guard:=guard) (b := .copy) (args := #[x,y]) (ts:=ts)
  have run:∀(bb:Option Addr) (dc:Nat),a.eval x = .slice bb dlen dc->(execOp a.eval ⟨dst,.call ⟨.builtin .copy,#[x,y],ts⟩,ty,pos,after,guard⟩).run P w =
    (match bb with|none => .ok (.value (.int .i64 (min slen dlen:Nat))) w|some ad=>((storeCells ad dn.toList).run P w).andThen fun _ w' => .ok (.value (.int .i64 (min slen dlen:Nat))) w'):=by
   intro bb dc hxe'
   rw [hbs]
   have e1:(#[x,y].map a.eval) = #[.slice bb dlen dc,.slice b' slen c']:=by simp [hxe',hye']
   have a2:(#[.slice bb dlen dc,.slice b' slen c']:Array Value)[0]? = some (.slice bb dlen dc):=rfl
   have a3:(#[.slice bb dlen dc,.slice b' slen c']:Array Value)[1]? = some (.slice b' slen c'):=rfl
   have hm:Nat.min slen dlen=min slen dlen:=rfl
   rw [e1]
   simp only [builtin,Builtin.copy_,ht,a2,a3,Sem.run_bind,run_underlying hu,Result.andThen_ok,Builtin.lenOf,Sem.run_pure,qbG hn,hm,hdn w rfl]
   cases bb with
   | none=>simp [goInt]
   | some ad =>
     simp only [Sem.run_bind]
     cases(storeCells ad dn.toList).run P w<;>simp [goInt]
  split at hv
  ·injection hv with hv
   injection hv with e1 e2
   subst e1 e2
   generalize hce:a.eval x=cv at hxv
   cases hxv with
   | yB =>
     refine⟨_,w,E,.inl ?_,s,Later.refl E w,.int _ _⟩
     rw [run none 0 hce]
  ·rename_i ad
   split at hv
   ·rename_i h0
    injection hv with hv
    injection hv with e1 e2
    subst e1 e2
    have hdn0:dn = #[]:=Array.eq_empty_of_size_eq_zero (by have:=hdr.length;rw [hdl,h0]at this;simp at this;exact this.symm)
    generalize hce:a.eval x=cv at hxv
    have:∃c dc,cv = .slice (some c) dlen dc:=by cases hxv<;>exact⟨_,_,rfl⟩
    obtain⟨c,dc,rfl⟩:=this
    refine⟨.int .i64 (0:Nat),w,E,.inl ?_,s,Later.refl E w,.int _ _⟩
    rw [run (some c) dc hce]
    simp [hdn0,storeCells,h0]
   ·rename_i h0
    split at hv<;>try (cases hv;done)
    rename_i h2' hst
    injection hv with hv
    injection hv with e1 e2
    subst e1 e2
    have hdpos:0<dlen:=by
     rcases Nat.eq_zero_or_pos dlen with hd|hd
     ·subst hd;simp at h0
     ·exact hd
    generalize hce:a.eval x=cv at hxv
    cases hxv with
    | slice _ c _ _ e0 hsp he hn' hc =>
      obtain⟨w',g1,g2,g3⟩:=qdt (P:=P) s (ad:=tight ad) (c:=c) (e:=e0) he (fun x hx=>hc x hx (by omega)) hdr hdo hst
      refine⟨_,w',E,.inl ?_,g2,g3,.int _ _⟩
      rw [run (some c) _ hce]
      simp only [g1]
      rfl
    | loose _ c _ _ cap' e0 hsp he hn' hc =>
      obtain⟨w',g1,g2,g3⟩:=qdt (P:=P) s (ad:=tight ad) (c:=c) (e:=e0) he (fun x hx=>by
       obtain⟨r1,r2,r3,r4⟩:=hc x hx
       have r5:=r3 hdpos
       obtain⟨cb,co,cs⟩:=c
       simp only at r1 r2 r5
       subst r1 r2 r5
       rfl) hdr hdo hst
      refine⟨_,w',E,.inl ?_,g2,g3,.int _ _⟩
      rw [run (some c) _ hce]
      simp only [g1]
      rfl
 case clear t e x n z ho hu hn hz hl h1 =>
  simp only at ho
  subst ho
  obtain⟨hz1,hz2,hz3⟩:=qbJ hz
  simp only [yf]at hv
  split at hv<;>try (cases hv;done)
  rename_i base len cap hxe
  have hxv:=hop x (by simp [Op.operands,Call.operands]) h1 _ hxe
  obtain⟨bs,hbs⟩:=qcO (P:=P) (a:=a) (dst:=dst) (ty:=ty) (pos:=pos) (after:=after) (guard:=guard) (b := .clear) (args := #[x]) (ts := #[t])
  have vn:VR E qag (.tuple #[]):=vnone
  generalize hce:a.eval x=cv at hxv
  have b0:(#[t]:Array TypeId)[0]? = some t:=rfl
  have b1:∀c:Value,(#[c]:Array Value)[0]? = some c:=fun c=>rfl
  split at hv
  ·injection hv with hv
   injection hv with e1 e2
   subst e1 e2
   cases hxv with
   | yB =>
     refine⟨.tuple #[],w,E,.inl ?_,s,Later.refl E w,vn⟩
     rw [hbs]
     simp [builtin,Builtin.clear_,hce,run_underlying hu]
  ·rename_i ad
   split at hv
   ·rename_i h0
    injection hv with hv
    injection hv with e1 e2
    subst e1 e2 h0
    have:∃c dc,cv = .slice (some c) 0 dc:=by cases hxv<;>exact⟨_,_,rfl⟩
    obtain⟨c,dc,rfl⟩:=this
    refine⟨.tuple #[],w,E,.inl ?_,s,Later.refl E w,vn⟩
    rw [hbs]
    simp [builtin,Builtin.clear_,hce,run_underlying hu]
   ·rename_i h0
    split at hv<;>try (cases hv;done)
    rename_i h2' hst
    injection hv with hv
    injection hv with e1 e2
    subst e1 e2
    have hzc:(Builtin.zeroCells z.cells len).toList=qaL (qaf z) len:=by
     have hzs:z.cells.size=n:=by rw [<-hl,qbK];simp
     simp only [Builtin.zeroCells,Array.toList_map,Array.toList_range]
     rcases Nat.eq_zero_or_pos z.cells.size with h3|h3
     ·have:qaf z = []:=List.length_eq_zero_iff.1 (by rw [qbK];simpa using h3)
      rw [h3,qdn,this]
      simp
     ·rw [qdm z.cells h3,qdn,qbK]
    have hzr:VRs E (qaL (qaf z) len) (Builtin.zeroCells z.cells len).toList:=by rw [hzc];exact VRs.flat (qdo hz3 _)
    have fin:∀(c:Addr) (dc:Nat) (e0:Option Ent),cv = .slice (some c) len dc->E ad.block=some e0->(∀x,e0=some x->c=⟨x.b,x.base+ad.off,none⟩)->
      qds P B0 w0 a ⟨dst,.call ⟨.builtin .clear,#[x],#[t]⟩,ty,pos,after,guard⟩ E w h2' qag:=by
     intro c dc e0 hcv he hcc
     obtain⟨w',g1,g2,g3⟩:=qdt (P:=P) s (ad:=tight ad) (c:=c) (e:=e0) he hcc hzr (qa1 (qdo hz3 _)) hst
     refine⟨.tuple #[],w',E,.inl ?_,g2,g3,vn⟩
     rw [hbs]
     have e1:(#[x].map a.eval) = #[.slice (some c) len dc]:=by simp [hce,hcv]
     rw [e1]
     obtain⟨m,rfl⟩:∃m,len=m+1:=⟨len-1,by omega⟩
     simp only [builtin,Builtin.clear_,b0,b1,Sem.run_bind,run_underlying hu,Result.andThen_ok,qbI hz1,g1,Sem.run_pure]
    cases hxv with
    | slice _ c _ _ e0 hsp he hn' hc=>exact fin c _ e0 rfl he (fun x hx=>hc x hx (by omega))
    | loose _ c _ _ cap' e0 hsp he hn' hc =>
      exact fin c _ e0 rfl he (fun x hx=>by
       obtain⟨r1,r2,r3,r4⟩:=hc x hx
       have r5:=r3 (by omega)
       obtain⟨cb,co,cs⟩:=c
       simp only at r1 r2 r5
       subst r1 r2 r5
       rfl)
 case yH t kt e j m k x ho hu hk h1 h2 h3 =>
  simp only at ho
  subst ho
  simp only [yf]at hv
  split at hv<;>try (cases hv;done)
  rename_i r kv xv hme hke hxe
  obtain⟨⟨hki,hlo⟩,hv⟩:=qc1 hv
  obtain⟨kk,kn,rfl⟩:=qdg hki
  split at hv<;>try (cases hv;done)
  rename_i es hes
  split at hv<;>try (cases hv;done)
  rename_i es' hes'
  injection hv with hv
  injection hv with e1 e2
  subst e1 e2
  have hmv:=hop m (by simp [Op.operands]) h1 _ hme
  have hkv:=(hop k (by simp [Op.operands]) h2 _ hke).yg rfl
  have hxv:=hop x (by simp [Op.operands]) h3 _ hxe
  generalize hme':a.eval m=mv at hmv
  cases hmv with
  | map r c e0 he hcc =>
    obtain⟨y,M,clk,rfl,hM,hmr,hBy⟩:=s.has.map he (qdh hes)
    have e1:=hcc y rfl
    subst e1
    have hlt:y.b<w.heap.size:=(Array.getElem?_eq_some_iff.1 hM).1
    rcases qdF (d := .int j) ⟨j,rfl⟩ hxv hmr hes' 0 with⟨q,cc,z,g1,g2,g3,g4⟩|⟨g1,g2⟩
    ·obtain⟨s2,l2⟩:=s.wad (M:=M.modify q fun e => {e with key := .int kk kn,val:=a.eval x}) (clk':=clk) (qdh hes) he hBy hlt (by rw [Array.toList_modify];exact g4 0)
     refine⟨undef,_,E,.inr ⟨?_,rfl⟩,s2,l2,vnone⟩
     simp only [execOp,hme',hkv,Instr.mapUpdate,Sem.run_bind,run_underlying hu,Result.andThen_ok,qdi (P:=P) hM]
     rw [qdf hk _ _ _ 9999]
     have hz:M[q]? = some z:=by simpa using g2
     have hsb:Instr.sameBits 10000 (.int kk kn) (.int kk kn)=true:=by
      show(kk==kk&&kn==kn)=true
      simp
     simp only [Instr.findKey,Sem.run_bind,run_underlying hk,Result.andThen_ok,g1,Sem.run_pure,Nat.zero_add,hz,Option.map_some,Option.getD_some,g3,Instr.keyThatStays,hsb,if_true]
     rw [qdH (P:=P) hM]
     rfl
    ·obtain⟨s2,l2⟩:=s.wad (M:=M.push {key := .int kk kn,val:=a.eval x,born:=clk}) (clk':=clk+1) (qdh hes) he hBy hlt (by rw [Array.toList_push];exact g2 clk)
     refine⟨undef,_,E,.inr ⟨?_,rfl⟩,s2,l2,vnone⟩
     simp only [execOp,hme',hkv,Instr.mapUpdate,Sem.run_bind,run_underlying hu,Result.andThen_ok,qdi (P:=P) hM]
     rw [qdf hk _ _ _ 9999]
     simp only [Instr.findKey,Sem.run_bind,run_underlying hk,Result.andThen_ok,g1,Sem.run_pure]
     rw [qdH (P:=P) hM]
     rfl
 case yF t kt e ts j m k ho ht hu hk h1 h2 =>
  simp only at ho
  subst ho
  simp only [yf]at hv
  split at hv<;>try (cases hv;done)
  rename_i r kv hme hke
  obtain⟨hki,hv⟩:=qc1 hv
  obtain⟨kk,kn,rfl⟩:=qdg hki
  have hmv:=hop m (by simp [Op.operands,Call.operands]) h1 _ hme
  have hkv:=(hop k (by simp [Op.operands,Call.operands]) h2 _ hke).yg rfl
  have vn:VR E qag (.tuple #[]):=vnone
  obtain⟨bs,hbs⟩:=qcO (P:=P) (a:=a) (dst:=dst) (ty:=ty) (pos:=pos) (after:=after) (guard:=guard) (b := .delete) (args := #[m,k]) (ts:=ts)
  generalize hme':a.eval m=mv at hmv
  have e1:(#[m,k].map a.eval) = #[mv,.int kk kn]:=by simp [hme',hkv]
  have a2:(#[mv,.int kk kn]:Array Value)[0]? = some mv:=rfl
  have a3:(#[mv,.int kk kn]:Array Value)[1]? = some (.int kk kn):=rfl
  rw [e1]at hbs
  cases hmv with
  | y9 =>
    simp only at hv
    injection hv with hv
    injection hv with e1 e2
    subst e1 e2
    refine⟨.tuple #[],w,E,.inl ?_,s,Later.refl E w,vn⟩
    rw [hbs]
    simp only [builtin,Builtin.delete_,ht,a2,a3,Sem.run_bind,run_underlying hu,Result.andThen_ok]
    rw [qdf hk _ _ _ 9999]
    rfl
  | map r c e0 he hcc =>
    simp only at hv
    obtain⟨hlo,hv⟩:=qc1 hv
    split at hv<;>try (cases hv;done)
    rename_i es hes
    split at hv<;>try (cases hv;done)
    rename_i es' hes'
    injection hv with hv
    injection hv with e1 e2
    subst e1 e2
    obtain⟨y,M,clk,rfl,hM,hmr,hBy⟩:=s.has.map he (qdh hes)
    have e1:=hcc y rfl
    subst e1
    have hlt:y.b<w.heap.size:=(Array.getElem?_eq_some_iff.1 hM).1
    rcases qdG (d := .int j) ⟨j,rfl⟩ hmr hes' 0 with⟨q,cc,g1,g2,g3⟩|⟨g1,g2⟩
    ·obtain⟨s2,l2⟩:=s.wad (M:=M.eraseIdxIfInBounds q) (clk':=clk) (qdh hes) he hBy hlt (by
      rw [Array.toList_eraseIdxIfInBounds];exact g3)
     refine⟨.tuple #[],_,E,.inl ?_,s2,l2,vn⟩
     rw [hbs]
     simp only [builtin,Builtin.delete_,ht,a2,a3,Sem.run_bind,run_underlying hu,Result.andThen_ok,qdi (P:=P) hM]
     rw [qdf hk _ _ _ 9999]
     simp only [Instr.findKey,Sem.run_bind,run_underlying hk,Result.andThen_ok,g1,Sem.run_pure,Nat.zero_add]
     rw [qdH (P:=P) hM]
     rfl
    ·obtain⟨s2,l2⟩:=s.wad (M:=M) (clk':=clk) (qdh hes) he hBy hlt g2
     refine⟨.tuple #[],_,E,.inl ?_,s2,l2,vn⟩
     rw [hbs]
     simp only [builtin,Builtin.delete_,ht,a2,a3,Sem.run_bind,run_underlying hu,Result.andThen_ok,qdi (P:=P) hM]
     rw [qdf hk _ _ _ 9999]
     simp only [Instr.findKey,Sem.run_bind,run_underlying hk,Result.andThen_ok,g1,Sem.run_pure]
     rw [qdH (P:=P) hM]
     rfl
end
def Boxed (B0:Nat)(E:Emb)(w:World)(v:Value)(c:Value)(b:Nat):Prop :=
 ∃cs C ty,v = .agg cs/\c = .pointer (some ⟨b,0,none⟩)/\w.heap[b]? = some (.cells C ty (0,0))/\VRs E cs.toList C.toList/\B0<=b
def Boxed.mono {B0:Nat}{E E':Emb}{w:World}{v c:Value}{b:Nat}(h:E.le E')(k:Boxed B0 E w v c b):Boxed B0 E' w v c b:=by
 obtain⟨cs,C,ty,h1,h2,h3,h4,h5⟩:=k
 exact⟨cs,C,ty,h1,h2,h3,h4.mono h,h5⟩
def Boxed.world {B0:Nat}{E:Emb}{w w':World}{v c:Value}{b:Nat}(h:w'.heap[b]? = w.heap[b]?)(k:Boxed B0 E w v c b):Boxed B0 E w' v c b:=by
 obtain⟨cs,C,ty,h1,h2,h3,h4,h5⟩:=k
 exact⟨cs,C,ty,h1,h2,h.trans h3,h4,h5⟩
def Boxed.lt {B0:Nat}{E:Emb}{w:World}{v c:Value}{b:Nat}(k:Boxed B0 E w v c b):b<w.heap.size:=by
 obtain⟨cs,C,ty,h1,h2,h3,h4,h5⟩:=k
 exact(Array.getElem?_eq_some_iff.1 h3).1
section
variable {P:Program}{LB:List Nat}{E:Emb}{f:Fr}{a:Act}{call:qaM}{lo:Nat}{h h':qab}{v:Value}{w w0:World}{B0:Nat}
variable {dst:Option Nat}{ty:TypeId}{pos:String}{after:Array Edge}{guard:Option (Nat×Bool)}
def qdK {t u:TypeId}{x:Operand}{fi off o' b:Nat}(hf:qa7 P t fi=some (off,u))(hx:a.eval x = .pointer (some ⟨b,o',none⟩))(w:World) :
  (execOp a.eval ⟨dst,.fieldAddr t x fi,ty,pos,after,guard⟩).run P w = .ok (.value (.pointer (some ⟨b,o'+off,none⟩))) w:=by
 obtain⟨fs,fd,hu1,hfd,rfl,rfl,n,hn⟩:=qbP hf
 simp [execOp,hx,Instr.fieldAt,run_underlying hu1,hfd,Instr.sureAddr,fieldPlace,qbG hn,qcK]
def qdL {t:TypeId}{x:Operand}{n:Option Nat}{off b:Nat}{cs:Array Value}(hn:tyN P t=some n)(hx:a.eval x = .pointer (some ⟨b,off,none⟩)){c:Value}(hb:Boxed B0 E w (.agg cs) c b)
  (hp:part n cs.toList off=some v):∃d,(execOp a.eval ⟨dst,.load t x,ty,pos,after,guard⟩).run P w = .ok (.value d) w/\VR E v d:=by
 obtain⟨cs',C,ct,h1,h2,h3,h4,h5⟩:=hb
 injection h1 with h1
 subst h1
 have hag:=qbL hn w
 cases n with
 | none =>
   simp only [part]at hp
   obtain⟨d,h6,h7⟩:=h4.get hp
   refine⟨d, ?_,h7⟩
   have:w.cell? ⟨b,off,none⟩=some d:=by rw [qc4 h3];simpa using h6
   simp [execOp,hx,Instr.loadAt,Instr.sureAddr,loadVar,hag,this]
 | some n =>
   simp only [part]at hp
   obtain⟨hle,rfl⟩:=qc0 hp
   have hl:=h4.length
   simp at hl hle
   have hr:=qc5 (P:=P) h3 (o:=off) (n:=n) (by omega)
   refine⟨.agg (((C.toList.drop off).take n).toArray), ?_,.agg _ _ ?_⟩
   ·simp [execOp,hx,Instr.loadAt,Instr.sureAddr,loadVar,hag,qbG (qbM hn),hr]
   ·simp only [List.toList_toArray]
    exact(h4.drop off).take n
def qdM {t:TypeId}{x y:Operand}{n off b:Nat}{cs:Array Value}{u:Value}(hn:qa4 P t=some n)(hx:a.eval x = .pointer (some ⟨b,off,none⟩)){c:Value}(hb:Boxed B0 E w (.agg cs) c b)
  (hy:VR E u (a.eval y)) (hl:(qaf u).length=n) (h1:(qaf u).all qad=true) (hle:off+n<=cs.toList.length) :
  ∃C',(execOp a.eval ⟨dst,.store t x y,ty,pos,after,guard⟩).run P w = .ok .skip (w.setRow b C')/\Boxed B0 E (w.setRow b C') (.agg (splice cs.toList off (qaf u)).toArray) c b:=by
 obtain⟨cs',C,ct,e1,h2,h3,h4,h5⟩:=hb
 injection e1 with e1
 subst e1
 have hcl:=hy.cells
 have hsz:(a.eval y).cells.size=n:=by have:=hcl.length;simp at this;omega
 have hlen:=h4.length
 simp at hlen hle
 have hr:=run_storeCells_at (P:=P) b off ct (a.eval y).cells.toList 0 C w h3 (by simp;omega) (hcl.one h1)
 refine⟨(splice C.toList (off+0) (a.eval y).cells.toList).toArray, ?_,(splice cs.toList off (qaf u)).toArray,_,ct,rfl,h2,qc9 h3, ?_,h5⟩
 ·simp only [splice]
  simp only [execOp,hx,Instr.storeAt,Instr.sureAddr,storeVar,Sem.run_bind,Sem.run_pure,Result.andThen_ok,qbG hn,hsz,ne_eq,not_true,if_false,hr]
 ·simp only [List.toList_toArray,Nat.add_zero]
  exact h4.splice hcl off
def qdN {x:Operand}{t:TypeId}{u:Value}(hB:B0<=w.heap.size)(hx:VR E u (a.eval x)) :
  ∃obj,(execOp a.eval ⟨dst,.box t x,ty,pos,after,guard⟩).run P w = .ok (.value (.pointer (some ⟨w.heap.size,0,none⟩))) (w.alloc obj)/\
   Boxed B0 E (w.alloc obj) (.agg (qaf u).toArray) (.pointer (some ⟨w.heap.size,0,none⟩)) w.heap.size:=by
 refine⟨.cells (a.eval x).cells t,by simp [execOp,Instr.box,newVar,newRow],_,_,t,rfl,rfl,qdp w _, ?_,hB⟩
 simp only [List.toList_toArray]
 exact hx.cells
def qdO {t:TypeId}{z:Value}(hz:qa6 P t=some z)(hB:B0<=w.heap.size) :
  ∃obj,(execOp a.eval ⟨dst,.alloc t,ty,pos,after,guard⟩).run P w = .ok (.value (.pointer (some ⟨w.heap.size,0,none⟩))) (w.alloc obj)/\
   Boxed B0 E (w.alloc obj) (.agg (qaf z).toArray) (.pointer (some ⟨w.heap.size,0,none⟩)) w.heap.size:=by
 obtain⟨hz1,hz2,hz3⟩:=qbJ hz
 refine⟨.cells z.cells t,by simp [execOp,Instr.alloc,qbI hz1,newVar,newRow],_,_,t,rfl,rfl,qdp w _, ?_,hB⟩
 simp only [List.toList_toArray]
 rw [qbK]at hz3|-
 exact VRs.flat hz3
def Sim.aside (s:Sim B0 w0 E h w){b:Nat}{C':Array Value}(hB:B0<=b)(hn:∀j y,E j=some (some y)->y.b≠b):Sim B0 w0 E h (w.setRow b C') :=
 ⟨Below.setRow s.below hB _,s.out,s.dead,fun i k hi hk=>by
   obtain⟨x,hx,hb⟩:=s.live i k hi hk
   exact⟨x,hx,hb.world (qda (hn i x hx))⟩,s.inj⟩
def Sim.y8 (s:Sim B0 w0 E h w)(hB:B0<=w.heap.size)(obj:Obj):Sim B0 w0 E h (w.alloc obj) :=
 ⟨s.below.alloc hB obj,s.out,s.dead,fun i k hi hk=>by
   obtain⟨x,hx,hb⟩:=s.live i k hi hk
   exact⟨x,hx,hb.world (Go.RowKit.Below.heap_alloc _ _ _ (hb.lt hk))⟩,s.inj⟩
end
end Go.Ir
