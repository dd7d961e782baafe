/- A small language with a computable interpreter over an abstract heap, into which the loaded functions are translated (YtlgnnpkdhbhdgaaGreatIrComp). No program in sight. -/
import GoSem.Dispatch
import Derived.Below
import Derived.Laws.Sem
import Derived.Laws.Entries
import Derived.Laws.CopyRow
import Derived.ChangeKeysEq
import Derived.Laws.StructEq
set_option linter.all false
namespace Go.Ir
def zzL {n m:Nat}(h:Nat.ble n m=true):n<=m:=Nat.le_of_ble_eq_true h
def zzC := @List.getElem?_concat_length
def zzA := @List.getElem?_append_left
def zzB := @List.getElem?_append_right
def zzS := @List.getElem?_eq_some_iff
def zzG := @List.getElem?_eq_getElem
def zzN := @List.getElem?_set_ne
def zzE := @List.getElem?_eq_none
def zzX.{u}{α:Sort u}{p:α->Prop}{b:Prop}(h:∃x,p x)(k:∀a,p a->b):b:=Exists.elim h k
def zzR (n:Nat):n<=n:=Nat.le_refl n
def zzZ (n:Nat):0<=n:=Nat.zero_le n
def zzF := @decide_eq_false
def zzT := @decide_eq_true
def zzM := @List.length_append
def zzQ := @List.length_set
abbrev Fr:=List (Nat×Value)
def qaa:Fr->Nat->Option Value
 | [],_=>none
 | (k,v)::r,t=>if k=t then some v else qaa r t
def yG (f:Fr)(d:Option Nat)(v:Value):Fr :=
 match d with
 | none=>f
 | some d=>(d,v)::f
def keep:List Nat->Fr->Fr
 | [],_ => []
 | t::ls,f =>
   match qaa f t with
   | some v=>(t,v)::keep ls f
   | none=>keep ls f
inductive Blk where
 | row (cs:List Value) (ro:Bool)
 | map (es:List (Value×Value))
 | dead
abbrev qab:=List Blk
def qac (h:qab)(b:Nat):Option (List Value) :=
 match h[b]? with
 | some (.row cs _)=>some cs
 | _=>none
def ld1 (h:qab)(a:Addr):Option Value :=
 match qac h a.block with
 | some cs=>cs[a.off]?
 | none=>none
def ldN (h:qab)(a:Addr)(n:Nat):Option (List Value) :=
 match qac h a.block with
 | some cs=>if a.off+n<=cs.length then some ((cs.drop a.off).take n)else none
 | none=>none
def splice (cs:List Value)(off:Nat)(vs:List Value):List Value :=
 cs.take off++vs++cs.drop (off+vs.length)
def qad:Value->Bool
 | .agg _ | .tuple _=>false
 | _=>true
def stN (lo:Nat)(h:qab)(a:Addr)(vs:List Value):Option qab :=
 match h[a.block]? with
 | some (.row cs ro) =>
   if lo<=a.block then
    if ro=false then
     if a.off+vs.length<=cs.length then some (h.set a.block (.row (splice cs a.off vs) false))else none
    else none
   else none
 | _=>none
def yl:Value->Bool
 | .bool _ | .int _ _ | .float _ _ | .complex _ _ _ | .string _ | .nilFunc | .nilIface=>true
 | .pointer a=>a.isNone
 | .slice a n c=>a.isNone&&n==0&&c==0
 | .map r=>r.isNone
 | _=>false
def qae:Value->Bool
 | .agg cs=>cs.toList.all yl
 | .tuple cs=>cs.toList.all yl
 | v=>yl v
def qaf:Value->List Value
 | .agg cs=>cs.toList
 | v => [v]
def qag:Value := .tuple #[]
def qah:Value := .chan (some 0)
def loose (b off:Nat):Addr:=⟨b,off,some 0⟩
def tight (a:Addr):Addr:=⟨a.block,a.off,none⟩
inductive EqK where
 | bool
 | nil (k:Nat)
 | cells (l:List (Nat×Nat))
inductive qai where
 | int (k:IntKind)
 | float (k:FloatKind)
 | same
inductive IOp where
 | yy (x:Operand)
 | pick (c a b:Operand)
 | load (n:Option Nat) (x:Operand)
 | store (n:Nat) (x v:Operand)
 | box (v:Operand)
 | yi (v:Operand)
 | yd (s:Option Nat) (b off:Nat)
 | yc (s:Option Nat) (b off:Nat) (n:Option Nat)
 | yu (s:Option Nat) (b off n:Nat) (v:Operand)
 | build (zero:List Value) (parts:List (Nat×Nat×Operand))
 | buildSlice (esz len:Nat) (zero:List Value) (parts:List (Nat×Nat×Operand))
 | yo (off:Nat) (x:Operand)
 | field (off:Nat) (n:Option Nat) (x:Operand)
 | yn (len:Option Nat) (esz:Nat) (x i:Operand)
 | index (len esz:Nat) (n:Option Nat) (x i:Operand)
 | yN (x i:Operand)
 | ym (x:Operand)
 | ye (name:String) (tab:List (Nat×Nat)) (x:Operand)
 | bin (op:BinOp) (x y:Operand)
 | eqv (neg:Bool) (k:EqK) (x y:Operand)
 | un (op:UnOp) (x:Operand)
 | conv (k:qai) (x:Operand)
 | yJ (t:Nat) (x:Operand)
 | yr (fn:Fn) (first caps:List Operand)
 | yA (esz bytes:Nat) (zero:List Value) (n c:Operand)
 | slice (esz:Nat) (x:Operand) (lo hi mx:Option Operand)
 | yY (len esz:Nat) (x:Operand) (lo hi mx:Option Operand)
 | yW (x:Operand) (lo hi:Option Operand)
 | extract (x:Operand) (i:Nat)
 | call (f:Nat) (args:List Operand)
 | yt (x:Operand) (args:List Operand)
 | invoke (tab:List (Nat×Nat)) (x:Operand) (args:List Operand)
 | append (esz bytes:Nat) (x y:Operand)
 | len (str:Bool) (x:Operand)
 | copy (esz:Nat) (x y:Operand)
 | clear (esz:Nat) (zero:List Value) (x:Operand)
 | min (xs:List Operand)
 | max (xs:List Operand)
 | wac (x y:Operand)
 | re (x:Operand)
 | im (x:Operand)
 | yK
 | lookup (zero:Value) (ok:Bool) (m k:Operand)
 | yH (m k v:Operand)
 | yF (m k:Operand)
 | yE (m:Operand)
structure IOper where
 dst:Option Nat
 op:IOp
 guard:Option (Nat×Bool)
 wam:Nat
inductive ICode where
 | skip
 | region (ops:List IOper)
 | seq (a b:ICode)
 | cond (c:Operand) (a b:ICode)
 | block (id:Nat) (b:ICode)
 | loop (ls:List Nat) (b:ICode)
 | exit (id:Nat)
 | scope (b:ICode)
 | label (l:Nat)
 | goto (l:Nat) (ls:List Nat)
 | ret
inductive qaj where
 | tmp (t:Nat)
 | cell (t:Nat) (n:Option Nat)
 | lb (t:Nat) (n:Option Nat)
structure qak where
 lb:List Nat
 body:ICode
 res:List qaj
 wau:Bool
 yT:Nat
def ev (f:Fr):Operand->Option Value
 | .tmp t=>qaa f t
 | .const v=>some v
 | .func g=>some (.func (.func g) #[] #[])
 | .global _=>none
def evs (f:Fr):List Operand->Option (List Value)
 | []=>some []
 | x::r =>
   match ev f x with
   | some v =>
     match evs f r with
     | some vs=>some (v::vs)
     | none=>none
   | none=>none
def wan (f:Fr):List (Nat×Nat×Operand)->Option (List (Nat×Nat×Value))
 | []=>some []
 | (o,n,x)::r =>
   match ev f x with
   | some v =>
     match wan f r with
     | some vs=>some ((o,n,v)::vs)
     | none=>none
   | none=>none
def qal (cells:List Value):List (Nat×Nat×Value)->Option (List Value)
 | []=>some cells
 | (off,n,v)::r =>
   if(qaf v).length=n then
    if off+n<=cells.length then qal (splice cells off (qaf v)) r else none
   else none
def qam (op:BinOp)(k:IntKind)(a b:Int):Option Value :=
 match op with
 | .add=>some (.int k (k.wrap (a+b)))
 | .sub=>some (.int k (k.wrap (a-b)))
 | .mul=>some (.int k (k.wrap (a*b)))
 | .quo=>if b=0 then none else some (.int k (k.wrap (a.tdiv b)))
 | .rem=>if b=0 then none else some (.int k (a.tmod b))
 | .eql=>some (.bool (a==b))
 | .neq=>some (.bool (a != b))
 | .lss=>some (.bool (decide (a<b)))
 | .leq=>some (.bool (decide (a<=b)))
 | .gtr=>some (.bool (decide (b<a)))
 | .geq=>some (.bool (decide (b<=a)))
 | .and=>some (.int k (k.wrap (BitVec.ofInt k.bits a &&& BitVec.ofInt k.bits b).toNat))
 | .or=>some (.int k (k.wrap (BitVec.ofInt k.bits a ||| BitVec.ofInt k.bits b).toNat))
 | .xor=>some (.int k (k.wrap (BitVec.ofInt k.bits a ^^^ BitVec.ofInt k.bits b).toNat))
 | .andNot=>some (.int k (k.wrap (BitVec.ofInt k.bits a &&& ~~~BitVec.ofInt k.bits b).toNat))
 | _=>none
def qan (op:BinOp)(k:IntKind)(a b:Int):Option Value :=
 if b<0 then none
 else match op with
  | .shl=>some (.int k (k.wrap (a*2 ^ (min b.toNat k.bits))))
  | .shr=>some (.int k (a.fdiv (2 ^ (min b.toNat k.bits))))
  | _=>none
def qao (op:BinOp)(a b:ByteArray):Option Value :=
 match op with
 | .add=>if a.size+b.size<=2 ^ 62 then some (.string (a++b))else none
 | .eql=>some (.bool (a.toList==b.toList))
 | .neq=>some (.bool (!(a.toList==b.toList)))
 | _=>none
def qap:BinOp->Bool
 | .shl | .shr=>true
 | _=>false
def qaq (op:BinOp):Value->Value->Option Value
 | .int k a,.int k' b =>
   if qap op then qan op k a b
   else if k=k' then qam op k a b else none
 | .string a,.string b=>qao op a b
 | .float k a,.float k' b =>
   match op with
   | .add =>
     if k=k' then
      match k.format.add a b with
      | some r=>some (.float k r)
      | none=>none
     else none
   | _=>none
 | _,_=>none
def eq1:Value->Value->Option Bool
 | .int k a,.int k' b=>if k=k' then some (a==b)else none
 | .bool a,.bool b=>some (a==b)
 | .string a,.string b=>some (a==b)
 | _,_=>none
def qar (t:Nat):Value->Value->Option Bool
 | .int k a,.int k' b=>if t=0/\k=k' then some (a==b)else none
 | .bool a,.bool b=>if t=1 then some (a==b)else none
 | .string a,.string b=>if t=2 then some (a.toList==b.toList)else none
 | _,_=>none
def yp (xs ys:List Value):List (Nat×Nat)->Option Bool
 | []=>some true
 | (i,t)::r =>
   match xs[i]?,ys[i]? with
   | some x,some y =>
     match qar t x y with
     | some b =>
       match yp xs ys r with
       | some c=>some (b&&c)
       | none=>none
     | none=>none
   | _,_=>none
def qas (k:Nat):Value->Option Bool
 | .pointer a=>if k=0 then some a.isNone else none
 | .slice a _ _=>if k=1 then some a.isNone else none
 | .map r=>if k=2 then some r.isNone else none
 | .nilFunc=>if k=3 then some true else none
 | .func _ _ _=>if k=3 then some false else none
 | .nilIface=>if k=4 then some true else none
 | .iface _ _=>if k=4 then some false else none
 | _=>none
def ieq (k:EqK)(x y:Value):Option Bool :=
 match k with
 | .bool =>
   match x,y with
   | .bool a,.bool b=>some (a==b)
   | _,_=>none
 | .nil k =>
   match qas k y with
   | some true=>qas k x
   | some false=>if qas k x=some true then some false else none
   | none=>none
 | .cells l =>
   match x,y with
   | .agg xs,.agg ys=>yp xs.toList ys.toList l
   | _,_=>none
def iun (op:UnOp)(x:Value):Option Value :=
 match op,x with
 | .neg,.int k n=>some (.int k (k.wrap (0-n)))
 | .not,.bool b=>some (.bool !b)
 | .xor,.int k n=>qam .xor k (if k.signed then -1 else k.max) n
 | _,_=>none
def qat (k:qai)(x:Value):Option Value :=
 match k,x with
 | .int k,.int _ n=>some (.int k (k.wrap n))
 | .float k,.int _ n=>some (.float k (k.nearest n))
 | .int k,.float s b =>
   match (s.decode b).toInt .zero with
   | some n=>if k.min<=n/\n<=k.max then some (.int k n)else none
   | none=>none
 | .same,.string s=>some (.string s)
 | _,_=>none
def part (n:Option Nat)(cs:List Value)(off:Nat):Option Value :=
 match n with
 | none=>cs[off]?
 | some n=>if off+n<=cs.length then some (.agg ((cs.drop off).take n).toArray)else none
def qau (h:qab)(n:Option Nat)(a:Addr):Option Value :=
 match n with
 | none=>ld1 h a
 | some n =>
   match ldN h a n with
   | some l=>some (.agg l.toArray)
   | none=>none
def qav (x:Value)(y:Nat):Option Nat :=
 match x with
 | .int _ i=>if 0<=i/\i<=(y:Int)then some i.toNat else none
 | _=>none
def qaw (cap:Nat):Option Value->Option Nat
 | some v=>qav v cap
 | none=>some cap
def qax (len m:Nat):Option Value->Option Value->Option Nat
 | some v,_=>qav v m
 | none,none=>some len
 | none,some _=>none
def qay (hh:Nat):Option Value->Option Nat
 | some v=>qav v hh
 | none=>some 0
def qaz (len cap:Nat)(lo hi mx:Option Value):Option (Nat×Nat×Nat) :=
 match qaw cap mx with
 | none=>none
 | some m =>
   match qax len m hi mx with
   | none=>none
   | some hh =>
     match qay hh lo with
     | none=>none
     | some l=>some (l,hh,m)
def waa (f:Fr):Option Operand->Option (Option Value)
 | none=>some none
 | some x =>
   match ev f x with
   | some v=>some (some v)
   | none=>none
def qaA (esz:Nat)(x:Value)(lo hi mx:Option Value):Option Value :=
 match x with
 | .slice none _ _ =>
   match qaz 0 0 lo hi mx with
   | some (_,_,_)=>some (.slice none 0 0)
   | none=>none
 | .slice (some a) len cap =>
   match a.spot with
   | none =>
     match qaz len cap lo hi mx with
     | some (l,hh,m)=>some (.slice (some (if m=l then a else a.add (l*esz))) (hh-l) (m-l))
     | none=>none
   | some _ =>
     match mx with
     | some _ =>
       match qaz len len lo hi mx with
       | some (l,hh,m)=>if m=l then some (.slice (some (tight a)) 0 0)else if hh=l then none else some (.slice (some ⟨a.block,a.off+l*esz,none⟩) (hh-l) (m-l))
       | none=>none
     | none =>
       if cap=esz then
        match qaz len len lo hi none with
        | some (l,hh,_)=>some (.slice (some (loose a.block (a.off+l*esz))) (hh-l) esz)
        | none=>none
       else none
 | _=>none
def callee:Value->Option (Nat×List Value)
 | .func (.func g) first caps=>if first.size=0 then some (g,caps.toList)else none
 | _=>none
def qaB:Value->Option Nat
 | .slice _ n _=>some n
 | .string s=>some s.size
 | _=>none
def qaC (h:qab)(esz n:Nat)(x:Value):Option (List Value) :=
 match x with
 | .slice none _ _=>some []
 | .slice (some a) _ _=>if n=0 then some []else ldN h a (n*esz)
 | _=>none
def qaD:Option Addr->Bool
 | none=>true
 | some a=>a.spot.isNone
def qaE (lo esz bytes:Nat)(h:qab)(x y:Value):Option (Value×qab) :=
 match x,qaB y with
 | .slice base len cap,some n =>
   if(len+n<=2 ^ 30/\bytes<=2 ^ 12)\/(cap=0/\qaD base=true/\(len+n)*bytes<=2 ^ 47/\len+n<=2 ^ 47)then
    match qaC h esz n y with
    | none=>none
    | some new =>
      match base with
      | none=>if n=0 then some (x,h)else some (.slice (some (loose h.length 0)) n esz,h ++ [.row new false])
      | some a =>
        match a.spot with
        | none =>
          if len+n<=cap then
           if n=0 then some (x,h)
           else match stN lo h (a.add (len*esz)) new with
            | some h'=>some (.slice (some a) (len+n) cap,h')
            | none=>none
          else
           match qaC h esz len x with
           | some old=>some (.slice (some (loose h.length 0)) (len+n) esz,h ++ [.row (old++new) false])
           | none=>none
        | some _ =>
          if n=0 then some (x,h)
          else match qaC h esz len x,h[a.block]? with
           | some old,some (.row _ false) =>
             if cap=esz/\lo<=a.block then some (.slice (some (loose h.length 0)) (len+n) esz,h.set a.block .dead ++ [.row (old++new) false])
             else none
           | _,_=>none
   else none
 | _,_=>none
def qaF (k:Value):List (Value×Value)->Option (Option Value)
 | []=>some none
 | (j,v)::r =>
   match eq1 k j with
   | some true=>some (some v)
   | some false=>qaF k r
   | none=>none
def qaG (k v:Value):List (Value×Value)->Option (List (Value×Value))
 | []=>some [(k,v)]
 | (j,u)::r =>
   match eq1 k j with
   | some true=>some ((k,v)::r)
   | some false =>
     match qaG k v r with
     | some r=>some ((j,u)::r)
     | none=>none
   | none=>none
def qaH (k:Value):List (Value×Value)->Option (List (Value×Value))
 | []=>some []
 | (j,u)::r =>
   match eq1 k j with
   | some true=>some r
   | some false =>
     match qaH k r with
     | some r=>some ((j,u)::r)
     | none=>none
   | none=>none
def hmap (h:qab)(b:Nat):Option (List (Value×Value)) :=
 match h[b]? with
 | some (.map es)=>some es
 | _=>none
def qaI:Value->Bool
 | .int _ _=>true
 | _=>false
def qaJ (k:IntKind)(n:Int):List Value->Option Int
 | []=>some n
 | .int j m::r=>if j=k then qaJ k (if m<n then m else n) r else none
 | _::_=>none
def qaK (k:IntKind)(n:Int):List Value->Option Int
 | []=>some n
 | .int j m::r=>if j=k then qaK k (if n<m then m else n) r else none
 | _::_=>none
def qaL (zero:List Value):Nat->List Value
 | 0 => []
 | n+1=>zero++qaL zero n
abbrev qaM:=Nat->List Value->qab->Option (Value×qab)
def yM (f:Fr):Option Nat->Bool
 | none=>true
 | some s =>
   match qaa f s with
   | some (.chan (some n))=>n==0
   | _=>false
def yf (call:qaM)(lo:Nat)(o:IOp)(f:Fr)(h:qab):Option (Value×qab) :=
 match o with
 | .yy x =>
   match ev f x with
   | some v=>some (v,h)
   | none=>none
 | .pick c a b =>
   match ev f c with
   | some (.bool t) =>
     match (if t then ev f a else ev f b)with
     | some v=>some (v,h)
     | none=>none
   | _=>none
 | .load n x =>
   match ev f x with
   | some (.pointer (some a)) =>
     match qau h n a with
     | some v=>some (v,h)
     | none=>none
   | _=>none
 | .store n x v =>
   match ev f x,ev f v with
   | some (.pointer (some a)),some v =>
     if(qaf v).length=n/\(qaf v).all qad=true then
      match stN lo h a (qaf v)with
      | some h'=>some (qag,h')
      | none=>none
     else none
   | _,_=>none
 | .box v =>
   match ev f v with
   | some v=>if(qaf v).all qad then some (.pointer (some ⟨h.length,0,none⟩),h ++ [.row (qaf v) false])else none
   | none=>none
 | .yi v =>
   match ev f v with
   | some v=>some (.agg (qaf v).toArray,h)
   | none=>none
 | .yd s b _ =>
   if yM f s then
    match qaa f b with
    | some (.agg _)=>some (qah,h)
    | _=>none
   else none
 | .yc s b off n =>
   if yM f s then
    match qaa f b with
    | some (.agg cs) =>
      match part n cs.toList off with
      | some v=>some (v,h)
      | none=>none
    | _=>none
   else none
 | .yu s b off n v =>
   if yM f s then
    match qaa f b,ev f v with
    | some (.agg cs),some v =>
      if(qaf v).length=n/\(qaf v).all qad=true then
       if off+n<=cs.toList.length then some (.agg (splice cs.toList off (qaf v)).toArray,h)else none
      else none
    | _,_=>none
   else none
 | .build zero parts =>
   match wan f parts with
   | some ps =>
     match qal zero ps with
     | some cs=>some (.agg cs.toArray,h)
     | none=>none
   | none=>none
 | .buildSlice esz len zero parts =>
   match wan f parts with
   | some ps =>
     match qal zero ps with
     | some cs=>if cs.all qad then some (.slice (some ⟨h.length,0,none⟩) len len,h ++ [.row cs false])else none
     | none=>none
   | none=>none
 | .yo off x =>
   match ev f x with
   | some (.pointer (some a))=>some (.pointer (some ⟨a.block,a.off+off,none⟩),h)
   | _=>none
 | .field off n x =>
   match ev f x with
   | some (.agg cs) =>
     match part n cs.toList off with
     | some v=>some (v,h)
     | none=>none
   | _=>none
 | .yn len esz x i =>
   match ev f x,ev f i with
   | some v,some (.int _ i) =>
     match len,v with
     | some len,.pointer (some a)=>if 0<=i/\i<(len:Int)then some (.pointer (some ⟨a.block,a.off+i.toNat*esz,none⟩),h)else none
     | none,.slice (some a) len _=>if 0<=i/\i<(len:Int)then some (.pointer (some ⟨a.block,a.off+i.toNat*esz,none⟩),h)else none
     | _,_=>none
   | _,_=>none
 | .index len esz n x i =>
   match ev f x,ev f i with
   | some (.agg cs),some (.int _ i) =>
     if 0<=i/\i<(len:Int)then
      match part n cs.toList (i.toNat*esz)with
      | some v=>some (v,h)
      | none=>none
     else none
   | _,_=>none
 | .yN x i =>
   match ev f x,ev f i with
   | some (.string s),some (.int _ i) =>
     if 0<=i then
      match s.data.toList[i.toNat]? with
      | some b=>some (.int .u8 b.toNat,h)
      | none=>none
     else none
   | _,_=>none
 | .ym x =>
   match ev f x with
   | some (.pointer (some a))=>some (.pointer (some a),h)
   | some (.iface t v)=>some (.iface t v,h)
   | some (.func (.func g) a b)=>some (.func (.func g) a b,h)
   | _=>none
 | .ye name tab x =>
   match ev f x with
   | some (.func (.method n) a b) =>
     if n=name then
      match a.toList with
      | .iface t _::_ =>
        match tab.lookup t with
        | some _=>some (.func (.method n) a b,h)
        | none=>none
      | _=>none
     else none
   | _=>none
 | .bin op x y =>
   match ev f x,ev f y with
   | some x,some y =>
     match qaq op x y with
     | some v=>some (v,h)
     | none=>none
   | _,_=>none
 | .eqv neg k x y =>
   match ev f x,ev f y with
   | some x,some y =>
     match ieq k x y with
     | some b=>some (.bool (if neg then !b else b),h)
     | none=>none
   | _,_=>none
 | .un op x =>
   match ev f x with
   | some x =>
     match iun op x with
     | some v=>some (v,h)
     | none=>none
   | none=>none
 | .conv k x =>
   match ev f x with
   | some x =>
     match qat k x with
     | some v=>some (v,h)
     | none=>none
   | none=>none
 | .yJ t x =>
   match ev f x with
   | some v=>some (.iface t v,h)
   | none=>none
 | .yr fn first caps =>
   match evs f first,evs f caps with
   | some first,some caps=>some (.func fn first.toArray caps.toArray,h)
   | _,_=>none
 | .yA esz bytes zero n c =>
   match ev f n,ev f c with
   | some (.int .i64 n),some (.int .i64 c) =>
     if 0<=n/\n<=c/\c<=2 ^ 30/\bytes<=2 ^ 12 then
      some (.slice (some ⟨h.length,0,none⟩) n.toNat c.toNat,h ++ [.row (qaL zero c.toNat) false])
     else none
   | _,_=>none
 | .slice esz x lo hi mx =>
   match ev f x,waa f lo,waa f hi,waa f mx with
   | some x,some lo,some hi,some mx =>
     match qaA esz x lo hi mx with
     | some v=>some (v,h)
     | none=>none
   | _,_,_,_=>none
 | .yY len esz x lo hi mx =>
   match ev f x,waa f lo,waa f hi,waa f mx with
   | some (.pointer (some a)),some lo,some hi,some mx =>
     match qaz len len lo hi mx with
     | some (l,hh,m)=>some (.slice (some (if m=l then a else a.add (l*esz))) (hh-l) (m-l),h)
     | none=>none
   | _,_,_,_=>none
 | .yW x lo hi =>
   match ev f x,waa f lo,waa f hi with
   | some (.string s),some lo,some hi =>
     match qaz s.size s.size lo hi none with
     | some (l,hh,_)=>some (.string (s.extract l hh),h)
     | none=>none
   | _,_,_=>none
 | .extract x i =>
   match ev f x with
   | some (.tuple vs) =>
     match vs.toList[i]? with
     | some v=>some (v,h)
     | none=>none
   | _=>none
 | .call g args =>
   match evs f args with
   | some vs=>call g vs h
   | none=>none
 | .yt x args =>
   match ev f x,evs f args with
   | some fv,some vs =>
     match callee fv with
     | some (g,caps)=>call g (vs++caps) h
     | none=>none
   | _,_=>none
 | .invoke tab x args =>
   match ev f x,evs f args with
   | some (.iface t v),some vs =>
     match tab.lookup t with
     | some g=>call g (v::vs) h
     | none=>none
   | _,_=>none
 | .append esz bytes x y =>
   match ev f x,ev f y with
   | some x,some y=>qaE lo esz bytes h x y
   | _,_=>none
 | .len str x =>
   match ev f x with
   | some (.slice _ n _)=>if str then none else some (.int .i64 n,h)
   | some (.string s)=>if str then some (.int .i64 s.size,h)else none
   | _=>none
 | .copy esz x y =>
   match ev f x,ev f y with
   | some (.slice base dlen _),some y =>
     match qaB y with
     | none=>none
     | some slen =>
       match qaC h esz (min slen dlen) y with
       | none=>none
       | some cs =>
         match base with
         | none=>some (.int .i64 (min slen dlen:Nat),h)
         | some a =>
           if min slen dlen=0 then some (.int .i64 (0:Nat),h)
           else match stN lo h (tight a) cs with
            | some h'=>some (.int .i64 (min slen dlen:Nat),h')
            | none=>none
   | _,_=>none
 | .clear esz zero x =>
   match ev f x with
   | some (.slice base n _) =>
     match base with
     | none=>some (qag,h)
     | some a =>
       if n=0 then some (qag,h)
       else match stN lo h (tight a) (qaL zero n)with
        | some h'=>some (qag,h')
        | none=>none
   | _=>none
 | .min xs =>
   match evs f xs with
   | some (.int k n::r) =>
     match qaJ k n r with
     | some m=>some (.int k m,h)
     | none=>none
   | _=>none
 | .max xs =>
   match evs f xs with
   | some (.int k n::r) =>
     match qaK k n r with
     | some m=>some (.int k m,h)
     | none=>none
   | _=>none
 | .wac x y =>
   match ev f x,ev f y with
   | some (.float k a),some (.float k' b)=>if k=k' then some (.complex k a b,h)else none
   | _,_=>none
 | .re x =>
   match ev f x with
   | some (.complex k a _)=>some (.float k a,h)
   | _=>none
 | .im x =>
   match ev f x with
   | some (.complex k _ b)=>some (.float k b,h)
   | _=>none
 | .yK=>some (.map (some h.length),h ++ [.map []])
 | .lookup zero ok m k =>
   match ev f m,ev f k with
   | some (.map r),some k =>
     if qaI k then
      match (match r with|none=>some []|some r=>hmap h r)with
      | none=>none
      | some es =>
        match qaF k es with
        | none=>none
        | some none=>some (if ok then .tuple #[zero,.bool false]else zero,h)
        | some (some v)=>some (if ok then .tuple #[v,.bool true]else v,h)
     else none
   | _,_=>none
 | .yH m k v =>
   match ev f m,ev f k,ev f v with
   | some (.map (some r)),some k,some v =>
     if qaI k/\lo<=r then
      match hmap h r with
      | none=>none
      | some es =>
        match qaG k v es with
        | some es'=>some (qag,h.set r (.map es'))
        | none=>none
     else none
   | _,_,_=>none
 | .yF m k =>
   match ev f m,ev f k with
   | some (.map r),some k =>
     if qaI k then
      match r with
      | none=>some (qag,h)
      | some r =>
        if lo<=r then
         match hmap h r with
         | none=>none
         | some es =>
           match qaH k es with
           | some es'=>some (qag,h.set r (.map es'))
           | none=>none
        else none
     else none
   | _,_=>none
 | .yE m =>
   match ev f m with
   | some (.map r) =>
     match (match r with|none=>some []|some r=>hmap h r)with
     | some es=>some (.int .i64 (es.length:Nat),h)
     | none=>none
   | _=>none
def qaN:Option Addr->Option Addr->Bool
 | none,none=>true
 | some a,some b=>a.block==b.block&&a.off==b.off&&a.spot==b.spot
 | _,_=>false
def qaO:Value->Value->Bool
 | .bool a,.bool b=>a==b
 | .int k a,.int j b=>(decide (k=j))&&a==b
 | .pointer a,.pointer b=>qaN a b
 | .slice a n c,.slice b m d=>qaN a b&&n==m&&c==d
 | .map a,.map b=>a==b
 | .nilIface,.nilIface=>true
 | .iface t (.pointer a),.iface u (.pointer b)=>t==u&&qaN a b
 | _,_=>false
def yO:List Value->List Value->Bool
 | [],[]=>true
 | x::xs,y::ys=>qaO x y&&yO xs ys
 | _,_=>false
def qaP:Value->Value->Bool
 | .agg xs,.agg ys=>yO xs.toList ys.toList
 | .tuple xs,.tuple ys=>yO xs.toList ys.toList
 | x,y=>qaO x y
def want (g:Option (Nat×Bool))(f:Fr):Option Bool :=
 match g with
 | none=>some true
 | some (t,w) =>
   match qaa f t with
   | some (.bool b)=>some (b==w)
   | some (.tuple vs)=>if vs.size=0 then some false else none
   | _=>none
def qaQ:IOp->Bool
 | .store .. | .call .. | .yt .. | .invoke .. | .append .. | .copy .. | .clear .. | .yH .. | .yF .. => true
 | _=>false
def yj (call:qaM)(lo:Nat)(o:IOp)(f:Fr)(v:Value):List qab->Bool
 | []=>true
 | h::hs =>
   match yf call lo o f h with
   | some (u,_)=>qaP u v&&yj call lo o f v hs
   | none=>false
def yw (call:qaM)(lo:Nat):List IOper->Fr->qab->List qab->Option (Fr×qab)
 | [],f,h,_=>some (f,h)
 | o::os,f,h,hs =>
   match want o.guard f with
   | none=>none
   | some false=>yw call lo os (yG f o.dst qag) h hs
   | some true =>
     match yf call lo o.op f h with
     | none=>none
     | some (v,h') =>
       if yj call lo o.op f v (hs.take o.wam)then yw call lo os (yG f o.dst v) h' (if qaQ o.op then h::hs else hs)
       else none
inductive Item where
 | code (c:ICode)
 | yC (id:Nat)
 | again (ls:List Nat) (b:ICode)
 | inScope (b:ICode)
def qaR (id:Nat):List Item->Option (List Item)
 | []=>none
 | .yC j::k=>if j=id then some k else qaR id k
 | _::k=>qaR id k
def qaS:ICode->Nat->Option ICode
 | .seq a b,l =>
   match qaS a l with
   | some r=>some (.seq r b)
   | none=>qaS b l
 | .label j,l=>if j=l then some .skip else none
 | _,_=>none
def qaT (l:Nat):List Item->Option (List Item)
 | []=>none
 | .inScope b::k =>
   match qaS b l with
   | some r=>some (.code r :: .inScope b::k)
   | none=>qaT l k
 | _::k=>qaT l k
def qaU (f:Fr)(h:qab):qaj->Option Value
 | .tmp t=>qaa f t
 | .cell t n =>
   match qaa f t with
   | some (.pointer (some a))=>qau h n a
   | _=>none
 | .lb t n =>
   match qaa f t with
   | some (.agg cs)=>part n cs.toList 0
   | _=>none
def qaV (f:Fr)(h:qab):List qaj->Option (List Value)
 | []=>some []
 | r::rs =>
   match qaU f h r with
   | some v =>
     match qaV f h rs with
     | some vs=>some (v::vs)
     | none=>none
   | none=>none
def results (rs:List qaj)(f:Fr)(h:qab):Option Value :=
 match qaV f h rs with
 | some [v]=>some v
 | some vs=>some (.tuple vs.toArray)
 | none=>none
def number:Nat->List Value->Fr
 | _,[] => []
 | n,v::vs=>(n,v)::number (n+1) vs
def qaW (n0:Nat)(h':qab)(v:Value)(acc:qab):Option (Value×qab) :=
 match v with
 | .slice (some a) len cap =>
   if a.block<n0 then some (v,acc)
   else
    match h'[a.block]? with
    | some (.row cs ro) =>
      if cs.all yl/\acc.length=n0 then some (.slice (some ⟨acc.length,a.off,a.spot⟩) len cap,acc ++ [.row cs ro])else none
    | _=>none
 | v=>if qae v then some (v,acc)else none
def qaX (n0:Nat)(h':qab):List Value->qab->Option (List Value×qab)
 | [],acc=>some ([],acc)
 | v::vs,acc =>
   match qaW n0 h' v acc with
   | some (v,acc) =>
     match qaX n0 h' vs acc with
     | some (vs,acc)=>some (v::vs,acc)
     | none=>none
   | none=>none
def tidy (h:qab)(v:Value)(h':qab):Option (Value×qab) :=
 match v with
 | .tuple vs =>
   match qaX h.length h' vs.toList h with
   | some (vs,acc)=>some (.tuple vs.toArray,acc)
   | none=>none
 | v=>qaW h.length h' v h
abbrev qaY:=Nat->List Value->qab->Option (Value×qab)
structure Env where
 fn:Nat->Option qak
 yS:Nat->Option qaY
abbrev ExF:=Nat->List Item->Fr->qab->Option (Fr×qab)
def qaZ (E:Env)(ex:ExF)(lo:Nat)(g:Nat)(args:List Value)(h:qab):Option (Value×qab) :=
 match E.yS g with
 | some p=>p lo args h
 | none =>
   match E.fn g with
   | none=>none
   | some fn =>
     if args.length≠fn.yT then none else
     match ex (if fn.wau then h.length else lo) [.code fn.body] (number 0 args) h with
     | none=>none
     | some (f',h') =>
       match results fn.res f' h' with
       | none=>none
       | some v=>if fn.wau then tidy h v h' else some (v,h')
def yq (E:Env):Nat->ExF
 | 0,_,_,_,_=>none
 | _+1,_,[],f,h=>some (f,h)
 | n+1,lo,it::k,f,h =>
   match it with
   | .yC _=>yq E n lo k f h
   | .again ls b=>yq E n lo (.code b :: .again ls b::k) (keep ls f) h
   | .inScope _=>yq E n lo k f h
   | .code c =>
     match c with
     | .skip=>yq E n lo k f h
     | .region ops =>
       match yw (qaZ E (yq E n) lo) lo ops f h []with
       | some (f',h')=>yq E n lo k f' h'
       | none=>none
     | .seq a b=>yq E n lo (.code a :: .code b::k) f h
     | .cond c a b =>
       match ev f c with
       | some (.bool t)=>yq E n lo (.code (if t then a else b)::k) f h
       | _=>none
     | .block id b=>yq E n lo (.code b :: .yC id::k) f h
     | .loop ls b=>yq E n lo (.code b :: .again ls b::k) (keep ls f) h
     | .exit id =>
       match qaR id k with
       | some k'=>yq E n lo k' f h
       | none=>none
     | .scope b=>yq E n lo (.code b :: .inScope b::k) f h
     | .label _=>yq E n lo k f h
     | .goto l ls =>
       match qaT l k with
       | some k'=>yq E n lo k' (keep ls f) h
       | none=>none
     | .ret=>some (f,h)
structure Ent where
 b:Nat
 base:Nat
 size:Nat
abbrev Emb:=Nat->Option (Option Ent)
def Emb.le (E E':Emb):Prop:=∀i e,E i=some e->E' i=some e\/E' i=some none
def Emb.le_refl (E:Emb):E.le E:=fun _ _ h => .inl h
def Emb.le_trans {E F G:Emb}(h:E.le F)(k:F.le G):E.le G:=fun i e hi=>by
 rcases h i e hi with h1|h1
 ·exact k i e h1
 ·rcases k i none h1 with h2|h2<;>exact .inr h2
mutual
inductive VR (E:Emb):Value->Value->Prop where
 | any (c:Option Addr):VR E (.chan (some 0)) (.pointer c)
 | bool (b:Bool):VR E (.bool b) (.bool b)
 | int (k:IntKind) (n:Int):VR E (.int k n) (.int k n)
 | float (k:FloatKind) (n:Nat):VR E (.float k n) (.float k n)
 | complex (k:FloatKind) (n m:Nat):VR E (.complex k n m) (.complex k n m)
 | string (s:ByteArray):VR E (.string s) (.string s)
 | wah:VR E (.pointer none) (.pointer none)
 | ptr (a c:Addr) (e:Option Ent) (hs:a.spot=none) (he:E a.block=some e) (hc:∀x,e=some x->c=⟨x.b,x.base+a.off,none⟩) :
    VR E (.pointer (some a)) (.pointer (some c))
 | yB:VR E (.slice none 0 0) (.slice none 0 0)
 | slice (a c:Addr) (n cap:Nat) (e:Option Ent) (hs:a.spot=none) (he:E a.block=some e) (hn:n<=cap)
    (hc:∀x,e=some x->0<cap->c=⟨x.b,x.base+a.off,none⟩):VR E (.slice (some a) n cap) (.slice (some c) n cap)
 | loose (a c:Addr) (n k cap:Nat) (e:Option Ent) (hs:a.spot=some 0) (he:E a.block=some e) (hn:n<=cap)
    (hc:∀x,e=some x->c.block=x.b/\c.spot=none/\(0<n->c.off=x.base+a.off)/\c.off+cap*k<=x.size) :
    VR E (.slice (some a) n k) (.slice (some c) n cap)
 | y9:VR E (.map none) (.map none)
 | map (r c:Nat) (e:Option Ent) (he:E r=some e) (hc:∀x,e=some x->c=x.b):VR E (.map (some r)) (.map (some c))
 | func (fn:Fn) (f f' c c':Array Value) (hf:VRs E f.toList f'.toList) (hc:VRs E c.toList c'.toList):VR E (.func fn f c) (.func fn f' c')
 | nilFunc:VR E .nilFunc .nilFunc
 | iface (t:Nat) (v c:Value) (h:VR E v c):VR E (.iface t v) (.iface t c)
 | nilIface:VR E .nilIface .nilIface
 | agg (c c':Array Value) (h:VRs E c.toList c'.toList):VR E (.agg c) (.agg c')
 | tuple (c c':Array Value) (h:VRs E c.toList c'.toList):VR E (.tuple c) (.tuple c')
inductive VRs (E:Emb):List Value->List Value->Prop where
 | nil:VRs E [] []
 | cons (v c:Value) (vs cs:List Value) (h:VR E v c) (hs:VRs E vs cs):VRs E (v::vs) (c::cs)
end
mutual
def VR.mono {E E':Emb}(h:E.le E'):∀{v c:Value},VR E v c->VR E' v c
 | _,_,.any c => .any c
 | _,_,.bool b => .bool b
 | _,_,.int k n => .int k n
 | _,_,.float k n => .float k n
 | _,_,.complex k n m => .complex k n m
 | _,_,.string s => .string s
 | _,_,.wah => .wah
 | _,_,.ptr a c e hs he hc=>by
   rcases h _ _ he with h1|h1
   ·exact .ptr a c e hs h1 hc
   ·exact .ptr a c none hs h1 (fun x hx=>by cases hx)
 | _,_,.yB => .yB
 | _,_,.slice a c n cap e hs he hn hc=>by
   rcases h _ _ he with h1|h1
   ·exact .slice a c n cap e hs h1 hn hc
   ·exact .slice a c n cap none hs h1 hn (fun x hx=>by cases hx)
 | _,_,.loose a c n k cap e hs he hn hc=>by
   rcases h _ _ he with h1|h1
   ·exact .loose a c n k cap e hs h1 hn hc
   ·exact .loose a c n k cap none hs h1 hn (fun x hx=>by cases hx)
 | _,_,.y9 => .y9
 | _,_,.map r c e he hc=>by
   rcases h _ _ he with h1|h1
   ·exact .map r c e h1 hc
   ·exact .map r c none h1 (fun x hx=>by cases hx)
 | _,_,.func fn f f' c c' hf hc => .func fn f f' c c' (VRs.mono h hf) (VRs.mono h hc)
 | _,_,.nilFunc => .nilFunc
 | _,_,.iface t v c hv => .iface t v c (VR.mono h hv)
 | _,_,.nilIface => .nilIface
 | _,_,.agg c c' hc => .agg c c' (VRs.mono h hc)
 | _,_,.tuple c c' hc => .tuple c c' (VRs.mono h hc)
def VRs.mono {E E':Emb}(h:E.le E'):∀{vs cs:List Value},VRs E vs cs->VRs E' vs cs
 | _,_,.nil => .nil
 | _,_,.cons v c vs cs hv hs => .cons v c vs cs (VR.mono h hv) (VRs.mono h hs)
end
def VRs.length {E:Emb} : ∀{vs cs:List Value},VRs E vs cs->vs.length=cs.length
 | _,_,.nil=>rfl
 | _,_,.cons _ _ _ _ _ hs=>by simp [hs.length]
def VRs.get {E:Emb} : ∀{vs cs:List Value},VRs E vs cs->∀{i:Nat} {v:Value},vs[i]? = some v->∃c,cs[i]? = some c/\VR E v c
 | _,_,.nil,i,v,h=>by simp at h
 | _,_,.cons u c vs cs hv hs,i,v,h=>by
   cases i with
   | zero=>simp at h;subst h;exact⟨c,by simp,hv⟩
   | succ i=>simp at h;obtain⟨d,h1,h2⟩:=hs.get h;exact⟨d,by simpa using h1,h2⟩
def VRs.app {E:Emb} : ∀{vs cs us ds:List Value},VRs E vs cs->VRs E us ds->VRs E (vs++us) (cs++ds)
 | _,_,_,_,.nil,k=>k
 | _,_,_,_,.cons v c _ _ hv hs,k => .cons v c _ _ hv (hs.app k)
def VRs.take {E:Emb} : ∀{vs cs:List Value},VRs E vs cs->∀n,VRs E (vs.take n) (cs.take n)
 | _,_,.nil,n=>by simpa using VRs.nil
 | _,_,.cons v c vs cs hv hs,n=>by
   cases n with
   | zero=>simpa using VRs.nil
   | succ n=>simpa using VRs.cons v c _ _ hv (hs.take n)
def VRs.drop {E:Emb} : ∀{vs cs:List Value},VRs E vs cs->∀n,VRs E (vs.drop n) (cs.drop n)
 | _,_,.nil,n=>by simpa using VRs.nil
 | _,_,.cons v c vs cs hv hs,n=>by
   cases n with
   | zero=>simpa using VRs.cons v c _ _ hv hs
   | succ n=>simpa using hs.drop n
def VRs.splice {E:Emb}{vs cs us ds:List Value}(h:VRs E vs cs)(k:VRs E us ds)(off:Nat):VRs E (splice vs off us) (splice cs off ds):=by
 unfold Ir.splice
 rw [k.length]
 exact((h.take off).app k).app (h.drop _)
def VRs.mem {E:Emb} : ∀{vs cs:List Value},VRs E vs cs->∀{v:Value},v∈vs->∃c,c∈cs/\VR E v c
 | _,_,.cons u c vs cs hv hs,v,h=>by
   rcases List.mem_cons.1 h with rfl|h
   ·exact⟨c,by simp,hv⟩
   ·obtain⟨d,h1,h2⟩:=hs.mem h
    exact⟨d,by simp [h1],h2⟩
def VR.yl {E:Emb}{v:Value}(h:yl v=true):VR E v v:=by
 cases v with
 | bool b=>exact .bool b
 | int k n=>exact .int k n
 | float k n=>exact .float k n
 | complex k n m=>exact .complex k n m
 | string s=>exact .string s
 | pointer a=>cases a with
   | none=>exact .wah
   | some a=>simp [Ir.yl]at h
 | slice a n c=>cases a with
   | none=>simp [Ir.yl]at h;obtain⟨rfl,rfl⟩:=h;exact .yB
   | some a=>simp [Ir.yl]at h
 | map r=>cases r with
   | none=>exact .y9
   | some a=>simp [Ir.yl]at h
 | nilFunc=>exact .nilFunc
 | nilIface=>exact .nilIface
 | _=>simp [Ir.yl]at h
def VRs.flat {E:Emb} : ∀{vs:List Value},vs.all Ir.yl=true->VRs E vs vs
 | [],_ => .nil
 | v::vs,h=>by
   simp at h
   exact .cons _ _ _ _ (VR.yl h.1) (VRs.flat (by simpa using h.2))
def VR.flat {E:Emb}{v:Value}(h:qae v=true):VR E v v:=by
 cases v with
 | agg c=>exact .agg c c (VRs.flat (by simpa [qae]using h))
 | tuple c=>exact .tuple c c (VRs.flat (by simpa [qae]using h))
 | _=>exact VR.yl (by simpa [qae]using h)
def VR.yg {E:Emb}{v c:Value}(h:VR E v c)(hf:Ir.yl v=true):c=v:=by
 cases h<;>simp [Ir.yl]at hf<;>first|rfl|(exact hf.elim)
def VRs.yQ {E:Emb} : ∀{vs cs:List Value},VRs E vs cs->vs.all Ir.yl=true->cs=vs
 | _,_,.nil,_=>rfl
 | _,_,.cons v c vs cs hv hs,h=>by
   simp only [List.all_cons,Bool.and_eq_true]at h
   rw [hv.yg h.1,hs.yQ h.2]
def qa0 {v:Value}(h:Ir.yl v=true):qad v=true:=by cases v<;>simp [Ir.yl]at h<;>rfl
def qa1:∀{vs:List Value},vs.all Ir.yl=true->vs.all qad=true
 | [],_=>rfl
 | v::vs,h=>by
   simp only [List.all_cons,Bool.and_eq_true]at h|-
   exact⟨qa0 h.1,qa1 h.2⟩
def qa2 {cs us:List Value}(off:Nat)(h:cs.all qad=true)(k:us.all qad=true):(Ir.splice cs off us).all qad=true:=by
 simp only [List.all_eq_true]at h k|-
 intro v hv
 simp only [Ir.splice,List.mem_append]at hv
 rcases hv with(hv|hv)|hv
 ·exact h v (List.mem_of_mem_take hv)
 ·exact k v hv
 ·exact h v (List.mem_of_mem_drop hv)
def VR.cells {E:Emb}{v c:Value}(h:VR E v c):VRs E (qaf v) c.cells.toList:=by
 cases h
 case agg c c' h=>exact h
 all_goals (refine VRs.cons _ _ _ _ ?_ .nil)
 case any c=>exact .any c
 case bool b=>exact .bool b
 case int k n=>exact .int k n
 case float k n=>exact .float k n
 case complex k n m=>exact .complex k n m
 case string s=>exact .string s
 case wah=>exact .wah
 case ptr a c e hs he hc=>exact .ptr a c e hs he hc
 case yB=>exact .yB
 case slice a c n cap e hs he hn hc=>exact .slice a c n cap e hs he hn hc
 case loose a c n k cap e hs he hn hc=>exact .loose a c n k cap e hs he hn hc
 case y9=>exact .y9
 case map r c e he hc=>exact .map r c e he hc
 case func fn f f' c c' hf hc=>exact .func fn f f' c c' hf hc
 case nilFunc=>exact .nilFunc
 case iface t v c h=>exact .iface t v c h
 case nilIface=>exact .nilIface
 case tuple c c' h=>exact .tuple c c' h
inductive MR (E:Emb):List (Value×Value)->List MapEntry->Prop where
 | nil:MR E [] []
 | cons (k:IntKind) (n:Int) (v:Value) (x:MapEntry) (es:List (Value×Value)) (xs:List MapEntry) (hk:x.key = .int k n) (hv:VR E v x.val) (h:MR E es xs) :
    MR E ((.int k n,v)::es) (x::xs)
def MR.mono {E E':Emb}(h:E.le E'):∀{es:List (Value×Value)} {xs:List MapEntry},MR E es xs->MR E' es xs
 | _,_,.nil => .nil
 | _,_,.cons k n v x es xs hk hv hs => .cons k n v x es xs hk (hv.mono h) (hs.mono h)
def BR (B0:Nat)(E:Emb)(w:World)(x:Ent):Blk->Prop
 | .row cs ro=>∃C t fz,w.heap[x.b]? = some (.cells C t fz)/\C.size=x.size/\x.base+cs.length<=C.size/\
    VRs E cs ((C.toList.drop x.base).take cs.length)/\(ro=false->B0<=x.b/\fz=(0,0))/\cs.all qad=true
 | .map es=>∃M clk,w.heap[x.b]? = some (.map M clk)/\MR E es M.toList/\B0<=x.b
 | .dead=>True
def BR.mono {B0:Nat}{E E':Emb}{w:World}{x:Ent}{k:Blk}(h:E.le E')(hb:BR B0 E w x k):BR B0 E' w x k:=by
 cases k with
 | row cs ro =>
   obtain⟨C,t,fz,h1,h2,h4,h5,h6,h7⟩:=hb
   exact⟨C,t,fz,h1,h2,h4,h5.mono h,h6,h7⟩
 | map es =>
   obtain⟨M,clk,h1,h2,h3⟩:=hb
   exact⟨M,clk,h1,h2.mono h,h3⟩
 | dead=>trivial
def BR.world {B0:Nat}{E:Emb}{w w':World}{x:Ent}{k:Blk}(h:w'.heap[x.b]? = w.heap[x.b]?)(hb:BR B0 E w x k):BR B0 E w' x k:=by
 cases k with
 | row cs ro=>obtain⟨C,t,fz,h1,hr⟩:=hb;exact⟨C,t,fz,h.trans h1,hr⟩
 | map es=>obtain⟨M,clk,h1,hr⟩:=hb;exact⟨M,clk,h.trans h1,hr⟩
 | dead=>trivial
def BR.lt {B0:Nat}{E:Emb}{w:World}{x:Ent}{k:Blk}(hb:BR B0 E w x k)(hk:k≠.dead):x.b<w.heap.size:=by
 cases k with
 | row cs ro=>obtain⟨C,t,fz,h1,_⟩:=hb;exact(Array.getElem?_eq_some_iff.1 h1).1
 | map es=>obtain⟨M,clk,h1,_⟩:=hb;exact(Array.getElem?_eq_some_iff.1 h1).1
 | dead=>exact absurd rfl hk
def qa3:Option Blk->Bool
 | some (.row _ ro)=>ro
 | _=>false
structure Sim (B0:Nat)(w0:World)(E:Emb)(h:qab)(w:World):Prop where
 below:Go.RowKit.Below B0 w0 w
 out:∀i,h.length<=i->E i=none
 dead:∀i,h[i]? = some .dead->E i=some none
 live:∀i k,h[i]? = some k->k≠.dead->∃x,E i=some (some x)/\BR B0 E w x k
 inj:∀i j x y,i≠j->E i=some (some x)->E j=some (some y)->x.b=y.b->qa3 h[i]? = true/\qa3 h[j]? = true
def Sim.ent {B0:Nat}{w0:World}{E:Emb}{h:qab}{w:World}(s:Sim B0 w0 E h w){i:Nat}{e:Option Ent}(he:E i=some e) :
  (∃x k,e=some x/\h[i]? = some k/\k≠.dead/\BR B0 E w x k)\/(e=none/\h[i]? = some .dead):=by
 have hlt:i<h.length:=by
  rcases Nat.lt_or_ge i h.length with h1|h1
  ·exact h1
  ·rw [s.out i h1]at he;cases he
 have hk:h[i]? = some h[i]:=by simp [hlt]
 by_cases hd:h[i] = .dead
 ·rw [hd]at hk
  have:=s.dead i hk
  rw [he]at this
  cases this
  exact .inr ⟨rfl,hk⟩
 ·obtain⟨x,hx,hb⟩:=s.live i _ hk hd
  rw [he]at hx
  cases hx
  exact .inl ⟨x,_,rfl,hk,hd,hb⟩
structure Later (E:Emb)(w:World)(E':Emb)(w':World):Prop where
 le:E.le E'
 new:∀i x,E' i=some (some x)->(∃j y,E j=some (some y)/\y.b=x.b)\/w.heap.size<=x.b
 size:w.heap.size<=w'.heap.size
 kept:∀b,b<w.heap.size->(∀j y,E j=some (some y)->y.b≠b)->w'.heap[b]? = w.heap[b]?
def Later.refl (E:Emb)(w:World):Later E w E w :=
 ⟨Emb.le_refl E,fun i x h => .inl ⟨i,x,h,rfl⟩,zzR _,fun _ _ _=>rfl⟩
def Later.trans {E F G:Emb}{u v w:World}(h:Later E u F v)(k:Later F v G w):Later E u G w:=by
 refine⟨Emb.le_trans h.le k.le,fun i x hx => ?_,Nat.le_trans h.size k.size,fun b hb hn => ?_⟩
 ·rcases k.new i x hx with⟨j,y,hj,he⟩|h1
  ·rcases h.new j y hj with⟨j',y',hj',he'⟩|h2
   ·exact .inl ⟨j',y',hj',he'.trans he⟩
   ·exact .inr (by omega)
  ·exact .inr (Nat.le_trans h.size h1)
 ·rw [k.kept b (Nat.lt_of_lt_of_le hb h.size),h.kept b hb hn]
  intro j y hj he
  rcases h.new j y hj with⟨j',y',hj',he'⟩|h2
  ·exact hn j' y' hj' (he'.trans he)
  ·omega
def Later.same {E:Emb}{w w':World}(h:w'.heap=w.heap):Later E w E w' :=
 ⟨Emb.le_refl E,fun i x h => .inl ⟨i,x,h,rfl⟩,by rw [h];exact zzR _,fun _ _ _=>by rw [h]⟩
def tyN (P:Program)(t:TypeId):Option (Option Nat) :=
 match P.underlying t with
 | some (.struct _)|some (.array _ _)=>(P.info? t).map (fun i=>some i.size)
 | some _=>some none
 | none=>none
def qa4 (P:Program)(t:TypeId):Option Nat:=(P.info? t).map (fun i=>i.size)
def qa5 (P:Program)(t:TypeId):Option Value:=(P.info? t).bind fun i=>i.zero
def qa6 (P:Program)(t:TypeId):Option Value :=
 match qa5 P t with
 | some z=>if qae z/\(qaf z).all yl then some z else none
 | none=>none
def qa7 (P:Program)(t:TypeId)(f:Nat):Option (Nat×TypeId) :=
 match P.underlying t with
 | some (.struct fs) =>
   match fs[f]? with
   | some x=>match qa4 P x.type with|some (_+1)=>some (x.offset,x.type)|_=>none
   | none=>none
 | _=>none
def qa8 (LB:List Nat):Operand->Bool
 | .tmp t => !LB.contains t
 | .const v=>qae v
 | .func _=>true
 | .global _=>false
def la (P:Program)(LB:List Nat)(ops:List Oper):Nat->Nat->Option (Nat×Nat)
 | 0,s=>if LB.contains s then some (s,0)else none
 | n+1,s =>
   if LB.contains s then some (s,0)
   else
    match ops.find? (fun o=>o.dst==some s)with
    | some {op := .fieldAddr t (.tmp s') f,..} =>
      match la P LB ops n s',qa7 P t f with
      | some (d,off),some (o,_)=>some (d,off+o)
      | _,_=>none
    | _=>none
def laX (P:Program)(LB:List Nat)(ops:List Oper):Operand->Option (Nat×Nat)
 | .tmp s=>la P LB ops 4 s
 | _=>none
def laS (LB:List Nat):Operand->Option Nat
 | .tmp s=>if LB.contains s then none else some s
 | _=>none
def leaves (P:Program):Nat->TypeId->Option (List (Nat×Nat))
 | 0,_=>none
 | d+1,t =>
   match P.underlying t with
   | some .bool=>some [(0,1)]
   | some (.int _)=>some [(0,0)]
   | some .string=>some [(0,2)]
   | some (.struct fs)=>if P.stoodInHeld t then none else leavesL P (leaves P d) fs.toList
   | _=>none
where
 leavesL (P:Program) (lv:TypeId->Option (List (Nat×Nat))):List Field->Option (List (Nat×Nat))
  | []=>some []
  | f::r =>
    if f.name = "_" then none
    else
     match lv f.type,qa4 P f.type,leavesL P lv r with
     | some l,some n,some m=>if l.all (fun p=>decide (p.1<n))then some (l.map (fun p=>(p.1+f.offset,p.2))++m)else none
     | _,_,_=>none
def eqK (P:Program)(t:TypeId)(x y:Operand):Option EqK :=
 match P.underlying t with
 | some .bool=>some .bool
 | some (.pointer _)=>some (.nil 0)
 | some (.slice _)=>some (.nil 1)
 | some (.map _ _)=>some (.nil 2)
 | some (.func _ _ _)=>some (.nil 3)
 | some (.interface _) =>
   match x,y with
   | .const _,_|_,.const _=>some (.nil 4)
   | _,_=>none
 | some (.struct _) =>
   if P.eqGuardType P.depth t then none
   else(leaves P 8 t).map EqK.cells
 | _=>none
def qa9:BinOp->Option Bool
 | .eql=>some false
 | .neq=>some true
 | _=>none
def qba (P:Program)(name:String):List (Nat×Nat) :=
 (List.range P.types.size).filterMap fun t =>
   match P.info? t with
   | some i =>
     match i.methods.find? (·.name==name)with
     | some m =>
       match m.func,m.path.isEmpty,P.underlying t with
       | some (g,true),true,some (.pointer _)=>some (t,g)
       | some (g,false),true,some (.struct _)=>some (t,g)
       | _,_,_=>none
     | none=>none
   | none=>none
def qbb (ops:List Oper)(x:Operand):Option String :=
 match x with
 | .tmp t =>
   match ops.find? (fun o=>o.dst==some t)with
   | some o =>
     match o.op with
     | .makeFunc (.method n) _ _=>some n
     | _=>none
   | none=>none
 | _=>none
def qbc (P:Program)(fs:Array Field):List (Nat×Operand)->Option (List (Nat×Nat×Operand))
 | []=>some []
 | (i,x)::r =>
   match fs[i]? with
   | some f =>
     match qa4 P f.type,qbc P fs r with
     | some n,some l=>some ((f.offset,n,x)::l)
     | _,_=>none
   | none=>none
def qbd (P:Program)(t:TypeId)(parts:List (Nat×Operand)):Option (List (Nat×Nat×Operand)) :=
 match P.underlying t with
 | some (.struct fs) =>
   if fs.toList.all (fun f=>(qa4 P f.type).isSome)then
    qbc P fs parts
   else none
 | some (.array _ e) =>
   match qa4 P e with
   | some n=>some (parts.map fun(i,x)=>(i*n,n,x))
   | none=>none
 | _=>none
def qbe (zero:Value)(n:Nat):List Value:=(List.range n).map fun i=>zero.cells[i%zero.cells.size]!
def qbf (LB:List Nat):Option Operand->Bool
 | none=>true
 | some x=>qa8 LB x
def qbg {α:Type}(b:Bool)(x:α):Option α:=if b then some x else none
def qbh (P:Program)(LB:List Nat)(b:Builtin)(ts:List TypeId)(args:List Operand):Option IOp :=
 if args.all (qa8 LB)then
  match b,args with
  | .len,[x] =>
    match ts with
    | [t] =>
      match P.underlying t with
      | some .string=>some (.len true x)
      | some (.slice _)=>some (.len false x)
      | some (.map _ _)=>some (.yE x)
      | _=>none
    | _=>none
  | .append,[x,y] =>
    match ts with
    | [t,u] =>
      match P.underlying t,P.underlying u with
      | some (.slice e),some (.slice _) =>
        match P.info? e with
        | some i=>if((qa5 P e).map fun z=>(qaf z).length)=some i.size then some (.append i.size i.bytes x y)else none
        | none=>none
      | _,_=>none
    | _=>none
  | .copy,[x,y] =>
    match ts with
    | t::_ =>
      match P.underlying t with
      | some (.slice e)=>(qa4 P e).map fun n => .copy n x y
      | _=>none
    | _=>none
  | .clear,[x] =>
    match ts with
    | [t] =>
      match P.underlying t with
      | some (.slice e) =>
        match qa4 P e,qa6 P e with
        | some n,some z=>if(qaf z).length=n then some (.clear n (qaf z) x)else none
        | _,_=>none
      | _=>none
    | _=>none
  | .min,xs=>some (.min xs)
  | .max,xs=>some (.max xs)
  | .complex,[x,y]=>some (.wac x y)
  | .real,[x]=>some (.re x)
  | .imag,[x]=>some (.im x)
  | .delete,[m,k] =>
    match ts with
    | t::_ =>
      match P.underlying t with
      | some (.map kt _) =>
        match P.underlying kt with
        | some (.int _)=>some (.yF m k)
        | _=>none
      | _=>none
    | _=>none
  | _,_=>none
 else none
def cOp (P:Program)(LB:List Nat)(ops:List Oper)(o:Oper):Option IOp :=
 match o.op with
 | .move x | .assign x=>qbg (qa8 LB x) (.yy x)
 | .pick c a b=>qbg (qa8 LB c&&qa8 LB a&&qa8 LB b) (.pick c a b)
 | .alloc t =>
   match qa6 P t,o.dst with
   | some z,some d=>if LB.contains d then some (.yi (.const z))else some (.box (.const z))
   | _,_=>none
 | .box _ v =>
   match o.dst with
   | some d=>if qa8 LB v then(if LB.contains d then some (.yi v)else some (.box v))else none
   | none=>none
 | .build t parts =>
   match qa6 P t,qbd P t parts.toList with
   | some z,some ps=>qbg (ps.all fun p=>qa8 LB p.2.2) (.build (qaf z) ps)
   | _,_=>none
 | .buildSlice t len parts =>
   match P.underlying t with
   | some (.slice e) =>
     match qa4 P e,qa6 P e with
     | some n,some z =>
       if len*n<=2 ^ 20 then
        qbg (parts.toList.all fun p=>qa8 LB p.2) (.buildSlice n len (if len*n=0 then []else qbe z (len*n)) (parts.toList.map fun(i,x)=>(i*n,n,x)))
       else none
     | _,_=>none
   | _=>none
 | .load t x =>
   match tyN P t with
   | none=>none
   | some n =>
     match laX P LB ops x with
     | some (d,off)=>some (.yc (laS LB x) d off n)
     | none=>qbg (qa8 LB x) (.load n x)
 | .store t x v =>
   match qa4 P t with
   | none=>none
   | some n =>
     match laX P LB ops x with
     | some (d,off)=>qbg (qa8 LB v) (.yu (laS LB x) d off n v)
     | none=>qbg (qa8 LB x&&qa8 LB v) (.store n x v)
 | .nilCheck x =>
   match qbb ops x with
   | some n=>qbg (qa8 LB x) (.ye n (qba P n) x)
   | none=>qbg (qa8 LB x) (.ym x)
 | .binOp op t x y _ =>
   if qa8 LB x&&qa8 LB y then
    match qa9 op with
    | none=>some (.bin op x y)
    | some neg =>
      match P.underlying t with
      | some (.int _)|some .string=>some (.bin op x y)
      | _=>(eqK P t x y).map fun k => .eqv neg k x y
   else none
 | .unOp op _ x=>qbg (qa8 LB x) (.un op x)
 | .convert s d x =>
   if qa8 LB x then
    match P.underlying s,P.underlying d with
    | some (.int _),some (.int k)=>some (.conv (.int k) x)
    | some (.float _),some (.int k)=>some (.conv (.int k) x)
    | some (.int _),some (.float k)=>some (.conv (.float k) x)
    | some .string,some .string=>some (.conv .same x)
    | _,_=>none
   else none
 | .makeInterface t x =>
   match P.underlying t with
   | some (.interface _)|none=>none
   | some _=>qbg (qa8 LB x) (.yJ t x)
 | .makeFunc fn first caps=>qbg (first.toList.all (qa8 LB)&&caps.toList.all (qa8 LB)) (.yr fn first.toList caps.toList)
 | .makeMap t r =>
   match r with
   | none=>some .yK
   | some (.const (.int _ _)) =>
     match P.underlying t with
     | some (.map _ _)=>some .yK
     | _=>none
   | _=>none
 | .makeSlice t n c =>
   match P.underlying t with
   | some (.slice e) =>
     match P.info? e,qa6 P e with
     | some i,some z=>if(qaf z).length=i.size then qbg (qa8 LB n&&qa8 LB c) (.yA i.size i.bytes (qaf z) n c)else none
     | _,_=>none
   | _=>none
 | .slice t x lo hi mx =>
   if qa8 LB x&&qbf LB lo&&qbf LB hi&&qbf LB mx then
    match P.underlying t with
    | some (.array n e)=>(qa4 P e).map fun s => .yY n s x lo hi mx
    | some (.slice e)=>(qa4 P e).map fun s => .slice s x lo hi mx
    | some .string=>if mx.isNone then some (.yW x lo hi)else none
    | _=>none
   else none
 | .fieldAddr t x f =>
   match qa7 P t f with
   | none=>none
   | some (off,_) =>
     match laX P LB ops x with
     | some (d,o')=>some (.yd (laS LB x) d (o'+off))
     | none=>qbg (qa8 LB x) (.yo off x)
 | .field t x f =>
   match qa7 P t f with
   | none=>none
   | some (off,u) =>
     match tyN P u with
     | some n=>qbg (qa8 LB x) (.field off n x)
     | none=>none
 | .indexAddr t x i =>
   if qa8 LB x&&qa8 LB i then
    match P.underlying t with
    | some (.array n e)=>(qa4 P e).map fun s => .yn (some n) s x i
    | some (.slice e)=>(qa4 P e).map fun s => .yn none s x i
    | _=>none
   else none
 | .index t x i =>
   if qa8 LB x&&qa8 LB i then
    match P.underlying t with
    | some (.array n e) =>
      match qa4 P e,tyN P e with
      | some s,some m=>some (.index n s m x i)
      | _,_=>none
    | some .string=>some (.yN x i)
    | _=>none
   else none
 | .lookup t m k ok =>
   match P.underlying t with
   | some (.map kt e) =>
     match P.underlying kt,qa6 P e with
     | some (.int _),some z=>qbg (qa8 LB m&&qa8 LB k) (.lookup z ok m k)
     | _,_=>none
   | _=>none
 | .mapUpdate t m k v =>
   match P.underlying t with
   | some (.map kt _) =>
     match P.underlying kt with
     | some (.int _)=>qbg (qa8 LB m&&qa8 LB k&&qa8 LB v) (.yH m k v)
     | _=>none
   | _=>none
 | .extract x i=>qbg (qa8 LB x) (.extract x i)
 | .call c =>
   match c.callee with
   | .value (.func g)=>qbg (c.args.toList.all (qa8 LB)) (.call g c.args.toList)
   | .value x=>qbg (qa8 LB x&&c.args.toList.all (qa8 LB)) (.yt x c.args.toList)
   | .invoke x name=>qbg (qa8 LB x&&c.args.toList.all (qa8 LB)) (.invoke (qba P name) x c.args.toList)
   | .builtin b=>qbh P LB b c.argTypes.toList c.args.toList
 | _=>none
def qbi (o:Oper):List Nat:=(o.after.toList.filter (Region.binds .any)).map (·.on)
def qbj:List Oper->List Nat->List Nat
 | [],acc=>acc
 | o::r,acc=>qbj r (acc ++ [(qbi o).foldl (fun m d=>m ||| 2 ^ d ||| acc.getD d 0) 0])
def qbk:List Oper->Nat->Bool
 | [],_=>true
 | o::r,i=>(qbi o).all (· < i)&&qbk r (i+1)
def qbl:IOp->Bool
 | .box _ | .buildSlice .. | .yA .. | .yK=>true
 | _=>false
def qbm:IOp->Bool
 | .load .. | .lookup .. | .yE _=>true
 | _=>false
def qbn:Operand->List Nat
 | .tmp t => [t]
 | _ => []
def qbo:IOp->List Nat
 | .yc _ b _ _ | .yu _ b _ _ _ | .yd _ b _ => [b]
 | _ => []
structure COper where
 o:Oper
 io:IOp
 guard:Option (Nat×Bool)
def COper.dst (c:COper):Option Nat :=
 match c.io with
 | .yu _ b _ _ _=>some b
 | _=>c.o.dst
def COper.reads (c:COper):List Nat :=
 c.o.op.operands.toList.flatMap qbn++qbo c.io++(match c.guard with|some (t,_) => [t]|none => [])
def COper.writes (c:COper):List Nat:=c.dst.toList
def qbp (a b:List Nat):Bool:=a.any fun x=>b.contains x
def clash (a b:COper):Bool:=qbp a.writes (b.reads++b.writes)||qbp a.reads b.writes
def qbq (ops:List Oper)(o:Oper):Option (Option (Nat×Bool)) :=
 match o.guard with
 | none=>some none
 | some (j,w) =>
   match ops[j]? with
   | some x =>
     match x.dst with
     | some d=>some (some (d,w))
     | none=>none
   | none=>none
def qbr (b:Nat):List COper->Nat->List Nat
 | [],_ => []
 | x::r,i=>match x.io with | .yi _=>if x.o.dst==some b then i::qbr b r (i+1)else qbr b r (i+1)|_=>qbr b r (i+1)
def qbs (s:Nat):List COper->Nat->List Nat
 | [],_ => []
 | x::r,i=>if x.o.dst==some s then i::qbs s r (i+1)else qbs s r (i+1)
def qbt (cs:List COper)(i:Nat)(c:COper):Bool :=
 match c.io with
 | .yc s b _ _ | .yu s b _ _ _ | .yd s b _ =>
   ((qbr b cs 0).all fun j=>decide (j<i)) &&
   (match s with
    | none=>true
    | some s =>
      match qbs s cs 0 with
      | [j]=>decide (j<i)
      | _=>false)
 | _=>true
def qbu (cs:List COper):Nat->List COper->Bool
 | _,[]=>true
 | i,c::r=>qbt cs i c&&qbu cs (i+1) r
def qbv (P:Program)(LB:List Nat)(all:List Oper)(nt:Nat):List Oper->Option (List COper)
 | []=>some []
 | o::r =>
   match cOp P LB all o,qbq all o,qbv P LB all nt r with
   | some io,some g,some cs =>
     if(match o.dst with|some d=>decide (d<nt)|none=>true)&&(match o.dst,io with|some d,.yi _=>LB.contains d|some d,_ => !LB.contains d|none,_=>true) &&
       (match g with|some (t,_) => !LB.contains t|none=>true)&&(match io with | .yu _ b .. => LB.contains b&&o.dst.isNone | .yc _ b .. => LB.contains b | .yd _ b _=>LB.contains b|_=>true)then
      some ({o:=o,io:=io,guard:=g} :: cs)
     else none
   | _,_,_=>none
def qbw (cs:List COper)(an:List Nat):List Nat :=
 let n:=cs.length
 let effs:=(List.range n).filter fun i=>(cs[i]?).any fun c=>qaQ c.io
 let step:=fun(acc:List Nat) e=>acc++((List.range n).filter fun i=>(i==e||(an.getD e 0).testBit i) && !acc.contains i)
 let l:=effs.foldl step []
 l++(List.range n).filter fun i => !l.contains i
def qbx:List Nat->Bool
 | []=>true
 | x::r => !r.contains x&&qbx r
def orderOk (cs:List COper)(an:List Nat)(ord:List Nat):Bool :=
 decide (ord.length=cs.length)&&qbx ord&&ord.all (· < cs.length)&&(List.range cs.length).all (fun i=>ord.contains i)&&pairs ord
where
 pairs:List Nat->Bool
  | []=>true
  | p::r=>r.all (fun q =>
     match cs[p]?,cs[q]? with
     | some a,some b =>
       !(an.getD p 0).testBit q&&(!clash a b||(an.getD q 0).testBit p) &&
       (!(qaQ b.io&&(qaQ a.io||qbl a.io||qbm a.io))||(an.getD q 0).testBit p)
     | _,_=>false)&&pairs r
def qby (cs:List COper)(an:List Nat)(ahead:List Nat)(q:Nat):Nat :=
 match cs[q]? with
 | some b=>if qbm b.io then(ahead.filter fun p=>(cs[p]?).any (fun a=>qaQ a.io) && !(an.getD q 0).testBit p).length else 0
 | none=>0
def qbz (cs:List COper)(an:List Nat):List Nat->List Nat->List IOper
 | _,[] => []
 | ahead,q::r =>
   match cs[q]? with
   | some c => {dst:=c.dst,op:=c.io,guard:=c.guard,wam:=qby cs an ahead q} :: qbz cs an (ahead ++ [q]) r
   | none=>qbz cs an (ahead ++ [q]) r
def qbA (P:Program)(LB:List Nat)(nt:Nat)(ops:List Oper)(draw:Bool):Option (List IOper) :=
 match qbv P LB ops nt ops with
 | none=>none
 | some cs =>
   if qbu cs 0 cs then
    if draw then
     let an:=qbj ops []
     let ord:=qbw cs an
     if qbk ops 0&&orderOk cs an ord then some (qbz cs an [] ord)else none
    else some (cs.map fun c => {dst:=c.dst,op:=c.io,guard:=c.guard,wam:=0})
   else none
def qbB (P:Program)(LB:List Nat)(nt:Nat):Code->List (List Nat)->Option (ICode×List (List Nat))
 | .skip,hs=>some (.skip,hs)
 | .region _ ops draw,hs=>(qbA P LB nt ops.toList draw).map fun l=>(.region l,hs)
 | .seq a b,hs =>
   match qbB P LB nt a hs with
   | some (a',hs) =>
     match qbB P LB nt b hs with
     | some (b',hs)=>some (.seq a' b',hs)
     | none=>none
   | none=>none
 | .cond c a b,hs =>
   if qa8 LB c then
    match qbB P LB nt a hs with
    | some (a',hs) =>
      match qbB P LB nt b hs with
      | some (b',hs)=>some (.cond c a' b',hs)
      | none=>none
    | none=>none
   else none
 | .block id b,hs =>
   match qbB P LB nt b hs with
   | some (b',hs)=>some (.block id b',hs)
   | none=>none
 | .loop b,hs =>
   match hs with
   | l::hs =>
     match qbB P LB nt b hs with
     | some (b',hs)=>some (.loop l b',hs)
     | none=>none
   | []=>none
 | .exit id,hs=>some (.exit id,hs)
 | .scope b,hs =>
   match qbB P LB nt b hs with
   | some (b',hs)=>some (.scope b',hs)
   | none=>none
 | .label l,hs=>some (.label l,hs)
 | .goto l,hs =>
   match hs with
   | ls::hs=>some (.goto l ls,hs)
   | []=>none
 | .ret,hs=>some (.ret,hs)
 | _,_=>none
def qbC (P:Program)(LB:List Nat):ResultVar->Option qaj
 | .tmp t=>if LB.contains t then none else some (.tmp t)
 | .cell t ty=>(tyN P ty).map fun n=>if LB.contains t then .lb t n else .cell t n
structure qbD where
 lb:List Nat
 wau:Bool
 ls:List (List Nat)
def qbE (P:Program)(F:Func)(h:qbD):Option qak :=
 match F.body with
 | none=>none
 | some b =>
   if F.name == "runtime.NumGoroutine" then none
   else if h.lb.all (fun t=>decide (F.params.size+F.nfree<=t))&&decide (F.params.size+F.nfree<=F.ntmps)then
    match qbB P h.lb F.ntmps b h.ls,F.results.toList.mapM (qbC P h.lb)with
    | some (b',[]),some rs=>some {lb:=h.lb,body:=b',res:=rs,wau:=h.wau,yT:=F.params.size+F.nfree}
    | _,_=>none
   else none
def qbF {P:Program}{t n:Nat}(h:qa4 P t=some n):∃i,P.info? t=some i/\i.size=n:=by
 unfold qa4 at h
 cases hi:P.info? t with
 | none=>simp [hi]at h
 | some i=>simp [hi]at h;exact⟨i,rfl,h⟩
def qbG {P:Program}{t n:Nat}(h:qa4 P t=some n)(w:World):(sizeOf t).run P w = .ok n w:=by
 obtain⟨i,hi,rfl⟩:=qbF h
 have:=run_sizeOf (w:=w) hi
 simpa [Program.cellsOf,hi]using this
def qbH {P:Program}{t:Nat}{i:TypeInfo}(h:P.info? t=some i)(w:World):(sizeOf t).run P w = .ok i.size w :=
 qbG (by simp [qa4,h]) w
def qbI {P:Program}{t:Nat}{z:Value}(h:qa5 P t=some z)(w:World):(zeroValue t).run P w = .ok z w:=by
 unfold qa5 at h
 cases hi:P.info? t with
 | none=>simp [hi]at h
 | some i =>
   simp [hi]at h
   simp [zeroValue,run_typeInfo (w:=w) hi,h]
def qbJ {P:Program}{t:Nat}{z:Value}(h:qa6 P t=some z):qa5 P t=some z/\qae z=true/\(qaf z).all yl=true:=by
 unfold qa6 at h
 split at h
 ·rename_i z' hz
  split at h
  ·rename_i hc
   simp at h;subst h
   exact⟨hz,hc.1,hc.2⟩
  ·simp at h
 ·simp at h
def qbK (v:Value):qaf v=v.cells.toList:=by cases v<;>rfl
def qbL {P:Program}{t:Nat}{n:Option Nat}(h:tyN P t=some n)(w:World):(isAgg t).run P w = .ok n.isSome w:=by
 unfold tyN at h
 cases hu:P.underlying t with
 | none=>simp [hu]at h
 | some d =>
   have hr:=run_underlying hu w
   cases d<;>simp [hu]at h<;>first
    | (obtain⟨i,hi,rfl⟩:=h;simp [isAgg,hr])
    | (subst h;simp [isAgg,hr])
def qbM {P:Program}{t n:Nat}(h:tyN P t=some (some n)):qa4 P t=some n:=by
 unfold tyN at h
 unfold qa4
 split at h<;>simp at h|-<;> exact h
def qbN {P:Program}{t:Nat}{n:Option Nat}(h:tyN P t=some n)(cs:Array Value)(off:Nat){v:Value}(w:World)
  (hv:(match n with|none=>cs[off]? | some n=>some (.agg (cs.extract off (off+n))))=some v):(Go.part t cs off).run P w = .ok v w:=by
 have ha:=qbL h w
 cases n with
 | none=>simp at hv;simp [Go.part,ha,hv]
 | some n=>simp at hv;subst hv;simp [Go.part,ha,qbG (qbM h) w]
def qbO {P:Program}{t:Nat}{n:Option Nat}{F:Emb}(h:tyN P t=some n){cs:List Value}{ds:Array Value}{off:Nat}{v:Value}(hr:VRs F cs ds.toList)
  (hv:part n cs off=some v):∃c,(∀w,(Go.part t ds off).run P w = .ok c w)/\VR F v c:=by
 cases n with
 | none =>
   simp only [part]at hv
   obtain⟨c,h1,h2⟩:=hr.get hv
   exact⟨c,fun w=>qbN h ds off w (by simpa using h1),h2⟩
 | some n =>
   simp only [part]at hv
   split at hv
   ·rename_i hl
    simp at hv
    subst hv
    refine⟨_,fun w=>qbN h ds off w rfl,.agg _ _ ?_⟩
    simp only [Array.toList_extract,List.extract_eq_take_drop]
    have:off+n-off=n:=by omega
    rw [this]
    exact(hr.drop off).take n
   ·simp at hv
def qbP {P:Program}{t f off u:Nat}(h:qa7 P t f=some (off,u)) :
  ∃fs x,P.underlying t=some (.struct fs)/\fs[f]? = some x/\x.offset=off/\x.type=u/\∃n,qa4 P u=some (n+1):=by
 unfold qa7 at h
 split at h
 ·rename_i fs hu
  split at h
  ·rename_i x hx
   split at h
   ·rename_i n hs
    simp at h
    obtain⟨rfl,rfl⟩:=h
    exact⟨fs,x,hu,hx,rfl,rfl,n,hs⟩
   ·simp at h
  ·simp at h
 ·simp at h
def qbQ (LB:List Nat)(F:Emb)(f:Fr)(a:Act)(o:Oper):Prop :=
 ∀x∈o.op.operands.toList,qa8 LB x=true->∀u,ev f x=some u->VR F u (a.eval x)
def qbR {LB:List Nat}{F:Emb}{f:Fr}{a:Act}{x:Operand}(hx:qa8 LB x=true)
  (h:∀t,x = .tmp t->LB.contains t=false->∀u,qaa f t=some u->VR F u (a.tmps.getD t undef)) {u:Value} (he:ev f x=some u):VR F u (a.eval x):=by
 cases x with
 | tmp t=>simp [qa8]at hx;exact h t rfl (by simpa using hx) u he
 | const v=>simp [ev]at he;subst he;simp [qa8]at hx;exact VR.flat hx
 | global g=>simp [qa8]at hx
 | func g=>simp [ev]at he;subst he;exact .func _ _ _ _ _ (by simpa using VRs.nil) (by simpa using VRs.nil)
def qbS {α:Type}{b:Bool}{x y:α}(h:qbg b x=some y):b=true/\x=y:=by
 unfold qbg at h
 split at h
 ·rename_i hb;simp at h;exact⟨hb,h⟩
 ·simp at h
def qbT {LB:List Nat}{F:Emb}{f:Fr}{a:Act} : ∀{xs:List Operand} {us:List Value},xs.all (qa8 LB)=true->
  (∀x∈xs,qa8 LB x=true->∀u,ev f x=some u->VR F u (a.eval x))->evs f xs=some us->VRs F us (xs.map a.eval)
 | [],us,_,_,h=>by simp [evs]at h;subst h;exact .nil
 | x::xs,us,hx,hop,h=>by
   simp only [List.all_cons,Bool.and_eq_true]at hx
   simp only [evs]at h
   split at h
   ·rename_i u hu
    split at h
    ·rename_i vs hvs
     simp at h;subst h
     exact .cons _ _ _ _ (hop x (by simp) hx.1 u hu) (qbT hx.2 (fun y hy=>hop y (by simp [hy])) hvs)
    ·simp at h
   ·simp at h
inductive PR (F:Emb):List (Nat×Nat×Value)->List (Nat×Nat×Value)->Prop where
 | nil:PR F [] []
 | cons (o n:Nat) (v c:Value) (xs ys:List (Nat×Nat×Value)) (h:VR F v c) (hs:PR F xs ys):PR F ((o,n,v)::xs) ((o,n,c)::ys)
def qbU {LB:List Nat}{F:Emb}{f:Fr}{a:Act} : ∀{xs:List (Nat×Nat×Operand)} {us:List (Nat×Nat×Value)},xs.all (fun p=>qa8 LB p.2.2)=true->
  (∀p∈xs,qa8 LB p.2.2=true->∀u,ev f p.2.2=some u->VR F u (a.eval p.2.2))->wan f xs=some us->PR F us (xs.map fun p=>(p.1,p.2.1,a.eval p.2.2))
 | [],us,_,_,h=>by simp [wan]at h;subst h;exact .nil
 | (o,n,x)::xs,us,hx,hop,h=>by
   simp only [List.all_cons,Bool.and_eq_true]at hx
   simp only [wan]at h
   split at h
   ·rename_i u hu
    split at h
    ·rename_i vs hvs
     simp at h;subst h
     exact .cons _ _ _ _ _ _ (hop _ (by simp) hx.1 u hu) (qbU hx.2 (fun y hy=>hop y (by simp [hy])) hvs)
    ·simp at h
   ·simp at h
def qbV (c:List Value):∀(k:Nat) (cells:Array Value) (off:Nat),off+k+c.length<=cells.size->
  ((c.zipIdx k).foldl (fun(cs:Array Value) (x:Value×Nat)=>cs.setIfInBounds (off+x.2) x.1) cells).toList=splice cells.toList (off+k) c:=by
 induction c with
 | nil=>intro k cells off h;simp [splice]
 | cons v c ih =>
   intro k cells off h
   simp at h
   simp only [List.zipIdx_cons,List.foldl_cons]
   rw [ih (k+1) _ off (by simp;omega)]
   simp only [splice,Array.toList_setIfInBounds]
   rw [show off+(k+1)=off+k+1 from by omega]
   apply List.ext_getElem?
   intro j
   simp only [List.getElem?_append,List.getElem?_take,List.getElem?_drop,List.getElem?_set,List.length_take,zzM,zzQ,Array.length_toList,List.length_cons,List.getElem?_cons]
   have e1:min (off+k+1) cells.size=off+k+1:=by omega
   have e2:min (off+k) cells.size=off+k:=by omega
   rw [e1,e2]
   by_cases h1:j<off+k
   ·simp [h1,show j<off+k+1 by omega,show j<off+k+1+c.length by omega,show j<off+k+(c.length+1) by omega,show off+k≠j by omega]
   ·by_cases h2:j=off+k
    ·subst h2
     simp [show off+k<cells.size by omega]
     omega
    ·by_cases h3:j<off+k+1+c.length
     ·have h4:¬j<off+k+1:=by omega
      simp [h1,h4,h3,show j<off+k+(c.length+1) by omega,show j-(off+k)≠0 by omega,show j-(off+k)-1=j-(off+k+1) by omega]
     ·have h4:¬j<off+k+1:=by omega
      simp [h1,h4,h3,show ¬j<off+k+(c.length+1) by omega]
      have:off+k≠off+k+1+c.length+(j-(off+k+1+c.length)):=by omega
      simp [this]
      congr 1
      omega
def qbW (cs vs:List Value)(off:Nat)(h:off+vs.length<=cs.length):(splice cs off vs).length=cs.length:=by
 simp [splice];omega
def qbX {F:Emb}{place:Nat->Option (Nat×Nat)} : ∀{us ds:List (Nat×Nat×Value)} {ix:List Nat} {cells:List Value} {ds':Array Value} {out:List Value},
  PR F us ds->ix.length=ds.length->(∀(j i:Nat) (d:Nat×Nat×Value),ix[j]? = some i->ds[j]? = some d->place i=some (d.1,d.2.1))->VRs F cells ds'.toList->qal cells us=some out->
  ∃cs',Instr.fill place ds' (ix.zip (ds.map fun d=>d.2.2))=some cs'/\VRs F out cs'.toList
 | _,_,ix,cells,ds',out,.nil,hl,_,hr,h=>by
   simp [qal]at h;subst h
   cases ix with
   | nil=>exact⟨ds',by simp [Instr.fill],hr⟩
   | cons i ix=>simp at hl
 | _,_,ix,cells,ds',out,.cons o n v c xs ys hv hs,hl,hp,hr,h=>by
   cases ix with
   | nil=>simp at hl
   | cons i ix =>
     have hpl:place i=some (o,n):=hp 0 i (o,n,c) (by simp) (by simp)
     simp only [qal]at h
     split at h
     ·rename_i hn
      split at h
      ·rename_i hle
       have hvc:=hv.cells
       have hlen:c.cells.size=n:=by have:=hvc.length;simp at this;omega
       have hsz:cells.length=ds'.size:=by have:=hr.length;simpa using this
       have hfold:((c.cells.zipIdx.foldl (fun cs x=>cs.setIfInBounds (o+x.2) x.1) ds')).toList=splice ds'.toList o c.cells.toList:=by
        have:=qbV c.cells.toList 0 ds' o (by simp;omega)
        rw [<-Array.foldl_toList]
        simpa using this
       have hr':VRs F (splice cells o (qaf v)) ((c.cells.zipIdx.foldl (fun cs x=>cs.setIfInBounds (o+x.2) x.1) ds')).toList:=by
        rw [hfold];exact hr.splice hvc o
       obtain⟨cs',h1,h2⟩:=qbX (ix:=ix) hs (by simpa using hl) (fun j i d hi hd=>hp (j+1) i d (by simpa using hi) (by simpa using hd)) hr' h
       refine⟨cs', ?_,h2⟩
       simp only [List.map_cons,List.zip_cons_cons,Instr.fill,hpl]
       rw [if_neg (by simp;constructor<;>omega)]
       exact h1
      ·simp at h
     ·simp at h
def qbY (P:Program)(a:Act)(o:Oper)(F:Emb)(v:Value):Prop :=
 ∃c,(∀w,(execOp a.eval o).run P w = .ok (.value c) w)/\VR F v c
section
variable {P:Program}{LB:List Nat}{F:Emb}{f:Fr}{a:Act}{call:qaM}{lo:Nat}{h h':qab}{v:Value}
variable {dst:Option Nat}{ty:TypeId}{pos:String}{after:Array Edge}{guard:Option (Nat×Bool)}
def qbZ {x:Operand}(hx:qa8 LB x=true)(hop:qbQ LB F f a ⟨dst,.move x,ty,pos,after,guard⟩)
  (hv:yf call lo (.yy x) f h=some (v,h')):h'=h/\qbY P a ⟨dst,.move x,ty,pos,after,guard⟩ F v:=by
 simp only [yf]at hv
 split at hv<;>simp at hv
 rename_i u hu
 obtain⟨rfl,rfl⟩:=hv
 exact⟨rfl,_,fun w=>by simp [execOp],hop x (by simp [Op.operands]) hx _ hu⟩
def qb0 {x:Operand}(hx:qa8 LB x=true)(hop:qbQ LB F f a ⟨dst,.assign x,ty,pos,after,guard⟩)
  (hv:yf call lo (.yy x) f h=some (v,h')):h'=h/\qbY P a ⟨dst,.assign x,ty,pos,after,guard⟩ F v:=by
 simp only [yf]at hv
 split at hv<;>simp at hv
 rename_i u hu
 obtain⟨rfl,rfl⟩:=hv
 exact⟨rfl,_,fun w=>by simp [execOp],hop x (by simp [Op.operands]) hx _ hu⟩
def qb1 {c x y:Operand}(hc:qa8 LB c=true)(hx:qa8 LB x=true)(hy:qa8 LB y=true)(hop:qbQ LB F f a ⟨dst,.pick c x y,ty,pos,after,guard⟩)
  (hv:yf call lo (.pick c x y) f h=some (v,h')):h'=h/\qbY P a ⟨dst,.pick c x y,ty,pos,after,guard⟩ F v:=by
 simp only [yf]at hv
 split at hv<;>try (simp at hv;done)
 rename_i t ht
 split at hv<;>simp at hv
 rename_i u hu
 obtain⟨rfl,rfl⟩:=hv
 have hcv:=hop c (by simp [Op.operands]) hc _ ht
 generalize hce:a.eval c=cv at hcv
 cases hcv
 cases t with
 | true =>
   simp at hu
   exact⟨rfl,_,fun w=>by simp [execOp,hce,asBool],hop x (by simp [Op.operands]) hx _ hu⟩
 | false =>
   simp at hu
   exact⟨rfl,_,fun w=>by simp [execOp,hce,asBool],hop y (by simp [Op.operands]) hy _ hu⟩
def qb2 {P:Program} : ∀(fs:List Field),(∀f∈fs,(qa4 P f.type).isSome)->∀w,
  (fs.mapM (m:=Sem) fun f=>do pure (f.offset,<-sizeOf f.type)).run P w = .ok (fs.map fun f=>(f.offset,(qa4 P f.type).getD 0)) w
 | [],_,w=>by simp
 | f::fs,h,w=>by
   have h0:=h f (by simp)
   obtain⟨n,hn⟩:=Option.isSome_iff_exists.1 h0
   have ih:=qb2 fs (fun g hg=>h g (by simp [hg])) w
   simp only [List.mapM_cons,Sem.run_bind,qbG hn,Result.andThen_ok,Sem.run_pure,ih,hn,List.map_cons,Option.getD_some]
def qb3 {op:BinOp}{t:TypeId}{x y:Operand}{k k':IntKind}{n m:Int}(w:World):(eqGuard op t x y (.int k n) (.int k' m)).run P w = .ok () w:=by
 cases op<;>simp [eqGuard]
def qb4 {op:BinOp}{t:TypeId}{x y:Operand}{n m:ByteArray}(w:World):(eqGuard op t x y (.string n) (.string m)).run P w = .ok () w:=by
 cases op<;>simp [eqGuard]
def qb5 {op:BinOp}{k yk:IntKind}{n m:Int}{v:Value}(h:qan op k n m=some v)(w:World):(Op.shift op k n yk m).run P w = .ok v w/\yl v=true:=by
 unfold qan at h
 split at h
 ·simp at h
 ·rename_i hm
  cases op<;>simp at h<;>(subst h;simp [Op.shift,hm,yl])
def qb6 {op:BinOp}{k:IntKind}{n m:Int}{v:Value}{t:TypeId}(hs:qap op=false)(h:qam op k n m=some v)(w:World) :
  (binOp op t (.int k n) (.int k m)).run P w = .ok v w/\yl v=true:=by
 cases op<;>simp [qap]at hs<;>simp [qam]at h
 all_goals first
  | (subst h;simp [binOp,Op.intArith,Op.intBits,Op.intCmp,yl];done)
  | (obtain⟨h0,rfl⟩:=h;simp [binOp,Op.intDiv,h0,yl];done)
def qb7 {op:BinOp}{n m:ByteArray}{v:Value}{t:TypeId}(h:qao op n m=some v)(w:World) :
  (binOp op t (.string n) (.string m)).run P w = .ok v w/\yl v=true:=by
 cases op<;>simp [qao]at h
 case add =>
  obtain⟨h0,rfl⟩:=h
  have h1:¬((n.size+m.size:Nat):Int) > IntKind.i64.max:=by
   have:IntKind.i64.max=9223372036854775807:=by simp [IntKind.max,IntKind.signed,IntKind.bits]
   omega
  refine⟨?_,rfl⟩
  simp only [binOp,Op.stringOp]
  rw [if_neg h1]
  rfl
 all_goals (subst h;simp [binOp,Op.stringOp,yl])
def qb8 {op:BinOp}{x y v:Value}{t:TypeId}{ox oy:Operand}(h:qaq op x y=some v)(w:World) :
  ((do eqGuard op t ox oy x y;binOp op t x y:Sem Value)).run P w = .ok v w/\yl v=true:=by
 unfold qaq at h
 split at h
 ·rename_i k n k' m
  split at h
  ·rename_i hs
   have:=qb5 (P:=P) (yk:=k') h w
   cases op<;>simp [qap]at hs<;>simp [qb3,binOp,this]
  ·rename_i hs
   split at h
   ·rename_i hk;subst hk
    have:=qb6 (P:=P) (t:=t) (by simpa using hs) h w
    simp [qb3,this]
   ·simp at h
 ·have:=qb7 (P:=P) (t:=t) h w
  simp [qb4,this]
 ·rename_i k n k' m
  split at h
  ·split at h
   ·rename_i hk;subst hk
    split at h
    ·rename_i r hr
     simp at h;subst h
     simp [eqGuard,binOp,Op.floatArith,hr,yl]
    ·simp at h
   ·simp at h
  ·simp at h
 ·simp at h
def qb9 {op:BinOp}{x y v:Value}(h:qaq op x y=some v):yl x=true/\yl y=true:=by
 unfold qaq at h
 split at h<;>first|(simp [yl];done)|(simp at h;done)
def qca {op:BinOp}{t t':TypeId}{x y:Operand}(hx:qa8 LB x=true)(hy:qa8 LB y=true)(hop:qbQ LB F f a ⟨dst,.binOp op t x y t',ty,pos,after,guard⟩)
  (hv:yf call lo (.bin op x y) f h=some (v,h')):h'=h/\qbY P a ⟨dst,.binOp op t x y t',ty,pos,after,guard⟩ F v:=by
 simp only [yf]at hv
 split at hv<;>try (simp at hv;done)
 rename_i u u' hu hu'
 split at hv<;>simp at hv
 rename_i r hr
 obtain⟨rfl,rfl⟩:=hv
 obtain⟨f1,f2⟩:=qb9 hr
 have e1:=(hop x (by simp [Op.operands]) hx _ hu).yg f1
 have e2:=(hop y (by simp [Op.operands]) hy _ hu').yg f2
 refine⟨rfl,_,fun w => ?_,VR.yl (qb8 (P:=P) (t:=t) (ox:=x) (oy:=y) hr default).2⟩
 have:=(qb8 (P:=P) (t:=t) (ox:=x) (oy:=y) hr w).1
 simp only [execOp,e1,e2]
 simp only [Sem.run_bind]at this|-
 rw [this]
 simp
def qcb {op:UnOp}{t:TypeId}{x:Operand}(hx:qa8 LB x=true)(hop:qbQ LB F f a ⟨dst,.unOp op t x,ty,pos,after,guard⟩)
  (hv:yf call lo (.un op x) f h=some (v,h')):h'=h/\qbY P a ⟨dst,.unOp op t x,ty,pos,after,guard⟩ F v:=by
 simp only [yf]at hv
 split at hv<;>try (simp at hv;done)
 rename_i u hu
 split at hv<;>simp at hv
 rename_i r hr
 obtain⟨rfl,rfl⟩:=hv
 have hxv:=hop x (by simp [Op.operands]) hx _ hu
 refine⟨rfl,r,fun w => ?_, ?_⟩
 ·unfold iun at hr
  split at hr
  ·have e1:=hxv.yg rfl
   simp at hr;subst hr;simp [execOp,e1,Op.unary,Op.intArith]
  ·have e1:=hxv.yg rfl
   simp at hr;subst hr;simp [execOp,e1,Op.unary]
  ·have e1:=hxv.yg rfl
   simp [qam]at hr;subst hr;simp [execOp,e1,Op.unary,Op.intBits]
  ·simp at hr
 ·unfold iun at hr
  split at hr
  ·simp at hr;subst hr;exact .int _ _
  ·simp at hr;subst hr;exact .bool _
  ·simp [qam]at hr;subst hr;exact .int _ _
  ·simp at hr
def qcc {t:TypeId}{x:Operand}(hx:qa8 LB x=true)(ht:∀ms,P.underlying t≠some (.interface ms))(ht':P.underlying t≠none)
  (hop:qbQ LB F f a ⟨dst,.makeInterface t x,ty,pos,after,guard⟩)
  (hv:yf call lo (.yJ t x) f h=some (v,h')):h'=h/\qbY P a ⟨dst,.makeInterface t x,ty,pos,after,guard⟩ F v:=by
 simp only [yf]at hv
 split at hv<;>simp at hv
 rename_i u hu
 obtain⟨rfl,rfl⟩:=hv
 refine⟨rfl,.iface t (a.eval x),fun w => ?_,.iface _ _ _ (hop x (by simp [Op.operands]) hx _ hu)⟩
 cases hd:P.underlying t with
 | none=>exact absurd hd ht'
 | some d =>
   have hr:=run_underlying hd w
   cases d<;>first
    | (simp [execOp,Instr.makeInterface,hr];done)
    | exact absurd hd (ht _)
def qcd {fn:Fn}{first caps:Array Operand}(h1:first.toList.all (qa8 LB)=true)(h2:caps.toList.all (qa8 LB)=true)
  (hop:qbQ LB F f a ⟨dst,.makeFunc fn first caps,ty,pos,after,guard⟩)
  (hv:yf call lo (.yr fn first.toList caps.toList) f h=some (v,h')):h'=h/\qbY P a ⟨dst,.makeFunc fn first caps,ty,pos,after,guard⟩ F v:=by
 simp only [yf]at hv
 split at hv<;>simp at hv
 rename_i us us' hu hu'
 obtain⟨rfl,rfl⟩:=hv
 refine⟨rfl,.func fn (first.map a.eval) (caps.map a.eval),fun w=>by simp [execOp,Instr.makeFunc],.func _ _ _ _ _ ?_ ?_⟩
 ·simpa using qbT (a:=a) h1 (fun x hx=>hop x (by simp [Op.operands];left;simpa using hx)) hu
 ·simpa using qbT (a:=a) h2 (fun x hx=>hop x (by simp [Op.operands];right;simpa using hx)) hu'
def qce {x:Operand}{i:Nat}(hx:qa8 LB x=true)(hop:qbQ LB F f a ⟨dst,.extract x i,ty,pos,after,guard⟩)
  (hv:yf call lo (.extract x i) f h=some (v,h')):h'=h/\qbY P a ⟨dst,.extract x i,ty,pos,after,guard⟩ F v:=by
 simp only [yf]at hv
 split at hv<;>try (simp at hv;done)
 rename_i vs hu
 split at hv<;>simp at hv
 rename_i r hr
 obtain⟨rfl,rfl⟩:=hv
 have hxv:=hop x (by simp [Op.operands]) hx _ hu
 generalize hce:a.eval x=cv at hxv
 cases hxv
 rename_i cs hcs
 obtain⟨c,h1,h2⟩:=hcs.get hr
 exact⟨rfl,c,fun w=>by simp at h1;simp [execOp,hce,Instr.extract,h1],h2⟩
def qcf {t u:TypeId}{fi off:Nat}{x:Operand}(hf:qa7 P t fi=some (off,u))(hx:qa8 LB x=true)(hop:qbQ LB F f a ⟨dst,.fieldAddr t x fi,ty,pos,after,guard⟩)
  (hv:yf call lo (.yo off x) f h=some (v,h')):h'=h/\qbY P a ⟨dst,.fieldAddr t x fi,ty,pos,after,guard⟩ F v:=by
 obtain⟨fs,fd,hu1,hfd,rfl,rfl,hsz⟩:=qbP hf
 simp only [yf]at hv
 split at hv<;>simp at hv
 rename_i ad hu
 obtain⟨rfl,rfl⟩:=hv
 have hxv:=hop x (by simp [Op.operands]) hx _ hu
 generalize hce:a.eval x=cv at hxv
 cases hxv with
 | ptr _ c e hs he hc =>
   obtain⟨n,hn⟩:=hsz
   have hr1:=fun w=>run_underlying hu1 w
   refine⟨rfl,.pointer (some (c.add fd.offset)),fun w => ?_,.ptr _ _ e rfl he (fun x hx => ?_)⟩
   ·simp [execOp,hce,Instr.fieldAt,hr1,hfd,Instr.sureAddr,fieldPlace,qbG hn]
   ·rw [hc x hx]
    unfold Addr.add
    split<;>simp_all<;>omega
def qcg {t u:TypeId}{fi off:Nat}{n:Option Nat}{x:Operand}(hf:qa7 P t fi=some (off,u))(hn:tyN P u=some n)(hx:qa8 LB x=true)
  (hop:qbQ LB F f a ⟨dst,.field t x fi,ty,pos,after,guard⟩)
  (hv:yf call lo (.field off n x) f h=some (v,h')):h'=h/\qbY P a ⟨dst,.field t x fi,ty,pos,after,guard⟩ F v:=by
 obtain⟨fs,fd,hu1,hfd,rfl,rfl,hsz⟩:=qbP hf
 simp only [yf]at hv
 split at hv<;>try (simp at hv;done)
 rename_i cs hu
 split at hv<;>simp at hv
 rename_i r hr
 obtain⟨rfl,rfl⟩:=hv
 have hxv:=hop x (by simp [Op.operands]) hx _ hu
 generalize hce:a.eval x=cv at hxv
 cases hxv with
 | agg _ ds hds =>
   obtain⟨c,h1,h2⟩:=qbO hn hds hr
   exact⟨rfl,c,fun w=>by simp [execOp,hce,Instr.field,run_underlying hu1,hfd,asAgg,h1],h2⟩
def qch {t e:TypeId}{len s:Nat}{n:Option Nat}{x i:Operand}(hu1:P.underlying t=some (.array len e))(hs:qa4 P e=some s)(hn:tyN P e=some n)
  (hx:qa8 LB x=true) (hi:qa8 LB i=true) (hop:qbQ LB F f a ⟨dst,.index t x i,ty,pos,after,guard⟩)
  (hv:yf call lo (.index len s n x i) f h=some (v,h')):h'=h/\qbY P a ⟨dst,.index t x i,ty,pos,after,guard⟩ F v:=by
 simp only [yf]at hv
 split at hv<;>try (simp at hv;done)
 rename_i cs k ix hu hi'
 split at hv<;>try (simp at hv;done)
 rename_i hb
 split at hv<;>simp at hv
 rename_i r hr
 obtain⟨rfl,rfl⟩:=hv
 have hxv:=hop x (by simp [Op.operands]) hx _ hu
 have hiv:=(hop i (by simp [Op.operands]) hi _ hi').yg rfl
 generalize hce:a.eval x=cv at hxv
 cases hxv with
 | agg _ ds hds =>
   obtain⟨c,h1,h2⟩:=qbO hn hds hr
   exact⟨rfl,c,fun w=>by simp [execOp,hce,hiv,Instr.index,asIntOf,run_underlying hu1,hb,qbG hs,h1],h2⟩
def qci {t:TypeId}{x i:Operand}(hu1:P.underlying t=some .string)
  (hx:qa8 LB x=true) (hi:qa8 LB i=true) (hop:qbQ LB F f a ⟨dst,.index t x i,ty,pos,after,guard⟩)
  (hv:yf call lo (.yN x i) f h=some (v,h')):h'=h/\qbY P a ⟨dst,.index t x i,ty,pos,after,guard⟩ F v:=by
 simp only [yf]at hv
 split at hv<;>try (simp at hv;done)
 rename_i s k ix hu hi'
 split at hv<;>try (simp at hv;done)
 rename_i hb
 split at hv<;>simp at hv
 rename_i r hr
 obtain⟨rfl,rfl⟩:=hv
 have hxv:=(hop x (by simp [Op.operands]) hx _ hu).yg rfl
 have hiv:=(hop i (by simp [Op.operands]) hi _ hi').yg rfl
 refine⟨rfl,_,fun w => ?_,.int _ _⟩
 have hs:s[ix.toNat]? = some r:=by
  have h1:ix.toNat<s.data.toList.length:=by
   rcases Nat.lt_or_ge ix.toNat s.data.toList.length with h2|h2
   ·exact h2
   ·rw [zzE h2]at hr;cases hr
  have h3:ix.toNat<s.size:=by simpa using h1
  rw [getElem?_pos s ix.toNat h3]
  rw [zzG h1]at hr
  simp at hr
  rw [<-hr]
  rfl
 simp [execOp,hxv,hiv,Instr.index,asIntOf,run_underlying hu1,hb,hs]
def qcj {t e:TypeId}{len s:Nat}{x i:Operand}(hu1:P.underlying t=some (.array len e))(hs:qa4 P e=some s)
  (hx:qa8 LB x=true) (hi:qa8 LB i=true) (hop:qbQ LB F f a ⟨dst,.indexAddr t x i,ty,pos,after,guard⟩)
  (hv:yf call lo (.yn (some len) s x i) f h=some (v,h')):h'=h/\qbY P a ⟨dst,.indexAddr t x i,ty,pos,after,guard⟩ F v:=by
 simp only [yf]at hv
 split at hv<;>try (simp at hv;done)
 rename_i u k ix hu hi'
 split at hv<;>(try (simp at hv;done))<;>(try contradiction)
 ·rename_i len' ad e1
  injection e1 with e1;subst e1
  split at hv<;>simp at hv
  rename_i hb
  obtain⟨rfl,rfl⟩:=hv
  have hxv:=hop x (by simp [Op.operands]) hx _ hu
  have hiv:=(hop i (by simp [Op.operands]) hi _ hi').yg rfl
  generalize hce:a.eval x=cv at hxv
  cases hxv with
  | ptr _ c e hsp he hc =>
    refine⟨rfl,.pointer (some (c.add (ix.toNat*s))),fun w => ?_,.ptr _ _ e rfl he (fun x hx => ?_)⟩
    ·simp [execOp,hce,hiv,Instr.indexAt,asIntOf,run_underlying hu1,Instr.sureAddr,hb,qbG hs]
    ·rw [hc x hx]
     unfold Addr.add
     split<;>simp_all<;>omega
def qck {t e:TypeId}{s:Nat}{x i:Operand}(hu1:P.underlying t=some (.slice e))(hs:qa4 P e=some s)
  (hx:qa8 LB x=true) (hi:qa8 LB i=true) (hop:qbQ LB F f a ⟨dst,.indexAddr t x i,ty,pos,after,guard⟩)
  (hv:yf call lo (.yn none s x i) f h=some (v,h')):h'=h/\qbY P a ⟨dst,.indexAddr t x i,ty,pos,after,guard⟩ F v:=by
 simp only [yf]at hv
 split at hv<;>try (simp at hv;done)
 rename_i u k ix hu hi'
 split at hv<;>(try (simp at hv;done))<;>(try contradiction)
 rename_i ad len cap e1
 split at hv<;>simp at hv
 rename_i hb
 obtain⟨rfl,rfl⟩:=hv
 have hxv:=hop x (by simp [Op.operands]) hx _ hu
 have hiv:=(hop i (by simp [Op.operands]) hi _ hi').yg rfl
 generalize hce:a.eval x=cv at hxv
 cases hxv with
 | slice _ c _ _ e hsp he hn hc =>
   refine⟨rfl,.pointer (some (c.add (ix.toNat*s))),fun w => ?_,.ptr _ _ e rfl he (fun x hx => ?_)⟩
   ·simp [execOp,hce,hiv,Instr.indexAt,asIntOf,run_underlying hu1,hb,qbG hs]
   ·rw [hc x hx (by omega)]
    unfold Addr.add
    split<;>simp_all<;>omega
 | loose _ c _ _ cap' e hsp he hn hc =>
   refine⟨rfl,.pointer (some (c.add (ix.toNat*s))),fun w => ?_,.ptr _ _ e rfl he (fun x hx => ?_)⟩
   ·simp [execOp,hce,hiv,Instr.indexAt,asIntOf,run_underlying hu1,hb,qbG hs]
   ·obtain⟨h1,h2,h3,h4⟩:=hc x hx
    have h5:=h3 (by omega)
    clear h3 h4 hc
    obtain⟨cb,co,cs⟩:=c
    simp only at h1 h2 h5
    subst h1 h2 h5
    unfold Addr.add
    split<;>simp_all<;>omega
def qcl {x:Operand}(hx:qa8 LB x=true)(hop:qbQ LB F f a ⟨dst,.nilCheck x,ty,pos,after,guard⟩)
  (hv:yf call lo (.ym x) f h=some (v,h')):h'=h/\qbY P a ⟨dst,.nilCheck x,ty,pos,after,guard⟩ F v:=by
 simp only [yf]at hv
 split at hv<;>simp at hv
 all_goals
  rename_i hu
  obtain⟨rfl,rfl⟩:=hv
  have hxv:=hop x (by simp [Op.operands]) hx _ hu
  generalize hce:a.eval x=cv at hxv
  cases hxv
 ·exact⟨rfl,a.eval x,fun w=>by simp [execOp,hce],by rw [hce];exact .ptr _ _ _ (by assumption) (by assumption) (by assumption)⟩
 ·exact⟨rfl,a.eval x,fun w=>by simp [execOp,hce],by rw [hce];exact .iface _ _ _ (by assumption)⟩
 ·exact⟨rfl,a.eval x,fun w=>by simp [execOp,hce],by rw [hce];exact .func _ _ _ _ _ (by assumption) (by assumption)⟩
def qcm {name:String}{t g:Nat}(h:(qba P name).lookup t=some g)(recv:Value)(w:World) :
  (nilAhead (P.types.size+Made.depth) t recv name).run P w = .ok (some false) w:=by
 have hm:(t,g)∈qba P name:=by
  generalize qba P name=l at h
  induction l with
  | nil=>simp at h
  | cons p l ih =>
    obtain⟨k,v⟩:=p
    simp only [List.lookup_cons]at h
    split at h
    ·rename_i he
     have:t=k:=by simpa using he
     injection h with h
     subst this h
     simp
    ·exact List.mem_cons_of_mem _ (ih h)
 simp only [qba,List.mem_filterMap]at hm
 obtain⟨t',ht',hm⟩:=hm
 split at hm<;>try (cases hm;done)
 rename_i i hi
 split at hm<;>try (cases hm;done)
 rename_i m hfind
 split at hm<;>try (cases hm;done)
 all_goals
  rename_i g' e hf hp hu
  injection hm with hm
  injection hm with e1 e2
  subst e1 e2
  have hmp:m.path.toList = []:=by
   have:m.path = #[]:=by simpa using hp
   rw [this]
  obtain⟨q,hq⟩:∃q,P.types.size+Made.depth=q+1:=⟨P.types.size+99,rfl⟩
  rw [hq]
  simp only [nilAhead,Sem.run_bind,run_typeInfo (w:=w) hi,Result.andThen_ok,hfind,hmp,followBlind,Sem.run_pure,hf,run_underlying hu]
def qcn {x:Operand}{name:String}(hx:qa8 LB x=true)(hop:qbQ LB F f a ⟨dst,.nilCheck x,ty,pos,after,guard⟩)
  (hv:yf call lo (.ye name (qba P name) x) f h=some (v,h')):h'=h/\qbY P a ⟨dst,.nilCheck x,ty,pos,after,guard⟩ F v:=by
 simp only [yf]at hv
 split at hv<;>try (cases hv;done)
 rename_i n a1 b1 hu
 split at hv<;>try (cases hv;done)
 rename_i hn
 subst hn
 split at hv<;>try (cases hv;done)
 rename_i t u r hl
 split at hv<;>try (cases hv;done)
 rename_i g hg
 injection hv with hv
 injection hv with e1 e2
 subst e1 e2
 have hxv:=hop x (by simp [Op.operands]) hx _ hu
 generalize hce:a.eval x=cv at hxv
 cases hxv with
 | func _ _ f' _ c' hf hc =>
   have hf0:=hf
   rw [hl]at hf
   generalize hfl:f'.toList=fl at hf
   cases hf with
   | cons _ c _ cs h1 h2 =>
     cases h1 with
     | iface _ _ c1 h3 =>
       have e0:f'[0]? = some (Value.iface t c1):=by rw [<-Array.getElem?_toList,hfl];rfl
       refine⟨rfl,.func (.method n) f' c',fun w => ?_,.func _ _ _ _ _ hf0 hc⟩
       have:=qcm hg c1 w
       simp only [execOp,hce,e0,Sem.run_bind,run_program,Result.andThen_ok,this]
       simp
def qco {s d:TypeId}{k:qai}{x:Operand}(hx:qa8 LB x=true)
  (hk:(∃j j',P.underlying s=some (.int j)/\P.underlying d=some (.int j')/\k = .int j')\/(∃j j',P.underlying s=some (.float j)/\P.underlying d=some (.int j')/\k = .int j')\/
    (∃j j',P.underlying s=some (.int j)/\P.underlying d=some (.float j')/\k = .float j')\/(P.underlying s=some .string/\P.underlying d=some .string/\k = .same))
  (hop:qbQ LB F f a ⟨dst,.convert s d x,ty,pos,after,guard⟩)
  (hv:yf call lo (.conv k x) f h=some (v,h')):h'=h/\qbY P a ⟨dst,.convert s d x,ty,pos,after,guard⟩ F v:=by
 simp only [yf]at hv
 split at hv<;>try (simp at hv;done)
 rename_i u hu
 split at hv<;>simp at hv
 rename_i r hr
 obtain⟨rfl,rfl⟩:=hv
 have hxv:=hop x (by simp [Op.operands]) hx _ hu
 rcases hk with⟨j,j',h1,h2,rfl⟩|⟨j,j',h1,h2,rfl⟩|⟨j,j',h1,h2,rfl⟩|⟨h1,h2,rfl⟩
 all_goals
  have hr1:=fun w=>run_underlying h1 w
  have hr2:=fun w=>run_underlying h2 w
  unfold qat at hr
  split at hr<;>(try simp at hr)<;>(try contradiction)
 ·rename_i e;injection e with e;subst e;subst hr
  have e1:=hxv.yg rfl
  exact⟨rfl,_,fun w=>by simp [execOp,e1,convert,hr1,hr2,Conv.intToInt],.int _ _⟩
 ·rename_i e;injection e with e;subst e
  split at hr<;>simp at hr
  rename_i n hn
  obtain⟨hb,rfl⟩:=hr
  have e1:=hxv.yg rfl
  exact⟨rfl,_,fun w=>by simp [execOp,e1,convert,hr1,hr2,Conv.floatToInt,hn,hb],.int _ _⟩
 ·rename_i e;injection e with e;subst e;subst hr
  have e1:=hxv.yg rfl
  exact⟨rfl,_,fun w=>by simp [execOp,e1,convert,hr1,hr2,Conv.intToInt],.int _ _⟩
 ·rename_i e;injection e with e;subst e
  split at hr<;>simp at hr
  rename_i n hn
  obtain⟨hb,rfl⟩:=hr
  have e1:=hxv.yg rfl
  exact⟨rfl,_,fun w=>by simp [execOp,e1,convert,hr1,hr2,Conv.floatToInt,hn,hb],.int _ _⟩
 ·rename_i e;injection e with e;subst e;subst hr
  have e1:=hxv.yg rfl
  exact⟨rfl,_,fun w=>by simp [execOp,e1,convert,hr1,hr2,Conv.intToFloat],.float _ _⟩
 ·subst hr
  have e1:=hxv.yg rfl
  exact⟨rfl,_,fun w=>by simp [execOp,e1,convert,hr1,hr2],.string _⟩
end
section
variable {P:Program}{LB:List Nat}{F:Emb}{f:Fr}{a:Act}{call:qaM}{lo:Nat}{h h':qab}{v:Value}
variable {dst:Option Nat}{ty:TypeId}{pos:String}{after:Array Edge}{guard:Option (Nat×Bool)}
def qcp {fs:Array Field}{t:TypeId}(hu:P.underlying t=some (.struct fs)){parts:List (Nat×Operand)}{ps:List (Nat×Nat×Operand)}
  (h:qbd P t parts=some ps):(∀f∈fs.toList,(qa4 P f.type).isSome=true)/\
    ps.length=parts.length/\(∀(j i:Nat) (x:Operand),parts[j]? = some (i,x)->∃o n,ps[j]? = some (o,n,x)/\∃fd,fs[i]? = some fd/\fd.offset=o/\qa4 P fd.type=some n):=by
 unfold qbd at h
 simp only [hu]at h
 split at h
 ·rename_i hall
  refine⟨fun f hf=>by have:=List.all_eq_true.1 hall f hf;simpa using this, ?_⟩
  clear hall
  induction parts generalizing ps with
  | nil=>simp [qbc]at h;subst h;simp
  | cons p parts ih =>
    obtain⟨i,x⟩:=p
    simp only [qbc]at h
    split at h
    ·rename_i fd hf
     split at h
     ·rename_i n r hn hr
      simp at h
      subst h
      obtain⟨h1,h2⟩:=ih hr
      refine⟨by simp [h1],fun j k y hj => ?_⟩
      cases j with
      | zero =>
        simp at hj
        obtain⟨rfl,rfl⟩:=hj
        exact⟨fd.offset,n,by simp,fd,hf,rfl,hn⟩
      | succ j =>
        simp at hj
        obtain⟨o,m,h3,h4⟩:=h2 j k y hj
        exact⟨o,m,by simpa using h3,h4⟩
     ·simp at h
    ·simp at h
 ·simp at h
def qcq {parts:List (Nat×Operand)}{ps:List (Nat×Nat×Operand)}(hl:ps.length=parts.length)
  (hp:∀(j i:Nat) (x:Operand),parts[j]? = some (i,x)->∃o n,ps[j]? = some (o,n,x)) (a:Act) :
  (parts.map (·.1)).zip ((ps.map fun p=>(p.1,p.2.1,a.eval p.2.2)).map fun d=>d.2.2)=parts.map fun p=>(p.1,a.eval p.2):=by
 apply List.ext_getElem (by simp [hl])
 intro j h1 h2
 simp at h1 h2
 obtain⟨o,n,h3⟩:=hp j parts[j].1 parts[j].2 (by simp [h2])
 have h4:ps[j]'(by omega)=(o,n,parts[j].2):=by
  rw [zzG (by omega)]at h3
  injection h3
 simp [h4]
def qcr {t:TypeId}{parts:Array (Nat×Operand)}{z:Value}{ps:List (Nat×Nat×Operand)}(hz:qa6 P t=some z)(hps:qbd P t parts.toList=some ps)
  (hok:ps.all (fun p=>qa8 LB p.2.2)=true) (hop:qbQ LB F f a ⟨dst,.build t parts,ty,pos,after,guard⟩)
  (hv:yf call lo (.build (qaf z) ps) f h=some (v,h')):h'=h/\qbY P a ⟨dst,.build t parts,ty,pos,after,guard⟩ F v:=by
 obtain⟨hz1,hz2,hz3⟩:=qbJ hz
 simp only [yf]at hv
 split at hv<;>try (simp at hv;done)
 rename_i us hus
 split at hv<;>simp at hv
 rename_i cs hcs
 obtain⟨rfl,rfl⟩:=hv
 have hzr:VRs F (qaf z) z.cells.toList:=by rw [qbK]at hz3|-;exact VRs.flat hz3
 cases hu:P.underlying t with
 | none=>simp [qbd,hu]at hps
 | some d =>
   cases d<;>try (simp [qbd,hu]at hps;done)
   case struct fs =>
    obtain⟨h1,h2,h3⟩:=qcp hu hps
    have hpr:=qbU (a:=a) hok (fun p hp=>hop p.2.2 (by
     obtain⟨j,hj⟩:=List.getElem?_of_mem hp
     have hjl:j<parts.toList.length:=by rw [<-h2];exact(zzS.1 hj).1
     obtain⟨o,n,h4,_⟩:=h3 j _ _ (by rw [zzG hjl])
     rw [hj]at h4
     simp [Op.operands]
     refine⟨parts.toList[j].1, ?_⟩
     have:p.2.2=parts.toList[j].2:=by injection h4 with h4;rw [h4]
     rw [this]
     exact Array.getElem_mem (xs:=parts) (i:=j) (by simpa using hjl))) hus
    obtain⟨cs',h5,h6⟩:=qbX (place:=fun i=>(fs.toList.map fun f=>(f.offset,(qa4 P f.type).getD 0))[i]?) (ix:=parts.toList.map (·.1)) hpr (by simp [h2]) (fun j i d hi hd=>by
     simp only [List.getElem?_map]at hi hd
     cases hpj:parts.toList[j]? with
     | none=>simp [hpj]at hi
     | some p =>
       obtain⟨i',x⟩:=p
       simp [hpj]at hi
       subst hi
       obtain⟨o,n,h7,fd,h8,h9,h10⟩:=h3 j _ _ hpj
       rw [h7]at hd
       simp at hd
       subst hd
       simp [h8,h9,h10]) hzr hcs
    rw [qcq h2 (fun j i x hj=>by obtain⟨o,n,h7,_⟩:=h3 j i x hj;exact⟨o,n,h7⟩)]at h5
    refine⟨rfl,.agg cs',fun w => ?_,.agg _ _ (by simpa using h6)⟩
    have hm:=qb2 (P:=P) fs.toList h1 w
    have h5':Instr.fill (fun i=>(fs.toList.map fun f=>(f.offset,(qa4 P f.type).getD 0)).toArray[i]?) z.cells (parts.map fun x=>(x.1,a.eval x.2)).toList=some cs':=by
     rw [Array.toList_map];simpa using h5
    simp only [execOp,Instr.build,Sem.run_bind,qbI hz1,Result.andThen_ok,run_underlying hu,Array.mapM_eq_mapM_toList,Sem.run_map]
    rw [hm]
    simp only [Result.andThen_ok,h5']
    rfl
   case array n e =>
    simp only [qbd,hu]at hps
    cases hn:qa4 P e with
    | none=>simp [hn]at hps
    | some s =>
      simp only [hn,Option.some.injEq]at hps
      have h2:ps.length=parts.toList.length:=by rw [<-hps];simp
      have h3:∀(j i:Nat) (x:Operand),parts.toList[j]? = some (i,x)->ps[j]? = some (i*s,s,x):=fun j i x hj=>by rw [<-hps];simp [hj]
      have hpr:=qbU (a:=a) hok (fun p hp=>hop p.2.2 (by
       rw [<-hps]at hp
       simp at hp
       obtain⟨i,x,hm,rfl⟩:=hp
       simp [Op.operands]
       exact⟨i,hm⟩)) hus
      obtain⟨cs',h5,h6⟩:=qbX (place:=fun i=>some (i*s,s)) (ix:=parts.toList.map (·.1)) hpr (by simp [h2]) (fun j i d hi hd=>by
       simp only [List.getElem?_map]at hi hd
       cases hpj:parts.toList[j]? with
       | none=>simp [hpj]at hi
       | some p =>
         obtain⟨i',x⟩:=p
         simp [hpj]at hi
         subst hi
         rw [h3 j _ _ hpj]at hd
         simp at hd
         subst hd
         rfl) hzr hcs
      rw [qcq h2 (fun j i x hj=>⟨_,_,h3 j i x hj⟩)]at h5
      refine⟨rfl,.agg cs',fun w => ?_,.agg _ _ (by simpa using h6)⟩
      have h5':Instr.fill (fun i=>some (i*s,s)) z.cells (parts.map fun x=>(x.1,a.eval x.2)).toList=some cs':=by
       rw [Array.toList_map];exact h5
      simp only [execOp,Instr.build,Sem.run_bind,qbI hz1,Result.andThen_ok,run_underlying hu,qbG hn,h5']
      rfl
def qcs (xs ys:List Value):∀(l m:List (Nat×Nat)) (b:Bool),yp xs ys (l++m)=some b->∃c d,yp xs ys l=some c/\yp xs ys m=some d/\b=(c&&d)
 | [],m,b,h=>⟨true,b,rfl,h,by simp⟩
 | (i,t)::l,m,b,h=>by
   simp only [List.cons_append,yp]at h
   cases hx:xs[i]? with
   | none=>simp [hx]at h
   | some x =>
     cases hy:ys[i]? with
     | none=>simp [hx,hy]at h
     | some y =>
       cases he:qar t x y with
       | none=>simp [hx,hy,he]at h
       | some e =>
         cases hc:yp xs ys (l++m)with
         | none=>simp [hx,hy,he,hc]at h
         | some c =>
           simp [hx,hy,he,hc]at h
           obtain⟨c1,d1,h1,h2,h3⟩:=qcs xs ys l m c hc
           refine⟨e&&c1,d1, ?_,h2,by rw [<-h,h3,Bool.and_assoc]⟩
           simp [yp,hx,hy,he,h1]
def qct (xs ys:Array Value)(off n:Nat):∀(l:List (Nat×Nat)),l.all (fun p=>decide (p.1<n))=true->
  yp xs.toList ys.toList (l.map fun p=>(p.1+off,p.2))=yp (xs.extract off (off+n)).toList (ys.extract off (off+n)).toList l
 | [],_=>rfl
 | (i,t)::l,h=>by
   simp only [List.all_cons,Bool.and_eq_true,decide_eq_true_eq]at h
   have ih:=qct xs ys off n l h.2
   have e:∀zs:Array Value,(zs.extract off (off+n)).toList[i]? = zs.toList[i+off]? := fun zs=>by
    simp only [Array.getElem?_toList,Array.getElem?_extract]
    split
    ·rw [Nat.add_comm]
    ·rw [Array.getElem?_eq_none (by omega)]
   simp only [List.map_cons,yp,ih,e]
def qcu {t:TypeId}{k:Nat}{x y:Value}{b:Bool}(h:qar k x y=some b)
  (ht:(k=0/\∃j,P.underlying t=some (.int j))\/(k=1/\P.underlying t=some .bool)\/(k=2/\P.underlying t=some .string)) (D:Nat) (w:World) :
  (Op.equalIn (D+1) t x y).run P w = .ok b w:=by
 unfold qar at h
 split at h
 ·split at h<;>simp at h
  rename_i hc
  obtain⟨rfl,rfl⟩:=hc
  rcases ht with⟨_,j,hj⟩|⟨h0,_⟩|⟨h0,_⟩
  ·subst h;exact run_equalIn_int w D t _ j _ _ hj
  ·cases h0
  ·cases h0
 ·split at h<;>simp at h
  rename_i hc
  subst hc
  rcases ht with⟨h0,_⟩|⟨_,hj⟩|⟨h0,_⟩
  ·cases h0
  ·subst h;exact run_equalIn_bool' w D t _ _ hj
  ·cases h0
 ·split at h<;>simp at h
  rename_i hc
  subst hc
  rcases ht with⟨h0,_⟩|⟨h0,_⟩|⟨_,hj⟩
  ·cases h0
  ·cases h0
  ·subst h;exact run_equalIn_string w D t _ _ hj
 ·simp at h
def qcv {t:TypeId}{xs ys:Array Value}{off k D:Nat}{b:Bool}(w:World)
  (ht:(k=0/\∃j,P.underlying t=some (.int j))\/(k=1/\P.underlying t=some .bool)\/(k=2/\P.underlying t=some .string))
  (h:yp xs.toList ys.toList [(0+off,k)]=some b) :
  ((do let u <-Go.part t xs off;let v <-Go.part t ys off;Op.equalIn (D+1) t u v:Sem Bool)).run P w = .ok b w:=by
 simp only [yp,Nat.zero_add,Array.getElem?_toList]at h
 split at h<;>try (simp at h;done)
 rename_i x y hx hy
 split at h<;>simp at h
 rename_i e he
 subst h
 have hty:tyN P t=some none:=by
  rcases ht with⟨_,j,hj⟩|⟨_,hj⟩|⟨_,hj⟩<;>simp [tyN,hj]
 simp only [Sem.run_bind,qbN hty xs off w hx,qbN hty ys off w hy,Result.andThen_ok]
 exact qcu he ht D w
def qcw (d:Nat)(H:∀(t:TypeId) (l:List (Nat×Nat)),leaves P d t=some l->∀(D:Nat),d<=D->∀(xs ys:Array Value) (off:Nat) (b:Bool) (w:World),
  yp xs.toList ys.toList (l.map fun p=>(p.1+off,p.2))=some b->
  (∀n,qa4 P t=some n->l.all (fun p=>decide (p.1<n))=true)->(∃n,qa4 P t=some n)->
  ((do let u <-Go.part t xs off;let v <-Go.part t ys off;Op.equalIn D t u v:Sem Bool)).run P w = .ok b w) {D:Nat} (hD:d<=D) {X Y:Array Value} :
  ∀{fl:List Field} {l:List (Nat×Nat)} {b:Bool},leaves.leavesL P (leaves P d) fl=some l->yp X.toList Y.toList l=some b->∀w,(Op.eqFields D X Y fl).run P w = .ok b w
 | [],l,b,h,he,w=>by simp [leaves.leavesL]at h;subst h;simp [yp]at he;subst he;simp [Op.eqFields]
 | f::fl,l,b,h,he,w=>by
   simp only [leaves.leavesL]at h
   split at h
   ·simp at h
   ·rename_i hnm
    split at h<;>try (simp at h;done)
    rename_i l1 n1 m1 h1 h2 h3
    split at h<;>try (simp at h;done)
    rename_i hall
    injection h with h
    subst h
    obtain⟨c,e,h4,h5,rfl⟩:=qcs _ _ _ _ _ he
    have hA:=H f.type l1 h1 D hD X Y f.offset c w h4 (fun k hk=>by rw [h2]at hk;injection hk with hk;subst hk;exact hall) ⟨n1,h2⟩
    simp only [Op.eqFields,ne_eq,hnm,not_false_eq_true,if_true]
    simp only [Sem.run_bind]at hA|-
    generalize (Go.part f.type X f.offset).run P w=r1 at hA|-
    cases r1 with
    | halt x w1=>simp at hA
    | ok u w1 =>
      simp only [Result.andThen_ok]at hA|-
      generalize (Go.part f.type Y f.offset).run P w1=r2 at hA|-
      cases r2 with
      | halt x w2=>simp at hA
      | ok v w2 =>
        simp only [Result.andThen_ok]at hA|-
        rw [hA]
        simp only [Result.andThen_ok]
        cases c
        ·simp
        ·simp only [Bool.not_true,Bool.false_eq_true,if_false,Bool.true_and]
         exact qcw d H hD h3 h5 w
def qcx:∀(d:Nat) (t:TypeId) (l:List (Nat×Nat)),leaves P d t=some l->∀(D:Nat),d<=D->∀(xs ys:Array Value) (off:Nat) (b:Bool) (w:World),
  yp xs.toList ys.toList (l.map fun p=>(p.1+off,p.2))=some b->
  (∀n,qa4 P t=some n->l.all (fun p=>decide (p.1<n))=true)->(∃n,qa4 P t=some n)->
  ((do let u <-Go.part t xs off;let v <-Go.part t ys off;Op.equalIn D t u v:Sem Bool)).run P w = .ok b w
 | 0,t,l,h,_,_,_,_,_,_,_,_,_,_=>by simp [leaves]at h
 | d+1,t,l,h,D,hD,xs,ys,off,b,w,he,hn,⟨n,hsz⟩=>by
   obtain⟨D,rfl⟩:∃m,D=m+1:=⟨D-1,by omega⟩
   simp only [leaves]at h
   split at h
   ·rename_i hu;injection h with h;subst h;exact qcv w (.inr (.inl ⟨rfl,hu⟩)) he
   ·rename_i j hu;injection h with h;subst h;exact qcv w (.inl ⟨rfl,j,hu⟩) he
   ·rename_i hu;injection h with h;subst h;exact qcv w (.inr (.inr ⟨rfl,hu⟩)) he
   ·rename_i fs hu
    split at h
    ·simp at h
    ·rename_i hst
     have hty:tyN P t=some (some n):=by
      have:(P.info? t).map (fun i=>i.size)=some n:=hsz
      simp only [tyN,hu]
      cases hi:P.info? t with
      | none=>simp [hi]at this
      | some i=>simp [hi]at this|-;exact this
     rw [qct xs ys off n l (hn n hsz)]at he
     simp only [Sem.run_bind,qbN hty xs off w rfl,qbN hty ys off w rfl,Result.andThen_ok]
     rw [run_equalIn_struct w D t _ _ (by simp [Program.fieldsOf,hu]) (by simpa using hst)]
     exact qcw d (fun t l hl D hD=>qcx d t l hl D hD) (by omega) (by rw [show(P.fieldsOf t).toList=fs.toList by simp [Program.fieldsOf,hu]];exact h) he w
   ·simp at h
def qcy {k:Nat}{x c:Value}{b:Bool}(hr:VR F x c)(h:qas k x=some b):qas k c=some b:=by
 cases hr<;>simp [qas]at h|-<;> first|exact h|(split at h<;>simp_all)
def qcz {k:Nat}{c:Value}(h:qas k c=some true) :
  (k=0/\c = .pointer none)\/(k=1/\∃n m,c = .slice none n m)\/(k=2/\c = .map none)\/(k=3/\c = .nilFunc)\/(k=4/\c = .nilIface):=by
 cases c<;>simp [qas]at h
 case pointer a=>obtain⟨rfl,rfl⟩:=h;simp
 case slice a n m=>obtain⟨rfl,rfl⟩:=h;simp
 case map a=>obtain⟨rfl,rfl⟩:=h;simp
 case nilFunc=>subst h;simp
 case nilIface=>subst h;simp
 all_goals (try (split at h<;>simp at h))
def qcA:Value->Bool
 | .int _ _ | .float _ _ | .complex _ _ _ | .string _=>false
 | _=>true
def qcB {op:BinOp}{neg:Bool}(ho:qa9 op=some neg){t:TypeId}{x y:Value}(hx:qcA x=true){b:Bool}{w:World}
  (h:(Op.equal t x y).run P w = .ok b w):(binOp op t x y).run P w = .ok (.bool (if neg then !b else b)) w:=by
 cases op<;>simp [qa9]at ho<;>subst ho<;>cases x<;>simp [qcA]at hx<;>cases y<;>simp [binOp,h]
def qcC {op:BinOp}{t:TypeId}{ox oy:Operand}{x y:Value}(h1:x = .nilIface->y = .nilIface->(∃v,ox = .const v)\/(∃v,oy = .const v))
  (h2:(∃c d,x = .agg c/\y = .agg d)->P.eqGuardType P.depth t=false) (w:World):(eqGuard op t ox oy x y).run P w = .ok () w:=by
 have key:∀op',(op'=BinOp.eql\/op'=BinOp.neq)->(eqGuard op' t ox oy x y).run P w = .ok () w:=by
  intro op' ho
  cases x
  case nilIface =>
   cases y
   case nilIface =>
    rcases ho with rfl|rfl<;>rcases h1 rfl rfl with⟨v,rfl⟩|⟨v,rfl⟩<;>simp [eqGuard]
   all_goals (rcases ho with rfl|rfl<;>simp [eqGuard])
  case agg c =>
   cases y
   case agg d=>rcases ho with rfl|rfl<;>simp [eqGuard,h2 ⟨_,_,rfl,rfl⟩]
   all_goals (rcases ho with rfl|rfl<;>simp [eqGuard])
  all_goals (rcases ho with rfl|rfl<;>simp [eqGuard])
 cases op
 case eql=>exact key _ (.inl rfl)
 case neq=>exact key _ (.inr rfl)
 all_goals simp [eqGuard]
def qcD (D:Nat){t:TypeId}{k:Nat}{x y:Value}{b:Bool}(h:ieq (.nil k) x y=some b)
  (ht:(k=0/\∃e,P.underlying t=some (.pointer e))\/(k=1/\∃e,P.underlying t=some (.slice e))\/(k=2/\∃e e',P.underlying t=some (.map e e'))\/
    (k=3/\∃e e' e'',P.underlying t=some (.func e e' e''))\/(k=4/\∃e,P.underlying t=some (.interface e))) (w:World) :
  (Op.equalIn (D+1) t x y).run P w = .ok b w:=by
 simp only [ieq]at h
 split at h
 ·rename_i hy
  have hx:=h
  rcases qcz hy with⟨rfl,rfl⟩|⟨rfl,n,m,rfl⟩|⟨rfl,rfl⟩|⟨rfl,rfl⟩|⟨rfl,rfl⟩
  all_goals
   rcases ht with⟨h0,e,he⟩|⟨h0,e,he⟩|⟨h0,e,e',he⟩|⟨h0,e,e',e'',he⟩|⟨h0,e,he⟩<;>(try (exact absurd h0 (by decide)))
   cases x<;>simp [qas]at hx
  ·rename_i a;subst hx;cases a<;>simp [Op.equalIn,run_underlying he]
  ·rename_i a n m;subst hx;cases a<;>simp [Op.equalIn,run_underlying he]
  ·rename_i a;subst hx;cases a<;>simp [Op.equalIn,run_underlying he]
  all_goals (subst hx;simp [Op.equalIn,run_underlying he])
 ·rename_i hy
  split at h<;>simp at h
  rename_i hx
  subst h
  rcases qcz hx with⟨rfl,rfl⟩|⟨rfl,n,m,rfl⟩|⟨rfl,rfl⟩|⟨rfl,rfl⟩|⟨rfl,rfl⟩
  all_goals
   rcases ht with⟨h0,e,he⟩|⟨h0,e,he⟩|⟨h0,e,e',he⟩|⟨h0,e,e',e'',he⟩|⟨h0,e,he⟩<;>(try (exact absurd h0 (by decide)))
   cases y<;>simp [qas]at hy
  ·rename_i a;cases a<;>simp at hy;simp [Op.equalIn,run_underlying he]
  ·rename_i a n m;cases a<;>simp at hy;simp [Op.equalIn,run_underlying he]
  ·rename_i a;cases a<;>simp at hy;simp [Op.equalIn,run_underlying he]
  all_goals simp [Op.equalIn,run_underlying he]
 ·simp at h
def VRs.yp {xs ys xs' ys':List Value}(h1:VRs F xs xs')(h2:VRs F ys ys'):∀(l:List (Nat×Nat)) (b:Bool),Ir.yp xs ys l=some b->Ir.yp xs' ys' l=some b
 | [],b,h=>h
 | (i,t)::l,b,h=>by
   simp only [Ir.yp]at h|-
   cases hx:xs[i]? with
   | none=>simp [hx]at h
   | some x =>
     cases hy:ys[i]? with
     | none=>simp [hx,hy]at h
     | some y =>
       cases he:qar t x y with
       | none=>simp [hx,hy,he]at h
       | some e =>
         cases hc:Ir.yp xs ys l with
         | none=>simp [hx,hy,he,hc]at h
         | some c =>
           obtain⟨x',h3,h4⟩:=h1.get hx
           obtain⟨y',h5,h6⟩:=h2.get hy
           have hxf:yl x=true:=by unfold qar at he;split at he<;>first|rfl|(simp at he)
           have hyf:yl y=true:=by unfold qar at he;split at he<;>first|rfl|(simp at he)
           rw [h4.yg hxf]at h3
           rw [h6.yg hyf]at h5
           simp [hx,hy,he,hc]at h
           simp [h3,h5,he,VRs.yp h1 h2 l c hc,h]
def qcE {op:BinOp}{neg:Bool}{k:EqK}{t t':TypeId}{x y:Operand}(ho:qa9 op=some neg)(hk:eqK P t x y=some k)(hx:qa8 LB x=true)(hy:qa8 LB y=true)
  (hop:qbQ LB F f a ⟨dst,.binOp op t x y t',ty,pos,after,guard⟩)
  (hv:yf call lo (.eqv neg k x y) f h=some (v,h')):h'=h/\qbY P a ⟨dst,.binOp op t x y t',ty,pos,after,guard⟩ F v:=by
 simp only [yf]at hv
 split at hv<;>try (simp at hv;done)
 rename_i u u' hu hu'
 split at hv<;>simp at hv
 rename_i b hb
 obtain⟨rfl,rfl⟩:=hv
 have hxv:=hop x (by simp [Op.operands]) hx _ hu
 have hyv:=hop y (by simp [Op.operands]) hy _ hu'
 refine⟨rfl,.bool (if neg then !b else b),fun w => ?_,.bool _⟩
 have main:qcA (a.eval x)=true/\(Op.equal t (a.eval x) (a.eval y)).run P w = .ok b w/\(eqGuard op t x y (a.eval x) (a.eval y)).run P w = .ok () w:=by
  cases k with
  | bool =>
    have ht:P.underlying t=some .bool:=by
     unfold eqK at hk
     split at hk<;>first|assumption|(simp at hk;done)|(split at hk<;>simp at hk;done)
    simp only [ieq]at hb
    split at hb<;>simp at hb
    rw [hxv.yg rfl,hyv.yg rfl]
    subst hb
    exact⟨rfl,run_equalIn_bool' w 9999 t _ _ ht,qcC (by simp) (by simp) w⟩
  | nil k =>
    have ht:((k=0/\∃e,P.underlying t=some (.pointer e))\/(k=1/\∃e,P.underlying t=some (.slice e))\/(k=2/\∃e e',P.underlying t=some (.map e e'))\/
      (k=3/\∃e e' e'',P.underlying t=some (.func e e' e''))\/(k=4/\∃e,P.underlying t=some (.interface e)))/\(k=4->(∃v,x = .const v)\/(∃v,y = .const v)):=by
     unfold eqK at hk
     split at hk<;>(try (simp at hk;done))
     ·rename_i e he;simp at hk;subst hk;exact⟨.inl ⟨rfl,e,he⟩,by simp⟩
     ·rename_i e he;simp at hk;subst hk;exact⟨.inr (.inl ⟨rfl,e,he⟩),by simp⟩
     ·rename_i e e' he;simp at hk;subst hk;exact⟨.inr (.inr (.inl ⟨rfl,e,e',he⟩)),by simp⟩
     ·rename_i e e' e'' he;simp at hk;subst hk;exact⟨.inr (.inr (.inr (.inl ⟨rfl,e,e',e'',he⟩))),by simp⟩
     ·rename_i e he
      split at hk<;>simp at hk
      ·subst hk;exact⟨.inr (.inr (.inr (.inr ⟨rfl,e,he⟩))),fun _ => .inl ⟨_,rfl⟩⟩
      ·subst hk;exact⟨.inr (.inr (.inr (.inr ⟨rfl,e,he⟩))),fun _ => .inr ⟨_,rfl⟩⟩
    have hb':ieq (.nil k) (a.eval x) (a.eval y)=some b:=by
     simp only [ieq]at hb|-
     split at hb
     ·rename_i h1;rw [qcy hyv h1];exact qcy hxv hb
     ·rename_i h1
      rw [qcy hyv h1]
      split at hb
      ·rename_i h2;simp [qcy hxv h2];simpa using hb
      ·simp at hb
     ·simp at hb
    refine⟨?_,qcD 9999 hb' ht.1 w,qcC (fun h1 h2=>ht.2 ?_) ?_ w⟩
    ·generalize a.eval x=X at hb'
     generalize a.eval y=Y at hb'
     simp only [ieq]at hb'
     have hX:∃c,qas k X=some c:=by
      split at hb'
      ·exact⟨_,hb'⟩
      ·split at hb'
       ·rename_i h3;exact⟨_,h3⟩
       ·cases hb'
      ·cases hb'
     obtain⟨c,hX⟩:=hX
     cases X<;>first|rfl|(cases hX;done)
    ·rw [h1,h2]at hb'
     simp only [ieq,qas]at hb'
     by_cases h4:k=4
     ·exact h4
     ·simp [h4]at hb'
    ·rintro ⟨c,d,h1,h2⟩
     rw [h1,h2]at hb'
     simp [ieq,qas]at hb'
  | cells l =>
    have ht:(∃fs,P.underlying t=some (.struct fs))/\P.eqGuardType P.depth t=false/\leaves P 8 t=some l:=by
     unfold eqK at hk
     split at hk<;>(try (simp at hk;done))
     ·split at hk<;>simp at hk
     ·rename_i fs hfs
      split at hk<;>simp at hk
      rename_i hg
      exact⟨⟨fs,hfs⟩,by simpa using hg,hk⟩
    obtain⟨⟨fs,hfs⟩,hg,hl⟩:=ht
    simp only [ieq]at hb
    split at hb<;>try (simp at hb;done)
    rename_i xs ys
    generalize hcx:a.eval x=X at hxv
    generalize hcy:a.eval y=Y at hyv
    cases hxv with
    | agg _ xs' h1 =>
      cases hyv with
      | agg _ ys' h2 =>
        refine⟨rfl, ?_,qcC (by simp) (fun _=>hg) w⟩
        have hb':=VRs.yp h1 h2 l b hb
        have hst:P.stoodInHeld t=false/\leaves.leavesL P (leaves P 7) fs.toList=some l:=by
         simp only [leaves,hfs]at hl
         split at hl
         ·cases hl
         ·rename_i hst
          exact⟨by simpa using hst,hl⟩
        have hd:Op.equal t (.agg xs') (.agg ys')=Op.equalIn (9999+1) t (.agg xs') (.agg ys'):=rfl
        rw [hd,run_equalIn_struct w 9999 t _ _ (by simp [Program.fieldsOf,hfs]) hst.1]
        exact qcw 7 (fun t l hl D hD=>qcx 7 t l hl D hD) (by omega) (by rw [show(P.fieldsOf t).toList=fs.toList by simp [Program.fieldsOf,hfs]];exact hst.2) hb' w
 obtain⟨m1,m2,m3⟩:=main
 have m4:=qcB (P:=P) ho m1 m2
 simp only [execOp,Sem.run_bind,m3,Result.andThen_ok,m4]
 rfl
end
section
variable {P:Program}{LB:List Nat}{F:Emb}{f:Fr}{a:Act}{call:qaM}{lo:Nat}{h h':qab}{v:Value}
variable {dst:Option Nat}{ty:TypeId}{pos:String}{after:Array Edge}{guard:Option (Nat×Bool)}
def qcF {x:Value}{y y' n:Nat}{code:BoundsCode}(hy:y<=y')(h:qav x y=some n)(w:World):(Instr.sliceBound x y' code).run P w = .ok n w/\n<=y:=by
 unfold qav at h
 split at h<;>try (simp at h;done)
 split at h<;>simp at h
 rename_i hb
 subst h
 refine⟨?_,by omega⟩
 simp [Instr.sliceBound,asIntOf,hb.1]
 intro hc
 omega
def qcG {b:Bool}{len cap cap' l hh m:Nat}{xlo xhi xmx:Option Value}(hc:cap<=cap')(hl:len<=cap)(h:qaz len cap xlo xhi xmx=some (l,hh,m))(w:World) :
  (Instr.sliceBounds b len cap' xlo xhi xmx).run P w = .ok (l,hh,if xmx.isSome then m else cap') w/\l<=hh/\hh<=m/\m<=cap:=by
 unfold qaz at h
 cases xmx with
 | none =>
   simp only [qaw]at h
   cases xhi with
   | none =>
     simp only [qax]at h
     cases xlo with
     | none =>
       simp [qay]at h
       obtain⟨rfl,rfl,rfl⟩:=h
       exact⟨by simp [Instr.sliceBounds],by omega,by omega,by omega⟩
     | some v =>
       simp only [qay]at h
       cases hb:qav v len with
       | none=>simp [hb]at h
       | some n =>
         simp [hb]at h
         obtain⟨rfl,rfl,rfl⟩:=h
         have:=qcF (P:=P) (code := .sliceB) (zzR _) hb w
         exact⟨by simp [Instr.sliceBounds,this],this.2,by omega,by omega⟩
   | some u =>
     simp only [qax]at h
     cases hu:qav u cap with
     | none=>simp [hu]at h
     | some k =>
       simp only [hu]at h
       have h1:∀code,(Instr.sliceBound u cap' code).run P w = .ok k w:=fun code=>(qcF (P:=P) (code:=code) hc hu w).1
       have h2:=(qcF (P:=P) (code := .index) hc hu w).2
       cases xlo with
       | none =>
         simp [qay]at h
         obtain⟨rfl,rfl,rfl⟩:=h
         exact⟨by simp [Instr.sliceBounds,h1],by omega,by omega,by omega⟩
       | some v =>
         simp only [qay]at h
         cases hb:qav v k with
         | none=>simp [hb]at h
         | some n =>
           simp [hb]at h
           obtain⟨rfl,rfl,rfl⟩:=h
           have:=qcF (P:=P) (code := .sliceB) (zzR _) hb w
           exact⟨by simp [Instr.sliceBounds,h1,this],this.2,by omega,by omega⟩
 | some z =>
   simp only [qaw]at h
   cases hz:qav z cap with
   | none=>simp [hz]at h
   | some q =>
     simp only [hz]at h
     have h0:∀code,(Instr.sliceBound z cap' code).run P w = .ok q w:=fun code=>(qcF (P:=P) (code:=code) hc hz w).1
     have h0':=(qcF (P:=P) (code := .index) hc hz w).2
     cases xhi with
     | none=>simp [qax]at h
     | some u =>
       simp only [qax]at h
       cases hu:qav u q with
       | none=>simp [hu]at h
       | some k =>
         simp only [hu]at h
         have h1:∀code,(Instr.sliceBound u q code).run P w = .ok k w:=fun code=>(qcF (P:=P) (code:=code) (zzR _) hu w).1
         have h2:=(qcF (P:=P) (code := .index) (zzR _) hu w).2
         cases xlo with
         | none =>
           simp [qay]at h
           obtain⟨rfl,rfl,rfl⟩:=h
           exact⟨by simp [Instr.sliceBounds,h0,h1],by omega,by omega,by omega⟩
         | some v =>
           simp only [qay]at h
           cases hb:qav v k with
           | none=>simp [hb]at h
           | some n =>
             simp [hb]at h
             obtain⟨rfl,rfl,rfl⟩:=h
             have h3:∀code,(Instr.sliceBound v k code).run P w = .ok n w:=fun code=>(qcF (P:=P) (code:=code) (zzR _) hb w).1
             have h4:=(qcF (P:=P) (code := .index) (zzR _) hb w).2
             exact⟨by simp [Instr.sliceBounds,h0,h1,h3],h4,by omega,by omega⟩
def qcH {len cap l hh m:Nat}{xlo xhi xmx:Option Value}{olo ohi omx:Option Operand}(h:qaz len cap xlo xhi xmx=some (l,hh,m))
  (h1:∀o u,olo=some o->xlo=some u->VR F u (a.eval o)) (h2:∀o u,ohi=some o->xhi=some u->VR F u (a.eval o)) (h3:∀o u,omx=some o->xmx=some u->VR F u (a.eval o))
  (e1:olo.isSome=xlo.isSome) (e2:ohi.isSome=xhi.isSome) (e3:omx.isSome=xmx.isSome) :
  olo.map a.eval=xlo/\ohi.map a.eval=xhi/\omx.map a.eval=xmx:=by
 have hint:∀(x:Value) (y n:Nat),qav x y=some n->yl x=true:=by
  intro x y n h;unfold qav at h;split at h<;>first|rfl|(simp at h)
 have key:∀(o:Option Operand) (x:Option Value),(∀p u,o=some p->x=some u->VR F u (a.eval p))->o.isSome=x.isSome->(∀u,x=some u->yl u=true)->o.map a.eval=x:=by
  intro o x hv he hf
  cases o with
  | none=>cases x with
    | none=>rfl
    | some u=>simp at he
  | some p=>cases x with
    | none=>simp at he
    | some u=>simp [(hv p u rfl rfl).yg (hf u rfl)]
 unfold qaz at h
 refine⟨key _ _ h1 e1 ?_,key _ _ h2 e2 ?_,key _ _ h3 e3 ?_⟩
 ·rintro u rfl
  split at h<;>try (cases h;done)
  split at h<;>try (cases h;done)
  split at h<;>try (cases h;done)
  rename_i hb;exact hint _ _ _ hb
 ·rintro u rfl
  split at h<;>try (cases h;done)
  split at h<;>try (cases h;done)
  rename_i hb;exact hint _ _ _ hb
 ·rintro u rfl
  split at h<;>try (cases h;done)
  rename_i hb;exact hint _ _ _ hb
def qcI {o:Option Operand}{x:Option Value}(h:waa f o=some x):o.isSome=x.isSome/\(∀p u,o=some p->x=some u->ev f p=some u):=by
 cases o with
 | none=>simp [waa]at h;subst h;simp
 | some p =>
   simp only [waa]at h
   split at h<;>simp at h
   rename_i u hu
   subst h
   exact⟨rfl,fun q v hq hv=>by injection hq with hq;injection hv with hv;subst hq hv;exact hu⟩
def qcJ {o:Option Operand}(h:qbf LB o=true):∀p,o=some p->qa8 LB p=true:=by
 rintro p rfl;exact h
def qcK (b o n:Nat):(⟨b,o,none⟩:Addr).add n=⟨b,o+n,none⟩:=by
 unfold Addr.add;split<;>simp_all
def qcL {t e:TypeId}{s:Nat}{x:Operand}{olo ohi omx:Option Operand}(hu1:P.underlying t=some (.slice e))(hs:qa4 P e=some s)
  (hx:qa8 LB x=true) (h1:qbf LB olo=true) (h2:qbf LB ohi=true) (h3:qbf LB omx=true) (hop:qbQ LB F f a ⟨dst,.slice t x olo ohi omx,ty,pos,after,guard⟩)
  (hv:yf call lo (.slice s x olo ohi omx) f h=some (v,h')):h'=h/\qbY P a ⟨dst,.slice t x olo ohi omx,ty,pos,after,guard⟩ F v:=by
 simp only [yf]at hv
 split at hv<;>try (simp at hv;done)
 rename_i u xlo xhi xmx hu hlo hhi hmx
 split at hv<;>simp at hv
 rename_i r hr
 obtain⟨rfl,rfl⟩:=hv
 have hxv:=hop x (by simp [Op.operands]) hx _ hu
 obtain⟨e1,k1⟩:=qcI hlo
 obtain⟨e2,k2⟩:=qcI hhi
 obtain⟨e3,k3⟩:=qcI hmx
 have g1:∀o u,olo=some o->xlo=some u->VR F u (a.eval o):=fun o u ho hu=>hop o (by subst ho;simp [Op.operands]) (qcJ h1 o ho) u (k1 o u ho hu)
 have g2:∀o u,ohi=some o->xhi=some u->VR F u (a.eval o):=fun o u ho hu=>hop o (by subst ho;simp [Op.operands]) (qcJ h2 o ho) u (k2 o u ho hu)
 have g3:∀o u,omx=some o->xmx=some u->VR F u (a.eval o):=fun o u ho hu=>hop o (by subst ho;simp [Op.operands]) (qcJ h3 o ho) u (k3 o u ho hu)
 have start:∀w,(execOp a.eval ⟨dst,.slice t x olo ohi omx,ty,pos,after,guard⟩).run P w=((Instr.slice t (a.eval x) (olo.map a.eval) (ohi.map a.eval) (omx.map a.eval)).run P w).andThen fun c w => .ok (.value c) w:=by
  intro w
  simp [execOp,Instr.sliceAt,run_underlying hu1]
 refine⟨rfl, ?_⟩
 generalize hce:a.eval x=cv at hxv
 rw [hce]at start
 unfold qaA at hr
 split at hr
 ·cases hxv with
  | yB =>
    split at hr<;>simp at hr
    rename_i l hh m hb
    subst hr
    obtain⟨q1,q2,q3⟩:=qcH hb g1 g2 g3 e1 e2 e3
    refine⟨.slice none 0 0,fun w => ?_,.yB⟩
    obtain⟨q4,q5,q6,q7⟩:=qcG (P:=P) (b:=true) (zzR _) (zzR _) hb w
    rw [start,q1,q2,q3]
    have:m=0:=by omega
    subst this
    have e4:hh-l=0:=by omega
    simp [Instr.slice,run_underlying hu1,q4,qbG hs,e4]
 ·rename_i ad len cap
  split at hr
  ·rename_i hsp
   split at hr<;>simp at hr
   rename_i l hh m hb
   subst hr
   obtain⟨q1,q2,q3⟩:=qcH hb g1 g2 g3 e1 e2 e3
   cases hxv with
   | loose _ c _ _ cap' e hsp' he hn hc=>rw [hsp]at hsp';cases hsp'
   | slice _ c _ _ e hsp' he hn hc =>
     have q0:=qcG (P:=P) (b:=true) (zzR _) hn hb default
     refine⟨.slice (some (if m=l then c else c.add (l*s))) (hh-l) (m-l),fun w => ?_, ?_⟩
     ·obtain⟨q4,q5,q6,q7⟩:=qcG (P:=P) (b:=true) (zzR _) hn hb w
      have q8:(if omx.isSome then m else cap)=m:=by
       cases xmx with
       | some z=>rw [e3];simp
       | none =>
         rw [e3]
         simp
         unfold qaz at hb
         simp only [qaw]at hb
         split at hb<;>try (cases hb;done)
         split at hb<;>try (cases hb;done)
         simp at hb
         omega
      rw [start,q1,q2,q3]
      simp only [Instr.slice,Sem.run_bind,run_underlying hu1,Result.andThen_ok,q4,qbG hs,Sem.run_pure]
      rw [<-e3,q8]
      simp only [Option.map_some]
      congr 4
      by_cases hml:m=l<;>simp [hml]
     ·obtain⟨-,q5,q6,q7⟩:=q0
      by_cases hml:m=l
      ·simp only [hml,if_true]
       exact .slice _ _ _ _ e hsp he (by omega) (fun x hx hp=>by omega)
      ·simp only [hml,if_false]
       have:(ad.add (l*s)).spot=none:=by unfold Addr.add;split<;>simp_all
       have hb':(ad.add (l*s)).block=ad.block:=by unfold Addr.add;split<;>rfl
       refine .slice _ _ _ _ e this (by rw [hb'];exact he) (by omega) (fun x hx hp => ?_)
       rw [hc x hx (by omega),qcK]
       unfold Addr.add
       split<;>simp_all<;>omega
  ·rename_i y hsp
   cases hxv with
   | slice _ c _ _ e hsp' he hn hc=>rw [hsp]at hsp';cases hsp'
   | loose _ c _ _ cap' e hsp' he hn hc =>
     split at hr
     ·rename_i z
      split at hr<;>try (cases hr;done)
      rename_i l hh m hb
      obtain⟨q1,q2,q3⟩:=qcH hb g1 g2 g3 e1 e2 e3
      have q0:=qcG (P:=P) (b:=true) hn (zzR _) hb default
      have run:∀w,(execOp a.eval ⟨dst,.slice t x olo ohi omx,ty,pos,after,guard⟩).run P w = .ok (.value (.slice (some (if m=l then c else c.add (l*s))) (hh-l) (m-l))) w:=by
       intro w
       obtain⟨q4,q5,q6,q7⟩:=qcG (P:=P) (b:=true) hn (zzR _) hb w
       rw [start,q1,q2,q3]
       simp only [Instr.slice,Sem.run_bind,run_underlying hu1,Result.andThen_ok,q4,qbG hs,Sem.run_pure]
       simp only [Option.isSome_some,if_true,Option.map_some]
       congr 4
       by_cases hml:m=l<;>simp [hml]
      refine⟨_,run, ?_⟩
      obtain⟨-,q5,q6,q7⟩:=q0
      split at hr
      ·rename_i hml
       injection hr with hr
       subst hr hml
       have e1:hh-m=0:=by omega
       have e2:m-m=0:=by omega
       simp only [if_true,e1,e2]
       exact .slice _ _ _ _ e rfl he (by omega) (fun x hx hp=>by omega)
      ·rename_i hml
       split at hr<;>try (cases hr;done)
       rename_i hhl
       injection hr with hr
       subst hr
       simp only [hml,if_false]
       refine .slice _ _ _ _ e rfl he (by omega) (fun x hx hp => ?_)
       obtain⟨r1,r2,r3,r4⟩:=hc x hx
       have r5:=r3 (by omega)
       obtain⟨cb,co,cs⟩:=c
       simp only at r1 r2 r5
       subst r1 r2 r5
       rw [qcK]
       simp only
       congr 1
       omega
     ·split at hr<;>try (cases hr;done)
      rename_i hk
      subst hk
      split at hr<;>try (cases hr;done)
      rename_i l hh m hb
      injection hr with hr
      subst hr
      obtain⟨q1,q2,q3⟩:=qcH hb g1 g2 g3 e1 e2 e3
      have q0:=qcG (P:=P) (b:=true) hn (zzR _) hb default
      obtain⟨-,q5,q6,q7⟩:=q0
      refine⟨.slice (some (if cap'=l then c else c.add (l*cap))) (hh-l) (cap'-l),fun w => ?_, ?_⟩
      ·obtain⟨q4,q5,q6,q7⟩:=qcG (P:=P) (b:=true) hn (zzR _) hb w
       rw [start,q1,q2,q3]
       simp only [Instr.slice,Sem.run_bind,run_underlying hu1,Result.andThen_ok,q4,qbG hs,Sem.run_pure]
       simp only [Option.isSome_none,Bool.false_eq_true,if_false,Option.map_some]
       congr 4
       by_cases hml:cap'=l<;>simp [hml]
      ·refine .loose _ _ _ _ _ e rfl he (by omega) (fun x hx => ?_)
       obtain⟨r1,r2,r3,r4⟩:=hc x hx
       obtain⟨cb,co,cs⟩:=c
       simp only at r1 r2 r3 r4
       subst r1 r2
       by_cases hml:cap'=l
       ·subst hml
        simp only [if_true]
        refine⟨by trivial,by trivial,fun hp=>by omega, ?_⟩
        simp
        omega
       ·simp only [hml,if_false,qcK,loose]
        refine⟨by trivial,by trivial,fun hp => ?_, ?_⟩
        ·have:=r3 (by omega);omega
        ·have hle:l<=cap':=by omega
         have:co+l*cap+(cap'-l)*cap=co+cap'*cap:=by
          rw [Nat.add_assoc,<-Nat.add_mul]
          congr 2
          omega
         omega
 ·cases hr
def qcM {t e:TypeId}{n s:Nat}{x:Operand}{olo ohi omx:Option Operand}(hu1:P.underlying t=some (.array n e))(hs:qa4 P e=some s)
  (hx:qa8 LB x=true) (h1:qbf LB olo=true) (h2:qbf LB ohi=true) (h3:qbf LB omx=true) (hop:qbQ LB F f a ⟨dst,.slice t x olo ohi omx,ty,pos,after,guard⟩)
  (hv:yf call lo (.yY n s x olo ohi omx) f h=some (v,h')):h'=h/\qbY P a ⟨dst,.slice t x olo ohi omx,ty,pos,after,guard⟩ F v:=by
 simp only [yf]at hv
 split at hv<;>try (simp at hv;done)
 rename_i ad xlo xhi xmx hu hlo hhi hmx
 split at hv<;>simp at hv
 rename_i l hh m hb
 obtain⟨rfl,rfl⟩:=hv
 have hxv:=hop x (by simp [Op.operands]) hx _ hu
 obtain⟨e1,k1⟩:=qcI hlo
 obtain⟨e2,k2⟩:=qcI hhi
 obtain⟨e3,k3⟩:=qcI hmx
 have g1:∀o u,olo=some o->xlo=some u->VR F u (a.eval o):=fun o u ho hu=>hop o (by subst ho;simp [Op.operands]) (qcJ h1 o ho) u (k1 o u ho hu)
 have g2:∀o u,ohi=some o->xhi=some u->VR F u (a.eval o):=fun o u ho hu=>hop o (by subst ho;simp [Op.operands]) (qcJ h2 o ho) u (k2 o u ho hu)
 have g3:∀o u,omx=some o->xmx=some u->VR F u (a.eval o):=fun o u ho hu=>hop o (by subst ho;simp [Op.operands]) (qcJ h3 o ho) u (k3 o u ho hu)
 obtain⟨q1,q2,q3⟩:=qcH hb g1 g2 g3 e1 e2 e3
 have q0:=qcG (P:=P) (b:=true) (zzR _) (zzR _) hb default
 obtain⟨-,q5,q6,q7⟩:=q0
 have q8:(if xmx.isSome then m else n)=m:=by
  cases xmx with
  | some z=>simp
  | none =>
    simp
    unfold qaz at hb
    simp only [qaw]at hb
    split at hb<;>try (cases hb;done)
    split at hb<;>try (cases hb;done)
    simp at hb
    omega
 generalize hce:a.eval x=cv at hxv
 cases hxv with
 | ptr _ c e hsp he hc =>
   refine⟨rfl,.slice (some (if m=l then c else c.add (l*s))) (hh-l) (m-l),fun w => ?_, ?_⟩
   ·obtain⟨q4,-,-,-⟩:=qcG (P:=P) (b:=false) (zzR _) (zzR _) hb w
    simp only [execOp,hce,q1,q2,q3,Instr.sliceAt,Sem.run_bind,run_underlying hu1,Result.andThen_ok,Instr.sureAddr,Sem.run_pure,q4,qbG hs,q8]
   ·by_cases hml:m=l
    ·simp only [hml,if_true]
     exact .slice _ _ _ _ e hsp he (by omega) (fun x hx hp=>by omega)
    ·simp only [hml,if_false]
     have:(ad.add (l*s)).spot=none:=by unfold Addr.add;split<;>simp_all
     have hb':(ad.add (l*s)).block=ad.block:=by unfold Addr.add;split<;>rfl
     refine .slice _ _ _ _ e this (by rw [hb'];exact he) (by omega) (fun x hx hp => ?_)
     rw [hc x hx,qcK]
     unfold Addr.add
     split<;>simp_all<;>omega
def qcN {t:TypeId}{x:Operand}{olo ohi:Option Operand}(hu1:P.underlying t=some .string)
  (hx:qa8 LB x=true) (h1:qbf LB olo=true) (h2:qbf LB ohi=true) (hop:qbQ LB F f a ⟨dst,.slice t x olo ohi none,ty,pos,after,guard⟩)
  (hv:yf call lo (.yW x olo ohi) f h=some (v,h')):h'=h/\qbY P a ⟨dst,.slice t x olo ohi none,ty,pos,after,guard⟩ F v:=by
 simp only [yf]at hv
 split at hv<;>try (simp at hv;done)
 rename_i st xlo xhi hu hlo hhi
 split at hv<;>simp at hv
 rename_i l hh m hb
 obtain⟨rfl,rfl⟩:=hv
 have hxv:=(hop x (by simp [Op.operands]) hx _ hu).yg rfl
 obtain⟨e1,k1⟩:=qcI hlo
 obtain⟨e2,k2⟩:=qcI hhi
 have g1:∀o u,olo=some o->xlo=some u->VR F u (a.eval o):=fun o u ho hu=>hop o (by subst ho;simp [Op.operands]) (qcJ h1 o ho) u (k1 o u ho hu)
 have g2:∀o u,ohi=some o->xhi=some u->VR F u (a.eval o):=fun o u ho hu=>hop o (by subst ho;simp [Op.operands]) (qcJ h2 o ho) u (k2 o u ho hu)
 obtain⟨q1,q2,q3⟩:=qcH (F:=F) (a:=a) (omx:=none) hb g1 g2 (by simp) e1 e2 rfl
 refine⟨rfl,.string (st.extract l hh),fun w => ?_,.string _⟩
 obtain⟨q4,-,-,-⟩:=qcG (P:=P) (b:=false) (zzR _) (zzR _) hb w
 simp only [execOp,hxv,q1,q2,Option.map_none,Instr.sliceAt,Instr.slice,Sem.run_bind,run_underlying hu1,Result.andThen_ok,q4,Sem.run_pure,Option.isSome_none]
 simp [Instr.slice,run_underlying hu1,q4]
def qcO {b:Builtin}{args:Array Operand}{ts:Array TypeId} : ∃cs,∀w,
  (execOp a.eval ⟨dst,.call ⟨.builtin b,args,ts⟩,ty,pos,after,guard⟩).run P w=(builtin b ts ty cs (args.map a.eval)).run P w :=
 ⟨_,fun w=>by simp only [execOp,resolve,Sem.run_bind,Sem.run_pure,Result.andThen_ok,invoke];rfl⟩
def qcP {str:Bool}{x:Operand}{t:TypeId}{ts:Array TypeId}{args:Array Operand}(hts:ts = #[t])(ha:args = #[x])
  (ht:(str=true/\P.underlying t=some .string)\/(str=false/\∃e,P.underlying t=some (.slice e))) (hx:qa8 LB x=true)
  (hop:qbQ LB F f a ⟨dst,.call ⟨.builtin .len,args,ts⟩,ty,pos,after,guard⟩)
  (hv:yf call lo (.len str x) f h=some (v,h')):h'=h/\qbY P a ⟨dst,.call ⟨.builtin .len,args,ts⟩,ty,pos,after,guard⟩ F v:=by
 subst hts ha
 obtain⟨cs,hcs⟩:=qcO (P:=P) (a:=a) (dst:=dst) (ty:=ty) (pos:=pos) (after:=after) (guard:=guard) (b := .len) (args := #[x]) (ts := #[t])
 simp only [yf]at hv
 split at hv<;>try (simp at hv;done)
 ·rename_i b n c hu
  split at hv<;>simp at hv
  rename_i hstr
  obtain⟨rfl,rfl⟩:=hv
  rcases ht with⟨h0,_⟩|⟨_,e,he⟩
  ·exact absurd h0 hstr
  have hxv:=hop x (by simp [Op.operands,Call.operands]) hx _ hu
  generalize hce:a.eval x=cv at hxv
  refine⟨rfl,.int .i64 n,fun w => ?_,.int _ _⟩
  rw [hcs]
  cases hxv<;>simp [builtin,Builtin.len_,hce,run_underlying he,goInt]
 ·rename_i s hu
  split at hv<;>simp at hv
  rename_i hstr
  obtain⟨rfl,rfl⟩:=hv
  rcases ht with⟨_,he⟩|⟨h0,_⟩
  ·have hxv:=(hop x (by simp [Op.operands,Call.operands]) hx _ hu).yg rfl
   refine⟨rfl,.int .i64 s.size,fun w => ?_,.int _ _⟩
   rw [hcs]
   simp [builtin,Builtin.len_,hxv,run_underlying he,goInt]
  ·rw [h0]at hstr;cases hstr
def qcQ {k:IntKind} : ∀{r r':List Value} {n m:Int},VRs F r r'->qaJ k n r=some m->∀w,(r'.foldlM Builtin.min2 (.int k n):Sem Value).run P w = .ok (.int k m) w
 | _,_,n,m,.nil,h,w=>by simp [qaJ]at h;subst h;simp
 | _,_,n,m,.cons v c vs cs hv hs,h,w=>by
   cases hv<;>simp [qaJ]at h
   rename_i j q
   obtain⟨rfl,h⟩:=h
   have:=qcQ hs h w
   simp [Builtin.min2,this]
def qcR {k:IntKind} : ∀{r r':List Value} {n m:Int},VRs F r r'->qaK k n r=some m->∀w,(r'.foldlM Builtin.max2 (.int k n):Sem Value).run P w = .ok (.int k m) w
 | _,_,n,m,.nil,h,w=>by simp [qaK]at h;subst h;simp
 | _,_,n,m,.cons v c vs cs hv hs,h,w=>by
   cases hv<;>simp [qaK]at h
   rename_i j q
   obtain⟨rfl,h⟩:=h
   have:=qcR hs h w
   simp [Builtin.max2,this]
def qcS {xs:List Operand}{ts:Array TypeId}{args:Array Operand}(ha:args.toList=xs)(hx:xs.all (qa8 LB)=true)
  (hop:qbQ LB F f a ⟨dst,.call ⟨.builtin .min,args,ts⟩,ty,pos,after,guard⟩)
  (hv:yf call lo (.min xs) f h=some (v,h')):h'=h/\qbY P a ⟨dst,.call ⟨.builtin .min,args,ts⟩,ty,pos,after,guard⟩ F v:=by
 subst ha
 obtain⟨cs,hcs⟩:=qcO (P:=P) (a:=a) (dst:=dst) (ty:=ty) (pos:=pos) (after:=after) (guard:=guard) (b := .min) (args:=args) (ts:=ts)
 simp only [yf]at hv
 split at hv<;>try (simp at hv;done)
 rename_i k n r hu
 split at hv<;>simp at hv
 rename_i m hm
 obtain⟨rfl,rfl⟩:=hv
 have hr:=qbT (a:=a) hx (fun x hx=>hop x (by simp [Op.operands,Call.operands];simpa using hx)) hu
 refine⟨rfl,.int k m,fun w => ?_,.int _ _⟩
 rw [hcs]
 generalize hl:args.toList.map a.eval=l at hr
 cases hr with
 | cons _ c _ cs' hc hs =>
   have e:=hc.yg rfl
   subst e
   have:=qcQ (P:=P) hs hm w
   simp [builtin,Builtin.min_,hl,this]
def qcT {xs:List Operand}{ts:Array TypeId}{args:Array Operand}(ha:args.toList=xs)(hx:xs.all (qa8 LB)=true)
  (hop:qbQ LB F f a ⟨dst,.call ⟨.builtin .max,args,ts⟩,ty,pos,after,guard⟩)
  (hv:yf call lo (.max xs) f h=some (v,h')):h'=h/\qbY P a ⟨dst,.call ⟨.builtin .max,args,ts⟩,ty,pos,after,guard⟩ F v:=by
 subst ha
 obtain⟨cs,hcs⟩:=qcO (P:=P) (a:=a) (dst:=dst) (ty:=ty) (pos:=pos) (after:=after) (guard:=guard) (b := .max) (args:=args) (ts:=ts)
 simp only [yf]at hv
 split at hv<;>try (simp at hv;done)
 rename_i k n r hu
 split at hv<;>simp at hv
 rename_i m hm
 obtain⟨rfl,rfl⟩:=hv
 have hr:=qbT (a:=a) hx (fun x hx=>hop x (by simp [Op.operands,Call.operands];simpa using hx)) hu
 refine⟨rfl,.int k m,fun w => ?_,.int _ _⟩
 rw [hcs]
 generalize hl:args.toList.map a.eval=l at hr
 cases hr with
 | cons _ c _ cs' hc hs =>
   have e:=hc.yg rfl
   subst e
   have:=qcR (P:=P) hs hm w
   simp [builtin,Builtin.max_,hl,this]
def qcU {x y:Operand}{ts:Array TypeId}{args:Array Operand}(ha:args = #[x,y])(hx:qa8 LB x=true)(hy:qa8 LB y=true)
  (hop:qbQ LB F f a ⟨dst,.call ⟨.builtin .complex,args,ts⟩,ty,pos,after,guard⟩)
  (hv:yf call lo (.wac x y) f h=some (v,h')):h'=h/\qbY P a ⟨dst,.call ⟨.builtin .complex,args,ts⟩,ty,pos,after,guard⟩ F v:=by
 subst ha
 obtain⟨cs,hcs⟩:=qcO (P:=P) (a:=a) (dst:=dst) (ty:=ty) (pos:=pos) (after:=after) (guard:=guard) (b := .complex) (args := #[x,y]) (ts:=ts)
 simp only [yf]at hv
 split at hv<;>try (simp at hv;done)
 rename_i k n k' m hu hu'
 split at hv<;>simp at hv
 rename_i hk
 obtain⟨rfl,rfl⟩:=hv
 subst hk
 have e1:=(hop x (by simp [Op.operands,Call.operands]) hx _ hu).yg rfl
 have e2:=(hop y (by simp [Op.operands,Call.operands]) hy _ hu').yg rfl
 refine⟨rfl,.complex k n m,fun w => ?_,.complex _ _ _⟩
 rw [hcs]
 have e3 : Builtin.complex_ ts ty #[.float k n, .float k m] = (if k = k then pure (.complex k n m) else stuck "complex: parts of different kinds") := rfl
 rw [if_pos rfl]at e3
 simp [builtin,e3,e1,e2]
def qcV {x:Operand}{ts:Array TypeId}{args:Array Operand}(ha:args = #[x])(hx:qa8 LB x=true)
  (hop:qbQ LB F f a ⟨dst,.call ⟨.builtin .real,args,ts⟩,ty,pos,after,guard⟩)
  (hv:yf call lo (.re x) f h=some (v,h')):h'=h/\qbY P a ⟨dst,.call ⟨.builtin .real,args,ts⟩,ty,pos,after,guard⟩ F v:=by
 subst ha
 obtain⟨cs,hcs⟩:=qcO (P:=P) (a:=a) (dst:=dst) (ty:=ty) (pos:=pos) (after:=after) (guard:=guard) (b := .real) (args := #[x]) (ts:=ts)
 simp only [yf]at hv
 split at hv<;>simp at hv
 rename_i k n m hu
 obtain⟨rfl,rfl⟩:=hv
 have e1:=(hop x (by simp [Op.operands,Call.operands]) hx _ hu).yg rfl
 refine⟨rfl,.float k n,fun w => ?_,.float _ _⟩
 rw [hcs]
 have e3:Builtin.real_ ts ty #[.complex k n m]=pure (.float k n):=rfl
 simp [builtin,e3,e1]
def qcW {x:Operand}{ts:Array TypeId}{args:Array Operand}(ha:args = #[x])(hx:qa8 LB x=true)
  (hop:qbQ LB F f a ⟨dst,.call ⟨.builtin .imag,args,ts⟩,ty,pos,after,guard⟩)
  (hv:yf call lo (.im x) f h=some (v,h')):h'=h/\qbY P a ⟨dst,.call ⟨.builtin .imag,args,ts⟩,ty,pos,after,guard⟩ F v:=by
 subst ha
 obtain⟨cs,hcs⟩:=qcO (P:=P) (a:=a) (dst:=dst) (ty:=ty) (pos:=pos) (after:=after) (guard:=guard) (b := .imag) (args := #[x]) (ts:=ts)
 simp only [yf]at hv
 split at hv<;>simp at hv
 rename_i k n m hu
 obtain⟨rfl,rfl⟩:=hv
 have e1:=(hop x (by simp [Op.operands,Call.operands]) hx _ hu).yg rfl
 refine⟨rfl,.float k m,fun w => ?_,.float _ _⟩
 rw [hcs]
 have e3:Builtin.imag_ ts ty #[.complex k n m]=pure (.float k m):=rfl
 simp [builtin,e3,e1]
def qcX:IOp->Bool
 | .yy _ | .pick .. | .build .. | .yo .. | .field .. | .yn .. | .index .. | .yN .. | .ym _ | .ye .. | .bin .. | .eqv .. | .un .. | .conv .. | .yJ .. | .yr .. | .slice .. | .yY .. | .yW ..
 | .extract .. | .len .. | .min _ | .max _ | .wac .. | .re _ | .im _=>true
 | _=>false
end
def qcY {α:Type}{xs:Array α}{x:α}(h:xs.toList = [x]):xs = #[x]:=by cases xs;simp at h;subst h;rfl
def qcZ {α:Type}{xs:Array α}{x y:α}(h:xs.toList = [x,y]):xs = #[x,y]:=by cases xs;simp at h;subst h;rfl
def qc0 {α:Type}{c:Prop}[Decidable c]{x y:α}(h:(if c then some x else none)=some y):c/\x=y:=by
 split at h
 ·rename_i hc;injection h with h;exact⟨hc,h⟩
 ·cases h
def qc1 {α:Type}{c:Prop}[Decidable c]{x:Option α}{y:α}(h:(if c then x else none)=some y):c/\x=some y:=by
 split at h
 ·rename_i hc;exact⟨hc,h⟩
 ·cases h
def qc2 {α β:Type}{o:Option α}{g:α->β}{y:β}(h:o.map g=some y):∃x,o=some x/\g x=y:=by
 cases o with
 | none=>cases h
 | some x=>injection h with h;exact⟨x,rfl,h⟩
def qc3 {P:Program}{LB:List Nat}{F:Emb}{f:Fr}{a:Act}{call:qaM}{lo:Nat}{h h':qab}{v:Value}{ops:List Oper}{o:Oper}{io:IOp}
  (hc:cOp P LB ops o=some io) (hp:qcX io=true) (hop:qbQ LB F f a o) (hv:yf call lo io f h=some (v,h')):h'=h/\qbY P a o F v:=by
 obtain⟨dst,op,ty,pos,after,guard⟩:=o
 cases op<;>simp only [cOp]at hc<;>try (cases hc;done)
 case move x=>obtain⟨h1,rfl⟩:=qbS hc;exact qbZ h1 hop hv
 case assign x=>obtain⟨h1,rfl⟩:=qbS hc;exact qb0 h1 hop hv
 case pick c x y =>
  obtain⟨h1,rfl⟩:=qbS hc
  simp only [Bool.and_eq_true]at h1
  exact qb1 h1.1.1 h1.1.2 h1.2 hop hv
 case alloc t =>
  split at hc<;>try (cases hc;done)
  split at hc<;>(injection hc with hc;subst hc;cases hp)
 case box t x =>
  split at hc<;>try (cases hc;done)
  split at hc<;>try (cases hc;done)
  split at hc<;>(injection hc with hc;subst hc;cases hp)
 case build t parts =>
  split at hc<;>try (cases hc;done)
  rename_i z ps hz hps
  obtain⟨h1,rfl⟩:=qbS hc
  exact qcr hz hps h1 hop hv
 case buildSlice t n parts =>
  split at hc<;>try (cases hc;done)
  split at hc<;>try (cases hc;done)
  split at hc<;>try (cases hc;done)
  obtain⟨h1,rfl⟩:=qbS hc
  cases hp
 case load t x =>
  split at hc<;>try (cases hc;done)
  split at hc
  ·injection hc with hc;subst hc;cases hp
  ·obtain⟨h1,rfl⟩:=qbS hc;cases hp
 case store t x y =>
  split at hc<;>try (cases hc;done)
  split at hc
  ·obtain⟨h1,rfl⟩:=qbS hc;cases hp
  ·obtain⟨h1,rfl⟩:=qbS hc;cases hp
 case nilCheck x =>
  split at hc
  ·obtain⟨h1,rfl⟩:=qbS hc;exact qcn h1 hop hv
  ·obtain⟨h1,rfl⟩:=qbS hc;exact qcl h1 hop hv
 case binOp op t x y t' =>
  split at hc<;>try (cases hc;done)
  rename_i h1
  simp only [Bool.and_eq_true]at h1
  split at hc
  ·injection hc with hc;subst hc;exact qca h1.1 h1.2 hop hv
  ·rename_i neg hn
   split at hc
   ·injection hc with hc;subst hc;exact qca h1.1 h1.2 hop hv
   ·injection hc with hc;subst hc;exact qca h1.1 h1.2 hop hv
   ·obtain⟨k,hk,rfl⟩:=qc2 hc
    exact qcE hn hk h1.1 h1.2 hop hv
 case unOp op t x=>obtain⟨h1,rfl⟩:=qbS hc;exact qcb h1 hop hv
 case convert s d x =>
  split at hc<;>try (cases hc;done)
  rename_i h1
  split at hc<;>try (cases hc;done)
  ·rename_i j j' e1 e2;injection hc with hc;subst hc;exact qco h1 (.inl ⟨_,_,e1,e2,rfl⟩) hop hv
  ·rename_i j j' e1 e2;injection hc with hc;subst hc;exact qco h1 (.inr (.inl ⟨_,_,e1,e2,rfl⟩)) hop hv
  ·rename_i j j' e1 e2;injection hc with hc;subst hc;exact qco h1 (.inr (.inr (.inl ⟨_,_,e1,e2,rfl⟩))) hop hv
  ·rename_i e1 e2;injection hc with hc;subst hc;exact qco h1 (.inr (.inr (.inr ⟨e1,e2,rfl⟩))) hop hv
 case makeInterface t x =>
  split at hc<;>try (cases hc;done)
  rename_i d hd1 hd2
  obtain⟨h1,rfl⟩:=qbS hc
  exact qcc h1 (fun ms hms=>by rw [hms]at hd2;injection hd2 with hd2;exact hd1 _ hd2.symm) (fun hn=>by rw [hn]at hd2;cases hd2) hop hv
 case makeFunc fn first caps =>
  obtain⟨h1,rfl⟩:=qbS hc
  simp only [Bool.and_eq_true]at h1
  exact qcd h1.1 h1.2 hop hv
 case makeMap t r =>
  split at hc<;>try (cases hc;done)
  ·injection hc with hc;subst hc;cases hp
  ·split at hc<;>try (cases hc;done)
   injection hc with hc;subst hc;cases hp
 case makeSlice t n c =>
  split at hc<;>try (cases hc;done)
  split at hc<;>try (cases hc;done)
  split at hc<;>try (cases hc;done)
  obtain⟨h1,rfl⟩:=qbS hc
  cases hp
 case slice t x lo' hi mx =>
  split at hc<;>try (cases hc;done)
  rename_i h1
  simp only [Bool.and_eq_true]at h1
  split at hc<;>try (cases hc;done)
  ·rename_i n e he
   obtain⟨s,hs,rfl⟩:=qc2 hc
   exact qcM he hs h1.1.1.1 h1.1.1.2 h1.1.2 h1.2 hop hv
  ·rename_i e he
   obtain⟨s,hs,rfl⟩:=qc2 hc
   exact qcL he hs h1.1.1.1 h1.1.1.2 h1.1.2 h1.2 hop hv
  ·rename_i he
   obtain⟨h2,rfl⟩:=qc0 hc
   have:mx=none:=by simpa using h2
   subst this
   exact qcN he h1.1.1.1 h1.1.1.2 h1.1.2 hop hv
 case fieldAddr t x fi =>
  split at hc<;>try (cases hc;done)
  rename_i off u hf
  split at hc
  ·injection hc with hc;subst hc;cases hp
  ·obtain⟨h1,rfl⟩:=qbS hc;exact qcf hf h1 hop hv
 case field t x fi =>
  split at hc<;>try (cases hc;done)
  rename_i off u hf
  split at hc<;>try (cases hc;done)
  rename_i n hn
  obtain⟨h1,rfl⟩:=qbS hc
  exact qcg hf hn h1 hop hv
 case indexAddr t x i =>
  split at hc<;>try (cases hc;done)
  rename_i h1
  simp only [Bool.and_eq_true]at h1
  split at hc<;>try (cases hc;done)
  ·rename_i n e he
   obtain⟨s,hs,rfl⟩:=qc2 hc
   exact qcj he hs h1.1 h1.2 hop hv
  ·rename_i e he
   obtain⟨s,hs,rfl⟩:=qc2 hc
   exact qck he hs h1.1 h1.2 hop hv
 case index t x i =>
  split at hc<;>try (cases hc;done)
  rename_i h1
  simp only [Bool.and_eq_true]at h1
  split at hc<;>try (cases hc;done)
  ·rename_i n e he
   split at hc<;>try (cases hc;done)
   rename_i s m hs hm
   injection hc with hc;subst hc
   exact qch he hs hm h1.1 h1.2 hop hv
  ·rename_i he
   injection hc with hc;subst hc
   exact qci he h1.1 h1.2 hop hv
 case lookup t m k ok =>
  split at hc<;>try (cases hc;done)
  split at hc<;>try (cases hc;done)
  obtain⟨h1,rfl⟩:=qbS hc
  cases hp
 case mapUpdate t m k u =>
  split at hc<;>try (cases hc;done)
  split at hc<;>try (cases hc;done)
  obtain⟨h1,rfl⟩:=qbS hc
  cases hp
 case extract x i=>obtain⟨h1,rfl⟩:=qbS hc;exact qce h1 hop hv
 case call c =>
  obtain⟨cal,args,ts⟩:=c
  split at hc
  ·obtain⟨h1,rfl⟩:=qbS hc;cases hp
  ·obtain⟨h1,rfl⟩:=qbS hc;cases hp
  ·obtain⟨h1,rfl⟩:=qbS hc;cases hp
  ·rename_i b hb
   simp only at hb
   subst hb
   unfold qbh at hc
   obtain⟨h1,hc⟩:=qc1 hc
   split at hc
   ·rename_i hx
    split at hc<;>try (cases hc;done)
    rename_i ht
    have e1:=qcY hx
    have e2:=qcY ht
    replace hx:args.toList=_:=hx
    simp only [hx,List.all_cons,Bool.and_eq_true]at h1
    split at hc<;>try (cases hc;done)
    ·rename_i hu;injection hc with hc;subst hc;exact qcP e2 e1 (.inl ⟨rfl,hu⟩) h1.1 hop hv
    ·rename_i e hu;injection hc with hc;subst hc;exact qcP e2 e1 (.inr ⟨rfl,e,hu⟩) h1.1 hop hv
    ·injection hc with hc;subst hc;cases hp
   ·split at hc<;>try (cases hc;done)
    split at hc<;>try (cases hc;done)
    split at hc<;>try (cases hc;done)
    obtain⟨_,rfl⟩:=qc0 hc
    cases hp
   ·split at hc<;>try (cases hc;done)
    split at hc<;>try (cases hc;done)
    obtain⟨_,_,rfl⟩:=qc2 hc
    cases hp
   ·split at hc<;>try (cases hc;done)
    split at hc<;>try (cases hc;done)
    split at hc<;>try (cases hc;done)
    obtain⟨_,rfl⟩:=qc0 hc
    cases hp
   ·injection hc with hc;subst hc;exact qcS rfl h1 hop hv
   ·injection hc with hc;subst hc;exact qcT rfl h1 hop hv
   ·rename_i hx
    injection hc with hc;subst hc
    replace hx:args.toList=_:=hx
    simp only [hx,List.all_cons,Bool.and_eq_true]at h1
    exact qcU (qcZ hx) h1.1 h1.2.1 hop hv
   ·rename_i hx
    injection hc with hc;subst hc
    replace hx:args.toList=_:=hx
    simp only [hx,List.all_cons,Bool.and_eq_true]at h1
    exact qcV (qcY hx) h1.1 hop hv
   ·rename_i hx
    injection hc with hc;subst hc
    replace hx:args.toList=_:=hx
    simp only [hx,List.all_cons,Bool.and_eq_true]at h1
    exact qcW (qcY hx) h1.1 hop hv
   ·split at hc<;>try (cases hc;done)
    split at hc<;>try (cases hc;done)
    split at hc<;>try (cases hc;done)
    injection hc with hc;subst hc;cases hp
   ·cases hc
end Go.Ir
