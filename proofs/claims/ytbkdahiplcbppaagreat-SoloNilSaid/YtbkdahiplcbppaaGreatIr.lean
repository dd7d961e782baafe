/- A small language with a computable interpreter over an abstract heap, into which the loaded functions are translated (YtbkdahiplcbppaaGreatIrComp). No program in sight. -/
import GoSem.Dispatch
set_option linter.unusedVariables false
namespace Go.Ir

/-! ### 1. frames and heaps -/

abbrev Fr := List (Nat × Value)

def fget : Fr → Nat → Option Value
  | [], _ => none
  | (k, v) :: r, t => if k = t then some v else fget r t

def fset (f : Fr) (d : Option Nat) (v : Value) : Fr :=
  match d with
  | none => f
  | some d => (d, v) :: f

def keep : List Nat → Fr → Fr
  | [], _ => []
  | t :: ls, f =>
    match fget f t with
    | some v => (t, v) :: keep ls f
    | none => keep ls f

/-- A block: a row of cells (and whether it is only read), a map, or one that is used no more. -/
inductive Blk where
  | row (cs : List Value) (ro : Bool)
  | map (es : List (Value × Value))
  | dead

abbrev Heap := List Blk

def hrow (h : Heap) (b : Nat) : Option (List Value) :=
  match h[b]? with
  | some (.row cs _) => some cs
  | _ => none

def ld1 (h : Heap) (a : Addr) : Option Value :=
  match hrow h a.block with
  | some cs => cs[a.off]?
  | none => none

def ldN (h : Heap) (a : Addr) (n : Nat) : Option (List Value) :=
  match hrow h a.block with
  | some cs => if a.off + n ≤ cs.length then some ((cs.drop a.off).take n) else none
  | none => none

def splice (cs : List Value) (off : Nat) (vs : List Value) : List Value :=
  cs.take off ++ vs ++ cs.drop (off + vs.length)

def oneA : Value → Bool
  | .agg _ | .tuple _ => false
  | _ => true

def stN (lo : Nat) (h : Heap) (a : Addr) (vs : List Value) : Option Heap :=
  match h[a.block]? with
  | some (.row cs ro) =>
    if lo ≤ a.block then
      if ro = false then
        if a.off + vs.length ≤ cs.length then some (h.set a.block (.row (splice cs a.off vs) false)) else none
      else none
    else none
  | _ => none

/-- A value that holds no address. -/
def flat1 : Value → Bool
  | .bool _ | .int _ _ | .float _ _ | .complex _ _ _ | .string _ | .nilFunc | .nilIface => true
  | .pointer a => a.isNone
  | .slice a n c => a.isNone && n == 0 && c == 0
  | .map r => r.isNone
  | _ => false

def flatV : Value → Bool
  | .agg cs => cs.toList.all flat1
  | .tuple cs => cs.toList.all flat1
  | v => flat1 v

def vcells : Value → List Value
  | .agg cs => cs.toList
  | v => [v]

def noneV : Value := .tuple #[]
/-- Of which nothing is known. -/
def anyV : Value := .chan (some 0)

/-- The address of a slice whose capacity is not known: in its place stands an element's size. -/
def loose (b off : Nat) : Addr := ⟨b, off, some 0⟩
def tight (a : Addr) : Addr := ⟨a.block, a.off, none⟩

/-! ### 2. the language -/

/-- How two values of one type are held against each other: bits; against nil; a struct, by its cells. -/
inductive EqK where
  | bool
  | nil (k : Nat)
  | cells (l : List (Nat × Nat))

inductive ConvK where
  | int (k : IntKind)
  | float (k : FloatKind)
  | same

inductive IOp where
  | mov (x : Operand)
  | pick (c a b : Operand)
  | load (n : Option Nat) (x : Operand)
  | store (n : Nat) (x v : Operand)
  | box (v : Operand)
  | lbox (v : Operand)
  | laddr (s : Option Nat) (b off : Nat)
  | lload (s : Option Nat) (b off : Nat) (n : Option Nat)
  | lstore (s : Option Nat) (b off n : Nat) (v : Operand)
  | build (zero : List Value) (parts : List (Nat × Nat × Operand))
  | buildSlice (esz len : Nat) (zero : List Value) (parts : List (Nat × Nat × Operand))
  | faddr (off : Nat) (x : Operand)
  | field (off : Nat) (n : Option Nat) (x : Operand)
  | iaddr (len : Option Nat) (esz : Nat) (x i : Operand)
  | index (len esz : Nat) (n : Option Nat) (x i : Operand)
  | indexS (x i : Operand)
  | nilchk (x : Operand)
  | nilchkm (name : String) (tab : List (Nat × Nat)) (x : Operand)
  | bin (op : BinOp) (x y : Operand)
  | eqv (neg : Bool) (k : EqK) (x y : Operand)
  | un (op : UnOp) (x : Operand)
  | conv (k : ConvK) (x : Operand)
  | mkif (t : Nat) (x : Operand)
  | mkfn (fn : Fn) (first caps : List Operand)
  | mkslice (esz bytes : Nat) (zero : List Value) (n c : Operand)
  | slice (esz : Nat) (x : Operand) (lo hi mx : Option Operand)
  | sliceA (len esz : Nat) (x : Operand) (lo hi mx : Option Operand)
  | sliceS (x : Operand) (lo hi : Option Operand)
  | extract (x : Operand) (i : Nat)
  | call (f : Nat) (args : List Operand)
  | callv (x : Operand) (args : List Operand)
  | invoke (tab : List (Nat × Nat)) (x : Operand) (args : List Operand)
  | append (esz bytes : Nat) (x y : Operand)
  | len (str : Bool) (x : Operand)
  | copy (esz : Nat) (x y : Operand)
  | clear (esz : Nat) (zero : List Value) (x : Operand)
  | min (xs : List Operand)
  | max (xs : List Operand)
  | cplx (x y : Operand)
  | re (x : Operand)
  | im (x : Operand)
  | mkmap
  | lookup (zero : Value) (ok : Bool) (m k : Operand)
  | mapupd (m k v : Operand)
  | mapdel (m k : Operand)
  | maplen (m : Operand)

structure IOper where
  dst : Option Nat
  op : IOp
  guard : Option (Nat × Bool)
  chk : Nat

inductive ICode where
  | skip
  | region (ops : List IOper)
  | seq (a b : ICode)
  | cond (c : Operand) (a b : ICode)
  | block (id : Nat) (b : ICode)
  | loop (ls : List Nat) (b : ICode)
  | exit (id : Nat)
  | scope (b : ICode)
  | label (l : Nat)
  | goto (l : Nat) (ls : List Nat)
  | ret

inductive IRes where
  | tmp (t : Nat)
  | cell (t : Nat) (n : Option Nat)
  | lb (t : Nat) (n : Option Nat)

structure IFunc where
  lb : List Nat
  body : ICode
  res : List IRes
  scr : Bool
  nargs : Nat

/-! ### 3. one operation -/

def ev (f : Fr) : Operand → Option Value
  | .tmp t => fget f t
  | .const v => some v
  | .func g => some (.func (.func g) #[] #[])
  | .global _ => none

def evs (f : Fr) : List Operand → Option (List Value)
  | [] => some []
  | x :: r =>
    match ev f x with
    | some v =>
      match evs f r with
      | some vs => some (v :: vs)
      | none => none
    | none => none

def evp (f : Fr) : List (Nat × Nat × Operand) → Option (List (Nat × Nat × Value))
  | [] => some []
  | (o, n, x) :: r =>
    match ev f x with
    | some v =>
      match evp f r with
      | some vs => some ((o, n, v) :: vs)
      | none => none
    | none => none

def fillL (cells : List Value) : List (Nat × Nat × Value) → Option (List Value)
  | [] => some cells
  | (off, n, v) :: r =>
    if (vcells v).length = n then
      if off + n ≤ cells.length then fillL (splice cells off (vcells v)) r else none
    else none

def ibits (op : BinOp) (k : IntKind) (x y : Int) : Option Int :=
  match op with
  | .and => some (k.wrap (BitVec.ofInt k.bits x &&& BitVec.ofInt k.bits y).toNat)
  | .or => some (k.wrap (BitVec.ofInt k.bits x ||| BitVec.ofInt k.bits y).toNat)
  | .xor => some (k.wrap (BitVec.ofInt k.bits x ^^^ BitVec.ofInt k.bits y).toNat)
  | .andNot => some (k.wrap (BitVec.ofInt k.bits x &&& ~~~BitVec.ofInt k.bits y).toNat)
  | _ => none

def ibinI (op : BinOp) (k : IntKind) (a b : Int) : Option Value :=
  match op with
  | .add => some (.int k (k.wrap (a + b)))
  | .sub => some (.int k (k.wrap (a - b)))
  | .mul => some (.int k (k.wrap (a * b)))
  | .quo => if b = 0 then none else some (.int k (k.wrap (a.tdiv b)))
  | .rem => if b = 0 then none else some (.int k (a.tmod b))
  | .eql => some (.bool (a == b))
  | .neq => some (.bool (a != b))
  | .lss => some (.bool (decide (a < b)))
  | .leq => some (.bool (decide (a ≤ b)))
  | .gtr => some (.bool (decide (b < a)))
  | .geq => some (.bool (decide (b ≤ a)))
  | .and => some (.int k (k.wrap (BitVec.ofInt k.bits a &&& BitVec.ofInt k.bits b).toNat))
  | .or => some (.int k (k.wrap (BitVec.ofInt k.bits a ||| BitVec.ofInt k.bits b).toNat))
  | .xor => some (.int k (k.wrap (BitVec.ofInt k.bits a ^^^ BitVec.ofInt k.bits b).toNat))
  | .andNot => some (.int k (k.wrap (BitVec.ofInt k.bits a &&& ~~~BitVec.ofInt k.bits b).toNat))
  | _ => none

def ishift (op : BinOp) (k : IntKind) (a b : Int) : Option Value :=
  if b < 0 then none
  else match op with
    | .shl => some (.int k (k.wrap (a * 2 ^ (min b.toNat k.bits))))
    | .shr => some (.int k (a.fdiv (2 ^ (min b.toNat k.bits))))
    | _ => none

def ibinS (op : BinOp) (a b : ByteArray) : Option Value :=
  match op with
  | .add => if a.size + b.size ≤ 2 ^ 62 then some (.string (a ++ b)) else none
  | .eql => some (.bool (a.toList == b.toList))
  | .neq => some (.bool (!(a.toList == b.toList)))
  | _ => none

def isShift : BinOp → Bool
  | .shl | .shr => true
  | _ => false

def ibin (op : BinOp) : Value → Value → Option Value
  | .int k a, .int k' b =>
    if isShift op then ishift op k a b
    else if k = k' then ibinI op k a b else none
  | .string a, .string b => ibinS op a b
  | .float k a, .float k' b =>
    match op with
    | .add =>
      if k = k' then
        match k.format.add a b with
        | some r => some (.float k r)
        | none => none
      else none
    | _ => none
  | _, _ => none

/-- Two whole numbers, bools or strings. -/
def eq1 : Value → Value → Option Bool
  | .int k a, .int k' b => if k = k' then some (a == b) else none
  | .bool a, .bool b => some (a == b)
  | .string a, .string b => some (a == b)
  | _, _ => none

/-- Two whole numbers (0), bools (1) or strings (2). -/
def eqLeaf (t : Nat) : Value → Value → Option Bool
  | .int k a, .int k' b => if t = 0 ∧ k = k' then some (a == b) else none
  | .bool a, .bool b => if t = 1 then some (a == b) else none
  | .string a, .string b => if t = 2 then some (a.toList == b.toList) else none
  | _, _ => none

def eqCells (xs ys : List Value) : List (Nat × Nat) → Option Bool
  | [] => some true
  | (i, t) :: r =>
    match xs[i]?, ys[i]? with
    | some x, some y =>
      match eqLeaf t x y with
      | some b =>
        match eqCells xs ys r with
        | some c => some (b && c)
        | none => none
      | none => none
    | _, _ => none

/-- Of a type's kind (0 pointer, 1 slice, 2 map, 3 function, 4 interface): whether a value is nil. -/
def isNil (k : Nat) : Value → Option Bool
  | .pointer a => if k = 0 then some a.isNone else none
  | .slice a _ _ => if k = 1 then some a.isNone else none
  | .map r => if k = 2 then some r.isNone else none
  | .nilFunc => if k = 3 then some true else none
  | .func _ _ _ => if k = 3 then some false else none
  | .nilIface => if k = 4 then some true else none
  | .iface _ _ => if k = 4 then some false else none
  | _ => none

def ieq (k : EqK) (x y : Value) : Option Bool :=
  match k with
  | .bool =>
    match x, y with
    | .bool a, .bool b => some (a == b)
    | _, _ => none
  | .nil k =>
    match isNil k y with
    | some true => isNil k x
    | some false => if isNil k x = some true then some false else none
    | none => none
  | .cells l =>
    match x, y with
    | .agg xs, .agg ys => eqCells xs.toList ys.toList l
    | _, _ => none

def iun (op : UnOp) (x : Value) : Option Value :=
  match op, x with
  | .neg, .int k n => some (.int k (k.wrap (0 - n)))
  | .not, .bool b => some (.bool !b)
  | .xor, .int k n => ibinI .xor k (if k.signed then -1 else k.max) n
  | _, _ => none

def iconv (k : ConvK) (x : Value) : Option Value :=
  match k, x with
  | .int k, .int _ n => some (.int k (k.wrap n))
  | .float k, .int _ n => some (.float k (k.nearest n))
  | .int k, .float s b =>
    match (s.decode b).toInt .zero with
    | some n => if k.min ≤ n ∧ n ≤ k.max then some (.int k n) else none
    | none => none
  | .same, .string s => some (.string s)
  | _, _ => none

def part (n : Option Nat) (cs : List Value) (off : Nat) : Option Value :=
  match n with
  | none => cs[off]?
  | some n => if off + n ≤ cs.length then some (.agg ((cs.drop off).take n).toArray) else none

def loadV (h : Heap) (n : Option Nat) (a : Addr) : Option Value :=
  match n with
  | none => ld1 h a
  | some n =>
    match ldN h a n with
    | some l => some (.agg l.toArray)
    | none => none

def ibound (x : Value) (y : Nat) : Option Nat :=
  match x with
  | .int _ i => if 0 ≤ i ∧ i ≤ (y : Int) then some i.toNat else none
  | _ => none

def ibMax (cap : Nat) : Option Value → Option Nat
  | some v => ibound v cap
  | none => some cap

def ibHigh (len m : Nat) : Option Value → Option Value → Option Nat
  | some v, _ => ibound v m
  | none, none => some len
  | none, some _ => none

def ibLow (hh : Nat) : Option Value → Option Nat
  | some v => ibound v hh
  | none => some 0

/-- The three bounds of a slice expression. -/
def ibounds (len cap : Nat) (lo hi mx : Option Value) : Option (Nat × Nat × Nat) :=
  match ibMax cap mx with
  | none => none
  | some m =>
    match ibHigh len m hi mx with
    | none => none
    | some hh =>
      match ibLow hh lo with
      | none => none
      | some l => some (l, hh, m)

def evo (f : Fr) : Option Operand → Option (Option Value)
  | none => some none
  | some x =>
    match ev f x with
    | some v => some (some v)
    | none => none

/-- A slice expression over a slice. -/
def islice (esz : Nat) (x : Value) (lo hi mx : Option Value) : Option Value :=
  match x with
  | .slice none _ _ =>
    match ibounds 0 0 lo hi mx with
    | some (_, _, _) => some (.slice none 0 0)
    | none => none
  | .slice (some a) len cap =>
    match a.spot with
    | none =>
      match ibounds len cap lo hi mx with
      | some (l, hh, m) => some (.slice (some (if m = l then a else a.add (l * esz))) (hh - l) (m - l))
      | none => none
    | some _ =>
      match mx with
      | some _ =>
        match ibounds len len lo hi mx with
        | some (l, hh, m) => if m = l then some (.slice (some (tight a)) 0 0) else if hh = l then none else some (.slice (some ⟨a.block, a.off + l * esz, none⟩) (hh - l) (m - l))
        | none => none
      | none =>
        if cap = esz then
          match ibounds len len lo hi none with
          | some (l, hh, _) => some (.slice (some (loose a.block (a.off + l * esz))) (hh - l) esz)
          | none => none
        else none
  | _ => none

def callee : Value → Option (Nat × List Value)
  | .func (.func g) first caps => if first.size = 0 then some (g, caps.toList) else none
  | _ => none

def lenV : Value → Option Nat
  | .slice _ n _ => some n
  | .string s => some s.size
  | _ => none

/-- What an append, a copy reads: the first n elements. -/
def srcCells (h : Heap) (esz n : Nat) (x : Value) : Option (List Value) :=
  match x with
  | .slice none _ _ => some []
  | .slice (some a) _ _ => if n = 0 then some [] else ldN h a (n * esz)
  | _ => none

/-- append(x, y...): in place where the capacity is known and has room; a copy where it is known and has none; where it is not known, a copy, and the old row is used no more. -/
def iappend (lo esz bytes : Nat) (h : Heap) (x y : Value) : Option (Value × Heap) :=
  match x, lenV y with
  | .slice base len cap, some n =>
    if len + n ≤ 2 ^ 30 ∧ bytes ≤ 2 ^ 12 then
      match srcCells h esz n y with
      | none => none
      | some new =>
        match base with
        | none => if n = 0 then some (x, h) else some (.slice (some (loose h.length 0)) n esz, h ++ [.row new false])
        | some a =>
          match a.spot with
          | none =>
            if len + n ≤ cap then
              if n = 0 then some (x, h)
              else match stN lo h (a.add (len * esz)) new with
                | some h' => some (.slice (some a) (len + n) cap, h')
                | none => none
            else
              match srcCells h esz len x with
              | some old => some (.slice (some (loose h.length 0)) (len + n) esz, h ++ [.row (old ++ new) false])
              | none => none
          | some _ =>
            if n = 0 then some (x, h)
            else match srcCells h esz len x, h[a.block]? with
              | some old, some (.row _ false) =>
                if cap = esz ∧ lo ≤ a.block then some (.slice (some (loose h.length 0)) (len + n) esz, h.set a.block .dead ++ [.row (old ++ new) false])
                else none
              | _, _ => none
    else none
  | _, _ => none

def mapGet (k : Value) : List (Value × Value) → Option (Option Value)
  | [] => some none
  | (j, v) :: r =>
    match eq1 k j with
    | some true => some (some v)
    | some false => mapGet k r
    | none => none

def mapPut (k v : Value) : List (Value × Value) → Option (List (Value × Value))
  | [] => some [(k, v)]
  | (j, u) :: r =>
    match eq1 k j with
    | some true => some ((k, v) :: r)
    | some false =>
      match mapPut k v r with
      | some r => some ((j, u) :: r)
      | none => none
    | none => none

def mapDrop (k : Value) : List (Value × Value) → Option (List (Value × Value))
  | [] => some []
  | (j, u) :: r =>
    match eq1 k j with
    | some true => some r
    | some false =>
      match mapDrop k r with
      | some r => some ((j, u) :: r)
      | none => none
    | none => none

def hmap (h : Heap) (b : Nat) : Option (List (Value × Value)) :=
  match h[b]? with
  | some (.map es) => some es
  | _ => none

def isInt : Value → Bool
  | .int _ _ => true
  | _ => false

def minL (k : IntKind) (n : Int) : List Value → Option Int
  | [] => some n
  | .int j m :: r => if j = k then minL k (if m < n then m else n) r else none
  | _ :: _ => none

def maxL (k : IntKind) (n : Int) : List Value → Option Int
  | [] => some n
  | .int j m :: r => if j = k then maxL k (if n < m then m else n) r else none
  | _ :: _ => none

def repeatL (zero : List Value) : Nat → List Value
  | 0 => []
  | n + 1 => zero ++ repeatL zero n

abbrev CallF := Nat → List Value → Heap → Option (Value × Heap)

/-- The address of a variable that is kept in the frame was told in this slot. -/
def lchk (f : Fr) : Option Nat → Bool
  | none => true
  | some s =>
    match fget f s with
    | some (.chan (some n)) => n == 0
    | _ => false

/-- One operation: what it comes to, and the heap behind it. -/
def iop (call : CallF) (lo : Nat) (o : IOp) (f : Fr) (h : Heap) : Option (Value × Heap) :=
  match o with
  | .mov x =>
    match ev f x with
    | some v => some (v, h)
    | none => none
  | .pick c a b =>
    match ev f c with
    | some (.bool t) =>
      match (if t then ev f a else ev f b) with
      | some v => some (v, h)
      | none => none
    | _ => none
  | .load n x =>
    match ev f x with
    | some (.pointer (some a)) =>
      match loadV h n a with
      | some v => some (v, h)
      | none => none
    | _ => none
  | .store n x v =>
    match ev f x, ev f v with
    | some (.pointer (some a)), some v =>
      if (vcells v).length = n ∧ (vcells v).all oneA = true then
        match stN lo h a (vcells v) with
        | some h' => some (noneV, h')
        | none => none
      else none
    | _, _ => none
  | .box v =>
    match ev f v with
    | some v => if (vcells v).all oneA then some (.pointer (some ⟨h.length, 0, none⟩), h ++ [.row (vcells v) false]) else none
    | none => none
  | .lbox v =>
    match ev f v with
    | some v => some (.agg (vcells v).toArray, h)
    | none => none
  | .laddr s b _ =>
    if lchk f s then
      match fget f b with
      | some (.agg _) => some (anyV, h)
      | _ => none
    else none
  | .lload s b off n =>
    if lchk f s then
      match fget f b with
      | some (.agg cs) =>
        match part n cs.toList off with
        | some v => some (v, h)
        | none => none
      | _ => none
    else none
  | .lstore s b off n v =>
    if lchk f s then
      match fget f b, ev f v with
      | some (.agg cs), some v =>
        if (vcells v).length = n ∧ (vcells v).all oneA = true then
          if off + n ≤ cs.toList.length then some (.agg (splice cs.toList off (vcells v)).toArray, h) else none
        else none
      | _, _ => none
    else none
  | .build zero parts =>
    match evp f parts with
    | some ps =>
      match fillL zero ps with
      | some cs => some (.agg cs.toArray, h)
      | none => none
    | none => none
  | .buildSlice esz len zero parts =>
    match evp f parts with
    | some ps =>
      match fillL zero ps with
      | some cs => if cs.all oneA then some (.slice (some ⟨h.length, 0, none⟩) len len, h ++ [.row cs false]) else none
      | none => none
    | none => none
  | .faddr off x =>
    match ev f x with
    | some (.pointer (some a)) => some (.pointer (some ⟨a.block, a.off + off, none⟩), h)
    | _ => none
  | .field off n x =>
    match ev f x with
    | some (.agg cs) =>
      match part n cs.toList off with
      | some v => some (v, h)
      | none => none
    | _ => none
  | .iaddr len esz x i =>
    match ev f x, ev f i with
    | some v, some (.int _ i) =>
      match len, v with
      | some len, .pointer (some a) => if 0 ≤ i ∧ i < (len : Int) then some (.pointer (some ⟨a.block, a.off + i.toNat * esz, none⟩), h) else none
      | none, .slice (some a) len _ => if 0 ≤ i ∧ i < (len : Int) then some (.pointer (some ⟨a.block, a.off + i.toNat * esz, none⟩), h) else none
      | _, _ => none
    | _, _ => none
  | .index len esz n x i =>
    match ev f x, ev f i with
    | some (.agg cs), some (.int _ i) =>
      if 0 ≤ i ∧ i < (len : Int) then
        match part n cs.toList (i.toNat * esz) with
        | some v => some (v, h)
        | none => none
      else none
    | _, _ => none
  | .indexS x i =>
    match ev f x, ev f i with
    | some (.string s), some (.int _ i) =>
      if 0 ≤ i then
        match s.data.toList[i.toNat]? with
        | some b => some (.int .u8 b.toNat, h)
        | none => none
      else none
    | _, _ => none
  | .nilchk x =>
    match ev f x with
    | some (.pointer (some a)) => some (.pointer (some a), h)
    | some (.iface t v) => some (.iface t v, h)
    | some (.func (.func g) a b) => some (.func (.func g) a b, h)
    | _ => none
  | .nilchkm name tab x =>
    match ev f x with
    | some (.func (.method n) a b) =>
      if n = name then
        match a.toList with
        | .iface t _ :: _ =>
          match tab.lookup t with
          | some _ => some (.func (.method n) a b, h)
          | none => none
        | _ => none
      else none
    | _ => none
  | .bin op x y =>
    match ev f x, ev f y with
    | some x, some y =>
      match ibin op x y with
      | some v => some (v, h)
      | none => none
    | _, _ => none
  | .eqv neg k x y =>
    match ev f x, ev f y with
    | some x, some y =>
      match ieq k x y with
      | some b => some (.bool (if neg then !b else b), h)
      | none => none
    | _, _ => none
  | .un op x =>
    match ev f x with
    | some x =>
      match iun op x with
      | some v => some (v, h)
      | none => none
    | none => none
  | .conv k x =>
    match ev f x with
    | some x =>
      match iconv k x with
      | some v => some (v, h)
      | none => none
    | none => none
  | .mkif t x =>
    match ev f x with
    | some v => some (.iface t v, h)
    | none => none
  | .mkfn fn first caps =>
    match evs f first, evs f caps with
    | some first, some caps => some (.func fn first.toArray caps.toArray, h)
    | _, _ => none
  | .mkslice esz bytes zero n c =>
    match ev f n, ev f c with
    | some (.int .i64 n), some (.int .i64 c) =>
      if 0 ≤ n ∧ n ≤ c ∧ c ≤ 2 ^ 30 ∧ bytes ≤ 2 ^ 12 then
        some (.slice (some ⟨h.length, 0, none⟩) n.toNat c.toNat, h ++ [.row (repeatL zero c.toNat) false])
      else none
    | _, _ => none
  | .slice esz x lo hi mx =>
    match ev f x, evo f lo, evo f hi, evo f mx with
    | some x, some lo, some hi, some mx =>
      match islice esz x lo hi mx with
      | some v => some (v, h)
      | none => none
    | _, _, _, _ => none
  | .sliceA len esz x lo hi mx =>
    match ev f x, evo f lo, evo f hi, evo f mx with
    | some (.pointer (some a)), some lo, some hi, some mx =>
      match ibounds len len lo hi mx with
      | some (l, hh, m) => some (.slice (some (if m = l then a else a.add (l * esz))) (hh - l) (m - l), h)
      | none => none
    | _, _, _, _ => none
  | .sliceS x lo hi =>
    match ev f x, evo f lo, evo f hi with
    | some (.string s), some lo, some hi =>
      match ibounds s.size s.size lo hi none with
      | some (l, hh, _) => some (.string (s.extract l hh), h)
      | none => none
    | _, _, _ => none
  | .extract x i =>
    match ev f x with
    | some (.tuple vs) =>
      match vs.toList[i]? with
      | some v => some (v, h)
      | none => none
    | _ => none
  | .call g args =>
    match evs f args with
    | some vs => call g vs h
    | none => none
  | .callv x args =>
    match ev f x, evs f args with
    | some fv, some vs =>
      match callee fv with
      | some (g, caps) => call g (vs ++ caps) h
      | none => none
    | _, _ => none
  | .invoke tab x args =>
    match ev f x, evs f args with
    | some (.iface t v), some vs =>
      match tab.lookup t with
      | some g => call g (v :: vs) h
      | none => none
    | _, _ => none
  | .append esz bytes x y =>
    match ev f x, ev f y with
    | some x, some y => iappend lo esz bytes h x y
    | _, _ => none
  | .len str x =>
    match ev f x with
    | some (.slice _ n _) => if str then none else some (.int .i64 n, h)
    | some (.string s) => if str then some (.int .i64 s.size, h) else none
    | _ => none
  | .copy esz x y =>
    match ev f x, ev f y with
    | some (.slice base dlen _), some y =>
      match lenV y with
      | none => none
      | some slen =>
        match srcCells h esz (min slen dlen) y with
        | none => none
        | some cs =>
          match base with
          | none => some (.int .i64 (min slen dlen : Nat), h)
          | some a =>
            if min slen dlen = 0 then some (.int .i64 (0 : Nat), h)
            else match stN lo h (tight a) cs with
              | some h' => some (.int .i64 (min slen dlen : Nat), h')
              | none => none
    | _, _ => none
  | .clear esz zero x =>
    match ev f x with
    | some (.slice base n _) =>
      match base with
      | none => some (noneV, h)
      | some a =>
        if n = 0 then some (noneV, h)
        else match stN lo h (tight a) (repeatL zero n) with
          | some h' => some (noneV, h')
          | none => none
    | _ => none
  | .min xs =>
    match evs f xs with
    | some (.int k n :: r) =>
      match minL k n r with
      | some m => some (.int k m, h)
      | none => none
    | _ => none
  | .max xs =>
    match evs f xs with
    | some (.int k n :: r) =>
      match maxL k n r with
      | some m => some (.int k m, h)
      | none => none
    | _ => none
  | .cplx x y =>
    match ev f x, ev f y with
    | some (.float k a), some (.float k' b) => if k = k' then some (.complex k a b, h) else none
    | _, _ => none
  | .re x =>
    match ev f x with
    | some (.complex k a _) => some (.float k a, h)
    | _ => none
  | .im x =>
    match ev f x with
    | some (.complex k _ b) => some (.float k b, h)
    | _ => none
  | .mkmap => some (.map (some h.length), h ++ [.map []])
  | .lookup zero ok m k =>
    match ev f m, ev f k with
    | some (.map r), some k =>
      if isInt k then
        match (match r with | none => some [] | some r => hmap h r) with
        | none => none
        | some es =>
          match mapGet k es with
          | none => none
          | some none => some (if ok then .tuple #[zero, .bool false] else zero, h)
          | some (some v) => some (if ok then .tuple #[v, .bool true] else v, h)
      else none
    | _, _ => none
  | .mapupd m k v =>
    match ev f m, ev f k, ev f v with
    | some (.map (some r)), some k, some v =>
      if isInt k ∧ lo ≤ r then
        match hmap h r with
        | none => none
        | some es =>
          match mapPut k v es with
          | some es' => some (noneV, h.set r (.map es'))
          | none => none
      else none
    | _, _, _ => none
  | .mapdel m k =>
    match ev f m, ev f k with
    | some (.map r), some k =>
      if isInt k then
        match r with
        | none => some (noneV, h)
        | some r =>
          if lo ≤ r then
            match hmap h r with
            | none => none
            | some es =>
              match mapDrop k es with
              | some es' => some (noneV, h.set r (.map es'))
              | none => none
          else none
      else none
    | _, _ => none
  | .maplen m =>
    match ev f m with
    | some (.map r) =>
      match (match r with | none => some [] | some r => hmap h r) with
      | some es => some (.int .i64 (es.length : Nat), h)
      | none => none
    | _ => none

/-! ### 4. whether two values are the same (flat ones, pointers, slices) -/
def sameA : Option Addr → Option Addr → Bool
  | none, none => true
  | some a, some b => a.block == b.block && a.off == b.off && a.spot == b.spot
  | _, _ => false

def same1 : Value → Value → Bool
  | .bool a, .bool b => a == b
  | .int k a, .int j b => (decide (k = j)) && a == b
  | .pointer a, .pointer b => sameA a b
  | .slice a n c, .slice b m d => sameA a b && n == m && c == d
  | .map a, .map b => a == b
  | .nilIface, .nilIface => true
  | .iface t (.pointer a), .iface u (.pointer b) => t == u && sameA a b
  | _, _ => false

def sameL : List Value → List Value → Bool
  | [], [] => true
  | x :: xs, y :: ys => same1 x y && sameL xs ys
  | _, _ => false

def sameV : Value → Value → Bool
  | .agg xs, .agg ys => sameL xs.toList ys.toList
  | .tuple xs, .tuple ys => sameL xs.toList ys.toList
  | x, y => same1 x y

/-! ### 5. regions, code, calls -/
def want (g : Option (Nat × Bool)) (f : Fr) : Option Bool :=
  match g with
  | none => some true
  | some (t, w) =>
    match fget f t with
    | some (.bool b) => some (b == w)
    | some (.tuple vs) => if vs.size = 0 then some false else none
    | _ => none

def isEff : IOp → Bool
  | .store .. | .call .. | .callv .. | .invoke .. | .append .. | .copy .. | .clear .. | .mapupd .. | .mapdel .. => true
  | _ => false

/-- What is read now was so in the heaps ahead. -/
def asAhead (call : CallF) (lo : Nat) (o : IOp) (f : Fr) (v : Value) : List Heap → Bool
  | [] => true
  | h :: hs =>
    match iop call lo o f h with
    | some (u, _) => sameV u v && asAhead call lo o f v hs
    | none => false

def iops (call : CallF) (lo : Nat) : List IOper → Fr → Heap → List Heap → Option (Fr × Heap)
  | [], f, h, _ => some (f, h)
  | o :: os, f, h, hs =>
    match want o.guard f with
    | none => none
    | some false => iops call lo os (fset f o.dst noneV) h hs
    | some true =>
      match iop call lo o.op f h with
      | none => none
      | some (v, h') =>
        if asAhead call lo o.op f v (hs.take o.chk) then iops call lo os (fset f o.dst v) h' (if isEff o.op then h :: hs else hs)
        else none

inductive Item where
  | code (c : ICode)
  | endB (id : Nat)
  | again (ls : List Nat) (b : ICode)
  | inScope (b : ICode)

def exitI (id : Nat) : List Item → Option (List Item)
  | [] => none
  | .endB j :: k => if j = id then some k else exitI id k
  | _ :: k => exitI id k

def findI : ICode → Nat → Option ICode
  | .seq a b, l =>
    match findI a l with
    | some r => some (.seq r b)
    | none => findI b l
  | .label j, l => if j = l then some .skip else none
  | _, _ => none

def gotoI (l : Nat) : List Item → Option (List Item)
  | [] => none
  | .inScope b :: k =>
    match findI b l with
    | some r => some (.code r :: .inScope b :: k)
    | none => gotoI l k
  | _ :: k => gotoI l k

def ires (f : Fr) (h : Heap) : IRes → Option Value
  | .tmp t => fget f t
  | .cell t n =>
    match fget f t with
    | some (.pointer (some a)) => loadV h n a
    | _ => none
  | .lb t n =>
    match fget f t with
    | some (.agg cs) => part n cs.toList 0
    | _ => none

def iresL (f : Fr) (h : Heap) : List IRes → Option (List Value)
  | [] => some []
  | r :: rs =>
    match ires f h r with
    | some v =>
      match iresL f h rs with
      | some vs => some (v :: vs)
      | none => none
    | none => none

def results (rs : List IRes) (f : Fr) (h : Heap) : Option Value :=
  match iresL f h rs with
  | some [v] => some v
  | some vs => some (.tuple vs.toArray)
  | none => none

def number : Nat → List Value → Fr
  | _, [] => []
  | n, v :: vs => (n, v) :: number (n + 1) vs

/-- A result of a call that wrote nothing that was there: what it made is laid anew, at the heap's end; all else that it made is dropped. -/
def tidy1 (n0 : Nat) (h' : Heap) (v : Value) (acc : Heap) : Option (Value × Heap) :=
  match v with
  | .slice (some a) len cap =>
    if a.block < n0 then some (v, acc)
    else
      match h'[a.block]? with
      | some (.row cs ro) =>
        if cs.all flat1 ∧ acc.length = n0 then some (.slice (some ⟨acc.length, a.off, a.spot⟩) len cap, acc ++ [.row cs ro]) else none
      | _ => none
  | v => if flatV v then some (v, acc) else none

def tidyL (n0 : Nat) (h' : Heap) : List Value → Heap → Option (List Value × Heap)
  | [], acc => some ([], acc)
  | v :: vs, acc =>
    match tidy1 n0 h' v acc with
    | some (v, acc) =>
      match tidyL n0 h' vs acc with
      | some (vs, acc) => some (v :: vs, acc)
      | none => none
    | none => none

def tidy (h : Heap) (v : Value) (h' : Heap) : Option (Value × Heap) :=
  match v with
  | .tuple vs =>
    match tidyL h.length h' vs.toList h with
    | some (vs, acc) => some (.tuple vs.toArray, acc)
    | none => none
  | v => tidy1 h.length h' v h

abbrev Prim := Nat → List Value → Heap → Option (Value × Heap)

structure Env where
  fn : Nat → Option IFunc
  prim : Nat → Option Prim

abbrev ExF := Nat → List Item → Fr → Heap → Option (Fr × Heap)

def callW (E : Env) (ex : ExF) (lo : Nat) (g : Nat) (args : List Value) (h : Heap) : Option (Value × Heap) :=
  match E.prim g with
  | some p => p lo args h
  | none =>
    match E.fn g with
    | none => none
    | some fn =>
      if args.length ≠ fn.nargs then none else
      match ex (if fn.scr then h.length else lo) [.code fn.body] (number 0 args) h with
      | none => none
      | some (f', h') =>
        match results fn.res f' h' with
        | none => none
        | some v => if fn.scr then tidy h v h' else some (v, h')

def exN (E : Env) : Nat → ExF
  | 0, _, _, _, _ => none
  | _ + 1, _, [], f, h => some (f, h)
  | n + 1, lo, it :: k, f, h =>
    match it with
    | .endB _ => exN E n lo k f h
    | .again ls b => exN E n lo (.code b :: .again ls b :: k) (keep ls f) h
    | .inScope _ => exN E n lo k f h
    | .code c =>
      match c with
      | .skip => exN E n lo k f h
      | .region ops =>
        match iops (callW E (exN E n) lo) lo ops f h [] with
        | some (f', h') => exN E n lo k f' h'
        | none => none
      | .seq a b => exN E n lo (.code a :: .code b :: k) f h
      | .cond c a b =>
        match ev f c with
        | some (.bool t) => exN E n lo (.code (if t then a else b) :: k) f h
        | _ => none
      | .block id b => exN E n lo (.code b :: .endB id :: k) f h
      | .loop ls b => exN E n lo (.code b :: .again ls b :: k) (keep ls f) h
      | .exit id =>
        match exitI id k with
        | some k' => exN E n lo k' f h
        | none => none
      | .scope b => exN E n lo (.code b :: .inScope b :: k) f h
      | .label _ => exN E n lo k f h
      | .goto l ls =>
        match gotoI l k with
        | some k' => exN E n lo k' (keep ls f) h
        | none => none
      | .ret => some (f, h)

def callN (E : Env) (n lo g : Nat) (args : List Value) (h : Heap) : Option (Value × Heap) := callW E (exN E n) lo g args h

end Go.Ir
