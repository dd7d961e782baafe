/- From a loaded function to the small language. What cannot be told is not translated (none). -/
import Derived.Test.YtbkdahiplcbppaaGreatIr
set_option linter.unusedVariables false
namespace Go.Ir

def tyN (P : Program) (t : TypeId) : Option (Option Nat) :=
  match P.underlying t with
  | some (.struct _) | some (.array _ _) => (P.info? t).map (fun i => some i.size)
  | some _ => some none
  | none => none

def tySize (P : Program) (t : TypeId) : Option Nat := (P.info? t).map (fun i => i.size)

def zeroOf (P : Program) (t : TypeId) : Option Value := (P.info? t).bind fun i => i.zero

/-- A zero value that holds no address. -/
def zeroFlat (P : Program) (t : TypeId) : Option Value :=
  match zeroOf P t with
  | some z => if flatV z ∧ (vcells z).all flat1 then some z else none
  | none => none

def fieldOf (P : Program) (t : TypeId) (f : Nat) : Option (Nat × TypeId) :=
  match P.underlying t with
  | some (.struct fs) =>
    match fs[f]? with
    | some x => match tySize P x.type with | some (_ + 1) => some (x.offset, x.type) | _ => none
    | none => none
  | _ => none

def opndOk (LB : List Nat) : Operand → Bool
  | .tmp t => !LB.contains t
  | .const v => flatV v
  | .func _ => true
  | .global _ => false

/-- A slot whose value is the address of a variable that is kept in the frame, or of a field of it. -/
def la (P : Program) (LB : List Nat) (ops : List Oper) : Nat → Nat → Option (Nat × Nat)
  | 0, s => if LB.contains s then some (s, 0) else none
  | n + 1, s =>
    if LB.contains s then some (s, 0)
    else
      match ops.find? (fun o => o.dst == some s) with
      | some { op := .fieldAddr t (.tmp s') f, .. } =>
        match la P LB ops n s', fieldOf P t f with
        | some (d, off), some (o, _) => some (d, off + o)
        | _, _ => none
      | _ => none

def laX (P : Program) (LB : List Nat) (ops : List Oper) : Operand → Option (Nat × Nat)
  | .tmp s => la P LB ops 4 s
  | _ => none

/-- The slot that holds such an address, where it is not the variable's own. -/
def laS (LB : List Nat) : Operand → Option Nat
  | .tmp s => if LB.contains s then none else some s
  | _ => none

def leaves (P : Program) : Nat → TypeId → Option (List (Nat × Nat))
  | 0, _ => none
  | d + 1, t =>
    match P.underlying t with
    | some .bool => some [(0, 1)]
    | some (.int _) => some [(0, 0)]
    | some .string => some [(0, 2)]
    | some (.struct fs) => if P.stoodInHeld t then none else leavesL P (leaves P d) fs.toList
    | _ => none
where
  leavesL (P : Program) (lv : TypeId → Option (List (Nat × Nat))) : List Field → Option (List (Nat × Nat))
    | [] => some []
    | f :: r =>
      if f.name = "_" then none
      else
        match lv f.type, tySize P f.type, leavesL P lv r with
        | some l, some n, some m => if l.all (fun p => decide (p.1 < n)) then some (l.map (fun p => (p.1 + f.offset, p.2)) ++ m) else none
        | _, _, _ => none

def eqK (P : Program) (t : TypeId) (x y : Operand) : Option EqK :=
  match P.underlying t with
  | some .bool => some .bool
  | some (.pointer _) => some (.nil 0)
  | some (.slice _) => some (.nil 1)
  | some (.map _ _) => some (.nil 2)
  | some (.func _ _ _) => some (.nil 3)
  | some (.interface _) =>
    match x, y with
    | .const _, _ | _, .const _ => some (.nil 4)
    | _, _ => none
  | some (.struct _) =>
    if P.eqGuardType P.depth t then none
    else (leaves P 8 t).map EqK.cells
  | _ => none

def isEq : BinOp → Option Bool
  | .eql => some false
  | .neq => some true
  | _ => none

def methodTab (P : Program) (name : String) : List (Nat × Nat) :=
  (List.range P.types.size).filterMap fun t =>
    match P.info? t with
    | some i =>
      match i.methods.find? (·.name == name) with
      | some m =>
        match m.func, m.path.isEmpty, P.underlying t with
        | some (g, true), true, some (.pointer _) => some (t, g)
        | some (g, false), true, some (.struct _) => some (t, g)
        | _, _, _ => none
      | none => none
    | none => none

/-- The name of the method value that an operand holds. -/
def mthX (ops : List Oper) (x : Operand) : Option String :=
  match x with
  | .tmp t =>
    match ops.find? (fun o => o.dst == some t) with
    | some o =>
      match o.op with
      | .makeFunc (.method n) _ _ => some n
      | _ => none
    | none => none
  | _ => none

def partL (P : Program) (fs : Array Field) : List (Nat × Operand) → Option (List (Nat × Nat × Operand))
  | [] => some []
  | (i, x) :: r =>
    match fs[i]? with
    | some f =>
      match tySize P f.type, partL P fs r with
      | some n, some l => some ((f.offset, n, x) :: l)
      | _, _ => none
    | none => none

def partsOf (P : Program) (t : TypeId) (parts : List (Nat × Operand)) : Option (List (Nat × Nat × Operand)) :=
  match P.underlying t with
  | some (.struct fs) =>
    if fs.toList.all (fun f => (tySize P f.type).isSome) then
      partL P fs parts
    else none
  | some (.array _ e) =>
    match tySize P e with
    | some n => some (parts.map fun (i, x) => (i * n, n, x))
    | none => none
  | _ => none

def rowOf (zero : Value) (n : Nat) : List Value := (List.range n).map fun i => zero.cells[i % zero.cells.size]!

def optOk (LB : List Nat) : Option Operand → Bool
  | none => true
  | some x => opndOk LB x

def ifOk {α : Type} (b : Bool) (x : α) : Option α := if b then some x else none

def cBuiltin (P : Program) (LB : List Nat) (b : Builtin) (ts : List TypeId) (args : List Operand) : Option IOp :=
  if args.all (opndOk LB) then
    match b, args with
    | .len, [x] =>
      match ts with
      | [t] =>
        match P.underlying t with
        | some .string => some (.len true x)
        | some (.slice _) => some (.len false x)
        | some (.map _ _) => some (.maplen x)
        | _ => none
      | _ => none
    | .append, [x, y] =>
      match ts with
      | [t, u] =>
        match P.underlying t, P.underlying u with
        | some (.slice e), some (.slice _) =>
          match P.info? e with
          | some i => if ((zeroOf P e).map fun z => (vcells z).length) = some i.size then some (.append i.size i.bytes x y) else none
          | none => none
        | _, _ => none
      | _ => none
    | .copy, [x, y] =>
      match ts with
      | t :: _ =>
        match P.underlying t with
        | some (.slice e) => (tySize P e).map fun n => .copy n x y
        | _ => none
      | _ => none
    | .clear, [x] =>
      match ts with
      | [t] =>
        match P.underlying t with
        | some (.slice e) =>
          match tySize P e, zeroFlat P e with
          | some n, some z => if (vcells z).length = n then some (.clear n (vcells z) x) else none
          | _, _ => none
        | _ => none
      | _ => none
    | .min, xs => some (.min xs)
    | .max, xs => some (.max xs)
    | .complex, [x, y] => some (.cplx x y)
    | .real, [x] => some (.re x)
    | .imag, [x] => some (.im x)
    | .delete, [m, k] =>
      match ts with
      | t :: _ =>
        match P.underlying t with
        | some (.map kt _) =>
          match P.underlying kt with
          | some (.int _) => some (.mapdel m k)
          | _ => none
        | _ => none
      | _ => none
    | _, _ => none
  else none

/-- One operation, of those of its region. -/
def cOp (P : Program) (LB : List Nat) (ops : List Oper) (o : Oper) : Option IOp :=
  match o.op with
  | .move x | .assign x => ifOk (opndOk LB x) (.mov x)
  | .pick c a b => ifOk (opndOk LB c && opndOk LB a && opndOk LB b) (.pick c a b)
  | .alloc t =>
    match zeroFlat P t, o.dst with
    | some z, some d => if LB.contains d then some (.lbox (.const z)) else some (.box (.const z))
    | _, _ => none
  | .box _ v =>
    match o.dst with
    | some d => if opndOk LB v then (if LB.contains d then some (.lbox v) else some (.box v)) else none
    | none => none
  | .build t parts =>
    match zeroFlat P t, partsOf P t parts.toList with
    | some z, some ps => ifOk (ps.all fun p => opndOk LB p.2.2) (.build (vcells z) ps)
    | _, _ => none
  | .buildSlice t len parts =>
    match P.underlying t with
    | some (.slice e) =>
      match tySize P e, zeroFlat P e with
      | some n, some z =>
        if len * n ≤ 2 ^ 20 then
          ifOk (parts.toList.all fun p => opndOk LB p.2) (.buildSlice n len (if len * n = 0 then [] else rowOf z (len * n)) (parts.toList.map fun (i, x) => (i * n, n, x)))
        else none
      | _, _ => none
    | _ => none
  | .load t x =>
    match tyN P t with
    | none => none
    | some n =>
      match laX P LB ops x with
      | some (d, off) => some (.lload (laS LB x) d off n)
      | none => ifOk (opndOk LB x) (.load n x)
  | .store t x v =>
    match tySize P t with
    | none => none
    | some n =>
      match laX P LB ops x with
      | some (d, off) => ifOk (opndOk LB v) (.lstore (laS LB x) d off n v)
      | none => ifOk (opndOk LB x && opndOk LB v) (.store n x v)
  | .nilCheck x =>
    match mthX ops x with
    | some n => ifOk (opndOk LB x) (.nilchkm n (methodTab P n) x)
    | none => ifOk (opndOk LB x) (.nilchk x)
  | .binOp op t x y _ =>
    if opndOk LB x && opndOk LB y then
      match isEq op with
      | none => some (.bin op x y)
      | some neg =>
        match P.underlying t with
        | some (.int _) | some .string => some (.bin op x y)
        | _ => (eqK P t x y).map fun k => .eqv neg k x y
    else none
  | .unOp op _ x => ifOk (opndOk LB x) (.un op x)
  | .convert s d x =>
    if opndOk LB x then
      match P.underlying s, P.underlying d with
      | some (.int _), some (.int k) => some (.conv (.int k) x)
      | some (.float _), some (.int k) => some (.conv (.int k) x)
      | some (.int _), some (.float k) => some (.conv (.float k) x)
      | some .string, some .string => some (.conv .same x)
      | _, _ => none
    else none
  | .makeInterface t x =>
    match P.underlying t with
    | some (.interface _) | none => none
    | some _ => ifOk (opndOk LB x) (.mkif t x)
  | .makeFunc fn first caps => ifOk (first.toList.all (opndOk LB) && caps.toList.all (opndOk LB)) (.mkfn fn first.toList caps.toList)
  | .makeMap t r =>
    match r with
    | none => some .mkmap
    | some (.const (.int _ _)) =>
      match P.underlying t with
      | some (.map _ _) => some .mkmap
      | _ => none
    | _ => none
  | .makeSlice t n c =>
    match P.underlying t with
    | some (.slice e) =>
      match P.info? e, zeroFlat P e with
      | some i, some z => if (vcells z).length = i.size then ifOk (opndOk LB n && opndOk LB c) (.mkslice i.size i.bytes (vcells z) n c) else none
      | _, _ => none
    | _ => none
  | .slice t x lo hi mx =>
    if opndOk LB x && optOk LB lo && optOk LB hi && optOk LB mx then
      match P.underlying t with
      | some (.array n e) => (tySize P e).map fun s => .sliceA n s x lo hi mx
      | some (.slice e) => (tySize P e).map fun s => .slice s x lo hi mx
      | some .string => if mx.isNone then some (.sliceS x lo hi) else none
      | _ => none
    else none
  | .fieldAddr t x f =>
    match fieldOf P t f with
    | none => none
    | some (off, _) =>
      match laX P LB ops x with
      | some (d, o') => some (.laddr (laS LB x) d (o' + off))
      | none => ifOk (opndOk LB x) (.faddr off x)
  | .field t x f =>
    match fieldOf P t f with
    | none => none
    | some (off, u) =>
      match tyN P u with
      | some n => ifOk (opndOk LB x) (.field off n x)
      | none => none
  | .indexAddr t x i =>
    if opndOk LB x && opndOk LB i then
      match P.underlying t with
      | some (.array n e) => (tySize P e).map fun s => .iaddr (some n) s x i
      | some (.slice e) => (tySize P e).map fun s => .iaddr none s x i
      | _ => none
    else none
  | .index t x i =>
    if opndOk LB x && opndOk LB i then
      match P.underlying t with
      | some (.array n e) =>
        match tySize P e, tyN P e with
        | some s, some m => some (.index n s m x i)
        | _, _ => none
      | some .string => some (.indexS x i)
      | _ => none
    else none
  | .lookup t m k ok =>
    match P.underlying t with
    | some (.map kt e) =>
      match P.underlying kt, zeroFlat P e with
      | some (.int _), some z => ifOk (opndOk LB m && opndOk LB k) (.lookup z ok m k)
      | _, _ => none
    | _ => none
  | .mapUpdate t m k v =>
    match P.underlying t with
    | some (.map kt _) =>
      match P.underlying kt with
      | some (.int _) => ifOk (opndOk LB m && opndOk LB k && opndOk LB v) (.mapupd m k v)
      | _ => none
    | _ => none
  | .extract x i => ifOk (opndOk LB x) (.extract x i)
  | .call c =>
    match c.callee with
    | .value (.func g) => ifOk (c.args.toList.all (opndOk LB)) (.call g c.args.toList)
    | .value x => ifOk (opndOk LB x && c.args.toList.all (opndOk LB)) (.callv x c.args.toList)
    | .invoke x name => ifOk (opndOk LB x && c.args.toList.all (opndOk LB)) (.invoke (methodTab P name) x c.args.toList)
    | .builtin b => cBuiltin P LB b c.argTypes.toList c.args.toList
  | _ => none

/-! ### regions -/

def depsOf (o : Oper) : List Nat := (o.after.toList.filter (Region.binds .any)).map (·.on)

/-- Of each operation those that go ahead of it, as bits. -/
def ancs : List Oper → List Nat → List Nat
  | [], acc => acc
  | o :: r, acc => ancs r (acc ++ [(depsOf o).foldl (fun m d => m ||| 2 ^ d ||| acc.getD d 0) 0])

def depsBack : List Oper → Nat → Bool
  | [], _ => true
  | o :: r, i => (depsOf o).all (· < i) && depsBack r (i + 1)

def isAlloc : IOp → Bool
  | .box _ | .buildSlice .. | .mkslice .. | .mkmap => true
  | _ => false

def isRead : IOp → Bool
  | .load .. | .lookup .. | .maplen _ => true
  | _ => false

def opndT : Operand → List Nat
  | .tmp t => [t]
  | _ => []

/-- The variable of the frame that an operation works on. -/
def lres : IOp → List Nat
  | .lload _ b _ _ | .lstore _ b _ _ _ | .laddr _ b _ => [b]
  | _ => []

structure COper where
  o : Oper
  io : IOp
  guard : Option (Nat × Bool)

def COper.dst (c : COper) : Option Nat :=
  match c.io with
  | .lstore _ b _ _ _ => some b
  | _ => c.o.dst

def COper.reads (c : COper) : List Nat :=
  c.o.op.operands.toList.flatMap opndT ++ lres c.io ++ (match c.guard with | some (t, _) => [t] | none => [])

def COper.writes (c : COper) : List Nat := c.dst.toList

def meets (a b : List Nat) : Bool := a.any fun x => b.contains x

def clash (a b : COper) : Bool := meets a.writes (b.reads ++ b.writes) || meets a.reads b.writes

def guardOf (ops : List Oper) (o : Oper) : Option (Option (Nat × Bool)) :=
  match o.guard with
  | none => some none
  | some (j, w) =>
    match ops[j]? with
    | some x =>
      match x.dst with
      | some d => some (some (d, w))
      | none => none
    | none => none

def lboxes (b : Nat) : List COper → Nat → List Nat
  | [], _ => []
  | x :: r, i => match x.io with | .lbox _ => if x.o.dst == some b then i :: lboxes b r (i + 1) else lboxes b r (i + 1) | _ => lboxes b r (i + 1)

def writers (s : Nat) : List COper → Nat → List Nat
  | [], _ => []
  | x :: r, i => if x.o.dst == some s then i :: writers s r (i + 1) else writers s r (i + 1)

/-- Where an operation on a variable of the frame goes by a slot, that slot has one writer, ahead, which tells the address; where the variable is laid in this region, that is ahead. -/
def localOk (cs : List COper) (i : Nat) (c : COper) : Bool :=
  match c.io with
  | .lload s b _ _ | .lstore s b _ _ _ | .laddr s b _ =>
    ((lboxes b cs 0).all fun j => decide (j < i)) &&
    (match s with
     | none => true
     | some s =>
       match writers s cs 0 with
       | [j] => decide (j < i)
       | _ => false)
  | _ => true

def localAll (cs : List COper) : Nat → List COper → Bool
  | _, [] => true
  | i, c :: r => localOk cs i c && localAll cs (i + 1) r

def mkCs (P : Program) (LB : List Nat) (all : List Oper) (nt : Nat) : List Oper → Option (List COper)
  | [] => some []
  | o :: r =>
    match cOp P LB all o, guardOf all o, mkCs P LB all nt r with
    | some io, some g, some cs =>
      if (match o.dst with | some d => decide (d < nt) | none => true) && (match o.dst, io with | some d, .lbox _ => LB.contains d | some d, _ => !LB.contains d | none, _ => true) &&
         (match g with | some (t, _) => !LB.contains t | none => true) && (match io with | .lstore _ b .. => LB.contains b && o.dst.isNone | .lload _ b .. => LB.contains b | .laddr _ b _ => LB.contains b | _ => true) then
        some ({ o := o, io := io, guard := g } :: cs)
      else none
    | _, _, _ => none

/-- The effects one behind the other; ahead of each what it needs; all else at the end. -/
def orderOf (cs : List COper) (an : List Nat) : List Nat :=
  let n := cs.length
  let effs := (List.range n).filter fun i => (cs[i]?).any fun c => isEff c.io
  let step := fun (acc : List Nat) e => acc ++ ((List.range n).filter fun i => (i == e || (an.getD e 0).testBit i) && !acc.contains i)
  let l := effs.foldl step []
  l ++ (List.range n).filter fun i => !l.contains i

def nodupB : List Nat → Bool
  | [] => true
  | x :: r => !r.contains x && nodupB r

/-- Whatever order the edges allow comes to the same as this one. -/
def orderOk (cs : List COper) (an : List Nat) (ord : List Nat) : Bool :=
  decide (ord.length = cs.length) && nodupB ord && ord.all (· < cs.length) && (List.range cs.length).all (fun i => ord.contains i) && pairs ord
where
  pairs : List Nat → Bool
    | [] => true
    | p :: r => r.all (fun q =>
        match cs[p]?, cs[q]? with
        | some a, some b =>
          !(an.getD p 0).testBit q && (!clash a b || (an.getD q 0).testBit p) &&
          (!(isEff b.io && (isEff a.io || isAlloc a.io || isRead a.io)) || (an.getD q 0).testBit p)
        | _, _ => false) && pairs r

/-- How many of the effects that stand ahead of a read may as well stand behind it. -/
def chkOf (cs : List COper) (an : List Nat) (ahead : List Nat) (q : Nat) : Nat :=
  match cs[q]? with
  | some b => if isRead b.io then (ahead.filter fun p => (cs[p]?).any (fun a => isEff a.io) && !(an.getD q 0).testBit p).length else 0
  | none => 0

def layOut (cs : List COper) (an : List Nat) : List Nat → List Nat → List IOper
  | _, [] => []
  | ahead, q :: r =>
    match cs[q]? with
    | some c => { dst := c.dst, op := c.io, guard := c.guard, chk := chkOf cs an ahead q } :: layOut cs an (ahead ++ [q]) r
    | none => layOut cs an (ahead ++ [q]) r

def cRegion (P : Program) (LB : List Nat) (nt : Nat) (ops : List Oper) (draw : Bool) : Option (List IOper) :=
  match mkCs P LB ops nt ops with
  | none => none
  | some cs =>
    if localAll cs 0 cs then
      if draw then
        let an := ancs ops []
        let ord := orderOf cs an
        if depsBack ops 0 && orderOk cs an ord then some (layOut cs an [] ord) else none
      else some (cs.map fun c => { dst := c.dst, op := c.io, guard := c.guard, chk := 0 })
    else none

/-! ### code -/

def cCode (P : Program) (LB : List Nat) (nt : Nat) : Code → List (List Nat) → Option (ICode × List (List Nat))
  | .skip, hs => some (.skip, hs)
  | .region _ ops draw, hs => (cRegion P LB nt ops.toList draw).map fun l => (.region l, hs)
  | .seq a b, hs =>
    match cCode P LB nt a hs with
    | some (a', hs) =>
      match cCode P LB nt b hs with
      | some (b', hs) => some (.seq a' b', hs)
      | none => none
    | none => none
  | .cond c a b, hs =>
    if opndOk LB c then
      match cCode P LB nt a hs with
      | some (a', hs) =>
        match cCode P LB nt b hs with
        | some (b', hs) => some (.cond c a' b', hs)
        | none => none
      | none => none
    else none
  | .block id b, hs =>
    match cCode P LB nt b hs with
    | some (b', hs) => some (.block id b', hs)
    | none => none
  | .loop b, hs =>
    match hs with
    | l :: hs =>
      match cCode P LB nt b hs with
      | some (b', hs) => some (.loop l b', hs)
      | none => none
    | [] => none
  | .exit id, hs => some (.exit id, hs)
  | .scope b, hs =>
    match cCode P LB nt b hs with
    | some (b', hs) => some (.scope b', hs)
    | none => none
  | .label l, hs => some (.label l, hs)
  | .goto l, hs =>
    match hs with
    | ls :: hs => some (.goto l ls, hs)
    | [] => none
  | .ret, hs => some (.ret, hs)
  | _, _ => none

def cRes (P : Program) (LB : List Nat) : ResultVar → Option IRes
  | .tmp t => if LB.contains t then none else some (.tmp t)
  | .cell t ty => (tyN P ty).map fun n => if LB.contains t then .lb t n else .cell t n

structure Hint where
  lb : List Nat
  scr : Bool
  ls : List (List Nat)

def cFunc (P : Program) (F : Func) (h : Hint) : Option IFunc :=
  match F.body with
  | none => none
  | some b =>
    if F.name == "runtime.NumGoroutine" then none
    else if h.lb.all (fun t => decide (F.params.size + F.nfree ≤ t)) && decide (F.params.size + F.nfree ≤ F.ntmps) then
      match cCode P h.lb F.ntmps b h.ls, F.results.toList.mapM (cRes P h.lb) with
      | some (b', []), some rs => some { lb := h.lb, body := b', res := rs, scr := h.scr, nargs := F.params.size + F.nfree }
      | _, _ => none
    else none

end Go.Ir
