/- What kinds of operations there are that work on memory. -/
import Derived.Test.YtbkdahiplcbppaaGreatIrMem
set_option linter.unusedVariables false
set_option linter.unusedSimpArgs false
namespace Go.Ir


inductive NP (P : Program) (LB : List Nat) (ops : List Oper) (o : Oper) : IOp → Prop where
  | zeroL (t : TypeId) (z : Value) (d : Nat) (ho : o.op = .alloc t) (hz : zeroFlat P t = some z) (hd : o.dst = some d) (hl : LB.contains d = true) : NP P LB ops o (.lbox (.const z))
  | zeroH (t : TypeId) (z : Value) (d : Nat) (ho : o.op = .alloc t) (hz : zeroFlat P t = some z) (hd : o.dst = some d) : NP P LB ops o (.box (.const z))
  | boxL (t : TypeId) (x : Operand) (d : Nat) (ho : o.op = .box t x) (hx : opndOk LB x = true) (hd : o.dst = some d) (hl : LB.contains d = true) : NP P LB ops o (.lbox x)
  | boxH (t : TypeId) (x : Operand) (d : Nat) (ho : o.op = .box t x) (hx : opndOk LB x = true) (hd : o.dst = some d) : NP P LB ops o (.box x)
  | buildSlice (t e : TypeId) (n len : Nat) (z : Value) (parts : Array (Nat × Operand)) (ho : o.op = .buildSlice t len parts) (hu : P.underlying t = some (.slice e)) (hn : tySize P e = some n)
      (hz : zeroFlat P e = some z) (hl : len * n ≤ 2 ^ 20) (hx : (parts.toList.all fun p => opndOk LB p.2) = true) :
      NP P LB ops o (.buildSlice n len (if len * n = 0 then [] else rowOf z (len * n)) (parts.toList.map fun (i, x) => (i * n, n, x)))
  | lload (t : TypeId) (x : Operand) (d off : Nat) (n : Option Nat) (ho : o.op = .load t x) (hn : tyN P t = some n) (hl : laX P LB ops x = some (d, off)) : NP P LB ops o (.lload (laS LB x) d off n)
  | load (t : TypeId) (x : Operand) (n : Option Nat) (ho : o.op = .load t x) (hn : tyN P t = some n) (hx : opndOk LB x = true) : NP P LB ops o (.load n x)
  | lstore (t : TypeId) (x y : Operand) (d off n : Nat) (ho : o.op = .store t x y) (hn : tySize P t = some n) (hl : laX P LB ops x = some (d, off)) (hy : opndOk LB y = true) : NP P LB ops o (.lstore (laS LB x) d off n y)
  | store (t : TypeId) (x y : Operand) (n : Nat) (ho : o.op = .store t x y) (hn : tySize P t = some n) (hx : opndOk LB x = true) (hy : opndOk LB y = true) : NP P LB ops o (.store n x y)
  | laddr (t u : TypeId) (x : Operand) (fi off d o' : Nat) (ho : o.op = .fieldAddr t x fi) (hf : fieldOf P t fi = some (off, u)) (hl : laX P LB ops x = some (d, o')) : NP P LB ops o (.laddr (laS LB x) d (o' + off))
  | mkmap (t : TypeId) (r : Option Operand) (ho : o.op = .makeMap t r) (hr : r = none ∨ ((∃ k n, r = some (.const (.int k n))) ∧ ∃ e e', P.underlying t = some (.map e e'))) : NP P LB ops o .mkmap
  | mkslice (t e : TypeId) (n c : Operand) (i : TypeInfo) (z : Value) (ho : o.op = .makeSlice t n c) (hu : P.underlying t = some (.slice e)) (hi : P.info? e = some i) (hz : zeroFlat P e = some z)
      (hl : (vcells z).length = i.size) (hn : opndOk LB n = true) (hc : opndOk LB c = true) : NP P LB ops o (.mkslice i.size i.bytes (vcells z) n c)
  | lookup (t kt e : TypeId) (j : IntKind) (m k : Operand) (ok : Bool) (z : Value) (ho : o.op = .lookup t m k ok) (hu : P.underlying t = some (.map kt e)) (hk : P.underlying kt = some (.int j))
      (hz : zeroFlat P e = some z) (h1 : opndOk LB m = true) (h2 : opndOk LB k = true) : NP P LB ops o (.lookup z ok m k)
  | mapupd (t kt e : TypeId) (j : IntKind) (m k x : Operand) (ho : o.op = .mapUpdate t m k x) (hu : P.underlying t = some (.map kt e)) (hk : P.underlying kt = some (.int j))
      (h1 : opndOk LB m = true) (h2 : opndOk LB k = true) (h3 : opndOk LB x = true) : NP P LB ops o (.mapupd m k x)
  | call (c : Call) (g : Nat) (ho : o.op = .call c) (hc : c.callee = .value (.func g)) (hx : (c.args.toList.all (opndOk LB)) = true) : NP P LB ops o (.call g c.args.toList)
  | callv (c : Call) (x : Operand) (ho : o.op = .call c) (hc : c.callee = .value x) (h0 : opndOk LB x = true) (hx : (c.args.toList.all (opndOk LB)) = true) : NP P LB ops o (.callv x c.args.toList)
  | invoke (c : Call) (x : Operand) (name : String) (ho : o.op = .call c) (hc : c.callee = .invoke x name) (h0 : opndOk LB x = true) (hx : (c.args.toList.all (opndOk LB)) = true) :
      NP P LB ops o (.invoke (methodTab P name) x c.args.toList)
  | append (t u e e' : TypeId) (x y : Operand) (i : TypeInfo) (ho : o.op = .call ⟨.builtin .append, #[x, y], #[t, u]⟩) (hu : P.underlying t = some (.slice e)) (hu' : P.underlying u = some (.slice e'))
      (hi : P.info? e = some i) (hz : ((zeroOf P e).map fun z => (vcells z).length) = some i.size) (h1 : opndOk LB x = true) (h2 : opndOk LB y = true) : NP P LB ops o (.append i.size i.bytes x y)
  | copy (t e : TypeId) (ts : Array TypeId) (x y : Operand) (n : Nat) (ho : o.op = .call ⟨.builtin .copy, #[x, y], ts⟩) (ht : ts[0]? = some t) (hu : P.underlying t = some (.slice e)) (hn : tySize P e = some n)
      (h1 : opndOk LB x = true) (h2 : opndOk LB y = true) : NP P LB ops o (.copy n x y)
  | clear (t e : TypeId) (x : Operand) (n : Nat) (z : Value) (ho : o.op = .call ⟨.builtin .clear, #[x], #[t]⟩) (hu : P.underlying t = some (.slice e)) (hn : tySize P e = some n) (hz : zeroFlat P e = some z)
      (hl : (vcells z).length = n) (h1 : opndOk LB x = true) : NP P LB ops o (.clear n (vcells z) x)
  | mapdel (t kt e : TypeId) (ts : Array TypeId) (j : IntKind) (m k : Operand) (ho : o.op = .call ⟨.builtin .delete, #[m, k], ts⟩) (ht : ts[0]? = some t) (hu : P.underlying t = some (.map kt e))
      (hk : P.underlying kt = some (.int j)) (h1 : opndOk LB m = true) (h2 : opndOk LB k = true) : NP P LB ops o (.mapdel m k)
  | maplen (t kt e : TypeId) (x : Operand) (ho : o.op = .call ⟨.builtin .len, #[x], #[t]⟩) (hu : P.underlying t = some (.map kt e)) (h1 : opndOk LB x = true) : NP P LB ops o (.maplen x)

theorem cOp_np {P : Program} {LB : List Nat} {ops : List Oper} {o : Oper} {io : IOp} (hc : cOp P LB ops o = some io) (hp : isPure io = false) : NP P LB ops o io := by
  obtain ⟨dst, op, ty, pos, after, guard⟩ := o
  cases op <;> simp only [cOp] at hc <;> try (cases hc; done)
  case move x => obtain ⟨h1, rfl⟩ := ifOk_some hc; cases hp
  case assign x => obtain ⟨h1, rfl⟩ := ifOk_some hc; cases hp
  case pick c x y => obtain ⟨h1, rfl⟩ := ifOk_some hc; cases hp
  case alloc t =>
    split at hc <;> try (cases hc; done)
    rename_i z d hz
    split at hc
    · rename_i hl; injection hc with hc; subst hc; exact .zeroL t z d rfl hz rfl hl
    · injection hc with hc; subst hc; exact .zeroH t z d rfl hz rfl
  case box t x =>
    split at hc <;> try (cases hc; done)
    rename_i d
    split at hc <;> try (cases hc; done)
    rename_i hx
    split at hc
    · rename_i hl; injection hc with hc; subst hc; exact .boxL t x d rfl hx rfl hl
    · injection hc with hc; subst hc; exact .boxH t x d rfl hx rfl
  case build t parts =>
    split at hc <;> try (cases hc; done)
    obtain ⟨h1, rfl⟩ := ifOk_some hc
    cases hp
  case buildSlice t n parts =>
    split at hc <;> try (cases hc; done)
    rename_i e hu
    split at hc <;> try (cases hc; done)
    rename_i s z hs hz
    split at hc <;> try (cases hc; done)
    rename_i hl
    obtain ⟨h1, rfl⟩ := ifOk_some hc
    exact .buildSlice t e s n z parts rfl hu hs hz hl h1
  case load t x =>
    split at hc <;> try (cases hc; done)
    rename_i n hn
    split at hc
    · rename_i d off hl; injection hc with hc; subst hc; exact .lload t x d off n rfl hn hl
    · obtain ⟨h1, rfl⟩ := ifOk_some hc; exact .load t x n rfl hn h1
  case store t x y =>
    split at hc <;> try (cases hc; done)
    rename_i n hn
    split at hc
    · rename_i d off hl; obtain ⟨h1, rfl⟩ := ifOk_some hc; exact .lstore t x y d off n rfl hn hl h1
    · obtain ⟨h1, rfl⟩ := ifOk_some hc
      simp only [Bool.and_eq_true] at h1
      exact .store t x y n rfl hn h1.1 h1.2
  case nilCheck x =>
    split at hc
    · obtain ⟨h1, rfl⟩ := ifOk_some hc; cases hp
    · obtain ⟨h1, rfl⟩ := ifOk_some hc; cases hp
  case binOp op t x y t' =>
    split at hc <;> try (cases hc; done)
    split at hc
    · injection hc with hc; subst hc; cases hp
    · split at hc
      · injection hc with hc; subst hc; cases hp
      · injection hc with hc; subst hc; cases hp
      · obtain ⟨k, hk, rfl⟩ := mapSome hc; cases hp
  case unOp op t x => obtain ⟨h1, rfl⟩ := ifOk_some hc; cases hp
  case convert s d x =>
    split at hc <;> try (cases hc; done)
    split at hc <;> (try (cases hc; done)) <;> (injection hc with hc; subst hc; cases hp)
  case makeInterface t x =>
    split at hc <;> try (cases hc; done)
    obtain ⟨h1, rfl⟩ := ifOk_some hc
    cases hp
  case makeFunc fn first caps => obtain ⟨h1, rfl⟩ := ifOk_some hc; cases hp
  case makeMap t r =>
    split at hc <;> try (cases hc; done)
    · injection hc with hc; subst hc; exact .mkmap t _ rfl (.inl rfl)
    · split at hc <;> try (cases hc; done)
      rename_i e e' hu
      injection hc with hc; subst hc; exact .mkmap t _ rfl (.inr ⟨⟨_, _, rfl⟩, e, e', hu⟩)
  case makeSlice t n c =>
    split at hc <;> try (cases hc; done)
    rename_i e hu
    split at hc <;> try (cases hc; done)
    rename_i i z hi hz
    split at hc <;> try (cases hc; done)
    rename_i hl
    obtain ⟨h1, rfl⟩ := ifOk_some hc
    simp only [Bool.and_eq_true] at h1
    exact .mkslice t e n c i z rfl hu hi hz hl h1.1 h1.2
  case slice t x lo' hi mx =>
    split at hc <;> try (cases hc; done)
    split at hc <;> try (cases hc; done)
    · obtain ⟨s, hs, rfl⟩ := mapSome hc; cases hp
    · obtain ⟨s, hs, rfl⟩ := mapSome hc; cases hp
    · obtain ⟨h2, rfl⟩ := ifSome hc; cases hp
  case fieldAddr t x fi =>
    split at hc <;> try (cases hc; done)
    rename_i off u hf
    split at hc
    · rename_i d o' hl; injection hc with hc; subst hc; exact .laddr t u x fi off d o' rfl hf hl
    · obtain ⟨h1, rfl⟩ := ifOk_some hc; cases hp
  case field t x fi =>
    split at hc <;> try (cases hc; done)
    split at hc <;> try (cases hc; done)
    obtain ⟨h1, rfl⟩ := ifOk_some hc
    cases hp
  case indexAddr t x i =>
    split at hc <;> try (cases hc; done)
    split at hc <;> try (cases hc; done)
    · obtain ⟨s, hs, rfl⟩ := mapSome hc; cases hp
    · obtain ⟨s, hs, rfl⟩ := mapSome hc; cases hp
  case index t x i =>
    split at hc <;> try (cases hc; done)
    split at hc <;> try (cases hc; done)
    · split at hc <;> try (cases hc; done)
      injection hc with hc; subst hc; cases hp
    · injection hc with hc; subst hc; cases hp
  case lookup t m k ok =>
    split at hc <;> try (cases hc; done)
    rename_i kt et hmp
    split at hc <;> try (cases hc; done)
    rename_i j z hkt hz
    obtain ⟨h1, rfl⟩ := ifOk_some hc
    simp only [Bool.and_eq_true] at h1
    exact .lookup t kt et j m k ok z rfl hmp hkt hz h1.1 h1.2
  case mapUpdate t m k u =>
    split at hc <;> try (cases hc; done)
    rename_i kt et hmp
    split at hc <;> try (cases hc; done)
    rename_i j hkt
    obtain ⟨h1, rfl⟩ := ifOk_some hc
    simp only [Bool.and_eq_true] at h1
    exact .mapupd t kt et j m k u rfl hmp hkt h1.1.1 h1.1.2 h1.2
  case extract x i => obtain ⟨h1, rfl⟩ := ifOk_some hc; cases hp
  case call c =>
    obtain ⟨cal, args, ts⟩ := c
    split at hc
    · rename_i g hg
      obtain ⟨h1, rfl⟩ := ifOk_some hc
      exact .call _ g rfl hg h1
    · rename_i x hg _
      obtain ⟨h1, rfl⟩ := ifOk_some hc
      simp only [Bool.and_eq_true] at h1
      exact .callv _ _ rfl (by assumption) h1.1 h1.2
    · rename_i x name hg
      obtain ⟨h1, rfl⟩ := ifOk_some hc
      simp only [Bool.and_eq_true] at h1
      exact .invoke _ _ _ rfl hg h1.1 h1.2
    · rename_i b hb
      simp only at hb
      subst hb
      unfold cBuiltin at hc
      obtain ⟨h1, hc⟩ := ifSomeO hc
      split at hc
      · rename_i hx
        split at hc <;> try (cases hc; done)
        rename_i ht
        replace hx : args.toList = _ := hx
        replace ht : ts.toList = _ := ht
        have e1 := arr1 hx
        have e2 := arr1 ht
        simp only [hx, List.all_cons, Bool.and_eq_true] at h1
        split at hc <;> try (cases hc; done)
        · injection hc with hc; subst hc; cases hp
        · injection hc with hc; subst hc; cases hp
        · rename_i kt et hu1
          injection hc with hc; subst hc
          subst e1 e2
          exact .maplen _ kt et _ rfl hu1 h1.1
      · rename_i hx
        split at hc <;> try (cases hc; done)
        rename_i ht
        replace hx : args.toList = _ := hx
        replace ht : ts.toList = _ := ht
        have e1 := arr2 hx
        have e2 := arr2 ht
        simp only [hx, List.all_cons, Bool.and_eq_true] at h1
        split at hc <;> try (cases hc; done)
        rename_i e e' hu hu'
        split at hc <;> try (cases hc; done)
        rename_i i hi
        obtain ⟨h3, rfl⟩ := ifSome hc
        subst e1 e2
        exact .append _ _ e e' _ _ i rfl hu hu' hi h3 h1.1 h1.2.1
      · rename_i hx
        split at hc <;> try (cases hc; done)
        rename_i ht
        replace hx : args.toList = _ := hx
        replace ht : ts.toList = _ := ht
        have e1 := arr2 hx
        simp only [hx, List.all_cons, Bool.and_eq_true] at h1
        split at hc <;> try (cases hc; done)
        rename_i e hu
        obtain ⟨n, hn, rfl⟩ := mapSome hc
        subst e1
        exact .copy _ e ts _ _ n rfl (by rw [← Array.getElem?_toList, ht]; rfl) hu hn h1.1 h1.2.1
      · rename_i hx
        split at hc <;> try (cases hc; done)
        rename_i ht
        replace hx : args.toList = _ := hx
        replace ht : ts.toList = _ := ht
        have e1 := arr1 hx
        have e2 := arr1 ht
        simp only [hx, List.all_cons, Bool.and_eq_true] at h1
        split at hc <;> try (cases hc; done)
        rename_i e hu
        split at hc <;> try (cases hc; done)
        rename_i n z hn hz
        obtain ⟨h3, rfl⟩ := ifSome hc
        subst e1 e2
        exact .clear _ e _ n z rfl hu hn hz h3 h1.1
      · injection hc with hc; subst hc; cases hp
      · injection hc with hc; subst hc; cases hp
      · injection hc with hc; subst hc; cases hp
      · injection hc with hc; subst hc; cases hp
      · injection hc with hc; subst hc; cases hp
      · rename_i hx
        split at hc <;> try (cases hc; done)
        rename_i ht
        replace hx : args.toList = _ := hx
        replace ht : ts.toList = _ := ht
        have e1 := arr2 hx
        simp only [hx, List.all_cons, Bool.and_eq_true] at h1
        split at hc <;> try (cases hc; done)
        rename_i kt et hu
        split at hc <;> try (cases hc; done)
        rename_i j hkt
        injection hc with hc; subst hc
        subst e1
        exact .mapdel _ kt et ts j _ _ rfl (by rw [← Array.getElem?_toList, ht]; rfl) hu hkt h1.1 h1.2.1
      · cases hc

end Go.Ir
