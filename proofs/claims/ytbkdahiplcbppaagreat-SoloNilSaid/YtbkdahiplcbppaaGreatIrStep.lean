/- Steps of symbolic runs. -/
import Derived.Test.YtbkdahiplcbppaaGreatIrEnv
set_option linter.unusedVariables false
set_option linter.unusedSimpArgs false
namespace Go.Ir

/-- Within a region. -/
noncomputable def exG (E : Env) (lo : Nat) (os : List IOper) (hs : List Heap) (k : List Item) (f : Fr) (h : Heap) : Option (Fr × Heap) :=
  match iops (callR E lo) lo os f h hs with
  | some (f', h') => exR E lo k f' h'
  | none => none

/-- A run that ends so. -/
def Ends (x : Option (Fr × Heap)) (rs : List IRes) (Q : Value → Heap → Prop) : Prop := ∃ f' h' v, x = some (f', h') ∧ results rs f' h' = some v ∧ Q v h'

theorem Ends.by {x y : Option (Fr × Heap)} {rs : List IRes} {Q : Value → Heap → Prop} (e : x = y) (h : Ends y rs Q) : Ends x rs Q := by rw [e]; exact h

section
variable {E : Env} {lo : Nat} {o : IOper} {os : List IOper} {f f' : Fr} {h h' : Heap} {hs : List Heap} {v : Value} {k k' : List Item}

theorem g_in {os : List IOper} : exR E lo (.code (.region os) :: k) f h = exG E lo os [] k f h := eqR_region

theorem g_op {d : Nat} {op : IOp} (hi : iop (callR E lo) lo op f h = some (v, h')) {hs' : List Heap} (he : (if isEff op then h :: hs else hs) = hs') :
    exG E lo (⟨some d, op, none, 0⟩ :: os) hs k f h = exG E lo os hs' k ((d, v) :: f) h' := by
  subst he
  unfold exG
  simp only [iops, want, hi, List.take_zero, asAhead, if_true, fset]

theorem g_no {op : IOp} (hi : iop (callR E lo) lo op f h = some (v, h')) {hs' : List Heap} (he : (if isEff op then h :: hs else hs) = hs') :
    exG E lo (⟨none, op, none, 0⟩ :: os) hs k f h = exG E lo os hs' k f h' := by
  subst he
  unfold exG
  simp only [iops, want, hi, List.take_zero, asAhead, if_true, fset]

theorem g_gd {d : Nat} {op : IOp} {t : Nat × Bool} (hw : want (some t) f = some true) (hi : iop (callR E lo) lo op f h = some (v, h')) {hs' : List Heap} (he : (if isEff op then h :: hs else hs) = hs') :
    exG E lo (⟨some d, op, some t, 0⟩ :: os) hs k f h = exG E lo os hs' k ((d, v) :: f) h' := by
  subst he
  unfold exG
  simp only [iops, hw, hi, List.take_zero, asAhead, if_true, fset]

theorem g_skip {d : Nat} {op : IOp} {t : Nat × Bool} {c : Nat} (hw : want (some t) f = some false) : exG E lo (⟨some d, op, some t, c⟩ :: os) hs k f h = exG E lo os hs k ((d, noneV) :: f) h := by
  unfold exG
  simp only [iops, hw, fset]

theorem g_end : exG E lo [] hs k f h = exR E lo k f h := rfl

theorem c_true {c : Operand} {a b : ICode} (hc : ev f c = some (.bool true)) : exR E lo (.code (.cond c a b) :: k) f h = exR E lo (.code a :: k) f h := exR_cond hc
theorem c_false {c : Operand} {a b : ICode} (hc : ev f c = some (.bool false)) : exR E lo (.code (.cond c a b) :: k) f h = exR E lo (.code b :: k) f h := exR_cond hc

/-- The goals of symbolic runs: ahead of what is still to do; within a region. -/
structure EndsR (E : Env) (lo : Nat) (items : List Item) (f : Fr) (h : Heap) (rs : List IRes) (Q : Value → Heap → Prop) : Prop where
  out : Ends (exR E lo items f h) rs Q
structure EndsG (E : Env) (lo : Nat) (os : List IOper) (hs : List Heap) (k : List Item) (f : Fr) (h : Heap) (rs : List IRes) (Q : Value → Heap → Prop) : Prop where
  out : Ends (exG E lo os hs k f h) rs Q

section
variable {rs : List IRes} {Q : Value → Heap → Prop}
theorem EndsR.ret (hr : results rs f h = some v) (hq : Q v h) : EndsR E lo (.code .ret :: k) f h rs Q := ⟨f, h, v, exR_ret, hr, hq⟩
theorem EndsR.nil (hr : results rs f h = some v) (hq : Q v h) : EndsR E lo [] f h rs Q := ⟨f, h, v, exR_nil, hr, hq⟩
theorem EndsR.seq {a b : ICode} (x : EndsR E lo (.code a :: .code b :: k) f h rs Q) : EndsR E lo (.code (.seq a b) :: k) f h rs Q := ⟨.by exR_seq x.out⟩
theorem EndsR.skip (x : EndsR E lo k f h rs Q) : EndsR E lo (.code .skip :: k) f h rs Q := ⟨.by exR_skip x.out⟩
theorem EndsR.block {id : Nat} {b : ICode} (x : EndsR E lo (.code b :: .endB id :: k) f h rs Q) : EndsR E lo (.code (.block id b) :: k) f h rs Q := ⟨.by exR_block x.out⟩
theorem EndsR.endB {id : Nat} (x : EndsR E lo k f h rs Q) : EndsR E lo (.endB id :: k) f h rs Q := ⟨.by exR_endB x.out⟩
theorem EndsR.scope {b : ICode} (x : EndsR E lo (.code b :: .inScope b :: k) f h rs Q) : EndsR E lo (.code (.scope b) :: k) f h rs Q := ⟨.by exR_scope x.out⟩
theorem EndsR.inScope {b : ICode} (x : EndsR E lo k f h rs Q) : EndsR E lo (.inScope b :: k) f h rs Q := ⟨.by exR_inScope x.out⟩
theorem EndsR.label {l : Nat} (x : EndsR E lo k f h rs Q) : EndsR E lo (.code (.label l) :: k) f h rs Q := ⟨.by exR_label x.out⟩
theorem EndsR.exit {id : Nat} (hk : exitI id k = some k') (x : EndsR E lo k' f h rs Q) : EndsR E lo (.code (.exit id) :: k) f h rs Q := ⟨.by (exR_exit hk) x.out⟩
theorem EndsR.goto {l : Nat} {ls : List Nat} (hk : gotoI l k = some k') (hf : keep ls f = f') (x : EndsR E lo k' f' h rs Q) : EndsR E lo (.code (.goto l ls) :: k) f h rs Q := ⟨.by (exR_goto hk) (by rw [hf]; exact x.out)⟩
theorem EndsR.yes {c : Operand} {a b : ICode} (hc : ev f c = some (.bool true)) (x : EndsR E lo (.code a :: k) f h rs Q) : EndsR E lo (.code (.cond c a b) :: k) f h rs Q := ⟨.by (c_true hc) x.out⟩
theorem EndsR.no {c : Operand} {a b : ICode} (hc : ev f c = some (.bool false)) (x : EndsR E lo (.code b :: k) f h rs Q) : EndsR E lo (.code (.cond c a b) :: k) f h rs Q := ⟨.by (c_false hc) x.out⟩
theorem EndsR.reg (x : EndsG E lo os [] k f h rs Q) : EndsR E lo (.code (.region os) :: k) f h rs Q := ⟨.by g_in x.out⟩

theorem EndsG.fin (x : EndsR E lo k f h rs Q) : EndsG E lo [] hs k f h rs Q := ⟨x.out⟩
theorem EndsG.op {d : Nat} {op : IOp} (hi : iop (callR E lo) lo op f h = some (v, h')) {hs' : List Heap} (he : (if isEff op then h :: hs else hs) = hs') (x : EndsG E lo os hs' k ((d, v) :: f) h' rs Q) :
    EndsG E lo (⟨some d, op, none, 0⟩ :: os) hs k f h rs Q := ⟨.by (g_op hi he) x.out⟩
theorem EndsG.no {op : IOp} (hi : iop (callR E lo) lo op f h = some (v, h')) {hs' : List Heap} (he : (if isEff op then h :: hs else hs) = hs') (x : EndsG E lo os hs' k f h' rs Q) :
    EndsG E lo (⟨none, op, none, 0⟩ :: os) hs k f h rs Q := ⟨.by (g_no hi he) x.out⟩
theorem EndsG.gd {d : Nat} {op : IOp} {t : Nat × Bool} (hw : want (some t) f = some true) (hi : iop (callR E lo) lo op f h = some (v, h')) {hs' : List Heap} (he : (if isEff op then h :: hs else hs) = hs')
    (x : EndsG E lo os hs' k ((d, v) :: f) h' rs Q) : EndsG E lo (⟨some d, op, some t, 0⟩ :: os) hs k f h rs Q := ⟨.by (g_gd hw hi he) x.out⟩
theorem EndsG.skip {d : Nat} {op : IOp} {t : Nat × Bool} {c : Nat} (hw : want (some t) f = some false) (x : EndsG E lo os hs k ((d, noneV) :: f) h rs Q) :
    EndsG E lo (⟨some d, op, some t, c⟩ :: os) hs k f h rs Q := ⟨.by (g_skip hw) x.out⟩

/-- A loop: what holds at the head of each round, of the slots that are kept; a measure falls. -/
theorem EndsR.loop {ls : List Nat} {B : ICode} (I : Nat → Fr → Heap → Prop) {n : Nat} (h0 : I n (keep ls f) h)
    (st : ∀ n f h, I n f h → (∀ m f' h', m < n → I m (keep ls f') h' → EndsR E lo (.again ls B :: k) f' h' rs Q) → EndsR E lo (.code B :: .again ls B :: k) f h rs Q) :
    EndsR E lo (.code (.loop ls B) :: k) f h rs Q := by
  have key : ∀ n f h, I n f h → EndsR E lo (.code B :: .again ls B :: k) f h rs Q := by
    intro n
    induction n using Nat.strongRecOn with
    | _ n ih => exact fun f h hi => st n f h hi fun m f' h' hm hi' => ⟨.by exR_again (ih m hm _ _ hi').out⟩
  exact ⟨.by exR_loop (key n _ _ h0).out⟩
end

theorem call_of {g : Nat} {fn : IFunc} {args : List Value} {r : Value × Heap} (hp : E.prim g = none) (hf : E.fn g = some fn) (ha : args.length = fn.nargs) (hs : fn.scr = false)
    (he : EndsR E lo [.code fn.body] (number 0 args) h fn.res fun v h' => (v, h') = r) : callR E lo g args h = some r := by
  obtain ⟨f', h', v, h1, h2, h3⟩ := he.out
  rw [callR_fn hp hf ha hs h1 h2, h3]

theorem call_scr {g : Nat} {fn : IFunc} {args : List Value} {r : Value × Heap} (hp : E.prim g = none) (hf : E.fn g = some fn) (ha : args.length = fn.nargs) (hs : fn.scr = true)
    (he : EndsR E h.length [.code fn.body] (number 0 args) h fn.res fun v h' => tidy h v h' = some r) : callR E lo g args h = some r := by
  obtain ⟨f', h', v, h1, h2, h3⟩ := he.out
  exact callR_scr hp hf ha hs h1 h2 h3
end

end Go.Ir
