/- Steps that part the cases as they come. -/
import Derived.Test.YtbkdahiplcbppaaGreatIrSl
set_option linter.unusedVariables false
set_option linter.unusedSimpArgs false
namespace Go.Ir

section
variable {E : Env} {lo : Nat} {os : List IOper} {f : Fr} {h h' : Heap} {hs hs' : List Heap} {v : Value} {k : List Item} {rs : List IRes} {Q : Value → Heap → Prop} {d : Nat} {g : Option (Nat × Bool)}

theorem EndsG.go {op : IOp} (hw : want g f = some true) (hi : iop (callR E lo) lo op f h = some (v, h')) (he : (if isEff op then h :: hs else hs) = hs')
    (x : EndsG E lo os hs' k ((d, v) :: f) h' rs Q) : EndsG E lo (⟨some d, op, g, 0⟩ :: os) hs k f h rs Q := ⟨.by (by subst he; unfold exG; simp only [iops, hw, hi, List.take_zero, asAhead, if_true, fset]) x.out⟩
theorem EndsG.gono {op : IOp} (hw : want g f = some true) (hi : iop (callR E lo) lo op f h = some (v, h')) (he : (if isEff op then h :: hs else hs) = hs')
    (x : EndsG E lo os hs' k f h' rs Q) : EndsG E lo (⟨none, op, g, 0⟩ :: os) hs k f h rs Q := ⟨.by (by subst he; unfold exG; simp only [iops, hw, hi, List.take_zero, asAhead, if_true, fset]) x.out⟩
theorem EndsG.skipn {op : IOp} {t : Nat × Bool} {c : Nat} (hw : want (some t) f = some false) (x : EndsG E lo os hs k f h rs Q) :
    EndsG E lo (⟨none, op, some t, c⟩ :: os) hs k f h rs Q := ⟨.by (by unfold exG; simp only [iops, hw, fset]) x.out⟩

section
variable {x y : Operand} {j : IntKind} {a b : Int}
theorem EndsG.lss (hw : want g f = some true) (hx : ev f x = some (.int j a)) (hy : ev f y = some (.int j b)) (t : a < b → EndsG E lo os hs k ((d, .bool true) :: f) h rs Q) (n : ¬ a < b → EndsG E lo os hs k ((d, .bool false) :: f) h rs Q) :
    EndsG E lo (⟨some d, .bin .lss x y, g, 0⟩ :: os) hs k f h rs Q := by
  by_cases hc : a < b
  · exact .go hw (by simp [iop, hx, hy, ibin, ibinI, isShift, hc]) rfl (t hc)
  · exact .go hw (by simp [iop, hx, hy, ibin, ibinI, isShift, hc]) rfl (n hc)
theorem EndsG.leq (hw : want g f = some true) (hx : ev f x = some (.int j a)) (hy : ev f y = some (.int j b)) (t : a ≤ b → EndsG E lo os hs k ((d, .bool true) :: f) h rs Q) (n : ¬ a ≤ b → EndsG E lo os hs k ((d, .bool false) :: f) h rs Q) :
    EndsG E lo (⟨some d, .bin .leq x y, g, 0⟩ :: os) hs k f h rs Q := by
  by_cases hc : a ≤ b
  · exact .go hw (by simp [iop, hx, hy, ibin, ibinI, isShift, hc]) rfl (t hc)
  · exact .go hw (by simp [iop, hx, hy, ibin, ibinI, isShift, hc]) rfl (n hc)
theorem EndsG.gtr (hw : want g f = some true) (hx : ev f x = some (.int j a)) (hy : ev f y = some (.int j b)) (t : b < a → EndsG E lo os hs k ((d, .bool true) :: f) h rs Q) (n : ¬ b < a → EndsG E lo os hs k ((d, .bool false) :: f) h rs Q) :
    EndsG E lo (⟨some d, .bin .gtr x y, g, 0⟩ :: os) hs k f h rs Q := by
  by_cases hc : b < a
  · exact .go hw (by simp [iop, hx, hy, ibin, ibinI, isShift, hc]) rfl (t hc)
  · exact .go hw (by simp [iop, hx, hy, ibin, ibinI, isShift, hc]) rfl (n hc)
theorem EndsG.geq (hw : want g f = some true) (hx : ev f x = some (.int j a)) (hy : ev f y = some (.int j b)) (t : b ≤ a → EndsG E lo os hs k ((d, .bool true) :: f) h rs Q) (n : ¬ b ≤ a → EndsG E lo os hs k ((d, .bool false) :: f) h rs Q) :
    EndsG E lo (⟨some d, .bin .geq x y, g, 0⟩ :: os) hs k f h rs Q := by
  by_cases hc : b ≤ a
  · exact .go hw (by simp [iop, hx, hy, ibin, ibinI, isShift, hc]) rfl (t hc)
  · exact .go hw (by simp [iop, hx, hy, ibin, ibinI, isShift, hc]) rfl (n hc)
theorem EndsG.eql (hw : want g f = some true) (hx : ev f x = some (.int j a)) (hy : ev f y = some (.int j b)) (t : a = b → EndsG E lo os hs k ((d, .bool true) :: f) h rs Q) (n : ¬ a = b → EndsG E lo os hs k ((d, .bool false) :: f) h rs Q) :
    EndsG E lo (⟨some d, .bin .eql x y, g, 0⟩ :: os) hs k f h rs Q := by
  by_cases hc : a = b
  · exact .go hw (by simp [iop, hx, hy, ibin, ibinI, isShift, hc]) rfl (t hc)
  · exact .go hw (by simp [iop, hx, hy, ibin, ibinI, isShift, hc]) rfl (n hc)
theorem EndsG.neq (hw : want g f = some true) (hx : ev f x = some (.int j a)) (hy : ev f y = some (.int j b)) (t : ¬ a = b → EndsG E lo os hs k ((d, .bool true) :: f) h rs Q) (n : a = b → EndsG E lo os hs k ((d, .bool false) :: f) h rs Q) :
    EndsG E lo (⟨some d, .bin .neq x y, g, 0⟩ :: os) hs k f h rs Q := by
  by_cases hc : a = b
  · exact .go hw (by simp [iop, hx, hy, ibin, ibinI, isShift, hc]) rfl (n hc)
  · exact .go hw (by simp [iop, hx, hy, ibin, ibinI, isShift, hc]) rfl (t hc)
end

/-- An operation whose answer is a bool. -/
theorem EndsG.bl {op : IOp} {b : Bool} (hw : want g f = some true) (hi : iop (callR E lo) lo op f h = some (.bool b, h')) (he : (if isEff op then h :: hs else hs) = hs')
    (t : b = true → EndsG E lo os hs' k ((d, .bool true) :: f) h' rs Q) (n : b = false → EndsG E lo os hs' k ((d, .bool false) :: f) h' rs Q) : EndsG E lo (⟨some d, op, g, 0⟩ :: os) hs k f h rs Q := by
  cases b
  · exact .go hw hi he (n rfl)
  · exact .go hw hi he (t rfl)

theorem EndsR.br {c : Operand} {x y : ICode} {b : Bool} (hc : ev f c = some (.bool b)) (t : b = true → EndsR E lo (.code x :: k) f h rs Q) (n : b = false → EndsR E lo (.code y :: k) f h rs Q) : EndsR E lo (.code (.cond c x y) :: k) f h rs Q := by
  cases b
  · exact .no hc (n rfl)
  · exact .yes hc (t rfl)
/-! ### operations, by their kind -/
theorem EndsG.load {n : Option Nat} {x : Operand} {a : Addr} (hw : want g f = some true) (hx : ev f x = some (.pointer (some a))) (hl : loadV h n a = some v) (c : EndsG E lo os hs k ((d, v) :: f) h rs Q) :
    EndsG E lo (⟨some d, .load n x, g, 0⟩ :: os) hs k f h rs Q := .go hw (i_load hx hl) rfl c
theorem EndsG.iaddr {esz : Nat} {x i : Operand} {a : Addr} {len cap : Nat} {kk : IntKind} {j : Nat} (hw : want g f = some true) (hx : ev f x = some (.slice (some a) len cap)) (hi : ev f i = some (.int kk (j : Nat))) (hj : j < len)
    (c : EndsG E lo os hs k ((d, .pointer (some ⟨a.block, a.off + j * esz, none⟩)) :: f) h rs Q) : EndsG E lo (⟨some d, .iaddr none esz x i, g, 0⟩ :: os) hs k f h rs Q := .go hw (i_iaddr hx hi hj) rfl c
theorem EndsG.call {m : Nat} {xs : List Operand} {vs : List Value} (hw : want g f = some true) (hx : evs f xs = some vs) (hc : callR E lo m vs h = some (v, h')) (c : EndsG E lo os (h :: hs) k ((d, v) :: f) h' rs Q) :
    EndsG E lo (⟨some d, .call m xs, g, 0⟩ :: os) hs k f h rs Q := .go hw (i_call hx hc) rfl c
theorem EndsG.callb {m : Nat} {xs : List Operand} {vs : List Value} {b : Bool} (hw : want g f = some true) (hx : evs f xs = some vs) (hc : callR E lo m vs h = some (.bool b, h'))
    (t : b = true → EndsG E lo os (h :: hs) k ((d, .bool true) :: f) h' rs Q) (n : b = false → EndsG E lo os (h :: hs) k ((d, .bool false) :: f) h' rs Q) :
    EndsG E lo (⟨some d, .call m xs, g, 0⟩ :: os) hs k f h rs Q := .bl hw (i_call hx hc) rfl t n
theorem EndsG.callv {m : Nat} {x : Operand} {fv : Value} {caps : List Value} {xs : List Operand} {vs : List Value} (hw : want g f = some true) (hf : ev f x = some fv) (hk : callee fv = some (m, caps)) (hx : evs f xs = some vs)
    (hc : callR E lo m (vs ++ caps) h = some (v, h')) (c : EndsG E lo os (h :: hs) k ((d, v) :: f) h' rs Q) :
    EndsG E lo (⟨some d, .callv x xs, g, 0⟩ :: os) hs k f h rs Q := .go hw (by simp only [iop, hf, hx, hk, hc]) rfl c
theorem EndsG.callvb {m : Nat} {x : Operand} {fv : Value} {caps : List Value} {xs : List Operand} {vs : List Value} {b : Bool} (hw : want g f = some true) (hf : ev f x = some fv) (hk : callee fv = some (m, caps)) (hx : evs f xs = some vs)
    (hc : callR E lo m (vs ++ caps) h = some (.bool b, h'))
    (t : b = true → EndsG E lo os (h :: hs) k ((d, .bool true) :: f) h' rs Q) (n : b = false → EndsG E lo os (h :: hs) k ((d, .bool false) :: f) h' rs Q) :
    EndsG E lo (⟨some d, .callv x xs, g, 0⟩ :: os) hs k f h rs Q := .bl hw (by simp only [iop, hf, hx, hk, hc]) rfl t n
theorem EndsG.app {esz bytes : Nat} {x y : Operand} {vx vy : Value} (hw : want g f = some true) (hx : ev f x = some vx) (hy : ev f y = some vy) (ha : iappend lo esz bytes h vx vy = some (v, h')) (c : EndsG E lo os (h :: hs) k ((d, v) :: f) h' rs Q) :
    EndsG E lo (⟨some d, .append esz bytes x y, g, 0⟩ :: os) hs k f h rs Q := .go hw (i_append hx hy ha) rfl c
theorem EndsG.store {n : Nat} {x y : Operand} {a : Addr} {u : Value} (hw : want g f = some true) (hx : ev f x = some (.pointer (some a))) (hy : ev f y = some u) (hl : (vcells u).length = n) (ho : (vcells u).all oneA = true) (hst : stN lo h a (vcells u) = some h')
    (c : EndsG E lo os (h :: hs) k f h' rs Q) : EndsG E lo (⟨none, .store n x y, g, 0⟩ :: os) hs k f h rs Q :=
  .gono (v := noneV) hw (by simp only [iop, hx, hy]; rw [if_pos ⟨hl, ho⟩, hst]) rfl c
theorem EndsG.mov {x : Operand} (hw : want g f = some true) (hx : ev f x = some v) (c : EndsG E lo os hs k ((d, v) :: f) h rs Q) :
    EndsG E lo (⟨some d, .mov x, g, 0⟩ :: os) hs k f h rs Q := .go hw (by simp only [iop, hx]) rfl c
theorem EndsG.lload {s n : Option Nat} {b off : Nat} {cs : Array Value} (hw : want g f = some true) (hs' : lchk f s = true) (hb : fget f b = some (.agg cs)) (hp : part n cs.toList off = some v) (c : EndsG E lo os hs k ((d, v) :: f) h rs Q) :
    EndsG E lo (⟨some d, .lload s b off n, g, 0⟩ :: os) hs k f h rs Q := .go hw (by simp only [iop, hs', hb, hp, if_true]) rfl c
theorem EndsG.laddr {s : Option Nat} {b off : Nat} {cs : Array Value} (hw : want g f = some true) (hs' : lchk f s = true) (hb : fget f b = some (.agg cs)) (c : EndsG E lo os hs k ((d, anyV) :: f) h rs Q) :
    EndsG E lo (⟨some d, .laddr s b off, g, 0⟩ :: os) hs k f h rs Q := .go hw (by simp only [iop, hs', hb, if_true]) rfl c
end
end Go.Ir
