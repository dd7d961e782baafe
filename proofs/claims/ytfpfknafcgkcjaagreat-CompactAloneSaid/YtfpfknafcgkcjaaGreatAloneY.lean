/- What the steps of a pass alone leave as it was. Plain. -/
import Derived.Test.YtfpfknafcgkcjaaGreatAloneW

set_option linter.unusedVariables false
set_option linter.unusedSimpArgs false
namespace Go.Proofs.YtfpfknafcgkcjaaGreat
open Go Go.Ir

def Tame (m : Mc) (r : Mc × Option Int) : Prop := r.1.low = m.low ∧ r.1.c = m.c ∧ r.1.next ≠ 11 ∧ (r.1.next = 10 → r.1.turn = some ⟨1, 0, 0⟩)

section
variable {m m' : Mc} {ws bs : List Int}
theorem tame_on {n : Int} (e1 : m'.low = m.low) (e2 : m'.c = m.c) (h0 : n ≠ 10) (h1 : n ≠ 11) : Tame m (onM m' n) := ⟨e1, e2, h1, fun h => absurd h h0⟩
theorem tame_end (e1 : m'.low = m.low) (e2 : m'.c = m.c) : Tame m (endM m') := ⟨e1, e2, by show (0 : Int) ≠ 11; omega, fun h => by have h : (0 : Int) = 10 := h; omega⟩
theorem tame_beh (e1 : m'.low = m.low) (e2 : m'.c = m.c) : Tame m (behM m') := by
 unfold behM
 split
 ·exact tame_on e1 e2 (by omega) (by omega)
 ·split
  ·exact tame_end e1 e2
  ·exact ⟨e1, e2, by show (10 : Int) ≠ 11; omega, fun _ => rfl⟩
theorem tame_scanned (e1 : m'.low = m.low) (e2 : m'.c = m.c) : Tame m (scannedM m') := by
 unfold scannedM
 split
 ·exact tame_on e1 e2 (by omega) (by omega)
 ·exact tame_beh e1 e2
theorem tame_scan : Tame m (scanM m ws) := by
 unfold scanM
 split
 ·split
  ·exact tame_on rfl rfl (by omega) (by omega)
  ·exact tame_scanned rfl rfl
 ·exact tame_scanned rfl rfl
theorem tame_measure : Tame m (measureM m ws) := by
 unfold measureM
 split
 ·exact tame_scanned rfl rfl
 ·exact tame_scanned rfl rfl
theorem tame_passed (e1 : m'.low = m.low) (e2 : m'.c = m.c) : Tame m (passedM m') := tame_beh e1 e2
theorem tame_look (o : Obj) : Tame m (lookM m ws o) := by
 unfold lookM
 split
 ·exact tame_passed rfl rfl
 ·split
  ·exact tame_passed rfl rfl
  ·split
   ·exact tame_passed rfl rfl
   ·exact tame_on rfl rfl (by omega) (by omega)

theorem step_tame (h : Al ws m) (h0 : m.next ≠ 0) (h9 : m.next ≤ 9) : Tame m (stepM m ws bs).1 ∧ ∀ i : Int, 0 ≤ i → i < 5 → getI (stepM m ws bs).2.1 i = getI ws i := by
 have hn := h.wf.next
 unfold stepM
 by_cases h1 : m.next = 1
 ·rw [if_pos h1]; exact ⟨tame_on rfl rfl (by omega) (by omega), fun _ _ _ => rfl⟩
 by_cases h2 : m.next = 2
 ·rw [if_neg h1, if_pos h2]
  refine ⟨?_, fun _ _ _ => rfl⟩
  show Tame m (if getI ws 2 ≠ 0 then endM m else onM m 3)
  split
  ·exact tame_end rfl rfl
  ·exact tame_on rfl rfl (by omega) (by omega)
 by_cases h3 : m.next = 3
 ·rw [if_neg h1, if_neg h2, if_pos h3]; exact ⟨tame_scan, fun _ _ _ => rfl⟩
 by_cases h4 : m.next = 4
 ·rw [if_neg h1, if_neg h2, if_neg h3, if_pos h4]; exact ⟨tame_measure, fun _ _ _ => rfl⟩
 by_cases h5 : m.next = 5
 ·rw [if_neg h1, if_neg h2, if_neg h3, if_neg h4, if_pos h5]; exact ⟨tame_look _, fun _ _ _ => rfl⟩
 by_cases h6 : m.next = 6
 ·rw [if_neg h1, if_neg h2, if_neg h3, if_neg h4, if_neg h5, if_pos h6]
  obtain ⟨hc, n0, n1, s0, s1⟩ := cur_size h (by omega) (by omega)
  have hsl := slotI_lt h.wf.may s0 s1 (k := 0) (by omega)
  unfold lockM
  split
  ·exact ⟨tame_on rfl rfl (by omega) (by omega), fun i _ _ => getI_ne (by omega)⟩
  ·exact ⟨tame_on rfl rfl (by omega) (by omega), fun _ _ _ => rfl⟩
 by_cases h7 : m.next = 7
 ·rw [if_neg h1, if_neg h2, if_neg h3, if_neg h4, if_neg h5, if_neg h6, if_pos h7]; exact ⟨tame_on rfl rfl (by omega) (by omega), fun _ _ _ => rfl⟩
 by_cases h8 : m.next = 8
 ·rw [if_neg h1, if_neg h2, if_neg h3, if_neg h4, if_neg h5, if_neg h6, if_neg h7, if_pos h8]
  refine ⟨?_, fun _ _ _ => rfl⟩
  show Tame m (layM m bs (curO m)).1
  unfold layM
  refine tame_on rfl rfl ?_ ?_
  ·split <;> omega
  ·split <;> omega
 ·have h9' : m.next = 9 := by omega
  rw [if_neg h1, if_neg h2, if_neg h3, if_neg h4, if_neg h5, if_neg h6, if_neg h7, if_neg h8, if_pos h9']
  obtain ⟨hc, n0, n1, s0, s1⟩ := cur_size h (by omega) (by omega)
  have hsl := slotI_lt h.wf.may s0 s1 (k := 0) (by omega)
  unfold storeM
  exact ⟨tame_passed rfl rfl, fun i _ _ => getI_ne (by omega)⟩
end

theorem run_fin {Inv : Mc → List Int → List Int → Prop} {Fin : Mc → List Int → List Int → Int → Prop}
  (h : ∀ m ws bs, Inv m ws bs → ((stepM m ws bs).1.2 = none → Inv (stepM m ws bs).1.1 (stepM m ws bs).2.1 (stepM m ws bs).2.2) ∧ ∀ n, (stepM m ws bs).1.2 = some n → Fin (stepM m ws bs).1.1 (stepM m ws bs).2.1 (stepM m ws bs).2.2 n) :
  ∀ k m ws bs n, Inv m ws bs → (runM k m ws bs).1 = some n → Fin (runM k m ws bs).2.2.1 (runM k m ws bs).2.2.2.1 (runM k m ws bs).2.2.2.2 n
 | 0, m, ws, bs, n, hi, hr => by rw [runM] at hr; cases hr
 | k + 1, m, ws, bs, n, hi, hr => by
   have g := h m ws bs hi
   rw [runM] at hr ⊢
   cases e : (stepM m ws bs).1.2 with
   | some j =>
     rw [e] at hr
     simp only at hr ⊢
     injection hr with hr
     subst hr
     exact g.2 _ e
   | none =>
     rw [e] at hr
     simp only at hr ⊢
     exact run_fin h k _ _ _ n (g.1 e) hr

structure Held (f : Int) (m : Mc) (ws bs : List Int) : Prop where
 al : Al ws m
 n0 : m.next ≠ 0
 n11 : m.next ≠ 11
 low : m.low = false
 front : getI ws 0 = f
 note : getI ws 4 = 1
 turn : m.next = 10 → ∃ t, m.turn = some t ∧ ((t.nx = 1 ∧ getI ws 3 = 0) ∨ (t.nx = 2 ∧ t.ep = 0) ∨ (t.nx = 3 ∧ t.ep = 0 ∧ t.ak = 0))
 ep : m.next ≠ 10 → getI ws 3 = 0

end Go.Proofs.YtfpfknafcgkcjaaGreat

