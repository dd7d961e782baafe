/- A pin set, or taken, step by step: by the program. -/
import Derived.Test.YtnfcohmbcgfhbaaGreatThreadP6
import Derived.Test.YtnfcohmbcgfhbaaGreatThreadP3
import Derived.Test.YtnfcohmbcgfhbaaGreatThreadP5
import Derived.Test.YtnfcohmbcgfhbaaGreatThreadP4
set_option linter.unusedVariables false
set_option linter.unusedSimpArgs false

namespace Go.Proofs.YtnfcohmbcgfhbaaGreat
open Go Go.Ir

structure Pn where
 h : Int
 un : Bool
 nx : Int
 word : Int
 to : Int
def qna (un : Bool) : Value := .func (.func (if un then Id.zaF else Id.zaC)) #[] #[]
def qnb (un : Bool) : Ent → Int × Ent := if un then qk3 else qk2
def qnc (c : Cfg) (s : Pn) : List Value :=
 [I c.T, I c.S, I (ofR s.h c.S).1, I (ofR s.h c.S).2.1, .bool (decide ((ofR s.h c.S).2.2 ≠ 0)), qna s.un, .bool (!s.un), I s.nx, I s.word, I s.to]
def qnd (s : Pn) (r : Int × Int) : Pn × Option (Int × Int) := if r.2 ≠ 0 then ({ s with nx := 0 }, some (r.2, 0)) else ({ s with to := r.1, nx := 2 }, none)
def qne (s : Pn) : Option Ent → Pn × Option (Int × Int)
 | none => ({ s with nx := 0 }, some (4, 0))
 | some e => if e.lk = true ∧ s.un = false then (s, none) else qnd s (chE s.word (qnb s.un))
def pnG (c : Cfg) (s : Pn) : Int := qjj c (ofR s.h c.S).1 0
def pnS (c : Cfg) (s : Pn) (ws : List Int) : Pn × List Int × Option (Int × Int) :=
 if s.nx = 0 then (s, ws, some (1, 0))
 else if s.nx = 1 then
  if (ofR s.h c.S).2.2 ≠ 0 then ({ s with nx := 0 }, ws, some (4, 0))
  else ((qne { s with word := qiR ws (pnG c s) } (qmt ws c (ofR s.h c.S).1 (ofR s.h c.S).2.1)).1, ws, (qne { s with word := qiR ws (pnG c s) } (qmt ws c (ofR s.h c.S).1 (ofR s.h c.S).2.1)).2)
 else if qi3 ws (pnG c s) s.word then ({ s with nx := 0 }, qiS ws (pnG c s) s.to, some (0, 0)) else ({ s with nx := 1 }, ws, none)

section
variable {lo : Nat} {H : qab} {b : Nat} {c : Cfg} {s : Pn} {cb : CB} {ws bs : List Int}
theorem qnf (lo : Nat) (h : qab) (un : Bool) (w : Int) : qfV En lo (if un then Id.zaF else Id.zaC) [I w] h = some (qk5 (chE w (qnb un)), h) := by
 cases un with
 | true => exact qlc lo h w
 | false => exact qlb lo h w
theorem qng (d : Did H H b (qnc c s) cb ws bs) (hlo : lo ≤ b) (k : Int) : qfV En lo Id.zbI [qkb b, I k] H = some (qmr (some (k, 0)), H.set b (.row (qnc c { s with nx := 0 }) false)) := by
 refine qgx rfl Fn.zbI rfl rfl ?_
 repeat' first | refine .A ?_ | refine .B ?_ | refine .J ?_ | refine .S (qip d.row hlo (Nat.le_of_ble_eq_true rfl) rfl) ?_ | refine .F ?_ | refine .Y ?_ | fail
 rfl
set_option maxHeartbeats 3200000 in
theorem qnh (d : Did H H b (qnc c s) cb ws bs) (hm : c.may) (hlo : lo ≤ b) (hlc : lo ≤ cb.P) (hb : b ≠ cb.P ∧ b ≠ cb.W ∧ b ≠ cb.Y) (h1 : s.nx = 1) :
  ∃ H', qfV En lo Id.zbJ [qkb b, ifC cb] H = some (qmr (pnS c s ws).2.2, H') ∧ Did H H' b (qnc c (pnS c s ws).1) cb ws bs := by
 have l4 : qav H none ⟨b, 0 + 4, none⟩ = some (.bool (decide ((ofR s.h c.S).2.2 ≠ 0))) := qin d.row rfl
 unfold pnS
 rw [if_neg (by omega), if_pos h1]
 by_cases hst : (ofR s.h c.S).2.2 ≠ 0
 ·rw [if_pos hst]
  rw [decide_eq_true hst] at l4
  have hE := fun lo hl k => qng (lo := lo) d hl k
  refine ⟨_, ?_, d.set hb⟩
  refine qgx rfl Fn.zbJ rfl rfl ?_
  repeat' first | refine .A ?_ | refine .B ?_ | refine .C ?_ | refine .J ?_ | refine .L l4 ?_ | refine .P (hE _ hlo _) ?_ | refine .F ?_ | refine .Y ?_ | fail
  rfl
 rw [if_neg hst]
 rw [decide_eq_false hst] at l4
 have hEn := fun lo => qjm lo H hm (ofR s.h c.S).1
 obtain ⟨H1, hL, hC1, ho1⟩ := qi1 d.cells hlc (pnG c s)
 have d1 := d.on hC1 ho1 (by simp) hb
 unfold qmt
 rw [show qjj c (ofR s.h c.S).1 0 = pnG c s from rfl]
 unfold pnG at hL ⊢
 generalize qiR ws (qjj c (ofR s.h c.S).1 0) = w at hL ⊢
 have d2 := d1.set (row' := qnc c { s with word := w }) hb
 have s2 : stN lo H1 ⟨b, 0 + 8, none⟩ (qaf (I w)) = some (H1.set b (.row (qnc c { s with word := w }) false)) := qip d1.row hlo (Nat.le_of_ble_eq_true rfl) rfl
 generalize H1.set b (.row (qnc c { s with word := w }) false) = H2 at d2 s2
 have k8 : qav H2 none ⟨b, 0 + 8, none⟩ = some (I w) := qin d2.row rfl
 have k3 : qav H2 none ⟨b, 0 + 3, none⟩ = some (I (ofR s.h c.S).2.1) := qin d2.row rfl
 have k5 : qav H2 none ⟨b, 0 + 5, none⟩ = some (qna s.un) := qin d2.row rfl
 have k6 : qav H2 none ⟨b, 0 + 6, none⟩ = some (.bool (!s.un)) := qin d2.row rfl
 unfold qna at k5
 have hU := fun lo => qj5 lo H2 w
 have hT := fun lo => qnf lo H2 s.un w
 have hE := fun lo hl k => qng (lo := lo) (Did.of d2.row d2.cells) hl k
 cases hu : qjX w with
 | none =>
   rw [hu] at hU
   simp only [unV, Ent.zero, Ent.cs] at hU
   refine ⟨_, ?_, d2.set hb⟩
   refine qgx rfl Fn.zbJ rfl rfl ?_
   repeat' first | refine .A ?_ | refine .B ?_ | refine .C ?_ | refine .D ?_ | refine .F ?_ | refine .G ?_ | refine .J ?_ | refine .t6 ?_ | refine .L l4 ?_ | refine .L k8 ?_ | refine .L (qin d.row rfl) ?_ | refine .L (qio d.row (Nat.le_of_ble_eq_true rfl) rfl) ?_ | refine .P (hEn _) ?_ | refine .P (hU _) ?_ | refine .P (hE _ hlo _) ?_ | refine .W hL ?_ | refine .S s2 ?_ | refine .Y ?_ | fail
   rfl
 | some e =>
   rw [hu] at hU
   obtain ⟨o, g, p, u, lk, lv⟩ := e
   simp only [unV, Ent.cs] at hU
   by_cases hf : lv = true ∧ g = (ofR s.h c.S).2.1
   ·have e1 : qms (ofR s.h c.S).2.1 (some ⟨o, g, p, u, lk, lv⟩) = some ⟨o, g, p, u, lk, lv⟩ := if_pos hf
    rw [e1]
    simp only [qne]
    have hlv := hf.1
    have hg := hf.2
    subst hlv
    by_cases hlk : lk = true ∧ s.un = false
    ·rw [if_pos hlk]
     have h2 := hlk.1
     subst h2
     rw [hlk.2] at k6
     refine ⟨_, ?_, d2⟩
     refine qgx rfl Fn.zbJ rfl rfl ?_
     repeat' first | refine .A ?_ | refine .B ?_ | refine .C ?_ | refine .D ?_ | refine .F ?_ | refine .G ?_ | refine .J ?_ | refine .f6 ?_ | (show EG _ _ (⟨_, .load _ _, _, _⟩ :: _) _ _ _ _ _ _; first | refine .L l4 ?_ | refine .L k8 ?_ | refine .L k3 ?_ | refine .L k6 ?_ | refine .L (qin d.row rfl) ?_ | refine .L (qio d.row (Nat.le_of_ble_eq_true rfl) rfl) ?_) | refine .P (hEn _) ?_ | refine .P (hU _) ?_ | refine .W hL ?_ | refine .S s2 ?_ | refine .Y ?_ | fail
     rfl
    ·rw [if_neg hlk]
     unfold qk5 at hT
     generalize hr : chE w (qnb s.un) = r at hT ⊢
     obtain ⟨to, f⟩ := r
     simp only at hT
     have hlk2 : lk = false ∨ (!s.un) = false := by
      cases lk with
      | false => exact .inl rfl
      | true => cases hun : s.un with
        | true => exact .inr rfl
        | false => exact absurd ⟨rfl, hun⟩ hlk
     by_cases hf0 : f ≠ 0
     ·have e2 : qnd { s with word := w } (to, f) = ({ s with word := w, nx := 0 }, some (f, 0)) := if_pos hf0
      rw [e2]
      refine ⟨_, ?_, d2.set hb⟩
      refine qgx rfl Fn.zbJ rfl rfl ?_
      rcases hlk2 with h2 | h2
      ·subst h2
       repeat' first | refine .A ?_ | refine .B ?_ | refine .C ?_ | refine .D ?_ | refine .F ?_ | refine .G ?_ | refine .H ?_ | refine .J ?_ | refine .t6 ?_ | refine .f6 ?_ | (show EG _ _ (⟨_, .load _ _, _, _⟩ :: _) _ _ _ _ _ _; first | refine .L l4 ?_ | refine .L k8 ?_ | refine .L k3 ?_ | refine .L k5 ?_ | refine .L (qin d.row rfl) ?_ | refine .L (qio d.row (Nat.le_of_ble_eq_true rfl) rfl) ?_) | refine .P (hEn _) ?_ | refine .P (hU _) ?_ | refine .P (hE _ hlo _) ?_ | refine .callv rfl rfl rfl rfl (hT _) ?_ | refine .W hL ?_ | refine .S s2 ?_ | refine .Y ?_ | fail
       rfl
      ·rw [h2] at k6
       cases lk
       all_goals
        repeat' first | refine .A ?_ | refine .B ?_ | refine .C ?_ | refine .D ?_ | refine .F ?_ | refine .G ?_ | refine .H ?_ | refine .J ?_ | refine .t6 ?_ | refine .f6 ?_ | (show EG _ _ (⟨_, .load _ _, _, _⟩ :: _) _ _ _ _ _ _; first | refine .L l4 ?_ | refine .L k8 ?_ | refine .L k3 ?_ | refine .L k5 ?_ | refine .L k6 ?_ | refine .L (qin d.row rfl) ?_ | refine .L (qio d.row (Nat.le_of_ble_eq_true rfl) rfl) ?_) | refine .P (hEn _) ?_ | refine .P (hU _) ?_ | refine .P (hE _ hlo _) ?_ | refine .callv rfl rfl rfl rfl (hT _) ?_ | refine .W hL ?_ | refine .S s2 ?_ | refine .Y ?_ | fail
        rfl
     ·have e2 : qnd { s with word := w } (to, f) = ({ s with word := w, to := to, nx := 2 }, none) := if_neg hf0
      rw [e2]
      have e3 : f = 0 := Decidable.not_not.1 hf0
      refine ⟨_, ?_, d2.set hb⟩
      refine qgx rfl Fn.zbJ rfl rfl ?_
      rcases hlk2 with h2 | h2
      ·subst h2
       repeat' first | refine .A ?_ | refine .B ?_ | refine .D ?_ | refine .F ?_ | refine .G ?_ | refine .H ?_ | refine .J ?_ | refine .C ?_ | refine .f6 ?_ | (show EG _ _ (⟨_, .load _ _, _, _⟩ :: _) _ _ _ _ _ _; first | refine .L l4 ?_ | refine .L k8 ?_ | refine .L k3 ?_ | refine .L k5 ?_ | refine .L (qin d.row rfl) ?_ | refine .L (qio d.row (Nat.le_of_ble_eq_true rfl) rfl) ?_) | refine .P (hEn _) ?_ | refine .P (hU _) ?_ | refine .callv rfl rfl rfl rfl (hT _) ?_ | refine .W hL ?_ | refine .S (qip d2.row hlo (Nat.le_of_ble_eq_true rfl) rfl) ?_ | refine .S (qmM (qim d2.row) hlo (Nat.le_of_ble_eq_true rfl) rfl) ?_ | refine .S s2 ?_ | refine .Y ?_ | fail
       rfl
      ·rw [h2] at k6
       cases lk
       all_goals
        repeat' first | refine .A ?_ | refine .B ?_ | refine .D ?_ | refine .F ?_ | refine .G ?_ | refine .H ?_ | refine .J ?_ | refine .C ?_ | refine .f6 ?_ | (show EG _ _ (⟨_, .load _ _, _, _⟩ :: _) _ _ _ _ _ _; first | refine .L l4 ?_ | refine .L k8 ?_ | refine .L k3 ?_ | refine .L k5 ?_ | refine .L k6 ?_ | refine .L (qin d.row rfl) ?_ | refine .L (qio d.row (Nat.le_of_ble_eq_true rfl) rfl) ?_) | refine .P (hEn _) ?_ | refine .P (hU _) ?_ | refine .callv rfl rfl rfl rfl (hT _) ?_ | refine .W hL ?_ | refine .S (qip d2.row hlo (Nat.le_of_ble_eq_true rfl) rfl) ?_ | refine .S (qmM (qim d2.row) hlo (Nat.le_of_ble_eq_true rfl) rfl) ?_ | refine .S s2 ?_ | refine .Y ?_ | fail
        rfl
   ·have e1 : qms (ofR s.h c.S).2.1 (some ⟨o, g, p, u, lk, lv⟩) = none := if_neg hf
    rw [e1]
    refine ⟨_, ?_, d2.set hb⟩
    refine qgx rfl Fn.zbJ rfl rfl ?_
    cases lv with
    | false =>
      repeat' first | refine .A ?_ | refine .B ?_ | refine .C ?_ | refine .D ?_ | refine .F ?_ | refine .G ?_ | refine .J ?_ | refine .f6 ?_ | refine .L l4 ?_ | refine .L k8 ?_ | refine .L (qin d.row rfl) ?_ | refine .L (qio d.row (Nat.le_of_ble_eq_true rfl) rfl) ?_ | refine .P (hEn _) ?_ | refine .P (hU _) ?_ | refine .P (hE _ hlo _) ?_ | refine .W hL ?_ | refine .S s2 ?_ | refine .Y ?_ | fail
      rfl
    | true =>
      have hg : ¬ g = (ofR s.h c.S).2.1 := fun h => hf ⟨rfl, h⟩
      repeat' first | refine .A ?_ | refine .B ?_ | refine .C ?_ | refine .D ?_ | refine .F ?_ | refine .G ?_ | refine .J ?_ | refine .t6 ?_ | refine .f6 ?_ | (show EG _ _ (⟨_, .load _ _, _, _⟩ :: _) _ _ _ _ _ _; first | refine .L l4 ?_ | refine .L k8 ?_ | refine .L k3 ?_ | refine .L (qin d.row rfl) ?_ | refine .L (qio d.row (Nat.le_of_ble_eq_true rfl) rfl) ?_) | refine .P (hEn _) ?_ | refine .P (hU _) ?_ | refine .P (hE _ hlo _) ?_ | refine .W hL ?_ | refine .S s2 ?_ | refine .Y ?_ | fail
      rfl

set_option maxHeartbeats 1600000 in
theorem qni (hr : H[b]? = some (.row (qnc c s) false)) (hC : IsC H cb ws bs) (hb : b ≠ cb.P ∧ b ≠ cb.W ∧ b ≠ cb.Y) (hm : c.may) (hlo : lo ≤ b) (hlc : lo ≤ cb.P ∧ lo ≤ cb.W) :
  ∃ H', qfV En lo Id.zbH [qkb b, ifC cb] H = some (qmr (pnS c s ws).2.2, H') ∧ Did H H' b (qnc c (pnS c s ws).1) cb (pnS c s ws).2.1 bs := by
 have d := Did.of hr hC
 have l7 : qav H none ⟨b, 0 + 7, none⟩ = some (I s.nx) := qin hr rfl
 by_cases h1 : s.nx = 1
 ·obtain ⟨H1, hL, d1⟩ := qnh (lo := lo) d hm hlo hlc.1 hb h1
  have hws : (pnS c s ws).2.1 = ws := by
   unfold pnS
   rw [if_neg (by omega), if_pos h1]
   split <;> rfl
  rw [hws]
  generalize pnS c s ws = r at hL d1 ⊢
  obtain ⟨s', w', o⟩ := r
  refine ⟨H1, ?_, d1⟩
  cases o with
  | none =>
    simp only [qmr] at hL ⊢
    refine qgx rfl Fn.zbH rfl rfl ?_
    repeat' first | refine .A ?_ | refine .B ?_ | refine .C ?_ | refine .D ?_ | refine .F ?_ | refine .J ?_ | refine .t5 ?_ | refine .f5 ?_ | refine .L l7 ?_ | refine .P hL ?_ | refine .Y ?_ | fail
    rfl
  | some q =>
    simp only [qmr] at hL ⊢
    refine qgx rfl Fn.zbH rfl rfl ?_
    repeat' first | refine .A ?_ | refine .B ?_ | refine .C ?_ | refine .D ?_ | refine .F ?_ | refine .J ?_ | refine .t5 ?_ | refine .f5 ?_ | refine .L l7 ?_ | refine .P hL ?_ | refine .Y ?_ | fail
    rfl
 unfold pnS
 by_cases h0 : s.nx = 0
 ·rw [if_pos h0]
  refine ⟨H, ?_, d⟩
  refine qgx rfl Fn.zbH rfl rfl ?_
  repeat' first | refine .A ?_ | refine .B ?_ | refine .C ?_ | refine .J ?_ | refine .t5 ?_ | refine .L l7 ?_ | refine .F ?_ | refine .Y ?_ | fail
  rfl
 rw [if_neg h0, if_neg h1]
 have hEn := fun lo => qjm lo H hm (ofR s.h c.S).1
 obtain ⟨H1, hL, hC1, ho1⟩ := qi4 hC hlc.1 hlc.2 (pnG c s) s.word s.to
 have d1 := d.on hC1 ho1 (by simp) hb
 have l8 : qav H none ⟨b, 0 + 8, none⟩ = some (I s.word) := qin hr rfl
 have l9 : qav H none ⟨b, 0 + 9, none⟩ = some (I s.to) := qin hr rfl
 have hE := fun lo hl k => qng (lo := lo) (Did.of d1.row d1.cells) hl k
 unfold pnG at hL d1 ⊢
 cases hcb : qi3 ws (qjj c (ofR s.h c.S).1 0) s.word with
 | true =>
   rw [hcb] at hL d1
   refine ⟨_, ?_, d1.set hb⟩
   refine qgx rfl Fn.zbH rfl rfl ?_
   repeat' first | refine .A ?_ | refine .B ?_ | refine .C ?_ | refine .D ?_ | refine .F ?_ | refine .J ?_ | refine .f5 ?_ | refine .L l7 ?_ | refine .L (qin d.row rfl) ?_ | refine .L (qio d.row (Nat.le_of_ble_eq_true rfl) rfl) ?_ | refine .X (qin d.row rfl) (qis (qin d.row rfl)) (qkd _) ?_ | refine .P (hEn _) ?_ | refine .P (hE _ hlo _) ?_ | refine .W hL ?_ | refine .Y ?_ | fail
   rfl
 | false =>
   rw [hcb] at hL d1
   refine ⟨_, ?_, d1.set hb⟩
   refine qgx rfl Fn.zbH rfl rfl ?_
   repeat' first | refine .A ?_ | refine .B ?_ | refine .D ?_ | refine .F ?_ | refine .J ?_ | refine .f5 ?_ | refine .L l7 ?_ | refine .L (qin d.row rfl) ?_ | refine .L (qio d.row (Nat.le_of_ble_eq_true rfl) rfl) ?_ | refine .X (qin d.row rfl) (qis (qin d.row rfl)) (qkd _) ?_ | refine .P (hEn _) ?_ | refine .W hL ?_ | refine .S (qip d1.row hlo (Nat.le_of_ble_eq_true rfl) rfl) ?_ | refine .Y ?_ | fail
   rfl
end
end Go.Proofs.YtnfcohmbcgfhbaaGreat

/- A pin set, or taken, step by step: by the document. -/
namespace Go.Proofs.YtnfcohmbcgfhbaaGreat
open Go Go.Ir

def qnj (c : Cfg) (s : Pn) : List Value := [I c.A, I c.S, I c.T, I s.h, .bool s.un, I s.nx, I s.word, I s.to]
structure PnI (c : Cfg) (s : Pn) : Prop where
 st : s.nx ≠ 0 → s.nx ≠ 1 → (ofR s.h c.S).2.2 = 0

section
variable {lo : Nat} {H : qab} {b : Nat} {c : Cfg} {s : Pn} {cb : CB} {ws bs : List Int}
theorem qnk (d : DidR H H b (qnj c s) cb ws bs) (hlo : lo ≤ b) (k : Int) : qfV En lo Id.zde [qkb b, I k] H = some (qmr (some (k, 0)), H.set b (.row (qnj c { s with nx := 0 }) false)) := by
 refine qgx rfl Fn.zde rfl rfl ?_
 repeat' first | refine .A ?_ | refine .B ?_ | refine .J ?_ | refine .S (qip d.row hlo (Nat.le_of_ble_eq_true rfl) rfl) ?_ | refine .F ?_ | refine .Y ?_ | fail
 rfl
set_option maxHeartbeats 3200000 in
theorem qnl (d : DidR H H b (qnj c s) cb ws bs) (hb : b ≠ cb.P ∧ b ≠ cb.W ∧ b ≠ cb.Y) (hlo : lo ≤ b) (hlc : lo ≤ cb.P) (at0 g : Int) :
  ∃ H', qfV En lo Id.zdf [qkb b, qiX cb, I at0, I g] H = some (qmr (qne { s with word := qiR ws at0 } (qms g (qjX (qiR ws at0)))).2, H') ∧
   DidR H H' b (qnj c (qne { s with word := qiR ws at0 } (qms g (qjX (qiR ws at0)))).1) cb ws bs := by
 obtain ⟨H1, hL, hC1, ho1⟩ := qlq d.cells hlc at0
 have d1 := d.on hC1 ho1 (by simp) hb
 generalize qiR ws at0 = w at hL ⊢
 have d2 := d1.put (row' := qnj c { s with word := w }) hb
 have s2 : stN lo H1 ⟨b, 0 + 6, none⟩ (qaf (I w)) = some (H1.set b (.row (qnj c { s with word := w }) false)) := qip d1.row hlo (Nat.le_of_ble_eq_true rfl) rfl
 generalize H1.set b (.row (qnj c { s with word := w }) false) = H2 at d2 s2
 have k6 : qav H2 none ⟨b, 0 + 6, none⟩ = some (I w) := qin d2.row rfl
 have k4 : qav H2 none ⟨b, 0 + 4, none⟩ = some (.bool s.un) := qin d2.row rfl
 have hF := fun lo => qmE lo H2 w g
 have hP := fun lo => qmc lo H2 w
 have hUn := fun lo => qmd lo H2 w
 unfold qk5 at hP hUn
 have hE := fun lo hl k => qnk (lo := lo) (DidR.of d2.row d2.cells) hl k
 cases hf : qms g (qjX w) with
 | none =>
   obtain ⟨e1, he1⟩ := qmA hf
   rw [he1] at hF
   simp only [Ent.cs] at hF
   refine ⟨_, ?_, d2.put hb⟩
   refine qgx rfl Fn.zdf rfl rfl ?_
   repeat' first | refine .A ?_ | refine .B ?_ | refine .C ?_ | refine .J ?_ | refine .L k6 ?_ | refine .P hL ?_ | refine .P (hF _) ?_ | refine .P (hE _ hlo _) ?_ | refine .S s2 ?_ | refine .F ?_ | refine .Y ?_ | fail
   rfl
 | some e1 =>
   rw [qmB hf] at hF
   obtain ⟨o, g', p, u, lk, lv⟩ := e1
   simp only [Ent.cs] at hF
   simp only [qne]
   by_cases hlk : lk = true ∧ s.un = false
   ·rw [if_pos hlk]
    have h2 := hlk.1
    subst h2
    rw [hlk.2] at k4
    refine ⟨_, ?_, d2⟩
    refine qgx rfl Fn.zdf rfl rfl ?_
    repeat' first | refine .A ?_ | refine .B ?_ | refine .C ?_ | refine .D ?_ | refine .F ?_ | refine .J ?_ | refine .L k6 ?_ | refine .L k4 ?_ | refine .P hL ?_ | refine .P (hF _) ?_ | refine .S s2 ?_ | refine .Y ?_ | fail
    rfl
   ·rw [if_neg hlk]
    rcases Bool.eq_false_or_eq_true s.un with hun | hun
    ·rw [hun] at k4
     rw [show qnb s.un = qk3 by rw [hun]; rfl]
     generalize chE w qk3 = r at hUn ⊢
     obtain ⟨to, f⟩ := r
     simp only at hUn
     by_cases hf0 : f ≠ 0
     ·rw [show qnd { s with word := w } (to, f) = ({ s with word := w, nx := 0 }, some (f, 0)) from if_pos hf0]
      refine ⟨_, ?_, d2.put hb⟩
      refine qgx rfl Fn.zdf rfl rfl ?_
      cases lk
      all_goals
       repeat' first | refine .A ?_ | refine .B ?_ | refine .C ?_ | refine .D ?_ | refine .F ?_ | refine .J ?_ | refine .t6 ?_ | refine .L k6 ?_ | refine .L k4 ?_ | (show EG _ _ (⟨_, .call _ _, _, _⟩ :: _) _ _ _ _ _ _; first | refine .P hL ?_ | refine .P (hF _) ?_ | refine .P (hP _) ?_ | refine .P (hUn _) ?_ | refine .P (hE _ hlo _) ?_) | refine .S s2 ?_ | refine .Y ?_ | fail
       rfl
     ·rw [show qnd { s with word := w } (to, f) = ({ s with word := w, to := to, nx := 2 }, none) from if_neg hf0]
      refine ⟨_, ?_, d2.put hb⟩
      refine qgx rfl Fn.zdf rfl rfl ?_
      cases lk
      all_goals
       repeat' first | refine .A ?_ | refine .B ?_ | refine .C ?_ | refine .D ?_ | refine .F ?_ | refine .J ?_ | refine .f6 ?_ | refine .L k6 ?_ | refine .L k4 ?_ | refine .P hL ?_ | refine .P (hF _) ?_ | refine .P (hP _) ?_ | refine .P (hUn _) ?_ | refine .S (qip d2.row hlo (Nat.le_of_ble_eq_true rfl) rfl) ?_ | refine .S (qmM (qim d2.row) hlo (Nat.le_of_ble_eq_true rfl) rfl) ?_ | refine .S s2 ?_ | refine .Y ?_ | fail
       rfl
    ·rw [hun] at k4
     have h2 : lk = false := by cases lk; rfl; exact absurd ⟨rfl, hun⟩ hlk
     subst h2
     rw [show qnb s.un = qk2 by rw [hun]; rfl]
     generalize chE w qk2 = r at hP ⊢
     obtain ⟨to, f⟩ := r
     simp only at hP
     by_cases hf0 : f ≠ 0
     ·rw [show qnd { s with word := w } (to, f) = ({ s with word := w, nx := 0 }, some (f, 0)) from if_pos hf0]
      refine ⟨_, ?_, d2.put hb⟩
      refine qgx rfl Fn.zdf rfl rfl ?_
      repeat' first | refine .A ?_ | refine .B ?_ | refine .C ?_ | refine .D ?_ | refine .F ?_ | refine .J ?_ | refine .t6 ?_ | refine .L k6 ?_ | refine .L k4 ?_ | refine .P hL ?_ | refine .P (hF _) ?_ | refine .P (hP _) ?_ | refine .P (hE _ hlo _) ?_ | refine .S s2 ?_ | refine .Y ?_ | fail
      rfl
     ·rw [show qnd { s with word := w } (to, f) = ({ s with word := w, to := to, nx := 2 }, none) from if_neg hf0]
      refine ⟨_, ?_, d2.put hb⟩
      refine qgx rfl Fn.zdf rfl rfl ?_
      repeat' first | refine .A ?_ | refine .B ?_ | refine .D ?_ | refine .F ?_ | refine .J ?_ | refine .C ?_ | refine .f6 ?_ | refine .L k6 ?_ | refine .L k4 ?_ | refine .P hL ?_ | refine .P (hF _) ?_ | refine .P (hP _) ?_ | refine .S (qip d2.row hlo (Nat.le_of_ble_eq_true rfl) rfl) ?_ | refine .S (qmM (qim d2.row) hlo (Nat.le_of_ble_eq_true rfl) rfl) ?_ | refine .S s2 ?_ | refine .Y ?_ | fail
      rfl

theorem qnm (s : Pn) (o : Option Ent) : (qne s o).1.h = s.h := by
 unfold qne
 cases o with
 | none => rfl
 | some e =>
   simp only
   split
   ·rfl
   ·unfold qnd; split <;> rfl

set_option maxHeartbeats 1600000 in
theorem qnn (hr : H[b]? = some (.row (qnj c s) false)) (hI : PnI c s) (hC : IsR H cb ws bs) (hb : b ≠ cb.P ∧ b ≠ cb.W ∧ b ≠ cb.Y) (hm : c.may) (hh : -9223372036854775808 ≤ s.h ∧ s.h < 9223372036854775808) (hlo : lo ≤ b) (hlc : lo ≤ cb.P ∧ lo ≤ cb.W) :
  ∃ H', qfV En lo Id.zdd [qkb b, qiX cb] H = some (qmr (pnS c s ws).2.2, H') ∧ DidR H H' b (qnj c (pnS c s ws).1) cb (pnS c s ws).2.1 bs ∧ PnI c (pnS c s ws).1 := by
 have d := DidR.of hr hC
 have l5 : qav H none ⟨b, 0 + 5, none⟩ = some (I s.nx) := qin hr rfl
 have l01 : qav H none ⟨b, 0 + 0 + 1, none⟩ = some (I c.S) := qin hr rfl
 have hOf := fun lo => ql5 lo H hh c.S
 unfold ofV at hOf
 have hA : ∀ lo, qfV En lo Id.zcv [.agg #[I c.A, I c.S, I c.T], I 5, I (ofR s.h c.S).1] H = some (I (pnG c s), H) := fun lo => qlw lo H hm _ (j := 0) (by omega)
 have hE0 := fun lo hl k => qnk (lo := lo) d hl k
 unfold pnS
 by_cases h0 : s.nx = 0
 ·rw [if_pos h0]
  refine ⟨H, ?_, d, hI⟩
  refine qgx rfl Fn.zdd rfl rfl ?_
  repeat' first | refine .A ?_ | refine .B ?_ | refine .C ?_ | refine .J ?_ | refine .t5 ?_ | refine .L l5 ?_ | refine .F ?_ | refine .Y ?_ | fail
  rfl
 rw [if_neg h0]
 by_cases hst : (ofR s.h c.S).2.2 ≠ 0
 ·have h1 : s.nx = 1 := by
   by_cases h : s.nx = 1
   ·exact h
   ·exact absurd (hI.st h0 h) hst
  rw [if_pos h1, if_pos hst]
  refine ⟨_, ?_, d.put hb, ⟨fun h => by simp at h⟩⟩
  refine qgx rfl Fn.zdd rfl rfl ?_
  repeat' first | refine .A ?_ | refine .B ?_ | refine .C ?_ | refine .D ?_ | refine .F ?_ | refine .J ?_ | refine .f5 ?_ | refine .t6 ?_ | refine .L l5 ?_ | refine .L l01 ?_ | refine .L (qin d.row rfl) ?_ | refine .P (hOf _) ?_ | refine .P (hE0 _ hlo _) ?_ | refine .Y ?_ | fail
  rfl
 have hst0 : (ofR s.h c.S).2.2 = 0 := Decidable.not_not.1 hst
 by_cases h1 : s.nx = 1
 ·rw [if_pos h1, if_neg hst]
  obtain ⟨H1, hF, d1⟩ := qnl (lo := lo) d hb hlo hlc.1 (pnG c s) (ofR s.h c.S).2.1
  have hF : qfV En lo Id.zdf [qkb b, qiX cb, I (pnG c s), I (ofR s.h c.S).2.1] H = some (qmr (qne { s with word := qiR ws (pnG c s) } (qmt ws c (ofR s.h c.S).1 (ofR s.h c.S).2.1)).2, H1) := hF
  have d1 : DidR H H1 b (qnj c (qne { s with word := qiR ws (pnG c s) } (qmt ws c (ofR s.h c.S).1 (ofR s.h c.S).2.1)).1) cb ws bs := d1
  have hh1 := qnm { s with word := qiR ws (pnG c s) } (qmt ws c (ofR s.h c.S).1 (ofR s.h c.S).2.1)
  refine ⟨H1, ?_, d1, ⟨fun _ _ => by rw [hh1]; exact hst0⟩⟩
  generalize qne { s with word := qiR ws (pnG c s) } (qmt ws c (ofR s.h c.S).1 (ofR s.h c.S).2.1) = r at hF ⊢
  obtain ⟨s', o⟩ := r
  cases o with
  | none =>
    simp only [qmr] at hF ⊢
    refine qgx rfl Fn.zdd rfl rfl ?_
    repeat' first | refine .A ?_ | refine .B ?_ | refine .C ?_ | refine .D ?_ | refine .F ?_ | refine .J ?_ | refine .t5 ?_ | refine .f5 ?_ | refine .f6 ?_ | refine .L l5 ?_ | refine .L l01 ?_ | refine .L (qin d.row rfl) ?_ | refine .L (qio d.row (Nat.le_of_ble_eq_true rfl) rfl) ?_ | refine .P (hOf _) ?_ | refine .P (hA _) ?_ | refine .P hF ?_ | refine .Y ?_ | fail
    rfl
  | some q =>
    simp only [qmr] at hF ⊢
    refine qgx rfl Fn.zdd rfl rfl ?_
    repeat' first | refine .A ?_ | refine .B ?_ | refine .C ?_ | refine .D ?_ | refine .F ?_ | refine .J ?_ | refine .t5 ?_ | refine .f5 ?_ | refine .f6 ?_ | refine .L l5 ?_ | refine .L l01 ?_ | refine .L (qin d.row rfl) ?_ | refine .L (qio d.row (Nat.le_of_ble_eq_true rfl) rfl) ?_ | refine .P (hOf _) ?_ | refine .P (hA _) ?_ | refine .P hF ?_ | refine .Y ?_ | fail
    rfl
 rw [if_neg h1]
 obtain ⟨H1, hL, hC1, ho1⟩ := qlt hC hlc.1 hlc.2 (pnG c s) s.word s.to
 have d1 := d.on hC1 ho1 (by simp) hb
 have hE := fun lo hl k => qnk (lo := lo) (DidR.of d1.row d1.cells) hl k
 cases hcb : qi3 ws (pnG c s) s.word with
 | true =>
   rw [hcb] at hL d1
   refine ⟨_, ?_, d1.put hb, ⟨fun h => by simp at h⟩⟩
   refine qgx rfl Fn.zdd rfl rfl ?_
   repeat' first | refine .A ?_ | refine .B ?_ | refine .C ?_ | refine .D ?_ | refine .F ?_ | refine .J ?_ | refine .f5 ?_ | refine .f6 ?_ | refine .L l5 ?_ | refine .L l01 ?_ | refine .L (qin d.row rfl) ?_ | refine .L (qio d.row (Nat.le_of_ble_eq_true rfl) rfl) ?_ | refine .P (hOf _) ?_ | refine .P (hA _) ?_ | refine .P hL ?_ | refine .P (hE _ hlo _) ?_ | refine .Y ?_ | fail
   rfl
 | false =>
   rw [hcb] at hL d1
   refine ⟨_, ?_, d1.put hb, ⟨fun _ h => by simp at h⟩⟩
   refine qgx rfl Fn.zdd rfl rfl ?_
   repeat' first | refine .A ?_ | refine .B ?_ | refine .D ?_ | refine .F ?_ | refine .J ?_ | refine .f5 ?_ | refine .f6 ?_ | refine .L l5 ?_ | refine .L l01 ?_ | refine .L (qin d.row rfl) ?_ | refine .L (qio d.row (Nat.le_of_ble_eq_true rfl) rfl) ?_ | refine .P (hOf _) ?_ | refine .P (hA _) ?_ | refine .P hL ?_ | refine .S (qip d1.row hlo (Nat.le_of_ble_eq_true rfl) rfl) ?_ | refine .Y ?_ | fail
   rfl
end
end Go.Proofs.YtnfcohmbcgfhbaaGreat

/- An object freed, step by step: by the program. -/
namespace Go.Proofs.YtnfcohmbcgfhbaaGreat
open Go Go.Ir

def qno (own : List Nat) (cb : CB) : List Nat := own ++ [cb.P, cb.W, cb.Y]
def Apart (own : List Nat) (cb : CB) : Prop := ∀ b ∈ own, b ≠ cb.P ∧ b ≠ cb.W ∧ b ≠ cb.Y
theorem qnp {own : List Nat} {cb : CB} {b : Nat} (hb : b ∈ own) : ∀ i ∈ [b, cb.P, cb.W, cb.Y], i ∈ qno own cb := by
 intro i hi
 simp only [List.mem_cons, List.mem_nil_iff, or_false] at hi
 unfold qno
 rcases hi with rfl | rfl | rfl | rfl <;> simp [hb]

structure Fe where
 h : Int
 nx : Int
 word : Int
 p : Sk
def qnq (s : Fe) : Option Ent → Fe × Option (Int × Int)
 | none => ({ s with nx := 0 }, some (4, 0))
 | some e => if 0 < e.p then ({ s with nx := 0 }, some (6, 0)) else if e.u = 0 ∧ e.lk = false then ({ s with nx := 2 }, none) else (s, none)
def feG (c : Cfg) (s : Fe) : Int := qjj c (ofR s.h c.S).1 0
def qnr (s : Fe) (r : Sk × List Int × Int × Bool) : Fe × List Int × Option (Int × Int) := if r.2.2.2 then ({ s with p := r.1, nx := 0 }, r.2.1, some (0, 0)) else ({ s with p := r.1 }, r.2.1, none)
def feS (c : Cfg) (s : Fe) (ws : List Int) : Fe × List Int × Option (Int × Int) :=
 if s.nx = 0 then (s, ws, some (1, 0))
 else if s.nx = 1 then
  if (ofR s.h c.S).2.2 ≠ 0 then ({ s with nx := 0 }, ws, some (4, 0))
  else ((qnq { s with word := qiR ws (feG c s) } (qmt ws c (ofR s.h c.S).1 (ofR s.h c.S).2.1)).1, ws, (qnq { s with word := qiR ws (feG c s) } (qmt ws c (ofR s.h c.S).1 (ofR s.h c.S).2.1)).2)
 else if s.nx = 2 then
  if qi3 ws (feG c s) s.word then
   if qmi s.word then ({ s with nx := 3, p := ⟨1, (ofR s.h c.S).1, 0, 0⟩ }, qiS ws (feG c s) (chE s.word qmg).1, none)
   else ({ s with nx := 0 }, qiS ws (feG c s) (chE s.word qmg).1, some (0, 0))
  else ({ s with nx := 1 }, ws, none)
 else qnr s (qlg c s.p ws)

def qns (c : Cfg) (s : Fe) (to : Int) (more : Bool) (gv : Value) : List Value :=
 [I c.T, I c.S, I (ofR s.h c.S).1, I (ofR s.h c.S).2.1, .bool (decide ((ofR s.h c.S).2.2 ≠ 0)), I s.nx, I s.word, I to, .bool more, gv]
structure FeP (H : qab) (own : List Nat) (c : Cfg) (s : Fe) (b : Nat) : Prop where
 mem : b ∈ own
 row : ∃ to more gv, H[b]? = some (.row (qns c s to more gv) false) ∧ (s.nx = 2 → to = (chE s.word qmg).1 ∧ more = qmi s.word) ∧
  (s.nx ≠ 0 → s.nx ≠ 1 → s.nx ≠ 2 → ∃ g, gv = qkb g ∧ H[g]? = some (.row (qle c s.p) false) ∧ b ≠ g ∧ g ∈ own)

section
variable {lo : Nat} {H : qab} {b : Nat} {c : Cfg} {s : Fe} {cb : CB} {ws bs : List Int} {to : Int} {more : Bool} {gv : Value}
theorem qnt (d : Did H H b (qns c s to more gv) cb ws bs) (hlo : lo ≤ b) (k : Int) : qfV En lo Id.zaX [qkb b, I k] H = some (qmr (some (k, 0)), H.set b (.row (qns c { s with nx := 0 } to more gv) false)) := by
 refine qgx rfl Fn.zaX rfl rfl ?_
 repeat' first | refine .A ?_ | refine .B ?_ | refine .J ?_ | refine .S (qip d.row hlo (Nat.le_of_ble_eq_true rfl) rfl) ?_ | refine .F ?_ | refine .Y ?_ | fail
 rfl
set_option maxHeartbeats 3200000 in
theorem qnu (d : Did H H b (qns c s to more gv) cb ws bs) (hm : c.may) (hlo : lo ≤ b) (hlc : lo ≤ cb.P) (hb : b ≠ cb.P ∧ b ≠ cb.W ∧ b ≠ cb.Y) (h1 : s.nx = 1) :
  ∃ to' more' H', qfV En lo Id.zaY [qkb b, ifC cb] H = some (qmr (feS c s ws).2.2, H') ∧ Did H H' b (qns c (feS c s ws).1 to' more' gv) cb ws bs ∧
   ((feS c s ws).1.nx = 2 → to' = (chE (feS c s ws).1.word qmg).1 ∧ more' = qmi (feS c s ws).1.word) := by
 have l4 : qav H none ⟨b, 0 + 4, none⟩ = some (.bool (decide ((ofR s.h c.S).2.2 ≠ 0))) := qin d.row rfl
 unfold feS
 rw [if_neg (by omega), if_pos h1]
 by_cases hst : (ofR s.h c.S).2.2 ≠ 0
 ·rw [if_pos hst]
  rw [decide_eq_true hst] at l4
  have hE := fun lo hl k => qnt (lo := lo) d hl k
  refine ⟨to, more, _, ?_, d.set hb, fun h => by simp at h⟩
  refine qgx rfl Fn.zaY rfl rfl ?_
  repeat' first | refine .A ?_ | refine .B ?_ | refine .C ?_ | refine .J ?_ | refine .L l4 ?_ | refine .P (hE _ hlo _) ?_ | refine .F ?_ | refine .Y ?_ | fail
  rfl
 rw [if_neg hst]
 rw [decide_eq_false hst] at l4
 have hEn := fun lo => qjm lo H hm (ofR s.h c.S).1
 obtain ⟨H1, hL, hC1, ho1⟩ := qi1 d.cells hlc (feG c s)
 have d1 := d.on hC1 ho1 (by simp) hb
 unfold qmt
 rw [show qjj c (ofR s.h c.S).1 0 = feG c s from rfl]
 unfold feG at hL ⊢
 generalize qiR ws (qjj c (ofR s.h c.S).1 0) = w at hL ⊢
 have d2 := d1.set (row' := qns c { s with word := w } to more gv) hb
 have s2 : stN lo H1 ⟨b, 0 + 6, none⟩ (qaf (I w)) = some (H1.set b (.row (qns c { s with word := w } to more gv) false)) := qip d1.row hlo (Nat.le_of_ble_eq_true rfl) rfl
 generalize H1.set b (.row (qns c { s with word := w } to more gv) false) = H2 at d2 s2
 have k6 : qav H2 none ⟨b, 0 + 6, none⟩ = some (I w) := qin d2.row rfl
 have k3 : qav H2 none ⟨b, 0 + 3, none⟩ = some (I (ofR s.h c.S).2.1) := qin d2.row rfl
 have hU := fun lo => qj5 lo H2 w
 have hN := fun lo => qmp lo H2 w
 unfold qmj at hN
 have hE := fun lo hl k => qnt (lo := lo) (Did.of d2.row d2.cells) hl k
 cases hu : qjX w with
 | none =>
   rw [hu] at hU
   simp only [unV, Ent.zero, Ent.cs] at hU
   refine ⟨to, more, _, ?_, d2.set hb, fun h => by simp [qms, qnq] at h⟩
   refine qgx rfl Fn.zaY rfl rfl ?_
   repeat' first | refine .A ?_ | refine .B ?_ | refine .C ?_ | refine .D ?_ | refine .F ?_ | refine .G ?_ | refine .J ?_ | refine .t6 ?_ | refine .L l4 ?_ | refine .L k6 ?_ | refine .L (qin d.row rfl) ?_ | refine .L (qio d.row (Nat.le_of_ble_eq_true rfl) rfl) ?_ | refine .P (hEn _) ?_ | refine .P (hU _) ?_ | refine .P (hE _ hlo _) ?_ | refine .W hL ?_ | refine .S s2 ?_ | refine .Y ?_ | fail
   rfl
 | some e =>
   rw [hu] at hU
   obtain ⟨o, g, p, u, lk, lv⟩ := e
   simp only [unV, Ent.cs] at hU
   by_cases hf : lv = true ∧ g = (ofR s.h c.S).2.1
   ·have e1 : qms (ofR s.h c.S).2.1 (some ⟨o, g, p, u, lk, lv⟩) = some ⟨o, g, p, u, lk, lv⟩ := if_pos hf
    rw [e1]
    simp only [qnq]
    have hlv := hf.1
    have hg := hf.2
    subst hlv
    by_cases hp : 0 < p
    ·rw [if_pos hp]
     refine ⟨to, more, _, ?_, d2.set hb, fun h => by simp at h⟩
     refine qgx rfl Fn.zaY rfl rfl ?_
     repeat' first | refine .A ?_ | refine .B ?_ | refine .C ?_ | refine .D ?_ | refine .F ?_ | refine .G ?_ | refine .J ?_ | refine .t3 ?_ | refine .f6 ?_ | (show EG _ _ (⟨_, .load _ _, _, _⟩ :: _) _ _ _ _ _ _; first | refine .L l4 ?_ | refine .L k6 ?_ | refine .L k3 ?_ | refine .L (qin d.row rfl) ?_ | refine .L (qio d.row (Nat.le_of_ble_eq_true rfl) rfl) ?_) | refine .P (hEn _) ?_ | refine .P (hU _) ?_ | refine .P (hE _ hlo _) ?_ | refine .W hL ?_ | refine .S s2 ?_ | refine .Y ?_ | fail
     rfl
    ·rw [if_neg hp]
     by_cases hul : u = 0 ∧ lk = false
     ·rw [if_pos hul]
      have h0 := hul.1
      have h2 := hul.2
      subst h2
      have d3 := d2.set (row' := qns c { s with word := w } (chE w qmg).1 more gv) hb
      have s3 : stN lo H2 ⟨b, 0 + 7, none⟩ (qaf (I (chE w qmg).1)) = some (H2.set b (.row (qns c { s with word := w } (chE w qmg).1 more gv) false)) := qip d2.row hlo (Nat.le_of_ble_eq_true rfl) rfl
      generalize H2.set b (.row (qns c { s with word := w } (chE w qmg).1 more gv) false) = H3 at d3 s3
      refine ⟨(chE w qmg).1, qmi w, _, ?_, d3.set hb, fun _ => ⟨rfl, rfl⟩⟩
      refine qgx rfl Fn.zaY rfl rfl ?_
      repeat' first | refine .A ?_ | refine .B ?_ | refine .C ?_ | refine .D ?_ | refine .F ?_ | refine .G ?_ | refine .H ?_ | refine .J ?_ | refine .f3 ?_ | refine .t5 ?_ | refine .f6 ?_ | (show EG _ _ (⟨_, .load _ _, _, _⟩ :: _) _ _ _ _ _ _; first | refine .L l4 ?_ | refine .L k6 ?_ | refine .L k3 ?_ | refine .L (qin d.row rfl) ?_ | refine .L (qio d.row (Nat.le_of_ble_eq_true rfl) rfl) ?_) | refine .P (hEn _) ?_ | refine .P (hU _) ?_ | refine .P (hN _) ?_ | refine .W hL ?_ | refine .S (qip d3.row hlo (Nat.le_of_ble_eq_true rfl) rfl) ?_ | refine .S (qmM (qim d3.row) hlo (Nat.le_of_ble_eq_true rfl) rfl) ?_ | refine .S s2 ?_ | refine .S s3 ?_ | refine .Y ?_ | fail
      rfl
     ·rw [if_neg hul]
      refine ⟨to, more, _, ?_, d2, fun h => by simp only at h; omega⟩
      refine qgx rfl Fn.zaY rfl rfl ?_
      by_cases h0 : u = 0
      ·have h2 : lk = true := by cases lk; exact absurd ⟨h0, rfl⟩ hul; rfl
       subst h2
       repeat' first | refine .A ?_ | refine .B ?_ | refine .D ?_ | refine .F ?_ | refine .G ?_ | refine .H ?_ | refine .J ?_ | refine .C ?_ | refine .f3 ?_ | refine .t5 ?_ | refine .f6 ?_ | (show EG _ _ (⟨_, .load _ _, _, _⟩ :: _) _ _ _ _ _ _; first | refine .L l4 ?_ | refine .L k6 ?_ | refine .L k3 ?_ | refine .L (qin d.row rfl) ?_ | refine .L (qio d.row (Nat.le_of_ble_eq_true rfl) rfl) ?_) | refine .P (hEn _) ?_ | refine .P (hU _) ?_ | refine .W hL ?_ | refine .S s2 ?_ | refine .Y ?_ | fail
       rfl
      ·repeat' first | refine .A ?_ | refine .B ?_ | refine .D ?_ | refine .F ?_ | refine .G ?_ | refine .H ?_ | refine .J ?_ | refine .C ?_ | refine .f3 ?_ | refine .f5 ?_ | refine .f6 ?_ | (show EG _ _ (⟨_, .load _ _, _, _⟩ :: _) _ _ _ _ _ _; first | refine .L l4 ?_ | refine .L k6 ?_ | refine .L k3 ?_ | refine .L (qin d.row rfl) ?_ | refine .L (qio d.row (Nat.le_of_ble_eq_true rfl) rfl) ?_) | refine .P (hEn _) ?_ | refine .P (hU _) ?_ | refine .W hL ?_ | refine .S s2 ?_ | refine .Y ?_ | fail
       rfl
   ·have e1 : qms (ofR s.h c.S).2.1 (some ⟨o, g, p, u, lk, lv⟩) = none := if_neg hf
    rw [e1]
    refine ⟨to, more, _, ?_, d2.set hb, fun h => by simp [qnq] at h⟩
    refine qgx rfl Fn.zaY rfl rfl ?_
    cases lv with
    | false =>
      repeat' first | refine .A ?_ | refine .B ?_ | refine .C ?_ | refine .D ?_ | refine .F ?_ | refine .G ?_ | refine .J ?_ | refine .f6 ?_ | refine .L l4 ?_ | refine .L k6 ?_ | refine .L (qin d.row rfl) ?_ | refine .L (qio d.row (Nat.le_of_ble_eq_true rfl) rfl) ?_ | refine .P (hEn _) ?_ | refine .P (hU _) ?_ | refine .P (hE _ hlo _) ?_ | refine .W hL ?_ | refine .S s2 ?_ | refine .Y ?_ | fail
      rfl
    | true =>
      have hg : ¬ g = (ofR s.h c.S).2.1 := fun h => hf ⟨rfl, h⟩
      repeat' first | refine .A ?_ | refine .B ?_ | refine .C ?_ | refine .D ?_ | refine .F ?_ | refine .G ?_ | refine .J ?_ | refine .t6 ?_ | refine .f6 ?_ | (show EG _ _ (⟨_, .load _ _, _, _⟩ :: _) _ _ _ _ _ _; first | refine .L l4 ?_ | refine .L k6 ?_ | refine .L k3 ?_ | refine .L (qin d.row rfl) ?_ | refine .L (qio d.row (Nat.le_of_ble_eq_true rfl) rfl) ?_) | refine .P (hEn _) ?_ | refine .P (hU _) ?_ | refine .P (hE _ hlo _) ?_ | refine .W hL ?_ | refine .S s2 ?_ | refine .Y ?_ | fail
      rfl

theorem qnv (lo : Nat) (H : qab) (c : Cfg) (sl : Int) : qfV En lo Id.zdz [lay c.T c.S, I sl] H = some (qkb H.length, H ++ [.row (qle c ⟨1, sl, 0, 0⟩) false]) := by
 refine qgx rfl Fn.zdz rfl rfl ?_
 repeat' first | refine .A ?_ | refine .B ?_ | refine .J ?_ | refine .F ?_ | refine .Y ?_ | fail
 rfl
theorem qnw (lo : Nat) (H : qab) (c : Cfg) : qfV En lo Id.zdy [lay c.T c.S] H = some (qkb H.length, H ++ [.row (qle c ⟨1, 0, 0, 0⟩) false]) := by
 refine qgx rfl Fn.zdy rfl rfl ?_
 repeat' first | refine .A ?_ | refine .B ?_ | refine .J ?_ | refine .F ?_ | refine .Y ?_ | fail
 rfl

set_option maxHeartbeats 3200000 in
theorem qnx {own : List Nat} (hown : b ∈ own) (d : Did H H b (qns c s to more gv) cb ws bs) (hm : c.may) (hlo : lo ≤ b) (hlc : lo ≤ cb.P ∧ lo ≤ cb.W) (hb : b ≠ cb.P ∧ b ≠ cb.W ∧ b ≠ cb.Y) (h2 : s.nx = 2) (ht : to = (chE s.word qmg).1) (hmo : more = qmi s.word) :
  ∃ own' H', qfV En lo Id.zaZ [qkb b, ifC cb] H = some (qmr (feS c s ws).2.2, H') ∧ FeP H' own' c (feS c s ws).1 b ∧ IsC H' cb (feS c s ws).2.1 bs ∧ Chg [b, cb.P, cb.W, cb.Y] H H' ∧ (∀ x ∈ own, x ∈ own') ∧ (∀ x ∈ own', x ∈ own ∨ H.length ≤ x) := by
 have hEn := fun lo => qjm lo H hm (ofR s.h c.S).1
 obtain ⟨H1, hL, hC1, ho1⟩ := qi4 d.cells hlc.1 hlc.2 (feG c s) s.word to
 have d1 := d.on hC1 ho1 (by simp) hb
 have l6 : qav H none ⟨b, 0 + 6, none⟩ = some (I s.word) := qin d.row rfl
 have l7 : qav H none ⟨b, 0 + 7, none⟩ = some (I to) := qin d.row rfl
 have k8 : qav H1 none ⟨b, 0 + 8, none⟩ = some (.bool more) := qin d1.row rfl
 have hE := fun lo hl k => qnt (lo := lo) (Did.of d1.row d1.cells) hl k
 unfold feS
 rw [if_neg (by omega), if_neg (by omega), if_pos h2, ← ht, ← hmo]
 unfold feG at hL d1 ⊢
 cases hcb : qi3 ws (qjj c (ofR s.h c.S).1 0) s.word with
 | false =>
   rw [hcb] at hL d1
   have dd := d1.set (row' := qns c { s with nx := 1 } to more gv) hb
   refine ⟨own, _, ?_, ⟨hown, to, more, gv, dd.row, fun h => by simp at h, fun _ h => by simp at h⟩, dd.cells, dd.chg, fun _ h => h, fun _ h => .inl h⟩
   refine qgx rfl Fn.zaZ rfl rfl ?_
   repeat' first | refine .A ?_ | refine .B ?_ | refine .C ?_ | refine .G ?_ | refine .H ?_ | refine .J ?_ | refine .L (qin d.row rfl) ?_ | refine .L (qio d.row (Nat.le_of_ble_eq_true rfl) rfl) ?_ | refine .X (qin d.row rfl) (qis (qin d.row rfl)) (qkd _) ?_ | refine .P (hEn _) ?_ | refine .W hL ?_ | refine .S (qip d1.row hlo (Nat.le_of_ble_eq_true rfl) rfl) ?_ | refine .F ?_ | refine .Y ?_ | fail
   rfl
 | true =>
   rw [hcb] at hL d1
   cases more with
   | false =>
     have dd := d1.set (row' := qns c { s with nx := 0 } to false gv) hb
     refine ⟨own, _, ?_, ⟨hown, to, false, gv, dd.row, fun h => by simp at h, fun h => by simp at h⟩, dd.cells, dd.chg, fun _ h => h, fun _ h => .inl h⟩
     refine qgx rfl Fn.zaZ rfl rfl ?_
     repeat' first | refine .A ?_ | refine .B ?_ | refine .C ?_ | refine .D ?_ | refine .G ?_ | refine .J ?_ | refine .L k8 ?_ | refine .L (qin d.row rfl) ?_ | refine .L (qio d.row (Nat.le_of_ble_eq_true rfl) rfl) ?_ | refine .X (qin d.row rfl) (qis (qin d.row rfl)) (qkd _) ?_ | refine .P (hEn _) ?_ | refine .P (hE _ hlo _) ?_ | refine .W hL ?_ | refine .F ?_ | refine .Y ?_ | fail
     rfl
   | true =>
     have hNP := fun lo => qnv lo H1 c (ofR s.h c.S).1
     have hbl : b < H1.length := qim d1.row
     have d2 : Did H (H1 ++ [.row (qle c ⟨1, (ofR s.h c.S).1, 0, 0⟩) false]) b (qns c s to true gv) cb (qiS ws (qjj c (ofR s.h c.S).1 0) to) bs := ⟨qil d1.row, d1.cells.app _, d1.chg.app _⟩
     have hg : (H1 ++ [Blk.row (qle c ⟨1, (ofR s.h c.S).1, 0, 0⟩) false])[H1.length]? = some (.row (qle c ⟨1, (ofR s.h c.S).1, 0, 0⟩) false) := List.getElem?_concat_length
     generalize H1 ++ [Blk.row (qle c ⟨1, (ofR s.h c.S).1, 0, 0⟩) false] = H2 at hNP d2 hg
     have d3 := d2.set (row' := qns c s to true (qkb H1.length)) hb
     have s3 : stN lo H2 ⟨b, 0 + 9, none⟩ (qaf (qkb H1.length)) = some (H2.set b (.row (qns c s to true (qkb H1.length)) false)) := qip d2.row hlo (Nat.le_of_ble_eq_true rfl) rfl
     have hg3 : (H2.set b (.row (qns c s to true (qkb H1.length)) false))[H1.length]? = some (.row (qle c ⟨1, (ofR s.h c.S).1, 0, 0⟩) false) := qik (by omega) hg
     generalize H2.set b (.row (qns c s to true (qkb H1.length)) false) = H3 at d3 s3 hg3
     have dd := d3.set (row' := qns c { s with nx := 3, p := ⟨1, (ofR s.h c.S).1, 0, 0⟩ } to true (qkb H1.length)) hb
     refine ⟨H1.length :: own, _, ?_, ⟨List.mem_cons_of_mem _ hown, to, true, qkb H1.length, dd.row, fun h => by simp at h, fun _ _ _ => ⟨H1.length, rfl, qik (by omega) hg3, by omega, by simp⟩⟩, dd.cells, dd.chg, fun _ h => List.mem_cons_of_mem _ h, fun x h => ?_⟩
     ·refine qgx rfl Fn.zaZ rfl rfl ?_
      repeat' first | refine .A ?_ | refine .B ?_ | refine .D ?_ | refine .G ?_ | refine .H ?_ | refine .J ?_ | (show EG _ _ (⟨_, .load _ _, _, _⟩ :: _) _ _ _ _ _ _; first | refine .L k8 ?_ | refine .L (qin d.row rfl) ?_ | refine .L (qio d.row (Nat.le_of_ble_eq_true rfl) rfl) ?_ | refine .X (qin d.row rfl) (qis (qin d.row rfl)) (qkd _) ?_ | refine .L (qin d1.row rfl) ?_ | refine .L (qio d1.row (Nat.le_of_ble_eq_true rfl) rfl) ?_) | refine .P (hEn _) ?_ | refine .P (hNP _) ?_ | refine .W hL ?_ | refine .S (qip d3.row hlo (Nat.le_of_ble_eq_true rfl) rfl) ?_ | refine .S s3 ?_ | refine .F ?_ | refine .Y ?_ | fail
      rfl
     ·rcases List.mem_cons.1 h with rfl | h
      ·exact .inr d1.chg.len
      ·exact .inl h

theorem Apart.at {own : List Nat} {cb : CB} (h : Apart own cb) {b : Nat} (hb : b ∈ own) : b ≠ cb.P ∧ b ≠ cb.W ∧ b ≠ cb.Y := h b hb

set_option maxHeartbeats 3200000 in
theorem qny {own : List Nat} (hP : FeP H own c s b) (hC : IsC H cb ws bs) (hA : Apart own cb) (hm : c.may) (hlo : ∀ x ∈ own, lo ≤ x) (hlc : lo ≤ cb.P ∧ lo ≤ cb.W) :
  ∃ own' H', qfV En lo Id.zaW [qkb b, ifC cb] H = some (qmr (feS c s ws).2.2, H') ∧ FeP H' own' c (feS c s ws).1 b ∧ IsC H' cb (feS c s ws).2.1 bs ∧ Chg (qno own cb) H H' ∧ (∀ x ∈ own, x ∈ own') ∧ (∀ x ∈ own', x ∈ own ∨ H.length ≤ x) := by
 obtain ⟨to, more, gv, hr, h2', h3'⟩ := hP.row
 have hb := hA.at hP.mem
 have hlob := hlo b hP.mem
 have d := Did.of hr hC
 have l5 : qav H none ⟨b, 0 + 5, none⟩ = some (I s.nx) := qin hr rfl
 have hsub := qnp (cb := cb) hP.mem
 by_cases h0 : s.nx = 0
 ·have e0 : feS c s ws = (s, ws, some (1, 0)) := by unfold feS; rw [if_pos h0]
  rw [e0]
  refine ⟨own, H, ?_, hP, hC, Chg.refl _ _, fun _ h => h, fun _ h => .inl h⟩
  refine qgx rfl Fn.zaW rfl rfl ?_
  repeat' first | refine .A ?_ | refine .B ?_ | refine .C ?_ | refine .J ?_ | refine .t5 ?_ | refine .L l5 ?_ | refine .F ?_ | refine .Y ?_ | fail
  rfl
 by_cases h1 : s.nx = 1
 ·obtain ⟨to', more', H1, hL, d1, hx⟩ := qnu (lo := lo) d hm hlob hlc.1 hb h1
  have hws : (feS c s ws).2.1 = ws := by
   unfold feS
   rw [if_neg h0, if_pos h1]
   split <;> rfl
  have hn : (feS c s ws).1.nx = 0 ∨ (feS c s ws).1.nx = 1 ∨ (feS c s ws).1.nx = 2 := by
   unfold feS
   rw [if_neg h0, if_pos h1]
   split
   ·simp
   ·unfold qnq
    split
    ·simp
    ·split
     ·simp
     ·split <;> simp [h1]
  rw [hws]
  generalize feS c s ws = r at hL d1 hx hn ⊢
  obtain ⟨s', w', o⟩ := r
  refine ⟨own, H1, ?_, ⟨hP.mem, to', more', gv, d1.row, hx, fun a1 a2 a3 => by
   rcases hn with h | h | h
   ·exact absurd h a1
   ·exact absurd h a2
   ·exact absurd h a3⟩, d1.cells, d1.chg.mono hsub, fun _ h => h, fun _ h => .inl h⟩
  cases o with
  | none =>
    simp only [qmr] at hL ⊢
    refine qgx rfl Fn.zaW rfl rfl ?_
    repeat' first | refine .A ?_ | refine .B ?_ | refine .C ?_ | refine .D ?_ | refine .F ?_ | refine .G ?_ | refine .J ?_ | refine .t5 ?_ | refine .f5 ?_ | refine .L l5 ?_ | refine .P hL ?_ | refine .Y ?_ | fail
    rfl
  | some q =>
    simp only [qmr] at hL ⊢
    refine qgx rfl Fn.zaW rfl rfl ?_
    repeat' first | refine .A ?_ | refine .B ?_ | refine .C ?_ | refine .D ?_ | refine .F ?_ | refine .G ?_ | refine .J ?_ | refine .t5 ?_ | refine .f5 ?_ | refine .L l5 ?_ | refine .P hL ?_ | refine .Y ?_ | fail
    rfl
 by_cases h2 : s.nx = 2
 ·obtain ⟨own', H1, hL, hF, hC1, hx, g1, g2⟩ := qnx (lo := lo) hP.mem d hm hlob hlc hb h2 (h2' h2).1 (h2' h2).2
  refine ⟨own', H1, ?_, hF, hC1, hx.mono hsub, g1, g2⟩
  generalize (feS c s ws).2.2 = o at hL ⊢
  cases o with
  | none =>
    simp only [qmr] at hL ⊢
    refine qgx rfl Fn.zaW rfl rfl ?_
    repeat' first | refine .A ?_ | refine .B ?_ | refine .C ?_ | refine .D ?_ | refine .F ?_ | refine .G ?_ | refine .J ?_ | refine .t5 ?_ | refine .f5 ?_ | refine .L l5 ?_ | refine .P hL ?_ | refine .Y ?_ | fail
    rfl
  | some q =>
    simp only [qmr] at hL ⊢
    refine qgx rfl Fn.zaW rfl rfl ?_
    repeat' first | refine .A ?_ | refine .B ?_ | refine .C ?_ | refine .D ?_ | refine .F ?_ | refine .G ?_ | refine .J ?_ | refine .t5 ?_ | refine .f5 ?_ | refine .L l5 ?_ | refine .P hL ?_ | refine .Y ?_ | fail
    rfl
 ·obtain ⟨g, rfl, hg, hbg, hgo⟩ := h3' h0 h1 h2
  have hbg' := hA.at hgo
  obtain ⟨H1, hL, d1⟩ := qlp (lo := lo) hg hC hbg' hm (hlo g hgo) hlc
  have l9 : qav H none ⟨b, 0 + 9, none⟩ = some (qkb g) := qin hr rfl
  have hr1 : H1[b]? = some (.row (qns c s to more (qkb g)) false) := d1.chg.get hr (by simp [hbg, hb.1, hb.2.1, hb.2.2])
  have dr : Did H1 H1 b (qns c s to more (qkb g)) cb (qlg c s.p ws).2.1 bs := Did.of hr1 d1.cells
  have hE := fun lo hl k => qnt (lo := lo) dr hl k
  have hc1 : Chg (qno own cb) H H1 := d1.chg.mono (qnp hgo)
  have e0 : feS c s ws = qnr s (qlg c s.p ws) := by unfold feS; rw [if_neg h0, if_neg h1, if_neg h2]
  rw [e0]
  unfold qln at hL
  have hrg := d1.row
  generalize qlg c s.p ws = r at hL dr hrg hE ⊢
  obtain ⟨p', w', q, dn⟩ := r
  simp only at hL hrg
  cases dn with
  | true =>
    have dd := dr.set (row' := qns c { s with p := p', nx := 0 } to more (qkb g)) hb
    refine ⟨own, _, ?_, ⟨hP.mem, to, more, qkb g, dd.row, fun h => by simp [qnr] at h, fun h => by simp [qnr] at h⟩, dd.cells, hc1.trans (dd.chg.mono hsub), fun _ h => h, fun _ h => .inl h⟩
    refine qgx rfl Fn.zaW rfl rfl ?_
    repeat' first | refine .A ?_ | refine .B ?_ | refine .C ?_ | refine .D ?_ | refine .F ?_ | refine .G ?_ | refine .H ?_ | refine .J ?_ | refine .f5 ?_ | refine .L l5 ?_ | refine .L l9 ?_ | refine .P hL ?_ | refine .P (hE _ hlob _) ?_ | refine .Y ?_ | fail
    rfl
  | false =>
    refine ⟨own, H1, ?_, ⟨hP.mem, to, more, qkb g, hr1, fun h => absurd h h2, fun _ _ _ => ⟨g, rfl, hrg, hbg, hgo⟩⟩, dr.cells, hc1, fun _ h => h, fun _ h => .inl h⟩
    refine qgx rfl Fn.zaW rfl rfl ?_
    repeat' first | refine .A ?_ | refine .B ?_ | refine .D ?_ | refine .F ?_ | refine .G ?_ | refine .H ?_ | refine .J ?_ | refine .f5 ?_ | refine .L l5 ?_ | refine .L l9 ?_ | refine .P hL ?_ | refine .Y ?_ | fail
    rfl
end
end Go.Proofs.YtnfcohmbcgfhbaaGreat

/- An object freed, step by step: by the document. -/
namespace Go.Proofs.YtnfcohmbcgfhbaaGreat
open Go Go.Ir

def qnz (c : Cfg) (s : Fe) (gv : Value) : List Value := [I c.A, I c.S, I c.T, I s.h, I s.nx, I s.word, gv]
structure FeR (H : qab) (own : List Nat) (c : Cfg) (s : Fe) (b : Nat) : Prop where
 mem : b ∈ own
 row : ∃ gv, H[b]? = some (.row (qnz c s gv) false) ∧ (s.nx ≠ 0 → s.nx ≠ 1 → s.nx ≠ 2 → ∃ g, gv = qkb g ∧ H[g]? = some (.row (qlD c true s.p) false) ∧ b ≠ g ∧ g ∈ own)
 st : s.nx ≠ 0 → s.nx ≠ 1 → (ofR s.h c.S).2.2 = 0
 rg : s.p.word < 9223372036854775808

section
variable {lo : Nat} {H : qab} {b : Nat} {c : Cfg} {s : Fe} {cb : CB} {ws bs : List Int} {gv : Value}
theorem qnA (d : DidR H H b (qnz c s gv) cb ws bs) (hlo : lo ≤ b) (k : Int) : qfV En lo Id.zdi [qkb b, I k] H = some (qmr (some (k, 0)), H.set b (.row (qnz c { s with nx := 0 } gv) false)) := by
 refine qgx rfl Fn.zdi rfl rfl ?_
 repeat' first | refine .A ?_ | refine .B ?_ | refine .J ?_ | refine .S (qip d.row hlo (Nat.le_of_ble_eq_true rfl) rfl) ?_ | refine .F ?_ | refine .Y ?_ | fail
 rfl
set_option maxHeartbeats 3200000 in
theorem qnB (d : DidR H H b (qnz c s gv) cb ws bs) (hb : b ≠ cb.P ∧ b ≠ cb.W ∧ b ≠ cb.Y) (hlo : lo ≤ b) (hlc : lo ≤ cb.P) (at0 g : Int) :
  ∃ H', qfV En lo Id.zdj [qkb b, qiX cb, I at0, I g] H = some (qmr (qnq { s with word := qiR ws at0 } (qms g (qjX (qiR ws at0)))).2, H') ∧
   DidR H H' b (qnz c (qnq { s with word := qiR ws at0 } (qms g (qjX (qiR ws at0)))).1 gv) cb ws bs := by
 obtain ⟨H1, hL, hC1, ho1⟩ := qlq d.cells hlc at0
 have d1 := d.on hC1 ho1 (by simp) hb
 generalize qiR ws at0 = w at hL ⊢
 have d2 := d1.put (row' := qnz c { s with word := w } gv) hb
 have s2 : stN lo H1 ⟨b, 0 + 5, none⟩ (qaf (I w)) = some (H1.set b (.row (qnz c { s with word := w } gv) false)) := qip d1.row hlo (Nat.le_of_ble_eq_true rfl) rfl
 generalize H1.set b (.row (qnz c { s with word := w } gv) false) = H2 at d2 s2
 have k5 : qav H2 none ⟨b, 0 + 5, none⟩ = some (I w) := qin d2.row rfl
 have hF := fun lo => qmE lo H2 w g
 have hE := fun lo hl k => qnA (lo := lo) (DidR.of d2.row d2.cells) hl k
 cases hf : qms g (qjX w) with
 | none =>
   obtain ⟨e1, he1⟩ := qmA hf
   rw [he1] at hF
   simp only [Ent.cs] at hF
   refine ⟨_, ?_, d2.put hb⟩
   refine qgx rfl Fn.zdj rfl rfl ?_
   repeat' first | refine .A ?_ | refine .B ?_ | refine .C ?_ | refine .J ?_ | refine .L k5 ?_ | refine .P hL ?_ | refine .P (hF _) ?_ | refine .P (hE _ hlo _) ?_ | refine .S s2 ?_ | refine .F ?_ | refine .Y ?_ | fail
   rfl
 | some e1 =>
   rw [qmB hf] at hF
   obtain ⟨o, g', p, u, lk, lv⟩ := e1
   simp only [Ent.cs] at hF
   simp only [qnq]
   by_cases hp : 0 < p
   ·rw [if_pos hp]
    refine ⟨_, ?_, d2.put hb⟩
    refine qgx rfl Fn.zdj rfl rfl ?_
    repeat' first | refine .A ?_ | refine .B ?_ | refine .C ?_ | refine .D ?_ | refine .F ?_ | refine .J ?_ | refine .t3 ?_ | refine .L k5 ?_ | refine .P hL ?_ | refine .P (hF _) ?_ | refine .P (hE _ hlo _) ?_ | refine .S s2 ?_ | refine .Y ?_ | fail
    rfl
   ·rw [if_neg hp]
    by_cases hul : u = 0 ∧ lk = false
    ·rw [if_pos hul]
     have h0 := hul.1
     have h2 := hul.2
     subst h2
     refine ⟨_, ?_, d2.put hb⟩
     refine qgx rfl Fn.zdj rfl rfl ?_
     repeat' first | refine .A ?_ | refine .B ?_ | refine .C ?_ | refine .D ?_ | refine .F ?_ | refine .J ?_ | refine .f3 ?_ | refine .t5 ?_ | refine .L k5 ?_ | refine .P hL ?_ | refine .P (hF _) ?_ | refine .S (qip d2.row hlo (Nat.le_of_ble_eq_true rfl) rfl) ?_ | refine .S s2 ?_ | refine .Y ?_ | fail
     rfl
    ·rw [if_neg hul]
     refine ⟨_, ?_, d2⟩
     refine qgx rfl Fn.zdj rfl rfl ?_
     by_cases h0 : u = 0
     ·have h2 : lk = true := by cases lk; exact absurd ⟨h0, rfl⟩ hul; rfl
      subst h2
      repeat' first | refine .A ?_ | refine .B ?_ | refine .D ?_ | refine .F ?_ | refine .J ?_ | refine .C ?_ | refine .f3 ?_ | refine .t5 ?_ | refine .L k5 ?_ | refine .P hL ?_ | refine .P (hF _) ?_ | refine .S s2 ?_ | refine .Y ?_ | fail
      rfl
     ·repeat' first | refine .A ?_ | refine .B ?_ | refine .D ?_ | refine .F ?_ | refine .J ?_ | refine .C ?_ | refine .f3 ?_ | refine .f5 ?_ | refine .L k5 ?_ | refine .P hL ?_ | refine .P (hF _) ?_ | refine .S s2 ?_ | refine .Y ?_ | fail
      rfl

theorem qnC (lo : Nat) (H : qab) (c : Cfg) (p : Bool) (sl : Int) : qfV En lo Id.zcF [.agg #[I c.A, I c.S, I c.T], .bool p, I sl] H = some (qkb H.length, H ++ [.row (qlD c p ⟨1, sl, 0, 0⟩) false]) := by
 refine qgx rfl Fn.zcF rfl rfl ?_
 repeat' first | refine .A ?_ | refine .B ?_ | refine .J ?_ | refine .F ?_ | refine .Y ?_ | fail
 rfl

set_option maxHeartbeats 3200000 in
theorem qnD {own : List Nat} (hown : b ∈ own) (d : DidR H H b (qnz c s gv) cb ws bs) (hlo : lo ≤ b) (hlc : lo ≤ cb.P ∧ lo ≤ cb.W) (hb : b ≠ cb.P ∧ b ≠ cb.W ∧ b ≠ cb.Y) (h2 : s.nx = 2) (hst : (ofR s.h c.S).2.2 = 0) (hrg : s.p.word < 9223372036854775808) :
  ∃ own' H', qfV En lo Id.zdk [qkb b, qiX cb, I (feG c s), I (ofR s.h c.S).1] H = some (qmr (feS c s ws).2.2, H') ∧ FeR H' own' c (feS c s ws).1 b ∧ IsR H' cb (feS c s ws).2.1 bs ∧ Chg [b, cb.P, cb.W, cb.Y] H H' ∧ (∀ x ∈ own, x ∈ own') ∧ (∀ x ∈ own', x ∈ own ∨ H.length ≤ x) := by
 have hN := fun lo => qmq lo H s.word
 unfold qmj at hN
 obtain ⟨H1, hL, hC1, ho1⟩ := qlt d.cells hlc.1 hlc.2 (feG c s) s.word (chE s.word qmg).1
 have d1 := d.on hC1 ho1 (by simp) hb
 have hE := fun lo hl k => qnA (lo := lo) (DidR.of d1.row d1.cells) hl k
 unfold feS
 rw [if_neg (by omega), if_neg (by omega), if_pos h2]
 cases hcb : qi3 ws (feG c s) s.word with
 | false =>
   rw [hcb] at hL d1
   have dd := d1.put (row' := qnz c { s with nx := 1 } gv) hb
   refine ⟨own, _, ?_, ⟨hown, ⟨gv, dd.row, fun _ h => by simp at h⟩, fun _ h => by simp at h, hrg⟩, dd.cells, dd.chg, fun _ h => h, fun _ h => .inl h⟩
   refine qgx rfl Fn.zdk rfl rfl ?_
   repeat' first | refine .A ?_ | refine .B ?_ | refine .C ?_ | refine .J ?_ | refine .L (qin d.row rfl) ?_ | refine .P (hN _) ?_ | refine .P hL ?_ | refine .S (qip d1.row hlo (Nat.le_of_ble_eq_true rfl) rfl) ?_ | refine .F ?_ | refine .Y ?_ | fail
   rfl
 | true =>
   rw [hcb] at hL d1
   cases hmo : qmi s.word with
   | false =>
     rw [hmo] at hN
     have dd := d1.put (row' := qnz c { s with nx := 0 } gv) hb
     refine ⟨own, _, ?_, ⟨hown, ⟨gv, dd.row, fun h => by simp at h⟩, fun h => by simp at h, hrg⟩, dd.cells, dd.chg, fun _ h => h, fun _ h => .inl h⟩
     refine qgx rfl Fn.zdk rfl rfl ?_
     repeat' first | refine .A ?_ | refine .B ?_ | refine .C ?_ | refine .D ?_ | refine .F ?_ | refine .J ?_ | refine .L (qin d.row rfl) ?_ | refine .P (hN _) ?_ | refine .P hL ?_ | refine .P (hE _ hlo _) ?_ | refine .Y ?_ | fail
     rfl
   | true =>
     rw [hmo] at hN
     have hNP := fun lo => qnC lo H1 c true (ofR s.h c.S).1
     have hbl : b < H1.length := qim d1.row
     have d2 : DidR H (H1 ++ [.row (qlD c true ⟨1, (ofR s.h c.S).1, 0, 0⟩) false]) b (qnz c s gv) cb (qiS ws (feG c s) (chE s.word qmg).1) bs := ⟨qil d1.row, d1.cells.chg (S := []) ((Chg.refl [] _).app _) (by simp), d1.chg.app _⟩
     have hg : (H1 ++ [Blk.row (qlD c true ⟨1, (ofR s.h c.S).1, 0, 0⟩) false])[H1.length]? = some (.row (qlD c true ⟨1, (ofR s.h c.S).1, 0, 0⟩) false) := List.getElem?_concat_length
     generalize H1 ++ [Blk.row (qlD c true ⟨1, (ofR s.h c.S).1, 0, 0⟩) false] = H2 at hNP d2 hg
     have d3 := d2.put (row' := qnz c s (qkb H1.length)) hb
     have s3 : stN lo H2 ⟨b, 0 + 6, none⟩ (qaf (qkb H1.length)) = some (H2.set b (.row (qnz c s (qkb H1.length)) false)) := qip d2.row hlo (Nat.le_of_ble_eq_true rfl) rfl
     have hg3 : (H2.set b (.row (qnz c s (qkb H1.length)) false))[H1.length]? = some (.row (qlD c true ⟨1, (ofR s.h c.S).1, 0, 0⟩) false) := qik (by omega) hg
     generalize H2.set b (.row (qnz c s (qkb H1.length)) false) = H3 at d3 s3 hg3
     have dd := d3.put (row' := qnz c { s with nx := 3, p := ⟨1, (ofR s.h c.S).1, 0, 0⟩ } (qkb H1.length)) hb
     refine ⟨H1.length :: own, _, ?_, ⟨List.mem_cons_of_mem _ hown, ⟨qkb H1.length, dd.row, fun _ _ _ => ⟨H1.length, rfl, qik (by omega) hg3, by omega, by simp⟩⟩, fun _ _ => hst, by simp⟩, dd.cells, dd.chg, fun _ h => List.mem_cons_of_mem _ h, fun x h => ?_⟩
     ·refine qgx rfl Fn.zdk rfl rfl ?_
      repeat' first | refine .A ?_ | refine .B ?_ | refine .D ?_ | refine .F ?_ | refine .J ?_ | refine .L (qin d.row rfl) ?_ | refine .L (qio d1.row (Nat.le_of_ble_eq_true rfl) rfl) ?_ | refine .P (hN _) ?_ | refine .P hL ?_ | refine .P (hNP _) ?_ | refine .S (qip d3.row hlo (Nat.le_of_ble_eq_true rfl) rfl) ?_ | refine .S s3 ?_ | refine .Y ?_ | fail
      rfl
     ·rcases List.mem_cons.1 h with rfl | h
      ·exact .inr d1.chg.len
      ·exact .inl h

theorem qnE {c : Cfg} {p : Sk} {ws : List Int} (h1 : p.word < 9223372036854775808) (hr : Rng ws) : (qlg c p ws).1.word < 9223372036854775808 := by
 have h2 := (hr.get 1).2
 unfold qlg
 split
 ·split
  ·exact h1
  ·split <;> exact h2
 ·split
  ·exact h1
  ·split
   ·split <;> exact h1
   ·exact h1
theorem qnF (s : Fe) (o : Option Ent) : (qnq s o).1.h = s.h ∧ (qnq s o).1.p = s.p ∧ ((qnq s o).1.nx = 0 ∨ (qnq s o).1.nx = s.nx ∨ (qnq s o).1.nx = 2) := by
 unfold qnq
 cases o with
 | none => exact ⟨rfl, rfl, .inl rfl⟩
 | some e =>
   simp only
   split
   ·exact ⟨rfl, rfl, .inl rfl⟩
   ·split
    ·exact ⟨rfl, rfl, .inr (.inr rfl)⟩
    ·exact ⟨rfl, rfl, .inr (.inl rfl)⟩

set_option maxHeartbeats 3200000 in
theorem qnG {own : List Nat} (hP : FeR H own c s b) (hC : IsR H cb ws bs) (hr0 : Rng ws) (hA : Apart own cb) (hm : c.may) (hh : -9223372036854775808 ≤ s.h ∧ s.h < 9223372036854775808) (hlo : ∀ x ∈ own, lo ≤ x) (hlc : lo ≤ cb.P ∧ lo ≤ cb.W) :
  ∃ own' H', qfV En lo Id.zdh [qkb b, qiX cb] H = some (qmr (feS c s ws).2.2, H') ∧ FeR H' own' c (feS c s ws).1 b ∧ IsR H' cb (feS c s ws).2.1 bs ∧ Chg (qno own cb) H H' ∧ (∀ x ∈ own, x ∈ own') ∧ (∀ x ∈ own', x ∈ own ∨ H.length ≤ x) := by
 obtain ⟨gv, hr, h3'⟩ := hP.row
 have hb := hA.at hP.mem
 have hlob := hlo b hP.mem
 have d := DidR.of hr hC
 have l4 : qav H none ⟨b, 0 + 4, none⟩ = some (I s.nx) := qin hr rfl
 have l01 : qav H none ⟨b, 0 + 0 + 1, none⟩ = some (I c.S) := qin hr rfl
 have hsub := qnp (cb := cb) hP.mem
 have hOf := fun lo => ql5 lo H hh c.S
 unfold ofV at hOf
 have hAt : ∀ lo, qfV En lo Id.zcv [.agg #[I c.A, I c.S, I c.T], I 5, I (ofR s.h c.S).1] H = some (I (feG c s), H) := fun lo => qlw lo H hm _ (j := 0) (by omega)
 have hE0 := fun lo hl k => qnA (lo := lo) d hl k
 by_cases h0 : s.nx = 0
 ·have e0 : feS c s ws = (s, ws, some (1, 0)) := by unfold feS; rw [if_pos h0]
  rw [e0]
  refine ⟨own, H, ?_, hP, hC, Chg.refl _ _, fun _ h => h, fun _ h => .inl h⟩
  refine qgx rfl Fn.zdh rfl rfl ?_
  repeat' first | refine .A ?_ | refine .B ?_ | refine .C ?_ | refine .J ?_ | refine .t5 ?_ | refine .L l4 ?_ | refine .F ?_ | refine .Y ?_ | fail
  rfl
 by_cases hst : (ofR s.h c.S).2.2 ≠ 0
 ·have h1 : s.nx = 1 := by
   by_cases h : s.nx = 1
   ·exact h
   ·exact absurd (hP.st h0 h) hst
  have e0 : feS c s ws = ({ s with nx := 0 }, ws, some (4, 0)) := by unfold feS; rw [if_neg h0, if_pos h1, if_pos hst]
  rw [e0]
  have dd := d.put (row' := qnz c { s with nx := 0 } gv) hb
  refine ⟨own, _, ?_, ⟨hP.mem, ⟨gv, dd.row, fun h => by simp at h⟩, fun h => by simp at h, hP.rg⟩, dd.cells, dd.chg.mono hsub, fun _ h => h, fun _ h => .inl h⟩
  refine qgx rfl Fn.zdh rfl rfl ?_
  repeat' first | refine .A ?_ | refine .B ?_ | refine .C ?_ | refine .D ?_ | refine .F ?_ | refine .J ?_ | refine .f5 ?_ | refine .t6 ?_ | refine .L l4 ?_ | refine .L l01 ?_ | refine .L (qin d.row rfl) ?_ | refine .P (hOf _) ?_ | refine .P (hE0 _ hlob _) ?_ | refine .Y ?_ | fail
  rfl
 have hst0 : (ofR s.h c.S).2.2 = 0 := Decidable.not_not.1 hst
 by_cases h1 : s.nx = 1
 ·obtain ⟨H1, hF, d1⟩ := qnB (lo := lo) d hb hlob hlc.1 (feG c s) (ofR s.h c.S).2.1
  have hh1 := qnF { s with word := qiR ws (feG c s) } (qmt ws c (ofR s.h c.S).1 (ofR s.h c.S).2.1)
  have e0 : feS c s ws = ((qnq { s with word := qiR ws (feG c s) } (qmt ws c (ofR s.h c.S).1 (ofR s.h c.S).2.1)).1, ws, (qnq { s with word := qiR ws (feG c s) } (qmt ws c (ofR s.h c.S).1 (ofR s.h c.S).2.1)).2) := by
   unfold feS; rw [if_neg h0, if_pos h1, if_neg hst]
  rw [e0]
  have hF : qfV En lo Id.zdj [qkb b, qiX cb, I (feG c s), I (ofR s.h c.S).2.1] H = some (qmr (qnq { s with word := qiR ws (feG c s) } (qmt ws c (ofR s.h c.S).1 (ofR s.h c.S).2.1)).2, H1) := hF
  have d1 : DidR H H1 b (qnz c (qnq { s with word := qiR ws (feG c s) } (qmt ws c (ofR s.h c.S).1 (ofR s.h c.S).2.1)).1 gv) cb ws bs := d1
  generalize qnq { s with word := qiR ws (feG c s) } (qmt ws c (ofR s.h c.S).1 (ofR s.h c.S).2.1) = r at hF d1 hh1 ⊢
  obtain ⟨s', o⟩ := r
  simp only at hh1
  refine ⟨own, H1, ?_, ⟨hP.mem, ⟨gv, d1.row, fun a1 a2 a3 => by
   rcases hh1.2.2 with h | h | h
   ·exact absurd h a1
   ·exact absurd (h.trans h1) a2
   ·exact absurd h a3⟩, fun _ _ => by rw [hh1.1]; exact hst0, by rw [hh1.2.1]; exact hP.rg⟩, d1.cells, d1.chg.mono hsub, fun _ h => h, fun _ h => .inl h⟩
  cases o with
  | none =>
    simp only [qmr] at hF ⊢
    refine qgx rfl Fn.zdh rfl rfl ?_
    repeat' first | refine .A ?_ | refine .B ?_ | refine .C ?_ | refine .D ?_ | refine .F ?_ | refine .J ?_ | refine .t5 ?_ | refine .f5 ?_ | refine .f6 ?_ | refine .L l4 ?_ | refine .L l01 ?_ | refine .L (qin d.row rfl) ?_ | refine .L (qio d.row (Nat.le_of_ble_eq_true rfl) rfl) ?_ | refine .P (hOf _) ?_ | refine .P (hAt _) ?_ | refine .P hF ?_ | refine .Y ?_ | fail
    rfl
  | some q =>
    simp only [qmr] at hF ⊢
    refine qgx rfl Fn.zdh rfl rfl ?_
    repeat' first | refine .A ?_ | refine .B ?_ | refine .C ?_ | refine .D ?_ | refine .F ?_ | refine .J ?_ | refine .t5 ?_ | refine .f5 ?_ | refine .f6 ?_ | refine .L l4 ?_ | refine .L l01 ?_ | refine .L (qin d.row rfl) ?_ | refine .L (qio d.row (Nat.le_of_ble_eq_true rfl) rfl) ?_ | refine .P (hOf _) ?_ | refine .P (hAt _) ?_ | refine .P hF ?_ | refine .Y ?_ | fail
    rfl
 by_cases h2 : s.nx = 2
 ·obtain ⟨own', H1, hF, hR1, hC1, hx, g1, g2⟩ := qnD (lo := lo) hP.mem d hlob hlc hb h2 hst0 hP.rg
  refine ⟨own', H1, ?_, hR1, hC1, hx.mono hsub, g1, g2⟩
  generalize (feS c s ws).2.2 = o at hF ⊢
  cases o with
  | none =>
    simp only [qmr] at hF ⊢
    refine qgx rfl Fn.zdh rfl rfl ?_
    repeat' first | refine .A ?_ | refine .B ?_ | refine .C ?_ | refine .D ?_ | refine .F ?_ | refine .J ?_ | refine .t5 ?_ | refine .f5 ?_ | refine .f6 ?_ | refine .L l4 ?_ | refine .L l01 ?_ | refine .L (qin d.row rfl) ?_ | refine .L (qio d.row (Nat.le_of_ble_eq_true rfl) rfl) ?_ | refine .P (hOf _) ?_ | refine .P (hAt _) ?_ | refine .P hF ?_ | refine .Y ?_ | fail
    rfl
  | some q =>
    simp only [qmr] at hF ⊢
    refine qgx rfl Fn.zdh rfl rfl ?_
    repeat' first | refine .A ?_ | refine .B ?_ | refine .C ?_ | refine .D ?_ | refine .F ?_ | refine .J ?_ | refine .t5 ?_ | refine .f5 ?_ | refine .f6 ?_ | refine .L l4 ?_ | refine .L l01 ?_ | refine .L (qin d.row rfl) ?_ | refine .L (qio d.row (Nat.le_of_ble_eq_true rfl) rfl) ?_ | refine .P (hOf _) ?_ | refine .P (hAt _) ?_ | refine .P hF ?_ | refine .Y ?_ | fail
    rfl
 ·obtain ⟨g, rfl, hg, hbg, hgo⟩ := h3' h0 h1 h2
  have hbg' := hA.at hgo
  obtain ⟨H1, hL, d1⟩ := qlL (lo := lo) hg hC hbg' hm (hlo g hgo) hlc (hr0.get 1).2 hP.rg
  have l6 : qav H none ⟨b, 0 + 6, none⟩ = some (qkb g) := qin hr rfl
  have hr1 : H1[b]? = some (.row (qnz c s (qkb g)) false) := d1.chg.get hr (by simp [hbg, hb.1, hb.2.1, hb.2.2])
  have dr : DidR H1 H1 b (qnz c s (qkb g)) cb (qlg c s.p ws).2.1 bs := DidR.of hr1 d1.cells
  have hE := fun lo hl k => qnA (lo := lo) dr hl k
  have hc1 : Chg (qno own cb) H H1 := d1.chg.mono (qnp hgo)
  have e0 : feS c s ws = qnr s (qlg c s.p ws) := by unfold feS; rw [if_neg h0, if_neg h1, if_neg h2]
  have hpw := qnE (c := c) hP.rg hr0
  rw [e0]
  unfold qlF at hL
  have hrg := d1.row
  generalize qlg c s.p ws = r at hL dr hrg hE hpw ⊢
  obtain ⟨p', w', q, dn⟩ := r
  simp only at hL hrg hpw
  cases dn with
  | true =>
    have dd := dr.put (row' := qnz c { s with p := p', nx := 0 } (qkb g)) hb
    refine ⟨own, _, ?_, ⟨hP.mem, ⟨qkb g, dd.row, fun h => by simp [qnr] at h⟩, fun h => by simp [qnr] at h, hpw⟩, dd.cells, hc1.trans (dd.chg.mono hsub), fun _ h => h, fun _ h => .inl h⟩
    refine qgx rfl Fn.zdh rfl rfl ?_
    repeat' first | refine .A ?_ | refine .B ?_ | refine .C ?_ | refine .D ?_ | refine .F ?_ | refine .J ?_ | refine .f5 ?_ | refine .f6 ?_ | (show EG _ _ (⟨_, .load _ _, _, _⟩ :: _) _ _ _ _ _ _; first | refine .L l4 ?_ | refine .L l01 ?_ | refine .L l6 ?_ | refine .L (qin d.row rfl) ?_ | refine .L (qio d.row (Nat.le_of_ble_eq_true rfl) rfl) ?_) | refine .P (hOf _) ?_ | refine .P (hAt _) ?_ | refine .P hL ?_ | refine .P (hE _ hlob _) ?_ | refine .Y ?_ | fail
    rfl
  | false =>
    refine ⟨own, H1, ?_, ⟨hP.mem, ⟨qkb g, hr1, fun _ _ _ => ⟨g, rfl, hrg, hbg, hgo⟩⟩, fun _ _ => hst0, hpw⟩, dr.cells, hc1, fun _ h => h, fun _ h => .inl h⟩
    refine qgx rfl Fn.zdh rfl rfl ?_
    repeat' first | refine .A ?_ | refine .B ?_ | refine .D ?_ | refine .F ?_ | refine .J ?_ | refine .f5 ?_ | refine .f6 ?_ | (show EG _ _ (⟨_, .load _ _, _, _⟩ :: _) _ _ _ _ _ _; first | refine .L l4 ?_ | refine .L l01 ?_ | refine .L l6 ?_ | refine .L (qin d.row rfl) ?_ | refine .L (qio d.row (Nat.le_of_ble_eq_true rfl) rfl) ?_) | refine .P (hOf _) ?_ | refine .P (hAt _) ?_ | refine .P hL ?_ | refine .Y ?_ | fail
    rfl
end
end Go.Proofs.YtnfcohmbcgfhbaaGreat

