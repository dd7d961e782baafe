/- The stack's machines, step by step: by the program. -/
import Derived.Test.YtnfcohmbcgfhbaaGreatThreadP3
import Derived.Test.YtnfcohmbcgfhbaaGreatThreadP2
set_option linter.unusedVariables false
set_option linter.unusedSimpArgs false

namespace Go.Proofs.YtnfcohmbcgfhbaaGreat
open Go Go.Ir

structure Sk where
 nx : Int
 slot : Int
 word : Int
 to : Int
def qle (c : Cfg) (s : Sk) : List Value := [I c.T, I c.S, I s.nx, I s.slot, I s.word, I s.to]

structure Did (H H' : qab) (b : Nat) (row : List Value) (cb : CB) (ws bs : List Int) : Prop where
 row : H'[b]? = some (.row row false)
 cells : IsC H' cb ws bs
 chg : Chg [b, cb.P, cb.W, cb.Y] H H'

def qlf (c : Cfg) (s : Sk) (ws : List Int) : Sk × List Int × Int × Int × Bool :=
 if s.nx = 1 then
  match qkx (qiR ws 1) with
  | none => ({ s with word := qiR ws 1, nx := 0 }, ws, 0, 2, true)
  | some p => if p.1 = 0 then ({ s with word := qiR ws 1, nx := 0 }, ws, 0, 11, true) else ({ s with word := qiR ws 1, slot := IntKind.i64.wrap ((p.1 : Nat) - 1), nx := 2 }, ws, 0, 0, false)
 else if s.nx = 2 then
  if (qkD s.word (qiR ws (qjj c s.slot 2))).2.2 = 0 then ({ s with to := (qkD s.word (qiR ws (qjj c s.slot 2))).1, nx := 3 }, ws, 0, 0, false) else ({ s with nx := 0 }, ws, 0, 2, true)
 else if s.nx = 3 then
  if qi3 ws 1 s.word then ({ s with nx := 0 }, qiS ws 1 s.to, s.slot, 0, true) else ({ s with nx := 1 }, ws, 0, 0, false)
 else (s, ws, 0, 1, true)
def qlg (c : Cfg) (s : Sk) (ws : List Int) : Sk × List Int × Int × Bool :=
 if s.nx = 1 then
  if qjj c s.slot 2 < 0 then ({ s with nx := 0 }, ws, 1, true)
  else match qkx (qiR ws 1) with
   | none => ({ s with word := qiR ws 1, nx := 0 }, ws, 2, true)
   | some _ => ({ s with word := qiR ws 1, nx := 2 }, ws, 0, false)
 else if s.nx = 2 then ({ s with to := (qkF s.word s.slot).1, nx := 3 }, qiS ws (qjj c s.slot 2) (qkF s.word s.slot).2.1, 0, false)
 else if s.nx = 3 then
  if qi3 ws 1 s.word then ({ s with nx := 0 }, qiS ws 1 s.to, 0, true) else ({ s with nx := 1 }, ws, 0, false)
 else (s, ws, 1, true)

section
variable {lo : Nat} {H : qab} {b : Nat} {c : Cfg} {s : Sk} {cb : CB} {ws bs : List Int}

def qlh : Option (Nat × Nat) → Value
 | some p => .tuple #[N p.1, .bool true]
 | none => .tuple #[I 0, .bool false]
def qli (w : Int) : Value := qlh (qkx w)

theorem qlj (hr : H[b]? = some (.row (qle c s) false)) (hC : IsC H cb ws bs) (hb : b ≠ cb.P ∧ b ≠ cb.W ∧ b ≠ cb.Y) (hm : c.may) (hlo : lo ≤ b) (hlc : lo ≤ cb.P) :
  ∃ H', qfV En lo Id.zdD [qkb b, ifC cb] H = some (qli (qiR ws 1), H') ∧ Did H H' b (qle c { s with word := qiR ws 1 }) cb ws bs := by
 have l0 : qav H (some 2) ⟨b, 0 + 0, none⟩ = some (lay c.T c.S) := qio hr (Nat.le_of_ble_eq_true rfl) rfl
 have hS := fun lo => qji lo H hm
 obtain ⟨H1, hL, hC1, ho1⟩ := qi1 hC hlc 1
 have c1 : Chg [b, cb.P, cb.W, cb.Y] H H1 := (Chg.of ho1).mono (by simp)
 have hr1 : H1[b]? = some (.row (qle c s) false) := (Chg.of ho1).get hr (by simp; omega)
 generalize qiR ws 1 = w at hL ⊢
 have hst : stN lo H1 ⟨b, 0 + 4, none⟩ (qaf (I w)) = some (H1.set b (.row (qle c { s with word := w }) false)) := qip hr1 hlo (Nat.le_of_ble_eq_true rfl) rfl
 have hC2 := hC1.chg (S := [b]) ((Chg.refl [b] H1).set (k := .row (qle c { s with word := w }) false) (i := b) (by simp)) (by simp; omega)
 have c2 := c1.set (k := .row (qle c { s with word := w }) false) (i := b) (by simp)
 have hr2 : (H1.set b (.row (qle c { s with word := w }) false))[b]? = some (.row (qle c { s with word := w }) false) := qij (qim hr1)
 generalize H1.set b (.row (qle c { s with word := w }) false) = H2 at hst hC2 c2 hr2
 have l4 : qav H2 none ⟨b, 0 + 4, none⟩ = some (I w) := qin hr2 rfl
 have hU := fun lo => qkY lo H2 w
 refine ⟨H2, ?_, hr2, hC2, c2⟩
 refine qgx rfl Fn.zdD rfl rfl ?_
 unfold qkB at hU
 unfold qli
 cases hu : qkx w with
 | none =>
   rw [hu] at hU
   simp only [qkA] at hU
   repeat' first | refine .A ?_ | refine .B ?_ | refine .J ?_ | refine .f5 ?_ | refine .L l0 ?_ | refine .L l4 ?_ | refine .P (hS _) ?_ | refine .P (hU _) ?_ | refine .W hL ?_ | refine .S hst ?_ | refine .F ?_ | refine .Y ?_ | fail
   rfl
 | some p =>
   obtain ⟨t, g⟩ := p
   rw [hu] at hU
   simp only [qkA] at hU
   repeat' first | refine .A ?_ | refine .B ?_ | refine .J ?_ | refine .t5 ?_ | refine .L l0 ?_ | refine .L l4 ?_ | refine .P (hS _) ?_ | refine .P (hU _) ?_ | refine .W hL ?_ | refine .S hst ?_ | refine .F ?_ | refine .Y ?_ | fail
   rfl

theorem qlk (hr : H[b]? = some (.row (qle c s) false)) (hC : IsC H cb ws bs) (hb : b ≠ cb.P ∧ b ≠ cb.W ∧ b ≠ cb.Y) (hm : c.may) (hlo : lo ≤ b) (hlc : lo ≤ cb.P ∧ lo ≤ cb.W) :
  ∃ H', qfV En lo Id.zdE [qkb b, ifC cb] H = some (.bool (qi3 ws 1 s.word), H') ∧ Did H H' b (qle c { s with nx := if qi3 ws 1 s.word then 0 else 1 }) cb (if qi3 ws 1 s.word then qiS ws 1 s.to else ws) bs := by
 have l0 : qav H (some 2) ⟨b, 0 + 0, none⟩ = some (lay c.T c.S) := qio hr (Nat.le_of_ble_eq_true rfl) rfl
 have l4 : qav H none ⟨b, 0 + 4, none⟩ = some (I s.word) := qin hr rfl
 have l5 : qav H none ⟨b, 0 + 5, none⟩ = some (I s.to) := qin hr rfl
 have hS := fun lo => qji lo H hm
 obtain ⟨H1, hL, hC1, ho1⟩ := qi4 hC hlc.1 hlc.2 1 s.word s.to
 have c1 : Chg [b, cb.P, cb.W, cb.Y] H H1 := (Chg.of ho1).mono (by simp)
 have hr1 : H1[b]? = some (.row (qle c s) false) := (Chg.of ho1).get hr (by simp; omega)
 cases hb' : qi3 ws 1 s.word with
 | true =>
   rw [hb'] at hL hC1
   have hst : stN lo H1 ⟨b, 0 + 2, none⟩ (qaf (I 0)) = some (H1.set b (.row (qle c { s with nx := 0 }) false)) := qip hr1 hlo (Nat.le_of_ble_eq_true rfl) rfl
   refine ⟨_, ?_, qij (qim hr1), hC1.chg (S := [b]) ((Chg.refl [b] H1).set (i := b) (by simp)) (by simp; omega), c1.set (i := b) (by simp)⟩
   refine qgx rfl Fn.zdE rfl rfl ?_
   repeat' first | refine .A ?_ | refine .B ?_ | refine .C ?_ | refine .J ?_ | refine .L l0 ?_ | refine .P (hS _) ?_ | refine .W hL ?_ | refine .X l4 (qis l4) (qkd _) ?_ | refine .X l5 (qis l5) (qkd _) ?_ | refine .S hst ?_ | refine .F ?_ | refine .Y ?_ | fail
   rfl
 | false =>
   rw [hb'] at hL hC1
   have hst : stN lo H1 ⟨b, 0 + 2, none⟩ (qaf (I 1)) = some (H1.set b (.row (qle c { s with nx := 1 }) false)) := qip hr1 hlo (Nat.le_of_ble_eq_true rfl) rfl
   refine ⟨_, ?_, qij (qim hr1), hC1.chg (S := [b]) ((Chg.refl [b] H1).set (i := b) (by simp)) (by simp; omega), c1.set (i := b) (by simp)⟩
   refine qgx rfl Fn.zdE rfl rfl ?_
   repeat' first | refine .A ?_ | refine .B ?_ | refine .D ?_ | refine .F ?_ | refine .J ?_ | refine .L l0 ?_ | refine .P (hS _) ?_ | refine .W hL ?_ | refine .X l4 (qis l4) (qkd _) ?_ | refine .X l5 (qis l5) (qkd _) ?_ | refine .S hst ?_ | refine .Y ?_ | fail
   rfl
end
end Go.Proofs.YtnfcohmbcgfhbaaGreat

/- A slot taken, a slot given, step by step: by the program. -/
namespace Go.Proofs.YtnfcohmbcgfhbaaGreat
open Go Go.Ir

section
variable {lo : Nat} {H : qab} {b : Nat} {c : Cfg} {s : Sk} {cb : CB} {ws bs : List Int}

theorem Did.put {H1 : qab} {row row' : List Value} (d : Did H H1 b row cb ws bs) (hb : b ≠ cb.P ∧ b ≠ cb.W ∧ b ≠ cb.Y) : Did H (H1.set b (.row row' false)) b row' cb ws bs :=
 ⟨qij (qim d.row), d.cells.chg (S := [b]) ((Chg.refl [b] H1).set (i := b) (by simp)) (by simp; omega), d.chg.set (i := b) (by simp)⟩
theorem Did.same (hr : H[b]? = some (.row (qle c s) false)) (hC : IsC H cb ws bs) : Did H H b (qle c s) cb ws bs := ⟨hr, hC, Chg.refl _ _⟩

theorem qll (hr : H[b]? = some (.row (qle c s) false)) (hlo : lo ≤ b) (e : Int) : qfV En lo Id.zdC [qkb b, I e] H = some (.tuple #[I 0, I e, .bool true], H.set b (.row (qle c { s with nx := 0 }) false)) := by
 have hst : stN lo H ⟨b, 0 + 2, none⟩ (qaf (I 0)) = some (H.set b (.row (qle c { s with nx := 0 }) false)) := qip hr hlo (Nat.le_of_ble_eq_true rfl) rfl
 refine qgx rfl Fn.zdC rfl rfl ?_
 repeat' first | refine .A ?_ | refine .B ?_ | refine .J ?_ | refine .S hst ?_ | refine .F ?_ | refine .Y ?_ | fail
 rfl

def qlm (r : Sk × List Int × Int × Int × Bool) : Value := .tuple #[I r.2.2.1, I r.2.2.2.1, .bool r.2.2.2.2]
def qln (r : Sk × List Int × Int × Bool) : Value := .tuple #[I r.2.2.1, .bool r.2.2.2]

set_option maxHeartbeats 1600000 in
theorem qlo (hr : H[b]? = some (.row (qle c s) false)) (hC : IsC H cb ws bs) (hb : b ≠ cb.P ∧ b ≠ cb.W ∧ b ≠ cb.Y) (hm : c.may) (hlo : lo ≤ b) (hlc : lo ≤ cb.P ∧ lo ≤ cb.W) :
  ∃ H', qfV En lo Id.zdA [qkb b, ifC cb] H = some (qlm (qlf c s ws), H') ∧ Did H H' b (qle c (qlf c s ws).1) cb (qlf c s ws).2.1 bs := by
 have l2 : qav H none ⟨b, 0 + 0 + 2, none⟩ = some (I s.nx) := qin hr rfl
 unfold qlf qlm
 by_cases h1 : s.nx = 1
 ·rw [if_pos h1]
  rw [h1] at l2
  obtain ⟨H1, hL, d1⟩ := qlj hr hC hb hm hlo hlc.1
  unfold qli at hL
  generalize qiR ws 1 = w at hL d1 ⊢
  have hE := fun lo hl e => qll (lo := lo) d1.row hl e
  cases hu : qkx w with
  | none =>
    rw [hu] at hL
    simp only [qlh] at hL
    refine ⟨_, ?_, d1.put hb⟩
    refine qgx rfl Fn.zdA rfl rfl ?_
    repeat' first | refine .A ?_ | refine .B ?_ | refine .C ?_ | refine .D ?_ | refine .F ?_ | refine .G ?_ | refine .J ?_ | refine .t5 ?_ | refine .L l2 ?_ | refine .P hL ?_ | refine .P (hE _ hlo _) ?_ | refine .Y ?_ | fail
    rfl
  | some p =>
    obtain ⟨t, g⟩ := p
    rw [hu] at hL
    simp only [qlh] at hL ⊢
    by_cases ht : t = 0
    ·rw [if_pos ht]
     refine ⟨_, ?_, d1.put hb⟩
     refine qgx rfl Fn.zdA rfl rfl ?_
     repeat' first | refine .A ?_ | refine .B ?_ | refine .C ?_ | refine .D ?_ | refine .F ?_ | refine .G ?_ | refine .J ?_ | refine .t5 ?_ | refine .L l2 ?_ | refine .P hL ?_ | refine .P (hE _ hlo _) ?_ | refine .Y ?_ | fail
     rfl
    ·rw [if_neg ht]
     have d2 := d1.put (row' := qle c { s with word := w, slot := IntKind.i64.wrap ((t : Nat) - 1) }) hb
     have hs1 : stN lo H1 ⟨b, 0 + 0 + 3, none⟩ (qaf (I (IntKind.i64.wrap ((t : Nat) - 1)))) = some (H1.set b (.row (qle c { s with word := w, slot := IntKind.i64.wrap ((t : Nat) - 1) }) false)) := qip d1.row hlo (Nat.le_of_ble_eq_true rfl) rfl
     generalize H1.set b (.row (qle c { s with word := w, slot := IntKind.i64.wrap ((t : Nat) - 1) }) false) = H2 at d2 hs1
     have hs2 : stN lo H2 ⟨b, 0 + 0 + 2, none⟩ (qaf (I 2)) = some (H2.set b (.row (qle c { s with word := w, slot := IntKind.i64.wrap ((t : Nat) - 1), nx := 2 }) false)) := qip d2.row hlo (Nat.le_of_ble_eq_true rfl) rfl
     refine ⟨_, ?_, d2.put hb⟩
     refine qgx rfl Fn.zdA rfl rfl ?_
     repeat' first | refine .A ?_ | refine .B ?_ | refine .C ?_ | refine .D ?_ | refine .F ?_ | refine .G ?_ | refine .H ?_ | refine .J ?_ | refine .t5 ?_ | refine .f5 ?_ | refine .L l2 ?_ | refine .P hL ?_ | refine .S hs1 ?_ | refine .S hs2 ?_ | refine .Y ?_ | fail
     rfl
 ·rw [if_neg h1]
  by_cases h2 : s.nx = 2
  ·rw [if_pos h2]
   have l0 : qav H (some 2) ⟨b, 0 + 0 + 0, none⟩ = some (lay c.T c.S) := qio hr (Nat.le_of_ble_eq_true rfl) rfl
   have l3 : qav H none ⟨b, 0 + 0 + 3, none⟩ = some (I s.slot) := qin hr rfl
   have l4 : qav H none ⟨b, 0 + 0 + 4, none⟩ = some (I s.word) := qin hr rfl
   have hK := fun lo => qjl lo H hm s.slot
   obtain ⟨H1, hL, hC1, ho1⟩ := qi1 hC hlc.1 (qjj c s.slot 2)
   have c1 : Chg [b, cb.P, cb.W, cb.Y] H H1 := (Chg.of ho1).mono (by simp)
   have hr1 : H1[b]? = some (.row (qle c s) false) := (Chg.of ho1).get hr (by simp; omega)
   have d1 : Did H H1 b (qle c s) cb ws bs := ⟨hr1, hC1, c1⟩
   have k4 : qav H1 none ⟨b, 0 + 0 + 4, none⟩ = some (I s.word) := qin hr1 rfl
   have hP := fun lo => qk0 lo H1 s.word (qiR ws (qjj c s.slot 2))
   have hE := fun lo hl e => qll (lo := lo) hr1 hl e
   unfold qkG at hP
   generalize qkD s.word (qiR ws (qjj c s.slot 2)) = r at hP ⊢
   obtain ⟨to, sl, co⟩ := r
   simp only at hP ⊢
   by_cases hc0 : co = 0
   ·rw [if_pos hc0]
    have d2 := d1.put (row' := qle c { s with to := to }) hb
    have hs1 : stN lo H1 ⟨b, 0 + 0 + 5, none⟩ (qaf (I to)) = some (H1.set b (.row (qle c { s with to := to }) false)) := qip hr1 hlo (Nat.le_of_ble_eq_true rfl) rfl
    generalize H1.set b (.row (qle c { s with to := to }) false) = H2 at d2 hs1
    have hs2 : stN lo H2 ⟨b, 0 + 0 + 2, none⟩ (qaf (I 3)) = some (H2.set b (.row (qle c { s with to := to, nx := 3 }) false)) := qip d2.row hlo (Nat.le_of_ble_eq_true rfl) rfl
    refine ⟨_, ?_, d2.put hb⟩
    refine qgx rfl Fn.zdA rfl rfl ?_
    repeat' first | refine .A ?_ | refine .B ?_ | refine .C ?_ | refine .D ?_ | refine .F ?_ | refine .G ?_ | refine .H ?_ | refine .J ?_ | refine .t5 ?_ | refine .f5 ?_ | refine .f6 ?_ | refine .L l2 ?_ | refine .L l0 ?_ | refine .L l3 ?_ | refine .P (hK _) ?_ | refine .P (hP _) ?_ | refine .W hL ?_ | refine .X k4 (qkc l4 l4) (qkd _) ?_ | refine .S hs1 ?_ | refine .S hs2 ?_ | refine .Y ?_ | fail
    rfl
   ·rw [if_neg hc0]
    refine ⟨_, ?_, d1.put hb⟩
    refine qgx rfl Fn.zdA rfl rfl ?_
    repeat' first | refine .A ?_ | refine .B ?_ | refine .C ?_ | refine .D ?_ | refine .F ?_ | refine .G ?_ | refine .J ?_ | refine .t5 ?_ | refine .f5 ?_ | refine .t6 ?_ | refine .L l2 ?_ | refine .L l0 ?_ | refine .L l3 ?_ | refine .P (hK _) ?_ | refine .P (hP _) ?_ | refine .P (hE _ hlo _) ?_ | refine .W hL ?_ | refine .X k4 (qkc l4 l4) (qkd _) ?_ | refine .Y ?_ | fail
    rfl
  ·rw [if_neg h2]
   by_cases h3 : s.nx = 3
   ·rw [if_pos h3]
    obtain ⟨H1, hW, d1⟩ := qlk hr hC hb hm hlo hlc
    have k3 : qav H1 none ⟨b, 0 + 0 + 3, none⟩ = some (I s.slot) := qin d1.row rfl
    refine ⟨H1, ?_, ?_⟩
    ·refine qgx rfl Fn.zdA rfl rfl ?_
     cases hb' : qi3 ws 1 s.word
     all_goals
      rw [hb'] at hW
      repeat' first | refine .A ?_ | refine .B ?_ | refine .C ?_ | refine .D ?_ | refine .F ?_ | refine .G ?_ | refine .H ?_ | refine .J ?_ | refine .t5 ?_ | refine .f5 ?_ | refine .L l2 ?_ | refine .L k3 ?_ | refine .P hW ?_ | refine .Y ?_ | fail
      rfl
    ·cases hb' : qi3 ws 1 s.word
     all_goals
      rw [hb'] at d1
      exact d1
   ·rw [if_neg h3]
    refine ⟨H, ?_, .same hr hC⟩
    refine qgx rfl Fn.zdA rfl rfl ?_
    repeat' first | refine .A ?_ | refine .B ?_ | refine .D ?_ | refine .F ?_ | refine .G ?_ | refine .J ?_ | refine .f5 ?_ | refine .L l2 ?_ | refine .Y ?_ | fail
    rfl

set_option maxHeartbeats 1600000 in
theorem qlp (hr : H[b]? = some (.row (qle c s) false)) (hC : IsC H cb ws bs) (hb : b ≠ cb.P ∧ b ≠ cb.W ∧ b ≠ cb.Y) (hm : c.may) (hlo : lo ≤ b) (hlc : lo ≤ cb.P ∧ lo ≤ cb.W) :
  ∃ H', qfV En lo Id.zdB [qkb b, ifC cb] H = some (qln (qlg c s ws), H') ∧ Did H H' b (qle c (qlg c s ws).1) cb (qlg c s ws).2.1 bs := by
 have l2 : qav H none ⟨b, 0 + 0 + 2, none⟩ = some (I s.nx) := qin hr rfl
 have l0 : qav H (some 2) ⟨b, 0 + 0 + 0, none⟩ = some (lay c.T c.S) := qio hr (Nat.le_of_ble_eq_true rfl) rfl
 have l3 : qav H none ⟨b, 0 + 0 + 3, none⟩ = some (I s.slot) := qin hr rfl
 have l4 : qav H none ⟨b, 0 + 0 + 4, none⟩ = some (I s.word) := qin hr rfl
 have hK := fun lo => qjl lo H hm s.slot
 unfold qlg qln
 by_cases h1 : s.nx = 1
 ·rw [if_pos h1]
  rw [h1] at l2
  by_cases hsl : qjj c s.slot 2 < 0
  ·rw [if_pos hsl]
   have hs1 : stN lo H ⟨b, 0 + 0 + 2, none⟩ (qaf (I 0)) = some (H.set b (.row (qle c { s with nx := 0 }) false)) := qip hr hlo (Nat.le_of_ble_eq_true rfl) rfl
   refine ⟨_, ?_, (Did.same hr hC).put hb⟩
   refine qgx rfl Fn.zdB rfl rfl ?_
   repeat' first | refine .A ?_ | refine .B ?_ | refine .C ?_ | refine .D ?_ | refine .F ?_ | refine .G ?_ | refine .J ?_ | refine .t1 ?_ | refine .t5 ?_ | refine .L l2 ?_ | refine .L l0 ?_ | refine .L l3 ?_ | refine .P (hK _) ?_ | refine .S hs1 ?_ | refine .Y ?_ | fail
   rfl
  ·rw [if_neg hsl]
   obtain ⟨H1, hL, d1⟩ := qlj hr hC hb hm hlo hlc.1
   unfold qli at hL
   generalize qiR ws 1 = w at hL d1 ⊢
   cases hu : qkx w with
   | none =>
     rw [hu] at hL
     simp only [qlh] at hL
     have hs1 : stN lo H1 ⟨b, 0 + 0 + 2, none⟩ (qaf (I 0)) = some (H1.set b (.row (qle c { s with word := w, nx := 0 }) false)) := qip d1.row hlo (Nat.le_of_ble_eq_true rfl) rfl
     refine ⟨_, ?_, d1.put hb⟩
     refine qgx rfl Fn.zdB rfl rfl ?_
     repeat' first | refine .A ?_ | refine .B ?_ | refine .C ?_ | refine .D ?_ | refine .F ?_ | refine .G ?_ | refine .J ?_ | refine .f1 ?_ | refine .t5 ?_ | refine .L l2 ?_ | refine .L l0 ?_ | refine .L l3 ?_ | refine .P (hK _) ?_ | refine .P hL ?_ | refine .S hs1 ?_ | refine .Y ?_ | fail
     rfl
   | some p =>
     obtain ⟨t, g⟩ := p
     rw [hu] at hL
     simp only [qlh] at hL
     have hs1 : stN lo H1 ⟨b, 0 + 0 + 2, none⟩ (qaf (I 2)) = some (H1.set b (.row (qle c { s with word := w, nx := 2 }) false)) := qip d1.row hlo (Nat.le_of_ble_eq_true rfl) rfl
     refine ⟨_, ?_, d1.put hb⟩
     refine qgx rfl Fn.zdB rfl rfl ?_
     repeat' first | refine .A ?_ | refine .B ?_ | refine .C ?_ | refine .D ?_ | refine .F ?_ | refine .G ?_ | refine .H ?_ | refine .J ?_ | refine .f1 ?_ | refine .t5 ?_ | refine .L l2 ?_ | refine .L l0 ?_ | refine .L l3 ?_ | refine .P (hK _) ?_ | refine .P hL ?_ | refine .S hs1 ?_ | refine .Y ?_ | fail
     rfl
 ·rw [if_neg h1]
  by_cases h2 : s.nx = 2
  ·rw [if_pos h2]
   have hP := fun lo => qk1 lo H s.word s.slot
   unfold qkG at hP
   generalize qkF s.word s.slot = r at hP ⊢
   obtain ⟨to, be, co⟩ := r
   simp only at hP ⊢
   obtain ⟨H1, hL, hC1, ho1⟩ := qi2 hC hlc.1 hlc.2 (qjj c s.slot 2) be
   have c1 : Chg [b, cb.P, cb.W, cb.Y] H H1 := (Chg.of ho1).mono (by simp)
   have hr1 : H1[b]? = some (.row (qle c s) false) := (Chg.of ho1).get hr (by simp; omega)
   have d1 : Did H H1 b (qle c s) cb (qiS ws (qjj c s.slot 2) be) bs := ⟨hr1, hC1, c1⟩
   have d2 := d1.put (row' := qle c { s with to := to }) hb
   have hs1 : stN lo H1 ⟨b, 0 + 0 + 5, none⟩ (qaf (I to)) = some (H1.set b (.row (qle c { s with to := to }) false)) := qip hr1 hlo (Nat.le_of_ble_eq_true rfl) rfl
   generalize H1.set b (.row (qle c { s with to := to }) false) = H2 at d2 hs1
   have hs2 : stN lo H2 ⟨b, 0 + 0 + 2, none⟩ (qaf (I 3)) = some (H2.set b (.row (qle c { s with to := to, nx := 3 }) false)) := qip d2.row hlo (Nat.le_of_ble_eq_true rfl) rfl
   refine ⟨_, ?_, d2.put hb⟩
   refine qgx rfl Fn.zdB rfl rfl ?_
   repeat' first | refine .A ?_ | refine .B ?_ | refine .C ?_ | refine .D ?_ | refine .F ?_ | refine .G ?_ | refine .H ?_ | refine .J ?_ | refine .t5 ?_ | refine .f5 ?_ | refine .L l2 ?_ | refine .L l0 ?_ | refine .L l3 ?_ | refine .L l4 ?_ | refine .P (hK _) ?_ | refine .P (hP _) ?_ | refine .W hL ?_ | refine .S hs1 ?_ | refine .S hs2 ?_ | refine .Y ?_ | fail
   rfl
  ·rw [if_neg h2]
   by_cases h3 : s.nx = 3
   ·rw [if_pos h3]
    obtain ⟨H1, hW, d1⟩ := qlk hr hC hb hm hlo hlc
    refine ⟨H1, ?_, ?_⟩
    ·refine qgx rfl Fn.zdB rfl rfl ?_
     cases hb' : qi3 ws 1 s.word
     all_goals
      rw [hb'] at hW
      repeat' first | refine .A ?_ | refine .B ?_ | refine .C ?_ | refine .D ?_ | refine .F ?_ | refine .G ?_ | refine .J ?_ | refine .t5 ?_ | refine .f5 ?_ | refine .L l2 ?_ | refine .P hW ?_ | refine .Y ?_ | fail
      rfl
    ·cases hb' : qi3 ws 1 s.word
     all_goals
      rw [hb'] at d1
      exact d1
   ·rw [if_neg h3]
    refine ⟨H, ?_, .same hr hC⟩
    refine qgx rfl Fn.zdB rfl rfl ?_
    repeat' first | refine .A ?_ | refine .B ?_ | refine .D ?_ | refine .F ?_ | refine .G ?_ | refine .J ?_ | refine .f5 ?_ | refine .L l2 ?_ | refine .Y ?_ | fail
    rfl
end
end Go.Proofs.YtnfcohmbcgfhbaaGreat

/- The document's cells. -/
namespace Go.Proofs.YtnfcohmbcgfhbaaGreat
open Go Go.Ir

structure IsR (H : qab) (c : CB) (ws bs : List Int) : Prop where
 p : ∃ st, H[c.P]? = some (.row (qiQ c ws.length bs.length st) false)
 w : H[c.W]? = some (.row (qiB ws) false)
 y : H[c.Y]? = some (.row (qiB bs) false)
 pw : c.P ≠ c.W
 py : c.P ≠ c.Y
 wy : c.W ≠ c.Y
 byte : ∀ b ∈ bs, 0 ≤ b ∧ b < 256

theorem IsR.chg {S : List Nat} {H H' : qab} {c : CB} {ws bs : List Int} (hC : IsR H c ws bs) (a : Chg S H H') (h : c.P ∉ S ∧ c.W ∉ S ∧ c.Y ∉ S) : IsR H' c ws bs := by
 obtain ⟨st, hp⟩ := hC.p
 exact ⟨⟨st, a.get hp h.1⟩, a.get hC.w h.2.1, a.get hC.y h.2.2, hC.pw, hC.py, hC.wy, hC.byte⟩

section
variable {lo : Nat} {H : qab} {c : CB} {ws bs : List Int}

theorem IsR.p0 (hC : IsR H c ws bs) : qav H none ⟨c.P, 0 + 0, none⟩ = some (.slice (some ⟨c.W, 0, none⟩) ws.length ws.length) := by
 obtain ⟨st, hp⟩ := hC.p
 exact qin hp rfl
theorem IsR.p1 (hC : IsR H c ws bs) : qav H none ⟨c.P, 0 + 1, none⟩ = some (.slice (some ⟨c.Y, 0, none⟩) bs.length bs.length) := by
 obtain ⟨st, hp⟩ := hC.p
 exact qin hp rfl
theorem IsR.w_ld (hC : IsR H c ws bs) {k : Nat} (hk : k < ws.length) : qav H none ⟨c.W, 0 + k * 1, none⟩ = some (I (ws.getD k 0)) :=
 qin hC.w (by rw [Nat.zero_add, Nat.mul_one, qiB, List.getElem?_map, qiW hk]; rfl)
theorem IsR.y_ld (hC : IsR H c ws bs) {k : Nat} (hk : k < bs.length) : qav H none ⟨c.Y, 0 + k * 1, none⟩ = some (I (bs.getD k 0)) :=
 qin hC.y (by rw [Nat.zero_add, Nat.mul_one, qiB, List.getElem?_map, qiW hk]; rfl)
theorem IsR.set_w (hC : IsR H c ws bs) {k : Nat} (hk : k < ws.length) (n : Int) (hlo : lo ≤ c.W) :
  stN lo H ⟨c.W, 0 + k * 1, none⟩ (qaf (I n)) = some (H.set c.W (.row (qiB (ws.set k n)) false)) ∧ IsR (H.set c.W (.row (qiB (ws.set k n)) false)) c (ws.set k n) bs ∧ Only [c.W] H (H.set c.W (.row (qiB (ws.set k n)) false)) := by
 refine ⟨?_, ⟨?_, qij (qim hC.w), qik hC.wy hC.y, hC.pw, hC.py, hC.wy, hC.byte⟩, (Only.refl _ _).set (by simp)⟩
 ·rw [Nat.zero_add, Nat.mul_one]
  exact qip hC.w hlo (by show k + 1 ≤ _; simp [qiB]; omega) (qi0 hk)
 ·obtain ⟨st, hp⟩ := hC.p
  exact ⟨st, by rw [List.length_set]; exact qik hC.pw.symm hp⟩
theorem IsR.set_y (hC : IsR H c ws bs) {k : Nat} (hk : k < bs.length) (n : Int) (hn : 0 ≤ n ∧ n < 256) (hlo : lo ≤ c.Y) :
  stN lo H ⟨c.Y, 0 + k * 1, none⟩ (qaf (I n)) = some (H.set c.Y (.row (qiB (bs.set k n)) false)) ∧ IsR (H.set c.Y (.row (qiB (bs.set k n)) false)) c ws (bs.set k n) ∧ Only [c.Y] H (H.set c.Y (.row (qiB (bs.set k n)) false)) := by
 refine ⟨?_, ⟨?_, qik hC.wy.symm hC.w, qij (qim hC.y), hC.pw, hC.py, hC.wy, fun b hb => ?_⟩, (Only.refl _ _).set (by simp)⟩
 ·rw [Nat.zero_add, Nat.mul_one]
  exact qip hC.y hlo (by show k + 1 ≤ _; simp [qiB]; omega) (qi0 hk)
 ·obtain ⟨st, hp⟩ := hC.p
  exact ⟨st, by rw [List.length_set]; exact qik hC.py.symm hp⟩
 ·rcases List.mem_or_eq_of_mem_set hb with h | h
  ·exact hC.byte b h
  ·subst h; exact hn

theorem IsR.tick (hC : IsR H c ws bs) (hlo : lo ≤ c.P) : ∃ st, qav H none ⟨c.P, 0 + 2, none⟩ = some (I st) ∧ ∃ H', stN lo H ⟨c.P, 0 + 2, none⟩ (qaf (I (IntKind.i64.wrap (st + 1)))) = some H' ∧ IsR H' c ws bs ∧ Only [c.P] H H' := by
 obtain ⟨st, hp⟩ := hC.p
 refine ⟨st, qin hp rfl, H.set c.P (.row (qiQ c ws.length bs.length (IntKind.i64.wrap (st + 1))) false), qip hp hlo (Nat.le_of_ble_eq_true rfl) rfl, ⟨⟨_, qij (qim hp)⟩, qik hC.pw hC.w, qik hC.py hC.y, hC.pw, hC.py, hC.wy, hC.byte⟩, (Only.refl _ _).set (by simp)⟩

theorem qlq (hC : IsR H c ws bs) (hlo : lo ≤ c.P) (i : Int) : ∃ H', qfV En lo Id.zcs [qiX c, I i] H = some (I (qiR ws i), H') ∧ IsR H' c ws bs ∧ Only [c.P] H H' := by
 obtain ⟨st, l2, H1, hs, hC1, ho⟩ := hC.tick hlo
 have l0 := hC1.p0
 refine ⟨H1, ?_, hC1, ho⟩
 refine qgx rfl Fn.zcs rfl rfl ?_
 unfold qiR
 by_cases h0 : i < 0
 ·rw [if_neg (by omega)]
  repeat' first | refine .A ?_ | refine .B ?_ | refine .C ?_ | refine .J ?_ | refine .t1 ?_ | refine .L l2 ?_ | refine .S hs ?_ | refine .D ?_ | refine .F ?_ | refine .Y ?_ | fail
  rfl
 ·obtain ⟨k, rfl⟩ : ∃ k : Nat, i = k := ⟨i.toNat, by omega⟩
  by_cases h1 : k < ws.length
  ·have lw := hC1.w_ld h1
   rw [if_pos ⟨by omega, by omega⟩, Int.toNat_natCast]
   repeat' first | refine .A ?_ | refine .B ?_ | refine .D ?_ | refine .F ?_ | refine .J ?_ | refine .f1 ?_ | refine .f4 ?_ | refine .L l2 ?_ | refine .L l0 ?_ | refine .L lw ?_ | refine .R h1 ?_ | refine .S hs ?_ | refine .Y ?_ | fail
   rfl
  ·rw [if_neg (by omega)]
   repeat' first | refine .A ?_ | refine .B ?_ | refine .C ?_ | refine .J ?_ | refine .f1 ?_ | refine .t4 ?_ | refine .L l2 ?_ | refine .L l0 ?_ | refine .S hs ?_ | refine .F ?_ | refine .Y ?_ | fail
   rfl
theorem qlr (hC : IsR H c ws bs) (hlo : lo ≤ c.P) (i : Int) : ∃ H', qfV En lo Id.zcq [qiX c, I i] H = some (I (qiR bs i), H') ∧ IsR H' c ws bs ∧ Only [c.P] H H' := by
 obtain ⟨st, l2, H1, hs, hC1, ho⟩ := hC.tick hlo
 have l0 := hC1.p1
 refine ⟨H1, ?_, hC1, ho⟩
 refine qgx rfl Fn.zcq rfl rfl ?_
 unfold qiR
 by_cases h0 : i < 0
 ·rw [if_neg (by omega)]
  repeat' first | refine .A ?_ | refine .B ?_ | refine .C ?_ | refine .J ?_ | refine .t1 ?_ | refine .L l2 ?_ | refine .S hs ?_ | refine .D ?_ | refine .F ?_ | refine .Y ?_ | fail
  rfl
 ·obtain ⟨k, rfl⟩ : ∃ k : Nat, i = k := ⟨i.toNat, by omega⟩
  by_cases h1 : k < bs.length
  ·have lw := hC1.y_ld h1
   rw [if_pos ⟨by omega, by omega⟩, Int.toNat_natCast]
   repeat' first | refine .A ?_ | refine .B ?_ | refine .D ?_ | refine .F ?_ | refine .J ?_ | refine .f1 ?_ | refine .f4 ?_ | refine .L l2 ?_ | refine .L l0 ?_ | refine .L lw ?_ | refine .R h1 ?_ | refine .S hs ?_ | refine .Y ?_ | fail
   rfl
  ·rw [if_neg (by omega)]
   repeat' first | refine .A ?_ | refine .B ?_ | refine .C ?_ | refine .J ?_ | refine .f1 ?_ | refine .t4 ?_ | refine .L l2 ?_ | refine .L l0 ?_ | refine .S hs ?_ | refine .F ?_ | refine .Y ?_ | fail
   rfl
theorem qls (hC : IsR H c ws bs) (hlo : lo ≤ c.P) (hlw : lo ≤ c.W) (i n : Int) : ∃ H', qfV En lo Id.zcu [qiX c, I i, I n] H = some (qag, H') ∧ IsR H' c (qiS ws i n) bs ∧ Only [c.P, c.W] H H' := by
 obtain ⟨st, l2, H1, hs, hC1, ho⟩ := hC.tick hlo
 have l0 := hC1.p0
 unfold qiS
 by_cases h0 : i < 0
 ·rw [if_neg (by omega)]
  refine ⟨H1, ?_, hC1, ho.mono (by simp)⟩
  refine qgx rfl Fn.zcu rfl rfl ?_
  repeat' first | refine .A ?_ | refine .B ?_ | refine .D ?_ | refine .F ?_ | refine .nil rfl ?_ | refine .f4 ?_ | refine .L l2 ?_ | refine .S hs ?_ | refine .Y ?_ | fail
  rfl
 ·obtain ⟨k, rfl⟩ : ∃ k : Nat, i = k := ⟨i.toNat, by omega⟩
  by_cases h1 : k < ws.length
  ·have hw := hC1.set_w h1 n hlw
   have hw1 := hw.1
   rw [if_pos ⟨by omega, by omega⟩, Int.toNat_natCast]
   refine ⟨_, ?_, hw.2.1, (ho.mono (by simp)).trans (hw.2.2.mono (by simp))⟩
   refine qgx rfl Fn.zcu rfl rfl ?_
   repeat' first | refine .A ?_ | refine .B ?_ | refine .C ?_ | refine .nil rfl ?_ | refine .t1 ?_ | refine .t4 ?_ | refine .L l2 ?_ | refine .L l0 ?_ | refine .R h1 ?_ | refine .S hs ?_ | refine .S hw1 ?_ | refine .F ?_ | refine .Y ?_ | fail
   rfl
  ·rw [if_neg (by omega)]
   refine ⟨H1, ?_, hC1, ho.mono (by simp)⟩
   refine qgx rfl Fn.zcu rfl rfl ?_
   repeat' first | refine .A ?_ | refine .B ?_ | refine .D ?_ | refine .F ?_ | refine .nil rfl ?_ | refine .f1 ?_ | refine .t4 ?_ | refine .L l2 ?_ | refine .L l0 ?_ | refine .S hs ?_ | refine .Y ?_ | fail
   rfl
theorem qlt (hC : IsR H c ws bs) (hlo : lo ≤ c.P) (hlw : lo ≤ c.W) (i old n : Int) : ∃ H', qfV En lo Id.zcr [qiX c, I i, I old, I n] H = some (.bool (qi3 ws i old), H') ∧ IsR H' c (if qi3 ws i old then qiS ws i n else ws) bs ∧ Only [c.P, c.W] H H' := by
 obtain ⟨st, l2, H1, hs, hC1, ho⟩ := hC.tick hlo
 have l0 := hC1.p0
 by_cases h0 : i < 0
 ·have hb : qi3 ws i old = false := by unfold qi3; simp; omega
  rw [hb]
  refine ⟨H1, ?_, hC1, ho.mono (by simp)⟩
  refine qgx rfl Fn.zcr rfl rfl ?_
  repeat' first | refine .A ?_ | refine .B ?_ | refine .C ?_ | refine .J ?_ | refine .t1 ?_ | refine .L l2 ?_ | refine .S hs ?_ | refine .D ?_ | refine .F ?_ | refine .Y ?_ | fail
  rfl
 ·obtain ⟨k, rfl⟩ : ∃ k : Nat, i = k := ⟨i.toNat, by omega⟩
  by_cases h1 : k < ws.length
  ·have lw := hC1.w_ld h1
   have hw := hC1.set_w h1 n hlw
   have hw1 := hw.1
   by_cases h2 : ws.getD k 0 = old
   ·have hb : qi3 ws k old = true := by unfold qi3; rw [Int.toNat_natCast, decide_eq_true (by omega), decide_eq_true h2]; rfl
    rw [hb]
    unfold qiS
    rw [if_pos rfl, if_pos ⟨by omega, by omega⟩, Int.toNat_natCast]
    refine ⟨_, ?_, hw.2.1, (ho.mono (by simp)).trans (hw.2.2.mono (by simp))⟩
    refine qgx rfl Fn.zcr rfl rfl ?_
    repeat' first | refine .A ?_ | refine .B ?_ | refine .D ?_ | refine .F ?_ | refine .J ?_ | refine .f1 ?_ | refine .f4 ?_ | refine .f6 ?_ | refine .L l2 ?_ | refine .L l0 ?_ | refine .L lw ?_ | refine .R h1 ?_ | refine .S hs ?_ | refine .S hw1 ?_ | refine .Y ?_ | fail
    rfl
   ·have hb : qi3 ws k old = false := by unfold qi3; rw [Int.toNat_natCast, decide_eq_false h2, Bool.and_false]
    rw [hb]
    refine ⟨H1, ?_, hC1, ho.mono (by simp)⟩
    refine qgx rfl Fn.zcr rfl rfl ?_
    repeat' first | refine .A ?_ | refine .B ?_ | refine .C ?_ | refine .D ?_ | refine .F ?_ | refine .J ?_ | refine .f1 ?_ | refine .f4 ?_ | refine .t6 ?_ | refine .L l2 ?_ | refine .L l0 ?_ | refine .L lw ?_ | refine .R h1 ?_ | refine .S hs ?_ | refine .Y ?_ | fail
    rfl
  ·have hb : qi3 ws k old = false := by unfold qi3; simp; omega
   rw [hb]
   refine ⟨H1, ?_, hC1, ho.mono (by simp)⟩
   refine qgx rfl Fn.zcr rfl rfl ?_
   repeat' first | refine .A ?_ | refine .B ?_ | refine .C ?_ | refine .J ?_ | refine .f1 ?_ | refine .t4 ?_ | refine .L l2 ?_ | refine .L l0 ?_ | refine .S hs ?_ | refine .F ?_ | refine .Y ?_ | fail
   rfl
end
end Go.Proofs.YtnfcohmbcgfhbaaGreat

/- The document's layout, and heads. -/
namespace Go.Ir
open Go
section
variable {E : Env} {lo : Nat} {os : List IOper} {f : Fr} {h : qab} {hs : List qab} {k : List Item} {rs : List qak} {Q : Value → qab → Prop} {d : Nat} {g : Option (Nat × Bool)} {x y : Operand}
theorem EG.quoE {a b r : Nat} (hr : a / b = r) (hw : want g f = some true) (hx : ev f x = some (.int .i64 (a : Nat))) (hy : ev f y = some (.int .i64 (b : Nat))) (hb : b ≠ 0) (ha : a < 2 ^ 63) (c : EG E lo os hs k ((d, .int .i64 (r : Nat)) :: f) h rs Q) :
  EG E lo (⟨some d, .bin .quo x y, g, 0⟩ :: os) hs k f h rs Q := .go hw (by
   have hb' : ¬ ((b : Int) = 0) := by omega
   have e1 : (a : Int).tdiv (b : Int) = ((r : Nat) : Int) := by rw [Int.tdiv_eq_ediv_of_nonneg (by omega), ← hr]; rfl
   have h1 : r ≤ a := by rw [← hr]; exact Nat.div_le_self _ _
   have e2 : IntKind.i64.wrap ((r : Nat) : Int) = ((r : Nat) : Int) := by rw [IntKind.wrap_i64]; omega
   simp only [iop, hx, hy, qar, qaq, qan, if_true, if_neg hb', e1, e2]
   rfl) rfl c
end
end Go.Ir
namespace Go.Proofs.YtnfcohmbcgfhbaaGreat
open Go Go.Ir

section
variable {lo : Nat} {h : qab} {c : Cfg}
theorem qlu (lo : Nat) (h : qab) (hm : c.may) {k : Int} (hk : k ≤ 3) (n : Int) : qfV En lo Id.zcv [.agg c.cs.toArray, I k, I n] h = some (I k, h) := by
 have hM := fun lo => qiM lo h c
 rw [decide_eq_true hm] at hM
 refine qgy rfl Fn.zcv rfl rfl ?_
 rw [Cfg.cs] at hM ⊢
 repeat' first | refine .A ?_ | refine .B ?_ | refine .C ?_ | refine .D ?_ | refine .F ?_ | refine .J ?_ | refine .t2 ?_ | refine .P (hM _) ?_ | refine .Y ?_ | fail
 rfl
theorem qlv (lo : Nat) (h : qab) (hm : c.may) (n : Int) : qfV En lo Id.zcv [.agg c.cs.toArray, I 4, I n] h = some (I (qjr c n), h) := by
 have hM := fun lo => qiM lo h c
 rw [decide_eq_true hm] at hM
 refine qgy rfl Fn.zcv rfl rfl ?_
 rw [Cfg.cs] at hM ⊢
 unfold Cfg.may at hm
 unfold qjr
 by_cases hn : 0 ≤ n ∧ n < c.T
 ·rw [if_pos hn]
  obtain ⟨k, rfl⟩ : ∃ k : Nat, n = k := ⟨n.toNat, by omega⟩
  have hw : IntKind.i64.wrap (4 + (k : Int)) = 4 + k := qiI (by omega) (by omega)
  repeat' first | refine .A ?_ | refine .B ?_ | refine .C ?_ | refine .D ?_ | refine .F ?_ | refine .J ?_ | refine .f1 ?_ | refine .f2 ?_ | refine .f4 ?_ | refine .t5 ?_ | refine .P (hM _) ?_ | refine .Y ?_ | fail
  exact qiG hw
 ·rw [if_neg hn]
  by_cases h0 : n < 0
  ·repeat' first | refine .A ?_ | refine .B ?_ | refine .C ?_ | refine .D ?_ | refine .F ?_ | refine .J ?_ | refine .t1 ?_ | refine .f2 ?_ | refine .t5 ?_ | refine .P (hM _) ?_ | refine .Y ?_ | fail
   rfl
  ·repeat' first | refine .A ?_ | refine .B ?_ | refine .C ?_ | refine .D ?_ | refine .F ?_ | refine .J ?_ | refine .f1 ?_ | refine .f2 ?_ | refine .t4 ?_ | refine .t5 ?_ | refine .P (hM _) ?_ | refine .Y ?_ | fail
   rfl
theorem qlw (lo : Nat) (h : qab) (hm : c.may) (n : Int) {j : Int} (hj : 0 ≤ j ∧ j ≤ 2) : qfV En lo Id.zcv [.agg c.cs.toArray, I (5 + j), I n] h = some (I (qjj c n j), h) := by
 have hM := fun lo => qiM lo h c
 rw [decide_eq_true hm] at hM
 refine qgy rfl Fn.zcv rfl rfl ?_
 rw [Cfg.cs] at hM ⊢
 unfold Cfg.may at hm
 unfold qjj
 by_cases hn : 0 ≤ n ∧ n < c.S
 ·rw [if_pos hn]
  have w1 : IntKind.i64.wrap (4 + c.T) = 4 + c.T := qiI (by omega) (by omega)
  have w2 : IntKind.i64.wrap (3 * n) = 3 * n := qiI (by omega) (by omega)
  have w3 : IntKind.i64.wrap (4 + c.T + 3 * n) = 4 + c.T + 3 * n := qiI (by omega) (by omega)
  have w4 : IntKind.i64.wrap (4 + c.T + 3 * n + (5 + j)) = 4 + c.T + 3 * n + (5 + j) := qiI (by omega) (by omega)
  have w5 : IntKind.i64.wrap (4 + c.T + 3 * n + (5 + j) - 5) = 4 + c.T + 3 * n + j := by rw [qiI (by omega) (by omega)]; omega
  repeat' first | refine .A ?_ | refine .B ?_ | refine .D ?_ | refine .F ?_ | refine .J ?_ | refine .C ?_ | refine .f1 ?_ | refine .f2 ?_ | refine .f4 ?_ | refine .f5 ?_ | refine .P (hM _) ?_ | refine .Y ?_ | fail
  refine qiG ?_
  rw [w1, w2, w3, w4, w5]
 ·rw [if_neg hn]
  by_cases h0 : n < 0
  ·repeat' first | refine .A ?_ | refine .B ?_ | refine .C ?_ | refine .D ?_ | refine .F ?_ | refine .J ?_ | refine .t1 ?_ | refine .f2 ?_ | refine .f5 ?_ | refine .P (hM _) ?_ | refine .Y ?_ | fail
   rfl
  ·repeat' first | refine .A ?_ | refine .B ?_ | refine .C ?_ | refine .D ?_ | refine .F ?_ | refine .J ?_ | refine .f1 ?_ | refine .f2 ?_ | refine .t4 ?_ | refine .f5 ?_ | refine .P (hM _) ?_ | refine .Y ?_ | fail
   rfl

theorem qlx (lo : Nat) (h : qab) (n : Int) : qfV En lo Id.zco [I n] h = some (.bool (decide (0 ≤ n ∧ n ≤ 64)), h) := by
 refine qgy rfl Fn.zco rfl rfl ?_
 by_cases h0 : 0 ≤ n
 ·by_cases h1 : n ≤ 64
  ·rw [decide_eq_true ⟨h0, h1⟩]
   repeat' first | refine .A ?_ | refine .B ?_ | refine .J ?_ | refine .t2 ?_ | refine .t4 ?_ | refine .F ?_ | refine .Y ?_ | fail
   rfl
  ·rw [decide_eq_false (fun g => h1 g.2)]
   repeat' first | refine .A ?_ | refine .B ?_ | refine .J ?_ | refine .f2 ?_ | refine .t4 ?_ | refine .F ?_ | refine .Y ?_ | fail
   rfl
 ·rw [decide_eq_false (fun g => h0 g.1)]
  repeat' first | refine .A ?_ | refine .B ?_ | refine .J ?_ | refine .f4 ?_ | refine .D ?_ | refine .F ?_ | refine .Y ?_ | fail
  rfl
theorem qly (lo : Nat) (h : qab) {w : Int} (hw : w < 9223372036854775808) : qfV En lo Id.zcn [I w] h = some (qkB w, h) := by
 unfold qkB qkx
 by_cases h0 : w < 0
 ·rw [if_neg (by omega)]
  refine qgy rfl Fn.zcn rfl rfl ?_
  repeat' first | refine .A ?_ | refine .B ?_ | refine .C ?_ | refine .J ?_ | refine .t1 ?_ | refine .D ?_ | refine .F ?_ | refine .Y ?_ | fail
  rfl
 ·obtain ⟨n, rfl⟩ : ∃ n : Nat, w = n := ⟨w.toNat, by omega⟩
  obtain ⟨t, et⟩ : ∃ t, n % 1048576 = t := ⟨_, rfl⟩
  obtain ⟨g, eg⟩ : ∃ g, n / 1048576 = g := ⟨_, rfl⟩
  have hT := fun lo => qlx lo h (t : Nat)
  by_cases ht : t ≤ 64
  ·rw [decide_eq_true (by omega)] at hT
   by_cases hg : g ≤ 4294967295
   ·have e1 : ((n : Int) % 1048576).toNat = t := by omega
    have e2 : ((n : Int) / 1048576).toNat = g := by omega
    rw [if_pos (by omega), e1, e2]
    refine qgy rfl Fn.zcn rfl rfl ?_
    repeat' first | refine .A ?_ | refine .B ?_ | refine .D ?_ | refine .F ?_ | refine .J ?_ | refine qkm (b := 1048576) et rfl rfl rfl (by decide) ?_ | refine .quoE (b := 1048576) eg rfl rfl rfl (by decide) (by omega) ?_ | refine .f1 ?_ | refine .f3 ?_ | refine .P (hT _) ?_ | refine .Y ?_ | fail
    rfl
   ·rw [if_neg (by omega)]
    refine qgy rfl Fn.zcn rfl rfl ?_
    repeat' first | refine .A ?_ | refine .B ?_ | refine .C ?_ | refine .J ?_ | refine qkm (b := 1048576) et rfl rfl rfl (by decide) ?_ | refine .quoE (b := 1048576) eg rfl rfl rfl (by decide) (by omega) ?_ | refine .f1 ?_ | refine .t3 ?_ | refine .P (hT _) ?_ | refine .F ?_ | refine .Y ?_ | fail
    rfl
  ·rw [decide_eq_false (by omega)] at hT
   rw [if_neg (by omega)]
   refine qgy rfl Fn.zcn rfl rfl ?_
   repeat' first | refine .A ?_ | refine .B ?_ | refine .C ?_ | refine .J ?_ | refine qkm (b := 1048576) et rfl rfl rfl (by decide) ?_ | refine .f1 ?_ | refine .P (hT _) ?_ | refine .D ?_ | refine .F ?_ | refine .Y ?_ | fail
   rfl
end
end Go.Proofs.YtnfcohmbcgfhbaaGreat

/- The document's heads, packed. -/
namespace Go.Proofs.YtnfcohmbcgfhbaaGreat
open Go Go.Ir

section
variable {lo : Nat} {h : qab} {c : Cfg}
theorem qlz (lo : Nat) (h : qab) {t g : Nat} (ht : t ≤ 64) (hg : g < 4294967296) : qfV En lo Id.zck [N t, N g] h = some (.tuple #[N (qky t g), I 0], h) := by
 have hT := fun lo => qlx lo h (t : Nat)
 rw [decide_eq_true (by omega)] at hT
 refine qgy rfl Fn.zck rfl rfl ?_
 repeat' first | refine .A ?_ | refine .B ?_ | refine .D ?_ | refine .F ?_ | refine .J ?_ | refine .f1 ?_ | refine .f3 ?_ | refine .n1 ?_ | refine .P (hT _) ?_ | refine .mulN (a := 1048576) rfl rfl rfl (by omega) ?_ | refine .Y ?_ | fail
 unfold qky
 rw [Nat.mul_comm g]
 rfl
theorem qlA {g : Nat} (hg : g < 4294967296) : (g + 1) % 4294967296 = qkz g := by unfold qkz; split <;> omega
theorem qlB (lo : Nat) (h : qab) {w : Int} (hw : w < 9223372036854775808) (l : Int) : qfV En lo Id.zcl [I w, I l] h = some (qkG (qkD w l), h) := by
 have hU := fun lo => qly lo h hw
 have hM := fun lo => qlx lo h l
 refine qgy rfl Fn.zcl rfl rfl ?_
 unfold qkB at hU
 unfold qkD qkG
 cases hu : qkx w with
 | none =>
   rw [hu] at hU
   simp only [qkA, qkC] at hU ⊢
   repeat' first | refine .A ?_ | refine .B ?_ | refine .C ?_ | refine .J ?_ | refine .t6 ?_ | refine .P (hU _) ?_ | refine .F ?_ | refine .Y ?_ | fail
   rfl
 | some p =>
   obtain ⟨t, g⟩ := p
   obtain ⟨h1, h2, _⟩ := qkH hu
   rw [hu] at hU
   simp only [qkA, qkC] at hU ⊢
   by_cases hl : 0 ≤ l ∧ l ≤ 64
   ·rw [decide_eq_true hl] at hM
    rw [if_pos hl]
    obtain ⟨k, rfl⟩ : ∃ k : Nat, l = k := ⟨l.toNat, by omega⟩
    by_cases ht : t = 0
    ·rw [if_pos ht]
     repeat' first | refine .A ?_ | refine .B ?_ | refine .C ?_ | refine .D ?_ | refine .F ?_ | refine .J ?_ | refine .t5 ?_ | refine .f6 ?_ | refine .P (hU _) ?_ | refine .P (hM _) ?_ | refine .Y ?_ | fail
     rfl
    ·rw [if_neg ht]
     rw [Int.toNat_natCast]
     have hG := qlA h2
     have hg := qkZ h2
     generalize qkz g = g' at hG hg ⊢
     have hP := fun lo => qlz lo h (t := k) (g := g') (by omega) hg
     have hs : IntKind.i64.wrap ((t : Int) - 1) = (t : Int) - 1 := qiI (by omega) (by omega)
     repeat' first | refine .A ?_ | refine .B ?_ | refine .D ?_ | refine .F ?_ | refine .J ?_ | (show EG _ _ (⟨_, .bin _ _ _, _, _⟩ :: _) _ _ _ _ _ _; first | refine qkm (b := 4294967296) hG rfl rfl rfl (by decide) ?_ | refine .f5 ?_ | refine .f6 ?_ | refine .n2 ?_ | refine .s2 ?_) | refine .P (hU _) ?_ | refine .P (hM _) ?_ | refine .P (hP _) ?_ | refine .Y ?_ | fail
     first
     | rfl
     | (simp only [hs]; rfl)
     | (show Ir.tidy h (.tuple #[_, N (t - 1), _]) h = _
        rw [show N (t - 1) = I ((t : Int) - 1) by show Value.int .i64 _ = .int .i64 _; congr 1; omega]; rfl)
   ·rw [decide_eq_false hl] at hM
    rw [if_neg hl]
    repeat' first | refine .A ?_ | refine .B ?_ | refine .C ?_ | refine .D ?_ | refine .F ?_ | refine .J ?_ | refine .f6 ?_ | refine .P (hU _) ?_ | refine .P (hM _) ?_ | refine .Y ?_ | fail
    rfl
theorem qlC (lo : Nat) (h : qab) {w : Int} (hw : w < 9223372036854775808) (s : Int) : qfV En lo Id.zcm [I w, I s] h = some (qkG (qkF w s), h) := by
 have hU := fun lo => qly lo h hw
 refine qgy rfl Fn.zcm rfl rfl ?_
 unfold qkB at hU
 unfold qkF qkG
 cases hu : qkx w with
 | none =>
   rw [hu] at hU
   simp only [qkA, qkE] at hU ⊢
   repeat' first | refine .A ?_ | refine .B ?_ | refine .C ?_ | refine .J ?_ | refine .t6 ?_ | refine .P (hU _) ?_ | refine .F ?_ | refine .Y ?_ | fail
   rfl
 | some p =>
   obtain ⟨t, g⟩ := p
   obtain ⟨h1, h2, _⟩ := qkH hu
   rw [hu] at hU
   simp only [qkA, qkE] at hU ⊢
   by_cases h0 : 0 ≤ s
   ·by_cases hs : s ≤ 63
    ·rw [if_pos ⟨h0, hs⟩]
     obtain ⟨k, rfl⟩ : ∃ k : Nat, s = k := ⟨s.toNat, by omega⟩
     rw [Int.toNat_natCast]
     have hG := qlA h2
     have hg := qkZ h2
     generalize qkz g = g' at hG hg ⊢
     have hP := fun lo => qlz lo h (t := k + 1) (g := g') (by omega) hg
     repeat' first | refine .A ?_ | refine .B ?_ | refine .D ?_ | refine .F ?_ | refine .J ?_ | (show EG _ _ (⟨_, .bin _ _ _, _, _⟩ :: _) _ _ _ _ _ _; first | refine qkm (b := 4294967296) hG rfl rfl rfl (by decide) ?_ | refine .f1 ?_ | refine .f3 ?_ | refine .f6 ?_ | refine .n2 ?_) | refine .P (hU _) ?_ | refine .P (hP _) ?_ | refine .Y ?_ | fail
     rfl
    ·rw [if_neg (fun g => hs g.2)]
     repeat' first | refine .A ?_ | refine .B ?_ | refine .C ?_ | refine .D ?_ | refine .F ?_ | refine .J ?_ | refine .f1 ?_ | refine .t3 ?_ | refine .f6 ?_ | refine .P (hU _) ?_ | refine .Y ?_ | fail
     rfl
   ·rw [if_neg (fun g => h0 g.1)]
    repeat' first | refine .A ?_ | refine .B ?_ | refine .C ?_ | refine .D ?_ | refine .F ?_ | refine .J ?_ | refine .t1 ?_ | refine .f6 ?_ | refine .P (hU _) ?_ | refine .Y ?_ | fail
    rfl
end
end Go.Proofs.YtnfcohmbcgfhbaaGreat

