/- The stack's machines, step by step: by the document. -/
import Derived.Test.YtnfcohmbcgfhbaaGreatThreadP4
import Derived.Test.YtnfcohmbcgfhbaaGreatThreadP1
import Derived.Test.YtnfcohmbcgfhbaaGreatThreadP3
import Derived.Test.YtnfcohmbcgfhbaaGreatThreadP2
set_option linter.unusedVariables false
set_option linter.unusedSimpArgs false

namespace Go.Proofs.YtnfcohmbcgfhbaaGreat
open Go Go.Ir

def qlD (c : Cfg) (p : Bool) (s : Sk) : List Value := [I c.A, I c.S, I c.T, .bool p, I s.slot, I s.nx, I s.word, I s.to]

structure DidR (H H' : qab) (b : Nat) (row : List Value) (cb : CB) (ws bs : List Int) : Prop where
 row : H'[b]? = some (.row row false)
 cells : IsR H' cb ws bs
 chg : Chg [b, cb.P, cb.W, cb.Y] H H'

section
variable {lo : Nat} {H : qab} {b : Nat} {c : Cfg} {s : Sk} {cb : CB} {ws bs : List Int} {p : Bool}

theorem DidR.put {H1 : qab} {row row' : List Value} (d : DidR H H1 b row cb ws bs) (hb : b ≠ cb.P ∧ b ≠ cb.W ∧ b ≠ cb.Y) : DidR H (H1.set b (.row row' false)) b row' cb ws bs :=
 ⟨qij (qim d.row), d.cells.chg (S := [b]) ((Chg.refl [b] H1).set (i := b) (by simp)) (by simp; omega), d.chg.set (i := b) (by simp)⟩
theorem DidR.mk1 {H1 : qab} {row : List Value} {ws' : List Int} {S : List Nat} (hr : H[b]? = some (.row row false)) (hC : IsR H1 cb ws' bs) (o : Only S H H1) (hS : ∀ i ∈ S, i ∈ [cb.P, cb.W, cb.Y]) (hb : b ≠ cb.P ∧ b ≠ cb.W ∧ b ≠ cb.Y) : DidR H H1 b row cb ws' bs :=
 ⟨(Chg.of o).get hr (fun h => by have := hS b h; simp at this; omega), hC, (Chg.of o).mono fun i hi => List.mem_cons_of_mem _ (hS i hi)⟩

theorem qlE (hr : H[b]? = some (.row (qlD c p s) false)) (hlo : lo ≤ b) (k e : Int) : qfV En lo Id.zcC [qkb b, I k, I e] H = some (.tuple #[I k, I e, .bool true], H.set b (.row (qlD c p { s with nx := 0 }) false)) := by
 have hst : stN lo H ⟨b, 0 + 5, none⟩ (qaf (I 0)) = some (H.set b (.row (qlD c p { s with nx := 0 }) false)) := qip hr hlo (Nat.le_of_ble_eq_true rfl) rfl
 refine qgx rfl Fn.zcC rfl rfl ?_
 repeat' first | refine .A ?_ | refine .B ?_ | refine .J ?_ | refine .S hst ?_ | refine .F ?_ | refine .Y ?_ | fail
 rfl

def qlF (r : Sk × List Int × Int × Bool) : Value := .tuple #[I 0, I r.2.2.1, .bool r.2.2.2]

set_option maxHeartbeats 3200000 in
theorem qlG (hr : H[b]? = some (.row (qlD c false s) false)) (hC : IsR H cb ws bs) (hb : b ≠ cb.P ∧ b ≠ cb.W ∧ b ≠ cb.Y) (hm : c.may) (hlo : lo ≤ b) (hlc : lo ≤ cb.P) (hw : qiR ws 1 < 9223372036854775808) (h1 : s.nx = 1) :
  ∃ H', qfV En lo Id.zcD [qkb b, qiX cb] H = some (qlm (qlf c s ws), H') ∧ DidR H H' b (qlD c false (qlf c s ws).1) cb (qlf c s ws).2.1 bs := by
 have l0 : qav H (some 3) ⟨b, 0 + 0, none⟩ = some (.agg c.cs.toArray) := qio hr (Nat.le_of_ble_eq_true rfl) rfl
 have l3 : qav H none ⟨b, 0 + 3, none⟩ = some (.bool false) := qin hr rfl
 have hA := fun lo => qlu lo H hm (k := 1) (by omega) 0
 obtain ⟨H1, hL, hC1, ho1⟩ := qlq hC hlc 1
 have d1 := DidR.mk1 hr hC1 ho1 (by simp) hb
 unfold qlf qlm
 rw [if_pos h1]
 generalize qiR ws 1 = w at hL hw ⊢
 have d2 := d1.put (row' := qlD c false { s with word := w }) hb
 have hst : stN lo H1 ⟨b, 0 + 6, none⟩ (qaf (I w)) = some (H1.set b (.row (qlD c false { s with word := w }) false)) := qip d1.row hlo (Nat.le_of_ble_eq_true rfl) rfl
 generalize H1.set b (.row (qlD c false { s with word := w }) false) = H2 at d2 hst
 have k6 : qav H2 none ⟨b, 0 + 6, none⟩ = some (I w) := qin d2.row rfl
 have k3 : qav H2 none ⟨b, 0 + 3, none⟩ = some (.bool false) := qin d2.row rfl
 have hU := fun lo => qly lo H2 hw
 have hE := fun lo hl k e => qlE (lo := lo) d2.row hl k e
 unfold qkB at hU
 cases hu : qkx w with
 | none =>
   rw [hu] at hU
   simp only [qkA] at hU
   refine ⟨_, ?_, d2.put hb⟩
   refine qgx rfl Fn.zcD rfl rfl ?_
   repeat' first | refine .A ?_ | refine .B ?_ | refine .C ?_ | refine .D ?_ | refine .F ?_ | refine .J ?_ | refine .t6 ?_ | refine .L l0 ?_ | refine .L l3 ?_ | refine .L k6 ?_ | refine .P (hA _) ?_ | refine .P hL ?_ | refine .P (hU _) ?_ | refine .P (hE _ hlo _ _) ?_ | refine .S hst ?_ | refine .Y ?_ | fail
   rfl
 | some q =>
   obtain ⟨t, g⟩ := q
   rw [hu] at hU
   simp only [qkA] at hU ⊢
   by_cases ht : t = 0
   ·rw [if_pos ht]
    refine ⟨_, ?_, d2.put hb⟩
    refine qgx rfl Fn.zcD rfl rfl ?_
    repeat' first | refine .A ?_ | refine .B ?_ | refine .C ?_ | refine .D ?_ | refine .F ?_ | refine .J ?_ | refine .t5 ?_ | refine .f6 ?_ | refine .L l0 ?_ | refine .L l3 ?_ | refine .L k6 ?_ | refine .L k3 ?_ | refine .P (hA _) ?_ | refine .P hL ?_ | refine .P (hU _) ?_ | refine .P (hE _ hlo _ _) ?_ | refine .S hst ?_ | refine .Y ?_ | fail
    rfl
   ·rw [if_neg ht]
    have d3 := d2.put (row' := qlD c false { s with word := w, slot := IntKind.i64.wrap ((t : Nat) - 1) }) hb
    have hs1 : stN lo H2 ⟨b, 0 + 4, none⟩ (qaf (I (IntKind.i64.wrap ((t : Nat) - 1)))) = some (H2.set b (.row (qlD c false { s with word := w, slot := IntKind.i64.wrap ((t : Nat) - 1) }) false)) := qip d2.row hlo (Nat.le_of_ble_eq_true rfl) rfl
    generalize H2.set b (.row (qlD c false { s with word := w, slot := IntKind.i64.wrap ((t : Nat) - 1) }) false) = H3 at d3 hs1
    have hs2 : stN lo H3 ⟨b, 0 + 5, none⟩ (qaf (I 2)) = some (H3.set b (.row (qlD c false { s with word := w, slot := IntKind.i64.wrap ((t : Nat) - 1), nx := 2 }) false)) := qip d3.row hlo (Nat.le_of_ble_eq_true rfl) rfl
    refine ⟨_, ?_, d3.put hb⟩
    refine qgx rfl Fn.zcD rfl rfl ?_
    repeat' first | refine .A ?_ | refine .B ?_ | refine .C ?_ | refine .D ?_ | refine .F ?_ | refine .J ?_ | refine .f5 ?_ | refine .f6 ?_ | refine .L l0 ?_ | refine .L l3 ?_ | refine .L k6 ?_ | refine .L k3 ?_ | refine .P (hA _) ?_ | refine .P hL ?_ | refine .P (hU _) ?_ | refine .S hst ?_ | refine .S hs1 ?_ | refine .S hs2 ?_ | refine .Y ?_ | fail
    rfl

set_option maxHeartbeats 3200000 in
theorem qlH (hr : H[b]? = some (.row (qlD c false s) false)) (hC : IsR H cb ws bs) (hb : b ≠ cb.P ∧ b ≠ cb.W ∧ b ≠ cb.Y) (hm : c.may) (hlo : lo ≤ b) (hlc : lo ≤ cb.P) (hw : s.word < 9223372036854775808) (h2 : s.nx = 2) :
  ∃ H', qfV En lo Id.zcE [qkb b, qiX cb] H = some (qlm (qlf c s ws), H') ∧ DidR H H' b (qlD c false (qlf c s ws).1) cb (qlf c s ws).2.1 bs := by
 have l0 : qav H (some 3) ⟨b, 0 + 0, none⟩ = some (.agg c.cs.toArray) := qio hr (Nat.le_of_ble_eq_true rfl) rfl
 have l3 : qav H none ⟨b, 0 + 3, none⟩ = some (.bool false) := qin hr rfl
 have l4 : qav H none ⟨b, 0 + 4, none⟩ = some (I s.slot) := qin hr rfl
 have l6 : qav H none ⟨b, 0 + 6, none⟩ = some (I s.word) := qin hr rfl
 have hA : ∀ lo, qfV En lo Id.zcv [.agg c.cs.toArray, I 7, I s.slot] H = some (I (qjj c s.slot 2), H) := fun lo => qlw lo H hm s.slot (j := 2) (by omega)
 obtain ⟨H1, hL, hC1, ho1⟩ := qlq hC hlc (qjj c s.slot 2)
 have d1 := DidR.mk1 hr hC1 ho1 (by simp) hb
 have k6 : qav H1 none ⟨b, 0 + 6, none⟩ = some (I s.word) := qin d1.row rfl
 have hP := fun lo => qlB lo H1 hw (qiR ws (qjj c s.slot 2))
 have hE := fun lo hl k e => qlE (lo := lo) d1.row hl k e
 unfold qlf qlm
 rw [if_neg (by omega), if_pos h2]
 unfold qkG at hP
 generalize qkD s.word (qiR ws (qjj c s.slot 2)) = r at hP ⊢
 obtain ⟨to, sl, co⟩ := r
 simp only at hP ⊢
 by_cases hc0 : co = 0
 ·rw [if_pos hc0]
  have d2 := d1.put (row' := qlD c false { s with to := to }) hb
  have hs1 : stN lo H1 ⟨b, 0 + 7, none⟩ (qaf (I to)) = some (H1.set b (.row (qlD c false { s with to := to }) false)) := qip d1.row hlo (Nat.le_of_ble_eq_true rfl) rfl
  generalize H1.set b (.row (qlD c false { s with to := to }) false) = H2 at d2 hs1
  have hs2 : stN lo H2 ⟨b, 0 + 5, none⟩ (qaf (I 3)) = some (H2.set b (.row (qlD c false { s with to := to, nx := 3 }) false)) := qip d2.row hlo (Nat.le_of_ble_eq_true rfl) rfl
  refine ⟨_, ?_, d2.put hb⟩
  refine qgx rfl Fn.zcE rfl rfl ?_
  repeat' first | refine .A ?_ | refine .B ?_ | refine .D ?_ | refine .F ?_ | refine .J ?_ | refine .f6 ?_ | refine .L l0 ?_ | refine .L l3 ?_ | refine .L l4 ?_ | refine .P (hA _) ?_ | refine .P hL ?_ | refine .P (hP _) ?_ | refine .X k6 (qis l6) (qkd _) ?_ | refine .S hs1 ?_ | refine .S hs2 ?_ | refine .Y ?_ | fail
  rfl
 ·rw [if_neg hc0]
  refine ⟨_, ?_, d1.put hb⟩
  refine qgx rfl Fn.zcE rfl rfl ?_
  repeat' first | refine .A ?_ | refine .B ?_ | refine .C ?_ | refine .D ?_ | refine .J ?_ | refine .t6 ?_ | refine .L l0 ?_ | refine .L l3 ?_ | refine .L l4 ?_ | refine .P (hA _) ?_ | refine .P hL ?_ | refine .P (hP _) ?_ | refine .P (hE _ hlo _ _) ?_ | refine .X k6 (qis l6) (qkd _) ?_ | refine .F ?_ | refine .Y ?_ | fail
  rfl

set_option maxHeartbeats 3200000 in
theorem qlI (hr : H[b]? = some (.row (qlD c false s) false)) (hC : IsR H cb ws bs) (hb : b ≠ cb.P ∧ b ≠ cb.W ∧ b ≠ cb.Y) (hm : c.may) (hlo : lo ≤ b) (hlc : lo ≤ cb.P ∧ lo ≤ cb.W) (hw1 : qiR ws 1 < 9223372036854775808) (hw2 : s.word < 9223372036854775808) :
  ∃ H', qfV En lo Id.zcB [qkb b, qiX cb] H = some (qlm (qlf c s ws), H') ∧ DidR H H' b (qlD c false (qlf c s ws).1) cb (qlf c s ws).2.1 bs := by
 have l5 : qav H none ⟨b, 0 + 5, none⟩ = some (I s.nx) := qin hr rfl
 by_cases h1 : s.nx = 1
 ·obtain ⟨H1, hF, d1⟩ := qlG hr hC hb hm hlo hlc.1 hw1 h1
  refine ⟨H1, ?_, d1⟩
  unfold qlm at hF ⊢
  refine qgx rfl Fn.zcB rfl rfl ?_
  repeat' first | refine .A ?_ | refine .B ?_ | refine .C ?_ | refine .G ?_ | refine .J ?_ | refine .t5 ?_ | refine .L l5 ?_ | refine .P hF ?_ | refine .F ?_ | refine .Y ?_ | fail
  rfl
 by_cases h2 : s.nx = 2
 ·obtain ⟨H1, hF, d1⟩ := qlH hr hC hb hm hlo hlc.1 hw2 h2
  refine ⟨H1, ?_, d1⟩
  unfold qlm at hF ⊢
  refine qgx rfl Fn.zcB rfl rfl ?_
  repeat' first | refine .A ?_ | refine .B ?_ | refine .C ?_ | refine .D ?_ | refine .G ?_ | refine .J ?_ | refine .t5 ?_ | refine .f5 ?_ | refine .L l5 ?_ | refine .P hF ?_ | refine .F ?_ | refine .Y ?_ | fail
  rfl
 by_cases h3 : s.nx = 3
 ·have l0 : qav H (some 3) ⟨b, 0 + 0, none⟩ = some (.agg c.cs.toArray) := qio hr (Nat.le_of_ble_eq_true rfl) rfl
  have l6 : qav H none ⟨b, 0 + 6, none⟩ = some (I s.word) := qin hr rfl
  have l7 : qav H none ⟨b, 0 + 7, none⟩ = some (I s.to) := qin hr rfl
  have hA := fun lo => qlu lo H hm (k := 1) (by omega) 0
  obtain ⟨H1, hL, hC1, ho1⟩ := qlt hC hlc.1 hlc.2 1 s.word s.to
  have d1 := DidR.mk1 hr hC1 ho1 (by simp) hb
  have k3 : qav H1 none ⟨b, 0 + 3, none⟩ = some (.bool false) := qin d1.row rfl
  have k4 : qav H1 none ⟨b, 0 + 4, none⟩ = some (I s.slot) := qin d1.row rfl
  have hE := fun lo hl k e => qlE (lo := lo) d1.row hl k e
  unfold qlf qlm
  rw [if_neg h1, if_neg h2, if_pos h3]
  cases hb' : qi3 ws 1 s.word with
  | true =>
    rw [hb'] at hL d1
    refine ⟨_, ?_, d1.put hb⟩
    refine qgx rfl Fn.zcB rfl rfl ?_
    repeat' first | refine .A ?_ | refine .B ?_ | refine .C ?_ | refine .D ?_ | refine .F ?_ | refine .G ?_ | refine .J ?_ | refine .t5 ?_ | refine .f5 ?_ | refine .L l5 ?_ | refine .L l0 ?_ | refine .L k3 ?_ | refine .L k4 ?_ | refine .P (hA _) ?_ | refine .P hL ?_ | refine .P (hE _ hlo _ _) ?_ | refine .X l6 (qis l6) (qkd _) ?_ | refine .X l7 (qis l7) (qkd _) ?_ | refine .Y ?_ | fail
    rfl
  | false =>
    rw [hb'] at hL d1
    have hst : stN lo H1 ⟨b, 0 + 5, none⟩ (qaf (I 1)) = some (H1.set b (.row (qlD c false { s with nx := 1 }) false)) := qip d1.row hlo (Nat.le_of_ble_eq_true rfl) rfl
    refine ⟨_, ?_, d1.put hb⟩
    refine qgx rfl Fn.zcB rfl rfl ?_
    repeat' first | refine .A ?_ | refine .B ?_ | refine .C ?_ | refine .D ?_ | refine .F ?_ | refine .G ?_ | refine .J ?_ | refine .t5 ?_ | refine .f5 ?_ | refine .L l5 ?_ | refine .L l0 ?_ | refine .P (hA _) ?_ | refine .P hL ?_ | refine .X l6 (qis l6) (qkd _) ?_ | refine .X l7 (qis l7) (qkd _) ?_ | refine .S hst ?_ | refine .Y ?_ | fail
    rfl
 ·unfold qlf qlm
  rw [if_neg h1, if_neg h2, if_neg h3]
  refine ⟨H, ?_, hr, hC, Chg.refl _ _⟩
  refine qgx rfl Fn.zcB rfl rfl ?_
  repeat' first | refine .A ?_ | refine .B ?_ | refine .D ?_ | refine .F ?_ | refine .G ?_ | refine .H ?_ | refine .J ?_ | refine .f5 ?_ | refine .L l5 ?_ | refine .Y ?_ | fail
  rfl
end
end Go.Proofs.YtnfcohmbcgfhbaaGreat

/- A slot given, step by step: by the document. -/
namespace Go.Proofs.YtnfcohmbcgfhbaaGreat
open Go Go.Ir

section
variable {lo : Nat} {H : qab} {b : Nat} {c : Cfg} {s : Sk} {cb : CB} {ws bs : List Int}

set_option maxHeartbeats 3200000 in
theorem qlJ (hr : H[b]? = some (.row (qlD c true s) false)) (hC : IsR H cb ws bs) (hb : b ≠ cb.P ∧ b ≠ cb.W ∧ b ≠ cb.Y) (hm : c.may) (hlo : lo ≤ b) (hlc : lo ≤ cb.P) (hw : qiR ws 1 < 9223372036854775808) (h1 : s.nx = 1) :
  ∃ H', qfV En lo Id.zcD [qkb b, qiX cb] H = some (qlF (qlg c s ws), H') ∧ DidR H H' b (qlD c true (qlg c s ws).1) cb (qlg c s ws).2.1 bs := by
 have l0 : qav H (some 3) ⟨b, 0 + 0, none⟩ = some (.agg c.cs.toArray) := qio hr (Nat.le_of_ble_eq_true rfl) rfl
 have l3 : qav H none ⟨b, 0 + 3, none⟩ = some (.bool true) := qin hr rfl
 have l4 : qav H none ⟨b, 0 + 4, none⟩ = some (I s.slot) := qin hr rfl
 have hA := fun lo => qlu lo H hm (k := 1) (by omega) 0
 have hA7 : ∀ lo, qfV En lo Id.zcv [.agg c.cs.toArray, I 7, I s.slot] H = some (I (qjj c s.slot 2), H) := fun lo => qlw lo H hm s.slot (j := 2) (by omega)
 have hE0 := fun lo hl k e => qlE (lo := lo) hr hl k e
 unfold qlg qlF
 rw [if_pos h1]
 by_cases hsl : qjj c s.slot 2 < 0
 ·rw [if_pos hsl]
  refine ⟨_, ?_, DidR.put ⟨hr, hC, Chg.refl _ _⟩ hb⟩
  refine qgx rfl Fn.zcD rfl rfl ?_
  repeat' first | refine .A ?_ | refine .B ?_ | refine .C ?_ | refine .J ?_ | refine .t1 ?_ | refine .L l0 ?_ | refine .L l3 ?_ | refine .L l4 ?_ | refine .P (hA7 _) ?_ | refine .P (hE0 _ hlo _ _) ?_ | refine .F ?_ | refine .Y ?_ | fail
  rfl
 rw [if_neg hsl]
 obtain ⟨H1, hL, hC1, ho1⟩ := qlq hC hlc 1
 have d1 := DidR.mk1 hr hC1 ho1 (by simp) hb
 generalize qiR ws 1 = w at hL hw ⊢
 have d2 := d1.put (row' := qlD c true { s with word := w }) hb
 have hst : stN lo H1 ⟨b, 0 + 6, none⟩ (qaf (I w)) = some (H1.set b (.row (qlD c true { s with word := w }) false)) := qip d1.row hlo (Nat.le_of_ble_eq_true rfl) rfl
 generalize H1.set b (.row (qlD c true { s with word := w }) false) = H2 at d2 hst
 have k6 : qav H2 none ⟨b, 0 + 6, none⟩ = some (I w) := qin d2.row rfl
 have k3 : qav H2 none ⟨b, 0 + 3, none⟩ = some (.bool true) := qin d2.row rfl
 have hU := fun lo => qly lo H2 hw
 have hE := fun lo hl k e => qlE (lo := lo) d2.row hl k e
 unfold qkB at hU
 cases hu : qkx w with
 | none =>
   rw [hu] at hU
   simp only [qkA] at hU
   refine ⟨_, ?_, d2.put hb⟩
   refine qgx rfl Fn.zcD rfl rfl ?_
   repeat' first | refine .A ?_ | refine .B ?_ | refine .C ?_ | refine .D ?_ | refine .F ?_ | refine .J ?_ | refine .f1 ?_ | refine .t6 ?_ | refine .L l0 ?_ | refine .L l3 ?_ | refine .L l4 ?_ | refine .L k6 ?_ | (show EG _ _ (⟨_, .call _ _, _, _⟩ :: _) _ _ _ _ _ _; first | refine .P (hA _) ?_ | refine .P (hA7 _) ?_ | refine .P hL ?_ | refine .P (hU _) ?_ | refine .P (hE _ hlo _ _) ?_) | refine .S hst ?_ | refine .Y ?_ | fail
   rfl
 | some q =>
   obtain ⟨t, g⟩ := q
   rw [hu] at hU
   simp only [qkA] at hU
   have hs2 : stN lo H2 ⟨b, 0 + 5, none⟩ (qaf (I 2)) = some (H2.set b (.row (qlD c true { s with word := w, nx := 2 }) false)) := qip d2.row hlo (Nat.le_of_ble_eq_true rfl) rfl
   refine ⟨_, ?_, d2.put hb⟩
   refine qgx rfl Fn.zcD rfl rfl ?_
   repeat' first | refine .A ?_ | refine .B ?_ | refine .D ?_ | refine .F ?_ | refine .J ?_ | refine .f1 ?_ | refine .f6 ?_ | (show EG _ _ (⟨_, .load _ _, _, _⟩ :: _) _ _ _ _ _ _; first | refine .L l0 ?_ | refine .L l3 ?_ | refine .L l4 ?_ | refine .L k6 ?_ | refine .L k3 ?_) | refine .P (hA _) ?_ | refine .P (hA7 _) ?_ | refine .P hL ?_ | refine .P (hU _) ?_ | refine .S hst ?_ | refine .S hs2 ?_ | refine .Y ?_ | fail
   rfl

set_option maxHeartbeats 3200000 in
theorem qlK (hr : H[b]? = some (.row (qlD c true s) false)) (hC : IsR H cb ws bs) (hb : b ≠ cb.P ∧ b ≠ cb.W ∧ b ≠ cb.Y) (hm : c.may) (hlo : lo ≤ b) (hlc : lo ≤ cb.P ∧ lo ≤ cb.W) (hw : s.word < 9223372036854775808) (h2 : s.nx = 2) :
  ∃ H', qfV En lo Id.zcE [qkb b, qiX cb] H = some (qlF (qlg c s ws), H') ∧ DidR H H' b (qlD c true (qlg c s ws).1) cb (qlg c s ws).2.1 bs := by
 have l0 : qav H (some 3) ⟨b, 0 + 0, none⟩ = some (.agg c.cs.toArray) := qio hr (Nat.le_of_ble_eq_true rfl) rfl
 have l3 : qav H none ⟨b, 0 + 3, none⟩ = some (.bool true) := qin hr rfl
 have l4 : qav H none ⟨b, 0 + 4, none⟩ = some (I s.slot) := qin hr rfl
 have l6 : qav H none ⟨b, 0 + 6, none⟩ = some (I s.word) := qin hr rfl
 have hA : ∀ lo, qfV En lo Id.zcv [.agg c.cs.toArray, I 7, I s.slot] H = some (I (qjj c s.slot 2), H) := fun lo => qlw lo H hm s.slot (j := 2) (by omega)
 have hP := fun lo => qlC lo H hw s.slot
 unfold qlg qlF
 rw [if_neg (by omega), if_pos h2]
 unfold qkG at hP
 generalize qkF s.word s.slot = r at hP ⊢
 obtain ⟨to, be, co⟩ := r
 simp only at hP ⊢
 obtain ⟨H1, hL, hC1, ho1⟩ := qls hC hlc.1 hlc.2 (qjj c s.slot 2) be
 have d1 := DidR.mk1 hr hC1 ho1 (by simp) hb
 have d2 := d1.put (row' := qlD c true { s with to := to }) hb
 have hs1 : stN lo H1 ⟨b, 0 + 7, none⟩ (qaf (I to)) = some (H1.set b (.row (qlD c true { s with to := to }) false)) := qip d1.row hlo (Nat.le_of_ble_eq_true rfl) rfl
 generalize H1.set b (.row (qlD c true { s with to := to }) false) = H2 at d2 hs1
 have hs2 : stN lo H2 ⟨b, 0 + 5, none⟩ (qaf (I 3)) = some (H2.set b (.row (qlD c true { s with to := to, nx := 3 }) false)) := qip d2.row hlo (Nat.le_of_ble_eq_true rfl) rfl
 refine ⟨_, ?_, d2.put hb⟩
 refine qgx rfl Fn.zcE rfl rfl ?_
 repeat' first | refine .A ?_ | refine .B ?_ | refine .C ?_ | refine .J ?_ | refine .L l0 ?_ | refine .L l3 ?_ | refine .L l4 ?_ | refine .L l6 ?_ | refine .P (hA _) ?_ | refine .P hL ?_ | refine .P (hP _) ?_ | refine .S hs1 ?_ | refine .S hs2 ?_ | refine .F ?_ | refine .Y ?_ | fail
 rfl

set_option maxHeartbeats 3200000 in
theorem qlL (hr : H[b]? = some (.row (qlD c true s) false)) (hC : IsR H cb ws bs) (hb : b ≠ cb.P ∧ b ≠ cb.W ∧ b ≠ cb.Y) (hm : c.may) (hlo : lo ≤ b) (hlc : lo ≤ cb.P ∧ lo ≤ cb.W) (hw1 : qiR ws 1 < 9223372036854775808) (hw2 : s.word < 9223372036854775808) :
  ∃ H', qfV En lo Id.zcB [qkb b, qiX cb] H = some (qlF (qlg c s ws), H') ∧ DidR H H' b (qlD c true (qlg c s ws).1) cb (qlg c s ws).2.1 bs := by
 have l5 : qav H none ⟨b, 0 + 5, none⟩ = some (I s.nx) := qin hr rfl
 by_cases h1 : s.nx = 1
 ·obtain ⟨H1, hF, d1⟩ := qlJ hr hC hb hm hlo hlc.1 hw1 h1
  refine ⟨H1, ?_, d1⟩
  unfold qlF at hF ⊢
  refine qgx rfl Fn.zcB rfl rfl ?_
  repeat' first | refine .A ?_ | refine .B ?_ | refine .C ?_ | refine .G ?_ | refine .J ?_ | refine .t5 ?_ | refine .L l5 ?_ | refine .P hF ?_ | refine .F ?_ | refine .Y ?_ | fail
  rfl
 by_cases h2 : s.nx = 2
 ·obtain ⟨H1, hF, d1⟩ := qlK hr hC hb hm hlo hlc hw2 h2
  refine ⟨H1, ?_, d1⟩
  unfold qlF at hF ⊢
  refine qgx rfl Fn.zcB rfl rfl ?_
  repeat' first | refine .A ?_ | refine .B ?_ | refine .C ?_ | refine .D ?_ | refine .G ?_ | refine .J ?_ | refine .t5 ?_ | refine .f5 ?_ | refine .L l5 ?_ | refine .P hF ?_ | refine .F ?_ | refine .Y ?_ | fail
  rfl
 by_cases h3 : s.nx = 3
 ·have l0 : qav H (some 3) ⟨b, 0 + 0, none⟩ = some (.agg c.cs.toArray) := qio hr (Nat.le_of_ble_eq_true rfl) rfl
  have l6 : qav H none ⟨b, 0 + 6, none⟩ = some (I s.word) := qin hr rfl
  have l7 : qav H none ⟨b, 0 + 7, none⟩ = some (I s.to) := qin hr rfl
  have hA := fun lo => qlu lo H hm (k := 1) (by omega) 0
  obtain ⟨H1, hL, hC1, ho1⟩ := qlt hC hlc.1 hlc.2 1 s.word s.to
  have d1 := DidR.mk1 hr hC1 ho1 (by simp) hb
  have k3 : qav H1 none ⟨b, 0 + 3, none⟩ = some (.bool true) := qin d1.row rfl
  have hE := fun lo hl k e => qlE (lo := lo) d1.row hl k e
  unfold qlg qlF
  rw [if_neg h1, if_neg h2, if_pos h3]
  cases hb' : qi3 ws 1 s.word with
  | true =>
    rw [hb'] at hL d1
    refine ⟨_, ?_, d1.put hb⟩
    refine qgx rfl Fn.zcB rfl rfl ?_
    repeat' first | refine .A ?_ | refine .B ?_ | refine .C ?_ | refine .D ?_ | refine .G ?_ | refine .J ?_ | refine .t5 ?_ | refine .f5 ?_ | refine .L l5 ?_ | refine .L l0 ?_ | refine .L k3 ?_ | refine .P (hA _) ?_ | refine .P hL ?_ | refine .P (hE _ hlo _ _) ?_ | refine .X l6 (qis l6) (qkd _) ?_ | refine .X l7 (qis l7) (qkd _) ?_ | refine .F ?_ | refine .Y ?_ | fail
    rfl
  | false =>
    rw [hb'] at hL d1
    have hst : stN lo H1 ⟨b, 0 + 5, none⟩ (qaf (I 1)) = some (H1.set b (.row (qlD c true { s with nx := 1 }) false)) := qip d1.row hlo (Nat.le_of_ble_eq_true rfl) rfl
    refine ⟨_, ?_, d1.put hb⟩
    refine qgx rfl Fn.zcB rfl rfl ?_
    repeat' first | refine .A ?_ | refine .B ?_ | refine .C ?_ | refine .D ?_ | refine .F ?_ | refine .G ?_ | refine .J ?_ | refine .t5 ?_ | refine .f5 ?_ | refine .L l5 ?_ | refine .L l0 ?_ | refine .P (hA _) ?_ | refine .P hL ?_ | refine .X l6 (qis l6) (qkd _) ?_ | refine .X l7 (qis l7) (qkd _) ?_ | refine .S hst ?_ | refine .Y ?_ | fail
    rfl
 ·unfold qlg qlF
  rw [if_neg h1, if_neg h2, if_neg h3]
  refine ⟨H, ?_, hr, hC, Chg.refl _ _⟩
  refine qgx rfl Fn.zcB rfl rfl ?_
  repeat' first | refine .A ?_ | refine .B ?_ | refine .D ?_ | refine .F ?_ | refine .G ?_ | refine .H ?_ | refine .J ?_ | refine .f5 ?_ | refine .L l5 ?_ | refine .Y ?_ | fail
  rfl
end
end Go.Proofs.YtnfcohmbcgfhbaaGreat

/- Words in their range. -/
namespace Go.Proofs.YtnfcohmbcgfhbaaGreat
open Go Go.Ir

def Rng (ws : List Int) : Prop := ∀ w ∈ ws, -9223372036854775808 ≤ w ∧ w < 9223372036854775808
theorem Rng.get {ws : List Int} (h : Rng ws) (i : Int) : -9223372036854775808 ≤ qiR ws i ∧ qiR ws i < 9223372036854775808 := by
 unfold qiR
 split
 ·rename_i hi
  rw [List.getD_eq_getElem?_getD]
  cases hg : ws[i.toNat]? with
  | none => simp
  | some x => exact h x (List.mem_of_getElem? hg)
 ·omega

theorem qlM {ws : List Int} (h : Rng ws) (i : Int) {n : Int} (hn : -9223372036854775808 ≤ n ∧ n < 9223372036854775808) : Rng (qiS ws i n) := by
 intro w hw
 unfold qiS at hw
 split at hw
 ·rcases List.mem_or_eq_of_mem_set hw with h1 | h1
  ·exact h w h1
  ·rw [h1]; exact hn
 ·exact h w hw
end Go.Proofs.YtnfcohmbcgfhbaaGreat

/- Ops of a thread: rows of four numbers. -/
namespace Go.Proofs.YtnfcohmbcgfhbaaGreat
open Go Go.Ir

structure Op4 where
 d : Int
 h : Int
 f : Int
 n : Int
 hr : -9223372036854775808 ≤ h ∧ h < 9223372036854775808
 nr : -9223372036854775808 ≤ n ∧ n < 9223372036854775808
def Op4.cs (t : Op4) : List Value := [I t.d, I t.h, I t.f, I t.n]
def ocs (l : List Op4) : List (List Value) := l.map Op4.cs
theorem qlN (l : List Op4) : (ocs l).length = l.length := by simp [ocs]
theorem qlO (l : List Op4) : ∀ e ∈ ocs l, e.length = 4 := by
 intro e he
 obtain ⟨n, _, rfl⟩ := List.mem_map.1 he
 rfl
theorem qlP {l : List Op4} {i : Nat} {o : Op4} (h : l[i]? = some o) : (ocs l)[i]? = some o.cs := by simp [ocs, h]

def OpsV (H : qab) (v : Value) (l : List Op4) (ob : Nat) : Prop :=
 (l = [] ∧ ∃ a k, v = .slice a 0 k ∧ (a = none → k = 0) ∧ ∀ x, a = some x → x.spot = none ∧ 0 ≤ k) ∨
 ∃ off cs, v = .slice (some (loose ob off)) l.length 4 ∧ H[ob]? = some (.row cs false) ∧ off + l.length * 4 ≤ cs.length ∧ (cs.drop off).take (l.length * 4) = (ocs l).flatten
theorem OpsV.keep {H H' : qab} {v : Value} {l : List Op4} {ob : Nat} (h : OpsV H v l ob) (hk : H'[ob]? = H[ob]?) : OpsV H' v l ob := by
 rcases h with h | ⟨off, cs, h1, h2, h3⟩
 ·exact .inl h
 ·exact .inr ⟨off, cs, h1, hk.trans h2, h3⟩
theorem OpsV.len {H : qab} {v : Value} {l : List Op4} {ob : Nat} (h : OpsV H v l ob) : ∃ a k, v = .slice a l.length k := by
 rcases h with ⟨rfl, a, k, h1, _⟩ | ⟨off, cs, h1, _⟩
 ·exact ⟨a, k, h1⟩
 ·exact ⟨_, _, h1⟩
theorem OpsV.head {H : qab} {v : Value} {o : Op4} {r : List Op4} {ob : Nat} (h : OpsV H v (o :: r) ob) :
  ∃ off, v = .slice (some (loose ob off)) (r.length + 1) 4 ∧ qav H (some 4) ⟨ob, off + 0 * 4, none⟩ = some (.agg o.cs.toArray) ∧ ob < H.length ∧
   qaB 4 v (some (I 1)) none none = some (.slice (some (loose ob (off + 1 * 4))) r.length 4) ∧ OpsV H (.slice (some (loose ob (off + 1 * 4))) r.length 4) r ob := by
 rcases h with ⟨h, _⟩ | ⟨off, cs, h1, h2, h3, h4⟩
 ·cases h
 ·have hlen : (o :: r).length = r.length + 1 := rfl
  rw [hlen] at h1 h3 h4
  have hfl : (ocs (o :: r)).flatten = o.cs ++ (ocs r).flatten := rfl
  have h5 : (cs.drop off).take 4 = o.cs := by
   have := congrArg (List.take 4) h4
   rw [List.take_take, hfl, Nat.min_eq_left (by omega)] at this
   rw [this]
   exact List.take_left' rfl
  have h6 : (cs.drop (off + 1 * 4)).take (r.length * 4) = (ocs r).flatten := by
   have := congrArg (List.drop 4) h4
   rw [List.drop_take, hfl, List.drop_drop] at this
   rw [show (r.length + 1) * 4 - 4 = r.length * 4 by omega, show off + 4 = off + 1 * 4 by omega] at this
   rw [this]
   exact List.drop_left' rfl
  refine ⟨off, h1, qio h2 (by omega) (by rw [Nat.zero_mul, Nat.add_zero]; exact h5), qim h2, ?_, .inr ⟨_, cs, rfl, h2, by omega, h6⟩⟩
  rw [h1]
  have hib : qaA (r.length + 1) (r.length + 1) (some (I 1)) none none = some (1, r.length + 1, r.length + 1) := by
   have h1 : qaw (I 1) (r.length + 1) = some 1 := by
    show (if (0 : Int) ≤ 1 ∧ (1 : Int) ≤ ((r.length + 1 : Nat) : Int) then some (1 : Int).toNat else none) = some 1
    rw [if_pos ⟨by omega, by omega⟩]
    rfl
   simp only [qaA, qax, qay, qaz, h1]
  simp only [qaB, loose, hib, if_true]
  simp
end Go.Proofs.YtnfcohmbcgfhbaaGreat

/- Handles: by the program, and by the document. -/
namespace Go.Proofs.YtnfcohmbcgfhbaaGreat
open Go Go.Ir

section
variable {E : Env} {lo : Nat} {os : List IOper} {f : Fr} {h : qab} {hs : List qab} {k : List Ir.Item} {rs : List qak} {Q : Value → qab → Prop} {d : Nat} {g : Option (Nat × Bool)} {x y : Operand}
theorem qlQ {a b r : Nat} (hr : a ||| b = r) (hw : want g f = some true) (hx : ev f x = some (N a)) (hy : ev f y = some (N b)) (ha : a < 2 ^ 62) (hb : b < 2 ^ 62) (c : EG E lo os hs k ((d, N r) :: f) h rs Q) :
  EG E lo (⟨some d, .bin .or x y, g, 0⟩ :: os) hs k f h rs Q := .go hw (by rw [← hr]; exact qjM _ _ hx hy ha hb) rfl c
theorem qlR {n k' r : Nat} {j : IntKind} (hr : n * 2 ^ k' = r) (hw : want g f = some true) (hx : ev f x = some (N n)) (hy : ev f y = some (.int j (k' : Nat))) (hk : k' ≤ 62) (hb : n * 2 ^ k' < 2 ^ 62) (c : EG E lo os hs k ((d, N r) :: f) h rs Q) :
  EG E lo (⟨some d, .bin .shl x y, g, 0⟩ :: os) hs k f h rs Q := .go hw (by rw [← hr]; exact qkg hx hy hk hb) rfl c
theorem qlS {a b r : Int} (hr : IntKind.i64.wrap (a - b) = r) (hw : want g f = some true) (hx : ev f x = some (I a)) (hy : ev f y = some (I b)) (c : EG E lo os hs k ((d, I r) :: f) h rs Q) :
  EG E lo (⟨some d, .bin .sub x y, g, 0⟩ :: os) hs k f h rs Q := .go hw (by rw [← hr]; simp only [iop, hx, hy, qar, qaq, qan, if_true]; rfl) rfl c
theorem qlT {a b r : Int} (hr : IntKind.i64.wrap (a + b) = r) (hw : want g f = some true) (hx : ev f x = some (I a)) (hy : ev f y = some (I b)) (c : EG E lo os hs k ((d, I r) :: f) h rs Q) :
  EG E lo (⟨some d, .bin .add x y, g, 0⟩ :: os) hs k f h rs Q := .go hw (by rw [← hr]; simp only [iop, hx, hy, qar, qaq, qan, if_true]; rfl) rfl c
theorem qlU {a b r : Int} (hr : IntKind.i64.wrap (a * b) = r) (hw : want g f = some true) (hx : ev f x = some (I a)) (hy : ev f y = some (I b)) (c : EG E lo os hs k ((d, I r) :: f) h rs Q) :
  EG E lo (⟨some d, .bin .mul x y, g, 0⟩ :: os) hs k f h rs Q := .go hw (by rw [← hr]; simp only [iop, hx, hy, qar, qaq, qan, if_true]; rfl) rfl c
end

def hnd (s g : Int) : Int := 1099511627776 + g * 1048576 + s
def qlV (s g : Int) : Value := if 0 ≤ s ∧ s < 64 ∧ 0 ≤ g ∧ g ≤ 1000 then .tuple #[I (hnd s g), I 0] else .tuple #[I 0, I 1]
theorem qlW (lo : Nat) (h : qab) (s g : Int) : qfV En lo Id.zbb [I s, I g] h = some (qlV s g, h) := by
 refine qgy rfl Fn.zbb rfl rfl ?_
 unfold qlV
 by_cases h1 : 0 ≤ s ∧ s < 64 ∧ 0 ≤ g ∧ g ≤ 1000
 ·rw [if_pos h1]
  refine Exists.elim (show ∃ a b : Nat, s = a ∧ g = b from ⟨s.toNat, g.toNat, by omega, by omega⟩) fun a hq => Exists.elim hq fun b hq => ?_
  have ha := hq.1
  have hb := hq.2
  subst ha hb
  clear hq
  have q1 : b * 2 ^ 20 = b * 1048576 := rfl
  have q2 : 1099511627776 ||| b * 1048576 = 1099511627776 + b * 1048576 := by
   have := Nat.two_pow_add_eq_or_of_lt (i := 40) (b := b * 1048576) (by omega) 1
   rw [Nat.mul_one] at this
   exact this.symm
  have q3 : (1099511627776 + b * 1048576) ||| a = 1099511627776 + b * 1048576 + a := by
   have := Nat.two_pow_add_eq_or_of_lt (i := 20) (b := a) (by omega) (1048576 + b)
   rw [show 2 ^ 20 * (1048576 + b) = 1099511627776 + b * 1048576 by omega] at this
   exact this.symm
  repeat' first | refine .A ?_ | refine .B ?_ | refine .D ?_ | refine .F ?_ | refine .J ?_ | refine .f1 ?_ | refine .f3 ?_ | refine .f4 ?_ | refine qlR (n := b) (k' := 20) q1 rfl rfl rfl (by decide) (by omega) ?_ | refine qlQ (a := 1099511627776) q2 rfl rfl rfl (by decide) (by omega) ?_ | refine qlQ q3 rfl rfl rfl (by omega) (by omega) ?_ | refine .Y ?_ | fail
  rfl
 ·rw [if_neg h1]
  by_cases h2 : s < 0
  ·repeat' first | refine .A ?_ | refine .B ?_ | refine .C ?_ | refine .J ?_ | refine .t1 ?_ | refine .D ?_ | refine .F ?_ | refine .Y ?_ | fail
   rfl
  ·by_cases h3 : 64 ≤ s
   ·repeat' first | refine .A ?_ | refine .B ?_ | refine .C ?_ | refine .J ?_ | refine .f1 ?_ | refine .t4 ?_ | refine .D ?_ | refine .F ?_ | refine .Y ?_ | fail
    rfl
   ·by_cases h4 : g < 0
    ·repeat' first | refine .A ?_ | refine .B ?_ | refine .C ?_ | refine .J ?_ | refine .t1 ?_ | refine .f1 ?_ | refine .f4 ?_ | refine .D ?_ | refine .F ?_ | refine .Y ?_ | fail
     rfl
    ·repeat' first | refine .A ?_ | refine .B ?_ | refine .C ?_ | refine .J ?_ | refine .f1 ?_ | refine .t3 ?_ | refine .f4 ?_ | refine .F ?_ | refine .Y ?_ | fail
     rfl

def qlX (h : Int) : Option (Nat × Nat) :=
 if 1099511627776 ≤ h ∧ (h - 1099511627776) % 1048576 < 64 ∧ (h - 1099511627776) / 1048576 ≤ 1000 then some (((h - 1099511627776) % 1048576).toNat, ((h - 1099511627776) / 1048576).toNat) else none
theorem qlY {h : Int} {s g : Nat} (hs : s < 64) (hg : g ≤ 1000) (hh : h = 1099511627776 + (g : Int) * 1048576 + (s : Int)) : qlX h = some (s, g) := by
 unfold qlX
 rw [if_pos (by omega)]
 congr 1
 refine Prod.ext ?_ ?_ <;> simp only <;> omega
theorem qlZ {h : Int} {s g : Nat} (hh : qlX h = some (s, g)) : s < 64 ∧ g ≤ 1000 ∧ h = 1099511627776 + (g : Int) * 1048576 + (s : Int) := by
 unfold qlX at hh
 split at hh
 ·injection hh with hh
  injection hh with h1 h2
  omega
 ·cases hh
def ql0 : Option (Nat × Nat) → Value
 | some p => .tuple #[N p.1, N p.2, .bool true]
 | none => .tuple #[I 0, I 0, .bool false]
theorem ql1 (lo : Nat) (H : qab) {h : Int} (hr : -9223372036854775808 ≤ h ∧ h < 9223372036854775808) : qfV En lo Id.zbe [I h] H = some (ql0 (qlX h), H) := by
 refine qgy rfl Fn.zbe rfl rfl ?_
 have hM := fun lo s g => qlW lo H s g
 by_cases h1 : 1099511627776 ≤ h
 ·refine Exists.elim (show ∃ n : Nat, IntKind.i64.wrap (h - 1099511627776) = (n : Nat) ∧ h - 1099511627776 = n from ⟨(h - 1099511627776).toNat, by rw [IntKind.wrap_i64]; omega, by omega⟩) fun n hn => ?_
  refine Exists.elim (show ∃ s, n % 1048576 = s from ⟨_, rfl⟩) fun s hs => ?_
  refine Exists.elim (show ∃ g, n / 2 ^ 20 = g from ⟨_, rfl⟩) fun g hg => ?_
  have hn1 := hn.1
  have hMm := fun lo => hM lo (s : Nat) (g : Nat)
  by_cases h2 : s < 64 ∧ g ≤ 1000
  ·rw [qlY h2.1 h2.2 (by omega)]
   have e : qlV (s : Nat) (g : Nat) = .tuple #[I (hnd (s : Nat) (g : Nat)), I 0] := if_pos (by omega)
   rw [e] at hMm
   repeat' first | refine .A ?_ | refine .B ?_ | refine .D ?_ | refine .F ?_ | refine .J ?_ | (show EG _ _ (⟨_, .bin _ _ _, _, _⟩ :: _) _ _ _ _ _ _; first | refine qlS (a := h) (b := 1099511627776) hn1 rfl rfl rfl ?_ | refine qkm (a := n) (b := 1048576) hs rfl rfl rfl (by decide) ?_ | refine qkl (n := n) (k' := 20) hg rfl rfl rfl (by decide) ?_ | refine .f1 ?_ | refine .f6 ?_) | refine .P (hMm _) ?_ | refine .Y ?_ | fail
   rfl
  ·have e : qlV (s : Nat) (g : Nat) = .tuple #[I 0, I 1] := if_neg (by omega)
   rw [e] at hMm
   have e2 : qlX h = none := by unfold qlX; rw [if_neg (by omega)]
   rw [e2]
   repeat' first | refine .A ?_ | refine .B ?_ | refine .C ?_ | refine .D ?_ | refine .F ?_ | refine .J ?_ | (show EG _ _ (⟨_, .bin _ _ _, _, _⟩ :: _) _ _ _ _ _ _; first | refine qlS (a := h) (b := 1099511627776) hn1 rfl rfl rfl ?_ | refine qkm (a := n) (b := 1048576) hs rfl rfl rfl (by decide) ?_ | refine qkl (n := n) (k' := 20) hg rfl rfl rfl (by decide) ?_ | refine .f1 ?_ | refine .t6 ?_) | refine .P (hMm _) ?_ | refine .Y ?_ | fail
   rfl
 ·have e2 : qlX h = none := by unfold qlX; rw [if_neg (by omega)]
  rw [e2]
  by_cases h2 : -9223372036854775808 ≤ h - 1099511627776
  ·have hn1 : IntKind.i64.wrap (h - 1099511627776) = h - 1099511627776 := by rw [IntKind.wrap_i64]; omega
   repeat' first | refine .A ?_ | refine .B ?_ | refine .C ?_ | refine .J ?_ | refine qlS (a := h) (b := 1099511627776) hn1 rfl rfl rfl ?_ | refine .t1 ?_ | refine .F ?_ | fail
   rfl
  ·refine Exists.elim (show ∃ n : Nat, IntKind.i64.wrap (h - 1099511627776) = (n : Nat) ∧ 9000000000000000000 < n from ⟨(h - 1099511627776 + 18446744073709551616).toNat, by rw [IntKind.wrap_i64]; omega, by omega⟩) fun n hn => ?_
   refine Exists.elim (show ∃ s, n % 1048576 = s from ⟨_, rfl⟩) fun s hs => ?_
   refine Exists.elim (show ∃ g, n / 2 ^ 20 = g from ⟨_, rfl⟩) fun g hg => ?_
   have hn1 := hn.1
   have hMm := fun lo => hM lo (s : Nat) (g : Nat)
   have e : qlV (s : Nat) (g : Nat) = .tuple #[I 0, I 1] := if_neg (by omega)
   rw [e] at hMm
   repeat' first | refine .A ?_ | refine .B ?_ | refine .C ?_ | refine .D ?_ | refine .F ?_ | refine .J ?_ | (show EG _ _ (⟨_, .bin _ _ _, _, _⟩ :: _) _ _ _ _ _ _; first | refine qlS (a := h) (b := 1099511627776) hn1 rfl rfl rfl ?_ | refine qkm (a := n) (b := 1048576) hs rfl rfl rfl (by decide) ?_ | refine qkl (n := n) (k' := 20) hg rfl rfl rfl (by decide) ?_ | refine .f1 ?_ | refine .t6 ?_) | refine .P (hMm _) ?_ | refine .Y ?_ | fail
   rfl

def ofO (S : Int) : Option (Nat × Nat) → Int × Int × Int
 | some p => if S ≤ (p.1 : Int) then (0, 0, 4) else ((p.1 : Nat), (p.2 : Nat), 0)
 | none => (0, 0, 4)
def ofR (h S : Int) : Int × Int × Int := ofO S (qlX h)
def ofV (h S : Int) : Value := .tuple #[I (ofR h S).1, I (ofR h S).2.1, I (ofR h S).2.2]
theorem ql2 (lo : Nat) (H : qab) {h : Int} (hr : -9223372036854775808 ≤ h ∧ h < 9223372036854775808) (S : Int) : qfV En lo Id.zbc [I h, I S] H = some (ofV h S, H) := by
 refine qgy rfl Fn.zbc rfl rfl ?_
 have hM := fun lo => ql1 lo H hr
 unfold ofV ofR
 cases hu : qlX h with
 | none =>
   rw [hu] at hM
   simp only [ql0] at hM
   repeat' first | refine .A ?_ | refine .B ?_ | refine .C ?_ | refine .J ?_ | refine .P (hM _) ?_ | refine .D ?_ | refine .F ?_ | refine .Y ?_ | fail
   rfl
 | some p =>
   obtain ⟨s, g⟩ := p
   rw [hu] at hM
   simp only [ql0] at hM
   by_cases h1 : S ≤ (s : Int)
   ·simp only [ofO, if_pos h1]
    repeat' first | refine .A ?_ | refine .B ?_ | refine .C ?_ | refine .J ?_ | refine .t4 ?_ | refine .P (hM _) ?_ | refine .F ?_ | refine .Y ?_ | fail
    rfl
   ·simp only [ofO, if_neg h1]
    repeat' first | refine .A ?_ | refine .B ?_ | refine .D ?_ | refine .F ?_ | refine .J ?_ | refine .f4 ?_ | refine .P (hM _) ?_ | refine .Y ?_ | fail
    rfl

theorem ql3 (lo : Nat) (h : qab) (s g : Int) : qfV En lo Id.zcg [I s, I g] h = some (qlV s g, h) := by
 refine qgy rfl Fn.zcg rfl rfl ?_
 unfold qlV
 by_cases h1 : 0 ≤ s ∧ s < 64 ∧ 0 ≤ g ∧ g ≤ 1000
 ·rw [if_pos h1]
  have q1 : IntKind.i64.wrap (1048576 * g) = 1048576 * g := qiI (by omega) (by omega)
  have q2 : IntKind.i64.wrap (s + 1048576 * g) = s + 1048576 * g := qiI (by omega) (by omega)
  have q3 : IntKind.i64.wrap (s + 1048576 * g + 1099511627776) = hnd s g := by rw [qiI (by omega) (by omega)]; unfold hnd; omega
  repeat' first | refine .A ?_ | refine .B ?_ | refine .D ?_ | refine .F ?_ | refine .J ?_ | (show EG _ _ (⟨_, .bin _ _ _, _, _⟩ :: _) _ _ _ _ _ _; first | refine qlU (a := 1048576) (b := g) q1 rfl rfl rfl ?_ | refine qlT (a := s) q2 rfl rfl rfl ?_ | refine qlT (b := 1099511627776) q3 rfl rfl rfl ?_ | refine .f1 ?_ | refine .f3 ?_) | refine .Y ?_ | fail
  rfl
 ·rw [if_neg h1]
  by_cases h2 : s < 0
  ·repeat' first | refine .A ?_ | refine .B ?_ | refine .C ?_ | refine .J ?_ | refine .t1 ?_ | refine .D ?_ | refine .F ?_ | refine .Y ?_ | fail
   rfl
  ·by_cases h3 : 63 < s
   ·repeat' first | refine .A ?_ | refine .B ?_ | refine .C ?_ | refine .J ?_ | refine .f1 ?_ | refine .t3 ?_ | refine .D ?_ | refine .F ?_ | refine .Y ?_ | fail
    rfl
   ·by_cases h4 : g < 0
    ·repeat' first | refine .A ?_ | refine .B ?_ | refine .C ?_ | refine .J ?_ | refine .t1 ?_ | refine .f1 ?_ | refine .f3 ?_ | refine .D ?_ | refine .F ?_ | refine .Y ?_ | fail
     rfl
    ·repeat' first | refine .A ?_ | refine .B ?_ | refine .C ?_ | refine .J ?_ | refine .f1 ?_ | refine .t3 ?_ | refine .f3 ?_ | refine .F ?_ | refine .Y ?_ | fail
     rfl
theorem ql4 (lo : Nat) (H : qab) {h : Int} (hr : -9223372036854775808 ≤ h ∧ h < 9223372036854775808) : qfV En lo Id.zcj [I h] H = some (ql0 (qlX h), H) := by
 refine qgy rfl Fn.zcj rfl rfl ?_
 have hM := fun lo (g : Nat) => ql3 lo H 0 (g : Nat)
 have hE : ∀ g : Nat, g ≤ 1000 → qlV 0 (g : Nat) = .tuple #[I (hnd 0 (g : Nat)), I 0] := fun g hg => if_pos (by omega)
 repeat' first | refine .A ?_ | refine .B ?_ | refine .G ?_ | refine .F ?_ | fail
 refine .loop (fun n f H' => ∃ i : Nat, n + i = 1001 ∧ f = [(0, I h), (5, N i)] ∧ H' = H ∧ ∀ g : Nat, g < i → ¬ (hnd 0 g ≤ h ∧ h ≤ hnd 0 g + 63)) (n := 1001) ⟨0, rfl, rfl, rfl, fun g hg => by omega⟩ ?_
 rintro n f H' ⟨i, hn, rfl, rfl, hI⟩ next
 by_cases hi : i ≤ 1000
 ·have hMi := fun lo => hM lo i
  rw [hE i hi] at hMi
  have q1 : IntKind.i64.wrap (hnd 0 i + 63) = hnd 0 i + 63 := by unfold hnd; exact qiI (by omega) (by omega)
  by_cases h1 : hnd 0 i ≤ h
  ·by_cases h2 : h ≤ hnd 0 i + 63
   ·refine Exists.elim (show ∃ s : Nat, h = hnd 0 i + s ∧ s < 64 from ⟨(h - hnd 0 i).toNat, by omega, by omega⟩) fun s hs => ?_
    have q2 : IntKind.i64.wrap (h - hnd 0 i) = (s : Nat) := by rw [hs.1]; rw [qiI (by omega) (by omega)]; omega
    rw [qlY hs.2 hi (by rw [hs.1]; unfold hnd; omega)]
    clear hs hI next
    repeat' first | refine .A ?_ | refine .B ?_ | refine .C ?_ | refine .F ?_ | refine .G ?_ | refine .J ?_ | refine qlT (b := 63) q1 rfl rfl rfl ?_ | refine qlS q2 rfl rfl rfl ?_ | refine .t2 ?_ | refine .t4 ?_ | refine .P (hMi _) ?_ | refine .Y ?_ | fail
    rfl
   ·clear hE hM
    repeat' first | refine .A ?_ | refine .B ?_ | refine .C ?_ | refine .D ?_ | refine .F ?_ | refine .G ?_ | refine .H ?_ | (show EG _ _ (⟨_, .bin _ _ _, _, _⟩ :: _) _ _ _ _ _ _; first | refine qlT (b := 63) q1 rfl rfl rfl ?_ | refine .t2 ?_ | refine .f2 ?_ | refine .t4 ?_ | refine .n2 ?_) | refine .P (hMi _) ?_ | refine .Y ?_ | fail
    exact next (n - 1) _ _ (by omega) ⟨i + 1, by omega, rfl, rfl, fun g hg => by
     by_cases hgi : g = i
     ·subst hgi; omega
     ·exact hI g (by omega)⟩
  ·clear hE hM
   repeat' first | refine .A ?_ | refine .B ?_ | refine .C ?_ | refine .D ?_ | refine .F ?_ | refine .G ?_ | refine .H ?_ | refine .t2 ?_ | refine .f4 ?_ | refine .n2 ?_ | refine .P (hMi _) ?_ | refine .Y ?_ | fail
   exact next (n - 1) _ _ (by omega) ⟨i + 1, by omega, rfl, rfl, fun g hg => by
    by_cases hgi : g = i
    ·subst hgi; omega
    ·exact hI g (by omega)⟩
 ·have hno : qlX h = none := by
   cases hu : qlX h with
   | none => rfl
   | some p =>
     obtain ⟨s, g⟩ := p
     have hp := qlZ hu
     exact absurd ⟨by unfold hnd; omega, by unfold hnd; omega⟩ (hI g (by omega))
  rw [hno]
  repeat' first | refine .A ?_ | refine .B ?_ | refine .D ?_ | refine .I ?_ | refine .J ?_ | refine .f2 ?_ | refine .F ?_ | fail
  rfl
theorem ql5 (lo : Nat) (H : qab) {h : Int} (hr : -9223372036854775808 ≤ h ∧ h < 9223372036854775808) (S : Int) : qfV En lo Id.zch [I h, I S] H = some (ofV h S, H) := by
 refine qgy rfl Fn.zch rfl rfl ?_
 have hM := fun lo => ql4 lo H hr
 unfold ofV ofR
 cases hu : qlX h with
 | none =>
   rw [hu] at hM
   simp only [ql0] at hM
   repeat' first | refine .A ?_ | refine .B ?_ | refine .C ?_ | refine .J ?_ | refine .P (hM _) ?_ | refine .D ?_ | refine .F ?_ | refine .Y ?_ | fail
   rfl
 | some p =>
   obtain ⟨s, g⟩ := p
   rw [hu] at hM
   simp only [ql0] at hM
   by_cases h1 : S ≤ (s : Int)
   ·simp only [ofO, if_pos h1]
    repeat' first | refine .A ?_ | refine .B ?_ | refine .C ?_ | refine .J ?_ | refine .t4 ?_ | refine .P (hM _) ?_ | refine .F ?_ | refine .Y ?_ | fail
    rfl
   ·simp only [ofO, if_neg h1]
    repeat' first | refine .A ?_ | refine .B ?_ | refine .D ?_ | refine .F ?_ | refine .J ?_ | refine .f4 ?_ | refine .P (hM _) ?_ | refine .Y ?_ | fail
    rfl
end Go.Proofs.YtnfcohmbcgfhbaaGreat

/- Entries changed, by the document; the next generation, by both. -/
namespace Go.Proofs.YtnfcohmbcgfhbaaGreat
open Go Go.Ir

def ql6 : Option Ent → Value
 | none => .tuple #[.agg Ent.zero.cs.toArray, I 2]
 | some e => if e.lv then .tuple #[.agg e.cs.toArray, I 0] else .tuple #[.agg Ent.zero.cs.toArray, I 1]
theorem ql7 (lo : Nat) (h : qab) (w : Int) : qfV En lo Id.zcf [I w] h = some (ql6 (qjX w), h) := by
 refine qgy rfl Fn.zcf rfl rfl ?_
 have hU := fun lo => qkp lo h w
 cases hu : qjX w with
 | none =>
   rw [hu] at hU
   simp only [unV] at hU
   simp only [Ent.zero, Ent.cs] at hU
   repeat' first | refine .A ?_ | refine .B ?_ | refine .D ?_ | refine .F ?_ | refine .J ?_ | refine .f5 ?_ | refine .P (hU _) ?_ | refine .Y ?_ | fail
   rfl
 | some e =>
   rw [hu] at hU
   simp only [unV] at hU
   obtain ⟨o, g, p, u, lk, lv⟩ := e
   simp only [Ent.cs] at hU
   cases lv with
   | false =>
     repeat' first | refine .A ?_ | refine .B ?_ | refine .C ?_ | refine .J ?_ | refine .t5 ?_ | refine .P (hU _) ?_ | refine .F ?_ | refine .Y ?_ | fail
     rfl
   | true =>
     repeat' first | refine .A ?_ | refine .B ?_ | refine .D ?_ | refine .F ?_ | refine .J ?_ | refine .C ?_ | refine .t5 ?_ | refine .P (hU _) ?_ | refine .Y ?_ | fail
     rfl

theorem ql8 {w : Int} {F : Ent → Int × Ent} (h : qjX w = none) : chE w F = (0, 2) := by unfold chE; rw [h]
theorem ql9 {w : Int} {F : Ent → Int × Ent} {e : Ent} (h : qjX w = some e) (hl : e.lv = false) : chE w F = (0, 1) := by unfold chE; rw [h]; simp [hl]
theorem qma {w : Int} {F : Ent → Int × Ent} {e : Ent} (h : qjX w = some e) (hl : e.lv = true) (hc : (F e).1 ≠ 0) : chE w F = (0, (F e).1) := by unfold chE; rw [h]; simp [hl, hc]
theorem qmb {w : Int} {F : Ent → Int × Ent} {e : Ent} (h : qjX w = some e) (hl : e.lv = true) (hc : (F e).1 = 0) : qk5 (chE w F) = pkV (F e).2 := by
 unfold chE pkV
 rw [h]
 simp only [hl, hc, if_true]
 split <;> rfl

theorem qmc (lo : Nat) (h : qab) (w : Int) : qfV En lo Id.zcb [I w] h = some (qk5 (chE w qk2), h) := by
 refine qgy rfl Fn.zcb rfl rfl ?_
 have hL := fun lo => ql7 lo h w
 cases hu : qjX w with
 | none =>
   rw [hu] at hL
   simp only [ql6, Ent.zero, Ent.cs] at hL
   rw [ql8 hu]
   repeat' first | refine .A ?_ | refine .B ?_ | refine .C ?_ | refine .J ?_ | refine .t6 ?_ | refine .P (hL _) ?_ | refine .F ?_ | refine .Y ?_ | fail
   rfl
 | some e =>
   rw [hu] at hL
   simp only [ql6] at hL
   cases hl : e.lv with
   | false =>
     rw [hl, if_neg (by simp)] at hL
     simp only [Ent.zero, Ent.cs] at hL
     rw [ql9 hu hl]
     repeat' first | refine .A ?_ | refine .B ?_ | refine .C ?_ | refine .J ?_ | refine .t6 ?_ | refine .P (hL _) ?_ | refine .F ?_ | refine .Y ?_ | fail
     rfl
   | true =>
     rw [hl, if_pos rfl] at hL
     obtain ⟨o, g, p, u, lk, lv⟩ := e
     simp only at hl
     subst hl
     simp only [Ent.cs] at hL
     cases lk with
     | true =>
       rw [qma hu rfl (by simp [qk2])]
       repeat' first | refine .A ?_ | refine .B ?_ | refine .C ?_ | refine .D ?_ | refine .F ?_ | refine .J ?_ | refine .f6 ?_ | refine .P (hL _) ?_ | refine .Y ?_ | fail
       rfl
     | false =>
       by_cases h7 : p = 7
       ·have e1 : qk2 ⟨o, g, p, u, false, true⟩ = (7, ⟨o, g, p, u, false, true⟩) := by unfold qk2; simp [h7]
        rw [qma hu rfl (by rw [e1]; simp), e1]
        repeat' first | refine .A ?_ | refine .B ?_ | refine .C ?_ | refine .D ?_ | refine .F ?_ | refine .J ?_ | refine .t5 ?_ | refine .f6 ?_ | refine .P (hL _) ?_ | refine .Y ?_ | fail
        rfl
       ·have e1 : qk2 ⟨o, g, p, u, false, true⟩ = (0, ⟨o, g, IntKind.i64.wrap (p + 1), u, false, true⟩) := by unfold qk2; simp [h7]
        rw [qmb hu rfl (by rw [e1]), e1]
        have hP := fun lo => qki lo h ⟨o, g, IntKind.i64.wrap (p + 1), u, false, true⟩
        unfold pkV at hP ⊢
        simp only [Ent.cs] at hP
        by_cases hm : (⟨o, g, IntKind.i64.wrap (p + 1), u, false, true⟩ : Ent).may
        ·rw [if_pos hm] at hP ⊢
         repeat' first | refine .A ?_ | refine .B ?_ | refine .D ?_ | refine .F ?_ | refine .J ?_ | refine .C ?_ | refine .f5 ?_ | refine .f6 ?_ | refine .P (hL _) ?_ | refine .P (hP _) ?_ | refine .Y ?_ | fail
         rfl
        ·rw [if_neg hm] at hP ⊢
         repeat' first | refine .A ?_ | refine .B ?_ | refine .D ?_ | refine .F ?_ | refine .J ?_ | refine .C ?_ | refine .f5 ?_ | refine .f6 ?_ | refine .P (hL _) ?_ | refine .P (hP _) ?_ | refine .Y ?_ | fail
         rfl
theorem qmd (lo : Nat) (h : qab) (w : Int) : qfV En lo Id.zcd [I w] h = some (qk5 (chE w qk3), h) := by
 refine qgy rfl Fn.zcd rfl rfl ?_
 have hL := fun lo => ql7 lo h w
 cases hu : qjX w with
 | none =>
   rw [hu] at hL
   simp only [ql6, Ent.zero, Ent.cs] at hL
   rw [ql8 hu]
   repeat' first | refine .A ?_ | refine .B ?_ | refine .C ?_ | refine .J ?_ | refine .t6 ?_ | refine .P (hL _) ?_ | refine .F ?_ | refine .Y ?_ | fail
   rfl
 | some e =>
   rw [hu] at hL
   simp only [ql6] at hL
   cases hl : e.lv with
   | false =>
     rw [hl, if_neg (by simp)] at hL
     simp only [Ent.zero, Ent.cs] at hL
     rw [ql9 hu hl]
     repeat' first | refine .A ?_ | refine .B ?_ | refine .C ?_ | refine .J ?_ | refine .t6 ?_ | refine .P (hL _) ?_ | refine .F ?_ | refine .Y ?_ | fail
     rfl
   | true =>
     rw [hl, if_pos rfl] at hL
     obtain ⟨o, g, p, u, lk, lv⟩ := e
     simp only at hl
     subst hl
     simp only [Ent.cs] at hL
     by_cases h7 : p = 0
     ·have e1 : qk3 ⟨o, g, p, u, lk, true⟩ = (8, ⟨o, g, p, u, lk, true⟩) := by unfold qk3; simp [h7]
      rw [qma hu rfl (by rw [e1]; simp), e1]
      repeat' first | refine .A ?_ | refine .B ?_ | refine .C ?_ | refine .D ?_ | refine .F ?_ | refine .J ?_ | refine .t5 ?_ | refine .f6 ?_ | refine .P (hL _) ?_ | refine .Y ?_ | fail
      rfl
     ·have e1 : qk3 ⟨o, g, p, u, lk, true⟩ = (0, ⟨o, g, IntKind.i64.wrap (p - 1), u, lk, true⟩) := by unfold qk3; simp [h7]
      rw [qmb hu rfl (by rw [e1]), e1]
      have hP := fun lo => qki lo h ⟨o, g, IntKind.i64.wrap (p - 1), u, lk, true⟩
      unfold pkV at hP ⊢
      simp only [Ent.cs] at hP
      by_cases hm : (⟨o, g, IntKind.i64.wrap (p - 1), u, lk, true⟩ : Ent).may
      ·rw [if_pos hm] at hP ⊢
       repeat' first | refine .A ?_ | refine .B ?_ | refine .D ?_ | refine .F ?_ | refine .J ?_ | refine .C ?_ | refine .f5 ?_ | refine .f6 ?_ | refine .P (hL _) ?_ | refine .P (hP _) ?_ | refine .Y ?_ | fail
       rfl
      ·rw [if_neg hm] at hP ⊢
       repeat' first | refine .A ?_ | refine .B ?_ | refine .D ?_ | refine .F ?_ | refine .J ?_ | refine .C ?_ | refine .f5 ?_ | refine .f6 ?_ | refine .P (hL _) ?_ | refine .P (hP _) ?_ | refine .Y ?_ | fail
       rfl
theorem qme (lo : Nat) (h : qab) (w b : Int) : qfV En lo Id.zbX [I w, I b] h = some (qk5 (chE w (qk4 b)), h) := by
 refine qgy rfl Fn.zbX rfl rfl ?_
 have hL := fun lo => ql7 lo h w
 cases hu : qjX w with
 | none =>
   rw [hu] at hL
   simp only [ql6, Ent.zero, Ent.cs] at hL
   rw [ql8 hu]
   repeat' first | refine .A ?_ | refine .B ?_ | refine .C ?_ | refine .J ?_ | refine .t6 ?_ | refine .P (hL _) ?_ | refine .F ?_ | refine .Y ?_ | fail
   rfl
 | some e =>
   rw [hu] at hL
   simp only [ql6] at hL
   cases hl : e.lv with
   | false =>
     rw [hl, if_neg (by simp)] at hL
     simp only [Ent.zero, Ent.cs] at hL
     rw [ql9 hu hl]
     repeat' first | refine .A ?_ | refine .B ?_ | refine .C ?_ | refine .J ?_ | refine .t6 ?_ | refine .P (hL _) ?_ | refine .F ?_ | refine .Y ?_ | fail
     rfl
   | true =>
     rw [hl, if_pos rfl] at hL
     obtain ⟨o, g, p, u, lk, lv⟩ := e
     simp only at hl
     subst hl
     simp only [Ent.cs] at hL
     by_cases h7 : b < -15 ∨ 15 < b
     ·have e1 : qk4 b ⟨o, g, p, u, lk, true⟩ = (1, ⟨o, g, p, u, lk, true⟩) := by unfold qk4; rw [if_pos h7]
      rw [qma hu rfl (by rw [e1]; simp), e1]
      by_cases h8 : b < -15
      ·repeat' first | refine .A ?_ | refine .B ?_ | refine .C ?_ | refine .D ?_ | refine .F ?_ | refine .J ?_ | refine .t1 ?_ | refine .f6 ?_ | refine .P (hL _) ?_ | refine .Y ?_ | fail
       rfl
      ·repeat' first | refine .A ?_ | refine .B ?_ | refine .C ?_ | refine .D ?_ | refine .F ?_ | refine .J ?_ | refine .f1 ?_ | refine .t3 ?_ | refine .f6 ?_ | refine .P (hL _) ?_ | refine .Y ?_ | fail
       rfl
     ·have e1 : qk4 b ⟨o, g, p, u, lk, true⟩ = (0, ⟨o, g, p, IntKind.i64.wrap (u + b), lk, true⟩) := by unfold qk4; rw [if_neg h7]
      rw [qmb hu rfl (by rw [e1]), e1]
      have hP := fun lo => qki lo h ⟨o, g, p, IntKind.i64.wrap (u + b), lk, true⟩
      unfold pkV at hP ⊢
      simp only [Ent.cs] at hP
      by_cases hm : (⟨o, g, p, IntKind.i64.wrap (u + b), lk, true⟩ : Ent).may
      ·rw [if_pos hm] at hP ⊢
       repeat' first | refine .A ?_ | refine .B ?_ | refine .D ?_ | refine .F ?_ | refine .J ?_ | refine .C ?_ | refine .f1 ?_ | refine .f3 ?_ | refine .f6 ?_ | refine .P (hL _) ?_ | refine .P (hP _) ?_ | refine .Y ?_ | fail
       rfl
      ·rw [if_neg hm] at hP ⊢
       repeat' first | refine .A ?_ | refine .B ?_ | refine .D ?_ | refine .F ?_ | refine .J ?_ | refine .C ?_ | refine .f1 ?_ | refine .f3 ?_ | refine .f6 ?_ | refine .P (hL _) ?_ | refine .P (hP _) ?_ | refine .Y ?_ | fail
       rfl

theorem qmf {E : Env} {lo : Nat} {os : List IOper} {f : Fr} {h : qab} {hs : List qab} {k : List Ir.Item} {rs : List qak} {Q : Value → qab → Prop} {d : Nat} {g : Option (Nat × Bool)} {x y : Operand} {a b r : Int} (hr : min a b = r) (hw : want g f = some true) (hx : ev f x = some (I a)) (hy : ev f y = some (I b)) (c : EG E lo os hs k ((d, I r) :: f) h rs Q) :
  EG E lo (⟨some d, .min [x, y], g, 0⟩ :: os) hs k f h rs Q := .go hw (v := I r) (by
   have hm : (if b < a then b else a) = r := by rw [← hr]; split <;> omega
   simp only [iop, evs, hx, hy, qaK, if_true, hm]) rfl c

def qmg (e : Ent) : Int × Ent := if 0 < IntKind.i64.wrap (e.p + e.u) ∨ e.lk = true then (1, e) else (0, ⟨0, IntKind.i64.wrap (e.g + (qjV (decide (e.g < 1000)) : Nat)), 0, 0, false, false⟩)
def qmh : Option Ent → Bool
 | none => false
 | some e => e.lv && decide ((qmg e).1 = 0) && decide (e.g < 1000)
def qmi (w : Int) : Bool := qmh (qjX w)
def qmj (w : Int) : Value := .tuple #[I (chE w qmg).1, .bool (qmi w), I (chE w qmg).2]
theorem qmk {w : Int} {e : Ent} (h : qjX w = some e) : e.may := by
 unfold qjX at h
 split at h
 ·rename_i hh; injection h with h; rw [← h]; exact hh.2.2
 ·cases h

def qml (h : qab) (e : Ent) : qab := if 0 < IntKind.i64.wrap (e.p + e.u) ∨ e.lk = true then h ++ [.row [.bool false] false] ++ [.row e.cs false] else h ++ [.row [.bool (decide (e.g < 1000))] false] ++ [.row (qmg e).2.cs false]
theorem qmm {lo : Nat} (h : qab) (hlo : lo ≤ h.length) (e : Ent) : qfV En lo Id.zaA [.pointer (some ⟨(h ++ [Blk.row [.bool false] false]).length, 0, none⟩), .pointer (some ⟨h.length, 0, none⟩)] (h ++ [Blk.row [.bool false] false] ++ [.row e.cs false]) = some (I (qmg e).1, qml h e) := by
 have hlen : (h ++ [Blk.row [.bool false] false]).length = h.length + 1 := by simp
 rw [hlen]
 have hb : (h ++ [Blk.row [.bool false] false] ++ [.row e.cs false])[h.length + 1]? = some (.row e.cs false) := by rw [← hlen]; exact List.getElem?_concat_length
 have hc : (h ++ [Blk.row [.bool false] false] ++ [.row e.cs false])[h.length]? = some (.row [.bool false] false) := by
  rw [List.getElem?_append_left (by simp)]; exact List.getElem?_concat_length
 have l2 : qav (h ++ [Blk.row [.bool false] false] ++ [.row e.cs false]) none ⟨h.length + 1, 0 + 2, none⟩ = some (I e.p) := qin hb rfl
 have l3 : qav (h ++ [Blk.row [.bool false] false] ++ [.row e.cs false]) none ⟨h.length + 1, 0 + 3, none⟩ = some (I e.u) := qin hb rfl
 have l4 : qav (h ++ [Blk.row [.bool false] false] ++ [.row e.cs false]) none ⟨h.length + 1, 0 + 4, none⟩ = some (.bool e.lk) := qin hb rfl
 have l1 : qav (h ++ [Blk.row [.bool false] false] ++ [.row e.cs false]) none ⟨h.length + 1, 0 + 1, none⟩ = some (I e.g) := qin hb rfl
 unfold qml
 by_cases h0 : 0 < IntKind.i64.wrap (e.p + e.u)
 ·have hF : qmg e = (1, e) := by unfold qmg; rw [if_pos (.inl h0)]
  rw [if_pos (.inl h0), hF]
  refine qgx rfl Fn.zaA rfl rfl ?_
  repeat' first | refine .A ?_ | refine .B ?_ | refine .C ?_ | refine .J ?_ | refine .t3 ?_ | refine .L l2 ?_ | refine .L l3 ?_ | refine .D ?_ | refine .F ?_ | refine .Y ?_ | fail
  rfl
 ·cases hk : e.lk with
  | true =>
    rw [hk] at l4
    have hF : qmg e = (1, e) := by unfold qmg; rw [if_pos (.inr hk)]
    rw [if_pos (.inr rfl), hF]
    refine qgx rfl Fn.zaA rfl rfl ?_
    repeat' first | refine .A ?_ | refine .B ?_ | refine .C ?_ | refine .J ?_ | refine .f3 ?_ | refine .L l2 ?_ | refine .L l3 ?_ | refine .L l4 ?_ | refine .F ?_ | refine .Y ?_ | fail
    rfl
  | false =>
    rw [hk] at l4
    have hF : qmg e = (0, ⟨0, IntKind.i64.wrap (e.g + (qjV (decide (e.g < 1000)) : Nat)), 0, 0, false, false⟩) := by unfold qmg; rw [if_neg (by rw [hk]; simp only [Bool.false_eq_true, or_false]; exact h0)]
    rw [if_neg (by simp only [Bool.false_eq_true, or_false]; exact h0), hF]
    refine qgx rfl Fn.zaA rfl rfl ?_
    by_cases hg : e.g < 1000
    all_goals
     first | rw [decide_eq_true hg] | rw [decide_eq_false hg]
     first
     | (have hst : stN lo (h ++ [Blk.row [.bool false] false] ++ [.row e.cs false]) ⟨h.length, 0, none⟩ (qaf (.bool true)) = some (h ++ [Blk.row [.bool true] false] ++ [.row e.cs false]) :=
         (qip (w := [.bool true]) hc hlo (Nat.le_of_ble_eq_true rfl) rfl).trans (by rw [List.set_append_left _ _ (by simp), qk6])
        have hb2 : (h ++ [Blk.row [.bool true] false] ++ [.row e.cs false])[h.length + 1]? = some (.row e.cs false) := by rw [show h.length + 1 = (h ++ [Blk.row [.bool true] false]).length by simp]; exact List.getElem?_concat_length
        have hc2 : (h ++ [Blk.row [.bool true] false] ++ [.row e.cs false])[h.length]? = some (.row [.bool true] false) := by
         rw [List.getElem?_append_left (by simp)]; exact List.getElem?_concat_length
        have m1 : qav (h ++ [Blk.row [.bool true] false] ++ [.row e.cs false]) none ⟨h.length + 1, 0 + 1, none⟩ = some (I e.g) := qin hb2 rfl
        have m0 : qav (h ++ [Blk.row [.bool true] false] ++ [.row e.cs false]) none ⟨h.length, 0, none⟩ = some (.bool true) := qin hc2 rfl
        have hB := fun lo => qj2 lo (h ++ [Blk.row [.bool true] false] ++ [.row e.cs false]) true
        have hst2 : stN lo (h ++ [Blk.row [.bool true] false] ++ [.row e.cs false]) ⟨h.length + 1, 0, none⟩ (qaf (.agg #[I 0, I (IntKind.i64.wrap (e.g + (qjV true : Nat))), I 0, I 0, .bool false, .bool false])) = some (h ++ [Blk.row [.bool true] false] ++ [.row (⟨0, IntKind.i64.wrap (e.g + (qjV true : Nat)), 0, 0, false, false⟩ : Ent).cs false]) :=
         (qip (w := (⟨0, IntKind.i64.wrap (e.g + (qjV true : Nat)), 0, 0, false, false⟩ : Ent).cs) hb2 (by omega) (Nat.le_of_ble_eq_true rfl) rfl).trans (by rw [show h.length + 1 = (h ++ [Blk.row [.bool true] false]).length by simp, qk6])
        repeat' first | refine .A ?_ | refine .B ?_ | refine .D ?_ | refine .F ?_ | refine .J ?_ | refine .t1 ?_ | refine .f1 ?_ | refine .f3 ?_ | (show EG _ _ (⟨_, .load _ _, _, _⟩ :: _) _ _ _ _ _ _; first | refine .L l2 ?_ | refine .L l3 ?_ | refine .L l4 ?_ | refine .L l1 ?_ | refine .L m0 ?_) | refine .P (hB _) ?_ | refine .X m1 (qis m1) (qkd _) ?_ | refine .S hst ?_ | refine .S hst2 ?_ | refine .Y ?_ | fail
        rfl)
     | (have hst : stN lo (h ++ [Blk.row [.bool false] false] ++ [.row e.cs false]) ⟨h.length, 0, none⟩ (qaf (.bool false)) = some (h ++ [Blk.row [.bool false] false] ++ [.row e.cs false]) :=
         (qip (w := [.bool false]) hc hlo (Nat.le_of_ble_eq_true rfl) rfl).trans (by rw [List.set_append_left _ _ (by simp), qk6])
        have m0 : qav (h ++ [Blk.row [.bool false] false] ++ [.row e.cs false]) none ⟨h.length, 0, none⟩ = some (.bool false) := qin hc rfl
        have hB := fun lo => qj2 lo (h ++ [Blk.row [.bool false] false] ++ [.row e.cs false]) false
        have hst2 : stN lo (h ++ [Blk.row [.bool false] false] ++ [.row e.cs false]) ⟨h.length + 1, 0, none⟩ (qaf (.agg #[I 0, I (IntKind.i64.wrap (e.g + (qjV false : Nat))), I 0, I 0, .bool false, .bool false])) = some (h ++ [Blk.row [.bool false] false] ++ [.row (⟨0, IntKind.i64.wrap (e.g + (qjV false : Nat)), 0, 0, false, false⟩ : Ent).cs false]) :=
         (qip (w := (⟨0, IntKind.i64.wrap (e.g + (qjV false : Nat)), 0, 0, false, false⟩ : Ent).cs) hb (by omega) (Nat.le_of_ble_eq_true rfl) rfl).trans (by rw [show h.length + 1 = (h ++ [Blk.row [.bool false] false]).length by simp, qk6])
        repeat' first | refine .A ?_ | refine .B ?_ | refine .D ?_ | refine .F ?_ | refine .J ?_ | refine .f1 ?_ | refine .f3 ?_ | (show EG _ _ (⟨_, .load _ _, _, _⟩ :: _) _ _ _ _ _ _; first | refine .L l2 ?_ | refine .L l3 ?_ | refine .L l4 ?_ | refine .L l1 ?_ | refine .L m0 ?_) | refine .P (hB _) ?_ | refine .X l1 (qis l1) (qkd _) ?_ | refine .S hst ?_ | refine .S hst2 ?_ | refine .Y ?_ | fail
        rfl)

theorem qmn (h : qab) (e : Ent) : (qml h e)[(h ++ [Blk.row [.bool false] false]).length]? = some (.row (qmg e).2.cs false) := by
 unfold qml
 split
 ·rename_i hc
  rw [List.getElem?_concat_length]
  unfold qmg
  rw [if_pos hc]
 ·have : (h ++ [Blk.row [.bool false] false]).length = (h ++ [Blk.row [.bool (decide (e.g < 1000))] false]).length := by simp
  rw [this, List.getElem?_concat_length]
theorem qmo (h : qab) (e : Ent) : (qml h e)[h.length]? = some (.row [.bool (decide ((qmg e).1 = 0) && decide (e.g < 1000))] false) := by
 unfold qml qmg
 split
 ·rw [List.getElem?_append_left (by simp), List.getElem?_concat_length]; rfl
 ·rw [List.getElem?_append_left (by simp), List.getElem?_concat_length]; simp
theorem qmp (lo : Nat) (h : qab) (w : Int) : qfV En lo Id.zaz [I w] h = some (qmj w, h) := by
 have hC := qk7 (lo := h.length) (h := h ++ [.row [.bool false] false]) (w := w) (F := qmg) (G := qml h) (fn := Id.zaA) (caps := #[.pointer (some ⟨h.length, 0, none⟩)]) (by simp) (fun e => qmm h (Nat.le_refl _) e) (fun e => qmn h e)
 have hst : stN h.length (h ++ [.row [.bool false] false]) ⟨h.length, 0, none⟩ (qaf (.bool false)) = some (h ++ [.row [.bool false] false]) :=
  (qip (w := [.bool false]) List.getElem?_concat_length (Nat.le_refl _) (Nat.le_of_ble_eq_true rfl) rfl).trans (by rw [qk6])
 refine qgy rfl Fn.zaz rfl rfl ?_
 unfold qk5 at hC
 unfold qmj qmi
 cases hu : qjX w with
 | none =>
   rw [hu] at hC
   have hl : qav (h ++ [Blk.row [.bool false] false] ++ [.row Ent.zero.cs false]) none ⟨h.length, 0, none⟩ = some (.bool false) := qin (by rw [List.getElem?_append_left (by simp)]; exact List.getElem?_concat_length) rfl
   repeat' first | refine .A ?_ | refine .B ?_ | refine .J ?_ | refine .L hl ?_ | refine .P hC ?_ | refine .S hst ?_ | refine .F ?_ | refine .Y ?_ | fail
   rfl
 | some e =>
   rw [hu] at hC
   simp only at hC
   cases hv : e.lv with
   | false =>
     rw [hv, if_neg (by simp)] at hC
     have hl : qav (h ++ [Blk.row [.bool false] false] ++ [.row e.cs false]) none ⟨h.length, 0, none⟩ = some (.bool false) := qin (by rw [List.getElem?_append_left (by simp)]; exact List.getElem?_concat_length) rfl
     have hm : qmh (some e) = false := by simp [qmh, hv]
     rw [hm]
     repeat' first | refine .A ?_ | refine .B ?_ | refine .J ?_ | refine .L hl ?_ | refine .P hC ?_ | refine .S hst ?_ | refine .F ?_ | refine .Y ?_ | fail
     rfl
   | true =>
     rw [hv, if_pos rfl] at hC
     have hl : qav (qml h e) none ⟨h.length, 0, none⟩ = some (.bool (qmh (some e))) := qin (qmo h e) (by simp [qmh, hv])
     generalize qmh (some e) = mo at hl ⊢
     repeat' first | refine .A ?_ | refine .B ?_ | refine .J ?_ | refine .L hl ?_ | refine .P hC ?_ | refine .S hst ?_ | refine .F ?_ | refine .Y ?_ | fail
     rfl

theorem qmq (lo : Nat) (h : qab) (w : Int) : qfV En lo Id.zbZ [I w] h = some (qmj w, h) := by
 refine qgy rfl Fn.zbZ rfl rfl ?_
 have hL := fun lo => ql7 lo h w
 unfold qmj qmi
 cases hu : qjX w with
 | none =>
   rw [hu] at hL
   simp only [ql6, Ent.zero, Ent.cs] at hL
   rw [ql8 hu]
   repeat' first | refine .A ?_ | refine .B ?_ | refine .C ?_ | refine .J ?_ | refine .t6 ?_ | refine .P (hL _) ?_ | refine .F ?_ | refine .Y ?_ | fail
   rfl
 | some e =>
   have hmay := qmk hu
   rw [hu] at hL
   simp only [ql6] at hL
   cases hl : e.lv with
   | false =>
     rw [hl, if_neg (by simp)] at hL
     simp only [Ent.zero, Ent.cs] at hL
     have hm : qmh (some e) = false := by simp [qmh, hl]
     rw [ql9 hu hl, hm]
     repeat' first | refine .A ?_ | refine .B ?_ | refine .C ?_ | refine .J ?_ | refine .t6 ?_ | refine .P (hL _) ?_ | refine .F ?_ | refine .Y ?_ | fail
     rfl
   | true =>
     rw [hl, if_pos rfl] at hL
     obtain ⟨o, g, p, u, lk, lv⟩ := e
     simp only at hl
     subst hl
     unfold Ent.may at hmay
     simp only at hmay
     simp only [Ent.cs] at hL
     have hpu : IntKind.i64.wrap (p + u) = p + u := qiI (by omega) (by omega)
     by_cases hc : 0 < p + u ∨ lk = true
     ·have e1 : qmg ⟨o, g, p, u, lk, true⟩ = (1, ⟨o, g, p, u, lk, true⟩) := by unfold qmg; rw [if_pos (by rw [hpu]; exact hc)]
      have hm : qmh (some ⟨o, g, p, u, lk, true⟩) = false := by simp [qmh, e1]
      rw [qma hu rfl (by rw [e1]; simp), e1, hm]
      by_cases h1 : 0 < p
      ·repeat' first | refine .A ?_ | refine .B ?_ | refine .C ?_ | refine .D ?_ | refine .F ?_ | refine .J ?_ | refine .t3 ?_ | refine .f6 ?_ | refine .P (hL _) ?_ | refine .Y ?_ | fail
       rfl
      ·by_cases h2 : 0 < u
       ·repeat' first | refine .A ?_ | refine .B ?_ | refine .C ?_ | refine .D ?_ | refine .F ?_ | refine .J ?_ | refine .t3 ?_ | refine .f3 ?_ | refine .f6 ?_ | refine .P (hL _) ?_ | refine .Y ?_ | fail
        rfl
       ·have h3 : lk = true := by rcases hc with h | h; omega; exact h
        subst h3
        repeat' first | refine .A ?_ | refine .B ?_ | refine .C ?_ | refine .D ?_ | refine .F ?_ | refine .J ?_ | refine .f3 ?_ | refine .f6 ?_ | refine .P (hL _) ?_ | refine .Y ?_ | fail
        rfl
     ·have hlk : lk = false := by cases lk; rfl; exact absurd (.inr rfl) hc
      subst hlk
      have h0 : p + u ≤ 0 := by
       have : ¬ 0 < p + u := fun h => hc (.inl h)
       omega
      have hg : ∃ g' : Int, IntKind.i64.wrap (g + (qjV (decide (g < 1000)) : Nat)) = g' ∧ (IntKind.i64.wrap (g + 1) = g + 1) ∧ g' = min (g + 1) 1000 := by
       refine ⟨min (g + 1) 1000, ?_, qiI (by omega) (by omega), rfl⟩
       by_cases hg : g < 1000
       ·rw [decide_eq_true hg]; show IntKind.i64.wrap (g + 1) = _; rw [qiI (by omega) (by omega)]; omega
       ·rw [decide_eq_false hg]; show IntKind.i64.wrap (g + 0) = _; rw [qiI (by omega) (by omega)]; omega
      refine Exists.elim hg fun g' hq => ?_
      have e1 : qmg ⟨o, g, p, u, false, true⟩ = (0, ⟨0, g', 0, 0, false, false⟩) := by unfold qmg; rw [if_neg (by rw [hpu]; simp; omega), hq.1]
      have hm : qmh (some ⟨o, g, p, u, false, true⟩) = decide (g < 1000) := by simp [qmh, e1]
      have hmy : (⟨0, g', 0, 0, false, false⟩ : Ent).may := by unfold Ent.may; simp only; refine ⟨by omega, by omega, by omega, by omega, by omega, by omega, by omega, by omega, by simp, by simp⟩
      have hch : chE w qmg = (((qjY ⟨0, g', 0, 0, false, false⟩ : Nat) : Int), (0 : Int)) := by unfold chE; rw [hu]; simp only [e1, if_true, if_pos hmy]
      rw [hch, hm]
      have hP := fun lo => qki lo h ⟨0, g', 0, 0, false, false⟩
      unfold pkV at hP
      rw [if_pos hmy] at hP
      have hw1 := hq.2.1
      have hg' := hq.2.2
      clear hq hg
      simp only [Ent.cs] at hP
      have hmn : min (IntKind.i64.wrap (g + 1)) 1000 = g' := by rw [hw1]; exact hg'.symm
      by_cases hg : g < 1000
      ·rw [decide_eq_true hg]
       repeat' first | refine .A ?_ | refine .B ?_ | refine .D ?_ | refine .F ?_ | refine .J ?_ | refine .C ?_ | refine .t1 ?_ | refine .f3 ?_ | refine .f6 ?_ | refine .P (hL _) ?_ | refine .P (hP _) ?_ | refine qmf hmn rfl rfl rfl ?_ | refine .Y ?_ | fail
       rfl
      ·rw [decide_eq_false hg]
       repeat' first | refine .A ?_ | refine .B ?_ | refine .D ?_ | refine .F ?_ | refine .J ?_ | refine .C ?_ | refine .f1 ?_ | refine .f3 ?_ | refine .f6 ?_ | refine .P (hL _) ?_ | refine .P (hP _) ?_ | refine qmf hmn rfl rfl rfl ?_ | refine .Y ?_ | fail
       rfl
end Go.Proofs.YtnfcohmbcgfhbaaGreat

