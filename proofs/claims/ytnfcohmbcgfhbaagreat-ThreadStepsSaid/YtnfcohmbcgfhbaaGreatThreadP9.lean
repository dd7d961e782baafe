/- An object made, step by step: by the document. -/
import Derived.Test.YtnfcohmbcgfhbaaGreatThreadP8
import Derived.Test.YtnfcohmbcgfhbaaGreatThreadP7
set_option linter.unusedVariables false
set_option linter.unusedSimpArgs false

namespace Go.Proofs.YtnfcohmbcgfhbaaGreat
open Go Go.Ir

def dnx (k : Int) : Int := if k = 6 then 40 else if k = 7 then 6 else if k = 8 then 60 else if k = 9 then 7 else if k = 10 then 70 else if k = 11 then 8 else if k = 12 then 9 else k
def qnZ (c : Cfg) (s : Al) (k : Int) (pv gv : Value) : List Value :=
 [I c.A, I c.S, I c.T, I s.n, I k, pv, gv, I s.seen, I s.kept, I s.slot, I s.f, I s.at_, I s.gen, I s.word, .bool s.cl]
structure AlI (s : Al) : Prop where
 nx : 0 ≤ s.nx ∧ s.nx ≤ 12
 p0 : s.nx = 1 ∨ s.nx = 2 → s.p = ⟨1, 0, 0, 0⟩
 a0 : 0 < s.nx → s.nx < 7 → s.at_ = 0
 a7 : s.nx = 7 → 0 ≤ s.at_ ∧ s.at_ < qnH s.n
 by_ : 2 ≤ s.nx → 0 < qnH s.n
 pw : s.p.word < 9223372036854775808
 qw : s.q.word < 9223372036854775808
structure AlR (H : qab) (own : List Nat) (c : Cfg) (s : Al) (b : Nat) : Prop where
 mem : b ∈ own
 inv : AlI s
 row : ∃ pv gv, H[b]? = some (.row (qnZ c s (dnx s.nx) pv gv) false) ∧ (s.nx = 3 → ∃ t, pv = qkb t ∧ H[t]? = some (.row (qlD c false s.p) false) ∧ b ≠ t ∧ t ∈ own) ∧
  (s.nx = 6 → ∃ g, gv = qkb g ∧ H[g]? = some (.row (qlD c true s.q) false) ∧ b ≠ g ∧ g ∈ own)

section
variable {H : qab} {b : Nat} {c : Cfg} {s : Al} {k : Int} {pv gv : Value} {cb : CB} {ws bs : List Int} {own : List Nat}
theorem qn0 (n : Int) : 0 ≤ qnH n ∧ qnH n ≤ 256 := by
 unfold qnH qj8
 split <;> omega
theorem qn1 (d : DidR H H b (qnZ c s k pv gv) cb ws bs) (k' : Int) : qfV En 0 Id.zcN [qkb b, I k'] H = some (qmr none, H.set b (.row (qnZ c s k' pv gv) false)) := by
 have hlo : 0 ≤ b := Nat.zero_le _
 refine qgx rfl Fn.zcN rfl rfl ?_
 repeat' first | refine .A ?_ | refine .B ?_ | refine .J ?_ | refine .S (qip d.row hlo (Nat.le_of_ble_eq_true rfl) rfl) ?_ | refine .F ?_ | refine .Y ?_ | fail
 rfl
theorem qn2 (d : DidR H H b (qnZ c s k pv gv) cb ws bs) (hb : b ≠ cb.P ∧ b ≠ cb.W ∧ b ≠ cb.Y) (e k' : Int) : ∃ H', qfV En 0 Id.zcL [qkb b, I e, I k'] H = some (qmr none, H') ∧ DidR H H' b (qnZ c { s with kept := e } k' pv gv) cb ws bs := by
 have hlo : 0 ≤ b := Nat.zero_le _
 have d1 := d.put (row' := qnZ c { s with kept := e } k pv gv) hb
 have s1 : stN 0 H ⟨b, 0 + 8, none⟩ (qaf (I e)) = some (H.set b (.row (qnZ c { s with kept := e } k pv gv) false)) := qip d.row hlo (Nat.le_of_ble_eq_true rfl) rfl
 generalize H.set b (.row (qnZ c { s with kept := e } k pv gv) false) = H1 at d1 s1
 have hO := fun k' => qn1 (DidR.of d1.row d1.cells) k'
 refine ⟨_, ?_, d1.put hb⟩
 refine qgx rfl Fn.zcL rfl rfl ?_
 repeat' first | refine .A ?_ | refine .B ?_ | refine .J ?_ | refine .P (hO _) ?_ | refine .S s1 ?_ | refine .F ?_ | refine .Y ?_ | fail
 rfl
theorem qn3 (d : DidR H H b (qnZ c s k pv gv) cb ws bs) : qfV En 0 Id.zcI [qkb b] H = some (I (qnH s.n), H) := by
 have hlo : 0 ≤ b := Nat.zero_le _
 have hR := fun lo => qkf lo H s.n
 have hq : ∃ q : Int, qj9 s.n = .tuple #[I (qnH s.n), I q] := by
  unfold qj9 qnH
  split
  ·exact ⟨0, rfl⟩
  ·exact ⟨9, rfl⟩
 obtain ⟨q, hq⟩ := hq
 rw [hq] at hR
 refine qgx rfl Fn.zcI rfl rfl ?_
 repeat' first | refine .A ?_ | refine .B ?_ | refine .J ?_ | refine .L (qin d.row rfl) ?_ | refine .P (hR _) ?_ | refine .F ?_ | refine .Y ?_ | fail
 rfl

theorem AlR.of {H' : qab} {s' : Al} {ws' bs' : List Int} (hmem : b ∈ own) (d : DidR H H' b (qnZ c s' k pv gv) cb ws' bs') (hk : k = dnx s'.nx) (hi : AlI s') (h3 : s'.nx ≠ 3) (h6 : s'.nx ≠ 6) : AlR H' own c s' b :=
 ⟨hmem, hi, pv, gv, by rw [← hk]; exact d.row, fun h => absurd h h3, fun h => absurd h h6⟩

theorem qn4 {c : Cfg} {p : Sk} {ws : List Int} (h1 : p.word < 9223372036854775808) (hr : Rng ws) : (qlf c p ws).1.word < 9223372036854775808 := by
 have h2 := (hr.get 1).2
 unfold qlf
 split
 ·split
  ·exact h2
  ·split <;> exact h2
 ·split
  ·split <;> exact h1
  ·split
   ·split <;> exact h1
   ·exact h1

def ArD (H : qab) (own : List Nat) (b : Nat) (c : Cfg) (cb : CB) (s : Al) (ws bs : List Int) (fn : Nat) : Prop :=
 ∃ own' H', qfV En 0 fn [qkb b, qiX cb] H = some (qmr (alS c s ws bs).2.2.2, H') ∧ AlR H' own' c (alS c s ws bs).1 b ∧ IsR H' cb (alS c s ws bs).2.1 (alS c s ws bs).2.2.1 ∧ Grew H H' own own' cb

set_option maxHeartbeats 4000000 in
theorem qn5 (hP : AlR H own c s b) (hC : IsR H cb ws bs) (hA : Apart own cb) (hm : c.may) (hx : s.nx = 1 ∨ s.nx = 2 ∨ s.nx = 11 ∨ s.nx = 12) : ArD H own b c cb s ws bs Id.zcK := by
 obtain ⟨pv, gv, hr, _, _⟩ := hP.row
 have hb := hA.at hP.mem
 have hlo : 0 ≤ b := Nat.zero_le _
 have d := DidR.of hr hC
 have hi := hP.inv
 have hsub := qnp (cb := cb) hP.mem
 have hAt : ∀ lo H, qfV En lo Id.zcv [.agg #[I c.A, I c.S, I c.T], I 2, I 0] H = some (I 2, H) := fun lo H => qlu lo H hm (k := 2) (by omega) 0
 have fin : ∀ {H' : qab} {s' : Al} {ws' bs' : List Int} {k : Int}, DidR H H' b (qnZ c s' k pv gv) cb ws' bs' → k = dnx s'.nx → AlI s' → s'.nx ≠ 3 → s'.nx ≠ 6 → AlR H' own c s' b ∧ IsR H' cb ws' bs' ∧ Grew H H' own own cb :=
  fun d1 h1 h2 h3 h4 => ⟨AlR.of hP.mem d1 h1 h2 h3 h4, d1.cells, .same (d1.chg.mono hsub)⟩
 have l4 : qav H none ⟨b, 0 + 4, none⟩ = some (I (dnx s.nx)) := qin hr rfl
 have l03 : qav H (some 3) ⟨b, 0 + 0, none⟩ = some (.agg #[I c.A, I c.S, I c.T]) := qio hr (Nat.le_of_ble_eq_true rfl) rfl
 unfold ArD
 by_cases h1 : s.nx = 1
 ·have e1 : dnx s.nx = 1 := by rw [h1]; rfl
  rw [e1] at l4
  have hSz := qn3 d
  by_cases hz : qnH s.n = 0
  ·have e0 : alS c s ws bs = ({ s with nx := 0 }, ws, bs, some (9, 0)) := by unfold alS; rw [if_neg (show ¬ s.nx = 0 by omega), if_pos h1, if_pos hz]
   rw [e0]
   refine ⟨own, _, ?_, fin (k := 0) (d.put hb) rfl ⟨by simp, fun h => by simp at h, fun h => by simp at h, fun h => by simp at h, fun h => by simp at h, hi.pw, hi.qw⟩ (by simp) (by simp)⟩
   refine qgx rfl Fn.zcK rfl rfl ?_
   repeat' first | refine .A ?_ | refine .B ?_ | refine .C ?_ | refine .F ?_ | refine .G ?_ | refine .J ?_ | refine .t5 ?_ | refine .L l4 ?_ | refine .L l03 ?_ | refine .P (hAt _ _) ?_ | refine .P hSz ?_ | refine .S (qip d.row hlo (Nat.le_of_ble_eq_true rfl) rfl) ?_ | refine .Y ?_ | fail
   rfl
  ·have hbl := qn0 s.n
   have e0 : alS c s ws bs = ({ s with seen := qiR ws 2, nx := 2 }, ws, bs, none) := by unfold alS; rw [if_neg (show ¬ s.nx = 0 by omega), if_pos h1, if_neg hz]
   rw [e0]
   obtain ⟨H1, hL, hC1, ho1⟩ := qlq (lo := 0) hC (Nat.zero_le _) 2
   have d1 := d.on hC1 ho1 (by simp) hb
   have d2 := d1.put (row' := qnZ c { s with seen := qiR ws 2, nx := 2 } (dnx s.nx) pv gv) hb
   have s2 : stN 0 H1 ⟨b, 0 + 7, none⟩ (qaf (I (qiR ws 2))) = some (H1.set b (.row (qnZ c { s with seen := qiR ws 2, nx := 2 } (dnx s.nx) pv gv) false)) := qip d1.row hlo (Nat.le_of_ble_eq_true rfl) rfl
   generalize H1.set b (.row (qnZ c { s with seen := qiR ws 2, nx := 2 } (dnx s.nx) pv gv) false) = H2 at d2 s2
   have k4 : qav H2 none ⟨b, 0 + 4, none⟩ = some (I 1) := qin d2.row (by rw [e1]; rfl)
   have hO := fun k' => qn1 (DidR.of d2.row d2.cells) k'
   refine ⟨own, _, ?_, fin (k := 2) (d2.put hb) rfl ⟨by simp, fun _ => hi.p0 (.inl h1), fun _ _ => hi.a0 (by omega) (by omega), fun h => by simp at h, fun _ => by simp only; omega, hi.pw, hi.qw⟩ (by simp) (by simp)⟩
   refine qgx rfl Fn.zcK rfl rfl ?_
   repeat' first | refine .A ?_ | refine .B ?_ | refine .C ?_ | refine .D ?_ | refine .F ?_ | refine .G ?_ | refine .J ?_ | refine .t5 ?_ | refine .f5 ?_ | refine .L l4 ?_ | refine .L l03 ?_ | refine .L k4 ?_ | refine .P (hAt _ _) ?_ | refine .P hSz ?_ | refine .P hL ?_ | refine .P (hO _) ?_ | refine .S s2 ?_ | refine .Y ?_ | fail
   rfl
 by_cases h2 : s.nx = 2
 ·have e1 : dnx s.nx = 2 := by rw [h2]; rfl
  rw [e1] at l4
  obtain ⟨H1, hL, hC1, ho1⟩ := qlt (lo := 0) hC (Nat.zero_le _) (Nat.zero_le _) 2 s.seen (w64 (s.seen + 1))
  have d1 := d.on hC1 ho1 (by simp) hb
  have hbp := hi.by_ (by omega)
  cases hcb : qi3 ws 2 s.seen with
  | false =>
    rw [hcb] at hL d1
    have e0 : alS c s ws bs = ({ s with nx := 1 }, ws, bs, none) := by unfold alS; rw [if_neg (show ¬ s.nx = 0 by omega), if_neg h1, if_pos h2, hcb]; rfl
    rw [e0]
    have hO := fun k' => qn1 (DidR.of d1.row d1.cells) k'
    refine ⟨own, _, ?_, fin (k := 1) (s' := { s with nx := 1 }) (d1.put hb) rfl ⟨by simp, fun _ => hi.p0 (.inr h2), fun _ _ => hi.a0 (by omega) (by omega), fun h => by simp at h, fun _ => hbp, hi.pw, hi.qw⟩ (by simp) (by simp)⟩
    refine qgx rfl Fn.zcK rfl rfl ?_
    repeat' first | refine .A ?_ | refine .B ?_ | refine .C ?_ | refine .D ?_ | refine .F ?_ | refine .G ?_ | refine .J ?_ | refine .t5 ?_ | refine .f5 ?_ | refine .L l4 ?_ | refine .L l03 ?_ | refine .L (qin d.row rfl) ?_ | refine .P (hAt _ _) ?_ | refine .P hL ?_ | refine .P (hO _) ?_ | refine .Y ?_ | fail
    rfl
  | true =>
    rw [hcb] at hL d1
    have e0 : alS c s ws bs = ({ s with nx := 3 }, qiS ws 2 (w64 (s.seen + 1)), bs, none) := by unfold alS; rw [if_neg (show ¬ s.nx = 0 by omega), if_neg h1, if_pos h2, hcb]; rfl
    rw [e0]
    have k03 : qav H1 (some 3) ⟨b, 0 + 0, none⟩ = some (.agg #[I c.A, I c.S, I c.T]) := qio d1.row (Nat.le_of_ble_eq_true rfl) rfl
    have hNP := fun lo => qnC lo H1 c false 0
    have hbl : b < H1.length := qim d1.row
    have d2 : DidR H (H1 ++ [.row (qlD c false ⟨1, 0, 0, 0⟩) false]) b (qnZ c s (dnx s.nx) pv gv) cb (qiS ws 2 (w64 (s.seen + 1))) bs := ⟨qil d1.row, d1.cells.chg (S := []) ((Chg.refl [] _).app _) (by simp), d1.chg.app _⟩
    have hg : (H1 ++ [Blk.row (qlD c false ⟨1, 0, 0, 0⟩) false])[H1.length]? = some (.row (qlD c false ⟨1, 0, 0, 0⟩) false) := List.getElem?_concat_length
    generalize H1 ++ [Blk.row (qlD c false ⟨1, 0, 0, 0⟩) false] = H2 at hNP d2 hg
    have d3 := d2.put (row' := qnZ c s (dnx s.nx) (qkb H1.length) gv) hb
    have s3 : stN 0 H2 ⟨b, 0 + 5, none⟩ (qaf (qkb H1.length)) = some (H2.set b (.row (qnZ c s (dnx s.nx) (qkb H1.length) gv) false)) := qip d2.row hlo (Nat.le_of_ble_eq_true rfl) rfl
    have hg3 : (H2.set b (.row (qnZ c s (dnx s.nx) (qkb H1.length) gv) false))[H1.length]? = some (.row (qlD c false ⟨1, 0, 0, 0⟩) false) := qik (by omega) hg
    generalize H2.set b (.row (qnZ c s (dnx s.nx) (qkb H1.length) gv) false) = H3 at d3 s3 hg3
    have hO := fun k' => qn1 (DidR.of d3.row d3.cells) k'
    have dd := d3.put (row' := qnZ c s 3 (qkb H1.length) gv) hb
    refine ⟨H1.length :: own, _, ?_, ⟨List.mem_cons_of_mem _ hP.mem, ⟨by simp, fun h => by simp at h, fun _ _ => hi.a0 (by omega) (by omega), fun h => by simp at h, fun _ => hbp, hi.pw, hi.qw⟩, qkb H1.length, gv, dd.row, fun _ => ⟨H1.length, rfl, qik (by omega) (by rw [hi.p0 (.inr h2)]; exact hg3), by omega, by simp⟩, fun h => by simp at h⟩, dd.cells, .cons (dd.chg.mono hsub) d1.chg.len⟩
    refine qgx rfl Fn.zcK rfl rfl ?_
    repeat' first | refine .A ?_ | refine .B ?_ | refine .C ?_ | refine .D ?_ | refine .G ?_ | refine .J ?_ | refine .t5 ?_ | refine .f5 ?_ | refine .L l4 ?_ | refine .L l03 ?_ | refine .L k03 ?_ | refine .L (qin d.row rfl) ?_ | refine .P (hAt _ _) ?_ | refine .P hL ?_ | refine .P (hNP _) ?_ | refine .P (hO _) ?_ | refine .S s3 ?_ | refine .F ?_ | refine .Y ?_ | fail
    rfl
 by_cases h11 : s.nx = 11
 ·have e1 : dnx s.nx = 8 := by rw [h11]; rfl
  rw [e1] at l4
  have e0 : alS c s ws bs = ({ s with seen := qiR ws 2, nx := 12 }, ws, bs, none) := by unfold alS; rw [if_neg (show ¬ s.nx = 0 by omega), if_neg h1, if_neg h2, if_neg (show ¬ s.nx = 3 by omega), if_neg (show ¬ s.nx = 4 by omega), if_neg (show ¬ s.nx = 5 by omega), if_neg (show ¬ s.nx = 6 by omega), if_neg (show ¬ s.nx = 7 by omega), if_neg (show ¬ s.nx = 8 by omega), if_neg (show ¬ s.nx = 9 by omega), if_neg (show ¬ s.nx = 10 by omega), if_pos h11]
  rw [e0]
  obtain ⟨H1, hL, hC1, ho1⟩ := qlq (lo := 0) hC (Nat.zero_le _) 2
  have d1 := d.on hC1 ho1 (by simp) hb
  have d2 := d1.put (row' := qnZ c { s with seen := qiR ws 2, nx := 12 } (dnx s.nx) pv gv) hb
  have s2 : stN 0 H1 ⟨b, 0 + 7, none⟩ (qaf (I (qiR ws 2))) = some (H1.set b (.row (qnZ c { s with seen := qiR ws 2, nx := 12 } (dnx s.nx) pv gv) false)) := qip d1.row hlo (Nat.le_of_ble_eq_true rfl) rfl
  generalize H1.set b (.row (qnZ c { s with seen := qiR ws 2, nx := 12 } (dnx s.nx) pv gv) false) = H2 at d2 s2
  have k4 : qav H2 none ⟨b, 0 + 4, none⟩ = some (I 8) := qin d2.row (by rw [e1]; rfl)
  have hO := fun k' => qn1 (DidR.of d2.row d2.cells) k'
  refine ⟨own, _, ?_, fin (k := 9) (d2.put hb) rfl ⟨by simp, fun h => by simp at h, fun _ h => by simp at h, fun h => by simp at h, fun _ => hi.by_ (by omega), hi.pw, hi.qw⟩ (by simp) (by simp)⟩
  refine qgx rfl Fn.zcK rfl rfl ?_
  repeat' first | refine .A ?_ | refine .B ?_ | refine .C ?_ | refine .D ?_ | refine .F ?_ | refine .G ?_ | refine .J ?_ | refine .t5 ?_ | refine .f5 ?_ | refine .L l4 ?_ | refine .L l03 ?_ | refine .L k4 ?_ | refine .P (hAt _ _) ?_ | refine .P hL ?_ | refine .P (hO _) ?_ | refine .S s2 ?_ | refine .Y ?_ | fail
  rfl
 have h12 : s.nx = 12 := by rcases hx with h | h | h | h; exact absurd h h1; exact absurd h h2; exact absurd h h11; exact h
 have e1 : dnx s.nx = 9 := by rw [h12]; rfl
 rw [e1] at l4
 have hsb : IntKind.i64.wrap (s.seen - 1) = w64 (s.seen + -1) := rfl
 obtain ⟨H1, hL, hC1, ho1⟩ := qlt (lo := 0) hC (Nat.zero_le _) (Nat.zero_le _) 2 s.seen (w64 (s.seen + -1))
 have d1 := d.on hC1 ho1 (by simp) hb
 have eS : alS c s ws bs = if qi3 ws 2 s.seen then ({ s with nx := 0 }, qiS ws 2 (w64 (s.seen + -1)), bs, some (qnN s)) else ({ s with nx := 11 }, ws, bs, none) := by
  unfold alS; rw [if_neg (show ¬ s.nx = 0 by omega), if_neg h1, if_neg h2, if_neg (show ¬ s.nx = 3 by omega), if_neg (show ¬ s.nx = 4 by omega), if_neg (show ¬ s.nx = 5 by omega), if_neg (show ¬ s.nx = 6 by omega), if_neg (show ¬ s.nx = 7 by omega), if_neg (show ¬ s.nx = 8 by omega), if_neg (show ¬ s.nx = 9 by omega), if_neg (show ¬ s.nx = 10 by omega), if_neg h11]
 cases hcb : qi3 ws 2 s.seen with
 | false =>
   rw [hcb] at hL d1
   have e0 : alS c s ws bs = ({ s with nx := 11 }, ws, bs, none) := by rw [eS, hcb]; rfl
   rw [e0]
   have hO := fun k' => qn1 (DidR.of d1.row d1.cells) k'
   refine ⟨own, _, ?_, fin (k := 8) (s' := { s with nx := 11 }) (d1.put hb) rfl ⟨by simp, fun h => by simp at h, fun _ h => by simp at h, fun h => by simp at h, fun _ => hi.by_ (by omega), hi.pw, hi.qw⟩ (by simp) (by simp)⟩
   refine qgx rfl Fn.zcK rfl rfl ?_
   repeat' first | refine .A ?_ | refine .B ?_ | refine .C ?_ | refine .D ?_ | refine .F ?_ | refine .G ?_ | refine .H ?_ | refine .J ?_ | refine qlS (a := s.seen) (b := 1) hsb rfl rfl rfl ?_ | refine .f5 ?_ | refine .L l4 ?_ | refine .L l03 ?_ | refine .L (qin d.row rfl) ?_ | refine .P (hAt _ _) ?_ | refine .P hL ?_ | refine .P (hO _) ?_ | refine .Y ?_ | fail
   rfl
 | true =>
   rw [hcb] at hL d1
   have e0 : alS c s ws bs = ({ s with nx := 0 }, qiS ws 2 (w64 (s.seen + -1)), bs, some (qnN s)) := by rw [eS, hcb]; rfl
   rw [e0]
   have d2 := d1.put (row' := qnZ c s 0 pv gv) hb
   have s2 : stN 0 H1 ⟨b, 0 + 4, none⟩ (qaf (I 0)) = some (H1.set b (.row (qnZ c s 0 pv gv) false)) := qip d1.row hlo (Nat.le_of_ble_eq_true rfl) rfl
   generalize H1.set b (.row (qnZ c s 0 pv gv) false) = H2 at d2 s2
   have k8 : qav H2 none ⟨b, 0 + 8, none⟩ = some (I s.kept) := qin d2.row rfl
   have hMk := fun lo => ql3 lo H2 s.slot s.gen
   have hmk : ∃ q : Int, qlV s.slot s.gen = .tuple #[I (qnJ s.slot s.gen), I q] := by
    unfold qlV qnJ
    split
    ·exact ⟨0, rfl⟩
    ·exact ⟨1, rfl⟩
   obtain ⟨q, hq⟩ := hmk
   rw [hq] at hMk
   refine ⟨own, H2, ?_, fin (s' := { s with nx := 0 }) (k := 0) d2 rfl ⟨by simp, fun h => by simp at h, fun h => by simp at h, fun h => by simp at h, fun h => by simp at h, hi.pw, hi.qw⟩ (by simp) (by simp)⟩
   unfold qnN
   refine qgx rfl Fn.zcK rfl rfl ?_
   by_cases hk : s.kept ≠ 0
   ·rw [if_pos hk]
    repeat' first | refine .A ?_ | refine .B ?_ | refine .C ?_ | refine .D ?_ | refine .F ?_ | refine .G ?_ | refine .H ?_ | refine .J ?_ | refine qlS (a := s.seen) (b := 1) hsb rfl rfl rfl ?_ | refine .f5 ?_ | refine .t6 ?_ | refine .L l4 ?_ | refine .L l03 ?_ | refine .L k8 ?_ | refine .L (qin d.row rfl) ?_ | refine .P (hAt _ _) ?_ | refine .P hL ?_ | refine .S s2 ?_ | refine .Y ?_ | fail
    rfl
   ·rw [if_neg hk]
    repeat' first | refine .A ?_ | refine .B ?_ | refine .D ?_ | refine .F ?_ | refine .G ?_ | refine .H ?_ | refine .J ?_ | refine qlS (a := s.seen) (b := 1) hsb rfl rfl rfl ?_ | refine .f5 ?_ | refine .f6 ?_ | (show EG _ _ (⟨_, .load _ _, _, _⟩ :: _) _ _ _ _ _ _; first | refine .L l4 ?_ | refine .L l03 ?_ | refine .L k8 ?_ | refine .L (qin d.row rfl) ?_ | refine .L (qin d2.row rfl) ?_) | refine .P (hAt _ _) ?_ | refine .P hL ?_ | refine .P (hMk _) ?_ | refine .S s2 ?_ | refine .Y ?_ | fail
    rfl
end
end Go.Proofs.YtnfcohmbcgfhbaaGreat

/- An object made: each step of the document's machine. -/
namespace Go.Proofs.YtnfcohmbcgfhbaaGreat
open Go Go.Ir

section
variable {H : qab} {b : Nat} {c : Cfg} {s : Al} {k : Int} {pv gv : Value} {cb : CB} {ws bs : List Int} {own : List Nat}

set_option maxHeartbeats 4000000 in
theorem qn6 (hP : AlR H own c s b) (hC : IsR H cb ws bs) (hA : Apart own cb) (hm : c.may) (hr0 : Rng ws) (hx : s.nx = 4 ∨ s.nx = 5 ∨ s.nx = 6) : ArD H own b c cb s ws bs Id.zcO := by
 obtain ⟨pv, gv, hr, _, h6'⟩ := hP.row
 have hb := hA.at hP.mem
 have hlo : 0 ≤ b := Nat.zero_le _
 have d := DidR.of hr hC
 have hi := hP.inv
 have hbp := hi.by_ (by rcases hx with h | h | h <;> simp [h])
 have hsub := qnp (cb := cb) hP.mem
 have hAt : ∀ lo H, qfV En lo Id.zcv [.agg #[I c.A, I c.S, I c.T], I 0, I 0] H = some (I 0, H) := fun lo H => qlu lo H hm (k := 0) (by omega) 0
 have fin : ∀ {H' : qab} {s' : Al} {ws' bs' : List Int} {k : Int}, DidR H H' b (qnZ c s' k pv gv) cb ws' bs' → k = dnx s'.nx → AlI s' → s'.nx ≠ 3 → s'.nx ≠ 6 → AlR H' own c s' b ∧ IsR H' cb ws' bs' ∧ Grew H H' own own cb :=
  fun d1 h1 h2 h3 h4 => ⟨AlR.of hP.mem d1 h1 h2 h3 h4, d1.cells, .same (d1.chg.mono hsub)⟩
 have l4 : qav H none ⟨b, 0 + 4, none⟩ = some (I (dnx s.nx)) := qin hr rfl
 have l03 : qav H (some 3) ⟨b, 0 + 0, none⟩ = some (.agg #[I c.A, I c.S, I c.T]) := qio hr (Nat.le_of_ble_eq_true rfl) rfl
 unfold ArD
 by_cases h4 : s.nx = 4
 ·have e1 : dnx s.nx = 4 := by rw [h4]; rfl
  rw [e1] at l4
  have eS : alS c s ws bs = if qiR ws 0 < 0 ∨ w64 (c.A - qnH s.n) < qiR ws 0 then ({ s with f := qiR ws 0, kept := 10, q := ⟨1, s.slot, 0, 0⟩, nx := 6 }, ws, bs, none) else ({ s with f := qiR ws 0, nx := 5 }, ws, bs, none) := by
   unfold alS; rw [if_neg (show ¬ s.nx = 0 by omega), if_neg (show ¬ s.nx = 1 by omega), if_neg (show ¬ s.nx = 2 by omega), if_neg (show ¬ s.nx = 3 by omega), if_pos h4]
  obtain ⟨H1, hL, hC1, ho1⟩ := qlq (lo := 0) hC (Nat.zero_le _) 0
  have d1 := d.on hC1 ho1 (by simp) hb
  generalize qiR ws 0 = f0 at hL eS
  have d2 := d1.put (row' := qnZ c { s with f := f0 } (dnx s.nx) pv gv) hb
  have s2 : stN 0 H1 ⟨b, 0 + 10, none⟩ (qaf (I f0)) = some (H1.set b (.row (qnZ c { s with f := f0 } (dnx s.nx) pv gv) false)) := qip d1.row hlo (Nat.le_of_ble_eq_true rfl) rfl
  generalize H1.set b (.row (qnZ c { s with f := f0 } (dnx s.nx) pv gv) false) = H2 at d2 s2
  have k10 : qav H2 none ⟨b, 0 + 10, none⟩ = some (I f0) := qin d2.row rfl
  have k00 : qav H2 none ⟨b, 0 + 0 + 0, none⟩ = some (I c.A) := qin d2.row rfl
  have k9 : qav H2 none ⟨b, 0 + 9, none⟩ = some (I s.slot) := qin d2.row rfl
  have k03 : qav H2 (some 3) ⟨b, 0 + 0, none⟩ = some (.agg #[I c.A, I c.S, I c.T]) := qio d2.row (Nat.le_of_ble_eq_true rfl) rfl
  have hSz := qn3 (DidR.of d2.row d2.cells)
  simp only at hSz
  by_cases hc : f0 < 0 ∨ w64 (c.A - qnH s.n) < f0
  ·rw [if_pos hc] at eS
   rw [eS]
   have hNP := fun lo => qnC lo H2 c true s.slot
   have hbl : b < H2.length := qim d2.row
   have d3 : DidR H (H2 ++ [.row (qlD c true ⟨1, s.slot, 0, 0⟩) false]) b (qnZ c { s with f := f0 } (dnx s.nx) pv gv) cb ws bs := ⟨qil d2.row, d2.cells.chg (S := []) ((Chg.refl [] _).app _) (by simp), d2.chg.app _⟩
   have hg : (H2 ++ [Blk.row (qlD c true ⟨1, s.slot, 0, 0⟩) false])[H2.length]? = some (.row (qlD c true ⟨1, s.slot, 0, 0⟩) false) := List.getElem?_concat_length
   generalize H2 ++ [Blk.row (qlD c true ⟨1, s.slot, 0, 0⟩) false] = H3 at hNP d3 hg
   have d4 := d3.put (row' := qnZ c { s with f := f0 } (dnx s.nx) pv (qkb H2.length)) hb
   have s4 : stN 0 H3 ⟨b, 0 + 6, none⟩ (qaf (qkb H2.length)) = some (H3.set b (.row (qnZ c { s with f := f0 } (dnx s.nx) pv (qkb H2.length)) false)) := qip d3.row hlo (Nat.le_of_ble_eq_true rfl) rfl
   have hg4 : (H3.set b (.row (qnZ c { s with f := f0 } (dnx s.nx) pv (qkb H2.length)) false))[H2.length]? = some (.row (qlD c true ⟨1, s.slot, 0, 0⟩) false) := qik (by omega) hg
   generalize H3.set b (.row (qnZ c { s with f := f0 } (dnx s.nx) pv (qkb H2.length)) false) = H4 at d4 s4 hg4
   obtain ⟨H5, hF, d5⟩ := qn2 (DidR.of d4.row d4.cells) hb 10 40
   have dd := d4.then d5
   have hg5 : H5[H2.length]? = some (.row (qlD c true ⟨1, s.slot, 0, 0⟩) false) := d5.chg.get hg4 (by
    have h1 := hC1.p.choose_spec
    have a1 := qim d2.cells.p.choose_spec
    have a2 := qim d2.cells.w
    have a3 := qim d2.cells.y
    simp; omega)
   refine ⟨H2.length :: own, H5, ?_, ⟨List.mem_cons_of_mem _ hP.mem, ⟨by simp, fun h => by simp at h, fun _ _ => hi.a0 (by omega) (by omega), fun h => by simp at h, fun _ => hbp, hi.pw, by simp⟩, pv, qkb H2.length, dd.row, fun h => by simp at h, fun _ => ⟨H2.length, rfl, hg5, by omega, by simp⟩⟩, dd.cells, .cons (dd.chg.mono hsub) d2.chg.len⟩
   refine qgx rfl Fn.zcO rfl rfl ?_
   by_cases hc1 : f0 < 0
   ·repeat' first | refine .A ?_ | refine .B ?_ | refine .C ?_ | refine .G ?_ | refine .J ?_ | refine .t1 ?_ | refine .t5 ?_ | (show EG _ _ (⟨_, .load _ _, _, _⟩ :: _) _ _ _ _ _ _; first | refine .L l4 ?_ | refine .L l03 ?_ | refine .L k10 ?_ | refine .L k9 ?_ | refine .L k03 ?_) | refine .P (hAt _ _) ?_ | refine .P hL ?_ | refine .P (hNP _) ?_ | refine .P hF ?_ | refine .S s2 ?_ | refine .S s4 ?_ | refine .D ?_ | refine .F ?_ | refine .Y ?_ | fail
    rfl
   ·have hc2 : IntKind.i64.wrap (c.A - qnH s.n) < f0 := by rcases hc with h | h; exact absurd h hc1; exact h
    repeat' first | refine .A ?_ | refine .B ?_ | refine .C ?_ | refine .G ?_ | refine .J ?_ | refine .f1 ?_ | refine .t3 ?_ | refine .t5 ?_ | (show EG _ _ (⟨_, .load _ _, _, _⟩ :: _) _ _ _ _ _ _; first | refine .L l4 ?_ | refine .L l03 ?_ | refine .L k10 ?_ | refine .L k9 ?_ | refine .L k03 ?_) | (show EG _ _ (⟨_, .call _ _, _, _⟩ :: _) _ _ _ _ _ _; first | refine .P (hAt _ _) ?_ | refine .P hL ?_ | refine .P hSz ?_ | refine .P (hNP _) ?_ | refine .P hF ?_) | refine .X k10 (qis k10) (qkd _) ?_ | refine .X k00 (qis k00) (qkd _) ?_ | refine .S s2 ?_ | refine .S s4 ?_ | refine .F ?_ | refine .Y ?_ | fail
    rfl
  ·rw [if_neg hc] at eS
   rw [eS]
   have hc1 : ¬ f0 < 0 := fun h => hc (.inl h)
   have hc2 : ¬ IntKind.i64.wrap (c.A - qnH s.n) < f0 := fun h => hc (.inr h)
   clear hc
   have hO := fun k' => qn1 (DidR.of d2.row d2.cells) k'
   refine ⟨own, _, ?_, fin (k := 5) (s' := { s with f := f0, nx := 5 }) (d2.put hb) rfl ⟨by simp, fun h => by simp at h, fun _ _ => hi.a0 (by omega) (by omega), fun h => by simp at h, fun _ => hbp, hi.pw, hi.qw⟩ (by simp) (by simp)⟩
   refine qgx rfl Fn.zcO rfl rfl ?_
   repeat' first | refine .A ?_ | refine .B ?_ | refine .C ?_ | refine .D ?_ | refine .F ?_ | refine .G ?_ | refine .J ?_ | refine .f1 ?_ | refine .f3 ?_ | refine .t5 ?_ | refine .L l4 ?_ | refine .L l03 ?_ | refine .L k10 ?_ | refine .P (hAt _ _) ?_ | refine .P hL ?_ | refine .P hSz ?_ | refine .P (hO _) ?_ | refine .X k10 (qis k10) (qkd _) ?_ | refine .X k00 (qis k00) (qkd _) ?_ | refine .S s2 ?_ | refine .Y ?_ | fail
   rfl
 by_cases h5 : s.nx = 5
 ·have e1 : dnx s.nx = 5 := by rw [h5]; rfl
  rw [e1] at l4
  have hSz := qn3 d
  have l10 : qav H none ⟨b, 0 + 10, none⟩ = some (I s.f) := qin hr rfl
  obtain ⟨H1, hL, hC1, ho1⟩ := qlt (lo := 0) hC (Nat.zero_le _) (Nat.zero_le _) 0 s.f (w64 (s.f + qnH s.n))
  have d1 := d.on hC1 ho1 (by simp) hb
  have eS : alS c s ws bs = if qi3 ws 0 s.f then ({ s with cl := true, nx := 7 }, qiS ws 0 (w64 (s.f + qnH s.n)), bs, none) else ({ s with nx := 4 }, ws, bs, none) := by
   unfold alS; rw [if_neg (show ¬ s.nx = 0 by omega), if_neg (show ¬ s.nx = 1 by omega), if_neg (show ¬ s.nx = 2 by omega), if_neg (show ¬ s.nx = 3 by omega), if_neg h4, if_pos h5]
  cases hcb : qi3 ws 0 s.f with
  | false =>
    rw [hcb] at hL d1 eS
    rw [eS, if_neg (by simp)]
    have hO := fun k' => qn1 (DidR.of d1.row d1.cells) k'
    refine ⟨own, _, ?_, fin (k := 4) (s' := { s with nx := 4 }) (d1.put hb) rfl ⟨by simp, fun h => by simp at h, fun _ _ => hi.a0 (by omega) (by omega), fun h => by simp at h, fun _ => hbp, hi.pw, hi.qw⟩ (by simp) (by simp)⟩
    refine qgx rfl Fn.zcO rfl rfl ?_
    repeat' first | refine .A ?_ | refine .B ?_ | refine .C ?_ | refine .D ?_ | refine .G ?_ | refine .J ?_ | refine .t5 ?_ | refine .f5 ?_ | refine .L l4 ?_ | refine .L l03 ?_ | refine .P (hAt _ _) ?_ | refine .P hL ?_ | refine .P hSz ?_ | refine .P (hO _) ?_ | refine .X l10 (qkc l10 l10) (qkd _) ?_ | refine .F ?_ | refine .Y ?_ | fail
    rfl
  | true =>
    rw [hcb] at hL d1 eS
    rw [eS, if_pos rfl]
    have d2 := d1.put (row' := qnZ c { s with cl := true } (dnx s.nx) pv gv) hb
    have s2 : stN 0 H1 ⟨b, 0 + 14, none⟩ (qaf (.bool true)) = some (H1.set b (.row (qnZ c { s with cl := true } (dnx s.nx) pv gv) false)) := qip d1.row hlo (Nat.le_of_ble_eq_true rfl) rfl
    generalize H1.set b (.row (qnZ c { s with cl := true } (dnx s.nx) pv gv) false) = H2 at d2 s2
    have hO := fun k' => qn1 (DidR.of d2.row d2.cells) k'
    refine ⟨own, _, ?_, fin (k := 6) (s' := { s with cl := true, nx := 7 }) (d2.put hb) rfl ⟨by simp, fun h => by simp at h, fun _ h => by simp at h, fun _ => by have := hi.a0 (by omega) (by omega); simp only; omega, fun _ => hbp, hi.pw, hi.qw⟩ (by simp) (by simp)⟩
    refine qgx rfl Fn.zcO rfl rfl ?_
    repeat' first | refine .A ?_ | refine .B ?_ | refine .C ?_ | refine .D ?_ | refine .F ?_ | refine .G ?_ | refine .J ?_ | refine .t5 ?_ | refine .f5 ?_ | refine .L l4 ?_ | refine .L l03 ?_ | refine .P (hAt _ _) ?_ | refine .P hL ?_ | refine .P hSz ?_ | refine .P (hO _) ?_ | refine .X l10 (qkc l10 l10) (qkd _) ?_ | refine .S s2 ?_ | refine .Y ?_ | fail
    rfl
 have h6 : s.nx = 6 := by rcases hx with h | h | h; exact absurd h h4; exact absurd h h5; exact h
 have e1 : dnx s.nx = 40 := by rw [h6]; rfl
 rw [e1] at l4
 obtain ⟨g, rfl, hg, hbg, hgo⟩ := h6' h6
 have hgc := hA.at hgo
 obtain ⟨H1, hL, d1⟩ := qlL (lo := 0) hg hC hgc hm (Nat.zero_le _) ⟨Nat.zero_le _, Nat.zero_le _⟩ (hr0.get 1).2 hi.qw
 have l6 : qav H none ⟨b, 0 + 6, none⟩ = some (qkb g) := qin hr rfl
 have hr1 : H1[b]? = some (.row (qnZ c s (dnx s.nx) pv (qkb g)) false) := d1.chg.get hr (by simp [hbg, hb.1, hb.2.1, hb.2.2])
 have dr : DidR H1 H1 b (qnZ c s (dnx s.nx) pv (qkb g)) cb (qlg c s.q ws).2.1 bs := DidR.of hr1 d1.cells
 have hc1 : Chg (qno own cb) H H1 := d1.chg.mono (qnp hgo)
 have hrg := d1.row
 have hqw := qnE (c := c) hi.qw hr0
 have e0 : alS c s ws bs = ((qnL s (qlg c s.q ws)).1, (qnL s (qlg c s.q ws)).2, bs, none) := by unfold alS; rw [if_neg (show ¬ s.nx = 0 by omega), if_neg (show ¬ s.nx = 1 by omega), if_neg (show ¬ s.nx = 2 by omega), if_neg (show ¬ s.nx = 3 by omega), if_neg h4, if_neg h5, if_pos h6]
 rw [e0]
 unfold qlF at hL
 have hO := fun k' => qn1 dr k'
 generalize qlg c s.q ws = r at hL dr hrg hqw hO ⊢
 obtain ⟨q', w', e, dn⟩ := r
 simp only at hL hrg hqw
 cases dn with
 | true =>
   have dd := dr.put (row' := qnZ c { s with q := q', nx := 11 } 8 pv (qkb g)) hb
   refine ⟨own, _, ?_, ⟨hP.mem, ⟨by simp [qnL], fun h => by simp [qnL] at h, fun _ h => by simp [qnL] at h, fun h => by simp [qnL] at h, fun _ => hbp, hi.pw, hqw⟩, pv, qkb g, dd.row, fun h => by simp [qnL] at h, fun h => by simp [qnL] at h⟩, dd.cells, .same (hc1.trans (dd.chg.mono hsub))⟩
   refine qgx rfl Fn.zcO rfl rfl ?_
   repeat' first | refine .A ?_ | refine .B ?_ | refine .C ?_ | refine .D ?_ | refine .F ?_ | refine .G ?_ | refine .H ?_ | refine .J ?_ | refine .f5 ?_ | refine .L l4 ?_ | refine .L l6 ?_ | refine .P hL ?_ | refine .P (hO _) ?_ | refine .Y ?_ | fail
   rfl
 | false =>
   have dd := dr.put (row' := qnZ c { s with q := q' } 40 pv (qkb g)) hb
   refine ⟨own, _, ?_, ⟨hP.mem, ⟨hi.nx, hi.p0, hi.a0, hi.a7, hi.by_, hi.pw, hqw⟩, pv, qkb g, by show _ = some (Blk.row (qnZ c { s with q := q' } (dnx s.nx) pv (qkb g)) false); rw [e1]; exact dd.row, fun h => by simp [qnL, h6] at h, fun _ => ⟨g, rfl, qik hbg hrg, hbg, hgo⟩⟩, dd.cells, .same (hc1.trans (dd.chg.mono hsub))⟩
   refine qgx rfl Fn.zcO rfl rfl ?_
   repeat' first | refine .A ?_ | refine .B ?_ | refine .D ?_ | refine .F ?_ | refine .G ?_ | refine .H ?_ | refine .J ?_ | refine .f5 ?_ | refine .L l4 ?_ | refine .L l6 ?_ | refine .P hL ?_ | refine .P (hO _) ?_ | refine .Y ?_ | fail
   rfl

set_option maxHeartbeats 4000000 in
theorem qn7 (hP : AlR H own c s b) (hC : IsR H cb ws bs) (hA : Apart own cb) (hm : c.may) (hx : s.nx = 7 ∨ s.nx = 8 ∨ s.nx = 9 ∨ s.nx = 10) : ArD H own b c cb s ws bs Id.zcM := by
 obtain ⟨pv, gv, hr, _, _⟩ := hP.row
 have hb := hA.at hP.mem
 have hlo : 0 ≤ b := Nat.zero_le _
 have d := DidR.of hr hC
 have hi := hP.inv
 have hbp := hi.by_ (by rcases hx with h | h | h | h <;> simp [h])
 have hbl := qn0 s.n
 have hsub := qnp (cb := cb) hP.mem
 have hAt : ∀ lo j H, 0 ≤ j ∧ j ≤ 2 → qfV En lo Id.zcv [.agg #[I c.A, I c.S, I c.T], I (5 + j), I s.slot] H = some (I (qjj c s.slot j), H) := fun lo j H hj => qlw lo H hm s.slot hj
 have hA5 : ∀ lo H, qfV En lo Id.zcv [.agg #[I c.A, I c.S, I c.T], I 5, I s.slot] H = some (I (qjj c s.slot 0), H) := fun lo H => hAt lo 0 H (by omega)
 have hA6 : ∀ lo H, qfV En lo Id.zcv [.agg #[I c.A, I c.S, I c.T], I 6, I s.slot] H = some (I (qjj c s.slot 1), H) := fun lo H => hAt lo 1 H (by omega)
 have fin : ∀ {H' : qab} {s' : Al} {ws' bs' : List Int} {k : Int}, DidR H H' b (qnZ c s' k pv gv) cb ws' bs' → k = dnx s'.nx → AlI s' → s'.nx ≠ 3 → s'.nx ≠ 6 → AlR H' own c s' b ∧ IsR H' cb ws' bs' ∧ Grew H H' own own cb :=
  fun d1 h1 h2 h3 h4 => ⟨AlR.of hP.mem d1 h1 h2 h3 h4, d1.cells, .same (d1.chg.mono hsub)⟩
 have l4 : qav H none ⟨b, 0 + 4, none⟩ = some (I (dnx s.nx)) := qin hr rfl
 have l03 : qav H (some 3) ⟨b, 0 + 0, none⟩ = some (.agg #[I c.A, I c.S, I c.T]) := qio hr (Nat.le_of_ble_eq_true rfl) rfl
 unfold ArD
 by_cases h7 : s.nx = 7
 ·have e1 : dnx s.nx = 6 := by rw [h7]; rfl
  rw [e1] at l4
  have ha := hi.a7 h7
  have hw1 : w64 (s.at_ + 1) = s.at_ + 1 := qiI (by omega) (by omega)
  have eS : alS c s ws bs = if w64 (s.at_ + 1) = qnH s.n then ({ s with at_ := w64 (s.at_ + 1), nx := 8 }, ws, qiS bs (w64 (s.f + s.at_)) (qiU 0), none) else ({ s with at_ := w64 (s.at_ + 1) }, ws, qiS bs (w64 (s.f + s.at_)) (qiU 0), none) := by
   unfold alS; rw [if_neg (show ¬ s.nx = 0 by omega), if_neg (show ¬ s.nx = 1 by omega), if_neg (show ¬ s.nx = 2 by omega), if_neg (show ¬ s.nx = 3 by omega), if_neg (show ¬ s.nx = 4 by omega), if_neg (show ¬ s.nx = 5 by omega), if_neg (show ¬ s.nx = 6 by omega), if_pos h7]
  have l10 : qav H none ⟨b, 0 + 10, none⟩ = some (I s.f) := qin hr rfl
  have l11 : qav H none ⟨b, 0 + 11, none⟩ = some (I s.at_) := qin hr rfl
  obtain ⟨H1, hL, hC1, ho1⟩ := qm0 (lo := 0) hC (Nat.zero_le _) (Nat.zero_le _) (w64 (s.f + s.at_)) 0
  have d1 := d.on hC1 ho1 (by simp) hb
  have k11 : qav H1 none ⟨b, 0 + 11, none⟩ = some (I s.at_) := qin d1.row rfl
  have d2 := d1.put (row' := qnZ c { s with at_ := w64 (s.at_ + 1) } (dnx s.nx) pv gv) hb
  have s2 : stN 0 H1 ⟨b, 0 + 11, none⟩ (qaf (I (w64 (s.at_ + 1)))) = some (H1.set b (.row (qnZ c { s with at_ := w64 (s.at_ + 1) } (dnx s.nx) pv gv) false)) := qip d1.row hlo (Nat.le_of_ble_eq_true rfl) rfl
  generalize H1.set b (.row (qnZ c { s with at_ := w64 (s.at_ + 1) } (dnx s.nx) pv gv) false) = H2 at d2 s2
  have m11 : qav H2 none ⟨b, 0 + 11, none⟩ = some (I (w64 (s.at_ + 1))) := qin d2.row rfl
  have hSz := qn3 (DidR.of d2.row d2.cells)
  simp only at hSz
  have hO := fun k' => qn1 (DidR.of d2.row d2.cells) k'
  by_cases hc : w64 (s.at_ + 1) = qnH s.n
  ·rw [if_pos hc] at eS
   rw [eS]
   refine ⟨own, _, ?_, fin (k := 60) (s' := { s with at_ := w64 (s.at_ + 1), nx := 8 }) (d2.put hb) rfl ⟨by simp, fun h => by simp at h, fun _ h => by simp at h, fun h => by simp at h, fun _ => hbp, hi.pw, hi.qw⟩ (by simp) (by simp)⟩
   refine qgx rfl Fn.zcM rfl rfl ?_
   repeat' first | refine .A ?_ | refine .B ?_ | refine .C ?_ | refine .D ?_ | refine .F ?_ | refine .G ?_ | refine .J ?_ | refine .f1 ?_ | refine .t5 ?_ | refine .L l4 ?_ | refine .L l10 ?_ | refine .L l11 ?_ | refine .L k11 ?_ | refine .P hL ?_ | refine .P hSz ?_ | refine .P (hO _) ?_ | refine .S s2 ?_ | refine .X m11 (qis m11) (qkd _) ?_ | refine .Y ?_ | fail
   rfl
  ·rw [if_neg hc] at eS
   rw [eS]
   refine ⟨own, _, ?_, fin (k := 6) (s' := { s with at_ := w64 (s.at_ + 1) }) (d2.put hb) e1.symm ⟨hi.nx, hi.p0, fun _ h => by simp only at h; omega, fun _ => by simp only; omega, hi.by_, hi.pw, hi.qw⟩ (by simp only; omega) (by simp only; omega)⟩
   refine qgx rfl Fn.zcM rfl rfl ?_
   repeat' first | refine .A ?_ | refine .B ?_ | refine .C ?_ | refine .G ?_ | refine .J ?_ | refine .t1 ?_ | refine .t5 ?_ | refine .L l4 ?_ | refine .L l10 ?_ | refine .L l11 ?_ | refine .L k11 ?_ | refine .P hL ?_ | refine .P hSz ?_ | refine .P (hO _) ?_ | refine .S s2 ?_ | refine .X m11 (qis m11) (qkd _) ?_ | refine .F ?_ | refine .Y ?_ | fail
   rfl
 by_cases h8 : s.nx = 8
 ·have e1 : dnx s.nx = 60 := by rw [h8]; rfl
  rw [e1] at l4
  have e0 : alS c s ws bs = ({ s with nx := 9 }, qiS ws (qjj c s.slot 1) s.n, bs, none) := by unfold alS; rw [if_neg (show ¬ s.nx = 0 by omega), if_neg (show ¬ s.nx = 1 by omega), if_neg (show ¬ s.nx = 2 by omega), if_neg (show ¬ s.nx = 3 by omega), if_neg (show ¬ s.nx = 4 by omega), if_neg (show ¬ s.nx = 5 by omega), if_neg (show ¬ s.nx = 6 by omega), if_neg h7, if_pos h8]
  rw [e0]
  have l3 : qav H none ⟨b, 0 + 3, none⟩ = some (I s.n) := qin hr rfl
  obtain ⟨H1, hL, hC1, ho1⟩ := qls (lo := 0) hC (Nat.zero_le _) (Nat.zero_le _) (qjj c s.slot 1) s.n
  have d1 := d.on hC1 ho1 (by simp) hb
  have hO := fun k' => qn1 (DidR.of d1.row d1.cells) k'
  refine ⟨own, _, ?_, fin (k := 7) (s' := { s with nx := 9 }) (d1.put hb) rfl ⟨by simp, fun h => by simp at h, fun _ h => by simp at h, fun h => by simp at h, fun _ => hbp, hi.pw, hi.qw⟩ (by simp) (by simp)⟩
  refine qgx rfl Fn.zcM rfl rfl ?_
  repeat' first | refine .A ?_ | refine .B ?_ | refine .C ?_ | refine .D ?_ | refine .G ?_ | refine .J ?_ | refine .t5 ?_ | refine .f5 ?_ | refine .L l4 ?_ | refine .L l03 ?_ | refine .L (qin d.row rfl) ?_ | refine .X (qin d.row rfl) (qis (qin d.row rfl)) (qkd _) ?_ | refine .P (hA6 _ _) ?_ | refine .P hL ?_ | refine .P (hO _) ?_ | refine .F ?_ | refine .Y ?_ | fail
  rfl
 by_cases h9 : s.nx = 9
 ·have e1 : dnx s.nx = 7 := by rw [h9]; rfl
  rw [e1] at l4
  have e0 : alS c s ws bs = (qnM s (qjX (qiR ws (qjj c s.slot 0))), ws, bs, none) := by unfold alS; rw [if_neg (show ¬ s.nx = 0 by omega), if_neg (show ¬ s.nx = 1 by omega), if_neg (show ¬ s.nx = 2 by omega), if_neg (show ¬ s.nx = 3 by omega), if_neg (show ¬ s.nx = 4 by omega), if_neg (show ¬ s.nx = 5 by omega), if_neg (show ¬ s.nx = 6 by omega), if_neg h7, if_neg h8, if_pos h9]
  rw [e0]
  obtain ⟨H1, hL, hC1, ho1⟩ := qlq (lo := 0) hC (Nat.zero_le _) (qjj c s.slot 0)
  have d1 := d.on hC1 ho1 (by simp) hb
  generalize qiR ws (qjj c s.slot 0) = w at hL ⊢
  have hU := fun lo => qkp lo H1 w
  have hd2 : ∀ g : Int, DidR H (H1.set b (.row (qnZ c { s with gen := g } (dnx s.nx) pv gv) false)) b (qnZ c { s with gen := g } (dnx s.nx) pv gv) cb ws bs := fun g => d1.put hb
  have hs2 : ∀ g : Int, stN 0 H1 ⟨b, 0 + 12, none⟩ (qaf (I g)) = some (H1.set b (.row (qnZ c { s with gen := g } (dnx s.nx) pv gv) false)) := fun g => qip d1.row hlo (Nat.le_of_ble_eq_true rfl) rfl
  cases hu : qjX w with
  | none =>
    rw [hu] at hU
    simp only [unV, Ent.zero, Ent.cs] at hU
    have d2 := hd2 0
    have s2 := hs2 0
    generalize H1.set b (.row (qnZ c { s with gen := 0 } (dnx s.nx) pv gv) false) = H2 at d2 s2
    obtain ⟨H3, hF, d3⟩ := qn2 (DidR.of d2.row d2.cells) hb 2 70
    refine ⟨own, H3, ?_, fin (k := 70) (s' := { s with gen := 0, kept := 2, nx := 10 }) (d2.then d3) rfl ⟨by simp, fun h => by simp at h, fun _ h => by simp at h, fun h => by simp at h, fun _ => hbp, hi.pw, hi.qw⟩ (by simp) (by simp)⟩
    refine qgx rfl Fn.zcM rfl rfl ?_
    repeat' first | refine .A ?_ | refine .B ?_ | refine .C ?_ | refine .D ?_ | refine .G ?_ | refine .J ?_ | refine .t5 ?_ | refine .f5 ?_ | refine .t6 ?_ | refine .L l4 ?_ | refine .L l03 ?_ | refine .L (qin d.row rfl) ?_ | refine .P (hA5 _ _) ?_ | refine .P hL ?_ | refine .P (hU _) ?_ | refine .P hF ?_ | refine .S s2 ?_ | refine .F ?_ | refine .Y ?_ | fail
    rfl
  | some e =>
    rw [hu] at hU
    obtain ⟨o, g, p, u, lk, lv⟩ := e
    simp only [unV, Ent.cs] at hU
    have d2 := hd2 g
    have s2 := hs2 g
    generalize H1.set b (.row (qnZ c { s with gen := g } (dnx s.nx) pv gv) false) = H2 at d2 s2
    cases lv with
    | true =>
      obtain ⟨H3, hF, d3⟩ := qn2 (DidR.of d2.row d2.cells) hb 2 70
      refine ⟨own, H3, ?_, fin (k := 70) (s' := { s with gen := g, kept := 2, nx := 10 }) (d2.then d3) rfl ⟨by simp, fun h => by simp at h, fun _ h => by simp at h, fun h => by simp at h, fun _ => hbp, hi.pw, hi.qw⟩ (by simp) (by simp)⟩
      refine qgx rfl Fn.zcM rfl rfl ?_
      repeat' first | refine .A ?_ | refine .B ?_ | refine .C ?_ | refine .D ?_ | refine .G ?_ | refine .J ?_ | refine .t5 ?_ | refine .f5 ?_ | refine .f6 ?_ | refine .L l4 ?_ | refine .L l03 ?_ | refine .L (qin d.row rfl) ?_ | refine .P (hA5 _ _) ?_ | refine .P hL ?_ | refine .P (hU _) ?_ | refine .P hF ?_ | refine .S s2 ?_ | refine .F ?_ | refine .Y ?_ | fail
      rfl
    | false =>
      have hPk := fun lo => qki lo H2 ⟨s.f, g, 0, 0, false, true⟩
      have k10 : qav H2 none ⟨b, 0 + 10, none⟩ = some (I s.f) := qin d2.row rfl
      have hpk : ∃ q : Int, pkV ⟨s.f, g, 0, 0, false, true⟩ = .tuple #[I (qnI ⟨s.f, g, 0, 0, false, true⟩), I q] := by
       unfold pkV qnI
       split
       ·exact ⟨0, rfl⟩
       ·exact ⟨1, rfl⟩
      obtain ⟨q, hq⟩ := hpk
      rw [hq] at hPk
      simp only [Ent.cs] at hPk
      simp only [qnM, Bool.false_eq_true, if_false]
      generalize qnI ⟨s.f, g, 0, 0, false, true⟩ = pk at hPk ⊢
      have d3 := d2.put (row' := qnZ c { s with gen := g, word := pk } (dnx s.nx) pv gv) hb
      have s3 : stN 0 H2 ⟨b, 0 + 13, none⟩ (qaf (I pk)) = some (H2.set b (.row (qnZ c { s with gen := g, word := pk } (dnx s.nx) pv gv) false)) := qip d2.row hlo (Nat.le_of_ble_eq_true rfl) rfl
      generalize H2.set b (.row (qnZ c { s with gen := g, word := pk } (dnx s.nx) pv gv) false) = H3 at d3 s3
      have hO := fun k' => qn1 (DidR.of d3.row d3.cells) k'
      refine ⟨own, _, ?_, fin (k := 70) (s' := { s with gen := g, word := pk, nx := 10 }) (d3.put hb) rfl ⟨by simp, fun h => by simp at h, fun _ h => by simp at h, fun h => by simp at h, fun _ => hbp, hi.pw, hi.qw⟩ (by simp) (by simp)⟩
      refine qgx rfl Fn.zcM rfl rfl ?_
      repeat' first | refine .A ?_ | refine .B ?_ | refine .C ?_ | refine .D ?_ | refine .F ?_ | refine .G ?_ | refine .J ?_ | refine .t5 ?_ | refine .f5 ?_ | refine .f6 ?_ | refine .L l4 ?_ | refine .L l03 ?_ | refine .L k10 ?_ | refine .L (qin d.row rfl) ?_ | (show EG _ _ (⟨_, .call _ _, _, _⟩ :: _) _ _ _ _ _ _; first | refine .P (hA5 _ _) ?_ | refine .P hL ?_ | refine .P (hU _) ?_ | refine .P (hPk _) ?_ | refine .P (hO _) ?_) | refine .S s2 ?_ | refine .S s3 ?_ | refine .Y ?_ | fail
      rfl
 have h10 : s.nx = 10 := by rcases hx with h | h | h | h; exact absurd h h7; exact absurd h h8; exact absurd h h9; exact h
 have e1 : dnx s.nx = 70 := by rw [h10]; rfl
 rw [e1] at l4
 have e0 : alS c s ws bs = ({ s with cl := false, nx := 11 }, if s.kept = 0 then qiS ws (qjj c s.slot 0) s.word else ws, bs, none) := by unfold alS; rw [if_neg (show ¬ s.nx = 0 by omega), if_neg (show ¬ s.nx = 1 by omega), if_neg (show ¬ s.nx = 2 by omega), if_neg (show ¬ s.nx = 3 by omega), if_neg (show ¬ s.nx = 4 by omega), if_neg (show ¬ s.nx = 5 by omega), if_neg (show ¬ s.nx = 6 by omega), if_neg h7, if_neg h8, if_neg h9, if_pos h10]
 rw [e0]
 have d1 := d.put (row' := qnZ c { s with cl := false } (dnx s.nx) pv gv) hb
 have s1 : stN 0 H ⟨b, 0 + 14, none⟩ (qaf (.bool false)) = some (H.set b (.row (qnZ c { s with cl := false } (dnx s.nx) pv gv) false)) := qip d.row hlo (Nat.le_of_ble_eq_true rfl) rfl
 generalize H.set b (.row (qnZ c { s with cl := false } (dnx s.nx) pv gv) false) = H1 at d1 s1
 have k8 : qav H1 none ⟨b, 0 + 8, none⟩ = some (I s.kept) := qin d1.row rfl
 by_cases hk : s.kept = 0
 ·rw [if_pos hk]
  have k03 : qav H1 (some 3) ⟨b, 0 + 0, none⟩ = some (.agg #[I c.A, I c.S, I c.T]) := qio d1.row (Nat.le_of_ble_eq_true rfl) rfl
  have k9 : qav H1 none ⟨b, 0 + 9, none⟩ = some (I s.slot) := qin d1.row rfl
  have k13 : qav H1 none ⟨b, 0 + 13, none⟩ = some (I s.word) := qin d1.row rfl
  obtain ⟨H2, hL, hC2, ho2⟩ := qls (lo := 0) d1.cells (Nat.zero_le _) (Nat.zero_le _) (qjj c s.slot 0) s.word
  have d2 := d1.on hC2 ho2 (by simp) hb
  have hO := fun k' => qn1 (DidR.of d2.row d2.cells) k'
  refine ⟨own, _, ?_, fin (k := 8) (s' := { s with cl := false, nx := 11 }) (d2.put hb) rfl ⟨by simp, fun h => by simp at h, fun _ h => by simp at h, fun h => by simp at h, fun _ => hbp, hi.pw, hi.qw⟩ (by simp) (by simp)⟩
  refine qgx rfl Fn.zcM rfl rfl ?_
  repeat' first | refine .A ?_ | refine .B ?_ | refine .C ?_ | refine .D ?_ | refine .F ?_ | refine .G ?_ | refine .H ?_ | refine .J ?_ | refine .t5 ?_ | refine .f5 ?_ | refine .L l4 ?_ | refine .L k8 ?_ | refine .L k03 ?_ | refine .L k9 ?_ | refine .P (hA5 _ _) ?_ | refine .P hL ?_ | refine .P (hO _) ?_ | refine .S s1 ?_ | refine .X k13 (qis k13) (qkd _) ?_ | refine .Y ?_ | fail
  rfl
 ·rw [if_neg hk]
  have hO := fun k' => qn1 (DidR.of d1.row d1.cells) k'
  refine ⟨own, _, ?_, fin (k := 8) (s' := { s with cl := false, nx := 11 }) (d1.put hb) rfl ⟨by simp, fun h => by simp at h, fun _ h => by simp at h, fun h => by simp at h, fun _ => hbp, hi.pw, hi.qw⟩ (by simp) (by simp)⟩
  refine qgx rfl Fn.zcM rfl rfl ?_
  repeat' first | refine .A ?_ | refine .B ?_ | refine .D ?_ | refine .F ?_ | refine .G ?_ | refine .H ?_ | refine .J ?_ | refine .f5 ?_ | refine .L l4 ?_ | refine .L k8 ?_ | refine .P (hO _) ?_ | refine .S s1 ?_ | refine .Y ?_ | fail
  rfl

set_option maxHeartbeats 4000000 in
theorem qn8 (hP : AlR H own c s b) (hC : IsR H cb ws bs) (hA : Apart own cb) (hm : c.may) (hr0 : Rng ws) : ArD H own b c cb s ws bs Id.zcJ := by
 obtain ⟨pv, gv, hr, h3', _⟩ := hP.row
 have hb := hA.at hP.mem
 have hlo : 0 ≤ b := Nat.zero_le _
 have d := DidR.of hr hC
 have hi := hP.inv
 have hn := hi.nx
 have hsub := qnp (cb := cb) hP.mem
 have l4 : qav H none ⟨b, 0 + 4, none⟩ = some (I (dnx s.nx)) := qin hr rfl
 have run : ∀ fn, ArD H own b c cb s ws bs fn → ∃ own' H' o, qfV En 0 fn [qkb b, qiX cb] H = some (qmr o, H') ∧ o = (alS c s ws bs).2.2.2 ∧ AlR H' own' c (alS c s ws bs).1 b ∧ IsR H' cb (alS c s ws bs).2.1 (alS c s ws bs).2.2.1 ∧ Grew H H' own own' cb := fun fn h => by
  obtain ⟨own', H', h1, h2⟩ := h
  exact ⟨own', H', _, h1, rfl, h2⟩
 by_cases h0 : s.nx = 0
 ·have e0 : alS c s ws bs = (s, ws, bs, some (1, 0)) := by unfold alS; rw [if_pos h0]
  unfold ArD
  rw [e0]
  have e1 : dnx s.nx = 0 := by rw [h0]; rfl
  rw [e1] at l4
  refine ⟨own, H, ?_, hP, hC, .same (Chg.refl _ _)⟩
  refine qgx rfl Fn.zcJ rfl rfl ?_
  repeat' first | refine .A ?_ | refine .B ?_ | refine .C ?_ | refine .G ?_ | refine .J ?_ | refine .t5 ?_ | refine .L l4 ?_ | refine .F ?_ | refine .Y ?_ | fail
  rfl
 by_cases hcn : s.nx = 1 ∨ s.nx = 2 ∨ s.nx = 11 ∨ s.nx = 12
 ·obtain ⟨own', H1, o, hF, ho, hR, hC1, hG⟩ := run _ (qn5 hP hC hA hm hcn)
  unfold ArD
  rw [← ho]
  refine ⟨own', H1, ?_, hR, hC1, hG⟩
  have e1 : dnx s.nx = 1 ∨ dnx s.nx = 2 ∨ dnx s.nx = 8 ∨ dnx s.nx = 9 := by unfold dnx; omega
  generalize dnx s.nx = k at l4 e1
  cases o with
  | none =>
    simp only [qmr] at hF ⊢
    refine qgx rfl Fn.zcJ rfl rfl ?_
    rcases e1 with rfl | rfl | rfl | rfl
    all_goals
     repeat' first | refine .A ?_ | refine .B ?_ | refine .C ?_ | refine .D ?_ | refine .F ?_ | refine .G ?_ | refine .J ?_ | refine .t5 ?_ | refine .f5 ?_ | refine .L l4 ?_ | refine .P hF ?_ | refine .Y ?_ | fail
     rfl
  | some q =>
    simp only [qmr] at hF ⊢
    refine qgx rfl Fn.zcJ rfl rfl ?_
    rcases e1 with rfl | rfl | rfl | rfl
    all_goals
     repeat' first | refine .A ?_ | refine .B ?_ | refine .C ?_ | refine .D ?_ | refine .F ?_ | refine .G ?_ | refine .J ?_ | refine .t5 ?_ | refine .f5 ?_ | refine .L l4 ?_ | refine .P hF ?_ | refine .Y ?_ | fail
     rfl
 by_cases hrm : s.nx = 4 ∨ s.nx = 5 ∨ s.nx = 6
 ·obtain ⟨own', H1, o, hF, ho, hR, hC1, hG⟩ := run _ (qn6 hP hC hA hm hr0 hrm)
  unfold ArD
  rw [← ho]
  refine ⟨own', H1, ?_, hR, hC1, hG⟩
  have e1 : dnx s.nx = 4 ∨ dnx s.nx = 5 ∨ dnx s.nx = 40 := by unfold dnx; omega
  generalize dnx s.nx = k at l4 e1
  cases o with
  | none =>
    simp only [qmr] at hF ⊢
    refine qgx rfl Fn.zcJ rfl rfl ?_
    rcases e1 with rfl | rfl | rfl
    all_goals
     repeat' first | refine .A ?_ | refine .B ?_ | refine .C ?_ | refine .D ?_ | refine .F ?_ | refine .G ?_ | refine .J ?_ | refine .t5 ?_ | refine .f5 ?_ | refine .L l4 ?_ | refine .P hF ?_ | refine .Y ?_ | fail
     rfl
  | some q =>
    simp only [qmr] at hF ⊢
    refine qgx rfl Fn.zcJ rfl rfl ?_
    rcases e1 with rfl | rfl | rfl
    all_goals
     repeat' first | refine .A ?_ | refine .B ?_ | refine .C ?_ | refine .D ?_ | refine .F ?_ | refine .G ?_ | refine .J ?_ | refine .t5 ?_ | refine .f5 ?_ | refine .L l4 ?_ | refine .P hF ?_ | refine .Y ?_ | fail
     rfl
 by_cases hly : s.nx = 7 ∨ s.nx = 8 ∨ s.nx = 9 ∨ s.nx = 10
 ·obtain ⟨own', H1, o, hF, ho, hR, hC1, hG⟩ := run _ (qn7 hP hC hA hm hly)
  unfold ArD
  rw [← ho]
  refine ⟨own', H1, ?_, hR, hC1, hG⟩
  have e1 : dnx s.nx = 6 ∨ dnx s.nx = 60 ∨ dnx s.nx = 7 ∨ dnx s.nx = 70 := by unfold dnx; omega
  generalize dnx s.nx = k at l4 e1
  cases o with
  | none =>
    simp only [qmr] at hF ⊢
    refine qgx rfl Fn.zcJ rfl rfl ?_
    rcases e1 with rfl | rfl | rfl | rfl
    all_goals
     repeat' first | refine .A ?_ | refine .B ?_ | refine .D ?_ | refine .F ?_ | refine .G ?_ | refine .H ?_ | refine .J ?_ | refine .f5 ?_ | refine .L l4 ?_ | refine .P hF ?_ | refine .Y ?_ | fail
     rfl
  | some q =>
    simp only [qmr] at hF ⊢
    refine qgx rfl Fn.zcJ rfl rfl ?_
    rcases e1 with rfl | rfl | rfl | rfl
    all_goals
     repeat' first | refine .A ?_ | refine .B ?_ | refine .D ?_ | refine .F ?_ | refine .G ?_ | refine .H ?_ | refine .J ?_ | refine .f5 ?_ | refine .L l4 ?_ | refine .P hF ?_ | refine .Y ?_ | fail
     rfl
 have h3 : s.nx = 3 := by omega
 have e1 : dnx s.nx = 3 := by rw [h3]; rfl
 obtain ⟨t, rfl, ht, hbt, hto⟩ := h3' h3
 have htc := hA.at hto
 obtain ⟨H1, hL, d1⟩ := qlI (lo := 0) ht hC htc hm (Nat.zero_le _) ⟨Nat.zero_le _, Nat.zero_le _⟩ (hr0.get 1).2 hi.pw
 have l5 : qav H none ⟨b, 0 + 5, none⟩ = some (qkb t) := qin hr rfl
 have hr1 : H1[b]? = some (.row (qnZ c s 3 (qkb t) gv) false) := by rw [← e1]; exact d1.chg.get hr (by simp [hbt, hb.1, hb.2.1, hb.2.2])
 rw [e1] at l4
 have dr : DidR H1 H1 b (qnZ c s 3 (qkb t) gv) cb (qlf c s.p ws).2.1 bs := DidR.of hr1 d1.cells
 have hc1 : Chg (qno own cb) H H1 := d1.chg.mono (qnp hto)
 have hrt := d1.row
 have hpw := qn4 (c := c) hi.pw hr0
 have hbp := hi.by_ (by omega)
 have e0 : alS c s ws bs = ((qnK s (qlf c s.p ws)).1, (qnK s (qlf c s.p ws)).2, bs, none) := by unfold alS; rw [if_neg (show ¬ s.nx = 0 by omega), if_neg (show ¬ s.nx = 1 by omega), if_neg (show ¬ s.nx = 2 by omega), if_pos h3]
 unfold ArD
 rw [e0]
 unfold qlm at hL
 have hO := fun k' => qn1 dr k'
 generalize qlf c s.p ws = r at hL dr hrt hpw hO ⊢
 obtain ⟨p', w', sl, e, dn⟩ := r
 simp only at hL hrt hpw dr
 cases dn with
 | false =>
   have dd := dr.put (row' := qnZ c { s with p := p' } 3 (qkb t) gv) hb
   refine ⟨own, _, ?_, ⟨hP.mem, ⟨hi.nx, fun h => by simp only [qnK] at h; simp [h3] at h, hi.a0, hi.a7, hi.by_, hpw, hi.qw⟩, qkb t, gv, by show _ = some (Blk.row (qnZ c { s with p := p' } (dnx s.nx) (qkb t) gv) false); rw [e1]; exact dd.row, fun _ => ⟨t, rfl, qik hbt hrt, hbt, hto⟩, fun h => by simp [qnK, h3] at h⟩, dd.cells, .same (hc1.trans (dd.chg.mono hsub))⟩
   refine qgx rfl Fn.zcJ rfl rfl ?_
   repeat' first | refine .A ?_ | refine .B ?_ | refine .C ?_ | refine .D ?_ | refine .G ?_ | refine .J ?_ | refine .t5 ?_ | refine .f5 ?_ | refine .L l4 ?_ | refine .L l5 ?_ | refine .P hL ?_ | refine .P (hO _) ?_ | refine .F ?_ | refine .Y ?_ | fail
   rfl
 | true =>
   by_cases he : e ≠ 0
   ·have e2 : qnK s (p', w', sl, e, true) = ({ s with p := p', kept := e, nx := 11 }, w') := by unfold qnK; simp [he]
    rw [e2]
    obtain ⟨H2, hF, d2⟩ := qn2 dr hb e 8
    refine ⟨own, H2, ?_, ⟨hP.mem, ⟨by simp, fun h => by simp at h, fun _ h => by simp at h, fun h => by simp at h, fun _ => hbp, hpw, hi.qw⟩, qkb t, gv, d2.row, fun h => by simp at h, fun h => by simp at h⟩, d2.cells, .same (hc1.trans (d2.chg.mono hsub))⟩
    refine qgx rfl Fn.zcJ rfl rfl ?_
    repeat' first | refine .A ?_ | refine .B ?_ | refine .C ?_ | refine .D ?_ | refine .F ?_ | refine .G ?_ | refine .J ?_ | refine .t5 ?_ | refine .f5 ?_ | refine .t6 ?_ | refine .L l4 ?_ | refine .L l5 ?_ | refine .P hL ?_ | refine .P hF ?_ | refine .Y ?_ | fail
    rfl
   ·have e2 : qnK s (p', w', sl, e, true) = ({ s with p := p', slot := sl, nx := 4 }, w') := by unfold qnK; simp [he]
    rw [e2]
    have he0 : e = 0 := Decidable.not_not.1 he
    have d2 := dr.put (row' := qnZ c { s with slot := sl } 3 (qkb t) gv) hb
    have s2 : stN 0 H1 ⟨b, 0 + 9, none⟩ (qaf (I sl)) = some (H1.set b (.row (qnZ c { s with slot := sl } 3 (qkb t) gv) false)) := qip dr.row hlo (Nat.le_of_ble_eq_true rfl) rfl
    generalize H1.set b (.row (qnZ c { s with slot := sl } 3 (qkb t) gv) false) = H2 at d2 s2
    have hO2 := fun k' => qn1 (DidR.of d2.row d2.cells) k'
    have dd := d2.put (row' := qnZ c { s with p := p', slot := sl, nx := 4 } 4 (qkb t) gv) hb
    refine ⟨own, _, ?_, ⟨hP.mem, ⟨by simp, fun h => by simp at h, fun _ _ => hi.a0 (by omega) (by omega), fun h => by simp at h, fun _ => hbp, hpw, hi.qw⟩, qkb t, gv, dd.row, fun h => by simp at h, fun h => by simp at h⟩, dd.cells, .same (hc1.trans (dd.chg.mono hsub))⟩
    refine qgx rfl Fn.zcJ rfl rfl ?_
    repeat' first | refine .A ?_ | refine .B ?_ | refine .C ?_ | refine .D ?_ | refine .F ?_ | refine .G ?_ | refine .J ?_ | refine .t5 ?_ | refine .f5 ?_ | refine .f6 ?_ | refine .L l4 ?_ | refine .L l5 ?_ | refine .P hL ?_ | refine .P (hO2 _) ?_ | refine .S s2 ?_ | refine .Y ?_ | fail
    rfl
end
end Go.Proofs.YtnfcohmbcgfhbaaGreat

