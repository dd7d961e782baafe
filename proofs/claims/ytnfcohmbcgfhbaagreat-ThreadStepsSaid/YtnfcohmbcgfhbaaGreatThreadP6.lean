/- A byte read, step by step: by the program. -/
import Derived.Test.YtnfcohmbcgfhbaaGreatThreadP5
import Derived.Test.YtnfcohmbcgfhbaaGreatThreadP4
import Derived.Test.YtnfcohmbcgfhbaaGreatThreadP3
set_option linter.unusedVariables false
set_option linter.unusedSimpArgs false

namespace Go.Proofs.YtnfcohmbcgfhbaaGreat
open Go Go.Ir

def qmr : Option (Int × Int) → Value
 | none => .tuple #[.agg #[I 0, I 0], .bool false]
 | some r => .tuple #[.agg #[I r.1, I r.2], .bool true]

def qms (g : Int) : Option Ent → Option Ent
 | none => none
 | some e => if e.lv = true ∧ e.g = g then some e else none
def qmt (ws : List Int) (c : Cfg) (s g : Int) : Option Ent := qms g (qjX (qiR ws (qjj c s 0)))
def qmu (g : Int) : Option Ent → Value
 | none => .tuple #[.agg Ent.zero.cs.toArray, .bool false]
 | some e => .tuple #[.agg e.cs.toArray, .bool (e.lv && decide (e.g = g))]

structure Rd where
 h : Int
 off : Int
 nx : Int
 e : Ent
 cd : Int
 nn : Int
def qmv (c : Cfg) (s : Rd) : List Value :=
 [I c.T, I c.S, I (ofR s.h c.S).1, I (ofR s.h c.S).2.1, .bool (decide ((ofR s.h c.S).2.2 ≠ 0)), I s.off, I s.nx, I s.e.o, I s.e.g, I s.e.p, I s.e.u, .bool s.e.lk, .bool s.e.lv, I s.cd, I s.nn]
def qmw (s : Rd) : Option Ent → Rd × Option (Int × Int)
 | none => ({ s with nx := 0 }, some (4, 0))
 | some e => if e.lk then (s, none) else ({ s with e := e, nx := 2 }, none)
def qmx (s : Rd) : Option Ent → Rd × Option (Int × Int)
 | none => ({ s with nx := 1 }, none)
 | some e => if e.o = s.e.o ∧ e.lk = false then ({ s with nx := 0 }, some (s.cd, s.nn)) else ({ s with nx := 1 }, none)
def rdS (c : Cfg) (s : Rd) (ws bs : List Int) : Rd × Option (Int × Int) :=
 if s.nx = 1 then
  if (ofR s.h c.S).2.2 ≠ 0 then ({ s with nx := 0 }, some (4, 0))
  else qmw s (qmt ws c (ofR s.h c.S).1 (ofR s.h c.S).2.1)
 else if s.nx = 2 then
  if s.off < 0 ∨ qiR ws (qjj c (ofR s.h c.S).1 1) ≤ s.off then ({ s with cd := 5, nn := 0, nx := 4 }, none) else ({ s with cd := 0, nn := 0, nx := 3 }, none)
 else if s.nx = 3 then ({ s with nn := qiR bs (IntKind.i64.wrap (s.e.o + s.off)), nx := 4 }, none)
 else if s.nx = 4 then qmx s (qmt ws c (ofR s.h c.S).1 (ofR s.h c.S).2.1)
 else if s.nx = 0 then (s, some (1, 0))
 else (s, none)

section
variable {lo : Nat} {H : qab} {b : Nat} {c : Cfg} {s : Rd} {cb : CB} {ws bs : List Int}

theorem Did.of {row : List Value} (hr : H[b]? = some (.row row false)) (hC : IsC H cb ws bs) : Did H H b row cb ws bs := ⟨hr, hC, Chg.refl _ _⟩
theorem Did.set {H1 : qab} {row row' : List Value} (d : Did H H1 b row cb ws bs) (hb : b ≠ cb.P ∧ b ≠ cb.W ∧ b ≠ cb.Y) : Did H (H1.set b (.row row' false)) b row' cb ws bs :=
 ⟨qij (qim d.row), d.cells.chg (S := [b]) ((Chg.refl [b] H1).set (i := b) (by simp)) (by simp; omega), d.chg.set (i := b) (by simp)⟩
theorem Did.only {H1 : qab} {row : List Value} {ws' bs' : List Int} {S : List Nat} (hr : H[b]? = some (.row row false)) (hC : IsC H1 cb ws' bs') (o : Only S H H1) (hS : ∀ i ∈ S, i ∈ [cb.P, cb.W, cb.Y]) (hb : b ≠ cb.P ∧ b ≠ cb.W ∧ b ≠ cb.Y) : Did H H1 b row cb ws' bs' :=
 ⟨(Chg.of o).get hr fun h => by have := hS _ h; simp at this; omega, hC, (Chg.of o).mono fun i hi => List.mem_cons_of_mem _ (hS i hi)⟩

theorem qmy (hr : H[b]? = some (.row (qmv c s) false)) (hlo : lo ≤ b) (k e : Int) : qfV En lo Id.zbO [qkb b, .agg #[I k, I e]] H = some (qmr (some (k, e)), H.set b (.row (qmv c { s with nx := 0 }) false)) := by
 have hst : stN lo H ⟨b, 0 + 6, none⟩ (qaf (I 0)) = some (H.set b (.row (qmv c { s with nx := 0 }) false)) := qip hr hlo (Nat.le_of_ble_eq_true rfl) rfl
 refine qgx rfl Fn.zbO rfl rfl ?_
 repeat' first | refine .A ?_ | refine .B ?_ | refine .J ?_ | refine .S hst ?_ | refine .F ?_ | refine .Y ?_ | fail
 rfl
theorem qmz (hr : H[b]? = some (.row (qmv c s) false)) (hC : IsC H cb ws bs) (hm : c.may) (hlo : lo ≤ b) (hlc : lo ≤ cb.P) (hb : b ≠ cb.P ∧ b ≠ cb.W ∧ b ≠ cb.Y) :
  ∃ H', qfV En lo Id.zbP [qkb b, ifC cb] H = some (qmu (ofR s.h c.S).2.1 (qjX (qiR ws (qjj c (ofR s.h c.S).1 0))), H') ∧ Did H H' b (qmv c s) cb ws bs := by
 have hE := fun lo => qjm lo H hm (ofR s.h c.S).1
 obtain ⟨H1, hL, hC1, ho1⟩ := qi1 hC hlc (qjj c (ofR s.h c.S).1 0)
 have d1 := Did.only hr hC1 ho1 (by simp) hb
 have hr1 := d1.row
 have hU := fun lo => qj5 lo H1 (qiR ws (qjj c (ofR s.h c.S).1 0))
 refine ⟨H1, ?_, d1⟩
 refine qgx rfl Fn.zbP rfl rfl ?_
 generalize qiR ws (qjj c (ofR s.h c.S).1 0) = w at hL hU ⊢
 cases hu : qjX w with
 | none =>
   rw [hu] at hU
   simp only [unV, Ent.zero, Ent.cs] at hU
   repeat' first | refine .A ?_ | refine .B ?_ | refine .J ?_ | refine .f5 ?_ | refine .L (qio hr (Nat.le_of_ble_eq_true rfl) rfl) ?_ | refine .L (qin hr rfl) ?_ | refine .P (hE _) ?_ | refine .P (hU _) ?_ | refine .W hL ?_ | refine .D ?_ | refine .F ?_ | refine .Y ?_ | fail
   rfl
 | some e =>
   rw [hu] at hU
   obtain ⟨o, g, p, u, lk, lv⟩ := e
   simp only [unV, Ent.cs] at hU
   have l3 : qav H1 none ⟨b, 0 + 3, none⟩ = some (I (ofR s.h c.S).2.1) := qin hr1 rfl
   cases lv with
   | false =>
     repeat' first | refine .A ?_ | refine .B ?_ | refine .J ?_ | refine .C ?_ | refine .t5 ?_ | refine .L (qio hr (Nat.le_of_ble_eq_true rfl) rfl) ?_ | refine .L (qin hr rfl) ?_ | refine .P (hE _) ?_ | refine .P (hU _) ?_ | refine .W hL ?_ | refine .D ?_ | refine .F ?_ | refine .Y ?_ | fail
     rfl
   | true =>
     simp only [qmu, Bool.true_and]
     by_cases hg : g = (ofR s.h c.S).2.1
     ·rw [decide_eq_true hg]
      repeat' first | refine .A ?_ | refine .B ?_ | refine .J ?_ | refine .C ?_ | refine .t5 ?_ | refine .L (qio hr (Nat.le_of_ble_eq_true rfl) rfl) ?_ | refine .L (qin hr rfl) ?_ | refine .L l3 ?_ | refine .P (hE _) ?_ | refine .P (hU _) ?_ | refine .W hL ?_ | refine .F ?_ | refine .Y ?_ | fail
      rfl
     ·rw [decide_eq_false hg]
      repeat' first | refine .A ?_ | refine .B ?_ | refine .J ?_ | refine .C ?_ | refine .t5 ?_ | refine .f5 ?_ | refine .L (qio hr (Nat.le_of_ble_eq_true rfl) rfl) ?_ | refine .L (qin hr rfl) ?_ | refine .L l3 ?_ | refine .P (hE _) ?_ | refine .P (hU _) ?_ | refine .W hL ?_ | refine .F ?_ | refine .Y ?_ | fail
      rfl

theorem qmA {g : Int} {o : Option Ent} (h : qms g o = none) : ∃ e : Ent, qmu g o = .tuple #[.agg e.cs.toArray, .bool false] := by
 cases o with
 | none => exact ⟨_, rfl⟩
 | some e =>
   simp only [qms] at h
   by_cases hc : e.lv = true ∧ e.g = g
   ·rw [if_pos hc] at h; cases h
   ·refine ⟨e, ?_⟩
    simp only [qmu]
    cases hl : e.lv with
    | false => rfl
    | true => rw [decide_eq_false fun hg => hc ⟨hl, hg⟩]; rfl
theorem qmB {g : Int} {o : Option Ent} {e : Ent} (h : qms g o = some e) : qmu g o = .tuple #[.agg e.cs.toArray, .bool true] := by
 cases o with
 | none => cases h
 | some e' =>
   simp only [qms] at h
   by_cases hc : e'.lv = true ∧ e'.g = g
   ·rw [if_pos hc] at h
    injection h with h
    subst h
    simp only [qmu]
    rw [hc.1, decide_eq_true hc.2]; rfl
   ·rw [if_neg hc] at h; cases h

set_option maxHeartbeats 3200000 in
theorem qmC (hr : H[b]? = some (.row (qmv c s) false)) (hC : IsC H cb ws bs) (hb : b ≠ cb.P ∧ b ≠ cb.W ∧ b ≠ cb.Y) (hm : c.may) (hlo : lo ≤ b) (hlc : lo ≤ cb.P) :
  ∃ H', qfV En lo Id.zbN [qkb b, ifC cb] H = some (qmr (rdS c s ws bs).2, H') ∧ Did H H' b (qmv c (rdS c s ws bs).1) cb ws bs := by
 have key : ∃ v H', qfV En lo Id.zbN [qkb b, ifC cb] H = some (v, H') ∧ v = qmr (rdS c s ws bs).2 ∧ Did H H' b (qmv c (rdS c s ws bs).1) cb ws bs := by
  refine qif rfl Fn.zbN rfl rfl ?_
  have l6 : qav H none ⟨b, 0 + 6, none⟩ = some (I s.nx) := qin hr rfl
  unfold rdS
  by_cases h1 : s.nx = 1
  ·rw [if_pos h1]
   have hE := fun lo hl k e => qmy (lo := lo) hr hl k e
   have l4 : qav H none ⟨b, 0 + 4, none⟩ = some (.bool (decide ((ofR s.h c.S).2.2 ≠ 0))) := qin hr rfl
   by_cases hst : (ofR s.h c.S).2.2 ≠ 0
   ·rw [if_pos hst]
    rw [decide_eq_true hst] at l4
    repeat' first | refine .A ?_ | refine .B ?_ | refine .C ?_ | refine .D ?_ | refine .F ?_ | refine .G ?_ | refine .J ?_ | refine .t5 ?_ | refine .f5 ?_ | refine .L l6 ?_ | refine .L l4 ?_ | refine .P (hE _ hlo _ _) ?_ | refine .Y ?_ | fail
    exact ⟨rfl, (Did.of hr hC).set hb⟩
   ·rw [if_neg hst]
    rw [decide_eq_false hst] at l4
    refine Exists.elim (qmz (lo := lo) hr hC hm hlo hlc hb) fun H1 hq => ?_
    have hL := hq.1
    have d1 := hq.2
    clear hq
    have hE1 := fun lo hl k e => qmy (lo := lo) d1.row hl k e
    unfold qmt
    cases hf : qms (ofR s.h c.S).2.1 (qjX (qiR ws (qjj c (ofR s.h c.S).1 0))) with
    | none =>
      refine Exists.elim (qmA hf) fun e he => ?_
      rw [he] at hL
      simp only [Ent.cs] at hL
      repeat' first | refine .A ?_ | refine .B ?_ | refine .C ?_ | refine .D ?_ | refine .F ?_ | refine .G ?_ | refine .J ?_ | refine .t5 ?_ | refine .f5 ?_ | refine .L l6 ?_ | refine .L l4 ?_ | refine .P hL ?_ | refine .P (hE1 _ hlo _ _) ?_ | refine .Y ?_ | fail
      exact ⟨rfl, d1.set hb⟩
    | some e =>
      rw [qmB hf] at hL
      obtain ⟨o, g, p, u, lk, lv⟩ := e
      simp only [Ent.cs] at hL
      simp only [qmw]
      cases lk with
      | true =>
        repeat' first | refine .A ?_ | refine .B ?_ | refine .C ?_ | refine .D ?_ | refine .F ?_ | refine .G ?_ | refine .H ?_ | refine .J ?_ | refine .t5 ?_ | refine .f5 ?_ | refine .L l6 ?_ | refine .L l4 ?_ | refine .P hL ?_ | refine .Y ?_ | fail
        exact ⟨rfl, d1⟩
      | false =>
        have d2 := d1.set (row' := qmv c { s with e := ⟨o, g, p, u, false, lv⟩ }) hb
        have s1 : stN lo H1 ⟨b, 0 + 7, none⟩ (qaf (.agg #[I o, I g, I p, I u, .bool false, .bool lv])) = some (H1.set b (.row (qmv c { s with e := ⟨o, g, p, u, false, lv⟩ }) false)) := qip d1.row hlo (Nat.le_of_ble_eq_true rfl) rfl
        generalize H1.set b (.row (qmv c { s with e := ⟨o, g, p, u, false, lv⟩ }) false) = H2 at d2 s1
        have s2 : stN lo H2 ⟨b, 0 + 6, none⟩ (qaf (I 2)) = some (H2.set b (.row (qmv c { s with e := ⟨o, g, p, u, false, lv⟩, nx := 2 }) false)) := qip d2.row hlo (Nat.le_of_ble_eq_true rfl) rfl
        repeat' first | refine .A ?_ | refine .B ?_ | refine .C ?_ | refine .D ?_ | refine .F ?_ | refine .G ?_ | refine .H ?_ | refine .J ?_ | refine .t5 ?_ | refine .f5 ?_ | refine .L l6 ?_ | refine .L l4 ?_ | refine .P hL ?_ | refine .S s1 ?_ | refine .S s2 ?_ | refine .Y ?_ | fail
        exact ⟨rfl, d2.set hb⟩
  rw [if_neg h1]
  by_cases h2 : s.nx = 2
  ·rw [if_pos h2]
   have d1 := (Did.of hr hC).set (row' := qmv c { s with cd := 0, nn := 0 }) hb
   have s1 : stN lo H ⟨b, 0 + 13, none⟩ (qaf (.agg #[I 0, I 0])) = some (H.set b (.row (qmv c { s with cd := 0, nn := 0 }) false)) := qip hr hlo (Nat.le_of_ble_eq_true rfl) rfl
   generalize H.set b (.row (qmv c { s with cd := 0, nn := 0 }) false) = H1 at d1 s1
   have d2 := d1.set (row' := qmv c { s with cd := 0, nn := 0, nx := 3 }) hb
   have s2 : stN lo H1 ⟨b, 0 + 6, none⟩ (qaf (I 3)) = some (H1.set b (.row (qmv c { s with cd := 0, nn := 0, nx := 3 }) false)) := qip d1.row hlo (Nat.le_of_ble_eq_true rfl) rfl
   generalize H1.set b (.row (qmv c { s with cd := 0, nn := 0, nx := 3 }) false) = H2 at d2 s2
   have hr2 := d2.row
   have hSz := fun lo => qjn lo H2 hm (ofR s.h c.S).1
   refine Exists.elim (qi1 d2.cells hlc (qjj c (ofR s.h c.S).1 1)) fun H3 hq => ?_
   have hL := hq.1
   have d3 : Did H H3 b (qmv c { s with cd := 0, nn := 0, nx := 3 }) cb ws bs := ⟨(Chg.of hq.2.2).get hr2 (by simp; omega), hq.2.1, d2.chg.trans ((Chg.of hq.2.2).mono (by simp))⟩
   clear hq
   have hr3 := d3.row
   have l5 : qav H3 none ⟨b, 0 + 5, none⟩ = some (I s.off) := qin hr3 rfl
   generalize qiR ws (qjj c (ofR s.h c.S).1 1) = z at hL ⊢
   by_cases ho : s.off < 0 ∨ z ≤ s.off
   ·rw [if_pos ho]
    have d4 := d3.set (row' := qmv c { s with cd := 5, nn := 0, nx := 3 }) hb
    have s3 : stN lo H3 ⟨b, 0 + 13, none⟩ (qaf (.agg #[I 5, I 0])) = some (H3.set b (.row (qmv c { s with cd := 5, nn := 0, nx := 3 }) false)) := qip hr3 hlo (Nat.le_of_ble_eq_true rfl) rfl
    generalize H3.set b (.row (qmv c { s with cd := 5, nn := 0, nx := 3 }) false) = H4 at d4 s3
    have s4 : stN lo H4 ⟨b, 0 + 6, none⟩ (qaf (I 4)) = some (H4.set b (.row (qmv c { s with cd := 5, nn := 0, nx := 4 }) false)) := qip d4.row hlo (Nat.le_of_ble_eq_true rfl) rfl
    by_cases ho1 : s.off < 0
    ·repeat' first | refine .A ?_ | refine .B ?_ | refine .C ?_ | refine .D ?_ | refine .F ?_ | refine .G ?_ | refine .H ?_ | refine .J ?_ | refine .t1 ?_ | refine .t5 ?_ | refine .f5 ?_ | refine .L l6 ?_ | refine .L l5 ?_ | refine .L (qio hr2 (Nat.le_of_ble_eq_true rfl) rfl) ?_ | refine .L (qin hr2 rfl) ?_ | refine .P (hSz _) ?_ | refine .W hL ?_ | refine .S s1 ?_ | refine .S s2 ?_ | refine .S s3 ?_ | refine .S s4 ?_ | refine .Y ?_ | fail
     exact ⟨rfl, d4.set hb⟩
    ·repeat' first | refine .A ?_ | refine .B ?_ | refine .C ?_ | refine .D ?_ | refine .F ?_ | refine .G ?_ | refine .H ?_ | refine .J ?_ | refine .f1 ?_ | refine .t4 ?_ | refine .t5 ?_ | refine .f5 ?_ | refine .L l6 ?_ | refine .L l5 ?_ | refine .L (qio hr2 (Nat.le_of_ble_eq_true rfl) rfl) ?_ | refine .L (qin hr2 rfl) ?_ | refine .P (hSz _) ?_ | refine .W hL ?_ | refine .S s1 ?_ | refine .S s2 ?_ | refine .S s3 ?_ | refine .S s4 ?_ | refine .Y ?_ | fail
     exact ⟨rfl, d4.set hb⟩
   ·rw [if_neg ho]
    repeat' first | refine .A ?_ | refine .B ?_ | refine .C ?_ | refine .D ?_ | refine .F ?_ | refine .G ?_ | refine .H ?_ | refine .J ?_ | refine .f1 ?_ | refine .f4 ?_ | refine .t5 ?_ | refine .f5 ?_ | refine .L l6 ?_ | refine .L l5 ?_ | refine .L (qio hr2 (Nat.le_of_ble_eq_true rfl) rfl) ?_ | refine .L (qin hr2 rfl) ?_ | refine .P (hSz _) ?_ | refine .W hL ?_ | refine .S s1 ?_ | refine .S s2 ?_ | refine .Y ?_ | fail
    exact ⟨rfl, d3⟩
  rw [if_neg h2]
  by_cases h3 : s.nx = 3
  ·rw [if_pos h3]
   have k7 : qav H none ⟨b, 0 + 7 + 0, none⟩ = some (I s.e.o) := qin hr rfl
   have l5 : qav H none ⟨b, 0 + 5, none⟩ = some (I s.off) := qin hr rfl
   refine Exists.elim (qi5 hC hlc (IntKind.i64.wrap (s.e.o + s.off))) fun H1 hq => ?_
   have hL := hq.1
   have d1 := Did.only hr hq.2.1 hq.2.2 (by simp) hb
   clear hq
   generalize qiR bs (IntKind.i64.wrap (s.e.o + s.off)) = z at hL ⊢
   have d2 := d1.set (row' := qmv c { s with nn := z }) hb
   have s1 : stN lo H1 ⟨b, 0 + 13 + 1, none⟩ (qaf (I z)) = some (H1.set b (.row (qmv c { s with nn := z }) false)) := qip d1.row hlo (Nat.le_of_ble_eq_true rfl) rfl
   generalize H1.set b (.row (qmv c { s with nn := z }) false) = H2 at d2 s1
   have s2 : stN lo H2 ⟨b, 0 + 6, none⟩ (qaf (I 4)) = some (H2.set b (.row (qmv c { s with nn := z, nx := 4 }) false)) := qip d2.row hlo (Nat.le_of_ble_eq_true rfl) rfl
   repeat' first | refine .A ?_ | refine .B ?_ | refine .C ?_ | refine .D ?_ | refine .F ?_ | refine .G ?_ | refine .H ?_ | refine .J ?_ | refine .t5 ?_ | refine .f5 ?_ | refine .L l6 ?_ | refine .L l5 ?_ | refine .L k7 ?_ | refine .W hL ?_ | refine .S s1 ?_ | refine .S s2 ?_ | refine .Y ?_ | fail
   exact ⟨rfl, d2.set hb⟩
  rw [if_neg h3]
  by_cases h4 : s.nx = 4
  ·rw [if_pos h4]
   refine Exists.elim (qmz (lo := lo) hr hC hm hlo hlc hb) fun H1 hq => ?_
   have hL := hq.1
   have d1 := hq.2
   clear hq
   have hE1 := fun lo hl k e => qmy (lo := lo) d1.row hl k e
   have s1 : stN lo H1 ⟨b, 0 + 6, none⟩ (qaf (I 1)) = some (H1.set b (.row (qmv c { s with nx := 1 }) false)) := qip d1.row hlo (Nat.le_of_ble_eq_true rfl) rfl
   have k7 : qav H1 none ⟨b, 0 + 7 + 0, none⟩ = some (I s.e.o) := qin d1.row rfl
   have k13 : qav H1 (some 2) ⟨b, 0 + 13, none⟩ = some (.agg #[I s.cd, I s.nn]) := qio d1.row (Nat.le_of_ble_eq_true rfl) rfl
   unfold qmt
   cases hf : qms (ofR s.h c.S).2.1 (qjX (qiR ws (qjj c (ofR s.h c.S).1 0))) with
   | none =>
     refine Exists.elim (qmA hf) fun e he => ?_
     rw [he] at hL
     simp only [Ent.cs] at hL
     repeat' first | refine .A ?_ | refine .B ?_ | refine .C ?_ | refine .D ?_ | refine .F ?_ | refine .G ?_ | refine .H ?_ | refine .J ?_ | refine .t5 ?_ | refine .f5 ?_ | refine .L l6 ?_ | refine .P hL ?_ | refine .S s1 ?_ | refine .Y ?_ | fail
     exact ⟨rfl, d1.set hb⟩
   | some e =>
     rw [qmB hf] at hL
     obtain ⟨o, g, p, u, lk, lv⟩ := e
     simp only [Ent.cs] at hL
     simp only [qmx]
     by_cases ho : o = s.e.o
     ·cases lk with
      | true =>
        rw [if_neg (by simp)]
        repeat' first | refine .A ?_ | refine .B ?_ | refine .C ?_ | refine .D ?_ | refine .F ?_ | refine .G ?_ | refine .H ?_ | refine .J ?_ | refine .t5 ?_ | refine .f5 ?_ | refine .L l6 ?_ | refine .L k7 ?_ | refine .P hL ?_ | refine .S s1 ?_ | refine .Y ?_ | fail
        exact ⟨rfl, d1.set hb⟩
      | false =>
        rw [if_pos ⟨ho, rfl⟩]
        repeat' first | refine .A ?_ | refine .B ?_ | refine .C ?_ | refine .D ?_ | refine .F ?_ | refine .G ?_ | refine .J ?_ | refine .t5 ?_ | refine .f5 ?_ | refine .L l6 ?_ | refine .L k7 ?_ | refine .L k13 ?_ | refine .P hL ?_ | refine .P (hE1 _ hlo _ _) ?_ | refine .Y ?_ | fail
        exact ⟨rfl, d1.set hb⟩
     ·rw [if_neg fun hh => ho hh.1]
      repeat' first | refine .A ?_ | refine .B ?_ | refine .C ?_ | refine .D ?_ | refine .F ?_ | refine .G ?_ | refine .H ?_ | refine .J ?_ | refine .t5 ?_ | refine .f5 ?_ | refine .L l6 ?_ | refine .L k7 ?_ | refine .P hL ?_ | refine .S s1 ?_ | refine .Y ?_ | fail
      exact ⟨rfl, d1.set hb⟩
  rw [if_neg h4]
  by_cases h0 : s.nx = 0
  ·rw [if_pos h0]
   repeat' first | refine .A ?_ | refine .B ?_ | refine .C ?_ | refine .J ?_ | refine .t5 ?_ | refine .L l6 ?_ | refine .F ?_ | refine .Y ?_ | fail
   exact ⟨rfl, Did.of hr hC⟩
  ·rw [if_neg h0]
   repeat' first | refine .A ?_ | refine .B ?_ | refine .D ?_ | refine .F ?_ | refine .G ?_ | refine .H ?_ | refine .J ?_ | refine .f5 ?_ | refine .L l6 ?_ | refine .Y ?_ | fail
   exact ⟨rfl, Did.of hr hC⟩
 obtain ⟨v, H', h1, rfl, h2⟩ := key
 exact ⟨H', h1, h2⟩
end
end Go.Proofs.YtnfcohmbcgfhbaaGreat

/- A byte read, step by step: by the document. -/
namespace Go.Proofs.YtnfcohmbcgfhbaaGreat
open Go Go.Ir

def qmD (c : Cfg) (s : Rd) (kp bb : Int) : List Value :=
 [I c.A, I c.S, I c.T, I s.h, I s.off, I s.nx, I s.e.o, I s.e.g, I s.e.p, I s.e.u, .bool s.e.lk, .bool s.e.lv, I kp, I bb]
structure RdI (c : Cfg) (s : Rd) (kp bb : Int) : Prop where
 k0 : s.nx = 2 ∨ s.nx = 3 → kp = 0
 k3 : s.nx = 3 → s.cd = 0
 k4 : s.nx = 4 → kp = s.cd ∧ (s.cd = 0 → bb = s.nn) ∧ (s.cd ≠ 0 → s.nn = 0)
 nx : 0 ≤ s.nx ∧ s.nx ≤ 4
 st : 1 < s.nx → (ofR s.h c.S).2.2 = 0

section
variable {lo : Nat} {H : qab} {b : Nat} {c : Cfg} {s : Rd} {cb : CB} {ws bs : List Int} {kp bb : Int}

theorem DidR.of {row : List Value} (hr : H[b]? = some (.row row false)) (hC : IsR H cb ws bs) : DidR H H b row cb ws bs := ⟨hr, hC, Chg.refl _ _⟩

theorem qmE (lo : Nat) (h : qab) (w g : Int) : qfV En lo Id.zcQ [I w, I g] h = some (qmu g (qjX w), h) := by
 have hU := fun lo => qkp lo h w
 refine qgx rfl Fn.zcQ rfl rfl ?_
 cases hu : qjX w with
 | none =>
   rw [hu] at hU
   simp only [unV, Ent.zero, Ent.cs] at hU
   repeat' first | refine .A ?_ | refine .B ?_ | refine .J ?_ | refine .f5 ?_ | refine .P (hU _) ?_ | refine .D ?_ | refine .F ?_ | refine .Y ?_ | fail
   rfl
 | some e =>
   rw [hu] at hU
   obtain ⟨o, g', p, u, lk, lv⟩ := e
   simp only [unV, Ent.cs] at hU
   cases lv with
   | false =>
     repeat' first | refine .A ?_ | refine .B ?_ | refine .J ?_ | refine .C ?_ | refine .t5 ?_ | refine .P (hU _) ?_ | refine .D ?_ | refine .F ?_ | refine .Y ?_ | fail
     rfl
   | true =>
     simp only [qmu, Bool.true_and]
     by_cases hg : g' = g
     ·rw [decide_eq_true hg]
      repeat' first | refine .A ?_ | refine .B ?_ | refine .J ?_ | refine .C ?_ | refine .t5 ?_ | refine .P (hU _) ?_ | refine .F ?_ | refine .Y ?_ | fail
      rfl
     ·rw [decide_eq_false hg]
      repeat' first | refine .A ?_ | refine .B ?_ | refine .J ?_ | refine .C ?_ | refine .t5 ?_ | refine .f5 ?_ | refine .P (hU _) ?_ | refine .F ?_ | refine .Y ?_ | fail
      rfl

theorem qmF (hr : H[b]? = some (.row (qmD c s kp bb) false)) (hlo : lo ≤ b) (k : Int) : qfV En lo Id.zcV [qkb b, I k] H = some (qmr none, H.set b (.row (qmD c { s with nx := k } kp bb) false)) := by
 have hst : stN lo H ⟨b, 0 + 5, none⟩ (qaf (I k)) = some (H.set b (.row (qmD c { s with nx := k } kp bb) false)) := qip hr hlo (Nat.le_of_ble_eq_true rfl) rfl
 refine qgx rfl Fn.zcV rfl rfl ?_
 repeat' first | refine .A ?_ | refine .B ?_ | refine .J ?_ | refine .S hst ?_ | refine .F ?_ | refine .Y ?_ | fail
 rfl
theorem qmG (hr : H[b]? = some (.row (qmD c s kp bb) false)) (hlo : lo ≤ b) (k e : Int) : qfV En lo Id.zcS [qkb b, .agg #[I k, I e]] H = some (qmr (some (k, e)), H.set b (.row (qmD c { s with nx := 0 } kp bb) false)) := by
 have hst : stN lo H ⟨b, 0 + 5, none⟩ (qaf (I 0)) = some (H.set b (.row (qmD c { s with nx := 0 } kp bb) false)) := qip hr hlo (Nat.le_of_ble_eq_true rfl) rfl
 refine qgx rfl Fn.zcS rfl rfl ?_
 repeat' first | refine .A ?_ | refine .B ?_ | refine .J ?_ | refine .S hst ?_ | refine .F ?_ | refine .Y ?_ | fail
 rfl

set_option maxHeartbeats 1600000 in
theorem qmH (hr : H[b]? = some (.row (qmD c s kp bb) false)) (hC : IsR H cb ws bs) (hb : b ≠ cb.P ∧ b ≠ cb.W ∧ b ≠ cb.Y) (hm : c.may) (hlo : lo ≤ b) (hlc : lo ≤ cb.P) (sl g : Int) (h1 : s.nx = 1) :
  ∃ kp' H', qfV En lo Id.zcT [qkb b, qiX cb, I sl, I g] H = some (qmr (qmw s (qmt ws c sl g)).2, H') ∧ DidR H H' b (qmD c (qmw s (qmt ws c sl g)).1 kp' bb) cb ws bs ∧ ((qmw s (qmt ws c sl g)).1.nx = 2 → kp' = 0) := by
 have hA : ∀ lo, qfV En lo Id.zcv [.agg #[I c.A, I c.S, I c.T], I 5, I sl] H = some (I (qjj c sl 0), H) := fun lo => qlw lo H hm sl (j := 0) (by omega)
 obtain ⟨H1, hL, hC1, ho1⟩ := qlq hC hlc (qjj c sl 0)
 have d1 := DidR.mk1 hr hC1 ho1 (by simp) hb
 have hF := fun lo => qmE lo H1 (qiR ws (qjj c sl 0)) g
 have hE := fun lo hl k e => qmG (lo := lo) d1.row hl k e
 have hO := fun lo hl k => qmF (lo := lo) d1.row hl k
 unfold qmt
 cases hf : qms g (qjX (qiR ws (qjj c sl 0))) with
 | none =>
   obtain ⟨e, he⟩ := qmA hf
   rw [he] at hF
   simp only [Ent.cs] at hF
   refine ⟨kp, _, ?_, d1.put hb, fun h => by cases h⟩
   refine qgx rfl Fn.zcT rfl rfl ?_
   repeat' first | refine .A ?_ | refine .B ?_ | refine .C ?_ | refine .J ?_ | refine .L (qio hr (Nat.le_of_ble_eq_true rfl) rfl) ?_ | refine .P (hA _) ?_ | refine .P hL ?_ | refine .P (hF _) ?_ | refine .P (hE _ hlo _ _) ?_ | refine .F ?_ | refine .Y ?_ | fail
   rfl
 | some e =>
   rw [qmB hf] at hF
   obtain ⟨o, g', p, u, lk, lv⟩ := e
   simp only [Ent.cs] at hF
   simp only [qmw]
   cases lk with
   | true =>
     refine ⟨kp, _, ?_, d1.put hb, fun h => by rw [if_pos rfl, h1] at h; cases h⟩
     refine qgx rfl Fn.zcT rfl rfl ?_
     repeat' first | refine .A ?_ | refine .B ?_ | refine .C ?_ | refine .D ?_ | refine .F ?_ | refine .J ?_ | refine .L (qio hr (Nat.le_of_ble_eq_true rfl) rfl) ?_ | refine .P (hA _) ?_ | refine .P hL ?_ | refine .P (hF _) ?_ | refine .P (hO _ hlo _) ?_ | refine .Y ?_ | fail
     rw [if_pos rfl, h1.symm.trans rfl]
     rfl
   | false =>
     have d2 := d1.put (row' := qmD c { s with e := ⟨o, g', p, u, false, lv⟩ } kp bb) hb
     have s1 : stN lo H1 ⟨b, 0 + 6, none⟩ (qaf (.agg #[I o, I g', I p, I u, .bool false, .bool lv])) = some (H1.set b (.row (qmD c { s with e := ⟨o, g', p, u, false, lv⟩ } kp bb) false)) := qip d1.row hlo (Nat.le_of_ble_eq_true rfl) rfl
     generalize H1.set b (.row (qmD c { s with e := ⟨o, g', p, u, false, lv⟩ } kp bb) false) = H2 at d2 s1
     have d3 := d2.put (row' := qmD c { s with e := ⟨o, g', p, u, false, lv⟩ } 0 bb) hb
     have s2 : stN lo H2 ⟨b, 0 + 12, none⟩ (qaf (I 0)) = some (H2.set b (.row (qmD c { s with e := ⟨o, g', p, u, false, lv⟩ } 0 bb) false)) := qip d2.row hlo (Nat.le_of_ble_eq_true rfl) rfl
     generalize H2.set b (.row (qmD c { s with e := ⟨o, g', p, u, false, lv⟩ } 0 bb) false) = H3 at d3 s2
     have hO3 := fun lo hl k => qmF (lo := lo) d3.row hl k
     refine ⟨0, _, ?_, d3.put hb, fun h => rfl⟩
     refine qgx rfl Fn.zcT rfl rfl ?_
     repeat' first | refine .A ?_ | refine .B ?_ | refine .D ?_ | refine .F ?_ | refine .J ?_ | refine .C ?_ | refine .L (qio hr (Nat.le_of_ble_eq_true rfl) rfl) ?_ | refine .P (hA _) ?_ | refine .P hL ?_ | refine .P (hF _) ?_ | refine .P (hO3 _ hlo _) ?_ | refine .S s1 ?_ | refine .S s2 ?_ | refine .Y ?_ | fail
     rfl

set_option maxHeartbeats 1600000 in
theorem qmI (hr : H[b]? = some (.row (qmD c s kp bb) false)) (hC : IsR H cb ws bs) (hb : b ≠ cb.P ∧ b ≠ cb.W ∧ b ≠ cb.Y) (hm : c.may) (hlo : lo ≤ b) (hlc : lo ≤ cb.P) (sl g : Int) (h4 : kp = s.cd ∧ (s.cd = 0 → bb = s.nn) ∧ (s.cd ≠ 0 → s.nn = 0)) :
  ∃ H', qfV En lo Id.zcU [qkb b, qiX cb, I sl, I g] H = some (qmr (qmx s (qmt ws c sl g)).2, H') ∧ DidR H H' b (qmD c (qmx s (qmt ws c sl g)).1 kp bb) cb ws bs := by
 have hA : ∀ lo, qfV En lo Id.zcv [.agg #[I c.A, I c.S, I c.T], I 5, I sl] H = some (I (qjj c sl 0), H) := fun lo => qlw lo H hm sl (j := 0) (by omega)
 obtain ⟨H1, hL, hC1, ho1⟩ := qlq hC hlc (qjj c sl 0)
 have d1 := DidR.mk1 hr hC1 ho1 (by simp) hb
 have hr1 := d1.row
 have hF := fun lo => qmE lo H1 (qiR ws (qjj c sl 0)) g
 have hE := fun lo hl k e => qmG (lo := lo) d1.row hl k e
 have hO := fun lo hl k => qmF (lo := lo) d1.row hl k
 have k6 : qav H1 none ⟨b, 0 + 6 + 0, none⟩ = some (I s.e.o) := qin hr1 rfl
 have k12 : qav H1 none ⟨b, 0 + 12, none⟩ = some (I kp) := qin hr1 rfl
 have k13 : qav H1 none ⟨b, 0 + 13, none⟩ = some (I bb) := qin hr1 rfl
 unfold qmt
 cases hf : qms g (qjX (qiR ws (qjj c sl 0))) with
 | none =>
   obtain ⟨e, he⟩ := qmA hf
   rw [he] at hF
   simp only [Ent.cs] at hF
   refine ⟨_, ?_, d1.put hb⟩
   refine qgx rfl Fn.zcU rfl rfl ?_
   repeat' first | refine .A ?_ | refine .B ?_ | refine .C ?_ | refine .J ?_ | refine .L (qio hr (Nat.le_of_ble_eq_true rfl) rfl) ?_ | refine .P (hA _) ?_ | refine .P hL ?_ | refine .P (hF _) ?_ | refine .P (hO _ hlo _) ?_ | refine .D ?_ | refine .F ?_ | refine .Y ?_ | fail
   rfl
 | some e =>
   rw [qmB hf] at hF
   obtain ⟨o, g', p, u, lk, lv⟩ := e
   simp only [Ent.cs] at hF
   simp only [qmx]
   by_cases ho : o = s.e.o
   ·cases lk with
    | true =>
      rw [if_neg (by simp)]
      refine ⟨_, ?_, d1.put hb⟩
      refine qgx rfl Fn.zcU rfl rfl ?_
      repeat' first | refine .A ?_ | refine .B ?_ | refine .C ?_ | refine .J ?_ | refine .f6 ?_ | refine .L (qio hr (Nat.le_of_ble_eq_true rfl) rfl) ?_ | refine .L k6 ?_ | refine .P (hA _) ?_ | refine .P hL ?_ | refine .P (hF _) ?_ | refine .P (hO _ hlo _) ?_ | refine .F ?_ | refine .Y ?_ | fail
      rfl
    | false =>
      rw [if_pos ⟨ho, rfl⟩]
      by_cases hc0 : s.cd = 0
      ·have e1 := h4.1.trans hc0
       have e2 := h4.2.1 hc0
       rw [hc0, ← e2]
       refine ⟨_, ?_, d1.put hb⟩
       refine qgx rfl Fn.zcU rfl rfl ?_
       repeat' first | refine .A ?_ | refine .B ?_ | refine .D ?_ | refine .F ?_ | refine .J ?_ | refine .C ?_ | refine .f6 ?_ | refine .L (qio hr (Nat.le_of_ble_eq_true rfl) rfl) ?_ | refine .L k6 ?_ | refine .L k12 ?_ | refine .L k13 ?_ | refine .P (hA _) ?_ | refine .P hL ?_ | refine .P (hF _) ?_ | refine .P (hE _ hlo _ _) ?_ | refine .Y ?_ | fail
       rfl
      ·have e1 := h4.1
       rw [h4.2.2 hc0, ← e1]
       refine ⟨_, ?_, d1.put hb⟩
       refine qgx rfl Fn.zcU rfl rfl ?_
       repeat' first | refine .A ?_ | refine .B ?_ | refine .C ?_ | refine .D ?_ | refine .F ?_ | refine .J ?_ | refine .t6 ?_ | refine .f6 ?_ | refine .L (qio hr (Nat.le_of_ble_eq_true rfl) rfl) ?_ | refine .L k6 ?_ | refine .L k12 ?_ | refine .P (hA _) ?_ | refine .P hL ?_ | refine .P (hF _) ?_ | refine .P (hE _ hlo _ _) ?_ | refine .Y ?_ | fail
       rfl
   ·rw [if_neg fun hh => ho hh.1]
    refine ⟨_, ?_, d1.put hb⟩
    refine qgx rfl Fn.zcU rfl rfl ?_
    repeat' first | refine .A ?_ | refine .B ?_ | refine .C ?_ | refine .J ?_ | refine .t6 ?_ | refine .L (qio hr (Nat.le_of_ble_eq_true rfl) rfl) ?_ | refine .L k6 ?_ | refine .P (hA _) ?_ | refine .P hL ?_ | refine .P (hF _) ?_ | refine .P (hO _ hlo _) ?_ | refine .D ?_ | refine .F ?_ | refine .Y ?_ | fail
    rfl

theorem qmJ (s : Rd) (o : Option Ent) : ((qmw s o).1.nx = 0 ∨ (qmw s o).1.nx = s.nx ∨ (qmw s o).1.nx = 2) ∧ (qmw s o).1.h = s.h := by
 unfold qmw
 cases o with
 | none => exact ⟨.inl rfl, rfl⟩
 | some e => simp only; split <;> simp
theorem qmK (s : Rd) (o : Option Ent) : ((qmx s o).1.nx = 0 ∨ (qmx s o).1.nx = 1) ∧ (qmx s o).1.h = s.h := by
 unfold qmx
 cases o with
 | none => exact ⟨.inr rfl, rfl⟩
 | some e => simp only; split <;> simp

set_option maxHeartbeats 3200000 in
theorem qmL (hr : H[b]? = some (.row (qmD c s kp bb) false)) (hI : RdI c s kp bb) (hC : IsR H cb ws bs) (hb : b ≠ cb.P ∧ b ≠ cb.W ∧ b ≠ cb.Y) (hm : c.may) (hh : -9223372036854775808 ≤ s.h ∧ s.h < 9223372036854775808) (hlo : lo ≤ b) (hlc : lo ≤ cb.P) :
  ∃ kp' bb' H', qfV En lo Id.zcR [qkb b, qiX cb] H = some (qmr (rdS c s ws bs).2, H') ∧ DidR H H' b (qmD c (rdS c s ws bs).1 kp' bb') cb ws bs ∧ RdI c (rdS c s ws bs).1 kp' bb' := by
 have l5 : qav H none ⟨b, 0 + 5, none⟩ = some (I s.nx) := qin hr rfl
 have l3 : qav H none ⟨b, 0 + 3, none⟩ = some (I s.h) := qin hr rfl
 have l01 : qav H none ⟨b, 0 + 0 + 1, none⟩ = some (I c.S) := qin hr rfl
 have hO := fun lo => ql5 lo H hh c.S
 unfold ofV at hO
 have hE := fun lo hl k e => qmG (lo := lo) hr hl k e
 have hnx := hI.nx
 unfold rdS
 by_cases h0 : s.nx = 0
 ·rw [if_neg (by omega), if_neg (by omega), if_neg (by omega), if_neg (by omega), if_pos h0]
  refine ⟨kp, bb, H, ?_, .of hr hC, hI⟩
  refine qgx rfl Fn.zcR rfl rfl ?_
  repeat' first | refine .A ?_ | refine .B ?_ | refine .C ?_ | refine .J ?_ | refine .t5 ?_ | refine .L l5 ?_ | refine .F ?_ | refine .Y ?_ | fail
  rfl
 by_cases hst : (ofR s.h c.S).2.2 ≠ 0
 ·have h1 : s.nx = 1 := by
   by_cases h : s.nx = 1
   ·exact h
   ·exact absurd (hI.st (by omega)) hst
  rw [if_pos h1, if_pos hst]
  refine ⟨kp, bb, _, ?_, (DidR.of hr hC).put hb, ⟨fun h => by simp at h, fun h => by simp at h, fun h => by simp at h, ⟨by simp, by simp⟩, fun h => by simp at h⟩⟩
  refine qgx rfl Fn.zcR rfl rfl ?_
  repeat' first | refine .A ?_ | refine .B ?_ | refine .C ?_ | refine .D ?_ | refine .F ?_ | refine .J ?_ | refine .f5 ?_ | refine .t6 ?_ | refine .L l5 ?_ | refine .L l3 ?_ | refine .L l01 ?_ | refine .P (hO _) ?_ | refine .P (hE _ hlo _ _) ?_ | refine .Y ?_ | fail
  rfl
 have hst0 : (ofR s.h c.S).2.2 = 0 := Decidable.not_not.1 hst
 rw [if_neg hst]
 by_cases h1 : s.nx = 1
 ·rw [if_pos h1]
  obtain ⟨kp', H', hF, d, hk⟩ := qmH hr hC hb hm hlo hlc (ofR s.h c.S).1 (ofR s.h c.S).2.1 h1
  have hcs := qmJ s (qmt ws c (ofR s.h c.S).1 (ofR s.h c.S).2.1)
  refine ⟨kp', bb, H', ?_, d, ⟨fun h => by
   rcases h with h | h
   ·exact hk h
   ·omega, fun h => by omega, fun h => by omega, by omega, fun h => by rw [hcs.2]; exact hst0⟩⟩
  generalize qmw s (qmt ws c (ofR s.h c.S).1 (ofR s.h c.S).2.1) = r at hF ⊢
  obtain ⟨s', o⟩ := r
  cases o with
  | none =>
    simp only [qmr] at hF ⊢
    refine qgx rfl Fn.zcR rfl rfl ?_
    repeat' first | refine .A ?_ | refine .B ?_ | refine .C ?_ | refine .D ?_ | refine .F ?_ | refine .G ?_ | refine .J ?_ | refine .t5 ?_ | refine .f5 ?_ | refine .f6 ?_ | refine .L l5 ?_ | refine .L l3 ?_ | refine .L l01 ?_ | refine .P (hO _) ?_ | refine .P hF ?_ | refine .Y ?_ | fail
    rfl
  | some q =>
    simp only [qmr] at hF ⊢
    refine qgx rfl Fn.zcR rfl rfl ?_
    repeat' first | refine .A ?_ | refine .B ?_ | refine .C ?_ | refine .D ?_ | refine .F ?_ | refine .G ?_ | refine .J ?_ | refine .t5 ?_ | refine .f5 ?_ | refine .f6 ?_ | refine .L l5 ?_ | refine .L l3 ?_ | refine .L l01 ?_ | refine .P (hO _) ?_ | refine .P hF ?_ | refine .Y ?_ | fail
    rfl
 rw [if_neg h1]
 by_cases h2 : s.nx = 2
 ·rw [if_pos h2]
  have hA : ∀ lo, qfV En lo Id.zcv [.agg #[I c.A, I c.S, I c.T], I 6, I (ofR s.h c.S).1] H = some (I (qjj c (ofR s.h c.S).1 1), H) := fun lo => qlw lo H hm _ (j := 1) (by omega)
  obtain ⟨H1, hL, hC1, ho1⟩ := qlq hC hlc (qjj c (ofR s.h c.S).1 1)
  have d1 := DidR.mk1 hr hC1 ho1 (by simp) hb
  have k4 : qav H1 none ⟨b, 0 + 4, none⟩ = some (I s.off) := qin d1.row rfl
  have hO1 := fun lo hl k => qmF (lo := lo) d1.row hl k
  generalize qiR ws (qjj c (ofR s.h c.S).1 1) = z at hL ⊢
  by_cases ho : s.off < 0 ∨ z ≤ s.off
  ·rw [if_pos ho]
   have d2 := d1.put (row' := qmD c s 5 bb) hb
   have s1 : stN lo H1 ⟨b, 0 + 12, none⟩ (qaf (I 5)) = some (H1.set b (.row (qmD c s 5 bb) false)) := qip d1.row hlo (Nat.le_of_ble_eq_true rfl) rfl
   generalize H1.set b (.row (qmD c s 5 bb) false) = H2 at d2 s1
   have hO2 := fun lo hl k => qmF (lo := lo) d2.row hl k
   refine ⟨5, bb, _, ?_, d2.put hb, ⟨fun h => by simp at h, fun h => by simp at h, fun h => ⟨rfl, fun h => by simp at h, fun _ => rfl⟩, ⟨by simp, by simp⟩, fun _ => hst0⟩⟩
   by_cases ho1 : s.off < 0
   ·refine qgx rfl Fn.zcR rfl rfl ?_
    repeat' first | refine .A ?_ | refine .B ?_ | refine .C ?_ | refine .D ?_ | refine .F ?_ | refine .G ?_ | refine .J ?_ | refine .t1 ?_ | refine .t5 ?_ | refine .f5 ?_ | refine .f6 ?_ | (show EG _ _ (⟨_, .load _ _, _, _⟩ :: _) _ _ _ _ _ _; first | refine .L l5 ?_ | refine .L l3 ?_ | refine .L l01 ?_ | refine .L k4 ?_ | refine .L (qio hr (Nat.le_of_ble_eq_true rfl) rfl) ?_) | refine .P (hO _) ?_ | refine .P (hA _) ?_ | refine .P hL ?_ | refine .P (hO2 _ hlo _) ?_ | refine .S s1 ?_ | refine .Y ?_ | fail
    rfl
   ·refine qgx rfl Fn.zcR rfl rfl ?_
    repeat' first | refine .A ?_ | refine .B ?_ | refine .C ?_ | refine .D ?_ | refine .F ?_ | refine .G ?_ | refine .J ?_ | (show EG _ _ (⟨_, .bin _ _ _, _, _⟩ :: _) _ _ _ _ _ _; first | refine .f1 ?_ | refine .t4 ?_ | refine .t5 ?_ | refine .f5 ?_ | refine .f6 ?_) | (show EG _ _ (⟨_, .load _ _, _, _⟩ :: _) _ _ _ _ _ _; first | refine .L l5 ?_ | refine .L l3 ?_ | refine .L l01 ?_ | refine .L k4 ?_ | refine .L (qio hr (Nat.le_of_ble_eq_true rfl) rfl) ?_) | refine .P (hO _) ?_ | refine .P (hA _) ?_ | refine .P hL ?_ | refine .P (hO2 _ hlo _) ?_ | refine .S s1 ?_ | refine .Y ?_ | fail
    rfl
  ·rw [if_neg ho]
   refine ⟨kp, bb, _, ?_, d1.put hb, ⟨fun h => hI.k0 (.inl h2), fun h => rfl, fun h => by simp at h, ⟨by simp, by simp⟩, fun _ => hst0⟩⟩
   refine qgx rfl Fn.zcR rfl rfl ?_
   repeat' first | refine .A ?_ | refine .B ?_ | refine .C ?_ | refine .D ?_ | refine .F ?_ | refine .G ?_ | refine .J ?_ | (show EG _ _ (⟨_, .bin _ _ _, _, _⟩ :: _) _ _ _ _ _ _; first | refine .f1 ?_ | refine .f4 ?_ | refine .t5 ?_ | refine .f5 ?_ | refine .f6 ?_) | (show EG _ _ (⟨_, .load _ _, _, _⟩ :: _) _ _ _ _ _ _; first | refine .L l5 ?_ | refine .L l3 ?_ | refine .L l01 ?_ | refine .L k4 ?_ | refine .L (qio hr (Nat.le_of_ble_eq_true rfl) rfl) ?_) | refine .P (hO _) ?_ | refine .P (hA _) ?_ | refine .P hL ?_ | refine .P (hO1 _ hlo _) ?_ | refine .Y ?_ | fail
   rfl
 rw [if_neg h2]
 by_cases h3 : s.nx = 3
 ·rw [if_pos h3]
  have k6 : qav H none ⟨b, 0 + 6 + 0, none⟩ = some (I s.e.o) := qin hr rfl
  have l4 : qav H none ⟨b, 0 + 4, none⟩ = some (I s.off) := qin hr rfl
  obtain ⟨H1, hL, hC1, ho1⟩ := qlr hC hlc (IntKind.i64.wrap (s.e.o + s.off))
  have d1 := DidR.mk1 hr hC1 ho1 (by simp) hb
  generalize qiR bs (IntKind.i64.wrap (s.e.o + s.off)) = z at hL ⊢
  have d2 := d1.put (row' := qmD c s kp z) hb
  have s1 : stN lo H1 ⟨b, 0 + 13, none⟩ (qaf (I z)) = some (H1.set b (.row (qmD c s kp z) false)) := qip d1.row hlo (Nat.le_of_ble_eq_true rfl) rfl
  generalize H1.set b (.row (qmD c s kp z) false) = H2 at d2 s1
  have hO2 := fun lo hl k => qmF (lo := lo) d2.row hl k
  have e3 := hI.k3 h3
  refine ⟨kp, z, _, ?_, d2.put hb, ⟨fun h => by simp at h, fun h => by simp at h, fun h => ⟨(hI.k0 (.inr h3)).trans e3.symm, fun _ => rfl, fun h => absurd e3 h⟩, ⟨by simp, by simp⟩, fun _ => hst0⟩⟩
  refine qgx rfl Fn.zcR rfl rfl ?_
  repeat' first | refine .A ?_ | refine .B ?_ | refine .C ?_ | refine .D ?_ | refine .F ?_ | refine .G ?_ | refine .J ?_ | refine .t5 ?_ | refine .f5 ?_ | refine .f6 ?_ | (show EG _ _ (⟨_, .load _ _, _, _⟩ :: _) _ _ _ _ _ _; first | refine .L l5 ?_ | refine .L l3 ?_ | refine .L l01 ?_ | refine .L l4 ?_ | refine .L k6 ?_) | refine .P (hO _) ?_ | refine .P hL ?_ | refine .P (hO2 _ hlo _) ?_ | refine .S s1 ?_ | refine .Y ?_ | fail
  rfl
 rw [if_neg h3]
 have h4 : s.nx = 4 := by omega
 rw [if_pos h4]
 obtain ⟨H', hF, d⟩ := qmI hr hC hb hm hlo hlc (ofR s.h c.S).1 (ofR s.h c.S).2.1 (hI.k4 h4)
 have hcs := qmK s (qmt ws c (ofR s.h c.S).1 (ofR s.h c.S).2.1)
 refine ⟨kp, bb, H', ?_, d, ⟨fun h => by omega, fun h => by omega, fun h => by omega, by omega, fun h => by omega⟩⟩
 generalize qmx s (qmt ws c (ofR s.h c.S).1 (ofR s.h c.S).2.1) = r at hF ⊢
 obtain ⟨s', o⟩ := r
 cases o with
 | none =>
   simp only [qmr] at hF ⊢
   refine qgx rfl Fn.zcR rfl rfl ?_
   repeat' first | refine .A ?_ | refine .B ?_ | refine .D ?_ | refine .F ?_ | refine .G ?_ | refine .H ?_ | refine .J ?_ | refine .f5 ?_ | refine .f6 ?_ | refine .L l5 ?_ | refine .L l3 ?_ | refine .L l01 ?_ | refine .P (hO _) ?_ | refine .P hF ?_ | refine .Y ?_ | fail
   rfl
 | some q =>
   simp only [qmr] at hF ⊢
   refine qgx rfl Fn.zcR rfl rfl ?_
   repeat' first | refine .A ?_ | refine .B ?_ | refine .D ?_ | refine .F ?_ | refine .G ?_ | refine .H ?_ | refine .J ?_ | refine .f5 ?_ | refine .f6 ?_ | refine .L l5 ?_ | refine .L l3 ?_ | refine .L l01 ?_ | refine .P (hO _) ?_ | refine .P hF ?_ | refine .Y ?_ | fail
   rfl
end
end Go.Proofs.YtnfcohmbcgfhbaaGreat

/- A byte written, step by step: by the program. -/
namespace Go.Proofs.YtnfcohmbcgfhbaaGreat
open Go Go.Ir

theorem qmM {lo : Nat} {H : qab} {b o : Nat} {s : Option Nat} {cs vs w : List Value} (hlt : b < H.length) (hlo : lo ≤ b) (ho : o + vs.length ≤ cs.length) (hw : splice cs o vs = w) : stN lo (H.set b (.row cs false)) ⟨b, o, s⟩ vs = some (H.set b (.row w false)) :=
 (qip (qij hlt) hlo ho hw).trans (by rw [List.set_set])

structure Wr where
 h : Int
 off : Int
 v : Int
 nx : Int
 word : Int
 o : Int
 cd : Int
 gd : Bool
def qmN (c : Cfg) (s : Wr) : List Value :=
 [I c.T, I c.S, I (ofR s.h c.S).1, I (ofR s.h c.S).2.1, .bool (decide ((ofR s.h c.S).2.2 ≠ 0)), I s.off, I s.v, I s.nx, I s.word, I s.o, I s.cd, .bool s.gd]
def qmO (s : Wr) : Option Ent → Wr × Option (Int × Int)
 | none => ({ s with nx := 0, gd := false }, some (4, 0))
 | some e => if e.lk = false ∧ e.u < 15 then ({ s with o := e.o, nx := 2 }, none) else (s, none)
def wrG (c : Cfg) (s : Wr) : Int := qjj c (ofR s.h c.S).1 0
def wrS (c : Cfg) (s : Wr) (ws bs : List Int) : Wr × List Int × List Int × Option (Int × Int) :=
 if s.nx = 1 then
  if (ofR s.h c.S).2.2 ≠ 0 then ({ s with nx := 0, gd := false }, ws, bs, some (4, 0))
  else ((qmO { s with word := qiR ws (wrG c s) } (qmt ws c (ofR s.h c.S).1 (ofR s.h c.S).2.1)).1, ws, bs, (qmO { s with word := qiR ws (wrG c s) } (qmt ws c (ofR s.h c.S).1 (ofR s.h c.S).2.1)).2)
 else if s.nx = 2 then
  if qi3 ws (wrG c s) s.word then ({ s with gd := true, nx := 3 }, qiS ws (wrG c s) (chE s.word (qk4 1)).1, bs, none) else ({ s with nx := 1 }, ws, bs, none)
 else if s.nx = 3 then
  if s.off < 0 ∨ qiR ws (qjj c (ofR s.h c.S).1 1) ≤ s.off then ({ s with cd := 5, nx := 5 }, ws, bs, none) else ({ s with nx := 4 }, ws, bs, none)
 else if s.nx = 4 then ({ s with nx := 5 }, ws, qiS bs (IntKind.i64.wrap (s.o + s.off)) (qiU s.v), none)
 else if s.nx = 5 then ({ s with word := qiR ws (wrG c s), nx := 6 }, ws, bs, none)
 else if s.nx = 6 then
  if (chE s.word (qk4 (-1))).2 ≠ 0 then ({ s with nx := 0, gd := false }, ws, bs, some (s.cd, 0))
  else if qi3 ws (wrG c s) s.word then ({ s with nx := 0, gd := false }, qiS ws (wrG c s) (chE s.word (qk4 (-1))).1, bs, some (s.cd, 0)) else ({ s with nx := 5 }, ws, bs, none)
 else if s.nx = 0 then (s, ws, bs, some (1, 0))
 else (s, ws, bs, none)

section
variable {lo : Nat} {H : qab} {b : Nat} {c : Cfg} {s : Wr} {cb : CB} {ws bs : List Int}

theorem Did.on {H1 H2 : qab} {row : List Value} {ws1 bs1 ws' bs' : List Int} {S : List Nat} (d : Did H H1 b row cb ws1 bs1) (hC : IsC H2 cb ws' bs') (o : Only S H1 H2) (hS : ∀ i ∈ S, i ∈ [cb.P, cb.W, cb.Y]) (hb : b ≠ cb.P ∧ b ≠ cb.W ∧ b ≠ cb.Y) : Did H H2 b row cb ws' bs' :=
 ⟨(Chg.of o).get d.row fun h => by have := hS _ h; simp at this; omega, hC, d.chg.trans ((Chg.of o).mono fun i hi => List.mem_cons_of_mem _ (hS i hi))⟩
theorem Did.then {H1 H2 : qab} {row row' : List Value} {ws1 bs1 ws' bs' : List Int} (d : Did H H1 b row cb ws1 bs1) (d2 : Did H1 H2 b row' cb ws' bs') : Did H H2 b row' cb ws' bs' := ⟨d2.row, d2.cells, d.chg.trans d2.chg⟩

theorem qmP (d : Did H H b (qmN c s) cb ws bs) (hlo : lo ≤ b) (k : Int) : qfV En lo Id.zdN [qkb b, I k] H = some (qmr (some (k, 0)), H.set b (.row (qmN c { s with nx := 0, gd := false }) false)) := by
 refine qgx rfl Fn.zdN rfl rfl ?_
 repeat' first | refine .A ?_ | refine .B ?_ | refine .J ?_ | refine .S (qip d.row hlo (Nat.le_of_ble_eq_true rfl) rfl) ?_ | refine .S (qmM (qim d.row) hlo (Nat.le_of_ble_eq_true rfl) rfl) ?_ | refine .F ?_ | refine .Y ?_ | fail
 rfl
theorem qmQ (d : Did H H b (qmN c s) cb ws bs) (hm : c.may) (hlo : lo ≤ b) (hlc : lo ≤ cb.P) (hb : b ≠ cb.P ∧ b ≠ cb.W ∧ b ≠ cb.Y) :
  ∃ H', qfV En lo Id.zdQ [qkb b, ifC cb] H = some (qag, H') ∧ Did H H' b (qmN c { s with word := qiR ws (wrG c s) }) cb ws bs := by
 have hE := fun lo => qjm lo H hm (ofR s.h c.S).1
 obtain ⟨H1, hL, hC1, ho1⟩ := qi1 d.cells hlc (wrG c s)
 have d1 := d.on hC1 ho1 (by simp) hb
 refine ⟨_, ?_, d1.set hb⟩
 refine qgx rfl Fn.zdQ rfl rfl ?_
 unfold wrG at hL ⊢
 repeat' first | refine .B ?_ | refine .nil rfl ?_ | refine .A ?_ | refine .L (qin d.row rfl) ?_ | refine .L (qio d.row (Nat.le_of_ble_eq_true rfl) rfl) ?_ | refine .P (hE _) ?_ | refine .W hL ?_ | refine .S (qip d1.row hlo (Nat.le_of_ble_eq_true rfl) rfl) ?_ | refine .F ?_ | refine .Y ?_ | fail
 rfl
theorem qmR (d : Did H H b (qmN c s) cb ws bs) (hm : c.may) (hlo : lo ≤ b) (hlc : lo ≤ cb.P ∧ lo ≤ cb.W) (hb : b ≠ cb.P ∧ b ≠ cb.W ∧ b ≠ cb.Y) (to : Int) :
  ∃ H', qfV En lo Id.zdS [qkb b, ifC cb, I to] H = some (.bool (qi3 ws (wrG c s) s.word), H') ∧ Did H H' b (qmN c s) cb (if qi3 ws (wrG c s) s.word then qiS ws (wrG c s) to else ws) bs := by
 have hE := fun lo => qjm lo H hm (ofR s.h c.S).1
 obtain ⟨H1, hL, hC1, ho1⟩ := qi4 d.cells hlc.1 hlc.2 (wrG c s) s.word to
 have d1 := d.on hC1 ho1 (by simp) hb
 have l8 : qav H none ⟨b, 0 + 8, none⟩ = some (I s.word) := qin d.row rfl
 refine ⟨_, ?_, d1⟩
 refine qgx rfl Fn.zdS rfl rfl ?_
 unfold wrG at hL ⊢
 repeat' first | refine .A ?_ | refine .B ?_ | refine .J ?_ | refine .L (qin d.row rfl) ?_ | refine .L (qio d.row (Nat.le_of_ble_eq_true rfl) rfl) ?_ | refine .X (qin d.row rfl) (qis (qin d.row rfl)) (qkd _) ?_ | refine .P (hE _) ?_ | refine .W hL ?_ | refine .F ?_ | refine .Y ?_ | fail
 rfl

def qmS : Option Ent → Bool
 | none => true
 | some _ => false
theorem qmT (d : Did H H b (qmN c s) cb ws bs) (hm : c.may) (hlo : lo ≤ b) (hlc : lo ≤ cb.P) (hb : b ≠ cb.P ∧ b ≠ cb.W ∧ b ≠ cb.Y) (hst : ¬ (ofR s.h c.S).2.2 ≠ 0) :
  ∃ H', qfV En lo Id.zdR [qkb b, ifC cb] H = some (.bool (qmS (qmt ws c (ofR s.h c.S).1 (ofR s.h c.S).2.1)), H') ∧
   Did H H' b (match qmt ws c (ofR s.h c.S).1 (ofR s.h c.S).2.1 with | none => qmN c { s with word := qiR ws (wrG c s) } | some e => qmN c (qmO { s with word := qiR ws (wrG c s) } (some e)).1) cb ws bs := by
 obtain ⟨H1, hL, d1⟩ := qmQ (lo := lo) d hm hlo hlc hb
 have l4 : qav H none ⟨b, 0 + 4, none⟩ = some (.bool (decide ((ofR s.h c.S).2.2 ≠ 0))) := qin d.row rfl
 rw [decide_eq_false hst] at l4
 have hU := fun lo => qj5 lo H1 (qiR ws (wrG c s))
 unfold qmt
 rw [show qjj c (ofR s.h c.S).1 0 = wrG c s from rfl]
 generalize qiR ws (wrG c s) = w at hU d1 ⊢
 have k8 : qav H1 none ⟨b, 0 + 8, none⟩ = some (I w) := qin d1.row rfl
 have k3 : qav H1 none ⟨b, 0 + 3, none⟩ = some (I (ofR s.h c.S).2.1) := qin d1.row rfl
 cases hu : qjX w with
 | none =>
   rw [hu] at hU
   simp only [unV, Ent.zero, Ent.cs] at hU
   refine ⟨_, ?_, d1⟩
   refine qgx rfl Fn.zdR rfl rfl ?_
   repeat' first | refine .A ?_ | refine .B ?_ | refine .C ?_ | refine .D ?_ | refine .F ?_ | refine .G ?_ | refine .J ?_ | refine .t6 ?_ | refine .L l4 ?_ | refine .L k8 ?_ | refine .P hL ?_ | refine .P (hU _) ?_ | refine .Y ?_ | fail
   rfl
 | some e =>
   rw [hu] at hU
   obtain ⟨o, g, p, u, lk, lv⟩ := e
   simp only [unV, Ent.cs] at hU
   by_cases hf : lv = true ∧ g = (ofR s.h c.S).2.1
   ·have e1 : qms (ofR s.h c.S).2.1 (some ⟨o, g, p, u, lk, lv⟩) = some ⟨o, g, p, u, lk, lv⟩ := if_pos hf
    rw [e1]
    simp only [qmO]
    have hlv := hf.1
    have hg := hf.2
    subst hlv
    cases lk with
    | true =>
      rw [if_neg (by simp)]
      refine ⟨_, ?_, d1⟩
      refine qgx rfl Fn.zdR rfl rfl ?_
      repeat' first | refine .A ?_ | refine .B ?_ | refine .D ?_ | refine .F ?_ | refine .G ?_ | refine .H ?_ | refine .J ?_ | refine .C ?_ | refine .f6 ?_ | refine .L l4 ?_ | refine .L k8 ?_ | refine .L k3 ?_ | refine .P hL ?_ | refine .P (hU _) ?_ | refine .Y ?_ | fail
      rfl
    | false =>
      by_cases hu15 : u < 15
      ·rw [if_pos ⟨rfl, hu15⟩]
       refine ⟨_, ?_, d1.set hb⟩
       refine qgx rfl Fn.zdR rfl rfl ?_
       repeat' first | refine .A ?_ | refine .B ?_ | refine .C ?_ | refine .D ?_ | refine .F ?_ | refine .G ?_ | refine .H ?_ | refine .J ?_ | refine .t1 ?_ | refine .f6 ?_ | refine .L l4 ?_ | refine .L k8 ?_ | refine .L k3 ?_ | refine .P hL ?_ | refine .P (hU _) ?_ | refine .S (qip d1.row hlo (Nat.le_of_ble_eq_true rfl) rfl) ?_ | refine .S (qmM (qim d1.row) hlo (Nat.le_of_ble_eq_true rfl) rfl) ?_ | refine .Y ?_ | fail
       rfl
      ·rw [if_neg fun hh => hu15 hh.2]
       refine ⟨_, ?_, d1⟩
       refine qgx rfl Fn.zdR rfl rfl ?_
       repeat' first | refine .A ?_ | refine .B ?_ | refine .D ?_ | refine .F ?_ | refine .G ?_ | refine .H ?_ | refine .J ?_ | refine .C ?_ | refine .f1 ?_ | refine .f6 ?_ | refine .L l4 ?_ | refine .L k8 ?_ | refine .L k3 ?_ | refine .P hL ?_ | refine .P (hU _) ?_ | refine .Y ?_ | fail
       rfl
   ·have e1 : qms (ofR s.h c.S).2.1 (some ⟨o, g, p, u, lk, lv⟩) = none := if_neg hf
    rw [e1]
    refine ⟨_, ?_, d1⟩
    refine qgx rfl Fn.zdR rfl rfl ?_
    cases lv with
    | false =>
      repeat' first | refine .A ?_ | refine .B ?_ | refine .C ?_ | refine .D ?_ | refine .F ?_ | refine .G ?_ | refine .J ?_ | refine .f6 ?_ | refine .L l4 ?_ | refine .L k8 ?_ | refine .P hL ?_ | refine .P (hU _) ?_ | refine .Y ?_ | fail
      rfl
    | true =>
      have hg : ¬ g = (ofR s.h c.S).2.1 := fun h => hf ⟨rfl, h⟩
      repeat' first | refine .A ?_ | refine .B ?_ | refine .C ?_ | refine .D ?_ | refine .F ?_ | refine .G ?_ | refine .J ?_ | refine .t6 ?_ | refine .f6 ?_ | refine .L l4 ?_ | refine .L k8 ?_ | refine .L k3 ?_ | refine .P hL ?_ | refine .P (hU _) ?_ | refine .Y ?_ | fail
      rfl
theorem qmU (d : Did H H b (qmN c s) cb ws bs) (hm : c.may) (hlo : lo ≤ b) (hlc : lo ≤ cb.P ∧ lo ≤ cb.W) (hb : b ≠ cb.P ∧ b ≠ cb.W ∧ b ≠ cb.Y) :
  ∃ H', qfV En lo Id.zdO [qkb b, ifC cb] H = some (qag, H') ∧ Did H H' b (qmN c (if qi3 ws (wrG c s) s.word then { s with gd := true, nx := 3 } else { s with nx := 1 })) cb (if qi3 ws (wrG c s) s.word then qiS ws (wrG c s) (chE s.word (qk4 1)).1 else ws) bs := by
 have d0 := d.set (row' := qmN c { s with nx := 1 }) hb
 have s1 : stN lo H ⟨b, 0 + 7, none⟩ (qaf (I 1)) = some (H.set b (.row (qmN c { s with nx := 1 }) false)) := qip d.row hlo (Nat.le_of_ble_eq_true rfl) rfl
 generalize H.set b (.row (qmN c { s with nx := 1 }) false) = H0 at d0 s1
 have hG := fun lo => qld lo H0 s.word 1
 unfold qk5 at hG
 obtain ⟨H1, hW, d1⟩ := qmR (lo := lo) (Did.of d0.row d0.cells) hm hlo hlc hb (chE s.word (qk4 1)).1
 have hW : qfV En lo Id.zdS [qkb b, ifC cb, I (chE s.word (qk4 1)).1] H0 = some (.bool (qi3 ws (wrG c s) s.word), H1) := hW
 have d1 : Did H0 H1 b (qmN c { s with nx := 1 }) cb (if qi3 ws (wrG c s) s.word then qiS ws (wrG c s) (chE s.word (qk4 1)).1 else ws) bs := d1
 cases hcb : qi3 ws (wrG c s) s.word with
 | true =>
   rw [hcb] at hW d1
   refine ⟨_, ?_, (d0.then d1).set hb⟩
   refine qgx rfl Fn.zdO rfl rfl ?_
   repeat' first | refine .A ?_ | refine .B ?_ | refine .C ?_ | refine .nil rfl ?_ | refine .L (qin d0.row rfl) ?_ | refine .P (hG _) ?_ | refine .P hW ?_ | refine .S (qip d1.row hlo (Nat.le_of_ble_eq_true rfl) rfl) ?_ | refine .S (qmM (qim d1.row) hlo (Nat.le_of_ble_eq_true rfl) rfl) ?_ | refine .S s1 ?_ | refine .F ?_ | refine .Y ?_ | fail
   rfl
 | false =>
   rw [hcb] at hW d1
   refine ⟨_, ?_, d0.then d1⟩
   refine qgx rfl Fn.zdO rfl rfl ?_
   repeat' first | refine .A ?_ | refine .B ?_ | refine .D ?_ | refine .F ?_ | refine .nil rfl ?_ | refine .L (qin d0.row rfl) ?_ | refine .P (hG _) ?_ | refine .P hW ?_ | refine .S s1 ?_ | refine .Y ?_ | fail
   rfl
theorem qmV (d : Did H H b (qmN c s) cb ws bs) (hm : c.may) (hlo : lo ≤ b) (hlc : lo ≤ cb.P ∧ lo ≤ cb.W) (hb : b ≠ cb.P ∧ b ≠ cb.W ∧ b ≠ cb.Y) :
  ∃ H', qfV En lo Id.zdP [qkb b, ifC cb] H = some (.bool (decide ((chE s.word (qk4 (-1))).2 ≠ 0) || qi3 ws (wrG c s) s.word), H') ∧
   Did H H' b (qmN c (if (chE s.word (qk4 (-1))).2 ≠ 0 ∨ qi3 ws (wrG c s) s.word = true then s else { s with nx := 5 })) cb (if (chE s.word (qk4 (-1))).2 = 0 ∧ qi3 ws (wrG c s) s.word = true then qiS ws (wrG c s) (chE s.word (qk4 (-1))).1 else ws) bs := by
 have hG := fun lo => qld lo H s.word (-1)
 unfold qk5 at hG
 by_cases he : (chE s.word (qk4 (-1))).2 ≠ 0
 ·rw [decide_eq_true he, if_pos (.inl he), if_neg fun hh => he hh.1]
  refine ⟨_, ?_, d⟩
  refine qgx rfl Fn.zdP rfl rfl ?_
  repeat' first | refine .A ?_ | refine .B ?_ | refine .C ?_ | refine .J ?_ | refine .t6 ?_ | refine .L (qin d.row rfl) ?_ | refine .P (hG _) ?_ | refine .D ?_ | refine .F ?_ | refine .Y ?_ | fail
  rfl
 ·have he0 : (chE s.word (qk4 (-1))).2 = 0 := Decidable.not_not.1 he
  rw [decide_eq_false he, Bool.false_or]
  obtain ⟨H1, hW, d1⟩ := qmR (lo := lo) d hm hlo hlc hb (chE s.word (qk4 (-1))).1
  cases hcb : qi3 ws (wrG c s) s.word with
  | true =>
    rw [hcb] at hW d1
    rw [if_pos (.inr rfl), if_pos ⟨he0, rfl⟩]
    refine ⟨_, ?_, d1⟩
    refine qgx rfl Fn.zdP rfl rfl ?_
    repeat' first | refine .A ?_ | refine .B ?_ | refine .C ?_ | refine .J ?_ | refine .f6 ?_ | refine .L (qin d.row rfl) ?_ | refine .P (hG _) ?_ | refine .P hW ?_ | refine .F ?_ | refine .Y ?_ | fail
    rfl
  | false =>
    rw [hcb] at hW d1
    rw [if_neg (by simp [he0]), if_neg (by simp)]
    refine ⟨_, ?_, d1.set hb⟩
    refine qgx rfl Fn.zdP rfl rfl ?_
    repeat' first | refine .A ?_ | refine .B ?_ | refine .D ?_ | refine .F ?_ | refine .J ?_ | refine .f6 ?_ | refine .L (qin d.row rfl) ?_ | refine .P (hG _) ?_ | refine .P hW ?_ | refine .S (qip d1.row hlo (Nat.le_of_ble_eq_true rfl) rfl) ?_ | refine .Y ?_ | fail
    rfl

set_option maxHeartbeats 3200000 in
theorem qmW (hr : H[b]? = some (.row (qmN c s) false)) (hC : IsC H cb ws bs) (hb : b ≠ cb.P ∧ b ≠ cb.W ∧ b ≠ cb.Y) (hm : c.may) (hlo : lo ≤ b) (hlc : lo ≤ cb.P ∧ lo ≤ cb.W ∧ lo ≤ cb.Y) :
  ∃ H', qfV En lo Id.zdM [qkb b, ifC cb] H = some (qmr (wrS c s ws bs).2.2.2, H') ∧ Did H H' b (qmN c (wrS c s ws bs).1) cb (wrS c s ws bs).2.1 (wrS c s ws bs).2.2.1 := by
 have key : ∃ v H', qfV En lo Id.zdM [qkb b, ifC cb] H = some (v, H') ∧ v = qmr (wrS c s ws bs).2.2.2 ∧ Did H H' b (qmN c (wrS c s ws bs).1) cb (wrS c s ws bs).2.1 (wrS c s ws bs).2.2.1 := by
  refine qif rfl Fn.zdM rfl rfl ?_
  have d := Did.of hr hC
  have l7 : qav H none ⟨b, 0 + 7, none⟩ = some (I s.nx) := qin hr rfl
  unfold wrS
  by_cases h1 : s.nx = 1
  ·rw [if_pos h1]
   by_cases hst : (ofR s.h c.S).2.2 ≠ 0
   ·rw [if_pos hst]
    have l4 : qav H none ⟨b, 0 + 4, none⟩ = some (.bool (decide ((ofR s.h c.S).2.2 ≠ 0))) := qin hr rfl
    rw [decide_eq_true hst] at l4
    have hLk : qfV En lo Id.zdR [qkb b, ifC cb] H = some (.bool true, H) := by
     refine qgx rfl Fn.zdR rfl rfl ?_
     repeat' first | refine .A ?_ | refine .B ?_ | refine .C ?_ | refine .J ?_ | refine .L l4 ?_ | refine .F ?_ | refine .Y ?_ | fail
     rfl
    have hE := fun lo hl k => qmP (lo := lo) d hl k
    repeat' first | refine .A ?_ | refine .B ?_ | refine .C ?_ | refine .D ?_ | refine .F ?_ | refine .G ?_ | refine .J ?_ | refine .t5 ?_ | refine .f5 ?_ | refine .L l7 ?_ | refine .P hLk ?_ | refine .P (hE _ hlo _) ?_ | refine .Y ?_ | fail
    exact ⟨rfl, d.set hb⟩
   ·rw [if_neg hst]
    refine Exists.elim (qmT (lo := lo) d hm hlo hlc.1 hb hst) fun H1 hq => ?_
    have hL := hq.1
    have d1 := hq.2
    clear hq
    cases hf : qmt ws c (ofR s.h c.S).1 (ofR s.h c.S).2.1 with
    | none =>
      rw [hf] at hL d1
      simp only [qmS] at hL d1
      have hE := fun lo hl k => qmP (lo := lo) (Did.of d1.row d1.cells) hl k
      repeat' first | refine .A ?_ | refine .B ?_ | refine .C ?_ | refine .D ?_ | refine .F ?_ | refine .G ?_ | refine .J ?_ | refine .t5 ?_ | refine .f5 ?_ | refine .L l7 ?_ | refine .P hL ?_ | refine .P (hE _ hlo _) ?_ | refine .Y ?_ | fail
      exact ⟨rfl, d1.set hb⟩
    | some e =>
      rw [hf] at hL d1
      simp only [qmS] at hL d1
      have hout : (qmO { s with word := qiR ws (wrG c s) } (some e)).2 = none := by simp only [qmO]; split <;> rfl
      rw [hout]
      repeat' first | refine .A ?_ | refine .B ?_ | refine .C ?_ | refine .D ?_ | refine .F ?_ | refine .G ?_ | refine .H ?_ | refine .J ?_ | refine .t5 ?_ | refine .f5 ?_ | refine .L l7 ?_ | refine .P hL ?_ | refine .Y ?_ | fail
      exact ⟨rfl, d1⟩
  rw [if_neg h1]
  by_cases h2 : s.nx = 2
  ·rw [if_pos h2]
   refine Exists.elim (qmU (lo := lo) d hm hlo ⟨hlc.1, hlc.2.1⟩ hb) fun H1 hq => ?_
   have hL := hq.1
   have d1 := hq.2
   clear hq
   cases hcb : qi3 ws (wrG c s) s.word with
   | true =>
     rw [hcb] at d1
     repeat' first | refine .A ?_ | refine .B ?_ | refine .C ?_ | refine .D ?_ | refine .F ?_ | refine .G ?_ | refine .H ?_ | refine .J ?_ | refine .t5 ?_ | refine .f5 ?_ | refine .L l7 ?_ | refine .P hL ?_ | refine .Y ?_ | fail
     exact ⟨rfl, d1⟩
   | false =>
     rw [hcb] at d1
     repeat' first | refine .A ?_ | refine .B ?_ | refine .C ?_ | refine .D ?_ | refine .F ?_ | refine .G ?_ | refine .H ?_ | refine .J ?_ | refine .t5 ?_ | refine .f5 ?_ | refine .L l7 ?_ | refine .P hL ?_ | refine .Y ?_ | fail
     exact ⟨rfl, d1⟩
  rw [if_neg h2]
  by_cases h3 : s.nx = 3
  ·rw [if_pos h3]
   have d1 := d.set (row' := qmN c { s with nx := 4 }) hb
   have s1 : stN lo H ⟨b, 0 + 7, none⟩ (qaf (I 4)) = some (H.set b (.row (qmN c { s with nx := 4 }) false)) := qip d.row hlo (Nat.le_of_ble_eq_true rfl) rfl
   generalize H.set b (.row (qmN c { s with nx := 4 }) false) = H1 at d1 s1
   have hSz := fun lo => qjn lo H1 hm (ofR s.h c.S).1
   refine Exists.elim (qi1 d1.cells hlc.1 (qjj c (ofR s.h c.S).1 1)) fun H2 hq => ?_
   have hL := hq.1
   have d2 := d1.on hq.2.1 hq.2.2 (by simp) hb
   clear hq
   have k5 : qav H2 none ⟨b, 0 + 5, none⟩ = some (I s.off) := qin d2.row rfl
   generalize qiR ws (qjj c (ofR s.h c.S).1 1) = z at hL ⊢
   by_cases ho : s.off < 0 ∨ z ≤ s.off
   ·rw [if_pos ho]
    by_cases ho1 : s.off < 0
    ·repeat' first | refine .A ?_ | refine .B ?_ | refine .C ?_ | refine .D ?_ | refine .F ?_ | refine .G ?_ | refine .H ?_ | refine .J ?_ | refine .t1 ?_ | refine .t5 ?_ | refine .f5 ?_ | refine .L l7 ?_ | refine .L k5 ?_ | refine .L (qin d1.row rfl) ?_ | refine .L (qio d1.row (Nat.le_of_ble_eq_true rfl) rfl) ?_ | refine .P (hSz _) ?_ | refine .W hL ?_ | refine .S (qip d2.row hlo (Nat.le_of_ble_eq_true rfl) rfl) ?_ | refine .S (qmM (qim d2.row) hlo (Nat.le_of_ble_eq_true rfl) rfl) ?_ | refine .S s1 ?_ | refine .Y ?_ | fail
     exact ⟨rfl, d2.set hb⟩
    ·repeat' first | refine .A ?_ | refine .B ?_ | refine .C ?_ | refine .D ?_ | refine .F ?_ | refine .G ?_ | refine .H ?_ | refine .J ?_ | refine .f1 ?_ | refine .t4 ?_ | refine .t5 ?_ | refine .f5 ?_ | refine .L l7 ?_ | refine .L k5 ?_ | refine .L (qin d1.row rfl) ?_ | refine .L (qio d1.row (Nat.le_of_ble_eq_true rfl) rfl) ?_ | refine .P (hSz _) ?_ | refine .W hL ?_ | refine .S (qip d2.row hlo (Nat.le_of_ble_eq_true rfl) rfl) ?_ | refine .S (qmM (qim d2.row) hlo (Nat.le_of_ble_eq_true rfl) rfl) ?_ | refine .S s1 ?_ | refine .Y ?_ | fail
     exact ⟨rfl, d2.set hb⟩
   ·rw [if_neg ho]
    repeat' first | refine .A ?_ | refine .B ?_ | refine .C ?_ | refine .D ?_ | refine .F ?_ | refine .G ?_ | refine .H ?_ | refine .J ?_ | refine .f1 ?_ | refine .f4 ?_ | refine .t5 ?_ | refine .f5 ?_ | refine .L l7 ?_ | refine .L k5 ?_ | refine .L (qin d1.row rfl) ?_ | refine .L (qio d1.row (Nat.le_of_ble_eq_true rfl) rfl) ?_ | refine .P (hSz _) ?_ | refine .W hL ?_ | refine .S s1 ?_ | refine .Y ?_ | fail
    exact ⟨rfl, d2⟩
  rw [if_neg h3]
  by_cases h4 : s.nx = 4
  ·rw [if_pos h4]
   refine Exists.elim (qi6 hC hlc.1 hlc.2.2 (IntKind.i64.wrap (s.o + s.off)) s.v) fun H1 hq => ?_
   have hL := hq.1
   have d1 := d.on hq.2.1 hq.2.2 (by simp) hb
   clear hq
   repeat' first | refine .A ?_ | refine .B ?_ | refine .C ?_ | refine .D ?_ | refine .F ?_ | refine .G ?_ | refine .H ?_ | refine .J ?_ | refine .t5 ?_ | refine .f5 ?_ | refine .L l7 ?_ | refine .L (qin d.row rfl) ?_ | refine .W hL ?_ | refine .S (qip d1.row hlo (Nat.le_of_ble_eq_true rfl) rfl) ?_ | refine .Y ?_ | fail
   exact ⟨rfl, d1.set hb⟩
  rw [if_neg h4]
  by_cases h5 : s.nx = 5
  ·rw [if_pos h5]
   refine Exists.elim (qmQ (lo := lo) d hm hlo hlc.1 hb) fun H1 hq => ?_
   have hL := hq.1
   have d1 := hq.2
   clear hq
   repeat' first | refine .A ?_ | refine .B ?_ | refine .C ?_ | refine .D ?_ | refine .F ?_ | refine .G ?_ | refine .H ?_ | refine .J ?_ | refine .t5 ?_ | refine .f5 ?_ | refine .L l7 ?_ | refine .P hL ?_ | refine .S (qip d1.row hlo (Nat.le_of_ble_eq_true rfl) rfl) ?_ | refine .Y ?_ | fail
   exact ⟨rfl, d1.set hb⟩
  rw [if_neg h5]
  by_cases h6 : s.nx = 6
  ·rw [if_pos h6]
   refine Exists.elim (qmV (lo := lo) d hm hlo ⟨hlc.1, hlc.2.1⟩ hb) fun H1 hq => ?_
   have hL := hq.1
   have d1 := hq.2
   clear hq
   by_cases he : (chE s.word (qk4 (-1))).2 ≠ 0
   ·rw [if_pos he]
    rw [decide_eq_true he, Bool.true_or] at hL
    rw [if_pos (.inl he), if_neg fun hh => he hh.1] at d1
    have hE := fun lo hl k => qmP (lo := lo) (Did.of d1.row d1.cells) hl k
    repeat' first | refine .A ?_ | refine .B ?_ | refine .C ?_ | refine .D ?_ | refine .F ?_ | refine .G ?_ | refine .J ?_ | refine .t5 ?_ | refine .f5 ?_ | refine .L l7 ?_ | refine .L (qin d1.row rfl) ?_ | refine .P hL ?_ | refine .P (hE _ hlo _) ?_ | refine .Y ?_ | fail
    exact ⟨rfl, d1.set hb⟩
   ·rw [if_neg he]
    have he0 : (chE s.word (qk4 (-1))).2 = 0 := Decidable.not_not.1 he
    rw [decide_eq_false he, Bool.false_or] at hL
    cases hcb : qi3 ws (wrG c s) s.word with
    | true =>
      rw [hcb] at hL d1
      rw [if_pos (.inr rfl), if_pos ⟨he0, rfl⟩] at d1
      have hE := fun lo hl k => qmP (lo := lo) (Did.of d1.row d1.cells) hl k
      repeat' first | refine .A ?_ | refine .B ?_ | refine .C ?_ | refine .D ?_ | refine .F ?_ | refine .G ?_ | refine .J ?_ | refine .t5 ?_ | refine .f5 ?_ | refine .L l7 ?_ | refine .L (qin d1.row rfl) ?_ | refine .P hL ?_ | refine .P (hE _ hlo _) ?_ | refine .Y ?_ | fail
      exact ⟨rfl, d1.set hb⟩
    | false =>
      rw [hcb] at hL d1
      rw [if_neg (by simp [he0]), if_neg (by simp)] at d1
      repeat' first | refine .A ?_ | refine .B ?_ | refine .C ?_ | refine .D ?_ | refine .F ?_ | refine .G ?_ | refine .H ?_ | refine .J ?_ | refine .t5 ?_ | refine .f5 ?_ | refine .L l7 ?_ | refine .P hL ?_ | refine .Y ?_ | fail
      exact ⟨rfl, d1⟩
  rw [if_neg h6]
  by_cases h0 : s.nx = 0
  ·rw [if_pos h0]
   repeat' first | refine .A ?_ | refine .B ?_ | refine .C ?_ | refine .J ?_ | refine .t5 ?_ | refine .L l7 ?_ | refine .F ?_ | refine .Y ?_ | fail
   exact ⟨rfl, d⟩
  ·rw [if_neg h0]
   repeat' first | refine .A ?_ | refine .B ?_ | refine .D ?_ | refine .F ?_ | refine .G ?_ | refine .H ?_ | refine .J ?_ | refine .f5 ?_ | refine .L l7 ?_ | refine .Y ?_ | fail
   exact ⟨rfl, d⟩
 obtain ⟨v, H', h1, rfl, h2⟩ := key
 exact ⟨H', h1, h2⟩
end
end Go.Proofs.YtnfcohmbcgfhbaaGreat

/- A byte written, step by step: by the document. -/
namespace Go.Proofs.YtnfcohmbcgfhbaaGreat
open Go Go.Ir

theorem qmX {E : Env} {lo : Nat} {os : List IOper} {f : Fr} {h : qab} {hs : List qab} {k : List Ir.Item} {rs : List qak} {Q : Value → qab → Prop} {d : Nat} {g : Option (Nat × Bool)} {x y : Operand} {a b r : Int} (hr : a.tmod b = r)
  (hw : want g f = some true) (hx : ev f x = some (I a)) (hy : ev f y = some (I b)) (hb : b ≠ 0) (c : EG E lo os hs k ((d, I r) :: f) h rs Q) :
  EG E lo (⟨some d, .bin .rem x y, g, 0⟩ :: os) hs k f h rs Q := .go hw (by
   simp only [iop, hx, hy, qar, qaq, qan, if_true, if_neg hb, hr]
   rfl) rfl c
theorem qmY (n : Int) : qiU n = n % 256 := by
 unfold qiU IntKind.wrap
 simp only [IntKind.bits, IntKind.signed, Bool.false_and]
 rw [if_neg (by decide)]
 omega
theorem qmZ (n : Int) : ∃ r1, n.tmod 256 = r1 ∧ -256 < r1 ∧ r1 < 256 ∧ (r1 + 256).tmod 256 = qiU n := by
 refine ⟨_, rfl, ?_⟩
 by_cases h : 0 ≤ n
 ·rw [Int.tmod_eq_emod_of_nonneg h, Int.tmod_eq_emod_of_nonneg (by omega), qmY]; omega
 ·refine Exists.elim (show ∃ m : Int, n = -m ∧ 0 ≤ m from ⟨-n, by omega, by omega⟩) fun m hm => ?_
  rw [hm.1, Int.neg_tmod, Int.tmod_eq_emod_of_nonneg hm.2, Int.tmod_eq_emod_of_nonneg (by omega), qmY]; omega

section
variable {lo : Nat} {H : qab} {c : CB} {ws bs : List Int}
theorem qm0 (hC : IsR H c ws bs) (hlo : lo ≤ c.P) (hly : lo ≤ c.Y) (i n : Int) : ∃ H', qfV En lo Id.zct [qiX c, I i, I n] H = some (qag, H') ∧ IsR H' c ws (qiS bs i (qiU n)) ∧ Only [c.P, c.Y] H H' := by
 obtain ⟨st, l2, H1, hs, hC1, ho⟩ := hC.tick hlo
 have l1 := hC1.p1
 unfold qiS
 by_cases h0 : i < 0
 ·rw [if_neg (by omega)]
  refine ⟨H1, ?_, hC1, ho.mono (by simp)⟩
  refine qgx rfl Fn.zct rfl rfl ?_
  repeat' first | refine .A ?_ | refine .B ?_ | refine .D ?_ | refine .F ?_ | refine .nil rfl ?_ | refine .f4 ?_ | refine .L l2 ?_ | refine .S hs ?_ | refine .Y ?_ | fail
  rfl
 ·obtain ⟨k, rfl⟩ : ∃ k : Nat, i = k := ⟨i.toNat, by omega⟩
  by_cases h1 : k < bs.length
  ·obtain ⟨r1, q1, q2, q3, q4⟩ := qmZ n
   have qa : IntKind.i64.wrap (r1 + 256) = r1 + 256 := qiI (by omega) (by omega)
   have hw := hC1.set_y (lo := lo) h1 (qiU n) (qiV n) hly
   have hw1 := hw.1
   rw [if_pos ⟨by omega, by omega⟩, Int.toNat_natCast]
   refine ⟨_, ?_, hw.2.1, (ho.mono (by simp)).trans (hw.2.2.mono (by simp))⟩
   refine qgx rfl Fn.zct rfl rfl ?_
   repeat' first | refine .A ?_ | refine .B ?_ | refine .C ?_ | refine .nil rfl ?_ | (show EG _ _ (⟨_, .bin _ _ _, _, _⟩ :: _) _ _ _ _ _ _; first | refine qmX (a := n) (b := 256) q1 rfl rfl rfl (by decide) ?_ | refine qlT (a := r1) (b := 256) qa rfl rfl rfl ?_ | refine qmX (a := r1 + 256) (b := 256) q4 rfl rfl rfl (by decide) ?_ | refine .t1 ?_ | refine .t4 ?_) | refine .L l2 ?_ | refine .L l1 ?_ | refine .R h1 ?_ | refine .S hs ?_ | refine .S hw1 ?_ | refine .F ?_ | refine .Y ?_ | fail
   rfl
  ·rw [if_neg (by omega)]
   refine ⟨H1, ?_, hC1, ho.mono (by simp)⟩
   refine qgx rfl Fn.zct rfl rfl ?_
   repeat' first | refine .A ?_ | refine .B ?_ | refine .D ?_ | refine .F ?_ | refine .nil rfl ?_ | refine .f1 ?_ | refine .t4 ?_ | refine .L l2 ?_ | refine .L l1 ?_ | refine .S hs ?_ | refine .Y ?_ | fail
   rfl
end

theorem qm1 {h S : Int} (h0 : (ofR h S).2.2 = 0) : 0 ≤ (ofR h S).1 ∧ (ofR h S).1 < S ∧ (ofR h S).1 < 64 ∧ 0 ≤ (ofR h S).2.1 ∧ (ofR h S).2.1 ≤ 1000 := by
 unfold ofR at h0 ⊢
 cases hu : qlX h with
 | none => rw [hu] at h0; cases h0
 | some p =>
   obtain ⟨s, g⟩ := p
   have := qlZ hu
   rw [hu] at h0
   simp only [ofO] at h0 ⊢
   by_cases hs : S ≤ (s : Int)
   ·rw [if_pos hs] at h0; cases h0
   ·rw [if_neg hs]; simp only; omega

def qm2 (c : Cfg) (s : Wr) (e : Ent) : List Value :=
 [I c.A, I c.S, I c.T, I s.h, I s.off, I s.v, I s.nx, I s.word, I e.o, I e.g, I e.p, I e.u, .bool e.lk, .bool e.lv, I s.cd, .bool s.gd]
structure WrI (c : Cfg) (s : Wr) (e : Ent) : Prop where
 eo : e.o = s.o
 nx : 0 ≤ s.nx ∧ s.nx ≤ 6
 st : 1 < s.nx → (ofR s.h c.S).2.2 = 0

section
variable {lo : Nat} {H : qab} {b : Nat} {c : Cfg} {s : Wr} {e : Ent} {cb : CB} {ws bs : List Int}

theorem DidR.on {H1 H2 : qab} {row : List Value} {ws1 bs1 ws' bs' : List Int} {S : List Nat} (d : DidR H H1 b row cb ws1 bs1) (hC : IsR H2 cb ws' bs') (o : Only S H1 H2) (hS : ∀ i ∈ S, i ∈ [cb.P, cb.W, cb.Y]) (hb : b ≠ cb.P ∧ b ≠ cb.W ∧ b ≠ cb.Y) : DidR H H2 b row cb ws' bs' :=
 ⟨(Chg.of o).get d.row fun h => by have := hS _ h; simp at this; omega, hC, d.chg.trans ((Chg.of o).mono fun i hi => List.mem_cons_of_mem _ (hS i hi))⟩
theorem DidR.then {H1 H2 : qab} {row row' : List Value} {ws1 bs1 ws' bs' : List Int} (d : DidR H H1 b row cb ws1 bs1) (d2 : DidR H1 H2 b row' cb ws' bs') : DidR H H2 b row' cb ws' bs' := ⟨d2.row, d2.cells, d.chg.trans d2.chg⟩

theorem qm3 (d : DidR H H b (qm2 c s e) cb ws bs) (hlo : lo ≤ b) (k : Int) : qfV En lo Id.zda [qkb b, I k] H = some (qmr none, H.set b (.row (qm2 c { s with nx := k } e) false)) := by
 refine qgx rfl Fn.zda rfl rfl ?_
 repeat' first | refine .A ?_ | refine .B ?_ | refine .J ?_ | refine .S (qip d.row hlo (Nat.le_of_ble_eq_true rfl) rfl) ?_ | refine .F ?_ | refine .Y ?_ | fail
 rfl
theorem qm4 (d : DidR H H b (qm2 c s e) cb ws bs) (hlo : lo ≤ b) (k : Int) : qfV En lo Id.zcY [qkb b, I k] H = some (qmr (some (k, 0)), H.set b (.row (qm2 c { s with nx := 0, gd := false } e) false)) := by
 refine qgx rfl Fn.zcY rfl rfl ?_
 repeat' first | refine .A ?_ | refine .B ?_ | refine .J ?_ | refine .S (qip d.row hlo (Nat.le_of_ble_eq_true rfl) rfl) ?_ | refine .S (qmM (qim d.row) hlo (Nat.le_of_ble_eq_true rfl) rfl) ?_ | refine .F ?_ | refine .Y ?_ | fail
 rfl

set_option maxHeartbeats 1600000 in
theorem qm5 (d : DidR H H b (qm2 c s e) cb ws bs) (hb : b ≠ cb.P ∧ b ≠ cb.W ∧ b ≠ cb.Y) (hlo : lo ≤ b) (hlc : lo ≤ cb.P) (he : e.o = s.o) (h1 : s.nx = 1) (hfr : qmt ws c (ofR s.h c.S).1 (ofR s.h c.S).2.1 = qms (ofR s.h c.S).2.1 (qjX (qiR ws (wrG c s)))) :
  ∃ e' H', qfV En lo Id.zdb [qkb b, qiX cb, I (wrG c s), I (ofR s.h c.S).2.1] H = some (qmr (qmO { s with word := qiR ws (wrG c s) } (qmt ws c (ofR s.h c.S).1 (ofR s.h c.S).2.1)).2, H') ∧
   DidR H H' b (qm2 c (qmO { s with word := qiR ws (wrG c s) } (qmt ws c (ofR s.h c.S).1 (ofR s.h c.S).2.1)).1 e') cb ws bs ∧ e'.o = (qmO { s with word := qiR ws (wrG c s) } (qmt ws c (ofR s.h c.S).1 (ofR s.h c.S).2.1)).1.o := by
 rw [hfr]
 have l6 : qav H none ⟨b, 0 + 6, none⟩ = some (I s.nx) := qin d.row rfl
 obtain ⟨H1, hL, hC1, ho1⟩ := qlq d.cells hlc (wrG c s)
 have d1 := d.on hC1 ho1 (by simp) hb
 generalize wrG c s = at0 at hL ⊢
 generalize qiR ws at0 = w at hL ⊢
 have d2 := d1.put (row' := qm2 c { s with word := w } e) hb
 have s2 : stN lo H1 ⟨b, 0 + 7, none⟩ (qaf (I w)) = some (H1.set b (.row (qm2 c { s with word := w } e) false)) := qip d1.row hlo (Nat.le_of_ble_eq_true rfl) rfl
 generalize H1.set b (.row (qm2 c { s with word := w } e) false) = H2 at d2 s2
 have k7 : qav H2 none ⟨b, 0 + 7, none⟩ = some (I w) := qin d2.row rfl
 have hF := fun lo => qmE lo H2 w (ofR s.h c.S).2.1
 have hE := fun lo hl k => qm4 (lo := lo) (DidR.of d2.row d2.cells) hl k
 have hO := fun lo hl k => qm3 (lo := lo) (DidR.of d2.row d2.cells) hl k
 cases hf : qms (ofR s.h c.S).2.1 (qjX w) with
 | none =>
   obtain ⟨e1, he1⟩ := qmA hf
   rw [he1] at hF
   simp only [Ent.cs] at hF
   refine ⟨e, _, ?_, d2.put hb, he⟩
   refine qgx rfl Fn.zdb rfl rfl ?_
   repeat' first | refine .A ?_ | refine .B ?_ | refine .C ?_ | refine .J ?_ | refine .t5 ?_ | refine .L l6 ?_ | refine .L k7 ?_ | refine .P hL ?_ | refine .P (hF _) ?_ | refine .P (hE _ hlo _) ?_ | refine .S s2 ?_ | refine .F ?_ | refine .Y ?_ | fail
   rfl
 | some e1 =>
   rw [qmB hf] at hF
   have hum : 0 ≤ e1.u ∧ e1.u ≤ 15 := by
    cases hu : qjX w with
    | none => rw [hu] at hf; cases hf
    | some e2 =>
      rw [hu] at hf
      simp only [qms] at hf
      split at hf
      ·injection hf with hf
       subst hf
       have := qmk hu
       unfold Ent.may at this
       omega
      ·cases hf
   obtain ⟨o, g, p, u, lk, lv⟩ := e1
   simp only [Ent.cs] at hF
   simp only at hum
   simp only [qmO]
   cases lk with
   | true =>
     rw [if_neg (by simp)]
     refine ⟨e, _, ?_, d2.put (row' := qm2 c { s with word := w, nx := 1 } e) hb |> fun d => by rw [show ({ s with word := w } : Wr) = { s with word := w, nx := 1 } by rw [← h1]]; exact d, he⟩
     refine qgx rfl Fn.zdb rfl rfl ?_
     repeat' first | refine .A ?_ | refine .B ?_ | refine .C ?_ | refine .D ?_ | refine .F ?_ | refine .J ?_ | refine .t5 ?_ | refine .L l6 ?_ | refine .L k7 ?_ | refine .P hL ?_ | refine .P (hF _) ?_ | refine .P (hO _ hlo _) ?_ | refine .S s2 ?_ | refine .Y ?_ | fail
     rfl
   | false =>
     by_cases hu : u < 15
     ·rw [if_pos ⟨rfl, hu⟩]
      have d3 := d2.put (row' := qm2 c { s with word := w } ⟨o, g, p, u, false, lv⟩) hb
      have s3 : stN lo H2 ⟨b, 0 + 8, none⟩ (qaf (.agg #[I o, I g, I p, I u, .bool false, .bool lv])) = some (H2.set b (.row (qm2 c { s with word := w } ⟨o, g, p, u, false, lv⟩) false)) := qip d2.row hlo (Nat.le_of_ble_eq_true rfl) rfl
      generalize H2.set b (.row (qm2 c { s with word := w } ⟨o, g, p, u, false, lv⟩) false) = H3 at d3 s3
      have d3' : DidR H H3 b (qm2 c { s with word := w, o := o } ⟨o, g, p, u, false, lv⟩) cb ws bs := d3
      have hO3 := fun lo hl k => qm3 (lo := lo) (DidR.of d3'.row d3'.cells) hl k
      refine ⟨⟨o, g, p, u, false, lv⟩, _, ?_, d3'.put hb, rfl⟩
      refine qgx rfl Fn.zdb rfl rfl ?_
      repeat' first | refine .A ?_ | refine .B ?_ | refine .C ?_ | refine .D ?_ | refine .F ?_ | refine .J ?_ | refine .t5 ?_ | refine .f5 ?_ | refine .L l6 ?_ | refine .L k7 ?_ | refine .P hL ?_ | refine .P (hF _) ?_ | refine .P (hO3 _ hlo _) ?_ | refine .S s2 ?_ | refine .S s3 ?_ | refine .Y ?_ | fail
      rfl
     ·rw [if_neg fun hh => hu hh.2]
      refine ⟨e, _, ?_, d2.put (row' := qm2 c { s with word := w, nx := 1 } e) hb |> fun d => by rw [show ({ s with word := w } : Wr) = { s with word := w, nx := 1 } by rw [← h1]]; exact d, he⟩
      refine qgx rfl Fn.zdb rfl rfl ?_
      repeat' first | refine .A ?_ | refine .B ?_ | refine .C ?_ | refine .D ?_ | refine .F ?_ | refine .J ?_ | refine .t5 ?_ | refine .L l6 ?_ | refine .L k7 ?_ | refine .P hL ?_ | refine .P (hF _) ?_ | refine .P (hO _ hlo _) ?_ | refine .S s2 ?_ | refine .Y ?_ | fail
      rfl

set_option maxHeartbeats 1600000 in
theorem qm6 (d : DidR H H b (qm2 c s e) cb ws bs) (hb : b ≠ cb.P ∧ b ≠ cb.W ∧ b ≠ cb.Y) (hlo : lo ≤ b) (hlc : lo ≤ cb.P ∧ lo ≤ cb.W) (g : Int) (h2 : s.nx = 2) :
  ∃ H', qfV En lo Id.zdb [qkb b, qiX cb, I (wrG c s), I g] H = some (qmr none, H') ∧ DidR H H' b (qm2 c (if qi3 ws (wrG c s) s.word then { s with gd := true, nx := 3 } else { s with nx := 1 }) e) cb (if qi3 ws (wrG c s) s.word then qiS ws (wrG c s) (chE s.word (qk4 1)).1 else ws) bs := by
 have l6 : qav H none ⟨b, 0 + 6, none⟩ = some (I s.nx) := qin d.row rfl
 have hG := fun lo => qme lo H s.word 1
 unfold qk5 at hG
 obtain ⟨H1, hL, hC1, ho1⟩ := qlt d.cells hlc.1 hlc.2 (wrG c s) s.word (chE s.word (qk4 1)).1
 have d1 := d.on hC1 ho1 (by simp) hb
 cases hcb : qi3 ws (wrG c s) s.word with
 | true =>
   rw [hcb] at hL d1
   have d2 := d1.put (row' := qm2 c { s with gd := true } e) hb
   have s2 : stN lo H1 ⟨b, 0 + 15, none⟩ (qaf (.bool true)) = some (H1.set b (.row (qm2 c { s with gd := true } e) false)) := qip d1.row hlo (Nat.le_of_ble_eq_true rfl) rfl
   generalize H1.set b (.row (qm2 c { s with gd := true } e) false) = H2 at d2 s2
   have hO := fun lo hl k => qm3 (lo := lo) (DidR.of d2.row d2.cells) hl k
   refine ⟨_, ?_, d2.put hb⟩
   refine qgx rfl Fn.zdb rfl rfl ?_
   repeat' first | refine .A ?_ | refine .B ?_ | refine .D ?_ | refine .F ?_ | refine .J ?_ | refine .f5 ?_ | refine .L l6 ?_ | refine .L (qin d.row rfl) ?_ | refine .P (hG _) ?_ | refine .P hL ?_ | refine .P (hO _ hlo _) ?_ | refine .S s2 ?_ | refine .Y ?_ | fail
   rfl
 | false =>
   rw [hcb] at hL d1
   have hO := fun lo hl k => qm3 (lo := lo) (DidR.of d1.row d1.cells) hl k
   refine ⟨_, ?_, d1.put hb⟩
   refine qgx rfl Fn.zdb rfl rfl ?_
   repeat' first | refine .A ?_ | refine .B ?_ | refine .C ?_ | refine .D ?_ | refine .F ?_ | refine .J ?_ | refine .f5 ?_ | refine .L l6 ?_ | refine .L (qin d.row rfl) ?_ | refine .P (hG _) ?_ | refine .P hL ?_ | refine .P (hO _ hlo _) ?_ | refine .Y ?_ | fail
   rfl

set_option maxHeartbeats 1600000 in
theorem qm7 (d : DidR H H b (qm2 c s e) cb ws bs) (hb : b ≠ cb.P ∧ b ≠ cb.W ∧ b ≠ cb.Y) (hlo : lo ≤ b) (hlc : lo ≤ cb.P ∧ lo ≤ cb.W) (h56 : s.nx = 5 ∨ s.nx = 6) :
  ∃ H', qfV En lo Id.zcZ [qkb b, qiX cb, I (wrG c s)] H = some (qmr (wrS c s ws bs).2.2.2, H') ∧ DidR H H' b (qm2 c (wrS c s ws bs).1 e) cb (wrS c s ws bs).2.1 (wrS c s ws bs).2.2.1 := by
 have l6 : qav H none ⟨b, 0 + 6, none⟩ = some (I s.nx) := qin d.row rfl
 unfold wrS
 rw [if_neg (by omega), if_neg (by omega), if_neg (by omega), if_neg (by omega)]
 by_cases h5 : s.nx = 5
 ·rw [if_pos h5]
  obtain ⟨H1, hL, hC1, ho1⟩ := qlq d.cells hlc.1 (wrG c s)
  have d1 := d.on hC1 ho1 (by simp) hb
  generalize qiR ws (wrG c s) = w at hL ⊢
  have d2 := d1.put (row' := qm2 c { s with word := w } e) hb
  have s2 : stN lo H1 ⟨b, 0 + 7, none⟩ (qaf (I w)) = some (H1.set b (.row (qm2 c { s with word := w } e) false)) := qip d1.row hlo (Nat.le_of_ble_eq_true rfl) rfl
  generalize H1.set b (.row (qm2 c { s with word := w } e) false) = H2 at d2 s2
  have hO := fun lo hl k => qm3 (lo := lo) (DidR.of d2.row d2.cells) hl k
  refine ⟨_, ?_, d2.put hb⟩
  refine qgx rfl Fn.zcZ rfl rfl ?_
  repeat' first | refine .A ?_ | refine .B ?_ | refine .C ?_ | refine .J ?_ | refine .t5 ?_ | refine .L l6 ?_ | refine .P hL ?_ | refine .P (hO _ hlo _) ?_ | refine .S s2 ?_ | refine .F ?_ | refine .Y ?_ | fail
  rfl
 ·rw [if_neg h5, if_pos (by omega)]
  have hG := fun lo => qme lo H s.word (-1)
  unfold qk5 at hG
  have hE0 := fun lo hl k => qm4 (lo := lo) d hl k
  by_cases he : (chE s.word (qk4 (-1))).2 ≠ 0
  ·rw [if_pos he]
   refine ⟨_, ?_, d.put hb⟩
   refine qgx rfl Fn.zcZ rfl rfl ?_
   repeat' first | refine .A ?_ | refine .B ?_ | refine .C ?_ | refine .D ?_ | refine .F ?_ | refine .J ?_ | refine .f5 ?_ | refine .t6 ?_ | refine .L l6 ?_ | refine .L (qin d.row rfl) ?_ | refine .P (hG _) ?_ | refine .P (hE0 _ hlo _) ?_ | refine .Y ?_ | fail
   rfl
  ·rw [if_neg he]
   obtain ⟨H1, hL, hC1, ho1⟩ := qlt d.cells hlc.1 hlc.2 (wrG c s) s.word (chE s.word (qk4 (-1))).1
   have d1 := d.on hC1 ho1 (by simp) hb
   cases hcb : qi3 ws (wrG c s) s.word with
   | true =>
     rw [hcb] at hL d1
     have hE := fun lo hl k => qm4 (lo := lo) (DidR.of d1.row d1.cells) hl k
     refine ⟨_, ?_, d1.put hb⟩
     refine qgx rfl Fn.zcZ rfl rfl ?_
     repeat' first | refine .A ?_ | refine .B ?_ | refine .D ?_ | refine .F ?_ | refine .J ?_ | refine .f5 ?_ | refine .f6 ?_ | refine .L l6 ?_ | refine .L (qin d.row rfl) ?_ | refine .L (qin d1.row rfl) ?_ | refine .P (hG _) ?_ | refine .P hL ?_ | refine .P (hE _ hlo _) ?_ | refine .Y ?_ | fail
     rfl
   | false =>
     rw [hcb] at hL d1
     have hO := fun lo hl k => qm3 (lo := lo) (DidR.of d1.row d1.cells) hl k
     refine ⟨_, ?_, d1.put hb⟩
     refine qgx rfl Fn.zcZ rfl rfl ?_
     repeat' first | refine .A ?_ | refine .B ?_ | refine .C ?_ | refine .D ?_ | refine .F ?_ | refine .J ?_ | refine .f5 ?_ | refine .f6 ?_ | refine .L l6 ?_ | refine .L (qin d.row rfl) ?_ | refine .P (hG _) ?_ | refine .P hL ?_ | refine .P (hO _ hlo _) ?_ | refine .Y ?_ | fail
     rfl

theorem qm8 (s : Wr) (o : Option Ent) : ((qmO s o).1.nx = 0 ∨ (qmO s o).1.nx = s.nx ∨ (qmO s o).1.nx = 2) ∧ (qmO s o).1.h = s.h := by
 unfold qmO
 cases o with
 | none => exact ⟨.inl rfl, rfl⟩
 | some e => simp only; split <;> simp

set_option maxHeartbeats 3200000 in
theorem qm9 (hr : H[b]? = some (.row (qm2 c s e) false)) (hI : WrI c s e) (hC : IsR H cb ws bs) (hb : b ≠ cb.P ∧ b ≠ cb.W ∧ b ≠ cb.Y) (hm : c.may) (hh : -9223372036854775808 ≤ s.h ∧ s.h < 9223372036854775808) (hlo : lo ≤ b) (hlc : lo ≤ cb.P ∧ lo ≤ cb.W ∧ lo ≤ cb.Y) :
  ∃ e' H', qfV En lo Id.zcX [qkb b, qiX cb] H = some (qmr (wrS c s ws bs).2.2.2, H') ∧ DidR H H' b (qm2 c (wrS c s ws bs).1 e') cb (wrS c s ws bs).2.1 (wrS c s ws bs).2.2.1 ∧ WrI c (wrS c s ws bs).1 e' := by
 have d := DidR.of hr hC
 have l6 : qav H none ⟨b, 0 + 6, none⟩ = some (I s.nx) := qin hr rfl
 have l01 : qav H none ⟨b, 0 + 0 + 1, none⟩ = some (I c.S) := qin hr rfl
 have hOf := fun lo => ql5 lo H hh c.S
 unfold ofV at hOf
 have hE := fun lo hl k => qm4 (lo := lo) d hl k
 have hnx := hI.nx
 have hA : ∀ lo, qfV En lo Id.zcv [.agg #[I c.A, I c.S, I c.T], I 5, I (ofR s.h c.S).1] H = some (I (wrG c s), H) := fun lo => qlw lo H hm _ (j := 0) (by omega)
 by_cases h0 : s.nx = 0
 ·have e0 : wrS c s ws bs = (s, ws, bs, some (1, 0)) := by unfold wrS; rw [if_neg (by omega), if_neg (by omega), if_neg (by omega), if_neg (by omega), if_neg (by omega), if_neg (by omega), if_pos h0]
  rw [e0]
  refine ⟨e, H, ?_, d, hI⟩
  refine qgx rfl Fn.zcX rfl rfl ?_
  repeat' first | refine .A ?_ | refine .B ?_ | refine .C ?_ | refine .J ?_ | refine .t5 ?_ | refine .L l6 ?_ | refine .F ?_ | refine .Y ?_ | fail
  rfl
 by_cases hst : (ofR s.h c.S).2.2 ≠ 0
 ·have h1 : s.nx = 1 := by
   by_cases h : s.nx = 1
   ·exact h
   ·exact absurd (hI.st (by omega)) hst
  have e0 : wrS c s ws bs = ({ s with nx := 0, gd := false }, ws, bs, some (4, 0)) := by unfold wrS; rw [if_pos h1, if_pos hst]
  rw [e0]
  refine ⟨e, _, ?_, d.put hb, ⟨hI.eo, ⟨by simp, by simp⟩, fun h => by simp at h⟩⟩
  refine qgx rfl Fn.zcX rfl rfl ?_
  repeat' first | refine .A ?_ | refine .B ?_ | refine .C ?_ | refine .D ?_ | refine .F ?_ | refine .J ?_ | refine .f5 ?_ | refine .t6 ?_ | refine .L l6 ?_ | refine .L l01 ?_ | refine .L (qin d.row rfl) ?_ | refine .P (hOf _) ?_ | refine .P (hE _ hlo _) ?_ | refine .Y ?_ | fail
  rfl
 have hst0 : (ofR s.h c.S).2.2 = 0 := Decidable.not_not.1 hst
 by_cases h1 : s.nx = 1
 ·obtain ⟨e', H', hF, d1, heo⟩ := qm5 (lo := lo) d hb hlo hlc.1 hI.eo h1 rfl
  have hcs := qm8 { s with word := qiR ws (wrG c s) } (qmt ws c (ofR s.h c.S).1 (ofR s.h c.S).2.1)
  unfold wrS
  rw [if_pos h1, if_neg hst]
  refine ⟨e', H', ?_, d1, ⟨heo, by rcases hcs.1 with h | h | h <;> rw [h] <;> simp [h1], fun h => by rw [hcs.2]; exact hst0⟩⟩
  generalize qmO { s with word := qiR ws (wrG c s) } (qmt ws c (ofR s.h c.S).1 (ofR s.h c.S).2.1) = r at hF ⊢
  obtain ⟨s', o⟩ := r
  cases o with
  | none =>
    simp only [qmr] at hF ⊢
    refine qgx rfl Fn.zcX rfl rfl ?_
    repeat' first | refine .A ?_ | refine .B ?_ | refine .C ?_ | refine .D ?_ | refine .F ?_ | refine .G ?_ | refine .J ?_ | refine .t5 ?_ | refine .f5 ?_ | refine .f6 ?_ | refine .L l6 ?_ | refine .L l01 ?_ | refine .L (qin d.row rfl) ?_ | refine .L (qio d.row (Nat.le_of_ble_eq_true rfl) rfl) ?_ | refine .P (hOf _) ?_ | refine .P (hA _) ?_ | refine .P hF ?_ | refine .Y ?_ | fail
    rfl
  | some q =>
    simp only [qmr] at hF ⊢
    refine qgx rfl Fn.zcX rfl rfl ?_
    repeat' first | refine .A ?_ | refine .B ?_ | refine .C ?_ | refine .D ?_ | refine .F ?_ | refine .G ?_ | refine .J ?_ | refine .t5 ?_ | refine .f5 ?_ | refine .f6 ?_ | refine .L l6 ?_ | refine .L l01 ?_ | refine .L (qin d.row rfl) ?_ | refine .L (qio d.row (Nat.le_of_ble_eq_true rfl) rfl) ?_ | refine .P (hOf _) ?_ | refine .P (hA _) ?_ | refine .P hF ?_ | refine .Y ?_ | fail
    rfl
 by_cases h2 : s.nx = 2
 ·obtain ⟨H', hF, d1⟩ := qm6 (lo := lo) d hb hlo ⟨hlc.1, hlc.2.1⟩ (ofR s.h c.S).2.1 h2
  unfold wrS
  rw [if_neg h1, if_pos h2]
  refine ⟨e, H', ?_, by cases hcb : qi3 ws (wrG c s) s.word <;> rw [hcb] at d1 <;> exact d1, by cases hcb : qi3 ws (wrG c s) s.word <;> exact ⟨hI.eo, ⟨by simp, by simp⟩, fun _ => hst0⟩⟩
  have hout : (if qi3 ws (wrG c s) s.word then (({ s with gd := true, nx := 3 } : Wr), qiS ws (wrG c s) (chE s.word (qk4 1)).1, bs, (none : Option (Int × Int))) else ({ s with nx := 1 }, ws, bs, none)).2.2.2 = none := by split <;> rfl
  rw [hout]
  simp only [qmr] at hF ⊢
  refine qgx rfl Fn.zcX rfl rfl ?_
  repeat' first | refine .A ?_ | refine .B ?_ | refine .C ?_ | refine .D ?_ | refine .F ?_ | refine .G ?_ | refine .J ?_ | refine .t5 ?_ | refine .f5 ?_ | refine .f6 ?_ | refine .L l6 ?_ | refine .L l01 ?_ | refine .L (qin d.row rfl) ?_ | refine .L (qio d.row (Nat.le_of_ble_eq_true rfl) rfl) ?_ | refine .P (hOf _) ?_ | refine .P (hA _) ?_ | refine .P hF ?_ | refine .Y ?_ | fail
  rfl
 by_cases h3 : s.nx = 3
 ·have hok := qm1 hst0
  have hG1 : IntKind.i64.wrap (wrG c s + 1) = qjj c (ofR s.h c.S).1 1 := by
   have hm' := hm
   unfold Cfg.may at hm'
   unfold wrG qjj
   rw [if_pos (by omega), if_pos (by omega), qiI (by omega) (by omega)]
   omega
  obtain ⟨H1, hL, hC1, ho1⟩ := qlq hC hlc.1 (qjj c (ofR s.h c.S).1 1)
  have d1 := d.on hC1 ho1 (by simp) hb
  have k4 : qav H1 none ⟨b, 0 + 4, none⟩ = some (I s.off) := qin d1.row rfl
  unfold wrS
  rw [if_neg h1, if_neg h2, if_pos h3]
  generalize qiR ws (qjj c (ofR s.h c.S).1 1) = z at hL ⊢
  have hO1 := fun lo hl k => qm3 (lo := lo) (DidR.of d1.row d1.cells) hl k
  by_cases ho : s.off < 0 ∨ z ≤ s.off
  ·rw [if_pos ho]
   have d2 := d1.put (row' := qm2 c { s with cd := 5 } e) hb
   have s2 : stN lo H1 ⟨b, 0 + 14, none⟩ (qaf (I 5)) = some (H1.set b (.row (qm2 c { s with cd := 5 } e) false)) := qip d1.row hlo (Nat.le_of_ble_eq_true rfl) rfl
   generalize H1.set b (.row (qm2 c { s with cd := 5 } e) false) = H2 at d2 s2
   have hO2 := fun lo hl k => qm3 (lo := lo) (DidR.of d2.row d2.cells) hl k
   refine ⟨e, _, ?_, d2.put hb, ⟨hI.eo, ⟨by simp, by simp⟩, fun _ => hst0⟩⟩
   by_cases ho1 : s.off < 0
   ·refine qgx rfl Fn.zcX rfl rfl ?_
    repeat' first | refine .A ?_ | refine .B ?_ | refine .C ?_ | refine .D ?_ | refine .F ?_ | refine .G ?_ | refine .J ?_ | (show EG _ _ (⟨_, .bin _ _ _, _, _⟩ :: _) _ _ _ _ _ _; first | refine qlT hG1 rfl rfl rfl ?_ | refine .t1 ?_ | refine .t5 ?_ | refine .f5 ?_ | refine .f6 ?_) | (show EG _ _ (⟨_, .load _ _, _, _⟩ :: _) _ _ _ _ _ _; first | refine .L l6 ?_ | refine .L l01 ?_ | refine .L k4 ?_ | refine .L (qin d.row rfl) ?_ | refine .L (qio d.row (Nat.le_of_ble_eq_true rfl) rfl) ?_) | refine .P (hOf _) ?_ | refine .P (hA _) ?_ | refine .P hL ?_ | refine .P (hO2 _ hlo _) ?_ | refine .S s2 ?_ | refine .Y ?_ | fail
    rfl
   ·refine qgx rfl Fn.zcX rfl rfl ?_
    repeat' first | refine .A ?_ | refine .B ?_ | refine .C ?_ | refine .D ?_ | refine .F ?_ | refine .G ?_ | refine .J ?_ | (show EG _ _ (⟨_, .bin _ _ _, _, _⟩ :: _) _ _ _ _ _ _; first | refine qlT hG1 rfl rfl rfl ?_ | refine .f1 ?_ | refine .t4 ?_ | refine .t5 ?_ | refine .f5 ?_ | refine .f6 ?_) | (show EG _ _ (⟨_, .load _ _, _, _⟩ :: _) _ _ _ _ _ _; first | refine .L l6 ?_ | refine .L l01 ?_ | refine .L k4 ?_ | refine .L (qin d.row rfl) ?_ | refine .L (qio d.row (Nat.le_of_ble_eq_true rfl) rfl) ?_) | refine .P (hOf _) ?_ | refine .P (hA _) ?_ | refine .P hL ?_ | refine .P (hO2 _ hlo _) ?_ | refine .S s2 ?_ | refine .Y ?_ | fail
    rfl
  ·rw [if_neg ho]
   refine ⟨e, _, ?_, d1.put hb, ⟨hI.eo, ⟨by simp, by simp⟩, fun _ => hst0⟩⟩
   refine qgx rfl Fn.zcX rfl rfl ?_
   repeat' first | refine .A ?_ | refine .B ?_ | refine .C ?_ | refine .D ?_ | refine .F ?_ | refine .G ?_ | refine .J ?_ | (show EG _ _ (⟨_, .bin _ _ _, _, _⟩ :: _) _ _ _ _ _ _; first | refine qlT hG1 rfl rfl rfl ?_ | refine .f1 ?_ | refine .f4 ?_ | refine .t5 ?_ | refine .f5 ?_ | refine .f6 ?_) | (show EG _ _ (⟨_, .load _ _, _, _⟩ :: _) _ _ _ _ _ _; first | refine .L l6 ?_ | refine .L l01 ?_ | refine .L k4 ?_ | refine .L (qin d.row rfl) ?_ | refine .L (qio d.row (Nat.le_of_ble_eq_true rfl) rfl) ?_) | refine .P (hOf _) ?_ | refine .P (hA _) ?_ | refine .P hL ?_ | refine .P (hO1 _ hlo _) ?_ | refine .Y ?_ | fail
   rfl
 by_cases h4 : s.nx = 4
 ·have k8 : qav H none ⟨b, 0 + 8 + 0, none⟩ = some (I s.o) := qin hr (by rw [← hI.eo]; rfl)
  obtain ⟨H1, hL, hC1, ho1⟩ := qm0 hC hlc.1 hlc.2.2 (IntKind.i64.wrap (s.o + s.off)) s.v
  have d1 := d.on hC1 ho1 (by simp) hb
  have hO1 := fun lo hl k => qm3 (lo := lo) (DidR.of d1.row d1.cells) hl k
  unfold wrS
  rw [if_neg h1, if_neg h2, if_neg h3, if_pos h4]
  refine ⟨e, _, ?_, d1.put hb, ⟨hI.eo, ⟨by simp, by simp⟩, fun _ => hst0⟩⟩
  refine qgx rfl Fn.zcX rfl rfl ?_
  repeat' first | refine .A ?_ | refine .B ?_ | refine .C ?_ | refine .D ?_ | refine .F ?_ | refine .G ?_ | refine .J ?_ | refine .t5 ?_ | refine .f5 ?_ | refine .f6 ?_ | (show EG _ _ (⟨_, .load _ _, _, _⟩ :: _) _ _ _ _ _ _; first | refine .L l6 ?_ | refine .L l01 ?_ | refine .L k8 ?_ | refine .L (qin d.row rfl) ?_ | refine .L (qio d.row (Nat.le_of_ble_eq_true rfl) rfl) ?_) | refine .P (hOf _) ?_ | refine .P (hA _) ?_ | refine .P hL ?_ | refine .P (hO1 _ hlo _) ?_ | refine .Y ?_ | fail
  rfl
 obtain ⟨H', hF, d1⟩ := qm7 (lo := lo) d hb hlo ⟨hlc.1, hlc.2.1⟩ (by omega : s.nx = 5 ∨ s.nx = 6)
 have hrest : (wrS c s ws bs).1.o = s.o ∧ (0 ≤ (wrS c s ws bs).1.nx ∧ (wrS c s ws bs).1.nx ≤ 6) ∧ (wrS c s ws bs).1.h = s.h := by
  unfold wrS
  rw [if_neg h1, if_neg h2, if_neg h3, if_neg h4]
  split
  ·simp
  ·split
   ·split
    ·simp
    ·split <;> simp
   ·omega
 refine ⟨e, H', ?_, d1, ⟨hI.eo.trans hrest.1.symm, hrest.2.1, fun _ => by rw [hrest.2.2]; exact hst0⟩⟩
 generalize wrS c s ws bs = r at hF ⊢
 obtain ⟨s', w1, b1, o⟩ := r
 cases o with
 | none =>
   simp only [qmr] at hF ⊢
   refine qgx rfl Fn.zcX rfl rfl ?_
   repeat' first | refine .A ?_ | refine .B ?_ | refine .D ?_ | refine .F ?_ | refine .G ?_ | refine .H ?_ | refine .J ?_ | refine .f5 ?_ | refine .f6 ?_ | refine .L l6 ?_ | refine .L l01 ?_ | refine .L (qin d.row rfl) ?_ | refine .L (qio d.row (Nat.le_of_ble_eq_true rfl) rfl) ?_ | refine .P (hOf _) ?_ | refine .P (hA _) ?_ | refine .P hF ?_ | refine .Y ?_ | fail
   rfl
 | some q =>
   simp only [qmr] at hF ⊢
   refine qgx rfl Fn.zcX rfl rfl ?_
   repeat' first | refine .A ?_ | refine .B ?_ | refine .D ?_ | refine .F ?_ | refine .G ?_ | refine .H ?_ | refine .J ?_ | refine .f5 ?_ | refine .f6 ?_ | refine .L l6 ?_ | refine .L l01 ?_ | refine .L (qin d.row rfl) ?_ | refine .L (qio d.row (Nat.le_of_ble_eq_true rfl) rfl) ?_ | refine .P (hOf _) ?_ | refine .P (hA _) ?_ | refine .P hF ?_ | refine .Y ?_ | fail
   rfl
end
end Go.Proofs.YtnfcohmbcgfhbaaGreat

