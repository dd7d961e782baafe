/- The document's entries, and sizes rounded. -/
import Derived.Test.YtnfcohmbcgfhbaaGreatThreadP2
set_option linter.unusedVariables false
set_option linter.unusedSimpArgs false

namespace Go.Proofs.YtnfcohmbcgfhbaaGreat
open Go Go.Ir

set_option maxHeartbeats 1600000 in
theorem qke (lo : Nat) (h : qab) (e : Ent) : qfV En lo Id.zbY [.agg e.cs.toArray] h = some (.bool (decide e.may), h) := by
 obtain ⟨o, g, p, u, lk, lv⟩ := e
 have hcs : (Ent.mk o g p u lk lv).cs = [I o, I g, I p, I u, .bool lk, .bool lv] := rfl
 rw [hcs]
 refine qgy rfl Fn.zbY rfl rfl ?_
 cases lk
 all_goals
  cases lv
  all_goals
   repeat' first | refine .A ?_ | refine .B ?_ | refine .C ?_ | refine .D ?_ | refine .F ?_ | refine .J ?_ | refine .k1 (fun hc => ?_) fun hc => ?_ | refine .k3 (fun hc => ?_) fun hc => ?_ | refine .k5 (fun hc => ?_) fun hc => ?_ | refine .k6 (fun hc => ?_) fun hc => ?_ | refine .Y ?_ | fail
   all_goals
    refine qiH ?_
    first
    | (refine (decide_eq_true ?_).symm; unfold Ent.may; simp <;> omega)
    | (refine (decide_eq_false ?_).symm; intro hh; unfold Ent.may at hh; simp at hh <;> omega)

theorem qkf (lo : Nat) (h : qab) (n : Int) : qfV En lo Id.zci [I n] h = some (qj9 n, h) := by
 refine qgy rfl Fn.zci rfl rfl ?_
 unfold qj9
 by_cases hr : 1 ≤ n ∧ n ≤ 256
 ·rw [if_pos hr]
  obtain ⟨k, hk⟩ : ∃ k : Nat, n = k := ⟨n.toNat, by omega⟩
  subst hk
  repeat' first | refine .A ?_ | refine .B ?_ | refine .D ?_ | refine .F ?_ | refine .G ?_ | refine .f1 ?_ | refine .f3 ?_ | refine .Y ?_ | fail
  refine .loop (fun m f H => H = h ∧ ∃ j : Nat, m + j = (k + 7) / 8 * 8 ∧ k ≤ j ∧ f = [(0, N j)]) (n := (k + 7) / 8 * 8 - k) ⟨rfl, k, by omega, Nat.le_refl _, rfl⟩ ?_
  rintro m f H ⟨rfl, j, hm, hkj, rfl⟩ next
  by_cases hj : j % 8 = 0
  ·have hjr : qj8 (k : Int) = (j : Int) := by unfold qj8; omega
   repeat' first | refine .A ?_ | refine .B ?_ | refine .D ?_ | refine .I ?_ | refine .J ?_ | refine .f6 ?_ | refine .remN (b := 8) rfl rfl rfl (by decide) ?_ | refine .F ?_ | fail
   rw [hjr]; rfl
  ·repeat' first | refine .A ?_ | refine .B ?_ | refine .C ?_ | refine .F ?_ | refine .G ?_ | refine .H ?_ | refine .t6 ?_ | refine .n2 ?_ | refine .remN (b := 8) rfl rfl rfl (by decide) ?_ | fail
   exact next (m - 1) _ _ (by omega) ⟨rfl, j + 1, by omega, by omega, rfl⟩
 ·rw [if_neg hr]
  repeat' first | refine .A ?_ | refine .B ?_ | refine .C ?_ | refine .D ?_ | refine .F ?_ | refine .G ?_ | refine .J ?_ | refine .k1 (fun hc => ?_) fun hc => ?_ | refine .k3 (fun hc => ?_) fun hc => ?_ | refine .Y ?_ | fail
  all_goals first | rfl | (exfalso; omega)
end Go.Proofs.YtnfcohmbcgfhbaaGreat

/- The document's entries: packed, and sizes rounded. -/
namespace Go.Proofs.YtnfcohmbcgfhbaaGreat
open Go Go.Ir

theorem qkg {f : Fr} {call : qaN} {lo : Nat} {h : qab} {x y : Operand} {n k : Nat} {j : IntKind} (hx : ev f x = some (N n)) (hy : ev f y = some (.int j (k : Nat))) (hk : k ≤ 62) (hb : n * 2 ^ k < 2 ^ 62) : iop call lo (.bin .shl x y) f h = some (N (n * 2 ^ k), h) := by
 simp only [iop, hx, hy, qar, qaq, if_true, qao]
 rw [if_neg (by omega)]
 have : min ((k : Int).toNat) IntKind.i64.bits = k := by show min _ 64 = _; omega
 rw [this, show ((n : Int) * 2 ^ k) = ((n * 2 ^ k : Nat) : Int) by simp, qie hb]

theorem qkh (lo : Nat) (h : qab) (b : Bool) : qfV En lo Id.zce [.bool b] h = some (N (qjV b), h) := by
 refine qgy rfl Fn.zce rfl rfl ?_
 cases b
 all_goals
  repeat' first | refine .A ?_ | refine .B ?_ | refine .C ?_ | refine .D ?_ | refine .F ?_ | refine .J ?_ | fail
  rfl

theorem qki (lo : Nat) (h : qab) (e : Ent) : qfV En lo Id.zca [.agg e.cs.toArray] h = some (pkV e, h) := by
 have hE := fun lo => qke lo h e
 unfold pkV
 by_cases hm : e.may
 ·rw [if_pos hm]
  rw [decide_eq_true hm] at hE
  have hm' := hm
  unfold Ent.may at hm'
  have b4 : qjV e.lk ≤ 1 := by unfold qjV; split <;> decide
  have b5 : qjV e.lv ≤ 1 := by unfold qjV; split <;> decide
  have hB4 := fun lo => qkh lo h e.lk
  have hB5 := fun lo => qkh lo h e.lv
  have i0 : e.o = ((qj6 e 0 : Nat) : Int) := by simp only [qj6]; omega
  have i1 : e.g = ((qj6 e 1 : Nat) : Int) := by simp only [qj6]; omega
  have i2 : e.p = ((qj6 e 2 : Nat) : Int) := by simp only [qj6]; omega
  have i3 : e.u = ((qj6 e 3 : Nat) : Int) := by simp only [qj6]; omega
  have v0 : qj6 e 0 < 2 ^ 20 := by simp only [qj6]; omega
  have v1 : qj6 e 1 < 2 ^ 20 := by simp only [qj6]; omega
  have v2 : qj6 e 2 < 2 ^ 4 := by simp only [qj6]; omega
  have v3 : qj6 e 3 < 2 ^ 4 := by simp only [qj6]; omega
  have hcs : e.cs = [N (qj6 e 0), N (qj6 e 1), N (qj6 e 2), N (qj6 e 3), .bool e.lk, .bool e.lv] := by
   unfold Ent.cs
   rw [i0, i1, i2, i3]
  have hres : qjY e = qj6 e 0 + qj6 e 1 * 2 ^ 20 + qj6 e 2 * 2 ^ 40 + qj6 e 3 * 2 ^ 44 + qjV e.lk * 2 ^ 48 + qjV e.lv * 2 ^ 49 := rfl
  rw [hres]
  rw [hcs] at hE ⊢
  generalize qj6 e 0 = a0 at *
  generalize qj6 e 1 = a1 at *
  generalize qj6 e 2 = a2 at *
  generalize qj6 e 3 = a3 at *
  generalize qjV e.lk = a4 at *
  generalize qjV e.lv = a5 at *
  refine qgy rfl Fn.zca rfl rfl ?_
  repeat' first | refine .A ?_ | refine .B ?_ | refine .D ?_ | refine .F ?_ | refine .J ?_ | refine .C ?_ | refine .n1 ?_ | refine .P (hE _) ?_ | refine .P (hB4 _) ?_ | refine .P (hB5 _) ?_ | refine .go rfl (qkg (k := 20) rfl rfl (by decide) (by omega)) rfl ?_ | refine .go rfl (qkg (k := 40) rfl rfl (by decide) (by omega)) rfl ?_ | refine .go rfl (qkg (k := 44) rfl rfl (by decide) (by omega)) rfl ?_ | refine .go rfl (qkg (k := 48) rfl rfl (by decide) (by omega)) rfl ?_ | refine .go rfl (qkg (k := 49) rfl rfl (by decide) (by omega)) rfl ?_ | refine .Y ?_ | fail
  rfl
 ·rw [if_neg hm]
  rw [decide_eq_false hm] at hE
  refine qgy rfl Fn.zca rfl rfl ?_
  repeat' first | refine .A ?_ | refine .B ?_ | refine .C ?_ | refine .J ?_ | refine .P (hE _) ?_ | refine .F ?_ | refine .Y ?_ | fail
  rfl
end Go.Proofs.YtnfcohmbcgfhbaaGreat

/- The document's entries, unpacked. -/
namespace Go.Proofs.YtnfcohmbcgfhbaaGreat
open Go Go.Ir

theorem qkj {f : Fr} {call : qaN} {lo : Nat} {h : qab} {x y : Operand} {n k q : Nat} {j : IntKind} (hx : ev f x = some (N n)) (hy : ev f y = some (.int j (k : Nat))) (hk : k ≤ 62) (hq : n / 2 ^ k = q) : iop call lo (.bin .shr x y) f h = some (N q, h) := by
 subst hq
 simp only [iop, hx, hy, qar, qaq, if_true, qao]
 rw [if_neg (by omega)]
 have : min ((k : Int).toNat) IntKind.i64.bits = k := by show min _ 64 = _; omega
 rw [this, Int.fdiv_eq_ediv_of_nonneg _ (Int.le_of_lt (Int.pow_pos (by decide)))]
 simp
theorem qkk {f : Fr} {call : qaN} {lo : Nat} {h : qab} {x y : Operand} {a b r : Nat} (hx : ev f x = some (N a)) (hy : ev f y = some (N b)) (hb : b ≠ 0) (hr : a % b = r) : iop call lo (.bin .rem x y) f h = some (N r, h) := by
 subst hr
 have hb' : ¬ ((b : Int) = 0) := by omega
 have e1 : (a : Int).tmod (b : Int) = ((a % b : Nat) : Int) := by rw [Int.tmod_eq_emod_of_nonneg (by omega)]; rfl
 simp only [iop, hx, hy, qar, qaq, qan, if_true, if_neg hb', e1]
 rfl

section
variable {E : Env} {lo : Nat} {os : List IOper} {f : Fr} {h : qab} {hs : List qab} {k : List Ir.Item} {rs : List qak} {Q : Value → qab → Prop} {d : Nat} {g : Option (Nat × Bool)} {x y : Operand}
theorem qkl {n k' q : Nat} {j : IntKind} (hq : n / 2 ^ k' = q) (hw : want g f = some true) (hx : ev f x = some (N n)) (hy : ev f y = some (.int j (k' : Nat))) (hk : k' ≤ 62) (c : EG E lo os hs k ((d, N q) :: f) h rs Q) :
  EG E lo (⟨some d, .bin .shr x y, g, 0⟩ :: os) hs k f h rs Q := .go hw (qkj hx hy hk hq) rfl c
theorem qkm {a b r : Nat} (hr : a % b = r) (hw : want g f = some true) (hx : ev f x = some (N a)) (hy : ev f y = some (N b)) (hb : b ≠ 0) (c : EG E lo os hs k ((d, N r) :: f) h rs Q) :
  EG E lo (⟨some d, .bin .rem x y, g, 0⟩ :: os) hs k f h rs Q := .go hw (qkk hx hy hb hr) rfl c
theorem qkn {p q : Int} {j : IntKind} {b : Bool} (hb : decide (p = q) = b) (hw : want g f = some true) (hx : ev f x = some (.int j p)) (hy : ev f y = some (.int j q)) (c : EG E lo os hs k ((d, .bool b) :: f) h rs Q) :
  EG E lo (⟨some d, .bin .eql x y, g, 0⟩ :: os) hs k f h rs Q := .eql hw hx hy (fun t => by rw [decide_eq_true t] at hb; rw [hb]; exact c) (fun t => by rw [decide_eq_false t] at hb; rw [hb]; exact c)
end

set_option maxHeartbeats 1600000 in
theorem qko (lo : Nat) (h : qab) {n : Nat} (hlt : n < 2 ^ 50) : qfV En lo Id.zcc [N n] h = some (unV (if (qjW n).may then some (qjW n) else none), h) := by
 have hE := fun lo => qke lo h (qjW n)
 have h49 : n / 2 ^ 49 % 2 ^ 1 = n / 2 ^ 49 := by omega
 have hcs : (qjW n).cs = [N (n % 2 ^ 20), N (n / 2 ^ 20 % 2 ^ 20), N (n / 2 ^ 40 % 2 ^ 4), N (n / 2 ^ 44 % 2 ^ 4), .bool (decide (n / 2 ^ 48 % 2 ^ 1 = 1)), .bool (decide (n / 2 ^ 49 = 1))] := by
  unfold qjW Ent.cs
  simp only
  rw [h49, show n / 2 ^ 0 % 2 ^ 20 = n % 2 ^ 20 by omega]
 have hv : unV (if (qjW n).may then some (qjW n) else none) = bif decide (qjW n).may then .tuple #[.agg (qjW n).cs.toArray, I 0] else .tuple #[.agg Ent.zero.cs.toArray, I 2] := by
  by_cases hm : (qjW n).may
  ·rw [if_pos hm, decide_eq_true hm]; rfl
  ·rw [if_neg hm, decide_eq_false hm]; rfl
 rw [hv]
 clear hv
 generalize decide (qjW n).may = bm at hE ⊢
 cases bm
 all_goals
  simp only [cond_true, cond_false]
  rw [hcs] at hE
  try rw [hcs]
  clear hcs h49
  generalize q20 : n / 2 ^ 20 = n20 at *
  generalize q40 : n / 2 ^ 40 = n40 at *
  generalize q44 : n / 2 ^ 44 = n44 at *
  generalize q48 : n / 2 ^ 48 = n48 at *
  generalize q49 : n / 2 ^ 49 = n49 at *
  generalize r0 : n % 2 ^ 20 = a0 at *
  generalize r1 : n20 % 2 ^ 20 = a1 at *
  generalize r2 : n40 % 2 ^ 4 = a2 at *
  generalize r3 : n44 % 2 ^ 4 = a3 at *
  generalize r4 : n48 % 2 ^ 1 = a4 at *
  have b4 : decide (((a4 : Nat) : Int) = 1) = decide (a4 = 1) := decide_eq_decide.2 (by omega)
  have b9 : decide (((n49 : Nat) : Int) = 1) = decide (n49 = 1) := decide_eq_decide.2 (by omega)
  generalize decide (a4 = 1) = lk at *
  generalize decide (n49 = 1) = lv at *
  refine qgy rfl Fn.zcc rfl rfl ?_
  repeat' first | refine .A ?_ | refine .B ?_ | refine .C ?_ | refine .D ?_ | refine .F ?_ | refine .J ?_ | (show EG _ _ (⟨_, .bin _ _ _, _, _⟩ :: _) _ _ _ _ _ _; first | refine qkn b4 rfl rfl rfl ?_ | refine qkn b9 rfl rfl rfl ?_ | refine qkm (b := 1048576) r0 rfl rfl rfl (by decide) ?_ | refine qkm (b := 1048576) r1 rfl rfl rfl (by decide) ?_ | refine qkm (b := 16) r2 rfl rfl rfl (by decide) ?_ | refine qkm (b := 16) r3 rfl rfl rfl (by decide) ?_ | refine qkm (b := 2) r4 rfl rfl rfl (by decide) ?_ | refine qkl (k' := 20) q20 rfl rfl rfl (by decide) ?_ | refine qkl (k' := 40) q40 rfl rfl rfl (by decide) ?_ | refine qkl (k' := 44) q44 rfl rfl rfl (by decide) ?_ | refine qkl (k' := 48) q48 rfl rfl rfl (by decide) ?_ | refine qkl (k' := 49) q49 rfl rfl rfl (by decide) ?_ | refine .f1 ?_ | refine .f4 ?_) | refine .P (hE _) ?_ | refine .Y ?_ | fail
  rfl

theorem qkp (lo : Nat) (h : qab) (w : Int) : qfV En lo Id.zcc [I w] h = some (unV (qjX w), h) := by
 by_cases hr : 0 ≤ w ∧ w < 1125899906842624
 ·refine Exists.elim (show ∃ n : Nat, w = n from ⟨w.toNat, by omega⟩) fun n hn => ?_
  subst hn
  have := qko lo h (n := n) (by omega)
  rw [this]
  unfold qjX
  by_cases hm : (qjW n).may
  ·rw [if_pos hm, if_pos ⟨hr.1, hr.2, by simpa using hm⟩]; rfl
  ·rw [if_neg hm, if_neg (fun hh => hm (by simpa using hh.2.2))]
 ·have hu : qjX w = none := by unfold qjX; exact if_neg fun hh => hr ⟨hh.1, hh.2.1⟩
  rw [hu]
  refine qgy rfl Fn.zcc rfl rfl ?_
  by_cases h0 : w < 0
  ·repeat' first | refine .A ?_ | refine .B ?_ | refine .C ?_ | refine .J ?_ | refine .t1 ?_ | refine .D ?_ | refine .F ?_ | refine .Y ?_ | fail
   rfl
  ·repeat' first | refine .A ?_ | refine .B ?_ | refine .C ?_ | refine .J ?_ | refine .f1 ?_ | refine .t4 ?_ | refine .F ?_ | refine .Y ?_ | fail
   rfl

end Go.Proofs.YtnfcohmbcgfhbaaGreat

/- Whole numbers as floats. -/
namespace Go.Proofs.YtnfcohmbcgfhbaaGreat
open Go Go.Ir

def fl (n : Nat) : Nat := Ieee.double.nearest false n 0

theorem qkq (n : Nat) : FloatKind.f64.nearest (n : Int) = fl n := by
 unfold FloatKind.nearest FloatKind.encode Ieee.Format.write fl
 have hd : decide ((n : Int) < 0) = false := decide_eq_false (by omega)
 simp only [hd, Int.natAbs_natCast, FloatKind.format]

theorem qkr (n : Nat) (neg : Bool) : Ieee.Toward.even.cut neg n 0 = n := by
 unfold Ieee.Toward.cut
 simp [Nat.mod_one]

theorem qks {c k : Nat} (hc : c ≠ 0) : (c * 2 ^ k).log2 = c.log2 + k := by
 have hpos : 0 < 2 ^ k := Nat.two_pow_pos k
 have h0 : c * 2 ^ k ≠ 0 := Nat.mul_ne_zero hc (by omega)
 have h1 := Nat.log2_self_le hc
 have h2 := Nat.lt_log2_self (n := c)
 refine Nat.le_antisymm ?_ ?_
 ·have : c * 2 ^ k < 2 ^ (c.log2 + k + 1) := by
   rw [show c.log2 + k + 1 = (c.log2 + 1) + k by omega, Nat.pow_add]
   exact Nat.mul_lt_mul_of_pos_right h2 hpos
  have := (Nat.log2_lt h0).2 this
  omega
 ·refine (Nat.le_log2 h0).2 ?_
  rw [Nat.pow_add]
  exact Nat.mul_le_mul_right _ h1

theorem qkt {n : Nat} (h : n < 2 ^ 53) : ∃ k : Nat, k ≤ 1074 ∧ Ieee.double.read (fl n) = .number false (n * 2 ^ k) (-(k : Int)) := by
 by_cases h0 : n = 0
 ·subst h0
  exact ⟨1074, Nat.le_refl _, by unfold fl; decide +kernel⟩
 have hL : n.log2 < 53 := (Nat.log2_lt h0).2 h
 have h1 := Nat.log2_self_le h0
 have h2 := Nat.lt_log2_self (n := n)
 have hb : Ieee.double.binade = 4503599627370496 := by decide +kernel
 have hi : Ieee.double.infRung = 9218868437227405312 := by decide +kernel
 have hs : Ieee.double.signWeight = 9223372036854775808 := by decide +kernel
 have hp : Ieee.double.leastPlace = -1074 := by decide
 have hs1 : 4503599627370496 ≤ n * 2 ^ (52 - n.log2) := by
  have : 2 ^ n.log2 * 2 ^ (52 - n.log2) ≤ n * 2 ^ (52 - n.log2) := Nat.mul_le_mul_right _ h1
  rw [← Nat.pow_add, show n.log2 + (52 - n.log2) = 52 by omega] at this
  exact this
 have hs2 : n * 2 ^ (52 - n.log2) < 9007199254740992 := by
  have : n * 2 ^ (52 - n.log2) < 2 ^ (n.log2 + 1) * 2 ^ (52 - n.log2) := Nat.mul_lt_mul_of_pos_right h2 (Nat.two_pow_pos _)
  rw [← Nat.pow_add, show n.log2 + 1 + (52 - n.log2) = 53 by omega] at this
  exact this
 have hfl : fl n = (n.log2 + 1022) * 4503599627370496 + n * 2 ^ (52 - n.log2) := by
  unfold fl Ieee.Format.nearest
  rw [if_neg h0]
  have e1 : max ((0 : Int) + (n.log2 : Int) - (Ieee.double.fractionBits : Nat)) Ieee.double.leastPlace = (n.log2 : Int) - 52 := by
   rw [hp, show (Ieee.double.fractionBits : Int) = 52 from rfl]; omega
  rw [e1]
  simp only
  rw [show ((0 : Int) - ((n.log2 : Int) - 52)).toNat = 52 - n.log2 by omega, show ((n.log2 : Int) - 52 - 0).toNat = 0 by omega, qkr, Nat.shiftLeft_eq, hp, show ((n.log2 : Int) - 52 - -1074).toNat = n.log2 + 1022 by omega, hb, hi]
  unfold Ieee.Format.word
  rw [if_neg (by simp)]
  omega
 generalize hsd : n * 2 ^ (52 - n.log2) = s at hs1 hs2 hfl
 have hr : Ieee.double.read (fl n) = .number false s (-((52 - n.log2 : Nat) : Int)) := by
  rw [hfl]
  unfold Ieee.Format.read
  rw [hb, hi, hs, hp]
  have w1 : ((n.log2 + 1022) * 4503599627370496 + s) / 9223372036854775808 % 2 = 0 := by omega
  have w2 : ((n.log2 + 1022) * 4503599627370496 + s) % 9223372036854775808 = (n.log2 + 1022) * 4503599627370496 + s := by omega
  have w3 : ((n.log2 + 1022) * 4503599627370496 + s) % 4503599627370496 = s - 4503599627370496 := by omega
  have w4 : ((n.log2 + 1022) * 4503599627370496 + s) / 4503599627370496 = n.log2 + 1023 := by omega
  simp only [w1, w2, w3, w4]
  rw [if_neg (by omega), if_pos (by omega), show 4503599627370496 + (s - 4503599627370496) = s by omega, show (-1074 : Int) + ((n.log2 + 1023 - 1 : Nat) : Int) = -((52 - n.log2 : Nat) : Int) by omega]
  rfl
 exact ⟨52 - n.log2, by omega, by rw [hsd]; exact hr⟩

theorem qku (m u : Nat) : Ieee.signed false m u = ((m * 2 ^ u : Nat) : Int) := by
 unfold Ieee.signed
 simp [Nat.shiftLeft_eq]

theorem qkv {n : Nat} (h : n < 2 ^ 53) : (FloatKind.f64.decode (fl n)).toInt .zero = some (n : Int) := by
 obtain ⟨k, hk, ha⟩ := qkt h
 unfold FloatKind.decode
 rw [show FloatKind.f64.format = Ieee.double from rfl, ha]
 unfold Ieee.Datum.toInt Ieee.Datum.integral
 simp only
 have s1 : (-(k : Int)).toNat = 0 := by omega
 have s2 : (- -(k : Int)).toNat = k := by omega
 rw [s1, s2, Nat.shiftLeft_zero, qku]
 by_cases h0 : n = 0
 ·subst h0
  unfold Ieee.Toward.cut
  simp
 ·have hl : k ≤ (n * 2 ^ k).log2 + 2 := by rw [qks h0]; omega
  unfold Ieee.Toward.cut
  simp only [Nat.min_eq_left hl, Nat.one_shiftLeft, Nat.mul_div_cancel _ (Nat.two_pow_pos k)]
  simp
end Go.Proofs.YtnfcohmbcgfhbaaGreat

/- Heads: by the program, and by the document. -/
namespace Go.Ir
open Go
section
variable {E : Env} {lo : Nat} {os : List IOper} {f : Fr} {h : qab} {hs : List qab} {k : List Item} {rs : List qak} {Q : Value → qab → Prop} {d : Nat} {g : Option (Nat × Bool)} {x y : Operand}
theorem EG.convF {a : Nat} {n : Int} (hw : want g f = some true) (hx : ev f x = some (.float .f64 a)) (hn : (FloatKind.f64.decode a).toInt .zero = some n) (hr : IntKind.i64.min ≤ n ∧ n ≤ IntKind.i64.max) (z : EG E lo os hs k ((d, .int .i64 n) :: f) h rs Q) :
  EG E lo (⟨some d, .conv (.int .i64) x, g, 0⟩ :: os) hs k f h rs Q := .go hw (by
   simp only [iop, hx, qau, hn, if_pos hr]) rfl z
end
end Go.Ir
namespace Go.Proofs.YtnfcohmbcgfhbaaGreat
open Go Go.Ir

theorem qkw : fl 0 = 0 := by unfold fl; decide +kernel
abbrev cx (a b : Nat) : Value := .complex .f64 (fl a) (fl b)

def qkx (w : Int) : Option (Nat × Nat) := if 0 ≤ w ∧ w < 4503599627370496 ∧ w % 1048576 ≤ 64 then some ((w % 1048576).toNat, (w / 1048576).toNat) else none
def qky (t g : Nat) : Nat := t + g * 1048576
def qkz (g : Nat) : Nat := if g = 4294967295 then 0 else g + 1
def qkA : Option (Nat × Nat) → Value
 | some p => .tuple #[N p.1, N p.2, I 0]
 | none => .tuple #[I 0, I 0, I 2]
def qkB (w : Int) : Value := qkA (qkx w)
def qkC (l : Int) : Option (Nat × Nat) → Int × Int × Int
 | none => (0, 0, 2)
 | some p => if 0 ≤ l ∧ l ≤ 64 then (if p.1 = 0 then (0, 0, 11) else ((qky l.toNat (qkz p.2) : Nat), (p.1 : Int) - 1, 0)) else (0, 0, 1)
def qkD (w l : Int) : Int × Int × Int := qkC l (qkx w)
def qkE (s : Int) : Option (Nat × Nat) → Int × Int × Int
 | none => (0, 0, 2)
 | some p => if 0 ≤ s ∧ s ≤ 63 then ((qky (s.toNat + 1) (qkz p.2) : Nat), (p.1 : Int), 0) else (0, 0, 1)
def qkF (w s : Int) : Int × Int × Int := qkE s (qkx w)
def qkG (r : Int × Int × Int) : Value := .tuple #[I r.1, I r.2.1, I r.2.2]

theorem qkH {w : Int} {t g : Nat} (h : qkx w = some (t, g)) : t ≤ 64 ∧ g < 4294967296 ∧ w = (qky t g : Nat) := by
 unfold qkx at h
 split at h
 ·injection h with h
  injection h with h1 h2
  unfold qky
  omega
 ·cases h

section
variable {lo : Nat} {h : qab}
theorem qkI (lo : Nat) (h : qab) (a b : Nat) : qfV En lo Id.zbp [N a, N b] h = some (cx a b, h) := by
 refine qgy rfl Fn.zbp rfl rfl ?_
 repeat' first | refine .A ?_ | refine .B ?_ | refine .J ?_ | refine .F ?_ | refine .Y ?_ | fail
 show Ir.tidy h (.complex .f64 (FloatKind.f64.nearest (a : Int)) (FloatKind.f64.nearest (b : Int))) h = _
 rw [qkq, qkq]
 rfl
theorem qkJ {n : Nat} (h : n < 2 ^ 53) : IntKind.i64.min ≤ (n : Int) ∧ (n : Int) ≤ IntKind.i64.max := by
 have e1 : IntKind.i64.min = -9223372036854775808 := by decide
 have e2 : IntKind.i64.max = 9223372036854775807 := by decide
 rw [e1, e2]; omega
theorem qkK (lo : Nat) (h : qab) {a : Nat} (b : Nat) (ha : a < 2 ^ 53) : qfV En lo Id.zbm [cx a b] h = some (N a, h) := by
 refine qgy rfl Fn.zbm rfl rfl ?_
 repeat' first | refine .A ?_ | refine .B ?_ | refine .J ?_ | refine .convF rfl rfl (qkv ha) (qkJ ha) ?_ | refine .F ?_ | refine .Y ?_ | fail
 rfl
theorem qkL (lo : Nat) (h : qab) (a : Nat) {b : Nat} (hb : b < 2 ^ 53) : qfV En lo Id.zbl [cx a b] h = some (N b, h) := by
 refine qgy rfl Fn.zbl rfl rfl ?_
 repeat' first | refine .A ?_ | refine .B ?_ | refine .J ?_ | refine .convF rfl rfl (qkv hb) (qkJ hb) ?_ | refine .F ?_ | refine .Y ?_ | fail
 rfl
theorem qkM (lo : Nat) (h : qab) : qfV En lo Id.zbs [] h = some (fld 0 20, h) := callR_iff.2 ⟨60, by kernel_rfl⟩
theorem qkN (lo : Nat) (h : qab) : qfV En lo Id.zbr [] h = some (fld 20 32, h) := callR_iff.2 ⟨60, by kernel_rfl⟩
theorem qkO (lo : Nat) (h : qab) (n : Int) : qfV En lo Id.zbo [I n] h = some (.bool (decide (0 ≤ n ∧ n ≤ 64)), h) := by
 refine qgy rfl Fn.zbo rfl rfl ?_
 by_cases h0 : 0 ≤ n
 ·by_cases h1 : n ≤ 64
  ·rw [decide_eq_true ⟨h0, h1⟩]
   repeat' first | refine .A ?_ | refine .B ?_ | refine .J ?_ | refine .t2 ?_ | refine .t4 ?_ | refine .F ?_ | refine .Y ?_ | fail
   rfl
  ·rw [decide_eq_false (fun g => h1 g.2)]
   repeat' first | refine .A ?_ | refine .B ?_ | refine .J ?_ | refine .f2 ?_ | refine .t4 ?_ | refine .F ?_ | refine .Y ?_ | fail
   rfl
 ·rw [decide_eq_false (fun g => h0 g.1)]
  repeat' first | refine .A ?_ | refine .B ?_ | refine .J ?_ | refine .f4 ?_ | refine .D ?_ | refine .F ?_ | refine .Y ?_ | fail
  rfl
theorem qkP (lo : Nat) (h : qab) {t g : Nat} (ht : t < 1048576) (hg : g < 4294967296) : qfV En lo Id.zbn [cx t g] h = some (N (qky t g), h) := by
 have h1 : ∀ lo, qfV En lo Id.zaT [N 0, fld 0 20, N t] h = some (.tuple #[N t, I 0], h) := fun lo => by
  have := qjU (lo := lo) (h := h) (a := 0) (b := 20) (n := 0) (k := t) (by omega) (by omega) (by omega) (by omega)
  rw [show 0 + t * 2 ^ 0 = t by omega] at this
  exact this
 have h2 : ∀ lo, qfV En lo Id.zaT [N t, fld 20 32, N g] h = some (.tuple #[N (qky t g), I 0], h) := fun lo => by
  have := qjU (lo := lo) (h := h) (a := 20) (b := 32) (n := t) (k := g) (by omega) (by omega) (by omega) (by omega)
  rw [show t + g * 2 ^ 20 = qky t g by unfold qky; omega] at this
  exact this
 have hT := fun lo => qkK lo h (a := t) g (by omega)
 have hG := fun lo => qkL lo h t (b := g) (by omega)
 refine qgy rfl Fn.zbn rfl rfl ?_
 repeat' first | refine .A ?_ | refine .B ?_ | refine .J ?_ | (show EG _ _ (⟨_, .call _ _, _, _⟩ :: _) _ _ _ _ _ _; first | refine .P (qkM _ _) ?_ | refine .P (qkN _ _) ?_ | refine .P (hT _) ?_ | refine .P (hG _) ?_ | refine .P (h1 _) ?_ | refine .P (h2 _) ?_) | refine .F ?_ | refine .Y ?_ | fail
 rfl
theorem qkQ (lo : Nat) (h : qab) (t : Nat) {g : Nat} (hg : g < 4294967296) (s : Nat) : qfV En lo Id.zbk [cx t g, N s] h = some (cx s (qkz g), h) := by
 have hG := fun lo => qkL lo h t (b := g) (by omega)
 have hO := fun lo b => qkI lo h s b
 refine qgy rfl Fn.zbk rfl rfl ?_
 unfold qkz
 by_cases hc : g = 4294967295
 ·rw [if_pos hc]
  have h0 : ∀ lo, qfV En lo Id.zbp [N s, I 0] h = some (cx s 0, h) := fun lo => hO lo 0
  repeat' first | refine .A ?_ | refine .B ?_ | refine .C ?_ | refine .J ?_ | refine .t5 ?_ | refine .P (hG _) ?_ | refine .P (h0 _) ?_ | refine .F ?_ | fail
  rfl
 ·rw [if_neg hc]
  repeat' first | refine .A ?_ | refine .B ?_ | refine .D ?_ | refine .F ?_ | refine .J ?_ | refine .f5 ?_ | refine .n2 ?_ | refine .P (hG _) ?_ | refine .P (hO _ _) ?_ | fail
  rfl
theorem qkR {a b : Nat} {w : Int} (hw : ¬ (0 ≤ w ∧ w < 4611686018427387904)) : qfV En lo Id.zaS [I w, fld a b] h = some (I 0, h) := by
 have hW := fun lo => qjO lo h w
 rw [decide_eq_false hw] at hW
 refine qgy rfl Fn.zaS rfl rfl ?_
 repeat' first | refine .A ?_ | refine .B ?_ | refine .C ?_ | refine .J ?_ | refine .P (hW _) ?_ | refine .F ?_ | refine .Y ?_ | fail
 rfl

def qkS : Option (Nat × Nat) → Value
 | some p => .tuple #[cx p.1 p.2, I 0]
 | none => .tuple #[.complex .f64 0 0, I 2]
def qkT (w : Int) : Value := qkS (qkx w)
theorem qkU (lo : Nat) (h : qab) {t g n : Nat} (ht : t < 1048576) (hg : g < 4294967296) (h1 : ∀ lo, qfV En lo Id.zaS [N n, fld 0 20] h = some (N t, h)) (h2 : ∀ lo, qfV En lo Id.zaS [N n, fld 20 32] h = some (N g, h)) :
  qfV En lo Id.zbq [N n] h = some (if t ≤ 64 ∧ qky t g = n then .tuple #[cx t g, I 0] else .tuple #[.complex .f64 0 0, I 2], h) := by
 have hO := fun lo => qkI lo h t g
 have hT := fun lo => qkK lo h (a := t) g (by omega)
 have hM := fun lo => qkO lo h (t : Int)
 have hW := fun lo => qkP lo h (t := t) (g := g) ht hg
 generalize qky t g = e at *
 refine qgy rfl Fn.zbq rfl rfl ?_
 by_cases h64 : t ≤ 64
 ·rw [decide_eq_true (by omega)] at hM
  by_cases he : e = n
  ·rw [if_pos ⟨h64, he⟩]
   repeat' first | refine .A ?_ | refine .B ?_ | refine .D ?_ | refine .F ?_ | refine .J ?_ | refine .f6 ?_ | (show EG _ _ (⟨_, .call _ _, _, _⟩ :: _) _ _ _ _ _ _; first | refine .P (qkM _ _) ?_ | refine .P (qkN _ _) ?_ | refine .P (h1 _) ?_ | refine .P (h2 _) ?_ | refine .P (hO _) ?_ | refine .P (hT _) ?_ | refine .P (hM _) ?_ | refine .P (hW _) ?_) | refine .Y ?_ | fail
   rfl
  ·rw [if_neg (fun g => he g.2)]
   repeat' first | refine .A ?_ | refine .B ?_ | refine .C ?_ | refine .J ?_ | refine .t6 ?_ | (show EG _ _ (⟨_, .call _ _, _, _⟩ :: _) _ _ _ _ _ _; first | refine .P (qkM _ _) ?_ | refine .P (qkN _ _) ?_ | refine .P (h1 _) ?_ | refine .P (h2 _) ?_ | refine .P (hO _) ?_ | refine .P (hT _) ?_ | refine .P (hM _) ?_ | refine .P (hW _) ?_) | refine .F ?_ | refine .Y ?_ | fail
   rfl
 ·rw [decide_eq_false (by omega)] at hM
  rw [if_neg (fun g => h64 g.1)]
  repeat' first | refine .A ?_ | refine .B ?_ | refine .C ?_ | refine .J ?_ | (show EG _ _ (⟨_, .call _ _, _, _⟩ :: _) _ _ _ _ _ _; first | refine .P (qkM _ _) ?_ | refine .P (qkN _ _) ?_ | refine .P (h1 _) ?_ | refine .P (h2 _) ?_ | refine .P (hO _) ?_ | refine .P (hT _) ?_ | refine .P (hM _) ?_) | refine .D ?_ | refine .F ?_ | refine .Y ?_ | fail
  rfl
theorem qkV (lo : Nat) (h : qab) {w : Int} (hw : ¬ (0 ≤ w ∧ w < 4611686018427387904)) : qfV En lo Id.zbq [I w] h = some (.tuple #[.complex .f64 0 0, I 2], h) := by
 have h1 : ∀ lo, qfV En lo Id.zaS [I w, fld 0 20] h = some (N 0, h) := fun lo => qkR hw
 have h2 : ∀ lo, qfV En lo Id.zaS [I w, fld 20 32] h = some (N 0, h) := fun lo => qkR hw
 have hO := fun lo => qkI lo h 0 0
 have hT := fun lo => qkK lo h (a := 0) 0 (by omega)
 have hM : ∀ lo, qfV En lo Id.zbo [N 0] h = some (.bool true, h) := fun lo => qkO lo h ((0 : Nat) : Int)
 have hW : ∀ lo, qfV En lo Id.zbn [cx 0 0] h = some (N 0, h) := fun lo => qkP lo h (t := 0) (g := 0) (by omega) (by omega)
 refine qgy rfl Fn.zbq rfl rfl ?_
 repeat' first | refine .A ?_ | refine .B ?_ | refine .C ?_ | refine .J ?_ | refine .t6 ?_ | (show EG _ _ (⟨_, .call _ _, _, _⟩ :: _) _ _ _ _ _ _; first | refine .P (qkM _ _) ?_ | refine .P (qkN _ _) ?_ | refine .P (h1 _) ?_ | refine .P (h2 _) ?_ | refine .P (hO _) ?_ | refine .P (hT _) ?_ | refine .P (hM _) ?_ | refine .P (hW _) ?_) | refine .F ?_ | refine .Y ?_ | fail
 rfl
theorem qkW (n t g : Nat) (e1 : n % 1048576 = t) (e2 : n / 1048576 % 4294967296 = g) (ht : t < 1048576) (hg : g < 4294967296) : qkT (n : Int) = if t ≤ 64 ∧ qky t g = n then .tuple #[cx t g, I 0] else .tuple #[.complex .f64 0 0, I 2] := by
 unfold qkT
 by_cases hc : t ≤ 64 ∧ qky t g = n
 ·have hc2 := hc.2
  unfold qky at hc2
  have hU : qkx (n : Int) = some (t, g) := by
   unfold qkx
   have a1 : ((n : Int) % 1048576).toNat = t := by omega
   have a2 : ((n : Int) / 1048576).toNat = g := by omega
   rw [if_pos (by omega), a1, a2]
  rw [hU, if_pos hc]
  rfl
 ·rw [if_neg hc]
  have hU : qkx (n : Int) = none := by
   unfold qkx
   unfold qky at hc
   rw [if_neg (by omega)]
  rw [hU]
  rfl
theorem qkX (lo : Nat) (h : qab) (w : Int) : qfV En lo Id.zbq [I w] h = some (qkT w, h) := by
 by_cases hw : 0 ≤ w ∧ w < 4611686018427387904
 ·obtain ⟨n, rfl⟩ : ∃ n : Nat, w = n := ⟨w.toNat, by omega⟩
  have h1 : ∀ lo, qfV En lo Id.zaS [N n, fld 0 20] h = some (N (n / 2 ^ 0 % 2 ^ 20), h) := fun lo => qjT (lo := lo) (h := h) (a := 0) (b := 20) (n := n) (by omega) (by omega) (by omega)
  have h2 : ∀ lo, qfV En lo Id.zaS [N n, fld 20 32] h = some (N (n / 2 ^ 20 % 2 ^ 32), h) := fun lo => qjT (lo := lo) (h := h) (a := 20) (b := 32) (n := n) (by omega) (by omega) (by omega)
  obtain ⟨t, et⟩ : ∃ t, n / 2 ^ 0 % 2 ^ 20 = t := ⟨_, rfl⟩
  obtain ⟨g, eg⟩ : ∃ g, n / 2 ^ 20 % 2 ^ 32 = g := ⟨_, rfl⟩
  rw [et] at h1
  rw [eg] at h2
  have ht : t < 1048576 := by omega
  have hg : g < 4294967296 := by omega
  rw [qkU lo h ht hg h1 h2, qkW n t g (by omega) (by omega) ht hg]
 ·rw [qkV lo h hw]
  unfold qkT
  have hU : qkx w = none := by
   unfold qkx
   rw [if_neg (by omega)]
  rw [hU]
  rfl

theorem qkY (lo : Nat) (h : qab) (w : Int) : qfV En lo Id.zbj [I w] h = some (qkB w, h) := by
 have hR := fun lo => qkX lo h w
 refine qgy rfl Fn.zbj rfl rfl ?_
 unfold qkT at hR
 unfold qkB
 cases hU : qkx w with
 | none =>
   rw [hU] at hR
   simp only [qkS, qkA, qkC, qkE] at hR ⊢
   have e : Value.complex .f64 0 0 = cx 0 0 := by
    show Value.complex .f64 0 0 = .complex .f64 (fl 0) (fl 0)
    rw [qkw]
   have hT := fun lo => qkK lo h (a := 0) 0 (by omega)
   have hG := fun lo => qkL lo h 0 (b := 0) (by omega)
   rw [← e] at hT hG
   repeat' first | refine .A ?_ | refine .B ?_ | refine .J ?_ | refine .P (hR _) ?_ | refine .P (hT _) ?_ | refine .P (hG _) ?_ | refine .F ?_ | refine .Y ?_ | fail
   rfl
 | some p =>
   obtain ⟨t, g⟩ := p
   obtain ⟨h1, h2, _⟩ := qkH hU
   rw [hU] at hR
   simp only [qkS, qkA, qkC, qkE] at hR ⊢
   have hT := fun lo => qkK lo h (a := t) g (by omega)
   have hG := fun lo => qkL lo h t (b := g) (by omega)
   repeat' first | refine .A ?_ | refine .B ?_ | refine .J ?_ | refine .P (hR _) ?_ | refine .P (hT _) ?_ | refine .P (hG _) ?_ | refine .F ?_ | refine .Y ?_ | fail
   rfl

theorem qkZ {g : Nat} (hg : g < 4294967296) : qkz g < 4294967296 := by unfold qkz; split <;> omega

theorem qk0 (lo : Nat) (h : qab) (w l : Int) : qfV En lo Id.zbh [I w, I l] h = some (qkG (qkD w l), h) := by
 have hR := fun lo => qkX lo h w
 have hM := fun lo => qkO lo h l
 refine qgy rfl Fn.zbh rfl rfl ?_
 unfold qkT at hR
 unfold qkD qkG
 cases hU : qkx w with
 | none =>
   rw [hU] at hR
   simp only [qkS, qkA, qkC, qkE] at hR ⊢
   repeat' first | refine .A ?_ | refine .B ?_ | refine .C ?_ | refine .G ?_ | refine .J ?_ | refine .t6 ?_ | refine .P (hR _) ?_ | refine .F ?_ | refine .Y ?_ | fail
   rfl
 | some p =>
   obtain ⟨t, g⟩ := p
   obtain ⟨h1, h2, _⟩ := qkH hU
   rw [hU] at hR
   simp only [qkS, qkA, qkC, qkE] at hR ⊢
   have hT := fun lo => qkK lo h (a := t) g (by omega)
   by_cases hl : 0 ≤ l ∧ l ≤ 64
   ·rw [decide_eq_true hl] at hM
    rw [if_pos hl]
    obtain ⟨k, rfl⟩ : ∃ k : Nat, l = k := ⟨l.toNat, by omega⟩
    by_cases ht : t = 0
    ·rw [if_pos ht]
     repeat' first | refine .A ?_ | refine .B ?_ | refine .C ?_ | refine .D ?_ | refine .G ?_ | refine .J ?_ | refine .t5 ?_ | refine .f6 ?_ | refine .P (hR _) ?_ | refine .P (hM _) ?_ | refine .P (hT _) ?_ | refine .F ?_ | refine .Y ?_ | fail
     rfl
    ·rw [if_neg ht]
     rw [Int.toNat_natCast]
     have hB := fun lo => qkQ lo h t h2 k
     have hg := qkZ h2
     generalize qkz g = g' at hB hg ⊢
     have hW := fun lo => qkP lo h (t := k) (g := g') (by omega) hg
     have hs : IntKind.i64.wrap ((t : Int) - 1) = (t : Int) - 1 := qiI (by omega) (by omega)
     repeat' first | refine .A ?_ | refine .B ?_ | refine .D ?_ | refine .F ?_ | refine .G ?_ | refine .H ?_ | refine .J ?_ | refine .f5 ?_ | refine .f6 ?_ | (show EG _ _ (⟨_, .call _ _, _, _⟩ :: _) _ _ _ _ _ _; first | refine .P (hR _) ?_ | refine .P (hM _) ?_ | refine .P (hT _) ?_ | refine .P (hB _) ?_ | refine .P (hW _) ?_) | refine .Y ?_ | fail
     simp only [hs]
     rfl
   ·rw [decide_eq_false hl] at hM
    rw [if_neg hl]
    repeat' first | refine .A ?_ | refine .B ?_ | refine .C ?_ | refine .D ?_ | refine .G ?_ | refine .J ?_ | refine .f6 ?_ | refine .P (hR _) ?_ | refine .P (hM _) ?_ | refine .F ?_ | refine .Y ?_ | fail
    rfl

theorem qk1 (lo : Nat) (h : qab) (w s : Int) : qfV En lo Id.zbi [I w, I s] h = some (qkG (qkF w s), h) := by
 have hR := fun lo => qkX lo h w
 refine qgy rfl Fn.zbi rfl rfl ?_
 unfold qkT at hR
 unfold qkF qkG
 cases hU : qkx w with
 | none =>
   rw [hU] at hR
   simp only [qkS, qkA, qkC, qkE] at hR ⊢
   repeat' first | refine .A ?_ | refine .B ?_ | refine .C ?_ | refine .G ?_ | refine .J ?_ | refine .t6 ?_ | refine .P (hR _) ?_ | refine .F ?_ | refine .Y ?_ | fail
   rfl
 | some p =>
   obtain ⟨t, g⟩ := p
   obtain ⟨h1, h2, _⟩ := qkH hU
   rw [hU] at hR
   simp only [qkS, qkA, qkC, qkE] at hR ⊢
   have hT := fun lo => qkK lo h (a := t) g (by omega)
   by_cases h0 : 0 ≤ s
   ·by_cases hs : s ≤ 63
    ·rw [if_pos ⟨h0, hs⟩]
     obtain ⟨k, rfl⟩ : ∃ k : Nat, s = k := ⟨s.toNat, by omega⟩
     rw [Int.toNat_natCast]
     have hB := fun lo => qkQ lo h t h2 (k + 1)
     have hg := qkZ h2
     generalize qkz g = g' at hB hg ⊢
     have hW := fun lo => qkP lo h (t := k + 1) (g := g') (by omega) hg
     repeat' first | refine .A ?_ | refine .B ?_ | refine .D ?_ | refine .F ?_ | refine .G ?_ | refine .H ?_ | refine .J ?_ | refine .f1 ?_ | refine .f4 ?_ | refine .f6 ?_ | refine .n2 ?_ | refine .P (hR _) ?_ | refine .P (hT _) ?_ | refine .P (hB _) ?_ | refine .P (hW _) ?_ | refine .Y ?_ | fail
     rfl
    ·rw [if_neg (fun g => hs g.2)]
     repeat' first | refine .A ?_ | refine .B ?_ | refine .C ?_ | refine .D ?_ | refine .G ?_ | refine .J ?_ | refine .f1 ?_ | refine .t4 ?_ | refine .f6 ?_ | refine .P (hR _) ?_ | refine .F ?_ | refine .Y ?_ | fail
     rfl
   ·rw [if_neg (fun g => h0 g.1)]
    repeat' first | refine .A ?_ | refine .B ?_ | refine .C ?_ | refine .D ?_ | refine .G ?_ | refine .J ?_ | refine .t1 ?_ | refine .f6 ?_ | refine .P (hR _) ?_ | refine .F ?_ | refine .Y ?_ | fail
    rfl
end
end Go.Proofs.YtnfcohmbcgfhbaaGreat

/- Entries changed: by the program, and by the document. -/
namespace Go.Proofs.YtnfcohmbcgfhbaaGreat
open Go Go.Ir

def chE (w : Int) (F : Ent → Int × Ent) : Int × Int :=
 match qjX w with
 | none => (0, 2)
 | some e => if e.lv then (if (F e).1 = 0 then (if (F e).2.may then ((qjY (F e).2 : Nat), 0) else (0, 1)) else (0, (F e).1)) else (0, 1)
def qk2 (e : Ent) : Int × Ent := if e.lk then (1, e) else if e.p = 7 then (7, e) else (0, { e with p := IntKind.i64.wrap (e.p + 1) })
def qk3 (e : Ent) : Int × Ent := if e.p = 0 then (8, e) else (0, { e with p := IntKind.i64.wrap (e.p - 1) })
def qk4 (b : Int) (e : Ent) : Int × Ent := if b < -15 ∨ 15 < b then (1, e) else (0, { e with u := IntKind.i64.wrap (e.u + b) })
def qk5 (r : Int × Int) : Value := .tuple #[I r.1, I r.2]

theorem qk6 (h : qab) (k k' : Blk) : (h ++ [k]).set h.length k' = h ++ [k'] := by rw [List.set_append_right _ _ (Nat.le_refl _), Nat.sub_self]; rfl

theorem qk7 {lo : Nat} {h : qab} {w : Int} {F : Ent → Int × Ent} {G : Ent → qab} {fn : Nat} {caps : Array Value} (hlo : lo ≤ h.length)
  (hf : ∀ e, qfV En lo fn (.pointer (some ⟨h.length, 0, none⟩) :: caps.toList) (h ++ [.row e.cs false]) = some (I (F e).1, G e)) (hg : ∀ e, (G e)[h.length]? = some (.row (F e).2.cs false)) :
  qfV En lo Id.zaI [I w, .func (.func fn) #[] caps] h = some (qk5 (chE w F), match qjX w with | none => h ++ [.row Ent.zero.cs false] | some e => if e.lv then G e else h ++ [.row e.cs false]) := by
 have hU := fun lo h => qj5 lo h w
 have hcat : ∀ k : Blk, (h ++ [k])[h.length]? = some k := fun k => List.getElem?_concat_length
 cases hu : qjX w with
 | none =>
   rw [hu] at hU
   have hst : stN lo (h ++ [.row [I 0, I 0, I 0, I 0, .bool false, .bool false] false]) ⟨h.length, 0, none⟩ (qaf (.agg Ent.zero.cs.toArray)) = some (h ++ [.row Ent.zero.cs false]) :=
    (qip (w := Ent.zero.cs) (hcat _) hlo (Nat.le_of_ble_eq_true rfl) rfl).trans (by rw [qk6])
   have hch : chE w F = (0, 2) := by unfold chE; rw [hu]
   rw [hch]
   refine qgx rfl Fn.zaI rfl rfl ?_
   repeat' first | refine .A ?_ | refine .B ?_ | refine .C ?_ | refine .G ?_ | refine .J ?_ | refine .t6 ?_ | refine .P (hU _ _) ?_ | refine .S hst ?_ | refine .F ?_ | refine .Y ?_ | fail
   rfl
 | some e =>
   rw [hu] at hU
   have hst : stN lo (h ++ [.row [I 0, I 0, I 0, I 0, .bool false, .bool false] false]) ⟨h.length, 0, none⟩ (qaf (.agg e.cs.toArray)) = some (h ++ [.row e.cs false]) :=
    (qip (w := e.cs) (hcat _) hlo (Nat.le_of_ble_eq_true rfl) rfl).trans (by rw [qk6])
   have l5 : qav (h ++ [.row e.cs false]) none ⟨h.length, 0 + 5, none⟩ = some (.bool e.lv) := qin (hcat _) rfl
   have hC := hf e
   have l6 : qav (G e) (some 6) ⟨h.length, 0, none⟩ = some (.agg (F e).2.cs.toArray) := qio (hg e) (Nat.le_of_ble_eq_true rfl) rfl
   have hP := fun lo => qj7 lo (G e) (F e).2
   unfold pkV at hP
   have hch : chE w F = if e.lv then (if (F e).1 = 0 then (if (F e).2.may then (((qjY (F e).2 : Nat) : Int), (0 : Int)) else (0, 1)) else (0, (F e).1)) else (0, 1) := by unfold chE; rw [hu]
   rw [hch]
   generalize hFe : F e = r at hC l6 hP ⊢
   obtain ⟨c, e'⟩ := r
   have hC : qfV En lo fn (.pointer (some ⟨h.length, 0, none⟩) :: caps.toList) (h ++ [.row e.cs false]) = some (I c, G e) := hC
   have l6 : qav (G e) (some 6) ⟨h.length, 0, none⟩ = some (.agg e'.cs.toArray) := l6
   have hP : ∀ lo, qfV En lo Id.zaB [.agg e'.cs.toArray] (G e) = some (if e'.may then .tuple #[N (qjY e'), I 0] else .tuple #[I 0, I 1], G e) := hP
   show qfV En lo Id.zaI [I w, .func (.func fn) #[] caps] h = some (qk5 (if e.lv then (if c = 0 then (if e'.may then (((qjY e' : Nat) : Int), (0 : Int)) else (0, 1)) else (0, c)) else (0, 1)), if e.lv then G e else h ++ [.row e.cs false])
   generalize e.lv = lv at *
   cases lv with
   | false =>
     rw [if_neg (by simp), if_neg (by simp)]
     refine qgx rfl Fn.zaI rfl rfl ?_
     repeat' first | refine .A ?_ | refine .B ?_ | refine .C ?_ | refine .D ?_ | refine .G ?_ | refine .J ?_ | refine .f6 ?_ | refine .L l5 ?_ | refine .P (hU _ _) ?_ | refine .S hst ?_ | refine .F ?_ | refine .Y ?_ | fail
     rfl
   | true =>
     rw [if_pos rfl, if_pos rfl]
     by_cases hc0 : c = 0
     ·rw [if_pos hc0]
      subst hc0
      by_cases hm : e'.may
      ·rw [if_pos hm]
       simp only [if_pos hm] at hP
       refine qgx rfl Fn.zaI rfl rfl ?_
       repeat' first | refine .A ?_ | refine .B ?_ | refine .D ?_ | refine .F ?_ | refine .G ?_ | refine .H ?_ | refine .J ?_ | refine .f6 ?_ | refine .L l5 ?_ | refine .L l6 ?_ | refine .P (hU _ _) ?_ | refine .P (hP _) ?_ | refine .callv rfl rfl rfl rfl (hC) ?_ | refine .S hst ?_ | refine .Y ?_ | fail
       rfl
      ·rw [if_neg hm]
       simp only [if_neg hm] at hP
       refine qgx rfl Fn.zaI rfl rfl ?_
       repeat' first | refine .A ?_ | refine .B ?_ | refine .D ?_ | refine .F ?_ | refine .G ?_ | refine .H ?_ | refine .J ?_ | refine .f6 ?_ | refine .L l5 ?_ | refine .L l6 ?_ | refine .P (hU _ _) ?_ | refine .P (hP _) ?_ | refine .callv rfl rfl rfl rfl (hC) ?_ | refine .S hst ?_ | refine .Y ?_ | fail
       rfl
     ·rw [if_neg hc0]
      refine qgx rfl Fn.zaI rfl rfl ?_
      repeat' first | refine .A ?_ | refine .B ?_ | refine .C ?_ | refine .D ?_ | refine .F ?_ | refine .G ?_ | refine .H ?_ | refine .J ?_ | refine .t6 ?_ | refine .f6 ?_ | refine .L l5 ?_ | refine .P (hU _ _) ?_ | refine .callv rfl rfl rfl rfl (hC) ?_ | refine .S hst ?_ | refine .Y ?_ | fail
      rfl

section
variable {lo : Nat} {h : qab} {e : Ent}
theorem qk8 (hlo : lo ≤ h.length) (e : Ent) : qfV En lo Id.zaD [.pointer (some ⟨h.length, 0, none⟩)] (h ++ [.row e.cs false]) = some (I (qk2 e).1, h ++ [.row (qk2 e).2.cs false]) := by
 have hcat : ∀ k : Blk, (h ++ [k])[h.length]? = some k := fun k => List.getElem?_concat_length
 have l4 : qav (h ++ [.row e.cs false]) none ⟨h.length, 0 + 4, none⟩ = some (.bool e.lk) := qin (hcat _) rfl
 have l2 : qav (h ++ [.row e.cs false]) none ⟨h.length, 0 + 2, none⟩ = some (I e.p) := qin (hcat _) rfl
 have hst : stN lo (h ++ [.row e.cs false]) ⟨h.length, 0 + 2, none⟩ (qaf (I (IntKind.i64.wrap (e.p + 1)))) = some (h ++ [.row ({ e with p := IntKind.i64.wrap (e.p + 1) } : Ent).cs false]) :=
  (qip (w := ({ e with p := IntKind.i64.wrap (e.p + 1) } : Ent).cs) (hcat _) hlo (Nat.le_of_ble_eq_true rfl) rfl).trans (by rw [qk6])
 cases hk : e.lk with
 | true =>
   rw [hk] at l4
   have hF : qk2 e = (1, e) := by unfold qk2; rw [hk]; rfl
   rw [hF]
   refine qgx rfl Fn.zaD rfl rfl ?_
   repeat' first | refine .A ?_ | refine .B ?_ | refine .C ?_ | refine .G ?_ | refine .J ?_ | refine .L l4 ?_ | refine .F ?_ | refine .Y ?_ | fail
   rfl
 | false =>
   rw [hk] at l4
   by_cases h7 : e.p = 7
   ·have hF : qk2 e = (7, e) := by unfold qk2; rw [hk, if_neg (by simp), if_pos h7]
    rw [hF]
    refine qgx rfl Fn.zaD rfl rfl ?_
    repeat' first | refine .A ?_ | refine .B ?_ | refine .C ?_ | refine .D ?_ | refine .G ?_ | refine .J ?_ | refine .t5 ?_ | refine .L l4 ?_ | refine .L l2 ?_ | refine .F ?_ | refine .Y ?_ | fail
    rfl
   ·have hF : qk2 e = (0, { e with p := IntKind.i64.wrap (e.p + 1) }) := by unfold qk2; rw [hk, if_neg (by simp), if_neg h7]
    rw [hF]
    refine qgx rfl Fn.zaD rfl rfl ?_
    repeat' first | refine .A ?_ | refine .B ?_ | refine .D ?_ | refine .F ?_ | refine .G ?_ | refine .H ?_ | refine .J ?_ | refine .f5 ?_ | refine .L l4 ?_ | refine .L l2 ?_ | refine .S hst ?_ | refine .Y ?_ | fail
    rfl
theorem qk9 (hlo : lo ≤ h.length) (e : Ent) : qfV En lo Id.zaG [.pointer (some ⟨h.length, 0, none⟩)] (h ++ [.row e.cs false]) = some (I (qk3 e).1, h ++ [.row (qk3 e).2.cs false]) := by
 have hcat : ∀ k : Blk, (h ++ [k])[h.length]? = some k := fun k => List.getElem?_concat_length
 have l2 : qav (h ++ [.row e.cs false]) none ⟨h.length, 0 + 2, none⟩ = some (I e.p) := qin (hcat _) rfl
 have hst : stN lo (h ++ [.row e.cs false]) ⟨h.length, 0 + 2, none⟩ (qaf (I (IntKind.i64.wrap (e.p - 1)))) = some (h ++ [.row ({ e with p := IntKind.i64.wrap (e.p - 1) } : Ent).cs false]) :=
  (qip (w := ({ e with p := IntKind.i64.wrap (e.p - 1) } : Ent).cs) (hcat _) hlo (Nat.le_of_ble_eq_true rfl) rfl).trans (by rw [qk6])
 by_cases h7 : e.p = 0
 ·have hF : qk3 e = (8, e) := by unfold qk3; rw [if_pos h7]
  rw [hF]
  refine qgx rfl Fn.zaG rfl rfl ?_
  repeat' first | refine .A ?_ | refine .B ?_ | refine .C ?_ | refine .J ?_ | refine .t5 ?_ | refine .L l2 ?_ | refine .F ?_ | refine .Y ?_ | fail
  rfl
 ·have hF : qk3 e = (0, { e with p := IntKind.i64.wrap (e.p - 1) }) := by unfold qk3; rw [if_neg h7]
  rw [hF]
  refine qgx rfl Fn.zaG rfl rfl ?_
  repeat' first | refine .A ?_ | refine .B ?_ | refine .D ?_ | refine .F ?_ | refine .J ?_ | refine .f5 ?_ | refine .L l2 ?_ | refine .S hst ?_ | refine .Y ?_ | fail
  rfl
theorem qla (b : Int) (hlo : lo ≤ (h ++ [Blk.row [I b] false]).length) (e : Ent) : qfV En lo Id.zay [.pointer (some ⟨(h ++ [Blk.row [I b] false]).length, 0, none⟩), .pointer (some ⟨h.length, 0, none⟩)] (h ++ [Blk.row [I b] false] ++ [.row e.cs false]) = some (I (qk4 b e).1, h ++ [Blk.row [I b] false] ++ [.row (qk4 b e).2.cs false]) := by
 have hcb : (h ++ [Blk.row [I b] false] ++ [.row e.cs false])[h.length]? = some (.row [I b] false) := by
  rw [List.getElem?_append_left (by simp)]; exact List.getElem?_concat_length
 have lb : qav (h ++ [Blk.row [I b] false] ++ [.row e.cs false]) none ⟨h.length, 0, none⟩ = some (I b) := qin hcb rfl
 generalize h ++ [Blk.row [I b] false] = h1 at *
 have hcat : ∀ k : Blk, (h1 ++ [k])[h1.length]? = some k := fun k => List.getElem?_concat_length
 have l3 : qav (h1 ++ [.row e.cs false]) none ⟨h1.length, 0 + 3, none⟩ = some (I e.u) := qin (hcat _) rfl
 have hst : stN lo (h1 ++ [.row e.cs false]) ⟨h1.length, 0 + 3, none⟩ (qaf (I (IntKind.i64.wrap (e.u + b)))) = some (h1 ++ [.row ({ e with u := IntKind.i64.wrap (e.u + b) } : Ent).cs false]) :=
  (qip (w := ({ e with u := IntKind.i64.wrap (e.u + b) } : Ent).cs) (hcat _) hlo (Nat.le_of_ble_eq_true rfl) rfl).trans (by rw [qk6])
 refine qgx rfl Fn.zay rfl rfl ?_
 unfold qk4
 by_cases h1' : b < -15
 ·rw [if_pos (.inl h1')]
  repeat' first | refine .A ?_ | refine .B ?_ | refine .C ?_ | refine .J ?_ | refine .t1 ?_ | refine .L lb ?_ | refine .D ?_ | refine .F ?_ | refine .Y ?_ | fail
  rfl
 ·by_cases h2' : 15 < b
  ·rw [if_pos (.inr h2')]
   repeat' first | refine .A ?_ | refine .B ?_ | refine .C ?_ | refine .J ?_ | refine .f1 ?_ | refine .t3 ?_ | refine .L lb ?_ | refine .F ?_ | refine .Y ?_ | fail
   rfl
  ·rw [if_neg (by omega)]
   repeat' first | refine .A ?_ | refine .B ?_ | refine .D ?_ | refine .F ?_ | refine .J ?_ | refine .f1 ?_ | refine .f3 ?_ | refine .L lb ?_ | refine .L l3 ?_ | refine .S hst ?_ | refine .Y ?_ | fail
   rfl

theorem qlb (lo : Nat) (h : qab) (w : Int) : qfV En lo Id.zaC [I w] h = some (qk5 (chE w qk2), h) := by
 have hC := qk7 (lo := h.length) (h := h) (w := w) (F := qk2) (G := fun e => h ++ [.row (qk2 e).2.cs false]) (fn := Id.zaD) (caps := #[]) (Nat.le_refl _) (fun e => qk8 (Nat.le_refl _) e) (fun e => List.getElem?_concat_length)
 refine qgy rfl Fn.zaC rfl rfl ?_
 unfold qk5 at hC ⊢
 repeat' first | refine .A ?_ | refine .B ?_ | refine .J ?_ | refine .P hC ?_ | refine .F ?_ | refine .Y ?_ | fail
 rfl
theorem qlc (lo : Nat) (h : qab) (w : Int) : qfV En lo Id.zaF [I w] h = some (qk5 (chE w qk3), h) := by
 have hC := qk7 (lo := h.length) (h := h) (w := w) (F := qk3) (G := fun e => h ++ [.row (qk3 e).2.cs false]) (fn := Id.zaG) (caps := #[]) (Nat.le_refl _) (fun e => qk9 (Nat.le_refl _) e) (fun e => List.getElem?_concat_length)
 refine qgy rfl Fn.zaF rfl rfl ?_
 unfold qk5 at hC ⊢
 repeat' first | refine .A ?_ | refine .B ?_ | refine .J ?_ | refine .P hC ?_ | refine .F ?_ | refine .Y ?_ | fail
 rfl
theorem qld (lo : Nat) (h : qab) (w b : Int) : qfV En lo Id.zax [I w, I b] h = some (qk5 (chE w (qk4 b)), h) := by
 have hC := qk7 (lo := h.length) (h := h ++ [.row [I b] false]) (w := w) (F := qk4 b) (G := fun e => h ++ [.row [I b] false] ++ [.row (qk4 b e).2.cs false]) (fn := Id.zay) (caps := #[.pointer (some ⟨h.length, 0, none⟩)]) (by simp) (fun e => qla b (by simp) e) (fun e => List.getElem?_concat_length)
 refine qgy rfl Fn.zax rfl rfl ?_
 unfold qk5 at hC ⊢
 repeat' first | refine .A ?_ | refine .B ?_ | refine .J ?_ | refine .P hC ?_ | refine .F ?_ | refine .Y ?_ | fail
 rfl
end
end Go.Proofs.YtnfcohmbcgfhbaaGreat

