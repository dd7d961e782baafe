/- The document's entries, and sizes rounded. -/
import Derived.Test.YtnfcohmbcgfhbaaGreatThreadP2
set_option linter.unusedVariables false
set_option linter.unusedSimpArgs false

namespace Go.Proofs.YtnfcohmbcgfhbaaGreat
open Go Go.Ir

end Go.Proofs.YtnfcohmbcgfhbaaGreat

/- The document's entries: packed, and sizes rounded. -/
namespace Go.Proofs.YtnfcohmbcgfhbaaGreat
open Go Go.Ir

theorem shl_u {f : Fr} {call : CallF} {lo : Nat} {h : Heap} {x y : Operand} {n k : Nat} {j : IntKind} (hx : ev f x = some (N n)) (hy : ev f y = some (.int j (k : Nat))) (hk : k ≤ 62) (hb : n * 2 ^ k < 2 ^ 62) : iop call lo (.bin .shl x y) f h = some (N (n * 2 ^ k), h) := by
 simp only [iop, hx, hy, ibin, isShift, if_true, ishift]
 rw [if_neg (by omega)]
 have : min ((k : Int).toNat) IntKind.i64.bits = k := by show min _ 64 = _; omega
 rw [this, show ((n : Int) * 2 ^ k) = ((n * 2 ^ k : Nat) : Int) by simp, wrap64_nat hb]

end Go.Proofs.YtnfcohmbcgfhbaaGreat

/- The document's entries, unpacked. -/
namespace Go.Proofs.YtnfcohmbcgfhbaaGreat
open Go Go.Ir

theorem shr_e {f : Fr} {call : CallF} {lo : Nat} {h : Heap} {x y : Operand} {n k q : Nat} {j : IntKind} (hx : ev f x = some (N n)) (hy : ev f y = some (.int j (k : Nat))) (hk : k ≤ 62) (hq : n / 2 ^ k = q) : iop call lo (.bin .shr x y) f h = some (N q, h) := by
 subst hq
 simp only [iop, hx, hy, ibin, isShift, if_true, ishift]
 rw [if_neg (by omega)]
 have : min ((k : Int).toNat) IntKind.i64.bits = k := by show min _ 64 = _; omega
 rw [this, Int.fdiv_eq_ediv_of_nonneg _ (Int.le_of_lt (Int.pow_pos (by decide)))]
 simp
theorem rem_e {f : Fr} {call : CallF} {lo : Nat} {h : Heap} {x y : Operand} {a b r : Nat} (hx : ev f x = some (N a)) (hy : ev f y = some (N b)) (hb : b ≠ 0) (hr : a % b = r) : iop call lo (.bin .rem x y) f h = some (N r, h) := by
 subst hr
 have hb' : ¬ ((b : Int) = 0) := by omega
 have e1 : (a : Int).tmod (b : Int) = ((a % b : Nat) : Int) := by rw [Int.tmod_eq_emod_of_nonneg (by omega)]; rfl
 simp only [iop, hx, hy, ibin, isShift, ibinI, if_true, if_neg hb', e1]
 rfl

section
variable {E : Env} {lo : Nat} {os : List IOper} {f : Fr} {h : Heap} {hs : List Heap} {k : List Ir.Item} {rs : List IRes} {Q : Value → Heap → Prop} {d : Nat} {g : Option (Nat × Bool)} {x y : Operand}
theorem g_shr {n k' q : Nat} {j : IntKind} (hq : n / 2 ^ k' = q) (hw : want g f = some true) (hx : ev f x = some (N n)) (hy : ev f y = some (.int j (k' : Nat))) (hk : k' ≤ 62) (c : EG E lo os hs k ((d, N q) :: f) h rs Q) :
  EG E lo (⟨some d, .bin .shr x y, g, 0⟩ :: os) hs k f h rs Q := .go hw (shr_e hx hy hk hq) rfl c
theorem g_rem {a b r : Nat} (hr : a % b = r) (hw : want g f = some true) (hx : ev f x = some (N a)) (hy : ev f y = some (N b)) (hb : b ≠ 0) (c : EG E lo os hs k ((d, N r) :: f) h rs Q) :
  EG E lo (⟨some d, .bin .rem x y, g, 0⟩ :: os) hs k f h rs Q := .go hw (rem_e hx hy hb hr) rfl c
end

end Go.Proofs.YtnfcohmbcgfhbaaGreat

/- Whole numbers as floats. -/
namespace Go.Proofs.YtnfcohmbcgfhbaaGreat
open Go Go.Ir

def fl (n : Nat) : Nat := Ieee.double.nearest false n 0

theorem fl_eq (n : Nat) : FloatKind.f64.nearest (n : Int) = fl n := by
 unfold FloatKind.nearest FloatKind.encode Ieee.Format.write fl
 have hd : decide ((n : Int) < 0) = false := decide_eq_false (by omega)
 simp only [hd, Int.natAbs_natCast, FloatKind.format]

theorem cut0 (n : Nat) (neg : Bool) : Ieee.Toward.even.cut neg n 0 = n := by
 unfold Ieee.Toward.cut
 simp [Nat.mod_one]

theorem log2_mul_pow {c k : Nat} (hc : c ≠ 0) : (c * 2 ^ k).log2 = c.log2 + k := by
 have hpos : 0 < 2 ^ k := Nat.two_pow_pos k
 have h0 : c * 2 ^ k ≠ 0 := Nat.mul_ne_zero hc (by omega)
 have h1 := Nat.log2_self_le hc
 have h2 := Nat.lt_log2_self (n := c)
 refine Nat.le_antisymm ?_ ?_
 ·have : c * 2 ^ k < 2 ^ (c.log2 + k + 1) := by
   rw [show c.log2 + k + 1 = (c.log2 + 1) + k by omega, Nat.pow_add]
   exact Nat.mul_lt_mul_of_pos_right h2 hpos
  have := (Nat.log2_lt h0).2 this
  omega
 ·refine (Nat.le_log2 h0).2 ?_
  rw [Nat.pow_add]
  exact Nat.mul_le_mul_right _ h1

theorem read_fl {n : Nat} (h : n < 2 ^ 53) : ∃ k : Nat, k ≤ 1074 ∧ Ieee.double.read (fl n) = .number false (n * 2 ^ k) (-(k : Int)) := by
 by_cases h0 : n = 0
 ·subst h0
  exact ⟨1074, Nat.le_refl _, by unfold fl; decide +kernel⟩
 have hL : n.log2 < 53 := (Nat.log2_lt h0).2 h
 have h1 := Nat.log2_self_le h0
 have h2 := Nat.lt_log2_self (n := n)
 have hb : Ieee.double.binade = 4503599627370496 := by decide +kernel
 have hi : Ieee.double.infRung = 9218868437227405312 := by decide +kernel
 have hs : Ieee.double.signWeight = 9223372036854775808 := by decide +kernel
 have hp : Ieee.double.leastPlace = -1074 := by decide
 have hs1 : 4503599627370496 ≤ n * 2 ^ (52 - n.log2) := by
  have : 2 ^ n.log2 * 2 ^ (52 - n.log2) ≤ n * 2 ^ (52 - n.log2) := Nat.mul_le_mul_right _ h1
  rw [← Nat.pow_add, show n.log2 + (52 - n.log2) = 52 by omega] at this
  exact this
 have hs2 : n * 2 ^ (52 - n.log2) < 9007199254740992 := by
  have : n * 2 ^ (52 - n.log2) < 2 ^ (n.log2 + 1) * 2 ^ (52 - n.log2) := Nat.mul_lt_mul_of_pos_right h2 (Nat.two_pow_pos _)
  rw [← Nat.pow_add, show n.log2 + 1 + (52 - n.log2) = 53 by omega] at this
  exact this
 have hfl : fl n = (n.log2 + 1022) * 4503599627370496 + n * 2 ^ (52 - n.log2) := by
  unfold fl Ieee.Format.nearest
  rw [if_neg h0]
  have e1 : max ((0 : Int) + (n.log2 : Int) - (Ieee.double.fractionBits : Nat)) Ieee.double.leastPlace = (n.log2 : Int) - 52 := by
   rw [hp, show (Ieee.double.fractionBits : Int) = 52 from rfl]; omega
  rw [e1]
  simp only
  rw [show ((0 : Int) - ((n.log2 : Int) - 52)).toNat = 52 - n.log2 by omega, show ((n.log2 : Int) - 52 - 0).toNat = 0 by omega, cut0, Nat.shiftLeft_eq, hp, show ((n.log2 : Int) - 52 - -1074).toNat = n.log2 + 1022 by omega, hb, hi]
  unfold Ieee.Format.word
  rw [if_neg (by simp)]
  omega
 generalize hsd : n * 2 ^ (52 - n.log2) = s at hs1 hs2 hfl
 have hr : Ieee.double.read (fl n) = .number false s (-((52 - n.log2 : Nat) : Int)) := by
  rw [hfl]
  unfold Ieee.Format.read
  rw [hb, hi, hs, hp]
  have w1 : ((n.log2 + 1022) * 4503599627370496 + s) / 9223372036854775808 % 2 = 0 := by omega
  have w2 : ((n.log2 + 1022) * 4503599627370496 + s) % 9223372036854775808 = (n.log2 + 1022) * 4503599627370496 + s := by omega
  have w3 : ((n.log2 + 1022) * 4503599627370496 + s) % 4503599627370496 = s - 4503599627370496 := by omega
  have w4 : ((n.log2 + 1022) * 4503599627370496 + s) / 4503599627370496 = n.log2 + 1023 := by omega
  simp only [w1, w2, w3, w4]
  rw [if_neg (by omega), if_pos (by omega), show 4503599627370496 + (s - 4503599627370496) = s by omega, show (-1074 : Int) + ((n.log2 + 1023 - 1 : Nat) : Int) = -((52 - n.log2 : Nat) : Int) by omega]
  rfl
 exact ⟨52 - n.log2, by omega, by rw [hsd]; exact hr⟩

theorem signed_nat (m u : Nat) : Ieee.signed false m u = ((m * 2 ^ u : Nat) : Int) := by
 unfold Ieee.signed
 simp [Nat.shiftLeft_eq]

theorem fl_int {n : Nat} (h : n < 2 ^ 53) : (FloatKind.f64.decode (fl n)).toInt .zero = some (n : Int) := by
 obtain ⟨k, hk, ha⟩ := read_fl h
 unfold FloatKind.decode
 rw [show FloatKind.f64.format = Ieee.double from rfl, ha]
 unfold Ieee.Datum.toInt Ieee.Datum.integral
 simp only
 have s1 : (-(k : Int)).toNat = 0 := by omega
 have s2 : (- -(k : Int)).toNat = k := by omega
 rw [s1, s2, Nat.shiftLeft_zero, signed_nat]
 by_cases h0 : n = 0
 ·subst h0
  unfold Ieee.Toward.cut
  simp
 ·have hl : k ≤ (n * 2 ^ k).log2 + 2 := by rw [log2_mul_pow h0]; omega
  unfold Ieee.Toward.cut
  simp only [Nat.min_eq_left hl, Nat.one_shiftLeft, Nat.mul_div_cancel _ (Nat.two_pow_pos k)]
  simp
end Go.Proofs.YtnfcohmbcgfhbaaGreat

/- Heads: by the program, and by the document. -/
namespace Go.Ir
open Go
section
variable {E : Env} {lo : Nat} {os : List IOper} {f : Fr} {h : Heap} {hs : List Heap} {k : List Item} {rs : List IRes} {Q : Value → Heap → Prop} {d : Nat} {g : Option (Nat × Bool)} {x y : Operand}
theorem EG.convF {a : Nat} {n : Int} (hw : want g f = some true) (hx : ev f x = some (.float .f64 a)) (hn : (FloatKind.f64.decode a).toInt .zero = some n) (hr : IntKind.i64.min ≤ n ∧ n ≤ IntKind.i64.max) (z : EG E lo os hs k ((d, .int .i64 n) :: f) h rs Q) :
  EG E lo (⟨some d, .conv (.int .i64) x, g, 0⟩ :: os) hs k f h rs Q := .go hw (by
   simp only [iop, hx, iconv, hn, if_pos hr]) rfl z
end
end Go.Ir
namespace Go.Proofs.YtnfcohmbcgfhbaaGreat
open Go Go.Ir

theorem fl_zero : fl 0 = 0 := by unfold fl; decide +kernel
abbrev cx (a b : Nat) : Value := .complex .f64 (fl a) (fl b)

def headU (w : Int) : Option (Nat × Nat) := if 0 ≤ w ∧ w < 4503599627370496 ∧ w % 1048576 ≤ 64 then some ((w % 1048576).toNat, (w / 1048576).toNat) else none
def headW (t g : Nat) : Nat := t + g * 1048576
def nextG (g : Nat) : Nat := if g = 4294967295 then 0 else g + 1
def unpO : Option (Nat × Nat) → Value
 | some p => .tuple #[N p.1, N p.2, I 0]
 | none => .tuple #[I 0, I 0, I 2]
def unpV (w : Int) : Value := unpO (headU w)
def popO (l : Int) : Option (Nat × Nat) → Int × Int × Int
 | none => (0, 0, 2)
 | some p => if 0 ≤ l ∧ l ≤ 64 then (if p.1 = 0 then (0, 0, 11) else ((headW l.toNat (nextG p.2) : Nat), (p.1 : Int) - 1, 0)) else (0, 0, 1)
def popR (w l : Int) : Int × Int × Int := popO l (headU w)
def pushO (s : Int) : Option (Nat × Nat) → Int × Int × Int
 | none => (0, 0, 2)
 | some p => if 0 ≤ s ∧ s ≤ 63 then ((headW (s.toNat + 1) (nextG p.2) : Nat), (p.1 : Int), 0) else (0, 0, 1)
def pushR (w s : Int) : Int × Int × Int := pushO s (headU w)
def triV (r : Int × Int × Int) : Value := .tuple #[I r.1, I r.2.1, I r.2.2]

theorem headU_some {w : Int} {t g : Nat} (h : headU w = some (t, g)) : t ≤ 64 ∧ g < 4294967296 ∧ w = (headW t g : Nat) := by
 unfold headU at h
 split at h
 ·injection h with h
  injection h with h1 h2
  unfold headW
  omega
 ·cases h

section
variable {lo : Nat} {h : Heap}
theorem hof_spec (lo : Nat) (h : Heap) (a b : Nat) : callR En lo Id.zbo [N a, N b] h = some (cx a b, h) := by
 refine call_scr rfl Fn.zbo rfl rfl ?_
 repeat' first | refine .A ?_ | refine .B ?_ | refine .J ?_ | refine .F ?_ | refine .Y ?_ | fail
 show Ir.tidy h (.complex .f64 (FloatKind.f64.nearest (a : Int)) (FloatKind.f64.nearest (b : Int))) h = _
 rw [fl_eq, fl_eq]
 rfl
theorem i64_nat {n : Nat} (h : n < 2 ^ 53) : IntKind.i64.min ≤ (n : Int) ∧ (n : Int) ≤ IntKind.i64.max := by
 have e1 : IntKind.i64.min = -9223372036854775808 := by decide
 have e2 : IntKind.i64.max = 9223372036854775807 := by decide
 rw [e1, e2]; omega
theorem htop_spec (lo : Nat) (h : Heap) {a : Nat} (b : Nat) (ha : a < 2 ^ 53) : callR En lo Id.zbl [cx a b] h = some (N a, h) := by
 refine call_scr rfl Fn.zbl rfl rfl ?_
 repeat' first | refine .A ?_ | refine .B ?_ | refine .J ?_ | refine .convF rfl rfl (fl_int ha) (i64_nat ha) ?_ | refine .F ?_ | refine .Y ?_ | fail
 rfl
theorem htag_spec (lo : Nat) (h : Heap) (a : Nat) {b : Nat} (hb : b < 2 ^ 53) : callR En lo Id.zbk [cx a b] h = some (N b, h) := by
 refine call_scr rfl Fn.zbk rfl rfl ?_
 repeat' first | refine .A ?_ | refine .B ?_ | refine .J ?_ | refine .convF rfl rfl (fl_int hb) (i64_nat hb) ?_ | refine .F ?_ | refine .Y ?_ | fail
 rfl
theorem htf_spec (lo : Nat) (h : Heap) : callR En lo Id.zbr [] h = some (fld 0 20, h) := callR_iff.2 ⟨60, by kernel_rfl⟩
theorem hgf_spec (lo : Nat) (h : Heap) : callR En lo Id.zbq [] h = some (fld 20 32, h) := callR_iff.2 ⟨60, by kernel_rfl⟩
theorem hmay_spec (lo : Nat) (h : Heap) (n : Int) : callR En lo Id.zbn [I n] h = some (.bool (decide (0 ≤ n ∧ n ≤ 64)), h) := by
 refine call_scr rfl Fn.zbn rfl rfl ?_
 by_cases h0 : 0 ≤ n
 ·by_cases h1 : n ≤ 64
  ·rw [decide_eq_true ⟨h0, h1⟩]
   repeat' first | refine .A ?_ | refine .B ?_ | refine .J ?_ | refine .t2 ?_ | refine .t4 ?_ | refine .F ?_ | refine .Y ?_ | fail
   rfl
  ·rw [decide_eq_false (fun g => h1 g.2)]
   repeat' first | refine .A ?_ | refine .B ?_ | refine .J ?_ | refine .f2 ?_ | refine .t4 ?_ | refine .F ?_ | refine .Y ?_ | fail
   rfl
 ·rw [decide_eq_false (fun g => h0 g.1)]
  repeat' first | refine .A ?_ | refine .B ?_ | refine .J ?_ | refine .f4 ?_ | refine .D ?_ | refine .F ?_ | refine .Y ?_ | fail
  rfl
theorem hword_spec (lo : Nat) (h : Heap) {t g : Nat} (ht : t < 1048576) (hg : g < 4294967296) : callR En lo Id.zbm [cx t g] h = some (N (headW t g), h) := by
 have h1 : ∀ lo, callR En lo Id.zaS [N 0, fld 0 20, N t] h = some (.tuple #[N t, I 0], h) := fun lo => by
  have := put_spec (lo := lo) (h := h) (a := 0) (b := 20) (n := 0) (k := t) (by omega) (by omega) (by omega) (by omega)
  rw [show 0 + t * 2 ^ 0 = t by omega] at this
  exact this
 have h2 : ∀ lo, callR En lo Id.zaS [N t, fld 20 32, N g] h = some (.tuple #[N (headW t g), I 0], h) := fun lo => by
  have := put_spec (lo := lo) (h := h) (a := 20) (b := 32) (n := t) (k := g) (by omega) (by omega) (by omega) (by omega)
  rw [show t + g * 2 ^ 20 = headW t g by unfold headW; omega] at this
  exact this
 have hT := fun lo => htop_spec lo h (a := t) g (by omega)
 have hG := fun lo => htag_spec lo h t (b := g) (by omega)
 refine call_scr rfl Fn.zbm rfl rfl ?_
 repeat' first | refine .A ?_ | refine .B ?_ | refine .J ?_ | (show EG _ _ (⟨_, .call _ _, _, _⟩ :: _) _ _ _ _ _ _; first | refine .P (htf_spec _ _) ?_ | refine .P (hgf_spec _ _) ?_ | refine .P (hT _) ?_ | refine .P (hG _) ?_ | refine .P (h1 _) ?_ | refine .P (h2 _) ?_) | refine .F ?_ | refine .Y ?_ | fail
 rfl
theorem hbehind_spec (lo : Nat) (h : Heap) (t : Nat) {g : Nat} (hg : g < 4294967296) (s : Nat) : callR En lo Id.zbj [cx t g, N s] h = some (cx s (nextG g), h) := by
 have hG := fun lo => htag_spec lo h t (b := g) (by omega)
 have hO := fun lo b => hof_spec lo h s b
 refine call_scr rfl Fn.zbj rfl rfl ?_
 unfold nextG
 by_cases hc : g = 4294967295
 ·rw [if_pos hc]
  have h0 : ∀ lo, callR En lo Id.zbo [N s, I 0] h = some (cx s 0, h) := fun lo => hO lo 0
  repeat' first | refine .A ?_ | refine .B ?_ | refine .C ?_ | refine .J ?_ | refine .t5 ?_ | refine .P (hG _) ?_ | refine .P (h0 _) ?_ | refine .F ?_ | fail
  rfl
 ·rw [if_neg hc]
  repeat' first | refine .A ?_ | refine .B ?_ | refine .D ?_ | refine .F ?_ | refine .J ?_ | refine .f5 ?_ | refine .n2 ?_ | refine .P (hG _) ?_ | refine .P (hO _ _) ?_ | fail
  rfl
theorem get_bad {a b : Nat} {w : Int} (hw : ¬ (0 ≤ w ∧ w < 4611686018427387904)) : callR En lo Id.zaR [I w, fld a b] h = some (I 0, h) := by
 have hW := fun lo => fword_spec lo h w
 rw [decide_eq_false hw] at hW
 refine call_scr rfl Fn.zaR rfl rfl ?_
 repeat' first | refine .A ?_ | refine .B ?_ | refine .C ?_ | refine .J ?_ | refine .P (hW _) ?_ | refine .F ?_ | refine .Y ?_ | fail
 rfl

def readO : Option (Nat × Nat) → Value
 | some p => .tuple #[cx p.1 p.2, I 0]
 | none => .tuple #[.complex .f64 0 0, I 2]
def readV (w : Int) : Value := readO (headU w)
theorem hread_nat (lo : Nat) (h : Heap) {t g n : Nat} (ht : t < 1048576) (hg : g < 4294967296) (h1 : ∀ lo, callR En lo Id.zaR [N n, fld 0 20] h = some (N t, h)) (h2 : ∀ lo, callR En lo Id.zaR [N n, fld 20 32] h = some (N g, h)) :
  callR En lo Id.zbp [N n] h = some (if t ≤ 64 ∧ headW t g = n then .tuple #[cx t g, I 0] else .tuple #[.complex .f64 0 0, I 2], h) := by
 have hO := fun lo => hof_spec lo h t g
 have hT := fun lo => htop_spec lo h (a := t) g (by omega)
 have hM := fun lo => hmay_spec lo h (t : Int)
 have hW := fun lo => hword_spec lo h (t := t) (g := g) ht hg
 generalize headW t g = e at *
 refine call_scr rfl Fn.zbp rfl rfl ?_
 by_cases h64 : t ≤ 64
 ·rw [decide_eq_true (by omega)] at hM
  by_cases he : e = n
  ·rw [if_pos ⟨h64, he⟩]
   repeat' first | refine .A ?_ | refine .B ?_ | refine .D ?_ | refine .F ?_ | refine .J ?_ | refine .f6 ?_ | (show EG _ _ (⟨_, .call _ _, _, _⟩ :: _) _ _ _ _ _ _; first | refine .P (htf_spec _ _) ?_ | refine .P (hgf_spec _ _) ?_ | refine .P (h1 _) ?_ | refine .P (h2 _) ?_ | refine .P (hO _) ?_ | refine .P (hT _) ?_ | refine .P (hM _) ?_ | refine .P (hW _) ?_) | refine .Y ?_ | fail
   rfl
  ·rw [if_neg (fun g => he g.2)]
   repeat' first | refine .A ?_ | refine .B ?_ | refine .C ?_ | refine .J ?_ | refine .t6 ?_ | (show EG _ _ (⟨_, .call _ _, _, _⟩ :: _) _ _ _ _ _ _; first | refine .P (htf_spec _ _) ?_ | refine .P (hgf_spec _ _) ?_ | refine .P (h1 _) ?_ | refine .P (h2 _) ?_ | refine .P (hO _) ?_ | refine .P (hT _) ?_ | refine .P (hM _) ?_ | refine .P (hW _) ?_) | refine .F ?_ | refine .Y ?_ | fail
   rfl
 ·rw [decide_eq_false (by omega)] at hM
  rw [if_neg (fun g => h64 g.1)]
  repeat' first | refine .A ?_ | refine .B ?_ | refine .C ?_ | refine .J ?_ | (show EG _ _ (⟨_, .call _ _, _, _⟩ :: _) _ _ _ _ _ _; first | refine .P (htf_spec _ _) ?_ | refine .P (hgf_spec _ _) ?_ | refine .P (h1 _) ?_ | refine .P (h2 _) ?_ | refine .P (hO _) ?_ | refine .P (hT _) ?_ | refine .P (hM _) ?_) | refine .D ?_ | refine .F ?_ | refine .Y ?_ | fail
  rfl
theorem hread_bad (lo : Nat) (h : Heap) {w : Int} (hw : ¬ (0 ≤ w ∧ w < 4611686018427387904)) : callR En lo Id.zbp [I w] h = some (.tuple #[.complex .f64 0 0, I 2], h) := by
 have h1 : ∀ lo, callR En lo Id.zaR [I w, fld 0 20] h = some (N 0, h) := fun lo => get_bad hw
 have h2 : ∀ lo, callR En lo Id.zaR [I w, fld 20 32] h = some (N 0, h) := fun lo => get_bad hw
 have hO := fun lo => hof_spec lo h 0 0
 have hT := fun lo => htop_spec lo h (a := 0) 0 (by omega)
 have hM : ∀ lo, callR En lo Id.zbn [N 0] h = some (.bool true, h) := fun lo => hmay_spec lo h ((0 : Nat) : Int)
 have hW : ∀ lo, callR En lo Id.zbm [cx 0 0] h = some (N 0, h) := fun lo => hword_spec lo h (t := 0) (g := 0) (by omega) (by omega)
 refine call_scr rfl Fn.zbp rfl rfl ?_
 repeat' first | refine .A ?_ | refine .B ?_ | refine .C ?_ | refine .J ?_ | refine .t6 ?_ | (show EG _ _ (⟨_, .call _ _, _, _⟩ :: _) _ _ _ _ _ _; first | refine .P (htf_spec _ _) ?_ | refine .P (hgf_spec _ _) ?_ | refine .P (h1 _) ?_ | refine .P (h2 _) ?_ | refine .P (hO _) ?_ | refine .P (hT _) ?_ | refine .P (hM _) ?_ | refine .P (hW _) ?_) | refine .F ?_ | refine .Y ?_ | fail
 rfl
theorem readV_of (n t g : Nat) (e1 : n % 1048576 = t) (e2 : n / 1048576 % 4294967296 = g) (ht : t < 1048576) (hg : g < 4294967296) : readV (n : Int) = if t ≤ 64 ∧ headW t g = n then .tuple #[cx t g, I 0] else .tuple #[.complex .f64 0 0, I 2] := by
 unfold readV
 by_cases hc : t ≤ 64 ∧ headW t g = n
 ·have hc2 := hc.2
  unfold headW at hc2
  have hU : headU (n : Int) = some (t, g) := by
   unfold headU
   have a1 : ((n : Int) % 1048576).toNat = t := by omega
   have a2 : ((n : Int) / 1048576).toNat = g := by omega
   rw [if_pos (by omega), a1, a2]
  rw [hU, if_pos hc]
  rfl
 ·rw [if_neg hc]
  have hU : headU (n : Int) = none := by
   unfold headU
   unfold headW at hc
   rw [if_neg (by omega)]
  rw [hU]
  rfl
theorem hread_spec (lo : Nat) (h : Heap) (w : Int) : callR En lo Id.zbp [I w] h = some (readV w, h) := by
 by_cases hw : 0 ≤ w ∧ w < 4611686018427387904
 ·obtain ⟨n, rfl⟩ : ∃ n : Nat, w = n := ⟨w.toNat, by omega⟩
  have h1 : ∀ lo, callR En lo Id.zaR [N n, fld 0 20] h = some (N (n / 2 ^ 0 % 2 ^ 20), h) := fun lo => get_spec (lo := lo) (h := h) (a := 0) (b := 20) (n := n) (by omega) (by omega) (by omega)
  have h2 : ∀ lo, callR En lo Id.zaR [N n, fld 20 32] h = some (N (n / 2 ^ 20 % 2 ^ 32), h) := fun lo => get_spec (lo := lo) (h := h) (a := 20) (b := 32) (n := n) (by omega) (by omega) (by omega)
  obtain ⟨t, et⟩ : ∃ t, n / 2 ^ 0 % 2 ^ 20 = t := ⟨_, rfl⟩
  obtain ⟨g, eg⟩ : ∃ g, n / 2 ^ 20 % 2 ^ 32 = g := ⟨_, rfl⟩
  rw [et] at h1
  rw [eg] at h2
  have ht : t < 1048576 := by omega
  have hg : g < 4294967296 := by omega
  rw [hread_nat lo h ht hg h1 h2, readV_of n t g (by omega) (by omega) ht hg]
 ·rw [hread_bad lo h hw]
  unfold readV
  have hU : headU w = none := by
   unfold headU
   rw [if_neg (by omega)]
  rw [hU]
  rfl

theorem hunpack_spec (lo : Nat) (h : Heap) (w : Int) : callR En lo Id.zbi [I w] h = some (unpV w, h) := by
 have hR := fun lo => hread_spec lo h w
 refine call_scr rfl Fn.zbi rfl rfl ?_
 unfold readV at hR
 unfold unpV
 cases hU : headU w with
 | none =>
   rw [hU] at hR
   simp only [readO, unpO, popO, pushO] at hR ⊢
   have e : Value.complex .f64 0 0 = cx 0 0 := by
    show Value.complex .f64 0 0 = .complex .f64 (fl 0) (fl 0)
    rw [fl_zero]
   have hT := fun lo => htop_spec lo h (a := 0) 0 (by omega)
   have hG := fun lo => htag_spec lo h 0 (b := 0) (by omega)
   rw [← e] at hT hG
   repeat' first | refine .A ?_ | refine .B ?_ | refine .J ?_ | refine .P (hR _) ?_ | refine .P (hT _) ?_ | refine .P (hG _) ?_ | refine .F ?_ | refine .Y ?_ | fail
   rfl
 | some p =>
   obtain ⟨t, g⟩ := p
   obtain ⟨h1, h2, _⟩ := headU_some hU
   rw [hU] at hR
   simp only [readO, unpO, popO, pushO] at hR ⊢
   have hT := fun lo => htop_spec lo h (a := t) g (by omega)
   have hG := fun lo => htag_spec lo h t (b := g) (by omega)
   repeat' first | refine .A ?_ | refine .B ?_ | refine .J ?_ | refine .P (hR _) ?_ | refine .P (hT _) ?_ | refine .P (hG _) ?_ | refine .F ?_ | refine .Y ?_ | fail
   rfl

theorem nextG_lt {g : Nat} (hg : g < 4294967296) : nextG g < 4294967296 := by unfold nextG; split <;> omega

theorem hpop_spec (lo : Nat) (h : Heap) (w l : Int) : callR En lo Id.zbg [I w, I l] h = some (triV (popR w l), h) := by
 have hR := fun lo => hread_spec lo h w
 have hM := fun lo => hmay_spec lo h l
 refine call_scr rfl Fn.zbg rfl rfl ?_
 unfold readV at hR
 unfold popR triV
 cases hU : headU w with
 | none =>
   rw [hU] at hR
   simp only [readO, unpO, popO, pushO] at hR ⊢
   repeat' first | refine .A ?_ | refine .B ?_ | refine .C ?_ | refine .G ?_ | refine .J ?_ | refine .t6 ?_ | refine .P (hR _) ?_ | refine .F ?_ | refine .Y ?_ | fail
   rfl
 | some p =>
   obtain ⟨t, g⟩ := p
   obtain ⟨h1, h2, _⟩ := headU_some hU
   rw [hU] at hR
   simp only [readO, unpO, popO, pushO] at hR ⊢
   have hT := fun lo => htop_spec lo h (a := t) g (by omega)
   by_cases hl : 0 ≤ l ∧ l ≤ 64
   ·rw [decide_eq_true hl] at hM
    rw [if_pos hl]
    obtain ⟨k, rfl⟩ : ∃ k : Nat, l = k := ⟨l.toNat, by omega⟩
    by_cases ht : t = 0
    ·rw [if_pos ht]
     repeat' first | refine .A ?_ | refine .B ?_ | refine .C ?_ | refine .D ?_ | refine .G ?_ | refine .J ?_ | refine .t5 ?_ | refine .f6 ?_ | refine .P (hR _) ?_ | refine .P (hM _) ?_ | refine .P (hT _) ?_ | refine .F ?_ | refine .Y ?_ | fail
     rfl
    ·rw [if_neg ht]
     rw [Int.toNat_natCast]
     have hB := fun lo => hbehind_spec lo h t h2 k
     have hg := nextG_lt h2
     generalize nextG g = g' at hB hg ⊢
     have hW := fun lo => hword_spec lo h (t := k) (g := g') (by omega) hg
     have hs : IntKind.i64.wrap ((t : Int) - 1) = (t : Int) - 1 := wrap_id (by omega) (by omega)
     repeat' first | refine .A ?_ | refine .B ?_ | refine .D ?_ | refine .F ?_ | refine .G ?_ | refine .H ?_ | refine .J ?_ | refine .f5 ?_ | refine .f6 ?_ | (show EG _ _ (⟨_, .call _ _, _, _⟩ :: _) _ _ _ _ _ _; first | refine .P (hR _) ?_ | refine .P (hM _) ?_ | refine .P (hT _) ?_ | refine .P (hB _) ?_ | refine .P (hW _) ?_) | refine .Y ?_ | fail
     simp only [hs]
     rfl
   ·rw [decide_eq_false hl] at hM
    rw [if_neg hl]
    repeat' first | refine .A ?_ | refine .B ?_ | refine .C ?_ | refine .D ?_ | refine .G ?_ | refine .J ?_ | refine .f6 ?_ | refine .P (hR _) ?_ | refine .P (hM _) ?_ | refine .F ?_ | refine .Y ?_ | fail
    rfl

theorem hpush_spec (lo : Nat) (h : Heap) (w s : Int) : callR En lo Id.zbh [I w, I s] h = some (triV (pushR w s), h) := by
 have hR := fun lo => hread_spec lo h w
 refine call_scr rfl Fn.zbh rfl rfl ?_
 unfold readV at hR
 unfold pushR triV
 cases hU : headU w with
 | none =>
   rw [hU] at hR
   simp only [readO, unpO, popO, pushO] at hR ⊢
   repeat' first | refine .A ?_ | refine .B ?_ | refine .C ?_ | refine .G ?_ | refine .J ?_ | refine .t6 ?_ | refine .P (hR _) ?_ | refine .F ?_ | refine .Y ?_ | fail
   rfl
 | some p =>
   obtain ⟨t, g⟩ := p
   obtain ⟨h1, h2, _⟩ := headU_some hU
   rw [hU] at hR
   simp only [readO, unpO, popO, pushO] at hR ⊢
   have hT := fun lo => htop_spec lo h (a := t) g (by omega)
   by_cases h0 : 0 ≤ s
   ·by_cases hs : s ≤ 63
    ·rw [if_pos ⟨h0, hs⟩]
     obtain ⟨k, rfl⟩ : ∃ k : Nat, s = k := ⟨s.toNat, by omega⟩
     rw [Int.toNat_natCast]
     have hB := fun lo => hbehind_spec lo h t h2 (k + 1)
     have hg := nextG_lt h2
     generalize nextG g = g' at hB hg ⊢
     have hW := fun lo => hword_spec lo h (t := k + 1) (g := g') (by omega) hg
     repeat' first | refine .A ?_ | refine .B ?_ | refine .D ?_ | refine .F ?_ | refine .G ?_ | refine .H ?_ | refine .J ?_ | refine .f1 ?_ | refine .f4 ?_ | refine .f6 ?_ | refine .n2 ?_ | refine .P (hR _) ?_ | refine .P (hT _) ?_ | refine .P (hB _) ?_ | refine .P (hW _) ?_ | refine .Y ?_ | fail
     rfl
    ·rw [if_neg (fun g => hs g.2)]
     repeat' first | refine .A ?_ | refine .B ?_ | refine .C ?_ | refine .D ?_ | refine .G ?_ | refine .J ?_ | refine .f1 ?_ | refine .t4 ?_ | refine .f6 ?_ | refine .P (hR _) ?_ | refine .F ?_ | refine .Y ?_ | fail
     rfl
   ·rw [if_neg (fun g => h0 g.1)]
    repeat' first | refine .A ?_ | refine .B ?_ | refine .C ?_ | refine .D ?_ | refine .G ?_ | refine .J ?_ | refine .t1 ?_ | refine .f6 ?_ | refine .P (hR _) ?_ | refine .F ?_ | refine .Y ?_ | fail
    rfl
end
end Go.Proofs.YtnfcohmbcgfhbaaGreat

/- Entries changed: by the program, and by the document. -/
namespace Go.Proofs.YtnfcohmbcgfhbaaGreat
open Go Go.Ir

def chE (w : Int) (F : Ent → Int × Ent) : Int × Int :=
 match unpackE w with
 | none => (0, 2)
 | some e => if e.lv then (if (F e).1 = 0 then (if (F e).2.may then ((packN (F e).2 : Nat), 0) else (0, 1)) else (0, (F e).1)) else (0, 1)
def pinF (e : Ent) : Int × Ent := if e.lk then (1, e) else if e.p = 7 then (7, e) else (0, { e with p := IntKind.i64.wrap (e.p + 1) })
def unpinF (e : Ent) : Int × Ent := if e.p = 0 then (8, e) else (0, { e with p := IntKind.i64.wrap (e.p - 1) })
def guardF (b : Int) (e : Ent) : Int × Ent := if b < -15 ∨ 15 < b then (1, e) else (0, { e with u := IntKind.i64.wrap (e.u + b) })
def pairV (r : Int × Int) : Value := .tuple #[I r.1, I r.2]

theorem set_last (h : Heap) (k k' : Blk) : (h ++ [k]).set h.length k' = h ++ [k'] := by rw [List.set_append_right _ _ (Nat.le_refl _), Nat.sub_self]; rfl

theorem changedE_spec {lo : Nat} {h : Heap} {w : Int} {F : Ent → Int × Ent} {G : Ent → Heap} {fn : Nat} {caps : Array Value} (hlo : lo ≤ h.length)
  (hf : ∀ e, callR En lo fn (.pointer (some ⟨h.length, 0, none⟩) :: caps.toList) (h ++ [.row e.cs false]) = some (I (F e).1, G e)) (hg : ∀ e, (G e)[h.length]? = some (.row (F e).2.cs false)) :
  callR En lo Id.zaH [I w, .func (.func fn) #[] caps] h = some (pairV (chE w F), match unpackE w with | none => h ++ [.row Ent.zero.cs false] | some e => if e.lv then G e else h ++ [.row e.cs false]) := by
 have hU := fun lo h => unpack_spec lo h w
 have hcat : ∀ k : Blk, (h ++ [k])[h.length]? = some k := fun k => List.getElem?_concat_length
 cases hu : unpackE w with
 | none =>
   rw [hu] at hU
   have hst : stN lo (h ++ [.row [I 0, I 0, I 0, I 0, .bool false, .bool false] false]) ⟨h.length, 0, none⟩ (vcells (.agg Ent.zero.cs.toArray)) = some (h ++ [.row Ent.zero.cs false]) :=
    (st_row (w := Ent.zero.cs) (hcat _) hlo (Nat.le_of_ble_eq_true rfl) rfl).trans (by rw [set_last])
   have hch : chE w F = (0, 2) := by unfold chE; rw [hu]
   rw [hch]
   refine call_of rfl Fn.zaH rfl rfl ?_
   repeat' first | refine .A ?_ | refine .B ?_ | refine .C ?_ | refine .G ?_ | refine .J ?_ | refine .t6 ?_ | refine .P (hU _ _) ?_ | refine .S hst ?_ | refine .F ?_ | refine .Y ?_ | fail
   rfl
 | some e =>
   rw [hu] at hU
   have hst : stN lo (h ++ [.row [I 0, I 0, I 0, I 0, .bool false, .bool false] false]) ⟨h.length, 0, none⟩ (vcells (.agg e.cs.toArray)) = some (h ++ [.row e.cs false]) :=
    (st_row (w := e.cs) (hcat _) hlo (Nat.le_of_ble_eq_true rfl) rfl).trans (by rw [set_last])
   have l5 : loadV (h ++ [.row e.cs false]) none ⟨h.length, 0 + 5, none⟩ = some (.bool e.lv) := ld_row (hcat _) rfl
   have hC := hf e
   have l6 : loadV (G e) (some 6) ⟨h.length, 0, none⟩ = some (.agg (F e).2.cs.toArray) := ldN_row (hg e) (Nat.le_of_ble_eq_true rfl) rfl
   have hP := fun lo => pack_spec lo (G e) (F e).2
   unfold pkV at hP
   have hch : chE w F = if e.lv then (if (F e).1 = 0 then (if (F e).2.may then (((packN (F e).2 : Nat) : Int), (0 : Int)) else (0, 1)) else (0, (F e).1)) else (0, 1) := by unfold chE; rw [hu]
   rw [hch]
   generalize hFe : F e = r at hC l6 hP ⊢
   obtain ⟨c, e'⟩ := r
   have hC : callR En lo fn (.pointer (some ⟨h.length, 0, none⟩) :: caps.toList) (h ++ [.row e.cs false]) = some (I c, G e) := hC
   have l6 : loadV (G e) (some 6) ⟨h.length, 0, none⟩ = some (.agg e'.cs.toArray) := l6
   have hP : ∀ lo, callR En lo Id.zaA [.agg e'.cs.toArray] (G e) = some (if e'.may then .tuple #[N (packN e'), I 0] else .tuple #[I 0, I 1], G e) := hP
   show callR En lo Id.zaH [I w, .func (.func fn) #[] caps] h = some (pairV (if e.lv then (if c = 0 then (if e'.may then (((packN e' : Nat) : Int), (0 : Int)) else (0, 1)) else (0, c)) else (0, 1)), if e.lv then G e else h ++ [.row e.cs false])
   generalize e.lv = lv at *
   cases lv with
   | false =>
     rw [if_neg (by simp), if_neg (by simp)]
     refine call_of rfl Fn.zaH rfl rfl ?_
     repeat' first | refine .A ?_ | refine .B ?_ | refine .C ?_ | refine .D ?_ | refine .G ?_ | refine .J ?_ | refine .f6 ?_ | refine .L l5 ?_ | refine .P (hU _ _) ?_ | refine .S hst ?_ | refine .F ?_ | refine .Y ?_ | fail
     rfl
   | true =>
     rw [if_pos rfl, if_pos rfl]
     by_cases hc0 : c = 0
     ·rw [if_pos hc0]
      subst hc0
      by_cases hm : e'.may
      ·rw [if_pos hm]
       simp only [if_pos hm] at hP
       refine call_of rfl Fn.zaH rfl rfl ?_
       repeat' first | refine .A ?_ | refine .B ?_ | refine .D ?_ | refine .F ?_ | refine .G ?_ | refine .H ?_ | refine .J ?_ | refine .f6 ?_ | refine .L l5 ?_ | refine .L l6 ?_ | refine .P (hU _ _) ?_ | refine .P (hP _) ?_ | refine .callv rfl rfl rfl rfl (hC) ?_ | refine .S hst ?_ | refine .Y ?_ | fail
       rfl
      ·rw [if_neg hm]
       simp only [if_neg hm] at hP
       refine call_of rfl Fn.zaH rfl rfl ?_
       repeat' first | refine .A ?_ | refine .B ?_ | refine .D ?_ | refine .F ?_ | refine .G ?_ | refine .H ?_ | refine .J ?_ | refine .f6 ?_ | refine .L l5 ?_ | refine .L l6 ?_ | refine .P (hU _ _) ?_ | refine .P (hP _) ?_ | refine .callv rfl rfl rfl rfl (hC) ?_ | refine .S hst ?_ | refine .Y ?_ | fail
       rfl
     ·rw [if_neg hc0]
      refine call_of rfl Fn.zaH rfl rfl ?_
      repeat' first | refine .A ?_ | refine .B ?_ | refine .C ?_ | refine .D ?_ | refine .F ?_ | refine .G ?_ | refine .H ?_ | refine .J ?_ | refine .t6 ?_ | refine .f6 ?_ | refine .L l5 ?_ | refine .P (hU _ _) ?_ | refine .callv rfl rfl rfl rfl (hC) ?_ | refine .S hst ?_ | refine .Y ?_ | fail
      rfl

section
variable {lo : Nat} {h : Heap} {e : Ent}
theorem pin1_spec (hlo : lo ≤ h.length) (e : Ent) : callR En lo Id.zaC [.pointer (some ⟨h.length, 0, none⟩)] (h ++ [.row e.cs false]) = some (I (pinF e).1, h ++ [.row (pinF e).2.cs false]) := by
 have hcat : ∀ k : Blk, (h ++ [k])[h.length]? = some k := fun k => List.getElem?_concat_length
 have l4 : loadV (h ++ [.row e.cs false]) none ⟨h.length, 0 + 4, none⟩ = some (.bool e.lk) := ld_row (hcat _) rfl
 have l2 : loadV (h ++ [.row e.cs false]) none ⟨h.length, 0 + 2, none⟩ = some (I e.p) := ld_row (hcat _) rfl
 have hst : stN lo (h ++ [.row e.cs false]) ⟨h.length, 0 + 2, none⟩ (vcells (I (IntKind.i64.wrap (e.p + 1)))) = some (h ++ [.row ({ e with p := IntKind.i64.wrap (e.p + 1) } : Ent).cs false]) :=
  (st_row (w := ({ e with p := IntKind.i64.wrap (e.p + 1) } : Ent).cs) (hcat _) hlo (Nat.le_of_ble_eq_true rfl) rfl).trans (by rw [set_last])
 cases hk : e.lk with
 | true =>
   rw [hk] at l4
   have hF : pinF e = (1, e) := by unfold pinF; rw [hk]; rfl
   rw [hF]
   refine call_of rfl Fn.zaC rfl rfl ?_
   repeat' first | refine .A ?_ | refine .B ?_ | refine .C ?_ | refine .G ?_ | refine .J ?_ | refine .L l4 ?_ | refine .F ?_ | refine .Y ?_ | fail
   rfl
 | false =>
   rw [hk] at l4
   by_cases h7 : e.p = 7
   ·have hF : pinF e = (7, e) := by unfold pinF; rw [hk, if_neg (by simp), if_pos h7]
    rw [hF]
    refine call_of rfl Fn.zaC rfl rfl ?_
    repeat' first | refine .A ?_ | refine .B ?_ | refine .C ?_ | refine .D ?_ | refine .G ?_ | refine .J ?_ | refine .t5 ?_ | refine .L l4 ?_ | refine .L l2 ?_ | refine .F ?_ | refine .Y ?_ | fail
    rfl
   ·have hF : pinF e = (0, { e with p := IntKind.i64.wrap (e.p + 1) }) := by unfold pinF; rw [hk, if_neg (by simp), if_neg h7]
    rw [hF]
    refine call_of rfl Fn.zaC rfl rfl ?_
    repeat' first | refine .A ?_ | refine .B ?_ | refine .D ?_ | refine .F ?_ | refine .G ?_ | refine .H ?_ | refine .J ?_ | refine .f5 ?_ | refine .L l4 ?_ | refine .L l2 ?_ | refine .S hst ?_ | refine .Y ?_ | fail
    rfl
theorem unpin1_spec (hlo : lo ≤ h.length) (e : Ent) : callR En lo Id.zaF [.pointer (some ⟨h.length, 0, none⟩)] (h ++ [.row e.cs false]) = some (I (unpinF e).1, h ++ [.row (unpinF e).2.cs false]) := by
 have hcat : ∀ k : Blk, (h ++ [k])[h.length]? = some k := fun k => List.getElem?_concat_length
 have l2 : loadV (h ++ [.row e.cs false]) none ⟨h.length, 0 + 2, none⟩ = some (I e.p) := ld_row (hcat _) rfl
 have hst : stN lo (h ++ [.row e.cs false]) ⟨h.length, 0 + 2, none⟩ (vcells (I (IntKind.i64.wrap (e.p - 1)))) = some (h ++ [.row ({ e with p := IntKind.i64.wrap (e.p - 1) } : Ent).cs false]) :=
  (st_row (w := ({ e with p := IntKind.i64.wrap (e.p - 1) } : Ent).cs) (hcat _) hlo (Nat.le_of_ble_eq_true rfl) rfl).trans (by rw [set_last])
 by_cases h7 : e.p = 0
 ·have hF : unpinF e = (8, e) := by unfold unpinF; rw [if_pos h7]
  rw [hF]
  refine call_of rfl Fn.zaF rfl rfl ?_
  repeat' first | refine .A ?_ | refine .B ?_ | refine .C ?_ | refine .J ?_ | refine .t5 ?_ | refine .L l2 ?_ | refine .F ?_ | refine .Y ?_ | fail
  rfl
 ·have hF : unpinF e = (0, { e with p := IntKind.i64.wrap (e.p - 1) }) := by unfold unpinF; rw [if_neg h7]
  rw [hF]
  refine call_of rfl Fn.zaF rfl rfl ?_
  repeat' first | refine .A ?_ | refine .B ?_ | refine .D ?_ | refine .F ?_ | refine .J ?_ | refine .f5 ?_ | refine .L l2 ?_ | refine .S hst ?_ | refine .Y ?_ | fail
  rfl
theorem guard1_spec (b : Int) (hlo : lo ≤ (h ++ [Blk.row [I b] false]).length) (e : Ent) : callR En lo Id.zax [.pointer (some ⟨(h ++ [Blk.row [I b] false]).length, 0, none⟩), .pointer (some ⟨h.length, 0, none⟩)] (h ++ [Blk.row [I b] false] ++ [.row e.cs false]) = some (I (guardF b e).1, h ++ [Blk.row [I b] false] ++ [.row (guardF b e).2.cs false]) := by
 have hcb : (h ++ [Blk.row [I b] false] ++ [.row e.cs false])[h.length]? = some (.row [I b] false) := by
  rw [List.getElem?_append_left (by simp)]; exact List.getElem?_concat_length
 have lb : loadV (h ++ [Blk.row [I b] false] ++ [.row e.cs false]) none ⟨h.length, 0, none⟩ = some (I b) := ld_row hcb rfl
 generalize h ++ [Blk.row [I b] false] = h1 at *
 have hcat : ∀ k : Blk, (h1 ++ [k])[h1.length]? = some k := fun k => List.getElem?_concat_length
 have l3 : loadV (h1 ++ [.row e.cs false]) none ⟨h1.length, 0 + 3, none⟩ = some (I e.u) := ld_row (hcat _) rfl
 have hst : stN lo (h1 ++ [.row e.cs false]) ⟨h1.length, 0 + 3, none⟩ (vcells (I (IntKind.i64.wrap (e.u + b)))) = some (h1 ++ [.row ({ e with u := IntKind.i64.wrap (e.u + b) } : Ent).cs false]) :=
  (st_row (w := ({ e with u := IntKind.i64.wrap (e.u + b) } : Ent).cs) (hcat _) hlo (Nat.le_of_ble_eq_true rfl) rfl).trans (by rw [set_last])
 refine call_of rfl Fn.zax rfl rfl ?_
 unfold guardF
 by_cases h1' : b < -15
 ·rw [if_pos (.inl h1')]
  repeat' first | refine .A ?_ | refine .B ?_ | refine .C ?_ | refine .J ?_ | refine .t1 ?_ | refine .L lb ?_ | refine .D ?_ | refine .F ?_ | refine .Y ?_ | fail
  rfl
 ·by_cases h2' : 15 < b
  ·rw [if_pos (.inr h2')]
   repeat' first | refine .A ?_ | refine .B ?_ | refine .C ?_ | refine .J ?_ | refine .f1 ?_ | refine .t3 ?_ | refine .L lb ?_ | refine .F ?_ | refine .Y ?_ | fail
   rfl
  ·rw [if_neg (by omega)]
   repeat' first | refine .A ?_ | refine .B ?_ | refine .D ?_ | refine .F ?_ | refine .J ?_ | refine .f1 ?_ | refine .f3 ?_ | refine .L lb ?_ | refine .L l3 ?_ | refine .S hst ?_ | refine .Y ?_ | fail
   rfl

theorem pin_spec (lo : Nat) (h : Heap) (w : Int) : callR En lo Id.zaB [I w] h = some (pairV (chE w pinF), h) := by
 have hC := changedE_spec (lo := h.length) (h := h) (w := w) (F := pinF) (G := fun e => h ++ [.row (pinF e).2.cs false]) (fn := Id.zaC) (caps := #[]) (Nat.le_refl _) (fun e => pin1_spec (Nat.le_refl _) e) (fun e => List.getElem?_concat_length)
 refine call_scr rfl Fn.zaB rfl rfl ?_
 unfold pairV at hC ⊢
 repeat' first | refine .A ?_ | refine .B ?_ | refine .J ?_ | refine .P hC ?_ | refine .F ?_ | refine .Y ?_ | fail
 rfl
theorem unpin_spec (lo : Nat) (h : Heap) (w : Int) : callR En lo Id.zaE [I w] h = some (pairV (chE w unpinF), h) := by
 have hC := changedE_spec (lo := h.length) (h := h) (w := w) (F := unpinF) (G := fun e => h ++ [.row (unpinF e).2.cs false]) (fn := Id.zaF) (caps := #[]) (Nat.le_refl _) (fun e => unpin1_spec (Nat.le_refl _) e) (fun e => List.getElem?_concat_length)
 refine call_scr rfl Fn.zaE rfl rfl ?_
 unfold pairV at hC ⊢
 repeat' first | refine .A ?_ | refine .B ?_ | refine .J ?_ | refine .P hC ?_ | refine .F ?_ | refine .Y ?_ | fail
 rfl
theorem guard_spec (lo : Nat) (h : Heap) (w b : Int) : callR En lo Id.zaw [I w, I b] h = some (pairV (chE w (guardF b)), h) := by
 have hC := changedE_spec (lo := h.length) (h := h ++ [.row [I b] false]) (w := w) (F := guardF b) (G := fun e => h ++ [.row [I b] false] ++ [.row (guardF b e).2.cs false]) (fn := Id.zax) (caps := #[.pointer (some ⟨h.length, 0, none⟩)]) (by simp) (fun e => guard1_spec b (by simp) e) (fun e => List.getElem?_concat_length)
 refine call_scr rfl Fn.zaw rfl rfl ?_
 unfold pairV at hC ⊢
 repeat' first | refine .A ?_ | refine .B ?_ | refine .J ?_ | refine .P hC ?_ | refine .F ?_ | refine .Y ?_ | fail
 rfl
end
end Go.Proofs.YtnfcohmbcgfhbaaGreat

