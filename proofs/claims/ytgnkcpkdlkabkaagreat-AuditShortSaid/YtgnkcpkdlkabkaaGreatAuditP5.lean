/- Objects held against each other, by the document. -/
import Derived.Test.YtgnkcpkdlkabkaaGreatAuditP4
import Derived.Test.YtgnkcpkdlkabkaaGreatAuditP2

set_option linter.unusedVariables false
set_option linter.unusedSimpArgs false
namespace Go.Proofs.YtgnkcpkdlkabkaaGreat
open Go Go.Ir

end Go.Proofs.YtgnkcpkdlkabkaaGreat

/- The document's entries, and sizes rounded. -/
set_option linter.unusedVariables false
set_option linter.unusedSimpArgs false
namespace Go.Proofs.YtgnkcpkdlkabkaaGreat
open Go Go.Ir

end Go.Proofs.YtgnkcpkdlkabkaaGreat

/- The document's entries, unpacked. -/
set_option linter.unusedVariables false
set_option linter.unusedSimpArgs false
namespace Go.Proofs.YtgnkcpkdlkabkaaGreat
open Go Go.Ir

section
variable {E : Env} {lo : Nat} {os : List IOper} {f : Fr} {h : Heap} {hs : List Heap} {k : List Ir.Item} {rs : List IRes} {Q : Value → Heap → Prop} {d : Nat} {g : Option (Nat × Bool)} {x y : Operand}
end

end Go.Proofs.YtgnkcpkdlkabkaaGreat

/- Whole numbers as floats. -/
set_option linter.unusedVariables false
set_option linter.unusedSimpArgs false
namespace Go.Proofs.YtgnkcpkdlkabkaaGreat
open Go Go.Ir

def fl (n : Nat) : Nat := Ieee.double.nearest false n 0

theorem fl_eq (n : Nat) : FloatKind.f64.nearest (n : Int) = fl n := by
 unfold FloatKind.nearest FloatKind.encode Ieee.Format.write fl
 have hd : decide ((n : Int) < 0) = false := decide_eq_false (by omega)
 simp only [hd, Int.natAbs_natCast, FloatKind.format]

theorem cut0 (n : Nat) (neg : Bool) : Ieee.Toward.even.cut neg n 0 = n := by
 unfold Ieee.Toward.cut
 simp [Nat.mod_one]

theorem log2_mul_pow {c k : Nat} (hc : c ≠ 0) : (c * 2 ^ k).log2 = c.log2 + k := by
 have hpos : 0 < 2 ^ k := Nat.two_pow_pos k
 have h0 : c * 2 ^ k ≠ 0 := Nat.mul_ne_zero hc (by omega)
 have h1 := Nat.log2_self_le hc
 have h2 := Nat.lt_log2_self (n := c)
 refine Nat.le_antisymm ?_ ?_
 ·have : c * 2 ^ k < 2 ^ (c.log2 + k + 1) := by
   rw [show c.log2 + k + 1 = (c.log2 + 1) + k by omega, Nat.pow_add]
   exact Nat.mul_lt_mul_of_pos_right h2 hpos
  have := (Nat.log2_lt h0).2 this
  omega
 ·refine (Nat.le_log2 h0).2 ?_
  rw [Nat.pow_add]
  exact Nat.mul_le_mul_right _ h1

theorem read_fl {n : Nat} (h : n < 2 ^ 53) : ∃ k : Nat, k ≤ 1074 ∧ Ieee.double.read (fl n) = .number false (n * 2 ^ k) (-(k : Int)) := by
 by_cases h0 : n = 0
 ·subst h0
  exact ⟨1074, Nat.le_refl _, by unfold fl; decide +kernel⟩
 have hL : n.log2 < 53 := (Nat.log2_lt h0).2 h
 have h1 := Nat.log2_self_le h0
 have h2 := Nat.lt_log2_self (n := n)
 have hb : Ieee.double.binade = 4503599627370496 := by decide +kernel
 have hi : Ieee.double.infRung = 9218868437227405312 := by decide +kernel
 have hs : Ieee.double.signWeight = 9223372036854775808 := by decide +kernel
 have hp : Ieee.double.leastPlace = -1074 := by decide
 have hs1 : 4503599627370496 ≤ n * 2 ^ (52 - n.log2) := by
  have : 2 ^ n.log2 * 2 ^ (52 - n.log2) ≤ n * 2 ^ (52 - n.log2) := Nat.mul_le_mul_right _ h1
  rw [← Nat.pow_add, show n.log2 + (52 - n.log2) = 52 by omega] at this
  exact this
 have hs2 : n * 2 ^ (52 - n.log2) < 9007199254740992 := by
  have : n * 2 ^ (52 - n.log2) < 2 ^ (n.log2 + 1) * 2 ^ (52 - n.log2) := Nat.mul_lt_mul_of_pos_right h2 (Nat.two_pow_pos _)
  rw [← Nat.pow_add, show n.log2 + 1 + (52 - n.log2) = 53 by omega] at this
  exact this
 have hfl : fl n = (n.log2 + 1022) * 4503599627370496 + n * 2 ^ (52 - n.log2) := by
  unfold fl Ieee.Format.nearest
  rw [if_neg h0]
  have e1 : max ((0 : Int) + (n.log2 : Int) - (Ieee.double.fractionBits : Nat)) Ieee.double.leastPlace = (n.log2 : Int) - 52 := by
   rw [hp, show (Ieee.double.fractionBits : Int) = 52 from rfl]; omega
  rw [e1]
  simp only
  rw [show ((0 : Int) - ((n.log2 : Int) - 52)).toNat = 52 - n.log2 by omega, show ((n.log2 : Int) - 52 - 0).toNat = 0 by omega, cut0, Nat.shiftLeft_eq, hp, show ((n.log2 : Int) - 52 - -1074).toNat = n.log2 + 1022 by omega, hb, hi]
  unfold Ieee.Format.word
  rw [if_neg (by simp)]
  omega
 generalize hsd : n * 2 ^ (52 - n.log2) = s at hs1 hs2 hfl
 have hr : Ieee.double.read (fl n) = .number false s (-((52 - n.log2 : Nat) : Int)) := by
  rw [hfl]
  unfold Ieee.Format.read
  rw [hb, hi, hs, hp]
  have w1 : ((n.log2 + 1022) * 4503599627370496 + s) / 9223372036854775808 % 2 = 0 := by omega
  have w2 : ((n.log2 + 1022) * 4503599627370496 + s) % 9223372036854775808 = (n.log2 + 1022) * 4503599627370496 + s := by omega
  have w3 : ((n.log2 + 1022) * 4503599627370496 + s) % 4503599627370496 = s - 4503599627370496 := by omega
  have w4 : ((n.log2 + 1022) * 4503599627370496 + s) / 4503599627370496 = n.log2 + 1023 := by omega
  simp only [w1, w2, w3, w4]
  rw [if_neg (by omega), if_pos (by omega), show 4503599627370496 + (s - 4503599627370496) = s by omega, show (-1074 : Int) + ((n.log2 + 1023 - 1 : Nat) : Int) = -((52 - n.log2 : Nat) : Int) by omega]
  rfl
 exact ⟨52 - n.log2, by omega, by rw [hsd]; exact hr⟩

theorem signed_nat (m u : Nat) : Ieee.signed false m u = ((m * 2 ^ u : Nat) : Int) := by
 unfold Ieee.signed
 simp [Nat.shiftLeft_eq]

theorem fl_int {n : Nat} (h : n < 2 ^ 53) : (FloatKind.f64.decode (fl n)).toInt .zero = some (n : Int) := by
 obtain ⟨k, hk, ha⟩ := read_fl h
 unfold FloatKind.decode
 rw [show FloatKind.f64.format = Ieee.double from rfl, ha]
 unfold Ieee.Datum.toInt Ieee.Datum.integral
 simp only
 have s1 : (-(k : Int)).toNat = 0 := by omega
 have s2 : (- -(k : Int)).toNat = k := by omega
 rw [s1, s2, Nat.shiftLeft_zero, signed_nat]
 by_cases h0 : n = 0
 ·subst h0
  unfold Ieee.Toward.cut
  simp
 ·have hl : k ≤ (n * 2 ^ k).log2 + 2 := by rw [log2_mul_pow h0]; omega
  unfold Ieee.Toward.cut
  simp only [Nat.min_eq_left hl, Nat.one_shiftLeft, Nat.mul_div_cancel _ (Nat.two_pow_pos k)]
  simp
end Go.Proofs.YtgnkcpkdlkabkaaGreat

/- Heads: by the program, and by the document. -/
set_option linter.unusedVariables false
set_option linter.unusedSimpArgs false
namespace Go.Ir
open Go
section
variable {E : Env} {lo : Nat} {os : List IOper} {f : Fr} {h : Heap} {hs : List Heap} {k : List Item} {rs : List IRes} {Q : Value → Heap → Prop} {d : Nat} {g : Option (Nat × Bool)} {x y : Operand}
theorem EG.convF {a : Nat} {n : Int} (hw : want g f = some true) (hx : ev f x = some (.float .f64 a)) (hn : (FloatKind.f64.decode a).toInt .zero = some n) (hr : IntKind.i64.min ≤ n ∧ n ≤ IntKind.i64.max) (z : EG E lo os hs k ((d, .int .i64 n) :: f) h rs Q) :
  EG E lo (⟨some d, .conv (.int .i64) x, g, 0⟩ :: os) hs k f h rs Q := .go hw (by
   simp only [iop, hx, iconv, hn, if_pos hr]) rfl z
end
end Go.Ir
namespace Go.Proofs.YtgnkcpkdlkabkaaGreat
open Go Go.Ir

theorem fl_zero : fl 0 = 0 := by unfold fl; decide +kernel
abbrev cx (a b : Nat) : Value := .complex .f64 (fl a) (fl b)

def headU (w : Int) : Option (Nat × Nat) := if 0 ≤ w ∧ w < 4503599627370496 ∧ w % 1048576 ≤ 64 then some ((w % 1048576).toNat, (w / 1048576).toNat) else none
def headW (t g : Nat) : Nat := t + g * 1048576
def nextG (g : Nat) : Nat := if g = 4294967295 then 0 else g + 1
def unpO : Option (Nat × Nat) → Value
 | some p => .tuple #[N p.1, N p.2, I 0]
 | none => .tuple #[I 0, I 0, I 2]
def unpV (w : Int) : Value := unpO (headU w)
def popO (l : Int) : Option (Nat × Nat) → Int × Int × Int
 | none => (0, 0, 2)
 | some p => if 0 ≤ l ∧ l ≤ 64 then (if p.1 = 0 then (0, 0, 11) else ((headW l.toNat (nextG p.2) : Nat), (p.1 : Int) - 1, 0)) else (0, 0, 1)
def pushO (s : Int) : Option (Nat × Nat) → Int × Int × Int
 | none => (0, 0, 2)
 | some p => if 0 ≤ s ∧ s ≤ 63 then ((headW (s.toNat + 1) (nextG p.2) : Nat), (p.1 : Int), 0) else (0, 0, 1)
theorem headU_some {w : Int} {t g : Nat} (h : headU w = some (t, g)) : t ≤ 64 ∧ g < 4294967296 ∧ w = (headW t g : Nat) := by
 unfold headU at h
 split at h
 ·injection h with h
  injection h with h1 h2
  unfold headW
  omega
 ·cases h

section
variable {lo : Nat} {h : Heap}
theorem hof_spec (lo : Nat) (h : Heap) (a b : Nat) : callR En lo Id.head_of [N a, N b] h = some (cx a b, h) := by
 refine call_scr rfl Fn.head_of rfl rfl ?_
 repeat' (first | (show ER _ _ _ _ _ _ _; first | refine .seq ?_ | refine .reg ?_ | refine .ret rfl ?_) | (show EG _ _ _ _ _ _ _ _ _; first | refine .mov rfl rfl ?_ | refine .fin ?_ | refine .go rfl rfl rfl ?_))
 show Ir.tidy h (.complex .f64 (FloatKind.f64.nearest (a : Int)) (FloatKind.f64.nearest (b : Int))) h = _
 rw [fl_eq, fl_eq]
 rfl
theorem i64_nat {n : Nat} (h : n < 2 ^ 53) : IntKind.i64.min ≤ (n : Int) ∧ (n : Int) ≤ IntKind.i64.max := by
 have e1 : IntKind.i64.min = -9223372036854775808 := by decide
 have e2 : IntKind.i64.max = 9223372036854775807 := by decide
 rw [e1, e2]; omega
theorem htop_spec (lo : Nat) (h : Heap) {a : Nat} (b : Nat) (ha : a < 2 ^ 53) : callR En lo Id.head_front_top [cx a b] h = some (N a, h) := by
 refine call_scr rfl Fn.head_front_top rfl rfl ?_
 repeat' (first | (show ER _ _ _ _ _ _ _; first | refine .seq ?_ | refine .reg ?_ | refine .ret rfl ?_) | (show EG _ _ _ _ _ _ _ _ _; first | refine .mov rfl rfl ?_ | refine .convF rfl rfl (fl_int ha) (i64_nat ha) ?_ | refine .fin ?_ | refine .go rfl rfl rfl ?_))
 rfl
theorem htag_spec (lo : Nat) (h : Heap) (a : Nat) {b : Nat} (hb : b < 2 ^ 53) : callR En lo Id.head_front_tag [cx a b] h = some (N b, h) := by
 refine call_scr rfl Fn.head_front_tag rfl rfl ?_
 repeat' (first | (show ER _ _ _ _ _ _ _; first | refine .seq ?_ | refine .reg ?_ | refine .ret rfl ?_) | (show EG _ _ _ _ _ _ _ _ _; first | refine .mov rfl rfl ?_ | refine .convF rfl rfl (fl_int hb) (i64_nat hb) ?_ | refine .fin ?_ | refine .go rfl rfl rfl ?_))
 rfl
theorem htf_spec (lo : Nat) (h : Heap) : callR En lo Id.head_topField [] h = some (fld 0 20, h) := callR_iff.2 ⟨60, by kernel_rfl⟩
theorem hgf_spec (lo : Nat) (h : Heap) : callR En lo Id.head_tagField [] h = some (fld 20 32, h) := callR_iff.2 ⟨60, by kernel_rfl⟩
theorem hmay_spec (lo : Nat) (h : Heap) (n : Int) : callR En lo Id.head_may [I n] h = some (.bool (decide (0 ≤ n ∧ n ≤ 64)), h) := by
 refine call_scr rfl Fn.head_may rfl rfl ?_
 by_cases h0 : 0 ≤ n
 ·by_cases h1 : n ≤ 64
  ·rw [decide_eq_true ⟨h0, h1⟩]
   repeat' (first | (show ER _ _ _ _ _ _ _; first | refine .seq ?_ | refine .reg ?_ | refine .ret rfl ?_) | (show EG _ _ _ _ _ _ _ _ _; first | refine .mov rfl rfl ?_ | (show EG _ _ (⟨_, .bin _ _ _, _, _⟩ :: _) _ _ _ _ _ _; first | refine .leqT rfl rfl rfl (by omega) ?_ | refine .geqT rfl rfl rfl (by omega) ?_) | refine .fin ?_ | refine .go rfl rfl rfl ?_))
   rfl
  ·rw [decide_eq_false (fun g => h1 g.2)]
   repeat' (first | (show ER _ _ _ _ _ _ _; first | refine .seq ?_ | refine .reg ?_ | refine .ret rfl ?_) | (show EG _ _ _ _ _ _ _ _ _; first | refine .mov rfl rfl ?_ | (show EG _ _ (⟨_, .bin _ _ _, _, _⟩ :: _) _ _ _ _ _ _; first | refine .leqF rfl rfl rfl (by omega) ?_ | refine .geqT rfl rfl rfl (by omega) ?_) | refine .fin ?_ | refine .go rfl rfl rfl ?_))
   rfl
 ·rw [decide_eq_false (fun g => h0 g.1)]
  repeat' (first | (show ER _ _ _ _ _ _ _; first | refine .seq ?_ | refine .reg ?_ | refine .ret rfl ?_) | (show EG _ _ _ _ _ _ _ _ _; first | refine .mov rfl rfl ?_ | refine .geqF rfl rfl rfl (by omega) ?_ | refine .skip rfl ?_ | refine .fin ?_ | refine .go rfl rfl rfl ?_))
  rfl
theorem hword_spec (lo : Nat) (h : Heap) {t g : Nat} (ht : t < 1048576) (hg : g < 4294967296) : callR En lo Id.head_front_word [cx t g] h = some (N (headW t g), h) := by
 have h1 : ∀ lo, callR En lo Id.field_Put [N 0, fld 0 20, N t] h = some (.tuple #[N t, I 0], h) := fun lo => by
  have := put_spec (lo := lo) (h := h) (a := 0) (b := 20) (n := 0) (k := t) (by omega) (by omega) (by omega) (by omega)
  rw [show 0 + t * 2 ^ 0 = t by omega] at this
  exact this
 have h2 : ∀ lo, callR En lo Id.field_Put [N t, fld 20 32, N g] h = some (.tuple #[N (headW t g), I 0], h) := fun lo => by
  have := put_spec (lo := lo) (h := h) (a := 20) (b := 32) (n := t) (k := g) (by omega) (by omega) (by omega) (by omega)
  rw [show t + g * 2 ^ 20 = headW t g by unfold headW; omega] at this
  exact this
 have hT := fun lo => htop_spec lo h (a := t) g (by omega)
 have hG := fun lo => htag_spec lo h t (b := g) (by omega)
 refine call_scr rfl Fn.head_front_word rfl rfl ?_
 repeat' (first | (show ER _ _ _ _ _ _ _; first | refine .seq ?_ | refine .reg ?_ | refine .ret rfl ?_) | (show EG _ _ _ _ _ _ _ _ _; first | refine .mov rfl rfl ?_ | (show EG _ _ (⟨_, .call _ _, _, _⟩ :: _) _ _ _ _ _ _; first | refine .call rfl rfl (htf_spec _ _) ?_ | refine .call rfl rfl (hgf_spec _ _) ?_ | refine .call rfl rfl (hT _) ?_ | refine .call rfl rfl (hG _) ?_ | refine .call rfl rfl (h1 _) ?_ | refine .call rfl rfl (h2 _) ?_) | refine .fin ?_ | refine .go rfl rfl rfl ?_))
 rfl
theorem get_bad {a b : Nat} {w : Int} (hw : ¬ (0 ≤ w ∧ w < 4611686018427387904)) : callR En lo Id.field_Get [I w, fld a b] h = some (I 0, h) := by
 have hW := fun lo => fword_spec lo h w
 rw [decide_eq_false hw] at hW
 refine call_scr rfl Fn.field_Get rfl rfl ?_
 repeat' (first | (show ER _ _ _ _ _ _ _; first | refine .seq ?_ | refine .reg ?_ | refine .yes rfl ?_ | refine .ret rfl ?_) | (show EG _ _ _ _ _ _ _ _ _; first | refine .mov rfl rfl ?_ | refine .call rfl rfl (hW _) ?_ | refine .fin ?_ | refine .go rfl rfl rfl ?_))
 rfl

def readO : Option (Nat × Nat) → Value
 | some p => .tuple #[cx p.1 p.2, I 0]
 | none => .tuple #[.complex .f64 0 0, I 2]
def readV (w : Int) : Value := readO (headU w)
theorem hread_nat (lo : Nat) (h : Heap) {t g n : Nat} (ht : t < 1048576) (hg : g < 4294967296) (h1 : ∀ lo, callR En lo Id.field_Get [N n, fld 0 20] h = some (N t, h)) (h2 : ∀ lo, callR En lo Id.field_Get [N n, fld 20 32] h = some (N g, h)) :
  callR En lo Id.head_read [N n] h = some (if t ≤ 64 ∧ headW t g = n then .tuple #[cx t g, I 0] else .tuple #[.complex .f64 0 0, I 2], h) := by
 have hO := fun lo => hof_spec lo h t g
 have hT := fun lo => htop_spec lo h (a := t) g (by omega)
 have hM := fun lo => hmay_spec lo h (t : Int)
 have hW := fun lo => hword_spec lo h (t := t) (g := g) ht hg
 generalize headW t g = e at *
 refine call_scr rfl Fn.head_read rfl rfl ?_
 by_cases h64 : t ≤ 64
 ·rw [decide_eq_true (by omega)] at hM
  by_cases he : e = n
  ·rw [if_pos ⟨h64, he⟩]
   repeat' (first | (show ER _ _ _ _ _ _ _; first | refine .seq ?_ | refine .reg ?_ | refine .no rfl ?_ | refine .skip ?_ | refine .ret rfl ?_) | (show EG _ _ _ _ _ _ _ _ _; first | refine .mov rfl rfl ?_ | refine .neqF rfl rfl rfl (by omega) ?_ | (show EG _ _ (⟨_, .call _ _, _, _⟩ :: _) _ _ _ _ _ _; first | refine .call rfl rfl (htf_spec _ _) ?_ | refine .call rfl rfl (hgf_spec _ _) ?_ | refine .call rfl rfl (h1 _) ?_ | refine .call rfl rfl (h2 _) ?_ | refine .call rfl rfl (hO _) ?_ | refine .call rfl rfl (hT _) ?_ | refine .call rfl rfl (hM _) ?_ | refine .call rfl rfl (hW _) ?_) | refine .fin ?_ | refine .go rfl rfl rfl ?_))
   rfl
  ·rw [if_neg (fun g => he g.2)]
   repeat' (first | (show ER _ _ _ _ _ _ _; first | refine .seq ?_ | refine .reg ?_ | refine .yes rfl ?_ | refine .ret rfl ?_) | (show EG _ _ _ _ _ _ _ _ _; first | refine .mov rfl rfl ?_ | refine .neqT rfl rfl rfl (by omega) ?_ | (show EG _ _ (⟨_, .call _ _, _, _⟩ :: _) _ _ _ _ _ _; first | refine .call rfl rfl (htf_spec _ _) ?_ | refine .call rfl rfl (hgf_spec _ _) ?_ | refine .call rfl rfl (h1 _) ?_ | refine .call rfl rfl (h2 _) ?_ | refine .call rfl rfl (hO _) ?_ | refine .call rfl rfl (hT _) ?_ | refine .call rfl rfl (hM _) ?_ | refine .call rfl rfl (hW _) ?_) | refine .fin ?_ | refine .go rfl rfl rfl ?_))
   rfl
 ·rw [decide_eq_false (by omega)] at hM
  rw [if_neg (fun g => h64 g.1)]
  repeat' (first | (show ER _ _ _ _ _ _ _; first | refine .seq ?_ | refine .reg ?_ | refine .yes rfl ?_ | refine .ret rfl ?_) | (show EG _ _ _ _ _ _ _ _ _; first | refine .mov rfl rfl ?_ | (show EG _ _ (⟨_, .call _ _, _, _⟩ :: _) _ _ _ _ _ _; first | refine .call rfl rfl (htf_spec _ _) ?_ | refine .call rfl rfl (hgf_spec _ _) ?_ | refine .call rfl rfl (h1 _) ?_ | refine .call rfl rfl (h2 _) ?_ | refine .call rfl rfl (hO _) ?_ | refine .call rfl rfl (hT _) ?_ | refine .call rfl rfl (hM _) ?_) | refine .skip rfl ?_ | refine .fin ?_ | refine .go rfl rfl rfl ?_))
  rfl
theorem hread_bad (lo : Nat) (h : Heap) {w : Int} (hw : ¬ (0 ≤ w ∧ w < 4611686018427387904)) : callR En lo Id.head_read [I w] h = some (.tuple #[.complex .f64 0 0, I 2], h) := by
 have h1 : ∀ lo, callR En lo Id.field_Get [I w, fld 0 20] h = some (N 0, h) := fun lo => get_bad hw
 have h2 : ∀ lo, callR En lo Id.field_Get [I w, fld 20 32] h = some (N 0, h) := fun lo => get_bad hw
 have hO := fun lo => hof_spec lo h 0 0
 have hT := fun lo => htop_spec lo h (a := 0) 0 (by omega)
 have hM : ∀ lo, callR En lo Id.head_may [N 0] h = some (.bool true, h) := fun lo => hmay_spec lo h ((0 : Nat) : Int)
 have hW : ∀ lo, callR En lo Id.head_front_word [cx 0 0] h = some (N 0, h) := fun lo => hword_spec lo h (t := 0) (g := 0) (by omega) (by omega)
 refine call_scr rfl Fn.head_read rfl rfl ?_
 repeat' (first | (show ER _ _ _ _ _ _ _; first | refine .seq ?_ | refine .reg ?_ | refine .yes rfl ?_ | refine .ret rfl ?_) | (show EG _ _ _ _ _ _ _ _ _; first | refine .mov rfl rfl ?_ | refine .neqT rfl rfl rfl (by omega) ?_ | (show EG _ _ (⟨_, .call _ _, _, _⟩ :: _) _ _ _ _ _ _; first | refine .call rfl rfl (htf_spec _ _) ?_ | refine .call rfl rfl (hgf_spec _ _) ?_ | refine .call rfl rfl (h1 _) ?_ | refine .call rfl rfl (h2 _) ?_ | refine .call rfl rfl (hO _) ?_ | refine .call rfl rfl (hT _) ?_ | refine .call rfl rfl (hM _) ?_ | refine .call rfl rfl (hW _) ?_) | refine .fin ?_ | refine .go rfl rfl rfl ?_))
 rfl
theorem readV_of (n t g : Nat) (e1 : n % 1048576 = t) (e2 : n / 1048576 % 4294967296 = g) (ht : t < 1048576) (hg : g < 4294967296) : readV (n : Int) = if t ≤ 64 ∧ headW t g = n then .tuple #[cx t g, I 0] else .tuple #[.complex .f64 0 0, I 2] := by
 unfold readV
 by_cases hc : t ≤ 64 ∧ headW t g = n
 ·have hc2 := hc.2
  unfold headW at hc2
  have hU : headU (n : Int) = some (t, g) := by
   unfold headU
   have a1 : ((n : Int) % 1048576).toNat = t := by omega
   have a2 : ((n : Int) / 1048576).toNat = g := by omega
   rw [if_pos (by omega), a1, a2]
  rw [hU, if_pos hc]
  rfl
 ·rw [if_neg hc]
  have hU : headU (n : Int) = none := by
   unfold headU
   unfold headW at hc
   rw [if_neg (by omega)]
  rw [hU]
  rfl
theorem hread_spec (lo : Nat) (h : Heap) (w : Int) : callR En lo Id.head_read [I w] h = some (readV w, h) := by
 by_cases hw : 0 ≤ w ∧ w < 4611686018427387904
 ·obtain ⟨n, rfl⟩ : ∃ n : Nat, w = n := ⟨w.toNat, by omega⟩
  have h1 : ∀ lo, callR En lo Id.field_Get [N n, fld 0 20] h = some (N (n / 2 ^ 0 % 2 ^ 20), h) := fun lo => get_spec (lo := lo) (h := h) (a := 0) (b := 20) (n := n) (by omega) (by omega) (by omega)
  have h2 : ∀ lo, callR En lo Id.field_Get [N n, fld 20 32] h = some (N (n / 2 ^ 20 % 2 ^ 32), h) := fun lo => get_spec (lo := lo) (h := h) (a := 20) (b := 32) (n := n) (by omega) (by omega) (by omega)
  obtain ⟨t, et⟩ : ∃ t, n / 2 ^ 0 % 2 ^ 20 = t := ⟨_, rfl⟩
  obtain ⟨g, eg⟩ : ∃ g, n / 2 ^ 20 % 2 ^ 32 = g := ⟨_, rfl⟩
  rw [et] at h1
  rw [eg] at h2
  have ht : t < 1048576 := by omega
  have hg : g < 4294967296 := by omega
  rw [hread_nat lo h ht hg h1 h2, readV_of n t g (by omega) (by omega) ht hg]
 ·rw [hread_bad lo h hw]
  unfold readV
  have hU : headU w = none := by
   unfold headU
   rw [if_neg (by omega)]
  rw [hU]
  rfl

theorem hunpack_spec (lo : Nat) (h : Heap) (w : Int) : callR En lo Id.head_Unpack [I w] h = some (unpV w, h) := by
 have hR := fun lo => hread_spec lo h w
 refine call_scr rfl Fn.head_Unpack rfl rfl ?_
 unfold readV at hR
 unfold unpV
 cases hU : headU w with
 | none =>
   rw [hU] at hR
   simp only [readO, unpO, popO, pushO] at hR ⊢
   have e : Value.complex .f64 0 0 = cx 0 0 := by
    show Value.complex .f64 0 0 = .complex .f64 (fl 0) (fl 0)
    rw [fl_zero]
   have hT := fun lo => htop_spec lo h (a := 0) 0 (by omega)
   have hG := fun lo => htag_spec lo h 0 (b := 0) (by omega)
   rw [← e] at hT hG
   repeat' (first | (show ER _ _ _ _ _ _ _; first | refine .seq ?_ | refine .reg ?_ | refine .ret rfl ?_) | (show EG _ _ _ _ _ _ _ _ _; first | refine .mov rfl rfl ?_ | (show EG _ _ (⟨_, .call _ _, _, _⟩ :: _) _ _ _ _ _ _; first | refine .call rfl rfl (hR _) ?_ | refine .call rfl rfl (hT _) ?_ | refine .call rfl rfl (hG _) ?_) | refine .fin ?_ | refine .go rfl rfl rfl ?_))
   rfl
 | some p =>
   obtain ⟨t, g⟩ := p
   obtain ⟨h1, h2, _⟩ := headU_some hU
   rw [hU] at hR
   simp only [readO, unpO, popO, pushO] at hR ⊢
   have hT := fun lo => htop_spec lo h (a := t) g (by omega)
   have hG := fun lo => htag_spec lo h t (b := g) (by omega)
   repeat' (first | (show ER _ _ _ _ _ _ _; first | refine .seq ?_ | refine .reg ?_ | refine .ret rfl ?_) | (show EG _ _ _ _ _ _ _ _ _; first | refine .mov rfl rfl ?_ | (show EG _ _ (⟨_, .call _ _, _, _⟩ :: _) _ _ _ _ _ _; first | refine .call rfl rfl (hR _) ?_ | refine .call rfl rfl (hT _) ?_ | refine .call rfl rfl (hG _) ?_) | refine .fin ?_ | refine .go rfl rfl rfl ?_))
   rfl

end
end Go.Proofs.YtgnkcpkdlkabkaaGreat

