/- The document's cells. -/
import Derived.Test.YtgnkcpkdlkabkaaGreatAuditP5
import Derived.Test.YtgnkcpkdlkabkaaGreatAuditP2
import Derived.Test.YtgnkcpkdlkabkaaGreatAuditP6

set_option linter.unusedVariables false
set_option linter.unusedSimpArgs false
namespace Go.Proofs.YtgnkcpkdlkabkaaGreat
open Go Go.Ir

structure IsR (H : Heap) (c : CB) (ws bs : List Int) : Prop where
 p : ∃ st, H[c.P]? = some (.row (prow c ws.length bs.length st) false)
 w : H[c.W]? = some (.row (ints ws) false)
 y : H[c.Y]? = some (.row (ints bs) false)
 pw : c.P ≠ c.W
 py : c.P ≠ c.Y
 wy : c.W ≠ c.Y
 byte : ∀ b ∈ bs, 0 ≤ b ∧ b < 256

theorem IsR.chg {S : List Nat} {H H' : Heap} {c : CB} {ws bs : List Int} (hC : IsR H c ws bs) (a : Chg S H H') (h : c.P ∉ S ∧ c.W ∉ S ∧ c.Y ∉ S) : IsR H' c ws bs := by
 obtain ⟨st, hp⟩ := hC.p
 exact ⟨⟨st, a.get hp h.1⟩, a.get hC.w h.2.1, a.get hC.y h.2.2, hC.pw, hC.py, hC.wy, hC.byte⟩

section
variable {lo : Nat} {H : Heap} {c : CB} {ws bs : List Int}

theorem IsR.p0 (hC : IsR H c ws bs) : loadV H none ⟨c.P, 0 + 0, none⟩ = some (.slice (some ⟨c.W, 0, none⟩) ws.length ws.length) := by
 obtain ⟨st, hp⟩ := hC.p
 exact ld_row hp rfl
theorem IsR.p1 (hC : IsR H c ws bs) : loadV H none ⟨c.P, 0 + 1, none⟩ = some (.slice (some ⟨c.Y, 0, none⟩) bs.length bs.length) := by
 obtain ⟨st, hp⟩ := hC.p
 exact ld_row hp rfl
theorem IsR.w_ld (hC : IsR H c ws bs) {k : Nat} (hk : k < ws.length) : loadV H none ⟨c.W, 0 + k * 1, none⟩ = some (I (ws.getD k 0)) :=
 ld_row hC.w (by rw [Nat.zero_add, Nat.mul_one, ints, List.getElem?_map, getD_of hk]; rfl)
theorem IsR.y_ld (hC : IsR H c ws bs) {k : Nat} (hk : k < bs.length) : loadV H none ⟨c.Y, 0 + k * 1, none⟩ = some (I (bs.getD k 0)) :=
 ld_row hC.y (by rw [Nat.zero_add, Nat.mul_one, ints, List.getElem?_map, getD_of hk]; rfl)
theorem IsR.set_w (hC : IsR H c ws bs) {k : Nat} (hk : k < ws.length) (n : Int) (hlo : lo ≤ c.W) :
  stN lo H ⟨c.W, 0 + k * 1, none⟩ (vcells (I n)) = some (H.set c.W (.row (ints (ws.set k n)) false)) ∧ IsR (H.set c.W (.row (ints (ws.set k n)) false)) c (ws.set k n) bs ∧ Only [c.W] H (H.set c.W (.row (ints (ws.set k n)) false)) := by
 refine ⟨?_, ⟨?_, hs_same (hlt_of hC.w), hs_ne hC.wy hC.y, hC.pw, hC.py, hC.wy, hC.byte⟩, (Only.refl _ _).set (by simp)⟩
 ·rw [Nat.zero_add, Nat.mul_one]
  exact st_row hC.w hlo (by show k + 1 ≤ _; simp [ints]; omega) (splice_one hk)
 ·obtain ⟨st, hp⟩ := hC.p
  exact ⟨st, by rw [List.length_set]; exact hs_ne hC.pw.symm hp⟩
theorem IsR.set_y (hC : IsR H c ws bs) {k : Nat} (hk : k < bs.length) (n : Int) (hn : 0 ≤ n ∧ n < 256) (hlo : lo ≤ c.Y) :
  stN lo H ⟨c.Y, 0 + k * 1, none⟩ (vcells (I n)) = some (H.set c.Y (.row (ints (bs.set k n)) false)) ∧ IsR (H.set c.Y (.row (ints (bs.set k n)) false)) c ws (bs.set k n) ∧ Only [c.Y] H (H.set c.Y (.row (ints (bs.set k n)) false)) := by
 refine ⟨?_, ⟨?_, hs_ne hC.wy.symm hC.w, hs_same (hlt_of hC.y), hC.pw, hC.py, hC.wy, fun b hb => ?_⟩, (Only.refl _ _).set (by simp)⟩
 ·rw [Nat.zero_add, Nat.mul_one]
  exact st_row hC.y hlo (by show k + 1 ≤ _; simp [ints]; omega) (splice_one hk)
 ·obtain ⟨st, hp⟩ := hC.p
  exact ⟨st, by rw [List.length_set]; exact hs_ne hC.py.symm hp⟩
 ·rcases List.mem_or_eq_of_mem_set hb with h | h
  ·exact hC.byte b h
  ·subst h; exact hn

theorem IsR.tick (hC : IsR H c ws bs) (hlo : lo ≤ c.P) : ∃ st, loadV H none ⟨c.P, 0 + 2, none⟩ = some (I st) ∧ ∃ H', stN lo H ⟨c.P, 0 + 2, none⟩ (vcells (I (IntKind.i64.wrap (st + 1)))) = some H' ∧ IsR H' c ws bs ∧ Only [c.P] H H' := by
 obtain ⟨st, hp⟩ := hC.p
 refine ⟨st, ld_row hp rfl, H.set c.P (.row (prow c ws.length bs.length (IntKind.i64.wrap (st + 1))) false), st_row hp hlo (Nat.le_of_ble_eq_true rfl) rfl, ⟨⟨_, hs_same (hlt_of hp)⟩, hs_ne hC.pw hC.w, hs_ne hC.py hC.y, hC.pw, hC.py, hC.wy, hC.byte⟩, (Only.refl _ _).set (by simp)⟩

theorem rbyte_spec (hC : IsR H c ws bs) (hlo : lo ≤ c.P) (i : Int) : ∃ H', callR En lo Id.sidingsref05_Plain_Byte [ptrC c, I i] H = some (I (getI bs i), H') ∧ IsR H' c ws bs ∧ Only [c.P] H H' := by
 obtain ⟨st, l2, H1, hs, hC1, ho⟩ := hC.tick hlo
 have l0 := hC1.p1
 refine ⟨H1, ?_, hC1, ho⟩
 refine call_of rfl Fn.sidingsref05_Plain_Byte rfl rfl ?_
 unfold getI
 by_cases h0 : i < 0
 ·rw [if_neg (by omega)]
  repeat' (first | (show ER _ _ _ _ _ _ _; first | refine .seq ?_ | refine .reg ?_ | refine .yes rfl ?_ | refine .ret rfl ?_) | (show EG _ _ _ _ _ _ _ _ _; first | refine .mov rfl rfl ?_ | refine .lssT rfl rfl rfl (by omega) ?_ | refine .load rfl rfl (l2) ?_ | refine .store rfl rfl rfl rfl rfl hs ?_ | refine .skip rfl ?_ | refine .fin ?_ | refine .go rfl rfl rfl ?_))
  rfl
 ·obtain ⟨k, rfl⟩ : ∃ k : Nat, i = k := ⟨i.toNat, by omega⟩
  by_cases h1 : k < bs.length
  ·have lw := hC1.y_ld h1
   rw [if_pos ⟨by omega, by omega⟩, Int.toNat_natCast]
   repeat' (first | (show ER _ _ _ _ _ _ _; first | refine .seq ?_ | refine .reg ?_ | refine .no rfl ?_ | refine .skip ?_ | refine .ret rfl ?_) | (show EG _ _ _ _ _ _ _ _ _; first | refine .mov rfl rfl ?_ | (show EG _ _ (⟨_, .bin _ _ _, _, _⟩ :: _) _ _ _ _ _ _; first | refine .lssF rfl rfl rfl (by omega) ?_ | refine .geqF rfl rfl rfl (by omega) ?_) | (show EG _ _ (⟨_, .load _ _, _, _⟩ :: _) _ _ _ _ _ _; first | refine .load rfl rfl (l2) ?_ | refine .load rfl rfl (l0) ?_ | refine .load rfl rfl (lw) ?_) | refine .iaddr rfl rfl rfl (h1) ?_ | refine .store rfl rfl rfl rfl rfl hs ?_ | refine .fin ?_ | refine .go rfl rfl rfl ?_))
   rfl
  ·rw [if_neg (by omega)]
   repeat' (first | (show ER _ _ _ _ _ _ _; first | refine .seq ?_ | refine .reg ?_ | refine .yes rfl ?_ | refine .ret rfl ?_) | (show EG _ _ _ _ _ _ _ _ _; first | refine .mov rfl rfl ?_ | (show EG _ _ (⟨_, .bin _ _ _, _, _⟩ :: _) _ _ _ _ _ _; first | refine .lssF rfl rfl rfl (by omega) ?_ | refine .geqT rfl rfl rfl (by omega) ?_) | (show EG _ _ (⟨_, .load _ _, _, _⟩ :: _) _ _ _ _ _ _; first | refine .load rfl rfl (l2) ?_ | refine .load rfl rfl (l0) ?_) | refine .store rfl rfl rfl rfl rfl hs ?_ | refine .fin ?_ | refine .go rfl rfl rfl ?_))
   rfl
theorem rstore_spec (hC : IsR H c ws bs) (hlo : lo ≤ c.P) (hlw : lo ≤ c.W) (i n : Int) : ∃ H', callR En lo Id.sidingsref05_Plain_Store [ptrC c, I i, I n] H = some (noneV, H') ∧ IsR H' c (setI ws i n) bs ∧ Only [c.P, c.W] H H' := by
 obtain ⟨st, l2, H1, hs, hC1, ho⟩ := hC.tick hlo
 have l0 := hC1.p0
 unfold setI
 by_cases h0 : i < 0
 ·rw [if_neg (by omega)]
  refine ⟨H1, ?_, hC1, ho.mono (by simp)⟩
  refine call_of rfl Fn.sidingsref05_Plain_Store rfl rfl ?_
  repeat' (first | (show ER _ _ _ _ _ _ _; first | refine .seq ?_ | refine .reg ?_ | refine .no rfl ?_ | refine .skip ?_ | refine .nil rfl ?_) | (show EG _ _ _ _ _ _ _ _ _; first | refine .mov rfl rfl ?_ | refine .geqF rfl rfl rfl (by omega) ?_ | refine .load rfl rfl (l2) ?_ | refine .store rfl rfl rfl rfl rfl hs ?_ | refine .skip rfl ?_ | refine .fin ?_ | refine .go rfl rfl rfl ?_))
  rfl
 ·obtain ⟨k, rfl⟩ : ∃ k : Nat, i = k := ⟨i.toNat, by omega⟩
  by_cases h1 : k < ws.length
  ·have hw := hC1.set_w h1 n hlw
   have hw1 := hw.1
   rw [if_pos ⟨by omega, by omega⟩, Int.toNat_natCast]
   refine ⟨_, ?_, hw.2.1, (ho.mono (by simp)).trans (hw.2.2.mono (by simp))⟩
   refine call_of rfl Fn.sidingsref05_Plain_Store rfl rfl ?_
   repeat' (first | (show ER _ _ _ _ _ _ _; first | refine .seq ?_ | refine .reg ?_ | refine .yes rfl ?_ | refine .nil rfl ?_) | (show EG _ _ _ _ _ _ _ _ _; first | refine .mov rfl rfl ?_ | (show EG _ _ (⟨_, .bin _ _ _, _, _⟩ :: _) _ _ _ _ _ _; first | refine .lssT rfl rfl rfl (by omega) ?_ | refine .geqT rfl rfl rfl (by omega) ?_) | (show EG _ _ (⟨_, .load _ _, _, _⟩ :: _) _ _ _ _ _ _; first | refine .load rfl rfl (l2) ?_ | refine .load rfl rfl (l0) ?_) | refine .iaddr rfl rfl rfl (h1) ?_ | refine .store rfl rfl rfl rfl rfl hs ?_ | refine .store rfl rfl rfl rfl rfl hw1 ?_ | refine .fin ?_ | refine .go rfl rfl rfl ?_))
   rfl
  ·rw [if_neg (by omega)]
   refine ⟨H1, ?_, hC1, ho.mono (by simp)⟩
   refine call_of rfl Fn.sidingsref05_Plain_Store rfl rfl ?_
   repeat' (first | (show ER _ _ _ _ _ _ _; first | refine .seq ?_ | refine .reg ?_ | refine .no rfl ?_ | refine .skip ?_ | refine .nil rfl ?_) | (show EG _ _ _ _ _ _ _ _ _; first | refine .mov rfl rfl ?_ | (show EG _ _ (⟨_, .bin _ _ _, _, _⟩ :: _) _ _ _ _ _ _; first | refine .lssF rfl rfl rfl (by omega) ?_ | refine .geqT rfl rfl rfl (by omega) ?_) | (show EG _ _ (⟨_, .load _ _, _, _⟩ :: _) _ _ _ _ _ _; first | refine .load rfl rfl (l2) ?_ | refine .load rfl rfl (l0) ?_) | refine .store rfl rfl rfl rfl rfl hs ?_ | refine .fin ?_ | refine .go rfl rfl rfl ?_))
   rfl
end
end Go.Proofs.YtgnkcpkdlkabkaaGreat

/- The document's layout, and heads. -/
set_option linter.unusedVariables false
set_option linter.unusedSimpArgs false
namespace Go.Ir
open Go
section
variable {E : Env} {lo : Nat} {os : List IOper} {f : Fr} {h : Heap} {hs : List Heap} {k : List Item} {rs : List IRes} {Q : Value → Heap → Prop} {d : Nat} {g : Option (Nat × Bool)} {x y : Operand}
theorem EG.quoE {a b r : Nat} (hr : a / b = r) (hw : want g f = some true) (hx : ev f x = some (.int .i64 (a : Nat))) (hy : ev f y = some (.int .i64 (b : Nat))) (hb : b ≠ 0) (ha : a < 2 ^ 63) (c : EG E lo os hs k ((d, .int .i64 (r : Nat)) :: f) h rs Q) :
  EG E lo (⟨some d, .bin .quo x y, g, 0⟩ :: os) hs k f h rs Q := .go hw (by
   have hb' : ¬ ((b : Int) = 0) := by omega
   have e1 : (a : Int).tdiv (b : Int) = ((r : Nat) : Int) := by rw [Int.tdiv_eq_ediv_of_nonneg (by omega), ← hr]; rfl
   have h1 : r ≤ a := by rw [← hr]; exact Nat.div_le_self _ _
   have e2 : IntKind.i64.wrap ((r : Nat) : Int) = ((r : Nat) : Int) := by rw [IntKind.wrap_i64]; omega
   simp only [iop, hx, hy, ibin, isShift, ibinI, if_true, if_neg hb', e1, e2]
   rfl) rfl c
end
end Go.Ir
namespace Go.Proofs.YtgnkcpkdlkabkaaGreat
open Go Go.Ir

section
variable {lo : Nat} {h : Heap} {c : Cfg}
theorem atS_spec (lo : Nat) (h : Heap) (hm : c.may) (n : Int) {j : Int} (hj : 0 ≤ j ∧ j ≤ 2) : callR En lo Id.sidingsref06_At [.agg c.cs.toArray, I (5 + j), I n] h = some (I (slotI c n j), h) := by
 have hM := fun lo => may_spec lo h c
 rw [decide_eq_true hm] at hM
 refine call_scr rfl Fn.sidingsref06_At rfl rfl ?_
 rw [Cfg.cs] at hM ⊢
 unfold Cfg.may at hm
 unfold slotI
 by_cases hn : 0 ≤ n ∧ n < c.S
 ·rw [if_pos hn]
  have w1 : IntKind.i64.wrap (4 + c.T) = 4 + c.T := wrap_id (by omega) (by omega)
  have w2 : IntKind.i64.wrap (3 * n) = 3 * n := wrap_id (by omega) (by omega)
  have w3 : IntKind.i64.wrap (4 + c.T + 3 * n) = 4 + c.T + 3 * n := wrap_id (by omega) (by omega)
  have w4 : IntKind.i64.wrap (4 + c.T + 3 * n + (5 + j)) = 4 + c.T + 3 * n + (5 + j) := wrap_id (by omega) (by omega)
  have w5 : IntKind.i64.wrap (4 + c.T + 3 * n + (5 + j) - 5) = 4 + c.T + 3 * n + j := by rw [wrap_id (by omega) (by omega)]; omega
  repeat' (first | (show ER _ _ _ _ _ _ _; first | refine .seq ?_ | refine .reg ?_ | refine .no rfl ?_ | refine .skip ?_ | refine .ret rfl ?_) | (show EG _ _ _ _ _ _ _ _ _; first | refine .mov rfl rfl ?_ | refine .lload rfl rfl rfl rfl ?_ | refine .laddr rfl rfl rfl ?_ | (show EG _ _ (⟨_, .bin _ _ _, _, _⟩ :: _) _ _ _ _ _ _; first | refine .lssF rfl rfl rfl (by omega) ?_ | refine .leqF rfl rfl rfl (by omega) ?_ | refine .geqF rfl rfl rfl (by omega) ?_ | refine .eqlF rfl rfl rfl (by omega) ?_) | refine .call rfl rfl (hM _) ?_ | refine .fin ?_ | refine .go rfl rfl rfl ?_))
  refine tidyI ?_
  rw [w1, w2, w3, w4, w5]
 ·rw [if_neg hn]
  by_cases h0 : n < 0
  ·repeat' (first | (show ER _ _ _ _ _ _ _; first | refine .seq ?_ | refine .reg ?_ | refine .yes rfl ?_ | refine .no rfl ?_ | refine .skip ?_ | refine .ret rfl ?_) | (show EG _ _ _ _ _ _ _ _ _; first | refine .mov rfl rfl ?_ | refine .lload rfl rfl rfl rfl ?_ | (show EG _ _ (⟨_, .bin _ _ _, _, _⟩ :: _) _ _ _ _ _ _; first | refine .lssT rfl rfl rfl (by omega) ?_ | refine .leqF rfl rfl rfl (by omega) ?_ | refine .eqlF rfl rfl rfl (by omega) ?_) | refine .call rfl rfl (hM _) ?_ | refine .skip rfl ?_ | refine .fin ?_ | refine .go rfl rfl rfl ?_))
   rfl
  ·repeat' (first | (show ER _ _ _ _ _ _ _; first | refine .seq ?_ | refine .reg ?_ | refine .yes rfl ?_ | refine .no rfl ?_ | refine .skip ?_ | refine .ret rfl ?_) | (show EG _ _ _ _ _ _ _ _ _; first | refine .mov rfl rfl ?_ | refine .lload rfl rfl rfl rfl ?_ | refine .laddr rfl rfl rfl ?_ | (show EG _ _ (⟨_, .bin _ _ _, _, _⟩ :: _) _ _ _ _ _ _; first | refine .lssF rfl rfl rfl (by omega) ?_ | refine .leqF rfl rfl rfl (by omega) ?_ | refine .geqT rfl rfl rfl (by omega) ?_ | refine .eqlF rfl rfl rfl (by omega) ?_) | refine .call rfl rfl (hM _) ?_ | refine .fin ?_ | refine .go rfl rfl rfl ?_))
   rfl

theorem rtop_spec (lo : Nat) (h : Heap) (n : Int) : callR En lo Id.sidingsref04_top [I n] h = some (.bool (decide (0 ≤ n ∧ n ≤ 64)), h) := by
 refine call_scr rfl Fn.sidingsref04_top rfl rfl ?_
 by_cases h0 : 0 ≤ n
 ·by_cases h1 : n ≤ 64
  ·rw [decide_eq_true ⟨h0, h1⟩]
   repeat' (first | (show ER _ _ _ _ _ _ _; first | refine .seq ?_ | refine .reg ?_ | refine .ret rfl ?_) | (show EG _ _ _ _ _ _ _ _ _; first | refine .mov rfl rfl ?_ | (show EG _ _ (⟨_, .bin _ _ _, _, _⟩ :: _) _ _ _ _ _ _; first | refine .leqT rfl rfl rfl (by omega) ?_ | refine .geqT rfl rfl rfl (by omega) ?_) | refine .fin ?_ | refine .go rfl rfl rfl ?_))
   rfl
  ·rw [decide_eq_false (fun g => h1 g.2)]
   repeat' (first | (show ER _ _ _ _ _ _ _; first | refine .seq ?_ | refine .reg ?_ | refine .ret rfl ?_) | (show EG _ _ _ _ _ _ _ _ _; first | refine .mov rfl rfl ?_ | (show EG _ _ (⟨_, .bin _ _ _, _, _⟩ :: _) _ _ _ _ _ _; first | refine .leqF rfl rfl rfl (by omega) ?_ | refine .geqT rfl rfl rfl (by omega) ?_) | refine .fin ?_ | refine .go rfl rfl rfl ?_))
   rfl
 ·rw [decide_eq_false (fun g => h0 g.1)]
  repeat' (first | (show ER _ _ _ _ _ _ _; first | refine .seq ?_ | refine .reg ?_ | refine .ret rfl ?_) | (show EG _ _ _ _ _ _ _ _ _; first | refine .mov rfl rfl ?_ | refine .geqF rfl rfl rfl (by omega) ?_ | refine .skip rfl ?_ | refine .fin ?_ | refine .go rfl rfl rfl ?_))
  rfl
theorem rhunpack_spec (lo : Nat) (h : Heap) {w : Int} (hw : w < 9223372036854775808) : callR En lo Id.sidingsref04_Unpack [I w] h = some (unpV w, h) := by
 unfold unpV headU
 by_cases h0 : w < 0
 ·rw [if_neg (by omega)]
  refine call_scr rfl Fn.sidingsref04_Unpack rfl rfl ?_
  repeat' (first | (show ER _ _ _ _ _ _ _; first | refine .seq ?_ | refine .reg ?_ | refine .yes rfl ?_ | refine .ret rfl ?_) | (show EG _ _ _ _ _ _ _ _ _; first | refine .mov rfl rfl ?_ | refine .lssT rfl rfl rfl (by omega) ?_ | refine .skip rfl ?_ | refine .fin ?_ | refine .go rfl rfl rfl ?_))
  rfl
 ·obtain ⟨n, rfl⟩ : ∃ n : Nat, w = n := ⟨w.toNat, by omega⟩
  obtain ⟨t, et⟩ : ∃ t, n % 1048576 = t := ⟨_, rfl⟩
  obtain ⟨g, eg⟩ : ∃ g, n / 1048576 = g := ⟨_, rfl⟩
  have hT := fun lo => rtop_spec lo h (t : Nat)
  by_cases ht : t ≤ 64
  ·rw [decide_eq_true (by omega)] at hT
   by_cases hg : g ≤ 4294967295
   ·have e1 : ((n : Int) % 1048576).toNat = t := by omega
    have e2 : ((n : Int) / 1048576).toNat = g := by omega
    rw [if_pos (by omega), e1, e2]
    refine call_scr rfl Fn.sidingsref04_Unpack rfl rfl ?_
    repeat' (first | (show ER _ _ _ _ _ _ _; first | refine .seq ?_ | refine .reg ?_ | refine .no rfl ?_ | refine .skip ?_ | refine .ret rfl ?_) | (show EG _ _ _ _ _ _ _ _ _; first | refine .mov rfl rfl ?_ | (show EG _ _ (⟨_, .bin _ _ _, _, _⟩ :: _) _ _ _ _ _ _; first | refine g_rem (b := 1048576) et rfl rfl rfl (by decide) ?_ | refine .quoE (b := 1048576) eg rfl rfl rfl (by decide) (by omega) ?_ | refine .lssF rfl rfl rfl (by omega) ?_ | refine .gtrF rfl rfl rfl (by omega) ?_) | refine .call rfl rfl (hT _) ?_ | refine .fin ?_ | refine .go rfl rfl rfl ?_))
    rfl
   ·rw [if_neg (by omega)]
    refine call_scr rfl Fn.sidingsref04_Unpack rfl rfl ?_
    repeat' (first | (show ER _ _ _ _ _ _ _; first | refine .seq ?_ | refine .reg ?_ | refine .yes rfl ?_ | refine .ret rfl ?_) | (show EG _ _ _ _ _ _ _ _ _; first | refine .mov rfl rfl ?_ | (show EG _ _ (⟨_, .bin _ _ _, _, _⟩ :: _) _ _ _ _ _ _; first | refine g_rem (b := 1048576) et rfl rfl rfl (by decide) ?_ | refine .quoE (b := 1048576) eg rfl rfl rfl (by decide) (by omega) ?_ | refine .lssF rfl rfl rfl (by omega) ?_ | refine .gtrT rfl rfl rfl (by omega) ?_) | refine .call rfl rfl (hT _) ?_ | refine .fin ?_ | refine .go rfl rfl rfl ?_))
    rfl
  ·rw [decide_eq_false (by omega)] at hT
   rw [if_neg (by omega)]
   refine call_scr rfl Fn.sidingsref04_Unpack rfl rfl ?_
   repeat' (first | (show ER _ _ _ _ _ _ _; first | refine .seq ?_ | refine .reg ?_ | refine .yes rfl ?_ | refine .ret rfl ?_) | (show EG _ _ _ _ _ _ _ _ _; first | refine .mov rfl rfl ?_ | (show EG _ _ (⟨_, .bin _ _ _, _, _⟩ :: _) _ _ _ _ _ _; first | refine g_rem (b := 1048576) et rfl rfl rfl (by decide) ?_ | refine .lssF rfl rfl rfl (by omega) ?_) | refine .call rfl rfl (hT _) ?_ | refine .skip rfl ?_ | refine .fin ?_ | refine .go rfl rfl rfl ?_))
   rfl
end
end Go.Proofs.YtgnkcpkdlkabkaaGreat

/- The objects of cells, by the document. -/
set_option linter.unusedVariables false
set_option linter.unusedSimpArgs false
namespace Go.Proofs.YtgnkcpkdlkabkaaGreat
open Go Go.Ir

theorem same_sl (a : Addr) (n k : Nat) : sameV (.slice (some a) n k) (.slice (some a) n k) = true := by simp [sameV, same1, sameA]
theorem IsR.keep {H H' : Heap} {c : CB} {ws bs : List Int} (hC : IsR H c ws bs) {lo : Nat} (h : ∀ i, i < lo → H'[i]? = H[i]?) (hb : c.P < lo ∧ c.W < lo ∧ c.Y < lo) : IsR H' c ws bs := by
 obtain ⟨st, hp⟩ := hC.p
 exact ⟨⟨st, (h _ hb.1).trans hp⟩, (h _ hb.2.1).trans hC.w, (h _ hb.2.2).trans hC.y, hC.pw, hC.py, hC.wy, hC.byte⟩
theorem IsR.lts {H : Heap} {c : CB} {ws bs : List Int} (hC : IsR H c ws bs) : c.P < H.length ∧ c.W < H.length ∧ c.Y < H.length := by
 obtain ⟨st, hp⟩ := hC.p
 exact ⟨hlt_of hp, hlt_of hC.w, hlt_of hC.y⟩
theorem IsR.ext {H H' : Heap} {c : CB} {ws bs : List Int} (hC : IsR H c ws bs) (e : Ext H H') : IsR H' c ws bs := hC.keep e.2 hC.lts
theorem IsR.w_at {H : Heap} {c : CB} {ws bs : List Int} (hC : IsR H c ws bs) {k : Nat} (hk : k < ws.length) : loadV H none ⟨c.W, 0 + k * 1, none⟩ = some (I (getI ws (k : Nat))) := by
 have := hC.w_ld hk
 unfold getI
 rw [if_pos ⟨by omega, by omega⟩, Int.toNat_natCast]
 exact this
theorem slot_nat {c : Cfg} (hm : c.may) {s : Int} (h0 : 0 ≤ s) (hs : s < c.S) {j : Int} (hj : 0 ≤ j ∧ j ≤ 2) {n : Nat} (hn : wordsI c ≤ n) : ∃ k : Nat, slotI c s j = (k : Nat) ∧ k < n := by
 unfold Cfg.may at hm
 unfold wordsI at hn
 unfold slotI
 rw [if_pos ⟨h0, hs⟩]
 exact ⟨(4 + c.T + 3 * s + j).toNat, by omega, by omega⟩

section
variable {lo : Nat} {H : Heap} {cb : CB} {ws bs : List Int}
theorem css_fd (l : List Fd) (a : Fd) : css (l.map Fd.x) ++ [a.x.cs] = css ((l ++ [a]).map Fd.x) := by rw [css_app, List.map_append]; rfl

set_option maxHeartbeats 4000000 in
theorem robjects_spec (hC : IsR H cb ws bs) (c : Cfg) :
  callR En lo Id.sidingsref21_Objects [ptrC cb, .agg c.cs.toArray] H = some (.tuple #[(made H 4 (css (objL ws c))).1, I (allE ws c)], (made H 4 (css (objL ws c))).2) := by
 refine call_scr rfl Fn.sidingsref21_Objects rfl rfl ?_
 have hM := fun lo => may_spec lo H c
 have hW := fun lo => words_spec lo H c
 have l0 := hC.p0
 by_cases hm : c.may
 ·rw [decide_eq_true hm] at hM
  rw [if_pos hm] at hW
  have hm' := hm
  unfold Cfg.may at hm'
  by_cases hw : wordsI c ≤ ws.length
  ·have hp : allP ws c := ⟨hm, hw⟩
   have eL : objL ws c = ((fdL ws c c.S.toNat).getD []).map Fd.x := by rw [objL, allL, if_pos hp]
   have eE : allE ws c = fdE (fdL ws c c.S.toNat) := if_pos hp
   rw [eL, eE]
   clear eL eE
   have hcs : Value.agg c.cs.toArray = .agg #[I c.A, I c.S, I c.T] := rfl
   rw [hcs] at hM hW ⊢
   repeat' (first | (show ER _ _ _ _ _ _ _; first | refine .seq ?_ | refine .reg ?_ | refine .no rfl ?_ | refine .skip ?_ | refine .block ?_) | (show EG _ _ _ _ _ _ _ _ _; first | refine .mov rfl rfl ?_ | refine .lload rfl rfl rfl rfl ?_ | refine .lssF rfl rfl rfl (by omega) ?_ | (show EG _ _ (⟨_, .call _ _, _, _⟩ :: _) _ _ _ _ _ _; first | refine .call rfl rfl (hM _) ?_ | refine .call rfl rfl (hW _) ?_) | refine .loadc rfl rfl l0 (one_take l0) (same_sl _ _ _) ?_ | refine .fin ?_ | refine .go rfl rfl rfl ?_))
   refine .loop (fun n f H1 => ∃ (i : Nat) (l : List Fd) (o : Value), (n : Int) + i = c.S ∧ fdL ws c i = some l ∧ f = [(0, ptrC cb), (3, .agg #[I c.A, I c.S, I c.T]), (6, o), (7, N i)] ∧ Ext H H1 ∧ Out H1 H.length 4 o (css (l.map Fd.x))) (n := c.S.toNat)
    ⟨0, [], _, by omega, rfl, rfl, .refl _, Out.nil _ _ _⟩ ?_
   rintro n f H1 ⟨i, l, o, hn, hl, rfl, hx, ho⟩ next
   by_cases hi : (i : Int) < c.S
   ·have hll := fdL_len hl
    refine Exists.elim (slot_nat hm (s := (i : Nat)) (by omega) hi (j := 0) (by omega) hw) fun k0 hq => ?_
    have hk0 := hq.1
    have hb0 := hq.2
    clear hq
    refine Exists.elim (slot_nat hm (s := (i : Nat)) (by omega) hi (j := 1) (by omega) hw) fun k1 hq => ?_
    have hk1 := hq.1
    have hb1 := hq.2
    clear hq
    have hC1 := hC.ext hx
    have p0 := hC1.p0
    have hA0 : ∀ lo, callR En lo Id.sidingsref06_At [.agg #[I c.A, I c.S, I c.T], I 5, N i] H1 = some (N k0, H1) := fun lo => (atS_spec lo H1 hm (i : Nat) (j := 0) (by omega)).trans (by rw [hk0])
    have hA1 : ∀ lo, callR En lo Id.sidingsref06_At [.agg #[I c.A, I c.S, I c.T], I 6, N i] H1 = some (N k1, H1) := fun lo => (atS_spec lo H1 hm (i : Nat) (j := 1) (by omega)).trans (by rw [hk1])
    have w0 := hC1.w_at hb0
    have w1 := hC1.w_at hb1
    have hU := fun lo => runp_spec lo H1 (getI ws (k0 : Nat))
    have hR := fun lo => rround_spec lo H1 (getI ws (k1 : Nat))
    have hS : fdL ws c (i + 1) = fdB l (fdO i (getI ws (k1 : Nat)) (unpackE (getI ws (k0 : Nat)))) := by rw [fdL, hl, ← hk0, ← hk1]; rfl
    clear hk0 hk1
    generalize getI ws (k0 : Nat) = e0 at w0 hU hS
    generalize getI ws (k1 : Nat) = e1 at w1 hR hS
    generalize unpackE e0 = u at hU hS
    cases u with
    | none =>
      simp only [fdO, fdB] at hS
      have hN := fdL_none' hS (show i + 1 ≤ c.S.toNat by omega)
      rw [hN]
      unfold unV at hU
      unfold roundV at hR
      by_cases hr : 1 ≤ e1 ∧ e1 ≤ 256
      ·rw [if_pos hr] at hR
       repeat' (first | (show ER _ _ _ _ _ _ _; first | refine .seq ?_ | refine .reg ?_ | refine .yes rfl ?_ | refine .skip ?_ | refine .block ?_ | refine .ret rfl ?_) | (show EG _ _ _ _ _ _ _ _ _; first | refine .mov rfl rfl ?_ | refine .lload rfl rfl rfl rfl ?_ | refine .laddr rfl rfl rfl ?_ | (show EG _ _ (⟨_, .bin _ _ _, _, _⟩ :: _) _ _ _ _ _ _; first | refine .lssT rfl rfl rfl (by omega) ?_ | refine .neqT rfl rfl rfl (by omega) ?_) | (show EG _ _ (⟨_, .load _ _, _, _⟩ :: _) _ _ _ _ _ _; first | refine .load rfl rfl (w0) ?_ | refine .load rfl rfl (w1) ?_) | (show EG _ _ (⟨_, .call _ _, _, _⟩ :: _) _ _ _ _ _ _; first | refine .call rfl rfl (hA0 _) ?_ | refine .call rfl rfl (hA1 _) ?_ | refine .call rfl rfl (hU _) ?_ | refine .call rfl rfl (hR _) ?_) | (show EG _ _ (⟨_, .iaddr _ _ _ _, _, _⟩ :: _) _ _ _ _ _ _; first | refine .iaddr rfl rfl rfl (hb0) ?_ | refine .iaddr rfl rfl rfl (hb1) ?_) | refine .loadc rfl rfl p0 (one_take p0) (same_sl _ _ _) ?_ | refine .skip rfl ?_ | refine .fin ?_ | refine .go rfl rfl rfl ?_))
       rfl
      ·rw [if_neg hr] at hR
       repeat' (first | (show ER _ _ _ _ _ _ _; first | refine .seq ?_ | refine .reg ?_ | refine .yes rfl ?_ | refine .skip ?_ | refine .block ?_ | refine .ret rfl ?_) | (show EG _ _ _ _ _ _ _ _ _; first | refine .mov rfl rfl ?_ | refine .lload rfl rfl rfl rfl ?_ | refine .laddr rfl rfl rfl ?_ | (show EG _ _ (⟨_, .bin _ _ _, _, _⟩ :: _) _ _ _ _ _ _; first | refine .lssT rfl rfl rfl (by omega) ?_ | refine .neqT rfl rfl rfl (by omega) ?_) | (show EG _ _ (⟨_, .load _ _, _, _⟩ :: _) _ _ _ _ _ _; first | refine .load rfl rfl (w0) ?_ | refine .load rfl rfl (w1) ?_) | (show EG _ _ (⟨_, .call _ _, _, _⟩ :: _) _ _ _ _ _ _; first | refine .call rfl rfl (hA0 _) ?_ | refine .call rfl rfl (hA1 _) ?_ | refine .call rfl rfl (hU _) ?_ | refine .call rfl rfl (hR _) ?_) | (show EG _ _ (⟨_, .iaddr _ _ _ _, _, _⟩ :: _) _ _ _ _ _ _; first | refine .iaddr rfl rfl rfl (hb0) ?_ | refine .iaddr rfl rfl rfl (hb1) ?_) | refine .loadc rfl rfl p0 (one_take p0) (same_sl _ _ _) ?_ | refine .skip rfl ?_ | refine .fin ?_ | refine .go rfl rfl rfl ?_))
       rfl
    | some e =>
      obtain ⟨eo, eg, ep, eu, lk, lv⟩ := e
      unfold unV at hU
      simp only [Ent.cs] at hU
      unfold roundV at hR
      cases lv with
      | false =>
        simp only [fdO, if_true, fdB] at hS
        by_cases hr : 1 ≤ e1 ∧ e1 ≤ 256
        ·rw [if_pos hr] at hR
         repeat' (first | (show ER _ _ _ _ _ _ _; first | refine .seq ?_ | refine .reg ?_ | refine .yes rfl ?_ | refine .no rfl ?_ | refine .skip ?_ | refine .block ?_ | refine .endB ?_) | (show EG _ _ _ _ _ _ _ _ _; first | refine .mov rfl rfl ?_ | refine .lload rfl rfl rfl rfl ?_ | refine .laddr rfl rfl rfl ?_ | (show EG _ _ (⟨_, .bin _ _ _, _, _⟩ :: _) _ _ _ _ _ _; first | refine .lssT rfl rfl rfl (by omega) ?_ | refine .neqF rfl rfl rfl (by omega) ?_ | refine .addN (b := 1) rfl rfl rfl (by omega) ?_) | (show EG _ _ (⟨_, .load _ _, _, _⟩ :: _) _ _ _ _ _ _; first | refine .load rfl rfl (w0) ?_ | refine .load rfl rfl (w1) ?_) | (show EG _ _ (⟨_, .call _ _, _, _⟩ :: _) _ _ _ _ _ _; first | refine .call rfl rfl (hA0 _) ?_ | refine .call rfl rfl (hA1 _) ?_ | refine .call rfl rfl (hU _) ?_ | refine .call rfl rfl (hR _) ?_) | (show EG _ _ (⟨_, .iaddr _ _ _ _, _, _⟩ :: _) _ _ _ _ _ _; first | refine .iaddr rfl rfl rfl (hb0) ?_ | refine .iaddr rfl rfl rfl (hb1) ?_) | refine .loadc rfl rfl p0 (one_take p0) (same_sl _ _ _) ?_ | refine .skip rfl ?_ | refine .fin ?_ | refine .go rfl rfl rfl ?_))
         exact next (n - 1) _ _ (by omega) ⟨i + 1, l ++ [], _, by omega, hS, rfl, hx, by rw [List.append_nil]; exact ho⟩
        ·rw [if_neg hr] at hR
         repeat' (first | (show ER _ _ _ _ _ _ _; first | refine .seq ?_ | refine .reg ?_ | refine .yes rfl ?_ | refine .no rfl ?_ | refine .skip ?_ | refine .block ?_ | refine .endB ?_) | (show EG _ _ _ _ _ _ _ _ _; first | refine .mov rfl rfl ?_ | refine .lload rfl rfl rfl rfl ?_ | refine .laddr rfl rfl rfl ?_ | (show EG _ _ (⟨_, .bin _ _ _, _, _⟩ :: _) _ _ _ _ _ _; first | refine .lssT rfl rfl rfl (by omega) ?_ | refine .neqF rfl rfl rfl (by omega) ?_ | refine .addN (b := 1) rfl rfl rfl (by omega) ?_) | (show EG _ _ (⟨_, .load _ _, _, _⟩ :: _) _ _ _ _ _ _; first | refine .load rfl rfl (w0) ?_ | refine .load rfl rfl (w1) ?_) | (show EG _ _ (⟨_, .call _ _, _, _⟩ :: _) _ _ _ _ _ _; first | refine .call rfl rfl (hA0 _) ?_ | refine .call rfl rfl (hA1 _) ?_ | refine .call rfl rfl (hU _) ?_ | refine .call rfl rfl (hR _) ?_) | (show EG _ _ (⟨_, .iaddr _ _ _ _, _, _⟩ :: _) _ _ _ _ _ _; first | refine .iaddr rfl rfl rfl (hb0) ?_ | refine .iaddr rfl rfl rfl (hb1) ?_) | refine .loadc rfl rfl p0 (one_take p0) (same_sl _ _ _) ?_ | refine .skip rfl ?_ | refine .fin ?_ | refine .go rfl rfl rfl ?_))
         exact next (n - 1) _ _ (by omega) ⟨i + 1, l ++ [], _, by omega, hS, rfl, hx, by rw [List.append_nil]; exact ho⟩
      | true =>
        by_cases hr : 1 ≤ e1 ∧ e1 ≤ 256
        ·rw [if_pos hr] at hR
         simp only [fdO, if_pos hr, fdB, Bool.true_eq_false, if_false] at hS
         refine Exists.elim (ho.push2 (l0 := H.length) (bytes := 32) (e := Obj.cs ⟨i, eo, roundI e1, decide (0 < ep)⟩) rfl (Nat.le_refl _) hx.1 (by rw [css_length, List.length_map]; omega) (by omega)) fun o' hq => Exists.elim hq fun H4 hq => ?_
         have hap := hq.1
         have ho4 := hq.2.1
         have hx4 := hq.2.2 H (Nat.le_refl _) hx
         clear hq
         rw [css_fd l ⟨⟨i, eo, roundI e1, decide (0 < ep)⟩, ⟨eo, eg, ep, eu, lk, true⟩⟩] at ho4
         by_cases hp0 : 0 < ep
         ·rw [show Obj.cs ⟨i, eo, roundI e1, decide (0 < ep)⟩ = Obj.cs ⟨i, eo, roundI e1, true⟩ by rw [decide_eq_true hp0]] at hap
          repeat' (first | (show ER _ _ _ _ _ _ _; first | refine .seq ?_ | refine .reg ?_ | refine .yes rfl ?_ | refine .no rfl ?_ | refine .skip ?_ | refine .block ?_ | refine .endB ?_) | (show EG _ _ _ _ _ _ _ _ _; first | refine .mov rfl rfl ?_ | refine .lload rfl rfl rfl rfl ?_ | refine .laddr rfl rfl rfl ?_ | (show EG _ _ (⟨_, .bin _ _ _, _, _⟩ :: _) _ _ _ _ _ _; first | refine .lssT rfl rfl rfl (by omega) ?_ | refine .gtrT rfl rfl rfl (by omega) ?_ | refine .neqF rfl rfl rfl (by omega) ?_ | refine .addN (b := 1) rfl rfl rfl (by omega) ?_) | (show EG _ _ (⟨_, .load _ _, _, _⟩ :: _) _ _ _ _ _ _; first | refine .load rfl rfl (w0) ?_ | refine .load rfl rfl (w1) ?_) | (show EG _ _ (⟨_, .call _ _, _, _⟩ :: _) _ _ _ _ _ _; first | refine .call rfl rfl (hA0 _) ?_ | refine .call rfl rfl (hA1 _) ?_ | refine .call rfl rfl (hU _) ?_ | refine .call rfl rfl (hR _) ?_) | (show EG _ _ (⟨_, .iaddr _ _ _ _, _, _⟩ :: _) _ _ _ _ _ _; first | refine .iaddr rfl rfl rfl (hb0) ?_ | refine .iaddr rfl rfl rfl (hb1) ?_) | refine .app rfl rfl rfl (hap) ?_ | refine .loadc rfl rfl p0 (one_take p0) (same_sl _ _ _) ?_ | refine .fin ?_ | refine .go rfl rfl rfl ?_))
          exact next (n - 1) _ _ (by omega) ⟨i + 1, _, o', by omega, hS, rfl, hx4, ho4⟩
         ·rw [show Obj.cs ⟨i, eo, roundI e1, decide (0 < ep)⟩ = Obj.cs ⟨i, eo, roundI e1, false⟩ by rw [decide_eq_false hp0]] at hap
          repeat' (first | (show ER _ _ _ _ _ _ _; first | refine .seq ?_ | refine .reg ?_ | refine .yes rfl ?_ | refine .no rfl ?_ | refine .skip ?_ | refine .block ?_ | refine .endB ?_) | (show EG _ _ _ _ _ _ _ _ _; first | refine .mov rfl rfl ?_ | refine .lload rfl rfl rfl rfl ?_ | refine .laddr rfl rfl rfl ?_ | (show EG _ _ (⟨_, .bin _ _ _, _, _⟩ :: _) _ _ _ _ _ _; first | refine .lssT rfl rfl rfl (by omega) ?_ | refine .gtrF rfl rfl rfl (by omega) ?_ | refine .neqF rfl rfl rfl (by omega) ?_ | refine .addN (b := 1) rfl rfl rfl (by omega) ?_) | (show EG _ _ (⟨_, .load _ _, _, _⟩ :: _) _ _ _ _ _ _; first | refine .load rfl rfl (w0) ?_ | refine .load rfl rfl (w1) ?_) | (show EG _ _ (⟨_, .call _ _, _, _⟩ :: _) _ _ _ _ _ _; first | refine .call rfl rfl (hA0 _) ?_ | refine .call rfl rfl (hA1 _) ?_ | refine .call rfl rfl (hU _) ?_ | refine .call rfl rfl (hR _) ?_) | (show EG _ _ (⟨_, .iaddr _ _ _ _, _, _⟩ :: _) _ _ _ _ _ _; first | refine .iaddr rfl rfl rfl (hb0) ?_ | refine .iaddr rfl rfl rfl (hb1) ?_) | refine .app rfl rfl rfl (hap) ?_ | refine .loadc rfl rfl p0 (one_take p0) (same_sl _ _ _) ?_ | refine .fin ?_ | refine .go rfl rfl rfl ?_))
          exact next (n - 1) _ _ (by omega) ⟨i + 1, _, o', by omega, hS, rfl, hx4, ho4⟩
        ·rw [if_neg hr] at hR
         simp only [fdO, if_neg hr, fdB, Bool.true_eq_false, if_false] at hS
         have hN := fdL_none' hS (show i + 1 ≤ c.S.toNat by omega)
         rw [hN]
         repeat' (first | (show ER _ _ _ _ _ _ _; first | refine .seq ?_ | refine .reg ?_ | refine .yes rfl ?_ | refine .skip ?_ | refine .block ?_ | refine .ret rfl ?_) | (show EG _ _ _ _ _ _ _ _ _; first | refine .mov rfl rfl ?_ | refine .lload rfl rfl rfl rfl ?_ | refine .laddr rfl rfl rfl ?_ | (show EG _ _ (⟨_, .bin _ _ _, _, _⟩ :: _) _ _ _ _ _ _; first | refine .lssT rfl rfl rfl (by omega) ?_ | refine .neqT rfl rfl rfl (by omega) ?_ | refine .neqF rfl rfl rfl (by omega) ?_) | (show EG _ _ (⟨_, .load _ _, _, _⟩ :: _) _ _ _ _ _ _; first | refine .load rfl rfl (w0) ?_ | refine .load rfl rfl (w1) ?_) | (show EG _ _ (⟨_, .call _ _, _, _⟩ :: _) _ _ _ _ _ _; first | refine .call rfl rfl (hA0 _) ?_ | refine .call rfl rfl (hA1 _) ?_ | refine .call rfl rfl (hU _) ?_ | refine .call rfl rfl (hR _) ?_) | (show EG _ _ (⟨_, .iaddr _ _ _ _, _, _⟩ :: _) _ _ _ _ _ _; first | refine .iaddr rfl rfl rfl (hb0) ?_ | refine .iaddr rfl rfl rfl (hb1) ?_) | refine .loadc rfl rfl p0 (one_take p0) (same_sl _ _ _) ?_ | refine .fin ?_ | refine .go rfl rfl rfl ?_))
         rfl
   ·have hi2 : i = c.S.toNat := by omega
    rw [hi2] at hl
    rw [hl]
    repeat' (first | (show ER _ _ _ _ _ _ _; first | refine .seq ?_ | refine .reg ?_ | refine .no rfl ?_ | refine .exit rfl ?_ | refine .ret rfl ?_) | (show EG _ _ _ _ _ _ _ _ _; first | refine .mov rfl rfl ?_ | refine .lload rfl rfl rfl rfl ?_ | refine .laddr rfl rfl rfl ?_ | refine .lssF rfl rfl rfl (by omega) ?_ | refine .fin ?_))
    exact Out.tidy2 ho (css_flat _) rfl (by intro a l c h; cases h)
  ·have hp : ¬ allP ws c := fun h => hw h.2
   have eL : objL ws c = [] := by rw [objL, allL, if_neg hp]; rfl
   have eE : allE ws c = 1 := if_neg hp
   rw [eL, eE]
   repeat' (first | (show ER _ _ _ _ _ _ _; first | refine .seq ?_ | refine .reg ?_ | refine .yes rfl ?_ | refine .ret rfl ?_) | (show EG _ _ _ _ _ _ _ _ _; first | refine .mov rfl rfl ?_ | refine .lload rfl rfl rfl rfl ?_ | refine .lssT rfl rfl rfl (by omega) ?_ | (show EG _ _ (⟨_, .call _ _, _, _⟩ :: _) _ _ _ _ _ _; first | refine .call rfl rfl (hM _) ?_ | refine .call rfl rfl (hW _) ?_) | refine .loadc rfl rfl l0 (one_take l0) (same_sl _ _ _) ?_ | refine .fin ?_ | refine .go rfl rfl rfl ?_))
   rfl
 ·rw [decide_eq_false hm] at hM
  have hp : ¬ allP ws c := fun h => hm h.1
  have eL : objL ws c = [] := by rw [objL, allL, if_neg hp]; rfl
  have eE : allE ws c = 1 := if_neg hp
  rw [eL, eE]
  repeat' (first | (show ER _ _ _ _ _ _ _; first | refine .seq ?_ | refine .reg ?_ | refine .yes rfl ?_ | refine .ret rfl ?_) | (show EG _ _ _ _ _ _ _ _ _; first | refine .mov rfl rfl ?_ | refine .lload rfl rfl rfl rfl ?_ | refine .call rfl rfl (hM _) ?_ | refine .skip rfl ?_ | refine .fin ?_ | refine .go rfl rfl rfl ?_))
  rfl
end
end Go.Proofs.YtgnkcpkdlkabkaaGreat

/- Free slots, locks, and spare slots, by the document. -/
set_option linter.unusedVariables false
set_option linter.unusedSimpArgs false
namespace Go.Proofs.YtgnkcpkdlkabkaaGreat
open Go Go.Ir

theorem ics_flat (l : List Int) : ∀ e ∈ ics l, e.all flat1 = true := by
 intro e he
 obtain ⟨n, _, rfl⟩ := List.mem_map.1 he
 rfl
theorem ics_len (l : List Int) : ∀ e ∈ ics l, e.length = 1 := by
 intro e he
 obtain ⟨n, _, rfl⟩ := List.mem_map.1 he
 rfl
theorem made_out {h : Heap} {n : Nat} {es : List (List Value)} (hl : ∀ e ∈ es, e.length = n) : Out (made h n es).2 h.length n (made h n es).1 es := by
 unfold made
 split
 ·rename_i he
  exact ⟨hl, .inl ⟨he, rfl⟩⟩
 ·rename_i he
  exact ⟨hl, .inr ⟨he, h.length, rfl, Nat.le_refl _, List.getElem?_concat_length⟩⟩

section
variable {lo : Nat} {H : Heap} {cb : CB} {ws bs : List Int} {c : Cfg}
set_option maxHeartbeats 4000000 in
theorem rfree_spec (hC : IsR H cb ws bs) (hm : c.may) (hw : wordsI c ≤ ws.length) (hr : Rng ws) (lo : Nat) :
  callR En lo Id.sidingsref10_Free [.agg c.cs.toArray, ptrC cb] H = some (made H 1 (ics (freeR ws c))) := by
 refine call_scr rfl Fn.sidingsref10_Free rfl rfl ?_
 have hM := fun lo => may_spec lo H c
 rw [decide_eq_true hm] at hM
 have hm' := hm
 unfold Cfg.may at hm'
 have hw' : wordsI c = 4 + c.T + 3 * c.S := rfl
 have hb1 : 1 < ws.length := by omega
 have l0 := hC.p0
 have l1 : loadV H none ⟨cb.W, 0 + 1 * 1, none⟩ = some (I (getI ws 1)) := hC.w_at hb1
 have hU := fun lo => rhunpack_spec lo H (hr.get 1).2
 have hFR : freeR ws c = freeL ws c c.S.toNat (topO (headU (getI ws 1))) := rfl
 rw [hFR]
 generalize getI ws 1 = w1 at hU l1 ⊢
 unfold unpV at hU
 have hT : ∃ g code : Int, unpO (headU w1) = .tuple #[I (topO (headU w1)), I g, I code] ∧ -9223372036854775808 ≤ topO (headU w1) ∧ topO (headU w1) < 9223372036854775808 := by
  cases hh : headU w1 with
  | none => exact ⟨0, 2, rfl, by simp [topO], by simp [topO]⟩
  | some p => 
    obtain ⟨t, g⟩ := p
    have := headU_some hh
    exact ⟨(g : Nat), 0, rfl, by simp only [topO]; omega, by simp only [topO]; omega⟩
 refine Exists.elim hT fun g hq => Exists.elim hq fun code hq => ?_
 rw [hq.1] at hU
 have hT0 := hq.2
 clear hq hT
 generalize topO (headU w1) = t0 at hU hT0 ⊢
 have hcs : Value.agg c.cs.toArray = .agg #[I c.A, I c.S, I c.T] := rfl
 rw [hcs] at hM ⊢
 repeat' (first | (show ER _ _ _ _ _ _ _; first | refine .seq ?_ | refine .reg ?_ | refine .no rfl ?_ | refine .skip ?_ | refine .block ?_) | (show EG _ _ _ _ _ _ _ _ _; first | refine .mov rfl rfl ?_ | refine .lload rfl rfl rfl rfl ?_ | (show EG _ _ (⟨_, .load _ _, _, _⟩ :: _) _ _ _ _ _ _; first | refine .load rfl rfl (l0) ?_ | refine .load rfl rfl (l1) ?_) | (show EG _ _ (⟨_, .call _ _, _, _⟩ :: _) _ _ _ _ _ _; first | refine .call rfl rfl (hM _) ?_ | refine .call rfl rfl (hU _) ?_) | refine .iaddr rfl rfl rfl (hb1) ?_ | refine .fin ?_ | refine .go rfl rfl rfl ?_))
 refine .loop (fun n f H1 => ∃ (i : Nat) (pre : List Int) (t : Int) (o : Value), (n : Int) + i = c.S ∧ pre.length = i ∧ pre ++ freeL ws c n t = freeL ws c c.S.toNat t0 ∧ (-9223372036854775808 ≤ t ∧ t < 9223372036854775808) ∧ f = [(1, ptrC cb), (2, .agg #[I c.A, I c.S, I c.T]), (5, o), (6, I t), (9, N i)] ∧ Ext H H1 ∧ Out H1 H.length 1 o (ics pre)) (n := c.S.toNat)
  ⟨0, [], t0, _, by omega, rfl, rfl, hT0, rfl, .refl _, Out.nil _ _ _⟩ ?_
 rintro n f H1 ⟨i, pre, t, o, hn, hpl, hpre, ht, rfl, hx, ho⟩ next
 by_cases hgo : 1 ≤ t ∧ t ≤ c.S ∧ (i : Int) < c.S
 ·have h1 := hgo.1
  have h2 := hgo.2.1
  have h3 := hgo.2.2
  have hw1 : IntKind.i64.wrap (t - 1) = t - 1 := wrap_id (by omega) (by omega)
  refine Exists.elim (slot_nat hm (s := t - 1) (by omega) (by omega) (j := 2) (by omega) hw) fun k hq => ?_
  have hk := hq.1
  have hb := hq.2
  clear hq
  refine Exists.elim (ho.push2 (l0 := H.length) (bytes := 8) (e := [I (IntKind.i64.wrap (t - 1))]) rfl (Nat.le_refl _) hx.1 (by rw [ics_length]; omega) (by omega)) fun o' hq => Exists.elim hq fun H2 hq => ?_
  have hap := hq.1
  have ho2 := hq.2.1
  have hx2 := hq.2.2 H (Nat.le_refl _) hx
  clear hq
  rw [ics_app, hw1] at ho2
  have hC2 := hC.ext hx2
  have p0 := hC2.p0
  have pk := hC2.w_at hb
  have hA : ∀ lo, callR En lo Id.sidingsref06_At [.agg #[I c.A, I c.S, I c.T], I 7, I (IntKind.i64.wrap (t - 1))] H2 = some (N k, H2) := fun lo => by
   rw [hw1]; exact (atS_spec lo H2 hm (t - 1) (j := 2) (by omega)).trans (by rw [hk])
  have hrg := hr.get (k : Nat)
  have hpre2 : (pre ++ [t - 1]) ++ freeL ws c (n - 1) (getI ws (k : Nat)) = freeL ws c c.S.toNat t0 := by
   rw [← hpre]
   have e : n = (n - 1) + 1 := by omega
   rw [e, freeL, if_pos ⟨h1, h2⟩, Nat.add_sub_cancel, List.append_assoc, hk]
   rfl
  generalize getI ws (k : Nat) = t1 at pk hrg hpre2
  clear hk
  repeat' (first | (show ER _ _ _ _ _ _ _; first | refine .seq ?_ | refine .reg ?_ | refine .yes rfl ?_ | refine .skip ?_ | refine .block ?_ | refine .endB ?_) | (show EG _ _ _ _ _ _ _ _ _; first | refine .mov rfl rfl ?_ | refine .lload rfl rfl rfl rfl ?_ | refine .laddr rfl rfl rfl ?_ | (show EG _ _ (⟨_, .bin _ _ _, _, _⟩ :: _) _ _ _ _ _ _; first | refine .lssT rfl rfl rfl (by omega) ?_ | refine .leqT rfl rfl rfl (by omega) ?_ | refine .geqT rfl rfl rfl (by omega) ?_ | refine .addN (b := 1) rfl rfl rfl (by omega) ?_) | refine .load rfl rfl (pk) ?_ | refine .call rfl rfl (hA _) ?_ | refine .iaddr rfl rfl rfl (hb) ?_ | refine .app rfl rfl rfl (hap) ?_ | refine .loadc rfl rfl p0 (one_take p0) (same_sl _ _ _) ?_ | refine .fin ?_ | refine .go rfl rfl rfl ?_))
  exact next (n - 1) _ _ (by omega) ⟨i + 1, pre ++ [t - 1], t1, o', by omega, by simp [hpl], hpre2, hrg, rfl, hx2, ho2⟩
 ·have hend : pre = freeL ws c c.S.toNat t0 := by
   rw [← hpre]
   cases n with
   | zero => simp [freeL]
   | succ n => rw [freeL, if_neg (by omega)]; simp
  rw [← hend]
  by_cases h3 : (i : Int) < c.S
  ·by_cases h1 : 1 ≤ t
   ·repeat' (first | (show ER _ _ _ _ _ _ _; first | refine .seq ?_ | refine .reg ?_ | refine .no rfl ?_ | refine .exit rfl ?_ | refine .ret rfl ?_) | (show EG _ _ _ _ _ _ _ _ _; first | refine .mov rfl rfl ?_ | refine .lload rfl rfl rfl rfl ?_ | refine .laddr rfl rfl rfl ?_ | (show EG _ _ (⟨_, .bin _ _ _, _, _⟩ :: _) _ _ _ _ _ _; first | refine .lssT rfl rfl rfl (by omega) ?_ | refine .leqF rfl rfl rfl (by omega) ?_ | refine .geqT rfl rfl rfl (by omega) ?_) | refine .fin ?_ | refine .go rfl rfl rfl ?_))
    exact ho.tidy (ics_flat _)
   ·repeat' (first | (show ER _ _ _ _ _ _ _; first | refine .seq ?_ | refine .reg ?_ | refine .no rfl ?_ | refine .exit rfl ?_ | refine .ret rfl ?_) | (show EG _ _ _ _ _ _ _ _ _; first | refine .mov rfl rfl ?_ | refine .lload rfl rfl rfl rfl ?_ | refine .laddr rfl rfl rfl ?_ | (show EG _ _ (⟨_, .bin _ _ _, _, _⟩ :: _) _ _ _ _ _ _; first | refine .lssT rfl rfl rfl (by omega) ?_ | refine .geqF rfl rfl rfl (by omega) ?_) | refine .skip rfl ?_ | refine .fin ?_ | refine .go rfl rfl rfl ?_))
    exact ho.tidy (ics_flat _)
  ·repeat' (first | (show ER _ _ _ _ _ _ _; first | refine .seq ?_ | refine .reg ?_ | refine .no rfl ?_ | refine .exit rfl ?_ | refine .ret rfl ?_) | (show EG _ _ _ _ _ _ _ _ _; first | refine .mov rfl rfl ?_ | refine .lload rfl rfl rfl rfl ?_ | refine .laddr rfl rfl rfl ?_ | refine .lssF rfl rfl rfl (by omega) ?_ | refine .skip rfl ?_ | refine .fin ?_ | refine .go rfl rfl rfl ?_))
   exact ho.tidy (ics_flat _)

theorem locked_spec (hC : IsR H cb ws bs) (hm : c.may) (hw : wordsI c ≤ ws.length) {s : Int} (h0 : 0 ≤ s) (h1 : s < c.S) {e : Ent} (hu : unpackE (getI ws (slotI c s 0)) = some e) (lo : Nat) :
  callR En lo Id.sidingsref21_locked [ptrC cb, .agg c.cs.toArray, I s] H = some (.bool e.lk, H) := by
 refine call_scr rfl Fn.sidingsref21_locked rfl rfl ?_
 refine Exists.elim (slot_nat hm h0 h1 (j := 0) (by omega) hw) fun k hq => ?_
 have hk := hq.1
 have hb := hq.2
 clear hq
 rw [hk] at hu
 have p0 := hC.p0
 have pk := hC.w_at hb
 have hcs : Value.agg c.cs.toArray = .agg #[I c.A, I c.S, I c.T] := rfl
 have hA : ∀ lo, callR En lo Id.sidingsref06_At [.agg c.cs.toArray, I 5, I s] H = some (N k, H) := fun lo => (atS_spec lo H hm s (j := 0) (by omega)).trans (by rw [hk])
 have hU := fun lo => runp_spec lo H (getI ws (k : Nat))
 rw [hu] at hU
 generalize getI ws (k : Nat) = e0 at pk hU
 unfold unV at hU
 obtain ⟨eo, eg, ep, eu, lk, lv⟩ := e
 simp only [Ent.cs] at hU
 rw [hcs] at hA ⊢
 repeat' (first | (show ER _ _ _ _ _ _ _; first | refine .seq ?_ | refine .reg ?_ | refine .ret rfl ?_) | (show EG _ _ _ _ _ _ _ _ _; first | refine .mov rfl rfl ?_ | refine .lload rfl rfl rfl rfl ?_ | refine .laddr rfl rfl rfl ?_ | refine .load rfl rfl (pk) ?_ | (show EG _ _ (⟨_, .call _ _, _, _⟩ :: _) _ _ _ _ _ _; first | refine .call rfl rfl (hA _) ?_ | refine .call rfl rfl (hU _) ?_) | refine .iaddr rfl rfl rfl (hb) ?_ | refine .loadc rfl rfl p0 (one_take p0) (same_sl _ _ _) ?_ | refine .fin ?_ | refine .go rfl rfl rfl ?_))
 rfl

def rstV (H : Heap) (k : Bool) : Option (List Obj) → Value × Heap
 | none => (.tuple #[.slice none 0 0, .bool false], H)
 | some r => (.tuple #[(made H 4 (css r)).1, .bool k], (made H 4 (css r)).2)

theorem lk_of (mv : Mv) (is : Bool) (a : Fd) {s o1 n1 : Int} {fx lk : Bool} (e1 : a.x = ⟨s, o1, n1, fx⟩) (e2 : a.e.lk = lk) :
  strR mv is a = if lk = false then (⟨s, o1, n1, fx⟩, true) else if is = false ∨ mv.s ≠ s ∨ mv.f ≠ o1 ∨ mv.n ≠ n1 ∨ mv.f ≤ mv.t then (⟨s, o1, n1, fx⟩, false) else (⟨s, mv.t, IntKind.i64.wrap (IntKind.i64.wrap (mv.f + mv.n) - mv.t), fx⟩, true) := by
 unfold strR
 rw [e1, e2]

set_option maxHeartbeats 8000000 in
theorem rstretched_spec (hC : IsR H cb ws bs) (hm : c.may) (hw : wordsI c ≤ ws.length) {v : Value} {l : List Fd} (hl : Sl H 4 v (css (l.map Fd.x))) (hll : l.length ≤ 64)
  (hfd : ∀ a ∈ l, 0 ≤ a.x.s ∧ a.x.s < c.S ∧ unpackE (getI ws (slotI c a.x.s 0)) = some a.e) (mv : Mv) (is : Bool) (lo : Nat) :
  callR En lo Id.sidingsref21_stretched [ptrC cb, .agg c.cs.toArray, v, .agg mv.cs.toArray, .bool is] H = some (rstV H (decide (0 < lkN l) == is) (strL mv is l)) := by
 refine call_scr rfl Fn.sidingsref21_stretched rfl rfl ?_
 refine Exists.elim hl.len fun base hq => Exists.elim hq fun cap hve => ?_
 rw [css_length, List.length_map] at hve
 subst hve
 have hcs : Value.agg c.cs.toArray = .agg #[I c.A, I c.S, I c.T] := rfl
 have hLk := fun {H : Heap} (hC : IsR H cb ws bs) {s : Int} (h0 : 0 ≤ s) (h1 : s < c.S) {e : Ent} (hu : unpackE (getI ws (slotI c s 0)) = some e) => locked_spec (H := H) hC hm hw h0 h1 hu
 rw [hcs] at hLk ⊢
 obtain ⟨vs, vf, vt, vn⟩ := mv
 simp only [Mv.cs]
 repeat' (first | (show ER _ _ _ _ _ _ _; first | refine .seq ?_ | refine .reg ?_ | refine .block ?_) | (show EG _ _ _ _ _ _ _ _ _; first | refine .mov rfl rfl ?_ | refine .fin ?_ | refine .go rfl rfl rfl ?_))
 refine .loop (fun n f H1 => ∃ (i : Nat) (r : List Obj) (o : Value) (fd : Bool), n + i = l.length ∧ strL ⟨vs, vf, vt, vn⟩ is (l.take i) = some r ∧ fd = decide (0 < lkN (l.take i)) ∧ f = [(0, ptrC cb), (2, .slice base l.length cap), (4, .bool is), (6, .agg #[I c.A, I c.S, I c.T]), (8, .agg #[I vs, I vf, I vt, I vn]), (12, o), (13, .bool fd), (14, N i)] ∧ Ext H H1 ∧ Out H1 H.length 4 o (css r)) (n := l.length)
  ⟨0, [], _, false, rfl, rfl, rfl, rfl, .refl _, Out.nil _ _ _⟩ ?_
 rintro n f H1 ⟨i, r, o, fd, hn, hr1, hfd1, rfl, hx, ho⟩ next
 have hrl : r.length = i := strL_len _ is (by omega) hr1
 by_cases hi : i < l.length
 ·have hg : l[i]? = some l[i] := List.getElem?_eq_getElem hi
  have hsu := strL_succ ⟨vs, vf, vt, vn⟩ is hi
  have hku := lkN_succ hi
  rw [hr1] at hsu
  simp only [strC] at hsu
  have hfi := hfd l[i] (List.getElem_mem hi)
  have hbad : strL ⟨vs, vf, vt, vn⟩ is (l.take (i + 1)) = none → strL ⟨vs, vf, vt, vn⟩ is l = none := fun h => strL_fail _ is h
  refine Exists.elim (css_row (hl.ext hx) (show (l.map Fd.x)[i]? = some l[i].x by rw [List.getElem?_map, hg]; rfl)) fun ad hq => Exists.elim hq fun cap' hq => ?_
  have hva := hq.1
  have hld := hq.2.1
  clear hq
  injection hva with e1 e2 e3
  subst e1
  generalize l[i] = a at hg hsu hku hld hfi
  have hL := hLk (hC.ext hx) hfi.1 hfi.2.1 hfi.2.2
  obtain ⟨⟨s, o1, n1, fx⟩, ⟨eo, eg, ep, eu, lk, lv⟩⟩ := a
  have hsr := lk_of ⟨vs, vf, vt, vn⟩ is ⟨⟨s, o1, n1, fx⟩, ⟨eo, eg, ep, eu, lk, lv⟩⟩ rfl rfl
  rw [hsr] at hsu
  clear hsr
  simp only [Obj.cs] at hld
  cases lk with
  | false =>
    simp only [if_true, strB] at hsu
    have hfd2 : fd = decide (0 < lkN (l.take (i + 1))) := by rw [hfd1, hku]; simp
    refine Exists.elim (ho.push2 (l0 := H.length) (bytes := 32) (e := Obj.cs ⟨s, o1, n1, fx⟩) rfl (Nat.le_refl _) hx.1 (by rw [css_length]; omega) (by omega)) fun o4 hq => Exists.elim hq fun H4 hq => ?_
    have hap := hq.1
    have ho4 := hq.2.1
    have hx4 := hq.2.2 H (Nat.le_refl _) hx
    clear hq
    rw [css_app] at ho4
    repeat' (first | (show ER _ _ _ _ _ _ _; first | refine .seq ?_ | refine .reg ?_ | refine .yes rfl ?_ | refine .no rfl ?_ | refine .skip ?_ | refine .block ?_ | refine .endB ?_) | (show EG _ _ _ _ _ _ _ _ _; first | refine .mov rfl rfl ?_ | refine .lload rfl rfl rfl rfl ?_ | refine .laddr rfl rfl rfl ?_ | (show EG _ _ (⟨_, .bin _ _ _, _, _⟩ :: _) _ _ _ _ _ _; first | refine .lssT rfl rfl rfl (by omega) ?_ | refine .addN (b := 1) rfl rfl rfl (by omega) ?_) | refine .load rfl rfl (hld) ?_ | refine .call rfl rfl (hL _) ?_ | refine .iaddr rfl rfl rfl (hi) ?_ | refine .app rfl rfl rfl (hap) ?_ | refine .fin ?_ | refine .go rfl rfl rfl ?_))
    exact next (n - 1) _ _ (by omega) ⟨i + 1, _, o4, fd, by omega, hsu, hfd2, rfl, hx4, ho4⟩
  | true =>
    simp only [Bool.true_eq_false, if_false] at hsu
    have hfd2 : true = decide (0 < lkN (l.take (i + 1))) := by rw [hku]; simp
    by_cases hc : is = false ∨ vs ≠ s ∨ vf ≠ o1 ∨ vn ≠ n1 ∨ vf ≤ vt
    ·rw [if_pos hc] at hsu
     simp only [strB, Bool.false_eq_true, if_false] at hsu
     rw [hbad hsu]
     cases is with
     | false =>
       repeat' (first | (show ER _ _ _ _ _ _ _; first | refine .seq ?_ | refine .reg ?_ | refine .yes rfl ?_ | refine .skip ?_ | refine .block ?_ | refine .ret rfl ?_) | (show EG _ _ _ _ _ _ _ _ _; first | refine .mov rfl rfl ?_ | refine .lload rfl rfl rfl rfl ?_ | refine .laddr rfl rfl rfl ?_ | refine .lssT rfl rfl rfl (by omega) ?_ | refine .load rfl rfl (hld) ?_ | refine .call rfl rfl (hL _) ?_ | refine .iaddr rfl rfl rfl (hi) ?_ | refine .skip rfl ?_ | refine .fin ?_ | refine .go rfl rfl rfl ?_))
       rfl
     | true =>
       by_cases h1 : vs = s
       ·by_cases h2 : vf = o1
        ·by_cases h3 : vn = n1
         ·have h4 : vf ≤ vt := by
           rcases hc with h | h | h | h | h
           ·cases h
           ·exact absurd h1 h
           ·exact absurd h2 h
           ·exact absurd h3 h
           ·exact h
          repeat' (first | (show ER _ _ _ _ _ _ _; first | refine .seq ?_ | refine .reg ?_ | refine .yes rfl ?_ | refine .skip ?_ | refine .block ?_ | refine .ret rfl ?_) | (show EG _ _ _ _ _ _ _ _ _; first | refine .mov rfl rfl ?_ | refine .lload rfl rfl rfl rfl ?_ | refine .laddr rfl rfl rfl ?_ | (show EG _ _ (⟨_, .bin _ _ _, _, _⟩ :: _) _ _ _ _ _ _; first | refine .lssT rfl rfl rfl (by omega) ?_ | refine .geqT rfl rfl rfl (by omega) ?_ | refine .neqF rfl rfl rfl (by omega) ?_) | refine .load rfl rfl (hld) ?_ | refine .call rfl rfl (hL _) ?_ | refine .iaddr rfl rfl rfl (hi) ?_ | refine .fin ?_ | refine .go rfl rfl rfl ?_))
          rfl
         ·repeat' (first | (show ER _ _ _ _ _ _ _; first | refine .seq ?_ | refine .reg ?_ | refine .yes rfl ?_ | refine .skip ?_ | refine .block ?_ | refine .ret rfl ?_) | (show EG _ _ _ _ _ _ _ _ _; first | refine .mov rfl rfl ?_ | refine .lload rfl rfl rfl rfl ?_ | refine .laddr rfl rfl rfl ?_ | (show EG _ _ (⟨_, .bin _ _ _, _, _⟩ :: _) _ _ _ _ _ _; first | refine .lssT rfl rfl rfl (by omega) ?_ | refine .neqT rfl rfl rfl (by omega) ?_ | refine .neqF rfl rfl rfl (by omega) ?_) | refine .load rfl rfl (hld) ?_ | refine .call rfl rfl (hL _) ?_ | refine .iaddr rfl rfl rfl (hi) ?_ | refine .skip rfl ?_ | refine .fin ?_ | refine .go rfl rfl rfl ?_))
          rfl
        ·repeat' (first | (show ER _ _ _ _ _ _ _; first | refine .seq ?_ | refine .reg ?_ | refine .yes rfl ?_ | refine .skip ?_ | refine .block ?_ | refine .ret rfl ?_) | (show EG _ _ _ _ _ _ _ _ _; first | refine .mov rfl rfl ?_ | refine .lload rfl rfl rfl rfl ?_ | refine .laddr rfl rfl rfl ?_ | (show EG _ _ (⟨_, .bin _ _ _, _, _⟩ :: _) _ _ _ _ _ _; first | refine .lssT rfl rfl rfl (by omega) ?_ | refine .neqT rfl rfl rfl (by omega) ?_ | refine .neqF rfl rfl rfl (by omega) ?_) | refine .load rfl rfl (hld) ?_ | refine .call rfl rfl (hL _) ?_ | refine .iaddr rfl rfl rfl (hi) ?_ | refine .skip rfl ?_ | refine .fin ?_ | refine .go rfl rfl rfl ?_))
         rfl
       ·repeat' (first | (show ER _ _ _ _ _ _ _; first | refine .seq ?_ | refine .reg ?_ | refine .yes rfl ?_ | refine .skip ?_ | refine .block ?_ | refine .ret rfl ?_) | (show EG _ _ _ _ _ _ _ _ _; first | refine .mov rfl rfl ?_ | refine .lload rfl rfl rfl rfl ?_ | refine .laddr rfl rfl rfl ?_ | (show EG _ _ (⟨_, .bin _ _ _, _, _⟩ :: _) _ _ _ _ _ _; first | refine .lssT rfl rfl rfl (by omega) ?_ | refine .neqT rfl rfl rfl (by omega) ?_) | refine .load rfl rfl (hld) ?_ | refine .call rfl rfl (hL _) ?_ | refine .iaddr rfl rfl rfl (hi) ?_ | refine .skip rfl ?_ | refine .fin ?_ | refine .go rfl rfl rfl ?_))
        rfl
    ·rw [if_neg hc] at hsu
     simp only [strB, if_true] at hsu
     have his : is = true := by cases is; exact absurd (.inl rfl) hc; rfl
     have h1 : vs = s := Decidable.not_not.1 fun h => hc (.inr (.inl h))
     have h2 : vf = o1 := Decidable.not_not.1 fun h => hc (.inr (.inr (.inl h)))
     have h3 : vn = n1 := Decidable.not_not.1 fun h => hc (.inr (.inr (.inr (.inl h))))
     have h4 : ¬ vf ≤ vt := fun h => hc (.inr (.inr (.inr (.inr h))))
     refine Exists.elim (ho.push2 (l0 := H.length) (bytes := 32) (e := Obj.cs ⟨s, vt, IntKind.i64.wrap (IntKind.i64.wrap (vf + vn) - vt), fx⟩) rfl (Nat.le_refl _) hx.1 (by rw [css_length]; omega) (by omega)) fun o4 hq => Exists.elim hq fun H4 hq => ?_
     have hap := hq.1
     have ho4 := hq.2.1
     have hx4 := hq.2.2 H (Nat.le_refl _) hx
     clear hq hc
     rw [css_app] at ho4
     rw [his] at hsu hbad hr1 next ⊢
     clear his
     repeat' (first | (show ER _ _ _ _ _ _ _; first | refine .seq ?_ | refine .reg ?_ | refine .yes rfl ?_ | refine .no rfl ?_ | refine .skip ?_ | refine .block ?_ | refine .endB ?_) | (show EG _ _ _ _ _ _ _ _ _; first | refine .mov rfl rfl ?_ | refine .lload rfl rfl rfl rfl ?_ | refine .laddr rfl rfl rfl ?_ | (show EG _ _ (⟨_, .bin _ _ _, _, _⟩ :: _) _ _ _ _ _ _; first | refine .lssT rfl rfl rfl (by omega) ?_ | refine .geqF rfl rfl rfl (by omega) ?_ | refine .neqF rfl rfl rfl (by omega) ?_ | refine .addN (b := 1) rfl rfl rfl (by omega) ?_) | refine .load rfl rfl (hld) ?_ | refine .call rfl rfl (hL _) ?_ | refine .iaddr rfl rfl rfl (hi) ?_ | refine .app rfl rfl rfl (hap) ?_ | refine .fin ?_ | refine .go rfl rfl rfl ?_))
     exact next (n - 1) _ _ (by omega) ⟨i + 1, _, o4, true, by omega, hsu, hfd2, rfl, hx4, ho4⟩
 ·rw [List.take_of_length_le (by omega)] at hr1 hfd1
  rw [hr1, ← hfd1]
  cases fd <;> cases is
  all_goals
   repeat' (first | (show ER _ _ _ _ _ _ _; first | refine .seq ?_ | refine .reg ?_ | refine .no rfl ?_ | refine .exit rfl ?_ | refine .ret rfl ?_) | (show EG _ _ _ _ _ _ _ _ _; first | refine .mov rfl rfl ?_ | refine .lssF rfl rfl rfl (by omega) ?_ | refine .fin ?_ | refine .go rfl rfl rfl ?_))
   exact Out.tidy2 ho (css_flat _) rfl (by intro a l c h; cases h)
end
end Go.Proofs.YtgnkcpkdlkabkaaGreat

/- Spare slots, and whether cells are sound, by the document. -/
set_option linter.unusedVariables false
set_option linter.unusedSimpArgs false
namespace Go.Proofs.YtgnkcpkdlkabkaaGreat
open Go Go.Ir

theorem ics_rows {h : Heap} {v : Value} {l : List Int} (hv : Sl h 1 v (ics l)) (h0 : l ≠ []) :
  ∃ ad cap, v = .slice (some ad) l.length cap ∧ ∀ (i : Nat) (n : Int), l[i]? = some n → loadV h none ⟨ad.block, ad.off + i * 1, none⟩ = some (I n) := by
 obtain ⟨ad, cap, h1, h2⟩ := hv.row (show ics l ≠ [] from fun e => h0 (List.map_eq_nil_iff.1 e))
 rw [ics_length] at h1
 exact ⟨ad, cap, h1, fun i n hi => (h2 i [I n] (by simp [ics, hi])).1 0 _ rfl⟩
theorem css_rows {h : Heap} {v : Value} {l : List Obj} (hv : Sl h 4 v (css l)) (h0 : l ≠ []) :
  ∃ ad cap, v = .slice (some ad) l.length cap ∧ ∀ (i : Nat) (x : Obj), l[i]? = some x → loadV h none ⟨ad.block, ad.off + i * 4 + 0, none⟩ = some (I x.s) := by
 obtain ⟨ad, cap, h1, h2⟩ := hv.row (show css l ≠ [] from fun e => h0 (List.map_eq_nil_iff.1 e))
 rw [css_length] at h1
 exact ⟨ad, cap, h1, fun i x hi => (h2 i _ (css_get hi)).1 0 _ rfl⟩

open Classical in
noncomputable def spB (sl fr : List Int) : Bool := decide (spareP sl fr)
open Classical in
theorem spB_yes {sl fr : List Int} (h : spareP sl fr) : spB sl fr = true := by unfold spB; exact decide_eq_true h
open Classical in
theorem spB_no {sl fr : List Int} (h : ¬ spareP sl fr) : spB sl fr = false := by unfold spB; exact decide_eq_false h
def spJ (sl fr : List Int) (j : Nat) : Prop := ∀ s, fr[j]? = some s → s ∉ sl ∧ ∀ k, k < j → fr[k]? ≠ some s
theorem freeR_len {ws : List Int} {c : Cfg} (hm : c.may) : (freeR ws c).length ≤ 64 := by
 have := freeL_len ws c c.S.toNat (topO (headU (getI ws 1)))
 unfold Cfg.may at hm
 unfold freeR
 omega

section
variable {lo : Nat} {H : Heap} {cb : CB} {ws bs : List Int} {c : Cfg}
set_option maxHeartbeats 4000000 in
theorem rspare_spec (hC : IsR H cb ws bs) (hm : c.may) (hw : wordsI c ≤ ws.length) (hr : Rng ws) {v : Value} {l : List Obj} (hs : Sl H 4 v (css l)) (hll : l.length ≤ 64) (lo : Nat) :
  callR En lo Id.sidingsref21_spare [ptrC cb, .agg c.cs.toArray, v] H = some (.bool (spB (l.map (·.s)) (freeR ws c)), H) := by
 refine call_scr rfl Fn.sidingsref21_spare rfl rfl ?_
 have hF := rfree_spec hC hm hw hr
 have hfl := freeR_len (ws := ws) hm
 generalize freeR ws c = fr at hF hfl ⊢
 have hms := made_sl (h := H) (n := 1) (ics_len fr)
 generalize made H 1 (ics fr) = mk at hF hms
 obtain ⟨fv, H1⟩ := mk
 have hsf : Sl H1 1 fv (ics fr) := hms.1
 have hs1 : Sl H1 4 v (css l) := hs.ext hms.2
 clear hms hs
 refine Exists.elim hsf.len fun fb hq => Exists.elim hq fun fc hve => ?_
 rw [ics_length] at hve
 subst hve
 refine Exists.elim hs1.len fun base hq => Exists.elim hq fun cap hve => ?_
 rw [css_length] at hve
 subst hve
 have hcs : Value.agg c.cs.toArray = .agg #[I c.A, I c.S, I c.T] := rfl
 rw [hcs] at hF ⊢
 have fno : ∀ {j : Nat}, j < fr.length → ¬ spJ (l.map (·.s)) fr j → spB (l.map (·.s)) fr = false := fun {j} hj hn => spB_no fun hh => hn fun s => hh j s
 have fyes : (∀ j, j < fr.length → spJ (l.map (·.s)) fr j) → spB (l.map (·.s)) fr = true := fun hh => spB_yes fun j s hj => hh j (List.getElem?_eq_some_iff.1 hj).1 s hj
 generalize spB (l.map (·.s)) fr = ans at fno fyes ⊢
 repeat' (first | (show ER _ _ _ _ _ _ _; first | refine .seq ?_ | refine .reg ?_ | refine .block ?_) | (show EG _ _ _ _ _ _ _ _ _; first | refine .mov rfl rfl ?_ | refine .lload rfl rfl rfl rfl ?_ | refine .call rfl rfl (hF _) ?_ | refine .fin ?_ | refine .go rfl rfl rfl ?_))
 refine .loop (fun n f H' => ∃ i : Nat, n + i = fr.length ∧ (∀ j, j < i → spJ (l.map (·.s)) fr j) ∧ f = [(2, .slice base l.length cap), (7, .slice fb fr.length fc), (8, N i)] ∧ H' = H1) (n := fr.length)
  ⟨0, rfl, fun j hj => by omega, rfl, rfl⟩ ?_
 rintro n f H' ⟨i, hn, hI, rfl, hH⟩ next
 subst hH
 by_cases hi : i < fr.length
 ·have hgi : fr[i]? = some fr[i] := List.getElem?_eq_getElem hi
  refine Exists.elim (ics_rows hsf (fun e => by rw [e] at hi; simp at hi)) fun ad hq => Exists.elim hq fun cap' hq => ?_
  have hva := hq.1
  have hld := hq.2
  clear hq
  injection hva with e1 e2 e3
  subst e1
  have li := hld i _ hgi
  have fno := fno hi
  have hspj : (∀ x, fr[i]? = some x → x ∉ l.map (·.s) ∧ ∀ k, k < i → fr[k]? ≠ some x) ↔ spJ (l.map (·.s)) fr i := Iff.rfl
  generalize fr[i] = x at hgi li
  repeat' (first | (show ER _ _ _ _ _ _ _; first | refine .seq ?_ | refine .reg ?_ | refine .yes rfl ?_ | refine .skip ?_ | refine .block ?_) | (show EG _ _ _ _ _ _ _ _ _; first | refine .mov rfl rfl ?_ | refine .lssT rfl rfl rfl (by omega) ?_ | refine .fin ?_ | refine .go rfl rfl rfl ?_))
  refine .loop (fun m f H2 => ∃ k : Nat, m + k = i ∧ (∀ j, j < k → fr[j]? ≠ some x) ∧ f = [(2, .slice base l.length cap), (7, .slice (some ad) fr.length fc), (8, N i), (9, N k)] ∧ H2 = H') (n := i) ⟨0, rfl, fun j hj => by omega, rfl, rfl⟩ ?_
  rintro m f H2 ⟨k, hk, hK, rfl, hH⟩ nextk
  subst hH
  by_cases hki : k < i
  ·have hkl : k < fr.length := by omega
   have hgk : fr[k]? = some fr[k] := List.getElem?_eq_getElem hkl
   have lk := hld k _ hgk
   generalize fr[k] = y at hgk lk
   by_cases hxy : y = x
   ·rw [fno fun hh => (hh x hgi).2 k hki (by rw [hgk, hxy])]
    repeat' (first | (show ER _ _ _ _ _ _ _; first | refine .seq ?_ | refine .reg ?_ | refine .yes rfl ?_ | refine .skip ?_ | refine .block ?_ | refine .ret rfl ?_) | (show EG _ _ _ _ _ _ _ _ _; first | refine .mov rfl rfl ?_ | (show EG _ _ (⟨_, .bin _ _ _, _, _⟩ :: _) _ _ _ _ _ _; first | refine .lssT rfl rfl rfl (by omega) ?_ | refine .eqlT rfl rfl rfl (by omega) ?_) | (show EG _ _ (⟨_, .load _ _, _, _⟩ :: _) _ _ _ _ _ _; first | refine .load rfl rfl (lk) ?_ | refine .load rfl rfl (li) ?_) | (show EG _ _ (⟨_, .iaddr _ _ _ _, _, _⟩ :: _) _ _ _ _ _ _; first | refine .iaddr rfl rfl rfl (hkl) ?_ | refine .iaddr rfl rfl rfl (hi) ?_) | refine .fin ?_))
    rfl
   ·repeat' (first | (show ER _ _ _ _ _ _ _; first | refine .seq ?_ | refine .reg ?_ | refine .yes rfl ?_ | refine .no rfl ?_ | refine .skip ?_ | refine .block ?_ | refine .endB ?_) | (show EG _ _ _ _ _ _ _ _ _; first | refine .mov rfl rfl ?_ | (show EG _ _ (⟨_, .bin _ _ _, _, _⟩ :: _) _ _ _ _ _ _; first | refine .lssT rfl rfl rfl (by omega) ?_ | refine .eqlF rfl rfl rfl (by omega) ?_ | refine .addN (b := 1) rfl rfl rfl (by omega) ?_) | (show EG _ _ (⟨_, .load _ _, _, _⟩ :: _) _ _ _ _ _ _; first | refine .load rfl rfl (lk) ?_ | refine .load rfl rfl (li) ?_) | (show EG _ _ (⟨_, .iaddr _ _ _ _, _, _⟩ :: _) _ _ _ _ _ _; first | refine .iaddr rfl rfl rfl (hkl) ?_ | refine .iaddr rfl rfl rfl (hi) ?_) | refine .fin ?_))
    exact nextk (m - 1) _ _ (by omega) ⟨k + 1, by omega, fun j hj => by
     by_cases hjk : j = k
     ·subst hjk; rw [hgk]; intro e; injection e with e; exact hxy e
     ·exact hK j (by omega), rfl, rfl⟩
  ·have hK' : ∀ j, j < i → fr[j]? ≠ some x := fun j hj => hK j (by omega)
   clear hK nextk
   repeat' (first | (show ER _ _ _ _ _ _ _; first | refine .seq ?_ | refine .reg ?_ | refine .no rfl ?_ | refine .block ?_ | refine .exit rfl ?_) | (show EG _ _ _ _ _ _ _ _ _; first | refine .mov rfl rfl ?_ | refine .lssF rfl rfl rfl (by omega) ?_ | refine .fin ?_))
   refine .loop (fun m f H3 => ∃ k : Nat, m + k = l.length ∧ (∀ (j : Nat) (o : Obj), j < k → l[j]? = some o → o.s ≠ x) ∧ f = [(2, .slice base l.length cap), (7, .slice (some ad) fr.length fc), (8, N i), (10, N k)] ∧ H3 = H2) (n := l.length) ⟨0, rfl, fun j o hj => by omega, rfl, rfl⟩ ?_
   rintro m f H3 ⟨k, hk, hK, rfl, hH⟩ nextk
   subst hH
   by_cases hki : k < l.length
   ·have hgk : l[k]? = some l[k] := List.getElem?_eq_getElem hki
    refine Exists.elim (css_rows hs1 (fun e => by rw [e] at hki; simp at hki)) fun ad2 hq => Exists.elim hq fun cap2 hq => ?_
    have hva2 := hq.1
    have hld2 := hq.2
    clear hq
    injection hva2 with e1 e2 e3
    subst e1
    have lk := hld2 k _ hgk
    have hmem : l[k].s ∈ l.map (·.s) := List.mem_map.2 ⟨_, List.getElem_mem hki, rfl⟩
    generalize l[k] = o at hgk lk hmem
    by_cases hxy : o.s = x
    ·rw [fno fun hh => (hh x hgi).1 (by rw [← hxy]; exact hmem)]
     repeat' (first | (show ER _ _ _ _ _ _ _; first | refine .seq ?_ | refine .reg ?_ | refine .yes rfl ?_ | refine .skip ?_ | refine .block ?_ | refine .ret rfl ?_) | (show EG _ _ _ _ _ _ _ _ _; first | refine .mov rfl rfl ?_ | (show EG _ _ (⟨_, .bin _ _ _, _, _⟩ :: _) _ _ _ _ _ _; first | refine .lssT rfl rfl rfl (by omega) ?_ | refine .eqlT rfl rfl rfl (by omega) ?_) | (show EG _ _ (⟨_, .load _ _, _, _⟩ :: _) _ _ _ _ _ _; first | refine .load rfl rfl (lk) ?_ | refine .load rfl rfl (li) ?_) | (show EG _ _ (⟨_, .iaddr _ _ _ _, _, _⟩ :: _) _ _ _ _ _ _; first | refine .iaddr rfl rfl rfl (hki) ?_ | refine .iaddr rfl rfl rfl (hi) ?_) | refine .fin ?_ | refine .go rfl rfl rfl ?_))
     rfl
    ·repeat' (first | (show ER _ _ _ _ _ _ _; first | refine .seq ?_ | refine .reg ?_ | refine .yes rfl ?_ | refine .no rfl ?_ | refine .skip ?_ | refine .block ?_ | refine .endB ?_) | (show EG _ _ _ _ _ _ _ _ _; first | refine .mov rfl rfl ?_ | (show EG _ _ (⟨_, .bin _ _ _, _, _⟩ :: _) _ _ _ _ _ _; first | refine .lssT rfl rfl rfl (by omega) ?_ | refine .eqlF rfl rfl rfl (by omega) ?_ | refine .addN (b := 1) rfl rfl rfl (by omega) ?_) | (show EG _ _ (⟨_, .load _ _, _, _⟩ :: _) _ _ _ _ _ _; first | refine .load rfl rfl (lk) ?_ | refine .load rfl rfl (li) ?_) | (show EG _ _ (⟨_, .iaddr _ _ _ _, _, _⟩ :: _) _ _ _ _ _ _; first | refine .iaddr rfl rfl rfl (hki) ?_ | refine .iaddr rfl rfl rfl (hi) ?_) | refine .fin ?_ | refine .go rfl rfl rfl ?_))
     exact nextk (m - 1) _ _ (by omega) ⟨k + 1, by omega, fun j o' hj ho' => by
      by_cases hjk : j = k
      ·subst hjk; rw [hgk] at ho'; injection ho' with e; rw [← e]; exact hxy
      ·exact hK j o' (by omega) ho', rfl, rfl⟩
   ·have hgood : spJ (l.map (·.s)) fr i := fun s hs => by
     rw [hgi] at hs
     injection hs with hs
     subst hs
     refine ⟨fun hm => ?_, hK'⟩
     obtain ⟨o, ho, e⟩ := List.mem_map.1 hm
     obtain ⟨j, hj, hjo⟩ := List.getElem_of_mem ho
     exact hK j o (by omega) (by rw [← hjo]; exact List.getElem?_eq_getElem hj) e
    clear hK nextk
    repeat' (first | (show ER _ _ _ _ _ _ _; first | refine .seq ?_ | refine .reg ?_ | refine .no rfl ?_ | refine .endB ?_ | refine .exit rfl ?_) | (show EG _ _ _ _ _ _ _ _ _; first | refine .mov rfl rfl ?_ | (show EG _ _ (⟨_, .bin _ _ _, _, _⟩ :: _) _ _ _ _ _ _; first | refine .lssF rfl rfl rfl (by omega) ?_ | refine .addN (b := 1) rfl rfl rfl (by omega) ?_) | refine .fin ?_ | refine .go rfl rfl rfl ?_))
    exact next (n - 1) _ _ (by omega) ⟨i + 1, by omega, fun j hj => by
     by_cases hji : j = i
     ·subst hji; exact hgood
     ·exact hI j (by omega), rfl, rfl⟩
 ·rw [fyes fun j hj => hI j (by omega)]
  repeat' (first | (show ER _ _ _ _ _ _ _; first | refine .seq ?_ | refine .reg ?_ | refine .no rfl ?_ | refine .exit rfl ?_ | refine .ret rfl ?_) | (show EG _ _ _ _ _ _ _ _ _; first | refine .mov rfl rfl ?_ | refine .lssF rfl rfl rfl (by omega) ?_ | refine .fin ?_ | refine .go rfl rfl rfl ?_))
  rfl

theorem lk_no (v : Mv) {l : List Fd} : ∀ {i : Nat} {r : List Obj}, i ≤ l.length → strL v false (l.take i) = some r → lkN (l.take i) = 0
 | 0, r, _, _ => rfl
 | i + 1, r, hi, h => by
   rw [strL_succ v false (by omega)] at h
   rw [lkN_succ (by omega)]
   cases hk : strL v false (l.take i) with
   | none => rw [hk] at h; cases h
   | some r' =>
     rw [hk] at h
     rw [lk_no v (by omega) hk]
     simp only [strC, strB, strR] at h
     cases hl : l[i].e.lk with
     | false => rfl
     | true => rw [hl] at h; simp at h
theorem lk_no' {v : Mv} {l : List Fd} {r : List Obj} (h : strL v false l = some r) : lkN l = 0 := by
 have := lk_no v (l := l) (i := l.length) (r := r) (Nat.le_refl _)
 rw [List.take_length] at this
 exact this h

set_option maxHeartbeats 8000000 in
theorem rcheck_spec (hC : IsR H cb ws bs) (hr : Rng ws) (c : Cfg) (mv : Mv) (is : Bool) {hv : Value} {hl : List Obj} (hll : hl.length ≤ 10) (hs : Sl H 4 hv (css hl)) (lo : Nat) :
  callR En lo Id.sidingsref21_Check [ptrC cb, .agg c.cs.toArray, hv, .agg mv.cs.toArray, .bool is] H = some (I (chkI ws c mv is hl), H) := by
 refine call_scr rfl Fn.sidingsref21_Check rfl rfl ?_
 have hO := fun lo => robjects_spec (lo := lo) hC c
 have hcs : Value.agg c.cs.toArray = .agg #[I c.A, I c.S, I c.T] := rfl
 have hmcs : Value.agg mv.cs.toArray = .agg #[I mv.s, I mv.f, I mv.t, I mv.n] := rfl
 by_cases hE : allE ws c = 0
 ·have hp := allE_zero hE
  have hm := hp.1
  have hw := hp.2
  have hm' := hm
  unfold Cfg.may at hm'
  rw [hE] at hO
  have hms := made_sl (h := H) (n := 4) (css_len (objL ws c))
  have hlen := allL_len ws c
  have hfd : ∀ a ∈ allL ws c, 0 ≤ a.x.s ∧ a.x.s < c.S ∧ unpackE (getI ws (slotI c a.x.s 0)) = some a.e := fun a ha => by
   obtain ⟨_, s, h1, y, h2, h3⟩ := allL_fd ha
   have h4 := fdS_mem h2 h3
   rw [h4.1]
   exact ⟨by omega, by omega, h4.2.1⟩
  have hsl : (objL ws c).map (·.s) = (allL ws c).map (·.x.s) := by rw [objL, List.map_map]; rfl
  have hbad : strL mv is (allL ws c) = none → chkI ws c mv is hl = 2 := chkI_none hE
  have hyes := fun r => chkI_yes (hl := hl) (r := r) (v := mv) (is := is) hE
  have hno := fun r => chkI_no (hl := hl) (r := r) (v := mv) (is := is) hE
  have hle : (objL ws c).length ≤ 64 := by rw [objL, List.length_map]; exact hlen
  rw [← hsl] at hyes hno
  generalize hmk : made H 4 (css (objL ws c)) = mk at hO hms
  obtain ⟨v1, H1⟩ := mk
  have hC1 := hC.ext hms.2
  have hst := rstretched_spec hC1 hm hw (l := allL ws c) hms.1 hlen hfd mv is
  have hb0 : 0 < ws.length := by unfold wordsI at hw; omega
  have p0 := hC1.p0
  have w0 : loadV H1 none ⟨cb.W, 0 + 0 * 1, none⟩ = some (I (getI ws 0)) := hC1.w_at hb0
  have hx1 : Ext H H1 := hms.2
  have hs1 : Sl H1 4 v1 (css (objL ws c)) := hms.1
  clear hms hmk hfd hsl
  generalize chkI ws c mv is hl = ans at *
  rw [hcs] at hO hst ⊢
  rw [hmcs] at hst ⊢
  cases hL : strL mv is (allL ws c) with
  | none =>
    rw [hL] at hst
    simp only [rstV] at hst
    rw [hbad hL]
    refine Exists.elim ((Out.nil H1 H1.length 4).more (u := hv) (fs := css hl) (l0 := H.length) (bytes := 32) (hs.ext hx1) hx1.1 (Nat.le_refl _) (by rw [css_length]; simp; omega) (by omega)) fun o5 hq => Exists.elim hq fun H5 hq => ?_
    have hap := hq.1
    clear hq
    by_cases c1 : getI ws 0 < 0
    ·repeat' (first | (show ER _ _ _ _ _ _ _; first | refine .seq ?_ | refine .reg ?_ | refine .yes rfl ?_ | refine .no rfl ?_ | refine .skip ?_ | refine .ret rfl ?_) | (show EG _ _ _ _ _ _ _ _ _; first | refine .mov rfl rfl ?_ | refine .lload rfl rfl rfl rfl ?_ | (show EG _ _ (⟨_, .bin _ _ _, _, _⟩ :: _) _ _ _ _ _ _; first | refine .lssT rfl rfl rfl (by omega) ?_ | refine .neqF rfl rfl rfl (by omega) ?_) | (show EG _ _ (⟨_, .load _ _, _, _⟩ :: _) _ _ _ _ _ _; first | refine .load rfl rfl (p0) ?_ | refine .load rfl rfl (w0) ?_) | (show EG _ _ (⟨_, .call _ _, _, _⟩ :: _) _ _ _ _ _ _; first | refine .call rfl rfl (hO _) ?_ | refine .call rfl rfl (hst _) ?_) | refine .iaddr rfl rfl rfl (hb0) ?_ | refine .app rfl rfl rfl (hap) ?_ | refine .skip rfl ?_ | refine .fin ?_ | refine .go rfl rfl rfl ?_))
     rfl
    ·by_cases c2 : c.A < getI ws 0
     ·repeat' (first | (show ER _ _ _ _ _ _ _; first | refine .seq ?_ | refine .reg ?_ | refine .yes rfl ?_ | refine .no rfl ?_ | refine .skip ?_ | refine .ret rfl ?_) | (show EG _ _ _ _ _ _ _ _ _; first | refine .mov rfl rfl ?_ | refine .lload rfl rfl rfl rfl ?_ | refine .laddr rfl rfl rfl ?_ | (show EG _ _ (⟨_, .bin _ _ _, _, _⟩ :: _) _ _ _ _ _ _; first | refine .lssF rfl rfl rfl (by omega) ?_ | refine .gtrT rfl rfl rfl (by omega) ?_ | refine .neqF rfl rfl rfl (by omega) ?_) | (show EG _ _ (⟨_, .load _ _, _, _⟩ :: _) _ _ _ _ _ _; first | refine .load rfl rfl (p0) ?_ | refine .load rfl rfl (w0) ?_) | (show EG _ _ (⟨_, .call _ _, _, _⟩ :: _) _ _ _ _ _ _; first | refine .call rfl rfl (hO _) ?_ | refine .call rfl rfl (hst _) ?_) | refine .iaddr rfl rfl rfl (hb0) ?_ | refine .app rfl rfl rfl (hap) ?_ | refine .skip rfl ?_ | refine .fin ?_ | refine .go rfl rfl rfl ?_))
      rfl
     ·repeat' (first | (show ER _ _ _ _ _ _ _; first | refine .seq ?_ | refine .reg ?_ | refine .yes rfl ?_ | refine .no rfl ?_ | refine .skip ?_ | refine .ret rfl ?_) | (show EG _ _ _ _ _ _ _ _ _; first | refine .mov rfl rfl ?_ | refine .lload rfl rfl rfl rfl ?_ | refine .laddr rfl rfl rfl ?_ | (show EG _ _ (⟨_, .bin _ _ _, _, _⟩ :: _) _ _ _ _ _ _; first | refine .lssF rfl rfl rfl (by omega) ?_ | refine .gtrF rfl rfl rfl (by omega) ?_ | refine .neqF rfl rfl rfl (by omega) ?_) | (show EG _ _ (⟨_, .load _ _, _, _⟩ :: _) _ _ _ _ _ _; first | refine .load rfl rfl (p0) ?_ | refine .load rfl rfl (w0) ?_) | (show EG _ _ (⟨_, .call _ _, _, _⟩ :: _) _ _ _ _ _ _; first | refine .call rfl rfl (hO _) ?_ | refine .call rfl rfl (hst _) ?_) | refine .iaddr rfl rfl rfl (hb0) ?_ | refine .app rfl rfl rfl (hap) ?_ | refine .skip rfl ?_ | refine .fin ?_ | refine .go rfl rfl rfl ?_))
      rfl
  | some r =>
    rw [hL] at hst
    simp only [rstV] at hst
    have hrl : r.length ≤ 64 := by
     have := strL_len mv is (l := allL ws c) (i := (allL ws c).length) (Nat.le_refl _) (r := r) (by rw [List.take_length]; exact hL)
     omega
    have hok : (decide (0 < lkN (allL ws c)) == is) = !decide (is = true ∧ lkN (allL ws c) = 0) := by
     cases is with
     | false => rw [lk_no' hL]; rfl
     | true => cases hk : lkN (allL ws c) <;> simp
    rw [hok] at hst
    clear hok
    have hmo := made_out (h := H1) (n := 4) (css_len r)
    have hmx := (made_sl (h := H1) (n := 4) (css_len r)).2
    generalize made H1 4 (css r) = mk at hst hmo hmx
    obtain ⟨v2, H2⟩ := mk
    refine Exists.elim (hmo.more (u := hv) (fs := css hl) (l0 := H.length) (bytes := 32) ((hs.ext hx1).ext hmx) hx1.1 hmx.1 (by rw [css_length, css_length]; omega) (by omega)) fun o5 hq => Exists.elim hq fun H5 hq => ?_
    have hap := hq.1
    have ho5 := hq.2.1
    have hx5 : Ext H1 H5 := hq.2.2 H1 (Nat.le_refl _) hmx
    clear hq
    have hcss : css r ++ css hl = css (r ++ hl) := by simp [css]
    rw [hcss] at ho5
    have hPC := fun lo => refCheck_spec lo (arena := getI ws 0) ho5.sl (by rw [List.length_append]; omega)
    have hSP := rspare_spec (hC1.ext hx5) hm hw hr (hs1.ext hx5) hle
    rw [hcs] at hSP
    have hno := hno r hL
    have hyes := hyes r hL
    clear hbad
    generalize getI ws 0 = top at *
    generalize hbk : decide (is = true ∧ lkN (allL ws c) = 0) = bk at hst
    by_cases c1 : top < 0
    ·rw [hno fun h => by have := h.1; omega]
     repeat' (first | (show ER _ _ _ _ _ _ _; first | refine .seq ?_ | refine .reg ?_ | refine .yes rfl ?_ | refine .no rfl ?_ | refine .skip ?_ | refine .ret rfl ?_) | (show EG _ _ _ _ _ _ _ _ _; first | refine .mov rfl rfl ?_ | refine .lload rfl rfl rfl rfl ?_ | (show EG _ _ (⟨_, .bin _ _ _, _, _⟩ :: _) _ _ _ _ _ _; first | refine .lssT rfl rfl rfl (by omega) ?_ | refine .neqF rfl rfl rfl (by omega) ?_) | (show EG _ _ (⟨_, .load _ _, _, _⟩ :: _) _ _ _ _ _ _; first | refine .load rfl rfl (p0) ?_ | refine .load rfl rfl (w0) ?_) | (show EG _ _ (⟨_, .call _ _, _, _⟩ :: _) _ _ _ _ _ _; first | refine .call rfl rfl (hO _) ?_ | refine .call rfl rfl (hst _) ?_) | refine .iaddr rfl rfl rfl (hb0) ?_ | refine .app rfl rfl rfl (hap) ?_ | refine .skip rfl ?_ | refine .fin ?_ | refine .go rfl rfl rfl ?_))
     rfl
    ·by_cases c2 : c.A < top
     ·rw [hno fun h => by have := h.2.1; omega]
      repeat' (first | (show ER _ _ _ _ _ _ _; first | refine .seq ?_ | refine .reg ?_ | refine .yes rfl ?_ | refine .no rfl ?_ | refine .skip ?_ | refine .ret rfl ?_) | (show EG _ _ _ _ _ _ _ _ _; first | refine .mov rfl rfl ?_ | refine .lload rfl rfl rfl rfl ?_ | refine .laddr rfl rfl rfl ?_ | (show EG _ _ (⟨_, .bin _ _ _, _, _⟩ :: _) _ _ _ _ _ _; first | refine .lssF rfl rfl rfl (by omega) ?_ | refine .gtrT rfl rfl rfl (by omega) ?_ | refine .neqF rfl rfl rfl (by omega) ?_) | (show EG _ _ (⟨_, .load _ _, _, _⟩ :: _) _ _ _ _ _ _; first | refine .load rfl rfl (p0) ?_ | refine .load rfl rfl (w0) ?_) | (show EG _ _ (⟨_, .call _ _, _, _⟩ :: _) _ _ _ _ _ _; first | refine .call rfl rfl (hO _) ?_ | refine .call rfl rfl (hst _) ?_) | refine .iaddr rfl rfl rfl (hb0) ?_ | refine .app rfl rfl rfl (hap) ?_ | refine .skip rfl ?_ | refine .fin ?_ | refine .go rfl rfl rfl ?_))
      rfl
     ·cases bk with
      | true =>
        rw [hno fun h => h.2.2.1 (of_decide_eq_true hbk)]
        repeat' (first | (show ER _ _ _ _ _ _ _; first | refine .seq ?_ | refine .reg ?_ | refine .yes rfl ?_ | refine .no rfl ?_ | refine .skip ?_ | refine .ret rfl ?_) | (show EG _ _ _ _ _ _ _ _ _; first | refine .mov rfl rfl ?_ | refine .lload rfl rfl rfl rfl ?_ | refine .laddr rfl rfl rfl ?_ | (show EG _ _ (⟨_, .bin _ _ _, _, _⟩ :: _) _ _ _ _ _ _; first | refine .lssF rfl rfl rfl (by omega) ?_ | refine .gtrF rfl rfl rfl (by omega) ?_ | refine .neqF rfl rfl rfl (by omega) ?_) | (show EG _ _ (⟨_, .load _ _, _, _⟩ :: _) _ _ _ _ _ _; first | refine .load rfl rfl (p0) ?_ | refine .load rfl rfl (w0) ?_) | (show EG _ _ (⟨_, .call _ _, _, _⟩ :: _) _ _ _ _ _ _; first | refine .call rfl rfl (hO _) ?_ | refine .call rfl rfl (hst _) ?_) | refine .iaddr rfl rfl rfl (hb0) ?_ | refine .app rfl rfl rfl (hap) ?_ | refine .skip rfl ?_ | refine .fin ?_ | refine .go rfl rfl rfl ?_))
        rfl
      | false =>
        have hbk := of_decide_eq_false hbk
        rcases okN_cases top (r ++ hl) with c4 | c4
        ·rw [c4] at hPC
         by_cases c5 : spareP ((objL ws c).map (·.s)) (freeR ws c)
         ·rw [spB_yes c5] at hSP
          rw [hyes ⟨by omega, by omega, hbk, c4, c5⟩]
          repeat' (first | (show ER _ _ _ _ _ _ _; first | refine .seq ?_ | refine .reg ?_ | refine .no rfl ?_ | refine .skip ?_ | refine .ret rfl ?_) | (show EG _ _ _ _ _ _ _ _ _; first | refine .mov rfl rfl ?_ | refine .lload rfl rfl rfl rfl ?_ | refine .laddr rfl rfl rfl ?_ | (show EG _ _ (⟨_, .bin _ _ _, _, _⟩ :: _) _ _ _ _ _ _; first | refine .lssF rfl rfl rfl (by omega) ?_ | refine .gtrF rfl rfl rfl (by omega) ?_ | refine .neqF rfl rfl rfl (by omega) ?_) | (show EG _ _ (⟨_, .load _ _, _, _⟩ :: _) _ _ _ _ _ _; first | refine .load rfl rfl (p0) ?_ | refine .load rfl rfl (w0) ?_) | (show EG _ _ (⟨_, .call _ _, _, _⟩ :: _) _ _ _ _ _ _; first | refine .call rfl rfl (hO _) ?_ | refine .call rfl rfl (hst _) ?_ | refine .call rfl rfl (hPC _) ?_ | refine .call rfl rfl (hSP _) ?_) | refine .iaddr rfl rfl rfl (hb0) ?_ | refine .app rfl rfl rfl (hap) ?_ | refine .fin ?_ | refine .go rfl rfl rfl ?_))
          rfl
         ·rw [spB_no c5] at hSP
          rw [hno fun h => c5 h.2.2.2.2]
          repeat' (first | (show ER _ _ _ _ _ _ _; first | refine .seq ?_ | refine .reg ?_ | refine .yes rfl ?_ | refine .no rfl ?_ | refine .skip ?_ | refine .ret rfl ?_) | (show EG _ _ _ _ _ _ _ _ _; first | refine .mov rfl rfl ?_ | refine .lload rfl rfl rfl rfl ?_ | refine .laddr rfl rfl rfl ?_ | (show EG _ _ (⟨_, .bin _ _ _, _, _⟩ :: _) _ _ _ _ _ _; first | refine .lssF rfl rfl rfl (by omega) ?_ | refine .gtrF rfl rfl rfl (by omega) ?_ | refine .neqF rfl rfl rfl (by omega) ?_) | (show EG _ _ (⟨_, .load _ _, _, _⟩ :: _) _ _ _ _ _ _; first | refine .load rfl rfl (p0) ?_ | refine .load rfl rfl (w0) ?_) | (show EG _ _ (⟨_, .call _ _, _, _⟩ :: _) _ _ _ _ _ _; first | refine .call rfl rfl (hO _) ?_ | refine .call rfl rfl (hst _) ?_ | refine .call rfl rfl (hPC _) ?_ | refine .call rfl rfl (hSP _) ?_) | refine .iaddr rfl rfl rfl (hb0) ?_ | refine .app rfl rfl rfl (hap) ?_ | refine .fin ?_ | refine .go rfl rfl rfl ?_))
          rfl
        ·rw [c4] at hPC
         rw [hno fun h => by rw [h.2.2.2.1] at c4; cases c4]
         repeat' (first | (show ER _ _ _ _ _ _ _; first | refine .seq ?_ | refine .reg ?_ | refine .yes rfl ?_ | refine .no rfl ?_ | refine .skip ?_ | refine .ret rfl ?_) | (show EG _ _ _ _ _ _ _ _ _; first | refine .mov rfl rfl ?_ | refine .lload rfl rfl rfl rfl ?_ | refine .laddr rfl rfl rfl ?_ | (show EG _ _ (⟨_, .bin _ _ _, _, _⟩ :: _) _ _ _ _ _ _; first | refine .lssF rfl rfl rfl (by omega) ?_ | refine .gtrF rfl rfl rfl (by omega) ?_ | refine .neqT rfl rfl rfl (by omega) ?_ | refine .neqF rfl rfl rfl (by omega) ?_) | (show EG _ _ (⟨_, .load _ _, _, _⟩ :: _) _ _ _ _ _ _; first | refine .load rfl rfl (p0) ?_ | refine .load rfl rfl (w0) ?_) | (show EG _ _ (⟨_, .call _ _, _, _⟩ :: _) _ _ _ _ _ _; first | refine .call rfl rfl (hO _) ?_ | refine .call rfl rfl (hst _) ?_ | refine .call rfl rfl (hPC _) ?_) | refine .iaddr rfl rfl rfl (hb0) ?_ | refine .app rfl rfl rfl (hap) ?_ | refine .skip rfl ?_ | refine .fin ?_ | refine .go rfl rfl rfl ?_))
         rfl
 ·rw [chkI_bad hE]
  have hE2 : allE ws c = 1 ∨ allE ws c = 2 := by
   unfold allE at hE ⊢
   split
   ·rename_i hp
    rw [if_pos hp] at hE
    unfold fdE at hE ⊢
    split
    ·rename_i h2; rw [if_pos h2] at hE; exact absurd rfl hE
    ·exact .inr rfl
   ·exact .inl rfl
  rcases hE2 with e | e
  ·rw [e] at hO ⊢
   repeat' (first | (show ER _ _ _ _ _ _ _; first | refine .seq ?_ | refine .reg ?_ | refine .yes rfl ?_ | refine .ret rfl ?_) | (show EG _ _ _ _ _ _ _ _ _; first | refine .mov rfl rfl ?_ | refine .lload rfl rfl rfl rfl ?_ | refine .neqT rfl rfl rfl (by omega) ?_ | refine .call rfl rfl (hO _) ?_ | refine .fin ?_ | refine .go rfl rfl rfl ?_))
   rfl
  ·rw [e] at hO ⊢
   repeat' (first | (show ER _ _ _ _ _ _ _; first | refine .seq ?_ | refine .reg ?_ | refine .yes rfl ?_ | refine .ret rfl ?_) | (show EG _ _ _ _ _ _ _ _ _; first | refine .mov rfl rfl ?_ | refine .lload rfl rfl rfl rfl ?_ | refine .neqT rfl rfl rfl (by omega) ?_ | refine .call rfl rfl (hO _) ?_ | refine .fin ?_ | refine .go rfl rfl rfl ?_))
   rfl
end
end Go.Proofs.YtgnkcpkdlkabkaaGreat

/- A slot's bytes, by the document. -/
set_option linter.unusedVariables false
set_option linter.unusedSimpArgs false
namespace Go.Proofs.YtgnkcpkdlkabkaaGreat
open Go Go.Ir

section
variable {lo : Nat} {H : Heap} {cb : CB} {ws bs : List Int}
set_option maxHeartbeats 8000000 in
theorem rbytes_spec (hC : IsR H cb ws bs) (hlo : lo ≤ cb.P) (c : Cfg) (slot : Int) :
  ∃ v H', callR En lo Id.sidingsref21_Bytes [ptrC cb, .agg c.cs.toArray, I slot] H = some (v, H') ∧ IsR H' cb ws bs ∧ Chg [cb.P] H H' ∧ Out H' H.length 1 v (ics (bytesL ws bs c slot)) := by
 refine call_ex rfl Fn.sidingsref21_Bytes rfl rfl ?_
 have hcs : Value.agg c.cs.toArray = .agg #[I c.A, I c.S, I c.T] := rfl
 have hlt := hC.lts
 have hll := allL_len ws c
 have hfd : ∀ a ∈ allL ws c, a.x.s = slot → c.may ∧ wordsI c ≤ ws.length ∧ 0 ≤ slot ∧ slot < c.S ∧ getI ws (slotI c slot 1) ≤ 256 := fun a ha hs => by
  obtain ⟨hp, s, h1, y, h2, h3⟩ := allL_fd ha
  have h4 := fdS_mem h2 h3
  rw [h4.1] at hs
  rw [hs] at h4
  exact ⟨hp.1, hp.2, by omega, by omega, h4.2.2.2.2.1⟩
 have hO := fun lo => robjects_spec (lo := lo) hC c
 have hms := (made_sl (h := H) (n := 4) (css_len (objL ws c))).2
 have hmo := made_out (h := H) (n := 4) (css_len (objL ws c))
 generalize made H 4 (css (objL ws c)) = mk at hO hms hmo
 obtain ⟨v1, H1⟩ := mk
 have hC1 := hC.ext hms
 have hx1 : Ext H H1 := hms
 have hs1 : Out H1 H.length 4 v1 (css (objL ws c)) := hmo
 clear hms hmo
 unfold bytesL
 unfold objL at hs1
 generalize allE ws c = ec at hO
 generalize allL ws c = l at hs1 hll hfd ⊢
 refine Exists.elim hs1.sl.len fun base hq => Exists.elim hq fun cap hve => ?_
 rw [css_length, List.length_map] at hve
 subst hve
 have hb0 : ∀ (l' : List Fd), (∀ a ∈ l', a ∈ l) → ((l'.map (byG bs slot (getI ws (slotI c slot 1)))).flatten).length ≤ l'.length * 256 := fun l' hl' =>
  flat_bound _ 256 l' fun a ha => by
   unfold byG
   split
   ·rename_i hs
    have := (hfd a (hl' a ha) hs).2.2.2.2
    simp [byF]; omega
   ·simp
 rw [hcs] at hO ⊢
 repeat' (first | (show ER _ _ _ _ _ _ _; first | refine .seq ?_ | refine .reg ?_ | refine .block ?_) | (show EG _ _ _ _ _ _ _ _ _; first | refine .mov rfl rfl ?_ | refine .lload rfl rfl rfl rfl ?_ | refine .call rfl rfl (hO _) ?_ | refine .fin ?_ | refine .go rfl rfl rfl ?_))
 refine .loop (fun n f H2 => ∃ (i : Nat) (o : Value), n + i = l.length ∧ f = [(0, ptrC cb), (2, I slot), (4, .agg #[I c.A, I c.S, I c.T]), (7, o), (8, .slice base l.length cap), (10, N i)] ∧ IsR H2 cb ws bs ∧ Chg [cb.P] H1 H2 ∧ Out H2 H1.length 1 o (ics (((l.take i).map (byG bs slot (getI ws (slotI c slot 1)))).flatten))) (n := l.length)
  ⟨0, _, rfl, rfl, hC1, .refl _ _, Out.nil _ _ _⟩ ?_
 rintro n f H2 ⟨i, o, hn, rfl, hC2, hx2, ho⟩ next
 have hP1 : cb.P < H1.length ∧ cb.W < H1.length ∧ cb.Y < H1.length := hC1.lts
 by_cases hi : i < l.length
 ·have hg : l[i]? = some l[i] := List.getElem?_eq_getElem hi
  have htk : ((l.take (i + 1)).map (byG bs slot (getI ws (slotI c slot 1)))).flatten = ((l.take i).map (byG bs slot (getI ws (slotI c slot 1)))).flatten ++ byG bs slot (getI ws (slotI c slot 1)) l[i] := by
   rw [List.take_succ_eq_append_getElem hi, List.map_append, List.flatten_append]
   simp
  have hP2 := hC2.lts
  have hfa := hfd l[i] (List.getElem_mem hi)
  have hpl : ((((l.take i).map (byG bs slot (getI ws (slotI c slot 1)))).flatten)).length ≤ 16384 := by
   have := hb0 (l.take i) fun a ha => List.mem_of_mem_take ha
   rw [List.length_take] at this
   have h2 : min i l.length ≤ 64 := by omega
   exact Nat.le_trans this (Nat.mul_le_mul_right 256 h2)
  have hs2 := (hs1.keep (H' := H2) fun j h1 h2 => hx2.same j h2 (by simp; omega)).sl
  refine Exists.elim (css_row hs2 (show (l.map Fd.x)[i]? = some l[i].x by rw [List.getElem?_map, hg]; rfl)) fun ad hq => Exists.elim hq fun cap' hq => ?_
  have hva := hq.1
  have hl0 := hq.2.2.1
  clear hq hs2
  injection hva with e1 e2 e3
  subst e1
  have hl1 : ∀ H4, Chg [cb.P] H1 H4 → loadV H4 none ⟨ad.block, ad.off + i * 4 + 0, none⟩ = some (I l[i].x.s) ∧ loadV H4 none ⟨ad.block, ad.off + i * 4 + 1, none⟩ = some (I l[i].x.o) := fun H4 hx4 => by
   have hs4 := (hs1.keep (H' := H4) fun j h1 h2 => hx4.same j h2 (by simp; omega)).sl
   obtain ⟨ad4, cap4, g1, g2, g3, g4, g5⟩ := css_row hs4 (show (l.map Fd.x)[i]? = some l[i].x by rw [List.getElem?_map, hg]; rfl)
   injection g1 with g1 g6 g7
   injection g1 with g1
   subst g1
   exact ⟨g3, g4⟩
  generalize ((l.take i).map (byG bs slot (getI ws (slotI c slot 1)))).flatten = pre at ho htk hpl
  generalize l[i] = a at hg htk hl0 hl1 hfa
  obtain ⟨⟨s, o1, n1, fx⟩, ⟨eo, eg, ep, eu, lk, lv⟩⟩ := a
  simp only at hl0 hl1 hfa
  by_cases hs : s = slot
  ·subst hs
   have hfa := hfa rfl
   have hm := hfa.1
   refine Exists.elim (slot_nat hm hfa.2.2.1 hfa.2.2.2.1 (j := 1) (by omega) hfa.2.1) fun k1 hq => ?_
   have hk1 := hq.1
   have hb1 := hq.2
   clear hq
   have hA : ∀ lo H4, callR En lo Id.sidingsref06_At [.agg #[I c.A, I c.S, I c.T], I 6, I s] H4 = some (N k1, H4) := fun lo H4 => (atS_spec lo H4 hm s (j := 1) (by omega)).trans (by rw [hk1])
   have hwl : ∀ H4, IsR H4 cb ws bs → loadV H4 none ⟨cb.W, 0 + k1 * 1, none⟩ = some (I (getI ws (k1 : Nat))) := fun H4 h => h.w_at hb1
   have hz := hfa.2.2.2.2
   have hby : byG bs s (getI ws (slotI c s 1)) ⟨⟨s, o1, n1, fx⟩, ⟨eo, eg, ep, eu, lk, lv⟩⟩ = byF bs (getI ws (slotI c s 1)).toNat o1 := if_pos rfl
   rw [hby] at htk
   rw [hk1] at htk hz next ⊢
   have hnx : ∀ (H4 : Heap) (o4 : Value) f4, IsR H4 cb ws bs → Chg [cb.P] H1 H4 → Out H4 H1.length 1 o4 (ics (pre ++ byF bs (getI ws (k1 : Nat)).toNat o1)) →
     keep [0, 2, 4, 7, 8, 10] f4 = [(0, ptrC cb), (2, I s), (4, .agg #[I c.A, I c.S, I c.T]), (7, o4), (8, .slice (some ad) l.length cap), (10, N (i + 1))] → _ := fun H4 o4 f4 h1 h2 h3 h4 => next (n - 1) f4 H4 (by omega) ⟨i + 1, o4, by omega, h4, h1, h2, by rw [htk]; exact h3⟩
   clear next htk hby hfd hb0 hk1
   generalize getI ws (k1 : Nat) = z at hwl hz hnx
   repeat' (first | (show ER _ _ _ _ _ _ _; first | refine .seq ?_ | refine .reg ?_ | refine .yes rfl ?_ | refine .no rfl ?_ | refine .skip ?_ | refine .block ?_) | (show EG _ _ _ _ _ _ _ _ _; first | refine .mov rfl rfl ?_ | (show EG _ _ (⟨_, .bin _ _ _, _, _⟩ :: _) _ _ _ _ _ _; first | refine .lssT rfl rfl rfl (by omega) ?_ | refine .neqF rfl rfl rfl (by omega) ?_) | refine .load rfl rfl (hl0) ?_ | refine .iaddr rfl rfl rfl (hi) ?_ | refine .fin ?_ | refine .go rfl rfl rfl ?_))
   refine .loop (fun m f H4 => ∃ (k : Nat) (o4 : Value), m + k = z.toNat ∧ f = [(0, ptrC cb), (2, I s), (4, .agg #[I c.A, I c.S, I c.T]), (7, o4), (8, .slice (some ad) l.length cap), (10, N i), (11, N k)] ∧ IsR H4 cb ws bs ∧ Chg [cb.P] H1 H4 ∧ Out H4 H1.length 1 o4 (ics (pre ++ byF bs k o1))) (n := z.toNat)
    ⟨0, o, by omega, rfl, hC2, hx2, by simpa [byF] using ho⟩ ?_
   rintro m f H4 ⟨k, o4, hm4, rfl, hC4, hx4, ho4⟩ next4
   have p4 := hC4.p0
   have w4 := hwl H4 hC4
   have hl4 := (hl1 H4 hx4).2
   by_cases hk : (k : Int) < z
   ·refine Exists.elim (rbyte_spec hC4 hlo (IntKind.i64.wrap (o1 + (k : Nat)))) fun H5 hq => ?_
    have hB := hq.1
    have hC5 := hq.2.1
    have hx5 := hx4.trans (.of hq.2.2)
    have ho5 := ho4.keep fun j h1 h2 => hq.2.2.same j (by simp; omega)
    clear hq
    refine Exists.elim (ho5.push3 (l0 := lo) (bytes := 8) (e := [I (getI bs (IntKind.i64.wrap (o1 + (k : Nat))))]) rfl (by omega) hx5.len (by rw [ics_length]; simp [byF]; omega) (by omega)) fun o6 hq => Exists.elim hq fun H6 hq => ?_
    have hap := hq.1
    have ho6 := hq.2.1
    have hC6 := hC5.keep hq.2.2.2 hP1
    have hx6 := hx5.keep (Nat.le_refl _) hq.2.2.1 hq.2.2.2
    clear hq
    rw [ics_app, List.append_assoc, ← byF_succ] at ho6
    repeat' (first | (show ER _ _ _ _ _ _ _; first | refine .seq ?_ | refine .reg ?_ | refine .yes rfl ?_ | refine .skip ?_ | refine .block ?_ | refine .endB ?_) | (show EG _ _ _ _ _ _ _ _ _; first | refine .mov rfl rfl ?_ | refine .lload rfl rfl rfl rfl ?_ | (show EG _ _ (⟨_, .bin _ _ _, _, _⟩ :: _) _ _ _ _ _ _; first | refine .lssT rfl rfl rfl (by omega) ?_ | refine .addN (b := 1) rfl rfl rfl (by omega) ?_) | (show EG _ _ (⟨_, .load _ _, _, _⟩ :: _) _ _ _ _ _ _; first | refine .load rfl rfl (w4) ?_ | refine .load rfl rfl (hl4) ?_) | (show EG _ _ (⟨_, .call _ _, _, _⟩ :: _) _ _ _ _ _ _; first | refine .call rfl rfl (hA _ _) ?_ | refine .call rfl rfl (hB) ?_) | (show EG _ _ (⟨_, .iaddr _ _ _ _, _, _⟩ :: _) _ _ _ _ _ _; first | refine .iaddr rfl rfl rfl (hb1) ?_ | refine .iaddr rfl rfl rfl (hi) ?_) | refine .app rfl rfl rfl (hap) ?_ | refine .loadc rfl rfl p4 (one_take p4) (same_sl _ _ _) ?_ | refine .fin ?_ | refine .go rfl rfl rfl ?_))
    exact next4 (m - 1) _ _ (by omega) ⟨k + 1, o6, by omega, rfl, hC6, hx6, ho6⟩
   ·have hkz : k = z.toNat := by omega
    rw [hkz] at ho4
    repeat' (first | (show ER _ _ _ _ _ _ _; first | refine .seq ?_ | refine .reg ?_ | refine .no rfl ?_ | refine .endB ?_ | refine .exit rfl ?_) | (show EG _ _ _ _ _ _ _ _ _; first | refine .mov rfl rfl ?_ | refine .lload rfl rfl rfl rfl ?_ | (show EG _ _ (⟨_, .bin _ _ _, _, _⟩ :: _) _ _ _ _ _ _; first | refine .lssF rfl rfl rfl (by omega) ?_ | refine .addN (b := 1) rfl rfl rfl (by omega) ?_) | refine .load rfl rfl (w4) ?_ | refine .call rfl rfl (hA _ _) ?_ | refine .iaddr rfl rfl rfl (hb1) ?_ | refine .loadc rfl rfl p4 (one_take p4) (same_sl _ _ _) ?_ | refine .fin ?_ | refine .go rfl rfl rfl ?_))
    exact hnx _ _ _ hC4 hx4 ho4 rfl
  ·have hby : byG bs slot (getI ws (slotI c slot 1)) ⟨⟨s, o1, n1, fx⟩, ⟨eo, eg, ep, eu, lk, lv⟩⟩ = [] := if_neg hs
   rw [hby, List.append_nil] at htk
   repeat' (first | (show ER _ _ _ _ _ _ _; first | refine .seq ?_ | refine .reg ?_ | refine .yes rfl ?_ | refine .skip ?_ | refine .block ?_ | refine .exit rfl ?_) | (show EG _ _ _ _ _ _ _ _ _; first | refine .mov rfl rfl ?_ | (show EG _ _ (⟨_, .bin _ _ _, _, _⟩ :: _) _ _ _ _ _ _; first | refine .lssT rfl rfl rfl (by omega) ?_ | refine .neqT rfl rfl rfl (by omega) ?_ | refine .addN (b := 1) rfl rfl rfl (by omega) ?_) | refine .load rfl rfl (hl0) ?_ | refine .iaddr rfl rfl rfl (hi) ?_ | refine .fin ?_ | refine .go rfl rfl rfl ?_))
   exact next (n - 1) _ _ (by omega) ⟨i + 1, o, by omega, rfl, hC2, hx2, by rw [htk]; exact ho⟩
 ·rw [List.take_of_length_le (by omega)] at ho
  repeat' (first | (show ER _ _ _ _ _ _ _; first | refine .seq ?_ | refine .reg ?_ | refine .no rfl ?_ | refine .exit rfl ?_ | refine .ret rfl ?_) | (show EG _ _ _ _ _ _ _ _ _; first | refine .mov rfl rfl ?_ | refine .lssF rfl rfl rfl (by omega) ?_ | refine .fin ?_ | refine .go rfl rfl rfl ?_))
  exact ⟨hC2, (Chg.refl _ _).ext hx1 |>.trans hx2, ho.mono' hx1.1⟩
end
end Go.Proofs.YtgnkcpkdlkabkaaGreat

