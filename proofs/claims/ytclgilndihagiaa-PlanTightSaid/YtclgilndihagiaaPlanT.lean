/- Small whole numbers as floats. -/
import Derived.Test.YtclgilndihagiaaPlanO
import Derived.KernelRfl

set_option linter.unusedVariables false
set_option linter.unusedSimpArgs false
namespace Go.Proofs.Ytclgilndihagiaa
open Go Go.Ir

def fl (n : Nat) : Nat := Ieee.double.nearest false n 0

theorem fl_eq (n : Nat) : FloatKind.f64.nearest (n : Int) = fl n := by
  unfold FloatKind.nearest FloatKind.encode Ieee.Format.write fl
  have hd : decide ((n : Int) < 0) = false := decide_eq_false (by omega)
  simp only [hd, Int.natAbs_natCast, FloatKind.format]

def chk (n : Nat) : Bool :=
  match Ieee.double.read (fl n) with
  | .number false m p => decide (p ≤ 0) && decide (-p ≤ 1074) && (m == n <<< (-p).toNat)
  | _ => false
theorem chk_all : (List.range 8200).all chk = true := by kernel_rfl

theorem read_fl {n : Nat} (h : n < 8200) : ∃ k : Nat, k ≤ 1074 ∧ Ieee.double.read (fl n) = .number false (n * 2 ^ k) (-(k : Int)) := by
  have := List.all_eq_true.1 chk_all n (List.mem_range.2 h)
  unfold chk at this
  split at this
  · rename_i m p hr
    simp only [Bool.and_eq_true, decide_eq_true_eq, beq_iff_eq] at this
    obtain ⟨⟨h1, h2⟩, h3⟩ := this
    refine ⟨(-p).toNat, by omega, ?_⟩
    rw [hr, h3, Nat.shiftLeft_eq]
    congr 1
    omega
  · cases this

theorem cut0 (n : Nat) (neg : Bool) : Ieee.Toward.even.cut neg n 0 = n := by
  unfold Ieee.Toward.cut
  simp [Nat.mod_one]

theorem log2_mul_pow {c k : Nat} (hc : c ≠ 0) : (c * 2 ^ k).log2 = c.log2 + k := by
  have hpos : 0 < 2 ^ k := Nat.two_pow_pos k
  have h0 : c * 2 ^ k ≠ 0 := Nat.mul_ne_zero hc (by omega)
  have h1 := Nat.log2_self_le hc
  have h2 := Nat.lt_log2_self (n := c)
  refine Nat.le_antisymm ?_ ?_
  · have : c * 2 ^ k < 2 ^ (c.log2 + k + 1) := by
      rw [show c.log2 + k + 1 = (c.log2 + 1) + k by omega, Nat.pow_add]
      exact Nat.mul_lt_mul_of_pos_right h2 hpos
    have := (Nat.log2_lt h0).2 this
    omega
  · refine (Nat.le_log2 h0).2 ?_
    rw [Nat.pow_add]
    exact Nat.mul_le_mul_right _ h1

theorem cut_exact {c s d : Nat} (neg : Bool) (hc : c ≠ 0) : Ieee.Toward.even.cut neg (c * 2 ^ (s + d)) d = c * 2 ^ s := by
  unfold Ieee.Toward.cut
  have hl : d ≤ (c * 2 ^ (s + d)).log2 + 2 := by rw [log2_mul_pow hc]; omega
  simp only [Nat.min_eq_left hl, Nat.one_shiftLeft]
  have hd : 0 < 2 ^ d := Nat.two_pow_pos d
  have e : c * 2 ^ (s + d) = c * 2 ^ s * 2 ^ d := by rw [Nat.pow_add, Nat.mul_assoc]
  rw [e, Nat.mul_mod_left, Nat.mul_div_cancel _ hd]
  have h1 : ¬ 2 ^ d < 2 * 0 := by omega
  have h2 : (2 ^ d == 2 * 0) = false := by simp
  simp [h2]

theorem nearest_scale {c k : Nat} (hc : c < 8200) (hk : k ≤ 1074) : Ieee.double.nearest false (c * 2 ^ k) (-(k : Int)) = fl c := by
  unfold fl Ieee.Format.nearest
  by_cases h0 : c = 0
  · subst h0; simp
  have hpos : c * 2 ^ k ≠ 0 := Nat.mul_ne_zero h0 (by have := Nat.two_pow_pos k; omega)
  have hlog : c.log2 < 14 := (Nat.log2_lt h0).2 (by omega)
  rw [if_neg hpos, if_neg h0, log2_mul_pow h0]
  have hf : (Ieee.double.fractionBits : Int) = 52 := rfl
  have hlp : Ieee.double.leastPlace = -1074 := by decide
  have e1 : max (-(k : Int) + ((c.log2 + k : Nat) : Int) - (Ieee.double.fractionBits : Nat)) Ieee.double.leastPlace = (c.log2 : Int) - 52 := by rw [hf, hlp]; omega
  have e2 : max ((0 : Int) + (c.log2 : Int) - (Ieee.double.fractionBits : Nat)) Ieee.double.leastPlace = (c.log2 : Int) - 52 := by rw [hf, hlp]; omega
  rw [e1, e2]
  simp only
  congr 1
  congr 1
  congr 1
  have s1 : ((0 : Int) - ((c.log2 : Int) - 52)).toNat = 52 - c.log2 := by omega
  have s2 : ((c.log2 : Int) - 52 - 0).toNat = 0 := by omega
  rw [s1, s2, cut0, Nat.shiftLeft_eq]
  by_cases hks : k ≤ 52 - c.log2
  · have s3 : (-(k : Int) - ((c.log2 : Int) - 52)).toNat = 52 - c.log2 - k := by omega
    have s4 : ((c.log2 : Int) - 52 - -(k : Int)).toNat = 0 := by omega
    rw [s3, s4, cut0, Nat.shiftLeft_eq, Nat.mul_assoc, ← Nat.pow_add]
    congr 2
    omega
  · have s3 : (-(k : Int) - ((c.log2 : Int) - 52)).toNat = 0 := by omega
    have s4 : ((c.log2 : Int) - 52 - -(k : Int)).toNat = k - (52 - c.log2) := by omega
    rw [s3, s4]
    simp only [Nat.shiftLeft_eq, Nat.pow_zero, Nat.mul_one]
    have : k = (52 - c.log2) + (k - (52 - c.log2)) := by omega
    rw [show c * 2 ^ k = c * 2 ^ ((52 - c.log2) + (k - (52 - c.log2))) by rw [← this], cut_exact _ h0]

theorem signed_nat (m u : Nat) : Ieee.signed false m u = ((m * 2 ^ u : Nat) : Int) := by
  unfold Ieee.signed
  simp [Nat.shiftLeft_eq]

theorem fl_add {a b : Nat} (h : a + b < 8200) : Ieee.double.add (fl a) (fl b) = some (fl (a + b)) := by
  obtain ⟨k, hk, ha⟩ := read_fl (n := a) (by omega)
  obtain ⟨j, hj, hb⟩ := read_fl (n := b) (by omega)
  unfold Ieee.Format.add
  rw [ha, hb]
  have hbase : min (-(k : Int)) (-(j : Int)) = -((max k j : Nat) : Int) := by omega
  have hu : (-(k : Int) - -((max k j : Nat) : Int)).toNat = max k j - k := by omega
  have hv : (-(j : Int) - -((max k j : Nat) : Int)).toNat = max k j - j := by omega
  have ht : Ieee.signed false (a * 2 ^ k) (max k j - k) + Ieee.signed false (b * 2 ^ j) (max k j - j) = (((a + b) * 2 ^ (max k j) : Nat) : Int) := by
    rw [signed_nat, signed_nat, Nat.mul_assoc, Nat.mul_assoc, ← Nat.pow_add, ← Nat.pow_add, show k + (max k j - k) = max k j by omega, show j + (max k j - j) = max k j by omega, Nat.add_mul]
    simp
  simp only [Ieee.Datum.sum, hbase, hu, hv, ht, Option.map_some]
  have hneg : (if ((((a + b) * 2 ^ (max k j) : Nat) : Int) = 0) then (false && false) else decide ((((a + b) * 2 ^ (max k j) : Nat) : Int) < 0)) = false := by
    split
    · rfl
    · exact decide_eq_false (by omega)
  rw [hneg]
  show some (Ieee.double.nearest false _ _) = _
  rw [Int.natAbs_natCast, nearest_scale h (by omega)]

theorem fl_int {n : Nat} (h : n < 8200) : (FloatKind.f64.decode (fl n)).toInt .zero = some (n : Int) := by
  obtain ⟨k, hk, ha⟩ := read_fl h
  unfold FloatKind.decode
  rw [show FloatKind.f64.format = Ieee.double from rfl, ha]
  unfold Ieee.Datum.toInt Ieee.Datum.integral
  simp only
  have s1 : (-(k : Int)).toNat = 0 := by omega
  have s2 : (- -(k : Int)).toNat = k := by omega
  rw [s1, s2, Nat.shiftLeft_zero, signed_nat]
  by_cases h0 : n = 0
  · subst h0
    unfold Ieee.Toward.cut
    simp
  · have hl : k ≤ (n * 2 ^ k).log2 + 2 := by rw [log2_mul_pow h0]; omega
    unfold Ieee.Toward.cut
    simp only [Nat.min_eq_left hl, Nat.one_shiftLeft, Nat.mul_div_cancel _ (Nat.two_pow_pos k)]
    simp
end Go.Proofs.Ytclgilndihagiaa

/- Slid again nothing moves; no gap. Plain. -/
set_option linter.unusedVariables false
set_option linter.unusedSimpArgs false
namespace Go.Proofs.Ytclgilndihagiaa
open Go Go.Ir

def sumN (l : List Obj) : Int := (l.map Obj.n).sum

/-- Each begins where the one ahead of it ends; the last one ends there. -/
def Tight : List Obj → Int → Int → Prop
  | [], e, t => e = t
  | x :: r, e, t => x.o = e ∧ Tight r (e + x.n) t

theorem again : ∀ {arena : Int} {l : List Obj} {e : Int}, Good arena l → 0 ≤ e → (∀ x ∈ l, e ≤ x.o) → slideG (mixG l e l.length) e = ([], (slideG l e).2)
  | arena, [], e, hg, h0, hl => rfl
  | arena, x :: r, e, hg, h0, hl => by
    obtain ⟨t1, t2, hw⟩ := slide_wrap hg h0 (hl x (by simp))
    obtain ⟨a1, a2, a3⟩ := hg.each x (by simp)
    have hpr := List.pairwise_cons.1 hg.row
    have ih := again (e := slideT e x + x.n) hg.tail (by omega) (fun y hy => by have := hpr.1 y hy; omega)
    have hT : slideT e (putO x (slideT e x)) = slideT e x := by
      unfold slideT putO
      cases x.fx <;> rfl
    show slideG (putO x (slideT e x) :: mixG r (slideT e x + x.n) r.length) e = _
    rw [slideG_cons, slideG_cons, hT, show (putO x (slideT e x)).n = x.n from rfl, hw, ih, if_pos (show slideT e x = (putO x (slideT e x)).o from rfl)]

theorem tight_mix : ∀ {arena : Int} {l : List Obj} {e : Int}, Good arena l → 0 ≤ e → (∀ x ∈ l, e ≤ x.o) → (∀ x ∈ l, x.fx = false) → Tight (mixG l e l.length) e (slideG l e).2 ∧ (slideG l e).2 = e + sumN l
  | arena, [], e, hg, h0, hl, hf => ⟨rfl, by simp [slideG, sumN]⟩
  | arena, x :: r, e, hg, h0, hl, hf => by
    obtain ⟨t1, t2, hw⟩ := slide_wrap hg h0 (hl x (by simp))
    obtain ⟨a1, a2, a3⟩ := hg.each x (by simp)
    have hpr := List.pairwise_cons.1 hg.row
    obtain ⟨i1, i2⟩ := tight_mix (e := slideT e x + x.n) hg.tail (by omega) (fun y hy => by have := hpr.1 y hy; omega) (fun y hy => hf y (by simp [hy]))
    have hT : slideT e x = e := by simp [slideT, hf x (by simp)]
    have hs2 : (slideG (x :: r) e).2 = (slideG r (slideT e x + x.n)).2 := by rw [slideG_cons, hw]
    rw [hs2]
    refine ⟨⟨hT, ?_⟩, ?_⟩
    · have h3 := i1
      rw [hT] at h3 ⊢
      exact h3
    · rw [i2, hT]
      simp only [sumN, List.map_cons, List.sum_cons]
      omega

theorem mvd_perm {l so : List Obj} (h : so.Perm l) (ms : List Mv) : (mvd so ms).Perm (mvd l ms) := h.map _

theorem good_sorted {arena : Int} {l : List Obj} (hg : Good arena l) : l.Pairwise Le := by
  refine hg.row.imp_of_mem fun {x y} hx hy hxy => ?_
  have := (hg.each x hx).2.1
  unfold Le ltP
  omega

/-- What a slide leaves behind. -/
theorem slid {arena : Int} {l : List Obj} (h : okP arena l) :
    okP arena (mvd l (slideL (sortR l)).1) ∧ sortR (mvd l (slideL (sortR l)).1) = mixG (sortR l) 0 (sortR l).length ∧ slideL (sortR (mvd l (slideL (sortR l)).1)) = ([], (slideL (sortR l)).2) := by
  have hg := good_of h
  have hlow : ∀ x ∈ sortR l, (0 : Int) ≤ x.o := fun x hx => (hg.each x hx).1
  have hall := mvd_all hg (Int.le_refl 0) hlow
  have hgood := (mix_good (k := (sortR l).length) hg (Int.le_refl 0) hlow).1
  have hp : (mvd l (slideL (sortR l)).1).Perm (mixG (sortR l) 0 (sortR l).length) := by
    rw [← hall, ← slideL_G]
    exact (mvd_perm (sortR_perm l) _).symm
  have hs : sortR (mvd l (slideL (sortR l)).1) = mixG (sortR l) 0 (sortR l).length := sorted_unique ((sortR_perm _).trans hp) (sortR_sorted _) (good_sorted hgood)
  refine ⟨⟨h.1, h.2.1, ?_, fun i x hx => ?_⟩, hs, ?_⟩
  · rw [apartP_pairs, hp.pairwise_iff (R := fun y x => shareB x y = false) (fun {x y} h => by rw [shareB_comm]; exact h), ← apartP_pairs]
    exact good_apart hgood
  · obtain ⟨a1, a2, a3⟩ := hgood.each x (hp.mem_iff.1 (List.mem_of_getElem? hx))
    have h1 := h.1
    have h2 := h.2.1
    refine ⟨a1, a2, by omega, ?_⟩
    rw [wrap_le (by omega) (by omega)]
    omega
  · rw [hs, slideL_G, slideL_G]
    exact again hg (Int.le_refl 0) hlow

theorem sumN_cons (x : Obj) (l : List Obj) : sumN (x :: l) = x.n + sumN l := rfl
theorem sumN_app (l l' : List Obj) : sumN (l ++ l') = sumN l + sumN l' := by
  induction l with
  | nil => show sumN l' = 0 + sumN l'; omega
  | cons x l ih => rw [List.cons_append, sumN_cons, sumN_cons, ih]; omega
theorem sumN_perm {l l' : List Obj} (h : l.Perm l') : sumN l = sumN l' := by
  induction h with
  | nil => rfl
  | cons x _ ih => rw [sumN_cons, sumN_cons, ih]
  | swap x y l => rw [sumN_cons, sumN_cons, sumN_cons, sumN_cons]; omega
  | trans _ _ h1 h2 => exact h1.trans h2

theorem slid_tight {arena : Int} {l : List Obj} (h : okP arena l) (hf : l.any Obj.fx = false) :
    Tight (sortR (mvd l (slideL (sortR l)).1)) 0 (slideL (sortR l)).2 ∧ (slideL (sortR l)).2 = sumN l := by
  have hg := good_of h
  have hlow : ∀ x ∈ sortR l, (0 : Int) ≤ x.o := fun x hx => (hg.each x hx).1
  have hfx : ∀ x ∈ sortR l, x.fx = false := fun x hx => by
    have := List.any_eq_false.1 hf x ((sortR_perm l).mem_iff.1 hx)
    simpa using this
  obtain ⟨h1, h2⟩ := tight_mix hg (Int.le_refl 0) hlow hfx
  rw [(slid h).2.1, slideL_G]
  exact ⟨h1, by rw [h2, sumN_perm (sortR_perm l)]; omega⟩

theorem okP_wide {arena : Int} {l : List Obj} (h : okP arena l) : okP 4096 l := by
  refine ⟨by omega, by omega, h.2.2.1, fun i x hx => ?_⟩
  obtain ⟨f1, f2, f3, f4⟩ := h.2.2.2 i x hx
  have h1 := h.1
  have h2 := h.2.1
  rw [wrap_le (by omega) (by omega)] at f4
  refine ⟨f1, f2, f3, ?_⟩
  rw [wrap_le (by omega) (by omega)]
  omega

theorem sumN_bound {l : List Obj} (h : ∀ x ∈ l, 1 ≤ x.n ∧ x.n ≤ 4096) : 0 ≤ sumN l ∧ sumN l ≤ 4096 * l.length := by
  induction l with
  | nil => simp [sumN]
  | cons x l ih =>
    have h1 := ih fun y hy => h y (by simp [hy])
    have h2 := h x (by simp)
    simp only [sumN, List.map_cons, List.sum_cons, List.length_cons] at h1 ⊢
    omega
theorem sumN_take {l : List Obj} {i : Nat} (hi : i < l.length) : sumN (l.take (i + 1)) = sumN (l.take i) + (gt l i).n := by
  rw [List.take_succ_eq_append_getElem hi, sumN_app, sumN_cons]
  have : gt l i = l[i] := by simp [gt, hi]
  rw [this]
  show _ + (l[i].n + 0) = _
  omega
end Go.Proofs.Ytclgilndihagiaa

/- Gaps, where there are none: the walk. -/
set_option linter.unusedVariables false
set_option linter.unusedSimpArgs false
namespace Go.Proofs.Ytclgilndihagiaa
open Go Go.Ir

section
variable {E : Env} {lo : Nat} {os : List IOper} {f : Fr} {h h' : Heap} {hs hs' : List Heap} {v : Value} {k : List Ir.Item} {rs : List IRes} {Q : Value → Heap → Prop} {d : Nat} {g : Option (Nat × Bool)} {x y : Operand}
theorem EndsG.addF {a b c : Nat} (hw : want g f = some true) (hx : ev f x = some (.float .f64 a)) (hy : ev f y = some (.float .f64 b)) (hc : Ieee.double.add a b = some c) (z : EndsG E lo os hs k ((d, .float .f64 c) :: f) h rs Q) :
    EndsG E lo (⟨some d, .bin .add x y, g, 0⟩ :: os) hs k f h rs Q := .go hw (by
      simp only [iop, hx, hy, ibin, FloatKind.format, hc, if_true]) rfl z
theorem EndsG.convF {a : Nat} {n : Int} (hw : want g f = some true) (hx : ev f x = some (.float .f64 a)) (hn : (FloatKind.f64.decode a).toInt .zero = some n) (hr : IntKind.i64.min ≤ n ∧ n ≤ IntKind.i64.max) (z : EndsG E lo os hs k ((d, .int .i64 n) :: f) h rs Q) :
    EndsG E lo (⟨some d, .conv (.int .i64) x, g, 0⟩ :: os) hs k f h rs Q := .go hw (by
      simp only [iop, hx, iconv, hn, if_pos hr]) rfl z
theorem EndsG.min2 {a b : Int} (hw : want g f = some true) (hx : ev f x = some (.int .i64 a)) (hy : ev f y = some (.int .i64 b)) (hab : a ≤ b) (z : EndsG E lo os hs k ((d, .int .i64 a) :: f) h rs Q) :
    EndsG E lo (⟨some d, .min [x, y], g, 0⟩ :: os) hs k f h rs Q := .go hw (by
      simp only [iop, evs, hx, hy, minL, if_true]
      rw [if_neg (show ¬ b < a by omega)]) rfl z
theorem EndsG.subZ {a b : Int} (hw : want g f = some true) (hx : ev f x = some (.int .i64 a)) (hy : ev f y = some (.int .i64 b)) (hab : a = b) (z : EndsG E lo os hs k ((d, .int .i64 0) :: f) h rs Q) :
    EndsG E lo (⟨some d, .bin .sub x y, g, 0⟩ :: os) hs k f h rs Q := .go hw (by
      subst hab
      simp only [iop, hx, hy, ibin, isShift, ibinI, if_true, Int.sub_self]
      rfl) rfl z
end

theorem spanOf_spec (lo : Nat) (h : Heap) (a b : Int) : callR En lo Id.plan_spanOf [.int .i64 a, .int .i64 b] h = some (.complex .f64 (FloatKind.f64.nearest a) (FloatKind.f64.nearest b), h) := by
  refine call_scr rfl Fn.plan_spanOf rfl rfl ?_
  repeat' (first | (show EndsR _ _ _ _ _ _ _; first | refine EndsR.seq ?_ | refine EndsR.reg ?_ | refine EndsR.yes rfl ?_ | refine EndsR.no rfl ?_ | refine EndsR.skip ?_ | refine EndsR.block ?_ | refine EndsR.endB ?_ | refine EndsR.exit rfl ?_ | refine EndsR.br rfl (fun hc => ?_) (fun hc => ?_) | refine EndsR.scope ?_ | refine EndsR.inScope ?_ | refine EndsR.label ?_ | refine EndsR.ret rfl ?_ | refine EndsR.nil rfl ?_) | (show EndsG _ _ _ _ _ _ _ _ _; first | refine EndsG.mov rfl rfl ?_ | refine EndsG.lload rfl rfl rfl rfl ?_ | refine EndsG.laddr rfl rfl rfl ?_ | refine EndsG.lss rfl rfl rfl (fun hc => ?_) (fun hc => ?_) | refine EndsG.leq rfl rfl rfl (fun hc => ?_) (fun hc => ?_) | refine EndsG.gtr rfl rfl rfl (fun hc => ?_) (fun hc => ?_) | refine EndsG.geq rfl rfl rfl (fun hc => ?_) (fun hc => ?_) | refine EndsG.eql rfl rfl rfl (fun hc => ?_) (fun hc => ?_) | refine EndsG.neq rfl rfl rfl (fun hc => ?_) (fun hc => ?_) | refine EndsG.skip rfl ?_ | refine EndsG.fin ?_ | refine EndsG.go rfl rfl rfl ?_ | refine EndsG.gono rfl rfl rfl ?_ | refine EndsG.skipn rfl ?_))
  rfl

theorem spanEnd_spec (lo : Nat) (h : Heap) {a b : Int} (ha : 0 ≤ a) (hb : 0 ≤ b) (hab : a + b < 8200) : callR En lo Id.plan_span_end [.complex .f64 (FloatKind.f64.nearest a) (FloatKind.f64.nearest b)] h = some (.int .i64 (a + b), h) := by
  obtain ⟨a, rfl⟩ := Int.eq_ofNat_of_zero_le ha
  obtain ⟨b, rfl⟩ := Int.eq_ofNat_of_zero_le hb
  rw [fl_eq, fl_eq]
  have h1 : a + b < 8200 := by omega
  have hmin : IntKind.i64.min ≤ ((a + b : Nat) : Int) ∧ ((a + b : Nat) : Int) ≤ IntKind.i64.max := by
    have e1 : IntKind.i64.min = -9223372036854775808 := by decide
    have e2 : IntKind.i64.max = 9223372036854775807 := by decide
    rw [e1, e2]; omega
  refine call_scr rfl Fn.plan_span_end rfl rfl ?_
  repeat' (first | (show EndsR _ _ _ _ _ _ _; first | refine EndsR.seq ?_ | refine EndsR.reg ?_ | refine EndsR.yes rfl ?_ | refine EndsR.no rfl ?_ | refine EndsR.skip ?_ | refine EndsR.block ?_ | refine EndsR.endB ?_ | refine EndsR.exit rfl ?_ | refine EndsR.br rfl (fun hc => ?_) (fun hc => ?_) | refine EndsR.scope ?_ | refine EndsR.inScope ?_ | refine EndsR.label ?_ | refine EndsR.ret rfl ?_ | refine EndsR.nil rfl ?_) | (show EndsG _ _ _ _ _ _ _ _ _; first | refine EndsG.mov rfl rfl ?_ | refine EndsG.lload rfl rfl rfl rfl ?_ | refine EndsG.laddr rfl rfl rfl ?_ | refine EndsG.lss rfl rfl rfl (fun hc => ?_) (fun hc => ?_) | refine EndsG.leq rfl rfl rfl (fun hc => ?_) (fun hc => ?_) | refine EndsG.gtr rfl rfl rfl (fun hc => ?_) (fun hc => ?_) | refine EndsG.geq rfl rfl rfl (fun hc => ?_) (fun hc => ?_) | refine EndsG.eql rfl rfl rfl (fun hc => ?_) (fun hc => ?_) | refine EndsG.neq rfl rfl rfl (fun hc => ?_) (fun hc => ?_) | refine EndsG.addF rfl rfl rfl (fl_add h1) ?_ | refine EndsG.convF rfl rfl (fl_int h1) hmin ?_ | refine EndsG.skip rfl ?_ | refine EndsG.fin ?_ | refine EndsG.go rfl rfl rfl ?_ | refine EndsG.gono rfl rfl rfl ?_ | refine EndsG.skipn rfl ?_))
  exact tidyI (Int.natCast_add a b)

def snt (top : Int) : Obj := ⟨0, top, 1, false⟩

theorem tight_at : ∀ {l : List Obj} {e t : Int}, Tight l e t → ∀ (i : Nat) (x : Obj), (l ++ [snt t])[i]? = some x → x.o = (if i = 0 then e else (gt l (i - 1)).o + (gt l (i - 1)).n)
  | [], e, t, h, i, x, hx => by
    cases i with
    | zero => simp at hx; subst hx; exact h.symm
    | succ i => simp at hx
  | y :: r, e, t, h, i, x, hx => by
    cases i with
    | zero => simp at hx; subst hx; exact h.1
    | succ i =>
      have := tight_at h.2 i x (by simpa using hx)
      cases i with
      | zero =>
        rw [if_pos rfl] at this
        rw [this, if_neg (by omega)]
        show _ = y.o + y.n
        rw [h.1]
      | succ i =>
        rw [if_neg (by omega)] at this
        rw [this, if_neg (by omega)]
        rfl

theorem tight_le : ∀ {l : List Obj} {e t : Int}, Tight l e t → (∀ y ∈ l, 1 ≤ y.n) → e ≤ t
  | [], e, t, h, hn => by have : e = t := h; omega
  | y :: r, e, t, h, hn => by
    have := tight_le h.2 fun z hz => hn z (by simp [hz])
    have := hn y (by simp)
    omega
theorem tight_end : ∀ {l : List Obj} {e t : Int}, Tight l e t → (∀ y ∈ l, 1 ≤ y.n) → ∀ (i : Nat) (x : Obj), l[i]? = some x → x.o + x.n ≤ t
  | [], e, t, h, hn, i, x, hx => by simp at hx
  | y :: r, e, t, h, hn, i, x, hx => by
    cases i with
    | zero =>
      have hyx : y = x := by simpa using hx
      subst hyx
      have := tight_le h.2 fun z hz => hn z (by simp [hz])
      have := h.1
      omega
    | succ i => exact tight_end h.2 (fun z hz => hn z (by simp [hz])) i x (by simpa using hx)

theorem gaps_none (lo : Nat) {h : Heap} {v : Value} {l : List Obj} {top : Int} (hv : Sl h 4 v (css l)) (h0 : l = [] → v = .slice none 0 0) (hl : l.length ≤ 60) (hok : okP 4096 l) (ht : Tight (sortR l) 0 top) (htop : top ≤ 4096) :
    callR En lo Id.plan_Gaps [v, .int .i64 top] h = some (.slice none 0 0, h) := by
  have hC := fun lo => planCheck_spec lo (arena := 4096) hv h0 (by omega)
  rw [okN_0 hok] at hC
  have hS := fun lo => planSort_spec lo hv h0 (by omega)
  have hsl : (sortR l).length = l.length := sortR_len l
  have hg := good_of hok
  refine call_scr rfl Fn.plan_Gaps rfl rfl ?_
  by_cases h1 : top < 1
  · repeat' (first | (show EndsR _ _ _ _ _ _ _; first | refine EndsR.seq ?_ | refine EndsR.reg ?_ | refine EndsR.yes rfl ?_ | refine EndsR.no rfl ?_ | refine EndsR.skip ?_ | refine EndsR.block ?_ | refine EndsR.endB ?_ | refine EndsR.exit rfl ?_ | refine EndsR.br rfl (fun hc => ?_) (fun hc => ?_) | refine EndsR.scope ?_ | refine EndsR.inScope ?_ | refine EndsR.label ?_ | refine EndsR.ret rfl ?_ | refine EndsR.nil rfl ?_) | (show EndsG _ _ _ _ _ _ _ _ _; first | refine EndsG.mov rfl rfl ?_ | refine EndsG.lload rfl rfl rfl rfl ?_ | refine EndsG.laddr rfl rfl rfl ?_ | refine EndsG.leq rfl rfl rfl (fun hc => ?_) (fun hc => ?_) | refine EndsG.geq rfl rfl rfl (fun hc => ?_) (fun hc => ?_) | refine EndsG.eql rfl rfl rfl (fun hc => ?_) (fun hc => ?_) | refine EndsG.lssT rfl rfl rfl (by omega) ?_ | refine EndsG.lssF rfl rfl rfl (by omega) ?_ | refine EndsG.gtrT rfl rfl rfl (by omega) ?_ | refine EndsG.gtrF rfl rfl rfl (by omega) ?_ | refine EndsG.neqT rfl rfl rfl (by omega) ?_ | refine EndsG.neqF rfl rfl rfl (by omega) ?_ | refine EndsG.skip rfl ?_ | refine EndsG.fin ?_ | refine EndsG.go rfl rfl rfl ?_ | refine EndsG.gono rfl rfl rfl ?_ | refine EndsG.skipn rfl ?_))
    rfl
  · have hne : sortR l ≠ [] := fun e => by
      rw [e] at ht
      have : (0 : Int) = top := ht
      omega
    have hout : Out (made h 4 (css (sortR l))).2 h.length 4 (made h 4 (css (sortR l))).1 (css (sortR l)) := by
      unfold made
      rw [if_neg (by simpa [css] using hne)]
      exact ⟨css_len _, .inr ⟨by simpa [css] using hne, h.length, rfl, Nat.le_refl _, by simp⟩⟩
    have hle : h.length ≤ (made h 4 (css (sortR l))).2.length := (made_sl (h := h) (css_len (sortR l))).2.1
    generalize made h 4 (css (sortR l)) = mk at hS hout hle
    obtain ⟨mv, mh⟩ := mk
    simp only at hS hout hle
    refine Exists.elim (hout.push (e := (snt top).cs) (bytes := 32) rfl hle (by rw [css_length]; omega) (by omega)) fun v' hq => Exists.elim hq fun H' hq => ?_
    have hap := hq.1
    have hO := hq.2.1
    rw [css_app] at hO
    have hsl' := hO.sl
    refine Exists.elim hsl'.len fun base hq' => Exists.elim hq' fun cap hve => ?_
    rw [css_length] at hve
    have htat := tight_at ht
    have hlen : (sortR l ++ [snt top]).length = l.length + 1 := by simp [hsl]
    have hlo : ∀ (i : Nat) (x : Obj), (sortR l ++ [snt top])[i]? = some x → 0 ≤ x.o ∧ x.o ≤ top ∧ 0 ≤ x.n ∧ x.n ≤ 4096 := fun i x hx => by
      rw [List.getElem?_append] at hx
      split at hx
      · obtain ⟨a1, a2, a3⟩ := hg.each x (List.mem_of_getElem? hx)
        have hx' := hx
        have hi := (List.getElem?_eq_some_iff.1 hx).1
        have hend : x.o + x.n ≤ top := tight_end ht (fun y hy => (hg.each y hy).2.1) i x hx
        omega
      · have : x = snt top := by
          cases hk : i - (sortR l).length with
          | zero => rw [hk] at hx; simpa using hx.symm
          | succ k => rw [hk] at hx; simp at hx
        subst this
        exact ⟨by show 0 ≤ top; omega, Int.le_refl _, by show (0 : Int) ≤ 1; omega, by show (1 : Int) ≤ 4096; omega⟩
    subst hve
    have hsp := spanOf_spec
    repeat' (first | (show EndsR _ _ _ _ _ _ _; first | refine EndsR.seq ?_ | refine EndsR.reg ?_ | refine EndsR.yes rfl ?_ | refine EndsR.no rfl ?_ | refine EndsR.skip ?_ | refine EndsR.block ?_ | refine EndsR.endB ?_ | refine EndsR.exit rfl ?_ | refine EndsR.br rfl (fun hc => ?_) (fun hc => ?_) | refine EndsR.scope ?_ | refine EndsR.inScope ?_ | refine EndsR.label ?_ | refine EndsR.ret rfl ?_ | refine EndsR.nil rfl ?_) | (show EndsG _ _ _ _ _ _ _ _ _; first | refine EndsG.mov rfl rfl ?_ | refine EndsG.lload rfl rfl rfl rfl ?_ | refine EndsG.laddr rfl rfl rfl ?_ | refine EndsG.leq rfl rfl rfl (fun hc => ?_) (fun hc => ?_) | refine EndsG.geq rfl rfl rfl (fun hc => ?_) (fun hc => ?_) | refine EndsG.eql rfl rfl rfl (fun hc => ?_) (fun hc => ?_) | refine EndsG.lssT rfl rfl rfl (by omega) ?_ | refine EndsG.lssF rfl rfl rfl (by omega) ?_ | refine EndsG.gtrT rfl rfl rfl (by omega) ?_ | refine EndsG.gtrF rfl rfl rfl (by omega) ?_ | refine EndsG.neqT rfl rfl rfl (by omega) ?_ | refine EndsG.neqF rfl rfl rfl (by omega) ?_ | refine EndsG.call rfl rfl (hC _) ?_ | refine EndsG.call rfl rfl (spanOf_spec _ _ _ _) ?_ | refine EndsG.call rfl rfl (hS _) ?_ | refine EndsG.app rfl rfl rfl (hap) ?_ | refine EndsG.skip rfl ?_ | refine EndsG.fin ?_ | refine EndsG.go rfl rfl rfl ?_ | refine EndsG.gono rfl rfl rfl ?_ | refine EndsG.skipn rfl ?_))
    have hgt : ∀ i, 0 < i → i < (sortR l ++ [snt top]).length → gt (sortR l ++ [snt top]) (i - 1) = gt (sortR l) (i - 1) := fun i h1 h2 => by
      unfold gt
      rw [List.getElem?_append_left (by simp at h2; omega)]
    generalize sortR l ++ [snt top] = rows at hsl' htat hlen hlo hgt
    refine .loop (fun z f H => H = H' ∧ ∃ (i : Nat) (po pn : Int), z + i = rows.length ∧ f = [(1, .int .i64 top), (5, .slice none 0 0), (6, .complex .f64 (FloatKind.f64.nearest po) (FloatKind.f64.nearest pn)), (27, .slice base rows.length cap), (28, N rows.length), (29, N i)] ∧
        0 ≤ po ∧ 0 ≤ pn ∧ po + pn < 8200 ∧ ∀ x, rows[i]? = some x → x.o = po + pn) (n := rows.length)
      ⟨rfl, 0, 0, 0, by omega, rfl, by omega, by omega, by omega, fun x hx => by rw [htat 0 x hx, if_pos rfl]; rfl⟩ ?_
    rintro z f H ⟨rfl, i, po, pn, hz, rfl, hpo, hpn, hps, hE⟩ next
    by_cases hi : i < rows.length
    · have hgi := gt_get hi
      have hE' := hE _ hgi
      obtain ⟨b1, b2, b3, b4⟩ := hlo i _ hgi
      refine Exists.elim (css_row hsl' hgi) fun a hq => Exists.elim hq fun cap' hq => ?_
      have hva := hq.1
      have q0 := hq.2.1
      injection hva with e1 _ _
      subst e1
      have hnext : ∀ x, rows[i + 1]? = some x → x.o = (gt rows i).o + (gt rows i).n := fun x hx => by
        have hl1 := (List.getElem?_eq_some_iff.1 hx).1
        rw [htat (i + 1) x hx, if_neg (by omega)]
        have := hgt (i + 1) (by omega) hl1
        rw [show i + 1 - 1 = i by omega] at this ⊢
        rw [this]
      generalize gt rows i = x at hgi hE' b1 b2 b3 b4 q0 hnext
      repeat' (first | (show EndsR _ _ _ _ _ _ _; first | refine EndsR.seq ?_ | refine EndsR.reg ?_ | refine EndsR.yes rfl ?_ | refine EndsR.no rfl ?_ | refine EndsR.skip ?_ | refine EndsR.block ?_ | refine EndsR.endB ?_ | refine EndsR.exit rfl ?_ | refine EndsR.br rfl (fun hc => ?_) (fun hc => ?_) | refine EndsR.scope ?_ | refine EndsR.inScope ?_ | refine EndsR.label ?_ | refine EndsR.ret rfl ?_ | refine EndsR.nil rfl ?_) | (show EndsG _ _ _ _ _ _ _ _ _; first | refine EndsG.mov rfl rfl ?_ | refine EndsG.lload rfl rfl rfl rfl ?_ | refine EndsG.laddr rfl rfl rfl ?_ | refine EndsG.leq rfl rfl rfl (fun hc => ?_) (fun hc => ?_) | refine EndsG.geq rfl rfl rfl (fun hc => ?_) (fun hc => ?_) | refine EndsG.eql rfl rfl rfl (fun hc => ?_) (fun hc => ?_) | refine EndsG.neq rfl rfl rfl (fun hc => ?_) (fun hc => ?_) | refine EndsG.addN rfl rfl rfl (by omega) ?_ | refine EndsG.addN (b := 1) rfl rfl rfl (by omega) ?_ | refine EndsG.subN rfl rfl rfl (by omega) ?_ | refine EndsG.subN (b := 1) rfl rfl rfl (by omega) ?_ | refine EndsG.iaddr rfl rfl rfl (hi) ?_ | refine EndsG.load rfl rfl (q0) ?_ | refine EndsG.lssT rfl rfl rfl (by omega) ?_ | refine EndsG.lssF rfl rfl rfl (by omega) ?_ | refine EndsG.gtrT rfl rfl rfl (by omega) ?_ | refine EndsG.gtrF rfl rfl rfl (by omega) ?_ | refine EndsG.call rfl rfl (spanEnd_spec _ _ hpo hpn hps) ?_ | refine EndsG.call rfl rfl (spanOf_spec _ _ _ _) ?_ | refine EndsG.min2 rfl rfl rfl b2 ?_ | refine EndsG.subZ rfl rfl rfl hE' ?_ | refine EndsG.skip rfl ?_ | refine EndsG.fin ?_ | refine EndsG.go rfl rfl rfl ?_ | refine EndsG.gono rfl rfl rfl ?_ | refine EndsG.skipn rfl ?_))
      exact next (z - 1) _ _ (by omega) ⟨rfl, i + 1, x.o, x.n, by omega, rfl, b1, b3, by omega, hnext⟩
    · repeat' (first | (show EndsR _ _ _ _ _ _ _; first | refine EndsR.seq ?_ | refine EndsR.reg ?_ | refine EndsR.yes rfl ?_ | refine EndsR.no rfl ?_ | refine EndsR.skip ?_ | refine EndsR.block ?_ | refine EndsR.endB ?_ | refine EndsR.exit rfl ?_ | refine EndsR.br rfl (fun hc => ?_) (fun hc => ?_) | refine EndsR.scope ?_ | refine EndsR.inScope ?_ | refine EndsR.label ?_ | refine EndsR.ret rfl ?_ | refine EndsR.nil rfl ?_) | (show EndsG _ _ _ _ _ _ _ _ _; first | refine EndsG.mov rfl rfl ?_ | refine EndsG.lload rfl rfl rfl rfl ?_ | refine EndsG.laddr rfl rfl rfl ?_ | refine EndsG.leq rfl rfl rfl (fun hc => ?_) (fun hc => ?_) | refine EndsG.gtr rfl rfl rfl (fun hc => ?_) (fun hc => ?_) | refine EndsG.geq rfl rfl rfl (fun hc => ?_) (fun hc => ?_) | refine EndsG.eql rfl rfl rfl (fun hc => ?_) (fun hc => ?_) | refine EndsG.neq rfl rfl rfl (fun hc => ?_) (fun hc => ?_) | refine EndsG.lssT rfl rfl rfl (by omega) ?_ | refine EndsG.lssF rfl rfl rfl (by omega) ?_ | refine EndsG.skip rfl ?_ | refine EndsG.fin ?_ | refine EndsG.go rfl rfl rfl ?_ | refine EndsG.gono rfl rfl rfl ?_ | refine EndsG.skipn rfl ?_))
      exact (Out.nil H h.length 4).tidy (fun e he => by cases he)
end Go.Proofs.Ytclgilndihagiaa

/- Without fixed objects there is no gap ahead of the end; slid again nothing moves: the law's run. -/
set_option linter.unusedVariables false
set_option linter.unusedSimpArgs false
namespace Go.Proofs.Ytclgilndihagiaa
open Go Go.Ir

abbrev tgtB : ICode := F.sidingslaw17_PlanTight.body

/-- From the loop on. -/
theorem tight_t8 {hp : Heap} {v v3 : Value} {l t : List Obj} {en : Int} (f0 : Fr) (hv : Sl hp 4 v (css l)) (h3 : Sl hp 4 v3 (css t)) (hl : l.length ≤ 30) (htl : t.length = l.length) (hn : ∀ x ∈ l, 1 ≤ x.n ∧ x.n ≤ 4096) (hok : okP 4096 t) (he : en ≤ 4096)
    (hT : l.any Obj.fx = false → Tight (sortR t) 0 en ∧ en = sumN l) :
    EndsR En 0 [.code (tailC 8 tgtB)] ((0, v) :: (6, .int .i64 en) :: (8, v3) :: (9, .slice none 0 0) :: (10, .int .i64 en) :: (11, .int .i64 0) :: (12, .int .i64 0) :: (13, .bool false) :: f0) hp F.sidingslaw17_PlanTight.res (fun u _ => u = .bool true) := by
  refine Exists.elim hv.len fun base hq => Exists.elim hq fun cap hve => ?_
  rw [css_length] at hve
  subst hve
  repeat' (first | (show EndsR _ _ _ _ _ _ _; first | refine EndsR.seq ?_ | refine EndsR.reg ?_ | refine EndsR.yes rfl ?_ | refine EndsR.no rfl ?_ | refine EndsR.skip ?_ | refine EndsR.block ?_ | refine EndsR.endB ?_ | refine EndsR.exit rfl ?_ | refine EndsR.br rfl (fun hc => ?_) (fun hc => ?_) | refine EndsR.scope ?_ | refine EndsR.inScope ?_ | refine EndsR.label ?_ | refine EndsR.ret rfl ?_ | refine EndsR.nil rfl ?_) | (show EndsG _ _ _ _ _ _ _ _ _; first | refine EndsG.mov rfl rfl ?_ | refine EndsG.lload rfl rfl rfl rfl ?_ | refine EndsG.laddr rfl rfl rfl ?_ | refine EndsG.lss rfl rfl rfl (fun hc => ?_) (fun hc => ?_) | refine EndsG.leq rfl rfl rfl (fun hc => ?_) (fun hc => ?_) | refine EndsG.gtr rfl rfl rfl (fun hc => ?_) (fun hc => ?_) | refine EndsG.geq rfl rfl rfl (fun hc => ?_) (fun hc => ?_) | refine EndsG.eql rfl rfl rfl (fun hc => ?_) (fun hc => ?_) | refine EndsG.neq rfl rfl rfl (fun hc => ?_) (fun hc => ?_) | refine EndsG.skip rfl ?_ | refine EndsG.fin ?_ | refine EndsG.go rfl rfl rfl ?_ | refine EndsG.gono rfl rfl rfl ?_ | refine EndsG.skipn rfl ?_))
  refine .loop (fun z f H => H = hp ∧ ∃ (i : Nat) (sum : Int) (b : Bool), z + i = l.length ∧ f = [(0, .slice base l.length cap), (6, .int .i64 en), (8, v3), (9, .slice none 0 0), (10, .int .i64 en), (11, .int .i64 0), (12, .int .i64 sum), (13, .bool b), (14, N i)] ∧
      sum = sumN (l.take i) ∧ b = (l.take i).any Obj.fx) (n := l.length) ⟨rfl, 0, 0, false, by omega, rfl, rfl, rfl⟩ ?_
  rintro z f H ⟨rfl, i, sum, b, hz, rfl, hsum, hb⟩ next
  by_cases hi : i < l.length
  · have hgi := gt_get hi
    have hst := sumN_take hi
    have hat : (l.take (i + 1)).any Obj.fx = ((l.take i).any Obj.fx || (gt l i).fx) := by
      rw [List.take_succ_eq_append_getElem hi, List.any_append]
      simp [gt, hi]
    have hbd := sumN_bound (l := l.take i) (fun x hx => hn x (List.mem_of_mem_take hx))
    have hti : (l.take i).length ≤ 30 := by rw [List.length_take]; omega
    have hni := hn _ (List.mem_of_getElem? hgi)
    refine Exists.elim (css_row hv hgi) fun a hq => Exists.elim hq fun cap' hq => ?_
    have hva := hq.1
    have q2 := hq.2.2.2.2.1
    have q3 := hq.2.2.2.2.2
    injection hva with e1 _ _
    subst e1
    rcases hxi : gt l i with ⟨xs, xo, xn, xf⟩
    rw [hxi] at q2 q3 hst hat hni
    simp only at hst hat hni
    have hw : IntKind.i64.wrap (sum + xn) = sum + xn := wrap_small (by omega) (by omega)
    cases b with
    | true =>
      repeat' (first | (show EndsR _ _ _ _ _ _ _; first | refine EndsR.seq ?_ | refine EndsR.reg ?_ | refine EndsR.yes rfl ?_ | refine EndsR.no rfl ?_ | refine EndsR.skip ?_ | refine EndsR.block ?_ | refine EndsR.endB ?_ | refine EndsR.exit rfl ?_ | refine EndsR.br rfl (fun hc => ?_) (fun hc => ?_) | refine EndsR.scope ?_ | refine EndsR.inScope ?_ | refine EndsR.label ?_ | refine EndsR.ret rfl ?_ | refine EndsR.nil rfl ?_) | (show EndsG _ _ _ _ _ _ _ _ _; first | refine EndsG.mov rfl rfl ?_ | refine EndsG.lload rfl rfl rfl rfl ?_ | refine EndsG.laddr rfl rfl rfl ?_ | refine EndsG.leq rfl rfl rfl (fun hc => ?_) (fun hc => ?_) | refine EndsG.gtr rfl rfl rfl (fun hc => ?_) (fun hc => ?_) | refine EndsG.geq rfl rfl rfl (fun hc => ?_) (fun hc => ?_) | refine EndsG.eql rfl rfl rfl (fun hc => ?_) (fun hc => ?_) | refine EndsG.neq rfl rfl rfl (fun hc => ?_) (fun hc => ?_) | refine EndsG.load rfl rfl (q2) ?_ | refine EndsG.iaddr rfl rfl rfl (hi) ?_ | refine EndsG.lssT rfl rfl rfl (by omega) ?_ | refine EndsG.lssF rfl rfl rfl (by omega) ?_ | refine EndsG.skip rfl ?_ | refine EndsG.fin ?_ | refine EndsG.go rfl rfl rfl ?_ | refine EndsG.gono rfl rfl rfl ?_ | refine EndsG.skipn rfl ?_))
      refine next (z - 1) _ _ (by omega) ⟨rfl, i + 1, sum + xn, true, by omega, ?_, by rw [hst, hsum], by rw [hat, ← hb]; rfl⟩
      show [(0, _), (6, _), (8, _), (9, _), (10, _), (11, _), (12, Value.int .i64 (IntKind.i64.wrap (sum + xn))), (13, _), (14, Value.int .i64 (IntKind.i64.wrap ((i : Int) + 1)))] = _
      rw [hw, wrap_small (n := (i : Int) + 1) (by omega) (by omega)]
      rfl
    | false =>
      repeat' (first | (show EndsR _ _ _ _ _ _ _; first | refine EndsR.seq ?_ | refine EndsR.reg ?_ | refine EndsR.yes rfl ?_ | refine EndsR.no rfl ?_ | refine EndsR.skip ?_ | refine EndsR.block ?_ | refine EndsR.endB ?_ | refine EndsR.exit rfl ?_ | refine EndsR.br rfl (fun hc => ?_) (fun hc => ?_) | refine EndsR.scope ?_ | refine EndsR.inScope ?_ | refine EndsR.label ?_ | refine EndsR.ret rfl ?_ | refine EndsR.nil rfl ?_) | (show EndsG _ _ _ _ _ _ _ _ _; first | refine EndsG.mov rfl rfl ?_ | refine EndsG.lload rfl rfl rfl rfl ?_ | refine EndsG.laddr rfl rfl rfl ?_ | refine EndsG.leq rfl rfl rfl (fun hc => ?_) (fun hc => ?_) | refine EndsG.gtr rfl rfl rfl (fun hc => ?_) (fun hc => ?_) | refine EndsG.geq rfl rfl rfl (fun hc => ?_) (fun hc => ?_) | refine EndsG.eql rfl rfl rfl (fun hc => ?_) (fun hc => ?_) | refine EndsG.neq rfl rfl rfl (fun hc => ?_) (fun hc => ?_) | refine EndsG.load rfl rfl (q2) ?_ | refine EndsG.load rfl rfl (q3) ?_ | refine EndsG.iaddr rfl rfl rfl (hi) ?_ | refine EndsG.lssT rfl rfl rfl (by omega) ?_ | refine EndsG.lssF rfl rfl rfl (by omega) ?_ | refine EndsG.skip rfl ?_ | refine EndsG.fin ?_ | refine EndsG.go rfl rfl rfl ?_ | refine EndsG.gono rfl rfl rfl ?_ | refine EndsG.skipn rfl ?_))
      refine next (z - 1) _ _ (by omega) ⟨rfl, i + 1, sum + xn, xf, by omega, ?_, by rw [hst, hsum], by rw [hat, ← hb]; rfl⟩
      show [(0, _), (6, _), (8, _), (9, _), (10, _), (11, _), (12, Value.int .i64 (IntKind.i64.wrap (sum + xn))), (13, _), (14, Value.int .i64 (IntKind.i64.wrap ((i : Int) + 1)))] = _
      rw [hw, wrap_small (n := (i : Int) + 1) (by omega) (by omega)]
      rfl
  · have hti : l.take i = l := List.take_of_length_le (by omega)
    rw [hti] at hsum hb
    cases b with
    | true =>
      repeat' (first | (show EndsR _ _ _ _ _ _ _; first | refine EndsR.seq ?_ | refine EndsR.reg ?_ | refine EndsR.yes rfl ?_ | refine EndsR.no rfl ?_ | refine EndsR.skip ?_ | refine EndsR.block ?_ | refine EndsR.endB ?_ | refine EndsR.exit rfl ?_ | refine EndsR.br rfl (fun hc => ?_) (fun hc => ?_) | refine EndsR.scope ?_ | refine EndsR.inScope ?_ | refine EndsR.label ?_ | refine EndsR.ret rfl ?_ | refine EndsR.nil rfl ?_) | (show EndsG _ _ _ _ _ _ _ _ _; first | refine EndsG.mov rfl rfl ?_ | refine EndsG.lload rfl rfl rfl rfl ?_ | refine EndsG.laddr rfl rfl rfl ?_ | refine EndsG.leq rfl rfl rfl (fun hc => ?_) (fun hc => ?_) | refine EndsG.gtr rfl rfl rfl (fun hc => ?_) (fun hc => ?_) | refine EndsG.geq rfl rfl rfl (fun hc => ?_) (fun hc => ?_) | refine EndsG.lssT rfl rfl rfl (by omega) ?_ | refine EndsG.lssF rfl rfl rfl (by omega) ?_ | refine EndsG.neqT rfl rfl rfl (by omega) ?_ | refine EndsG.neqF rfl rfl rfl (by omega) ?_ | refine EndsG.eqlT rfl rfl rfl (by omega) ?_ | refine EndsG.eqlF rfl rfl rfl (by omega) ?_ | refine EndsG.call rfl rfl (live_c _ _) ?_ | refine EndsG.skip rfl ?_ | refine EndsG.fin ?_ | refine EndsG.go rfl rfl rfl ?_ | refine EndsG.gono rfl rfl rfl ?_ | refine EndsG.skipn rfl ?_))
      rfl
    | false =>
      obtain ⟨hT1, hT2⟩ := hT hb.symm
      have hes : en = sum := by rw [hT2, hsum]
      have hO := fun lo => own_sp lo h3 (by omega)
      have h5 := made_sl (h := H) (css_len t)
      have h5n := fun h0 => made_nil (h := H) (l := t) h0
      generalize made H 4 (css t) = p at hO h5 h5n
      obtain ⟨v5, hp5⟩ := p
      simp only at h5 h5n
      have hG := fun lo => gaps_none lo h5.1 h5n (by omega) hok hT1 he
      repeat' (first | (show EndsR _ _ _ _ _ _ _; first | refine EndsR.seq ?_ | refine EndsR.reg ?_ | refine EndsR.yes rfl ?_ | refine EndsR.no rfl ?_ | refine EndsR.skip ?_ | refine EndsR.block ?_ | refine EndsR.endB ?_ | refine EndsR.exit rfl ?_ | refine EndsR.br rfl (fun hc => ?_) (fun hc => ?_) | refine EndsR.scope ?_ | refine EndsR.inScope ?_ | refine EndsR.label ?_ | refine EndsR.ret rfl ?_ | refine EndsR.nil rfl ?_) | (show EndsG _ _ _ _ _ _ _ _ _; first | refine EndsG.mov rfl rfl ?_ | refine EndsG.lload rfl rfl rfl rfl ?_ | refine EndsG.laddr rfl rfl rfl ?_ | refine EndsG.leq rfl rfl rfl (fun hc => ?_) (fun hc => ?_) | refine EndsG.gtr rfl rfl rfl (fun hc => ?_) (fun hc => ?_) | refine EndsG.geq rfl rfl rfl (fun hc => ?_) (fun hc => ?_) | refine EndsG.lssT rfl rfl rfl (by omega) ?_ | refine EndsG.lssF rfl rfl rfl (by omega) ?_ | refine EndsG.neqT rfl rfl rfl (by omega) ?_ | refine EndsG.neqF rfl rfl rfl (by omega) ?_ | refine EndsG.eqlT rfl rfl rfl (by omega) ?_ | refine EndsG.eqlF rfl rfl rfl (by omega) ?_ | refine EndsG.call rfl rfl (hO _) ?_ | refine EndsG.call rfl rfl (hG _) ?_ | refine EndsG.call rfl rfl (live_c _ _) ?_ | refine EndsG.skip rfl ?_ | refine EndsG.fin ?_ | refine EndsG.go rfl rfl rfl ?_ | refine EndsG.gono rfl rfl rfl ?_ | refine EndsG.skipn rfl ?_))
      rfl

theorem tight_run {h : Heap} {v : Value} {l : List Obj} {arena : Int} (hv : Sl h 4 v (css l)) : ∃ u h', callR En 0 Id.sidingslaw17_PlanTight [v, .int .i64 arena] h = some (u, h') ∧ u = .bool true := by
  refine call_ex rfl Fn.sidingslaw17_PlanTight rfl rfl ?_
  refine Exists.elim hv.len fun base hq => Exists.elim hq fun cap hve => ?_
  rw [css_length] at hve
  by_cases hl : l.length ≤ 30
  · have hO := fun lo => own_sp lo hv (by omega)
    have h1 := made_sl (h := h) (css_len l)
    have h1n := fun h0 => made_nil (h := h) (l := l) h0
    generalize made h 4 (css l) = p1 at hO h1 h1n
    obtain ⟨v1, hp1⟩ := p1
    simp only at h1 h1n
    have hP := fun lo => planSlide_spec lo (arena := arena) h1.1 h1n (by omega)
    subst hve
    rcases okN_cases arena l with h0 | h0
    · have hok : okP arena l := Classical.byContradiction fun hn => by rw [okN_1 hn] at h0; cases h0
      have hg := good_of hok
      have hml : (slideL (sortR l)).1.length ≤ 1000 := by have := slideL_len (sortR l); rw [sortR_len] at this; omega
      have hlow : ∀ x ∈ sortR l, (0 : Int) ≤ x.o := fun x hx => (hg.each x hx).1
      rw [h0] at hP
      simp only [slideR_ok] at hP
      have q2 := (mix_each hg (Int.le_refl 0) hg.low hlow).2.1
      rw [← slideL_G] at q2
      obtain ⟨s1, s2, s3⟩ := slid hok
      have hT := fun hf => slid_tight hok hf
      have hn : ∀ x ∈ l, 1 ≤ x.n ∧ x.n ≤ 4096 := fun x hx => by
        obtain ⟨i, hi, rfl⟩ := List.mem_iff_getElem.1 hx
        have := hok.2.2.2 i _ (List.getElem?_eq_getElem hi)
        exact ⟨this.2.1, this.2.2.1⟩
      have he : (slideL (sortR l)).2 ≤ 4096 := by have := hok.2.1; omega
      have htl := mvd_length l (slideL (sortR l)).1
      have h2 := made_sl (h := hp1) (mcs_len (slideL (sortR l)).1)
      generalize (slideL (sortR l)).2 = en at hP q2 s3 hT he
      generalize (slideL (sortR l)).1 = ms at hP s1 s2 s3 hT h2 hml htl
      generalize made hp1 4 (mcs ms) = p2 at hP h2
      obtain ⟨m1, hp2⟩ := p2
      simp only at hP h2
      have hM := fun lo => moved_spec lo (hv.ext (h1.2.trans h2.2)) h2.1 (by omega) hml
      have h3 := made_sl (h := hp2) (css_len (mvd l ms))
      generalize mvd l ms = t at hM h3 s1 s2 s3 hT htl
      generalize made hp2 4 (css t) = p3 at hM h3
      obtain ⟨v3, hp3⟩ := p3
      simp only at hM h3
      have hO2 := fun lo => own_sp lo h3.1 (by omega)
      have h4 := made_sl (h := hp3) (css_len t)
      have h4n := fun h0 => made_nil (h := hp3) (l := t) h0
      generalize made hp3 4 (css t) = p4 at hO2 h4 h4n
      obtain ⟨v4, hp4⟩ := p4
      simp only at h4 h4n hO2
      have hP2 := fun lo => planSlide_spec lo (arena := arena) h4.1 h4n (by omega)
      rw [okN_0 s1] at hP2
      simp only [slideR_ok, s3] at hP2
      rw [show made hp4 4 (mcs []) = (.slice none 0 0, hp4) from rfl] at hP2
      have nx := fun f0 => tight_t8 f0 (hv.ext (((h1.2.trans h2.2).trans h3.2).trans h4.2)) (h3.1.ext h4.2) hl htl hn (okP_wide s1) he hT
      repeat' (first | (show EndsR _ _ _ _ _ _ _; first | (exact EndsR.fe' (nx _) (.cons rfl (.cons rfl (.cons rfl (.cons rfl (.cons rfl (.cons rfl (.cons rfl (.cons rfl (FE.refl _)))))))))) | refine EndsR.seq ?_ | refine EndsR.reg ?_ | refine EndsR.yes rfl ?_ | refine EndsR.no rfl ?_ | refine EndsR.skip ?_ | refine EndsR.block ?_ | refine EndsR.endB ?_ | refine EndsR.exit rfl ?_ | refine EndsR.br rfl (fun hc => ?_) (fun hc => ?_) | refine EndsR.scope ?_ | refine EndsR.inScope ?_ | refine EndsR.label ?_ | refine EndsR.ret rfl ?_ | refine EndsR.nil rfl ?_) | (show EndsG _ _ _ _ _ _ _ _ _; first | refine EndsG.mov rfl rfl ?_ | refine EndsG.lload rfl rfl rfl rfl ?_ | refine EndsG.laddr rfl rfl rfl ?_ | refine EndsG.lss rfl rfl rfl (fun hc => ?_) (fun hc => ?_) | refine EndsG.leq rfl rfl rfl (fun hc => ?_) (fun hc => ?_) | refine EndsG.geq rfl rfl rfl (fun hc => ?_) (fun hc => ?_) | refine EndsG.eql rfl rfl rfl (fun hc => ?_) (fun hc => ?_) | refine EndsG.gtrT rfl rfl rfl (by omega) ?_ | refine EndsG.gtrF rfl rfl rfl (by omega) ?_ | refine EndsG.neqT rfl rfl rfl (by omega) ?_ | refine EndsG.neqF rfl rfl rfl (by omega) ?_ | refine EndsG.call rfl rfl (hO _) ?_ | refine EndsG.call rfl rfl (hP _) ?_ | refine EndsG.call rfl rfl (hM _) ?_ | refine EndsG.call rfl rfl (hO2 _) ?_ | refine EndsG.call rfl rfl (hP2 _) ?_ | refine EndsG.skip rfl ?_ | refine EndsG.fin ?_ | refine EndsG.go rfl rfl rfl ?_ | refine EndsG.gono rfl rfl rfl ?_ | refine EndsG.skipn rfl ?_))
    · rw [h0] at hP
      simp only [slideR_bad] at hP
      repeat' (first | (show EndsR _ _ _ _ _ _ _; first | refine EndsR.seq ?_ | refine EndsR.reg ?_ | refine EndsR.yes rfl ?_ | refine EndsR.no rfl ?_ | refine EndsR.skip ?_ | refine EndsR.block ?_ | refine EndsR.endB ?_ | refine EndsR.exit rfl ?_ | refine EndsR.br rfl (fun hc => ?_) (fun hc => ?_) | refine EndsR.scope ?_ | refine EndsR.inScope ?_ | refine EndsR.label ?_ | refine EndsR.ret rfl ?_ | refine EndsR.nil rfl ?_) | (show EndsG _ _ _ _ _ _ _ _ _; first | refine EndsG.mov rfl rfl ?_ | refine EndsG.lload rfl rfl rfl rfl ?_ | refine EndsG.laddr rfl rfl rfl ?_ | refine EndsG.lss rfl rfl rfl (fun hc => ?_) (fun hc => ?_) | refine EndsG.leq rfl rfl rfl (fun hc => ?_) (fun hc => ?_) | refine EndsG.geq rfl rfl rfl (fun hc => ?_) (fun hc => ?_) | refine EndsG.eql rfl rfl rfl (fun hc => ?_) (fun hc => ?_) | refine EndsG.gtrT rfl rfl rfl (by omega) ?_ | refine EndsG.gtrF rfl rfl rfl (by omega) ?_ | refine EndsG.neqT rfl rfl rfl (by omega) ?_ | refine EndsG.neqF rfl rfl rfl (by omega) ?_ | refine EndsG.call rfl rfl (hO _) ?_ | refine EndsG.call rfl rfl (hP _) ?_ | refine EndsG.call rfl rfl (live_c _ _) ?_ | refine EndsG.skip rfl ?_ | refine EndsG.fin ?_ | refine EndsG.go rfl rfl rfl ?_ | refine EndsG.gono rfl rfl rfl ?_ | refine EndsG.skipn rfl ?_))
      rfl
  · subst hve
    repeat' (first | (show EndsR _ _ _ _ _ _ _; first | refine EndsR.seq ?_ | refine EndsR.reg ?_ | refine EndsR.yes rfl ?_ | refine EndsR.no rfl ?_ | refine EndsR.skip ?_ | refine EndsR.block ?_ | refine EndsR.endB ?_ | refine EndsR.exit rfl ?_ | refine EndsR.br rfl (fun hc => ?_) (fun hc => ?_) | refine EndsR.scope ?_ | refine EndsR.inScope ?_ | refine EndsR.label ?_ | refine EndsR.ret rfl ?_ | refine EndsR.nil rfl ?_) | (show EndsG _ _ _ _ _ _ _ _ _; first | refine EndsG.mov rfl rfl ?_ | refine EndsG.lload rfl rfl rfl rfl ?_ | refine EndsG.laddr rfl rfl rfl ?_ | refine EndsG.lss rfl rfl rfl (fun hc => ?_) (fun hc => ?_) | refine EndsG.leq rfl rfl rfl (fun hc => ?_) (fun hc => ?_) | refine EndsG.geq rfl rfl rfl (fun hc => ?_) (fun hc => ?_) | refine EndsG.eql rfl rfl rfl (fun hc => ?_) (fun hc => ?_) | refine EndsG.neq rfl rfl rfl (fun hc => ?_) (fun hc => ?_) | refine EndsG.call rfl rfl (live_c _ _) ?_ | refine EndsG.gtrT rfl rfl rfl (by omega) ?_ | refine EndsG.gtrF rfl rfl rfl (by omega) ?_ | refine EndsG.skip rfl ?_ | refine EndsG.fin ?_ | refine EndsG.go rfl rfl rfl ?_ | refine EndsG.gono rfl rfl rfl ?_ | refine EndsG.skipn rfl ?_))
    rfl

theorem tight_run' {h : Heap} {v : Value} {l : List Obj} {arena : Int} (hv : Sl h 4 v (css l)) : ∃ h', callR En 0 Id.sidingslaw17_PlanTight [v, .int .i64 arena] h = some (.bool true, h') := by
  obtain ⟨u, h', h1, rfl⟩ := tight_run (arena := arena) hv
  exact ⟨h', h1⟩
end Go.Proofs.Ytclgilndihagiaa
