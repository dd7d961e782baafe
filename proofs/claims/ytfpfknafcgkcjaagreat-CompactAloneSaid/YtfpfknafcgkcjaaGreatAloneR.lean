/- Fields of words. -/
import Derived.Test.YtfpfknafcgkcjaaGreatAloneP

set_option linter.unusedVariables false
set_option linter.unusedSimpArgs false
namespace Go.Proofs.YtfpfknafcgkcjaaGreat
open Go Go.Ir

theorem ofInt_nat (n : Nat) : BitVec.ofInt 64 (n : Int) = BitVec.ofNat 64 n := by
 apply BitVec.eq_of_toNat_eq
 simp [BitVec.toNat_ofInt]
theorem toNat_small {n : Nat} (h : n < 2 ^ 62) : (BitVec.ofInt 64 (n : Int)).toNat = n := by
 rw [ofInt_nat, BitVec.toNat_ofNat]
 exact Nat.mod_eq_of_lt (Nat.lt_trans h (by decide))
theorem and_nat {n m : Nat} (hn : n < 2 ^ 62) (hm : m < 2 ^ 62) : IntKind.i64.wrap ((BitVec.ofInt IntKind.i64.bits (n : Int) &&& BitVec.ofInt IntKind.i64.bits (m : Int)).toNat : Int) = ((n &&& m : Nat) : Int) := by
 show IntKind.i64.wrap ((BitVec.ofInt 64 (n : Int) &&& BitVec.ofInt 64 (m : Int)).toNat : Int) = _
 rw [BitVec.toNat_and, toNat_small hn, toNat_small hm]
 exact wrap64_nat (Nat.lt_of_le_of_lt Nat.and_le_left hn)
theorem or_nat {n m : Nat} (hn : n < 2 ^ 62) (hm : m < 2 ^ 62) : IntKind.i64.wrap ((BitVec.ofInt IntKind.i64.bits (n : Int) ||| BitVec.ofInt IntKind.i64.bits (m : Int)).toNat : Int) = ((n ||| m : Nat) : Int) := by
 show IntKind.i64.wrap ((BitVec.ofInt 64 (n : Int) ||| BitVec.ofInt 64 (m : Int)).toNat : Int) = _
 rw [BitVec.toNat_or, toNat_small hn, toNat_small hm]
 exact wrap64_nat (Nat.or_lt_two_pow hn hm)
theorem andNot_nat {n m : Nat} (hn : n < 2 ^ 62) (hm : m < 2 ^ 62) (hd : n &&& m = 0) : IntKind.i64.wrap ((BitVec.ofInt IntKind.i64.bits (n : Int) &&& ~~~BitVec.ofInt IntKind.i64.bits (m : Int)).toNat : Int) = (n : Int) := by
 show IntKind.i64.wrap ((BitVec.ofInt 64 (n : Int) &&& ~~~BitVec.ofInt 64 (m : Int)).toNat : Int) = _
 have : BitVec.ofInt 64 (n : Int) &&& ~~~BitVec.ofInt 64 (m : Int) = BitVec.ofInt 64 (n : Int) := by
  rw [ofInt_nat, ofInt_nat]
  apply BitVec.eq_of_getLsbD_eq
  intro i hi
  rw [BitVec.getLsbD_and, BitVec.getLsbD_not]
  have h2 := congrArg (fun x => x.testBit i) hd
  simp only [Nat.testBit_and, Nat.zero_testBit] at h2
  simp only [BitVec.getLsbD_ofNat, hi, decide_true, Bool.true_and]
  cases h3 : n.testBit i <;> cases h4 : m.testBit i <;> simp_all
 rw [this, toNat_small hn]
 exact wrap64_nat hn

theorem mask_and (n a b : Nat) : n &&& ((2 ^ b - 1) * 2 ^ a) = n / 2 ^ a % 2 ^ b * 2 ^ a := by
 apply Nat.eq_of_testBit_eq
 intro i
 rw [Nat.testBit_and, Nat.testBit_mul_two_pow, Nat.testBit_mul_two_pow, Nat.testBit_two_pow_sub_one, Nat.testBit_mod_two_pow, Nat.testBit_div_two_pow]
 by_cases h : a ≤ i
 ·rw [show i - a + a = i by omega]
  by_cases h2 : i - a < b <;> simp [h, h2]
 ·simp [h]

theorem mask_lt {a b : Nat} (h : a + b ≤ 62) (hb : 1 ≤ b) : (2 ^ b - 1) * 2 ^ a < 2 ^ 62 := by
 have h1 : (2 ^ b - 1) * 2 ^ a < 2 ^ b * 2 ^ a := by
  have : 0 < 2 ^ a := Nat.two_pow_pos a
  have h3 : 0 < 2 ^ b := Nat.two_pow_pos b
  exact Nat.mul_lt_mul_of_pos_right (by omega) this
 rw [← Nat.pow_add] at h1
 exact Nat.lt_of_lt_of_le h1 (Nat.pow_le_pow_right (by decide) (by omega))

def fld (a b : Nat) : Value := .agg #[N a, N b]

section
variable (lo : Nat) (h : Heap) {a b : Nat}

theorem shl_nat {f : Fr} {call : CallF} {x y : Operand} {n k : Nat} (hx : ev f x = some (N n)) (hy : ev f y = some (N k)) (hk : k ≤ 62) (hb : n * 2 ^ k < 2 ^ 62) : iop call lo (.bin .shl x y) f h = some (N (n * 2 ^ k), h) := by
 simp only [iop, hx, hy, ibin, isShift, if_true, ishift]
 rw [if_neg (by omega)]
 have : min ((k : Int).toNat) IntKind.i64.bits = k := by show min _ 64 = _; omega
 rw [this, show ((n : Int) * 2 ^ k) = ((n * 2 ^ k : Nat) : Int) by simp, wrap64_nat hb]
theorem shr_nat {f : Fr} {call : CallF} {x y : Operand} {n k : Nat} (hx : ev f x = some (N n)) (hy : ev f y = some (N k)) (hk : k ≤ 62) : iop call lo (.bin .shr x y) f h = some (N (n / 2 ^ k), h) := by
 simp only [iop, hx, hy, ibin, isShift, if_true, ishift]
 rw [if_neg (by omega)]
 have : min ((k : Int).toNat) IntKind.i64.bits = k := by show min _ 64 = _; omega
 rw [this]
 have h2 : ((n : Int)).fdiv (2 ^ k) = ((n / 2 ^ k : Nat) : Int) := by
  rw [Int.fdiv_eq_ediv_of_nonneg _ (by exact Int.le_of_lt (Int.pow_pos (by decide)))]
  simp
 rw [h2]
theorem and_op {f : Fr} {call : CallF} {x y : Operand} {n m : Nat} (hx : ev f x = some (N n)) (hy : ev f y = some (N m)) (hn : n < 2 ^ 62) (hm : m < 2 ^ 62) : iop call lo (.bin .and x y) f h = some (N (n &&& m), h) := by
 simp only [iop, hx, hy, ibin, isShift, ibinI, if_true]
 rw [and_nat hn hm]; rfl
theorem or_op {f : Fr} {call : CallF} {x y : Operand} {n m : Nat} (hx : ev f x = some (N n)) (hy : ev f y = some (N m)) (hn : n < 2 ^ 62) (hm : m < 2 ^ 62) : iop call lo (.bin .or x y) f h = some (N (n ||| m), h) := by
 simp only [iop, hx, hy, ibin, isShift, ibinI, if_true]
 rw [or_nat hn hm]; rfl
theorem andNot_op {f : Fr} {call : CallF} {x y : Operand} {n m : Nat} (hx : ev f x = some (N n)) (hy : ev f y = some (N m)) (hn : n < 2 ^ 62) (hm : m < 2 ^ 62) (hd : n &&& m = 0) : iop call lo (.bin .andNot x y) f h = some (N n, h) := by
 simp only [iop, hx, hy, ibin, isShift, ibinI, if_true]
 rw [andNot_nat hn hm hd]; rfl

theorem fword_spec (n : Int) : callR En lo Id.field_word [I n] h = some (.bool (decide (0 ≤ n ∧ n < 4611686018427387904)), h) := by
 refine call_scr rfl Fn.field_word rfl rfl ?_
 repeat' (first | (show ER _ _ _ _ _ _ _; first | refine .seq ?_ | refine .reg ?_ | refine .yes rfl ?_ | refine .no rfl ?_ | refine .skip ?_ | refine .block ?_ | refine .endB ?_ | refine .exit rfl ?_ | refine .br rfl (fun hc => ?_) (fun hc => ?_) | refine .scope ?_ | refine .inScope ?_ | refine .label ?_ | refine .ret rfl ?_ | refine .nil rfl ?_) | (show EG _ _ _ _ _ _ _ _ _; first | refine .mov rfl rfl ?_ | refine .lload rfl rfl rfl rfl ?_ | refine .laddr rfl rfl rfl ?_ | (show EG _ _ (⟨_, .bin _ _ _, _, _⟩ :: _) _ _ _ _ _ _; first | refine .lss rfl rfl rfl (fun hc => ?_) (fun hc => ?_) | refine .leq rfl rfl rfl (fun hc => ?_) (fun hc => ?_) | refine .gtr rfl rfl rfl (fun hc => ?_) (fun hc => ?_) | refine .geq rfl rfl rfl (fun hc => ?_) (fun hc => ?_) | refine .eql rfl rfl rfl (fun hc => ?_) (fun hc => ?_) | refine .neq rfl rfl rfl (fun hc => ?_) (fun hc => ?_)) | refine .skip rfl ?_ | refine .fin ?_ | refine .go rfl rfl rfl ?_ | refine .gono rfl rfl rfl ?_ | refine .skipn rfl ?_))
 all_goals (refine tidyB ?_; simp [*])

theorem fmay_spec (hab : a + b ≤ 62) (hb : 1 ≤ b ∧ b ≤ 32) : callR En lo Id.field_Field_may [fld a b] h = some (.bool true, h) := by
 refine call_scr rfl Fn.field_Field_may rfl rfl ?_
 repeat' (first | (show ER _ _ _ _ _ _ _; first | refine .seq ?_ | refine .reg ?_ | refine .yes rfl ?_ | refine .no rfl ?_ | refine .skip ?_ | refine .block ?_ | refine .endB ?_ | refine .exit rfl ?_ | refine .br rfl (fun hc => ?_) (fun hc => ?_) | refine .scope ?_ | refine .inScope ?_ | refine .label ?_ | refine .ret rfl ?_ | refine .nil rfl ?_) | (show EG _ _ _ _ _ _ _ _ _; first | refine .mov rfl rfl ?_ | refine .lload rfl rfl rfl rfl ?_ | refine .laddr rfl rfl rfl ?_ | (show EG _ _ (⟨_, .bin _ _ _, _, _⟩ :: _) _ _ _ _ _ _; first | refine .lss rfl rfl rfl (fun hc => ?_) (fun hc => ?_) | refine .leqT rfl rfl rfl (by omega) ?_ | refine .leqF rfl rfl rfl (by omega) ?_ | refine .gtr rfl rfl rfl (fun hc => ?_) (fun hc => ?_) | refine .geqT rfl rfl rfl (by omega) ?_ | refine .geqF rfl rfl rfl (by omega) ?_ | refine .eql rfl rfl rfl (fun hc => ?_) (fun hc => ?_) | refine .neq rfl rfl rfl (fun hc => ?_) (fun hc => ?_)) | refine .subN (a := 62) rfl rfl rfl (by omega) ?_ | refine .skip rfl ?_ | refine .fin ?_ | refine .go rfl rfl rfl ?_ | refine .gono rfl rfl rfl ?_ | refine .skipn rfl ?_))
 rfl
theorem fmost_spec (hb : 1 ≤ b ∧ b ≤ 32) : callR En lo Id.field_Field_most [fld a b] h = some (N (2 ^ b - 1), h) := by
 refine call_scr rfl Fn.field_Field_most rfl rfl ?_
 have hp : 1 * 2 ^ b < 2 ^ 62 := by rw [Nat.one_mul]; exact Nat.pow_lt_pow_right (by decide) (by omega)
 have hp2 : 1 ≤ 1 * 2 ^ b := by rw [Nat.one_mul]; exact Nat.two_pow_pos b
 repeat' (first | (show ER _ _ _ _ _ _ _; first | refine .seq ?_ | refine .reg ?_ | refine .yes rfl ?_ | refine .no rfl ?_ | refine .skip ?_ | refine .block ?_ | refine .endB ?_ | refine .exit rfl ?_ | refine .br rfl (fun hc => ?_) (fun hc => ?_) | refine .scope ?_ | refine .inScope ?_ | refine .label ?_ | refine .ret rfl ?_ | refine .nil rfl ?_) | (show EG _ _ _ _ _ _ _ _ _; first | refine .mov rfl rfl ?_ | refine .lload rfl rfl rfl rfl ?_ | refine .laddr rfl rfl rfl ?_ | (show EG _ _ (⟨_, .bin _ _ _, _, _⟩ :: _) _ _ _ _ _ _; first | refine .lss rfl rfl rfl (fun hc => ?_) (fun hc => ?_) | refine .leq rfl rfl rfl (fun hc => ?_) (fun hc => ?_) | refine .gtr rfl rfl rfl (fun hc => ?_) (fun hc => ?_) | refine .geq rfl rfl rfl (fun hc => ?_) (fun hc => ?_) | refine .eql rfl rfl rfl (fun hc => ?_) (fun hc => ?_) | refine .neq rfl rfl rfl (fun hc => ?_) (fun hc => ?_)) | refine .go rfl (shl_nat (n := 1) _ _ rfl rfl (by omega) hp) rfl ?_ | refine .subN (b := 1) rfl rfl rfl ⟨hp2, hp⟩ ?_ | refine .skip rfl ?_ | refine .fin ?_ | refine .go rfl rfl rfl ?_ | refine .gono rfl rfl rfl ?_ | refine .skipn rfl ?_))
 rw [Nat.one_mul]; rfl
theorem fmask_spec (hab : a + b ≤ 62) (hb : 1 ≤ b ∧ b ≤ 32) : callR En lo Id.field_Field_mask [fld a b] h = some (N ((2 ^ b - 1) * 2 ^ a), h) := by
 refine call_scr rfl Fn.field_Field_mask rfl rfl ?_
 repeat' (first | (show ER _ _ _ _ _ _ _; first | refine .seq ?_ | refine .reg ?_ | refine .yes rfl ?_ | refine .no rfl ?_ | refine .skip ?_ | refine .block ?_ | refine .endB ?_ | refine .exit rfl ?_ | refine .br rfl (fun hc => ?_) (fun hc => ?_) | refine .scope ?_ | refine .inScope ?_ | refine .label ?_ | refine .ret rfl ?_ | refine .nil rfl ?_) | (show EG _ _ _ _ _ _ _ _ _; first | refine .mov rfl rfl ?_ | refine .lload rfl rfl rfl rfl ?_ | refine .laddr rfl rfl rfl ?_ | (show EG _ _ (⟨_, .bin _ _ _, _, _⟩ :: _) _ _ _ _ _ _; first | refine .lss rfl rfl rfl (fun hc => ?_) (fun hc => ?_) | refine .leq rfl rfl rfl (fun hc => ?_) (fun hc => ?_) | refine .gtr rfl rfl rfl (fun hc => ?_) (fun hc => ?_) | refine .geq rfl rfl rfl (fun hc => ?_) (fun hc => ?_) | refine .eql rfl rfl rfl (fun hc => ?_) (fun hc => ?_) | refine .neq rfl rfl rfl (fun hc => ?_) (fun hc => ?_)) | refine .call rfl rfl (fmost_spec _ _ hb) ?_ | refine .go rfl (shl_nat _ _ rfl rfl (by omega) (mask_lt hab hb.1)) rfl ?_ | refine .skip rfl ?_ | refine .fin ?_ | refine .go rfl rfl rfl ?_ | refine .gono rfl rfl rfl ?_ | refine .skipn rfl ?_))
 rfl
theorem ftold_spec (hab : a + b ≤ 62) (hb : 1 ≤ b ∧ b ≤ 32) (n : Int) : callR En lo Id.field_told [fld a b, .func (.func Id.field_Field_mask) #[] #[], I n] h = some (N ((2 ^ b - 1) * 2 ^ a), h) := by
 refine call_scr rfl Fn.field_told rfl rfl ?_
 repeat' (first | (show ER _ _ _ _ _ _ _; first | refine .seq ?_ | refine .reg ?_ | refine .yes rfl ?_ | refine .no rfl ?_ | refine .skip ?_ | refine .block ?_ | refine .endB ?_ | refine .exit rfl ?_ | refine .br rfl (fun hc => ?_) (fun hc => ?_) | refine .scope ?_ | refine .inScope ?_ | refine .label ?_ | refine .ret rfl ?_ | refine .nil rfl ?_) | (show EG _ _ _ _ _ _ _ _ _; first | refine .mov rfl rfl ?_ | refine .lload rfl rfl rfl rfl ?_ | refine .laddr rfl rfl rfl ?_ | (show EG _ _ (⟨_, .bin _ _ _, _, _⟩ :: _) _ _ _ _ _ _; first | refine .lss rfl rfl rfl (fun hc => ?_) (fun hc => ?_) | refine .leq rfl rfl rfl (fun hc => ?_) (fun hc => ?_) | refine .gtr rfl rfl rfl (fun hc => ?_) (fun hc => ?_) | refine .geq rfl rfl rfl (fun hc => ?_) (fun hc => ?_) | refine .eql rfl rfl rfl (fun hc => ?_) (fun hc => ?_) | refine .neq rfl rfl rfl (fun hc => ?_) (fun hc => ?_)) | refine .call rfl rfl (fmay_spec _ _ hab hb) ?_ | refine .callv rfl rfl rfl rfl (fmask_spec _ _ hab hb) ?_ | refine .skip rfl ?_ | refine .fin ?_ | refine .go rfl rfl rfl ?_ | refine .gono rfl rfl rfl ?_ | refine .skipn rfl ?_))
 rfl
theorem get_spec (hab : a + b ≤ 62) (hb : 1 ≤ b ∧ b ≤ 32) {n : Nat} (hn : n < 2 ^ 62) : callR En lo Id.field_Get [N n, fld a b] h = some (N (n / 2 ^ a % 2 ^ b), h) := by
 have hw := fun lo => fword_spec lo h (n : Int)
 rw [decide_eq_true (show (0 : Int) ≤ n ∧ (n : Int) < 4611686018427387904 by omega)] at hw
 have hm := mask_lt hab hb.1
 refine call_scr rfl Fn.field_Get rfl rfl ?_
 have mx : ∀ {f : Fr} {call : CallF} {x : Operand}, ev f x = some (N a) → iop call h.length (.max [x, .const (I 0)]) f h = some (N a, h) := fun {f call x} hx => by
  have h0 : ev f (.const (I 0)) = some (I 0) := rfl
  have hmx : maxL .i64 (a : Int) [I 0] = some (a : Int) := by
   simp only [maxL, if_true]
   rw [if_neg (by omega)]
  simp only [iop, evs, hx, h0]
  show (match maxL .i64 (a : Int) [I 0] with | some m => some (Value.int .i64 m, h) | none => none) = _
  rw [hmx]
 repeat' (first | (show ER _ _ _ _ _ _ _; first | refine .seq ?_ | refine .reg ?_ | refine .yes rfl ?_ | refine .no rfl ?_ | refine .skip ?_ | refine .block ?_ | refine .endB ?_ | refine .exit rfl ?_ | refine .br rfl (fun hc => ?_) (fun hc => ?_) | refine .scope ?_ | refine .inScope ?_ | refine .label ?_ | refine .ret rfl ?_ | refine .nil rfl ?_) | (show EG _ _ _ _ _ _ _ _ _; first | refine .mov rfl rfl ?_ | refine .lload rfl rfl rfl rfl ?_ | refine .laddr rfl rfl rfl ?_ | (show EG _ _ (⟨_, .bin _ _ _, _, _⟩ :: _) _ _ _ _ _ _; first | refine .lss rfl rfl rfl (fun hc => ?_) (fun hc => ?_) | refine .leq rfl rfl rfl (fun hc => ?_) (fun hc => ?_) | refine .gtr rfl rfl rfl (fun hc => ?_) (fun hc => ?_) | refine .geq rfl rfl rfl (fun hc => ?_) (fun hc => ?_) | refine .eql rfl rfl rfl (fun hc => ?_) (fun hc => ?_) | refine .neq rfl rfl rfl (fun hc => ?_) (fun hc => ?_)) | (show EG _ _ (⟨_, .call _ _, _, _⟩ :: _) _ _ _ _ _ _; first | refine .call rfl rfl (hw _) ?_ | refine .call rfl rfl (ftold_spec _ _ hab hb _) ?_) | refine .go rfl (and_op _ _ rfl rfl hn hm) rfl ?_ | refine .go rfl (mx rfl) rfl ?_ | refine .go rfl (shr_nat _ _ rfl rfl (by omega)) rfl ?_ | refine .skip rfl ?_ | refine .fin ?_ | refine .go rfl rfl rfl ?_ | refine .gono rfl rfl rfl ?_ | refine .skipn rfl ?_))
 rw [mask_and, Nat.mul_div_cancel _ (Nat.two_pow_pos a)]; rfl

theorem put_spec (hab : a + b ≤ 62) (hb : 1 ≤ b ∧ b ≤ 32) {n k : Nat} (hn : n < 2 ^ a) (hk : k < 2 ^ b) : callR En lo Id.field_Put [N n, fld a b, N k] h = some (.tuple #[N (n + k * 2 ^ a), I 0], h) := by
 have hn62 : n < 2 ^ 62 := Nat.lt_of_lt_of_le hn (Nat.pow_le_pow_right (by decide) (by omega))
 have hw := fun lo => fword_spec lo h (n : Int)
 rw [decide_eq_true (show (0 : Int) ≤ n ∧ (n : Int) < 4611686018427387904 by omega)] at hw
 have hm := mask_lt hab hb.1
 have hkm : k * 2 ^ a < 2 ^ 62 := Nat.lt_of_le_of_lt (Nat.mul_le_mul_right _ (by omega)) hm
 have hd : n &&& ((2 ^ b - 1) * 2 ^ a) = 0 := by rw [mask_and, Nat.div_eq_of_lt hn]; simp
 have hor : n ||| (k * 2 ^ a) = n + k * 2 ^ a := by
  rw [Nat.or_comm, Nat.mul_comm, ← Nat.two_pow_add_eq_or_of_lt hn, Nat.add_comm]
 refine call_scr rfl Fn.field_Put rfl rfl ?_
 repeat' (first | (show ER _ _ _ _ _ _ _; first | refine .seq ?_ | refine .reg ?_ | refine .yes rfl ?_ | refine .no rfl ?_ | refine .skip ?_ | refine .block ?_ | refine .endB ?_ | refine .exit rfl ?_ | refine .br rfl (fun hc => ?_) (fun hc => ?_) | refine .scope ?_ | refine .inScope ?_ | refine .label ?_ | refine .ret rfl ?_ | refine .nil rfl ?_) | (show EG _ _ _ _ _ _ _ _ _; first | refine .mov rfl rfl ?_ | refine .lload rfl rfl rfl rfl ?_ | refine .laddr rfl rfl rfl ?_ | (show EG _ _ (⟨_, .bin _ _ _, _, _⟩ :: _) _ _ _ _ _ _; first | refine .lssT rfl rfl rfl (by omega) ?_ | refine .lssF rfl rfl rfl (by omega) ?_ | refine .leq rfl rfl rfl (fun hc => ?_) (fun hc => ?_) | refine .gtrT rfl rfl rfl (by omega) ?_ | refine .gtrF rfl rfl rfl (by omega) ?_ | refine .geq rfl rfl rfl (fun hc => ?_) (fun hc => ?_) | refine .eql rfl rfl rfl (fun hc => ?_) (fun hc => ?_) | refine .neq rfl rfl rfl (fun hc => ?_) (fun hc => ?_)) | (show EG _ _ (⟨_, .call _ _, _, _⟩ :: _) _ _ _ _ _ _; first | refine .call rfl rfl (hw _) ?_ | refine .call rfl rfl (fmay_spec _ _ hab hb) ?_ | refine .call rfl rfl (fmost_spec _ _ hb) ?_ | refine .call rfl rfl (fmask_spec _ _ hab hb) ?_) | refine .go rfl (andNot_op _ _ rfl rfl hn62 hm hd) rfl ?_ | refine .go rfl (shl_nat _ _ rfl rfl (by omega) hkm) rfl ?_ | refine .go rfl (or_op _ _ rfl rfl hn62 hkm) rfl ?_ | refine .skip rfl ?_ | refine .fin ?_ | refine .go rfl rfl rfl ?_ | refine .gono rfl rfl rfl ?_ | refine .skipn rfl ?_))
 rw [hor]; rfl
end
end Go.Proofs.YtfpfknafcgkcjaaGreat

/- Entries. -/
set_option linter.unusedVariables false
set_option linter.unusedSimpArgs false
namespace Go.Proofs.YtfpfknafcgkcjaaGreat
open Go Go.Ir

structure Ent where
 o : Int
 g : Int
 p : Int
 u : Int
 lk : Bool
 lv : Bool
 deriving DecidableEq
def Ent.cs (e : Ent) : List Value := [I e.o, I e.g, I e.p, I e.u, .bool e.lk, .bool e.lv]
def Ent.zero : Ent := ⟨0, 0, 0, 0, false, false⟩
def Ent.may (e : Ent) : Prop := 0 ≤ e.o ∧ e.o ≤ 4096 ∧ 0 ≤ e.g ∧ e.g ≤ 1000 ∧ 0 ≤ e.p ∧ e.p ≤ 7 ∧ 0 ≤ e.u ∧ e.u ≤ 15 ∧ (e.lk = true → e.p + e.u = 0) ∧ (e.lv = false → e.o = 0 ∧ e.p = 0 ∧ e.u = 0 ∧ e.lk = false)
instance (e : Ent) : Decidable e.may := by unfold Ent.may; infer_instance

def bitN (b : Bool) : Nat := if b then 1 else 0
def rawE (n : Nat) : Ent := ⟨(n / 2 ^ 0 % 2 ^ 20 : Nat), (n / 2 ^ 20 % 2 ^ 20 : Nat), (n / 2 ^ 40 % 2 ^ 4 : Nat), (n / 2 ^ 44 % 2 ^ 4 : Nat), decide (n / 2 ^ 48 % 2 ^ 1 = 1), decide (n / 2 ^ 49 % 2 ^ 1 = 1)⟩
def unpackE (w : Int) : Option Ent := if 0 ≤ w ∧ w < 1125899906842624 ∧ (rawE w.toNat).may then some (rawE w.toNat) else none
def packN (e : Ent) : Nat := e.o.toNat + e.g.toNat * 2 ^ 20 + e.p.toNat * 2 ^ 40 + e.u.toNat * 2 ^ 44 + bitN e.lk * 2 ^ 48 + bitN e.lv * 2 ^ 49

theorem packN_lt {e : Ent} (h : e.may) : packN e < 2 ^ 50 := by
 unfold Ent.may at h
 have h1 : bitN e.lk ≤ 1 := by unfold bitN; split <;> decide
 have h2 : bitN e.lv ≤ 1 := by unfold bitN; split <;> decide
 unfold packN
 omega
theorem raw_pack {e : Ent} (h : e.may) : rawE (packN e) = e := by
 unfold Ent.may at h
 have h1 : bitN e.lk ≤ 1 := by unfold bitN; split <;> decide
 have h2 : bitN e.lv ≤ 1 := by unfold bitN; split <;> decide
 have e5 : decide (packN e / 2 ^ 48 % 2 ^ 1 = 1) = e.lk := by
  have : packN e / 2 ^ 48 % 2 ^ 1 = bitN e.lk := by unfold packN; omega
  rw [this]; unfold bitN; cases e.lk <;> rfl
 have e6 : decide (packN e / 2 ^ 49 % 2 ^ 1 = 1) = e.lv := by
  have : packN e / 2 ^ 49 % 2 ^ 1 = bitN e.lv := by unfold packN; omega
  rw [this]; unfold bitN; cases e.lv <;> rfl
 unfold rawE
 rw [e5, e6]
 obtain ⟨o, g, p, u, lk, lv⟩ := e
 simp only at h h1 h2 ⊢
 have q1 : ((packN ⟨o, g, p, u, lk, lv⟩ / 2 ^ 0 % 2 ^ 20 : Nat) : Int) = o := by unfold packN; simp only; omega
 have q2 : ((packN ⟨o, g, p, u, lk, lv⟩ / 2 ^ 20 % 2 ^ 20 : Nat) : Int) = g := by unfold packN; simp only; omega
 have q3 : ((packN ⟨o, g, p, u, lk, lv⟩ / 2 ^ 40 % 2 ^ 4 : Nat) : Int) = p := by unfold packN; simp only; omega
 have q4 : ((packN ⟨o, g, p, u, lk, lv⟩ / 2 ^ 44 % 2 ^ 4 : Nat) : Int) = u := by unfold packN; simp only; omega
 rw [q1, q2, q3, q4]
theorem unpack_pack {e : Ent} (h : e.may) : unpackE (packN e : Nat) = some e := by
 have := packN_lt h
 unfold unpackE
 rw [Int.toNat_natCast, raw_pack h, if_pos ⟨by omega, by omega, h⟩]
theorem pack_raw {n : Nat} (h : n < 2 ^ 50) : packN (rawE n) = n := by
 unfold packN rawE
 simp only [Int.toNat_natCast]
 have e5 : bitN (decide (n / 2 ^ 48 % 2 ^ 1 = 1)) = n / 2 ^ 48 % 2 ^ 1 := by
  unfold bitN
  by_cases hh : n / 2 ^ 48 % 2 ^ 1 = 1
  ·rw [decide_eq_true hh, if_pos rfl, hh]
  ·rw [decide_eq_false hh, if_neg (by decide)]; omega
 have e6 : bitN (decide (n / 2 ^ 49 % 2 ^ 1 = 1)) = n / 2 ^ 49 % 2 ^ 1 := by
  unfold bitN
  by_cases hh : n / 2 ^ 49 % 2 ^ 1 = 1
  ·rw [decide_eq_true hh, if_pos rfl, hh]
  ·rw [decide_eq_false hh, if_neg (by decide)]; omega
 rw [e5, e6]
 omega
theorem pack_unpack {w : Int} {e : Ent} (h : unpackE w = some e) : (packN e : Int) = w ∧ e.may := by
 unfold unpackE at h
 split at h
 ·rename_i hc
  injection h with h
  subst h
  exact ⟨by rw [pack_raw (by omega)]; omega, hc.2.2⟩
 ·cases h

theorem ein_spec (lo : Nat) (h : Heap) (n m : Int) : callR En lo Id.entry_in [I n, I m] h = some (.bool (inB n 0 m), h) := by
 refine call_scr rfl Fn.entry_in rfl rfl ?_
 repeat' (first | (show ER _ _ _ _ _ _ _; first | refine .seq ?_ | refine .reg ?_ | refine .yes rfl ?_ | refine .no rfl ?_ | refine .skip ?_ | refine .block ?_ | refine .endB ?_ | refine .exit rfl ?_ | refine .br rfl (fun hc => ?_) (fun hc => ?_) | refine .scope ?_ | refine .inScope ?_ | refine .label ?_ | refine .ret rfl ?_ | refine .nil rfl ?_) | (show EG _ _ _ _ _ _ _ _ _; first | refine .mov rfl rfl ?_ | refine .lload rfl rfl rfl rfl ?_ | refine .laddr rfl rfl rfl ?_ | (show EG _ _ (⟨_, .bin _ _ _, _, _⟩ :: _) _ _ _ _ _ _; first | refine .lss rfl rfl rfl (fun hc => ?_) (fun hc => ?_) | refine .leq rfl rfl rfl (fun hc => ?_) (fun hc => ?_) | refine .gtr rfl rfl rfl (fun hc => ?_) (fun hc => ?_) | refine .geq rfl rfl rfl (fun hc => ?_) (fun hc => ?_) | refine .eql rfl rfl rfl (fun hc => ?_) (fun hc => ?_) | refine .neq rfl rfl rfl (fun hc => ?_) (fun hc => ?_)) | refine .skip rfl ?_ | refine .fin ?_ | refine .go rfl rfl rfl ?_ | refine .gono rfl rfl rfl ?_ | refine .skipn rfl ?_))
 all_goals (refine tidyB ?_; simp [inB, *])

set_option maxHeartbeats 1600000 in
theorem emay_spec (lo : Nat) (h : Heap) (e : Ent) : callR En lo Id.entry_Entry_may [.agg e.cs.toArray] h = some (.bool (decide e.may), h) := by
 have hi := fun lo n m => ein_spec lo h n m
 refine call_scr rfl Fn.entry_Entry_may rfl rfl ?_
 by_cases hm : e.may
 ·have hm' := hm
  unfold Ent.may at hm'
  rw [decide_eq_true hm]
  have i1 := fun lo => hi lo e.o 4096
  have i2 := fun lo => hi lo e.g 1000
  have i3 := fun lo => hi lo e.p 7
  have i4 := fun lo => hi lo e.u 15
  rw [show inB e.o 0 4096 = true by simp [inB]; omega] at i1
  rw [show inB e.g 0 1000 = true by simp [inB]; omega] at i2
  rw [show inB e.p 0 7 = true by simp [inB]; omega] at i3
  rw [show inB e.u 0 15 = true by simp [inB]; omega] at i4
  have hw : IntKind.i64.wrap (e.p + e.u) = e.p + e.u := wrap_id (by omega) (by omega)
  obtain ⟨o, g, p, u, lk, lv⟩ := e
  cases lk
  all_goals
   cases lv
   all_goals
    simp only at hm' hw
    repeat' (first | (show ER _ _ _ _ _ _ _; first | refine .seq ?_ | refine .reg ?_ | refine .yes rfl ?_ | refine .no rfl ?_ | refine .skip ?_ | refine .block ?_ | refine .endB ?_ | refine .exit rfl ?_ | refine .br rfl (fun hc => ?_) (fun hc => ?_) | refine .scope ?_ | refine .inScope ?_ | refine .label ?_ | refine .ret rfl ?_ | refine .nil rfl ?_) | (show EG _ _ _ _ _ _ _ _ _; first | refine .mov rfl rfl ?_ | refine .lload rfl rfl rfl rfl ?_ | refine .laddr rfl rfl rfl ?_ | (show EG _ _ (⟨_, .bin _ _ _, _, _⟩ :: _) _ _ _ _ _ _; first | refine .lss rfl rfl rfl (fun hc => ?_) (fun hc => ?_) | refine .leq rfl rfl rfl (fun hc => ?_) (fun hc => ?_) | refine .gtr rfl rfl rfl (fun hc => ?_) (fun hc => ?_) | refine .geq rfl rfl rfl (fun hc => ?_) (fun hc => ?_) | refine .eql rfl rfl rfl (fun hc => ?_) (fun hc => ?_) | refine .neq rfl rfl rfl (fun hc => ?_) (fun hc => ?_)) | (show EG _ _ (⟨_, .call _ _, _, _⟩ :: _) _ _ _ _ _ _; first | refine .call rfl rfl (i1 _) ?_ | refine .call rfl rfl (i2 _) ?_ | refine .call rfl rfl (i3 _) ?_ | refine .call rfl rfl (i4 _) ?_) | refine .eqc rfl rfl rfl rfl (fun hc => ?_) (fun hc => ?_) | refine .skip rfl ?_ | refine .fin ?_ | refine .go rfl rfl rfl ?_ | refine .gono rfl rfl rfl ?_ | refine .skipn rfl ?_))
    all_goals first | rfl | (exfalso; simp at hc hm' <;> omega) | (exfalso; simp at hm' <;> omega) | (exfalso; omega)
 ·rw [decide_eq_false hm]
  unfold Ent.may at hm
  obtain ⟨o, g, p, u, lk, lv⟩ := e
  cases lk
  all_goals
   cases lv
   all_goals
    simp only at hm
    repeat' (first | (show ER _ _ _ _ _ _ _; first | refine .seq ?_ | refine .reg ?_ | refine .yes rfl ?_ | refine .no rfl ?_ | refine .skip ?_ | refine .block ?_ | refine .endB ?_ | refine .exit rfl ?_ | refine .br rfl (fun hc => ?_) (fun hc => ?_) | refine .scope ?_ | refine .inScope ?_ | refine .label ?_ | refine .ret rfl ?_ | refine .nil rfl ?_) | (show EG _ _ _ _ _ _ _ _ _; first | refine .mov rfl rfl ?_ | refine .lload rfl rfl rfl rfl ?_ | refine .laddr rfl rfl rfl ?_ | (show EG _ _ (⟨_, .bin _ _ _, _, _⟩ :: _) _ _ _ _ _ _; first | refine .lss rfl rfl rfl (fun hc => ?_) (fun hc => ?_) | refine .leq rfl rfl rfl (fun hc => ?_) (fun hc => ?_) | refine .gtr rfl rfl rfl (fun hc => ?_) (fun hc => ?_) | refine .geq rfl rfl rfl (fun hc => ?_) (fun hc => ?_) | refine .eql rfl rfl rfl (fun hc => ?_) (fun hc => ?_) | refine .neq rfl rfl rfl (fun hc => ?_) (fun hc => ?_)) | refine .callb rfl rfl (hi _ _ _) (fun hc => ?_) (fun hc => ?_) | refine .eqc rfl rfl rfl rfl (fun hc => ?_) (fun hc => ?_) | refine .skip rfl ?_ | refine .fin ?_ | refine .go rfl rfl rfl ?_ | refine .gono rfl rfl rfl ?_ | refine .skipn rfl ?_))
    all_goals first | rfl | (exfalso; apply hm; simp [inB] at * <;> omega) | (exfalso; apply hm; simp only [IntKind.wrap_i64] at *; simp [inB] at * <;> omega)

theorem ebit_spec (lo : Nat) (h : Heap) (b : Bool) : callR En lo Id.entry_bit [.bool b] h = some (N (bitN b), h) := by
 refine call_scr rfl Fn.entry_bit rfl rfl ?_
 cases b
 all_goals
  repeat' (first | (show ER _ _ _ _ _ _ _; first | refine .seq ?_ | refine .reg ?_ | refine .yes rfl ?_ | refine .no rfl ?_ | refine .skip ?_ | refine .block ?_ | refine .endB ?_ | refine .exit rfl ?_ | refine .br rfl (fun hc => ?_) (fun hc => ?_) | refine .scope ?_ | refine .inScope ?_ | refine .label ?_ | refine .ret rfl ?_ | refine .nil rfl ?_) | (show EG _ _ _ _ _ _ _ _ _; first | refine .mov rfl rfl ?_ | refine .lload rfl rfl rfl rfl ?_ | refine .laddr rfl rfl rfl ?_ | (show EG _ _ (⟨_, .bin _ _ _, _, _⟩ :: _) _ _ _ _ _ _; first | refine .lss rfl rfl rfl (fun hc => ?_) (fun hc => ?_) | refine .leq rfl rfl rfl (fun hc => ?_) (fun hc => ?_) | refine .gtr rfl rfl rfl (fun hc => ?_) (fun hc => ?_) | refine .geq rfl rfl rfl (fun hc => ?_) (fun hc => ?_) | refine .eql rfl rfl rfl (fun hc => ?_) (fun hc => ?_) | refine .neq rfl rfl rfl (fun hc => ?_) (fun hc => ?_)) | refine .skip rfl ?_ | refine .fin ?_ | refine .go rfl rfl rfl ?_ | refine .gono rfl rfl rfl ?_ | refine .skipn rfl ?_))
  rfl
theorem fields_spec (lo : Nat) (h : Heap) : callR En lo Id.entry_fields [] h = some (.agg #[I 0, I 20, I 20, I 20, I 40, I 4, I 44, I 4, I 48, I 1, I 49, I 1], h) := callR_iff.2 ⟨60, by kernel_rfl⟩
end Go.Proofs.YtfpfknafcgkcjaaGreat

/- Entries, packed and unpacked. -/
set_option linter.unusedVariables false
set_option linter.unusedSimpArgs false
namespace Go.Proofs.YtfpfknafcgkcjaaGreat
open Go Go.Ir

def unV : Option Ent → Value
 | some e => .tuple #[.agg e.cs.toArray, I 0]
 | none => .tuple #[.agg Ent.zero.cs.toArray, I 2]

def fv (n : Nat) : Nat → Nat
 | 0 => n / 2 ^ 0 % 2 ^ 20
 | 1 => n / 2 ^ 20 % 2 ^ 20
 | 2 => n / 2 ^ 40 % 2 ^ 4
 | 3 => n / 2 ^ 44 % 2 ^ 4
 | 4 => n / 2 ^ 48 % 2 ^ 1
 | _ => n / 2 ^ 49 % 2 ^ 1
def frow (n i : Nat) : List Value := (List.range 6).map fun j => if j < i then N (fv n j) else I 0

set_option maxHeartbeats 3200000 in
theorem unpack_spec (lo : Nat) (h : Heap) (w : Int) : callR En lo Id.entry_Unpack [I w] h = some (unV (unpackE w), h) := by
 have hF := fun lo h => fields_spec lo h
 by_cases hr : 0 ≤ w ∧ w < 1125899906842624
 ·refine Exists.elim (show ∃ n : Nat, w = n from ⟨w.toNat, by omega⟩) fun n hn => ?_
  subst hn
  have hn62 : n < 2 ^ 62 := by omega
  have g0 : ∀ lo h, callR En lo Id.field_Get [N n, .agg #[I 0, I 20]] h = some (N (fv n 0), h) := fun lo h => get_spec lo h (a := 0) (b := 20) (by decide) (by decide) hn62
  have g1 : ∀ lo h, callR En lo Id.field_Get [N n, .agg #[I 20, I 20]] h = some (N (fv n 1), h) := fun lo h => get_spec lo h (a := 20) (b := 20) (by decide) (by decide) hn62
  have g2 : ∀ lo h, callR En lo Id.field_Get [N n, .agg #[I 40, I 4]] h = some (N (fv n 2), h) := fun lo h => get_spec lo h (a := 40) (b := 4) (by decide) (by decide) hn62
  have g3 : ∀ lo h, callR En lo Id.field_Get [N n, .agg #[I 44, I 4]] h = some (N (fv n 3), h) := fun lo h => get_spec lo h (a := 44) (b := 4) (by decide) (by decide) hn62
  have g4 : ∀ lo h, callR En lo Id.field_Get [N n, .agg #[I 48, I 1]] h = some (N (fv n 4), h) := fun lo h => get_spec lo h (a := 48) (b := 1) (by decide) (by decide) hn62
  have g5 : ∀ lo h, callR En lo Id.field_Get [N n, .agg #[I 49, I 1]] h = some (N (fv n 5), h) := fun lo h => get_spec lo h (a := 49) (b := 1) (by decide) (by decide) hn62
  have hun : unpackE (n : Int) = if (rawE n).may then some (rawE n) else none := by
   unfold unpackE
   rw [Int.toNat_natCast]
   by_cases hm : (rawE n).may
   ·rw [if_pos ⟨by omega, by omega, hm⟩, if_pos hm]
   ·rw [if_neg (fun hh => hm hh.2.2), if_neg hm]
  rw [hun]
  refine call_scr rfl Fn.entry_Unpack rfl rfl ?_
  repeat' (first | (show ER _ _ _ _ _ _ _; first | refine .seq ?_ | refine .reg ?_ | refine .yes rfl ?_ | refine .no rfl ?_ | refine .skip ?_ | refine .block ?_ | refine .endB ?_ | refine .exit rfl ?_ | refine .br rfl (fun hc => ?_) (fun hc => ?_) | refine .scope ?_ | refine .inScope ?_ | refine .label ?_ | refine .ret rfl ?_ | refine .nil rfl ?_) | (show EG _ _ _ _ _ _ _ _ _; first | refine .mov rfl rfl ?_ | refine .lload rfl rfl rfl rfl ?_ | refine .laddr rfl rfl rfl ?_ | (show EG _ _ (⟨_, .bin _ _ _, _, _⟩ :: _) _ _ _ _ _ _; first | refine .lssT rfl rfl rfl (by omega) ?_ | refine .lssF rfl rfl rfl (by omega) ?_ | refine .leq rfl rfl rfl (fun hc => ?_) (fun hc => ?_) | refine .gtr rfl rfl rfl (fun hc => ?_) (fun hc => ?_) | refine .geqT rfl rfl rfl (by omega) ?_ | refine .geqF rfl rfl rfl (by omega) ?_ | refine .eql rfl rfl rfl (fun hc => ?_) (fun hc => ?_) | refine .neq rfl rfl rfl (fun hc => ?_) (fun hc => ?_)) | refine .call rfl rfl (hF _ _) ?_ | refine .skip rfl ?_ | refine .fin ?_ | refine .go rfl rfl rfl ?_ | refine .gono rfl rfl rfl ?_ | refine .skipn rfl ?_))
  refine .loop (fun m f H => ∃ i : Nat, m + i = 6 ∧ f = [(0, N n), (2, .agg Ent.zero.cs.toArray), (4, .pointer (some ⟨h.length, 0, none⟩)), (15, .agg #[I 0, I 20, I 20, I 20, I 40, I 4, I 44, I 4, I 48, I 1, I 49, I 1]), (16, N i)] ∧ H = h ++ [.row (frow n i) false]) (n := 6) ⟨0, rfl, rfl, rfl⟩ ?_
  rintro m f H ⟨i, hm, rfl, rfl⟩ next
  have hst : ∀ i, i < 6 → stN h.length (h ++ [.row (frow n i) false]) ⟨h.length, 0 + i * 1, none⟩ (vcells (N (fv n i))) = some (h ++ [.row (frow n (i + 1)) false]) := fun i hi => by
   have e1 : splice (frow n i) (0 + i * 1) [N (fv n i)] = frow n (i + 1) := by
    match i, hi with
    | 0, _ | 1, _ | 2, _ | 3, _ | 4, _ | 5, _ => rfl
   have hcat : (h ++ [Blk.row (frow n i) false])[h.length]? = some (.row (frow n i) false) := List.getElem?_concat_length
   refine (st_row hcat (Nat.le_refl _) (by show 0 + i * 1 + 1 ≤ 6; omega) e1).trans ?_
   exact congrArg some (by rw [List.set_append_right _ _ (Nat.le_refl _), Nat.sub_self]; rfl)
  by_cases hi : i < 6
  ·have hs := hst i hi
   match i, hi with
   | 0, _ | 1, _ | 2, _ | 3, _ | 4, _ | 5, _ =>
     repeat' (first | (show ER _ _ _ _ _ _ _; first | refine .seq ?_ | refine .reg ?_ | refine .yes rfl ?_ | refine .no rfl ?_ | refine .skip ?_ | refine .block ?_ | refine .endB ?_ | refine .exit rfl ?_ | refine .br rfl (fun hc => ?_) (fun hc => ?_) | refine .scope ?_ | refine .inScope ?_ | refine .label ?_ | refine .ret rfl ?_ | refine .nil rfl ?_) | (show EG _ _ _ _ _ _ _ _ _; first | refine .mov rfl rfl ?_ | refine .lload rfl rfl rfl rfl ?_ | refine .laddr rfl rfl rfl ?_ | (show EG _ _ (⟨_, .bin _ _ _, _, _⟩ :: _) _ _ _ _ _ _; first | refine .lssT rfl rfl rfl (by omega) ?_ | refine .lssF rfl rfl rfl (by omega) ?_ | refine .leq rfl rfl rfl (fun hc => ?_) (fun hc => ?_) | refine .gtr rfl rfl rfl (fun hc => ?_) (fun hc => ?_) | refine .geq rfl rfl rfl (fun hc => ?_) (fun hc => ?_) | refine .eql rfl rfl rfl (fun hc => ?_) (fun hc => ?_) | refine .neq rfl rfl rfl (fun hc => ?_) (fun hc => ?_) | refine .addN rfl rfl rfl (by omega) ?_ | refine .addN (b := 1) rfl rfl rfl (by omega) ?_ | refine .subN rfl rfl rfl (by omega) ?_ | refine .subN (b := 1) rfl rfl rfl (by omega) ?_) | (show EG _ _ (⟨_, .call _ _, _, _⟩ :: _) _ _ _ _ _ _; first | refine .call rfl rfl (g0 _ _) ?_ | refine .call rfl rfl (g1 _ _) ?_ | refine .call rfl rfl (g2 _ _) ?_ | refine .call rfl rfl (g3 _ _) ?_ | refine .call rfl rfl (g4 _ _) ?_ | refine .call rfl rfl (g5 _ _) ?_) | refine .store rfl rfl rfl rfl rfl hs ?_ | refine .skip rfl ?_ | refine .fin ?_ | refine .go rfl rfl rfl ?_ | refine .gono rfl rfl rfl ?_ | refine .skipn rfl ?_))
     exact next (m - 1) _ _ (by omega) ⟨_, by omega, rfl, rfl⟩
  ·have h6 : i = 6 := by omega
   subst h6
   have hld : ∀ j, j < 6 → loadV (h ++ [.row (frow n 6) false]) none ⟨h.length, 0 + j * 1, none⟩ = some (N (fv n j)) := fun j hj => by
    refine ld_row List.getElem?_concat_length ?_
    match j, hj with
    | 0, _ | 1, _ | 2, _ | 3, _ | 4, _ | 5, _ => rfl
   have l0 := hld 0 (by decide)
   have l1 := hld 1 (by decide)
   have l2 := hld 2 (by decide)
   have l3 := hld 3 (by decide)
   have l4 := hld 4 (by decide)
   have l5 := hld 5 (by decide)
   have hcs : (rawE n).cs = [N (fv n 0), N (fv n 1), N (fv n 2), N (fv n 3), .bool (decide (fv n 4 = 1)), .bool (decide (fv n 5 = 1))] := rfl
   have hE := fun lo h => emay_spec lo h (rawE n)
   rw [hcs] at hE
   have fin : ∀ b4 b5 : Bool, decide (fv n 4 = 1) = b4 → decide (fv n 5 = 1) = b5 → ∀ lo h, callR En lo Id.entry_Entry_may [.agg #[N (fv n 0), N (fv n 1), N (fv n 2), N (fv n 3), .bool b4, .bool b5]] h = some (.bool (decide (rawE n).may), h) := fun b4 b5 e4 e5 lo h => by
    subst e4 e5
    exact hE lo h
   have res : ∀ b4 b5 : Bool, decide (fv n 4 = 1) = b4 → decide (fv n 5 = 1) = b5 → (rawE n).cs = [N (fv n 0), N (fv n 1), N (fv n 2), N (fv n 3), .bool b4, .bool b5] := fun b4 b5 e4 e5 => by
    subst e4 e5
    exact hcs
   by_cases h4 : fv n 4 = 1 <;> by_cases h5 : fv n 5 = 1
   all_goals
    have hf := fin _ _ rfl rfl
    have hr := res _ _ rfl rfl
    first | rw [decide_eq_true h4] at hf hr | rw [decide_eq_false h4] at hf hr
    first | rw [decide_eq_true h5] at hf hr | rw [decide_eq_false h5] at hf hr
    by_cases hm : (rawE n).may
    ·rw [decide_eq_true hm] at hf
     rw [if_pos hm]
     repeat' (first | (show ER _ _ _ _ _ _ _; first | refine .seq ?_ | refine .reg ?_ | refine .yes rfl ?_ | refine .no rfl ?_ | refine .skip ?_ | refine .block ?_ | refine .endB ?_ | refine .exit rfl ?_ | refine .br rfl (fun hc => ?_) (fun hc => ?_) | refine .scope ?_ | refine .inScope ?_ | refine .label ?_ | refine .ret rfl ?_ | refine .nil rfl ?_) | (show EG _ _ _ _ _ _ _ _ _; first | refine .mov rfl rfl ?_ | refine .lload rfl rfl rfl rfl ?_ | refine .laddr rfl rfl rfl ?_ | (show EG _ _ (⟨_, .bin _ _ _, _, _⟩ :: _) _ _ _ _ _ _; first | refine .lssT rfl rfl rfl (by omega) ?_ | refine .lssF rfl rfl rfl (by omega) ?_ | refine .leq rfl rfl rfl (fun hc => ?_) (fun hc => ?_) | refine .gtr rfl rfl rfl (fun hc => ?_) (fun hc => ?_) | refine .geq rfl rfl rfl (fun hc => ?_) (fun hc => ?_) | refine .eqlT rfl rfl rfl (by omega) ?_ | refine .eqlF rfl rfl rfl (by omega) ?_ | refine .neq rfl rfl rfl (fun hc => ?_) (fun hc => ?_)) | (show EG _ _ (⟨_, .load _ _, _, _⟩ :: _) _ _ _ _ _ _; first | refine .load rfl rfl (l0) ?_ | refine .load rfl rfl (l1) ?_ | refine .load rfl rfl (l2) ?_ | refine .load rfl rfl (l3) ?_ | refine .load rfl rfl (l4) ?_ | refine .load rfl rfl (l5) ?_) | refine .call rfl rfl (hf _ _) ?_ | refine .skip rfl ?_ | refine .fin ?_ | refine .go rfl rfl rfl ?_ | refine .gono rfl rfl rfl ?_ | refine .skipn rfl ?_))
     show _ = some (Value.tuple #[.agg (rawE n).cs.toArray, I 0], h)
     rw [hr]
     rfl
    ·rw [decide_eq_false hm] at hf
     rw [if_neg hm]
     repeat' (first | (show ER _ _ _ _ _ _ _; first | refine .seq ?_ | refine .reg ?_ | refine .yes rfl ?_ | refine .no rfl ?_ | refine .skip ?_ | refine .block ?_ | refine .endB ?_ | refine .exit rfl ?_ | refine .br rfl (fun hc => ?_) (fun hc => ?_) | refine .scope ?_ | refine .inScope ?_ | refine .label ?_ | refine .ret rfl ?_ | refine .nil rfl ?_) | (show EG _ _ _ _ _ _ _ _ _; first | refine .mov rfl rfl ?_ | refine .lload rfl rfl rfl rfl ?_ | refine .laddr rfl rfl rfl ?_ | (show EG _ _ (⟨_, .bin _ _ _, _, _⟩ :: _) _ _ _ _ _ _; first | refine .lssT rfl rfl rfl (by omega) ?_ | refine .lssF rfl rfl rfl (by omega) ?_ | refine .leq rfl rfl rfl (fun hc => ?_) (fun hc => ?_) | refine .gtr rfl rfl rfl (fun hc => ?_) (fun hc => ?_) | refine .geq rfl rfl rfl (fun hc => ?_) (fun hc => ?_) | refine .eqlT rfl rfl rfl (by omega) ?_ | refine .eqlF rfl rfl rfl (by omega) ?_ | refine .neq rfl rfl rfl (fun hc => ?_) (fun hc => ?_)) | (show EG _ _ (⟨_, .load _ _, _, _⟩ :: _) _ _ _ _ _ _; first | refine .load rfl rfl (l0) ?_ | refine .load rfl rfl (l1) ?_ | refine .load rfl rfl (l2) ?_ | refine .load rfl rfl (l3) ?_ | refine .load rfl rfl (l4) ?_ | refine .load rfl rfl (l5) ?_) | refine .call rfl rfl (hf _ _) ?_ | refine .skip rfl ?_ | refine .fin ?_ | refine .go rfl rfl rfl ?_ | refine .gono rfl rfl rfl ?_ | refine .skipn rfl ?_))
     rfl
 ·have hun : unpackE w = none := by unfold unpackE; rw [if_neg (fun hh => hr ⟨hh.1, hh.2.1⟩)]
  rw [hun]
  refine call_scr rfl Fn.entry_Unpack rfl rfl ?_
  repeat' (first | (show ER _ _ _ _ _ _ _; first | refine .seq ?_ | refine .reg ?_ | refine .yes rfl ?_ | refine .no rfl ?_ | refine .skip ?_ | refine .block ?_ | refine .endB ?_ | refine .exit rfl ?_ | refine .br rfl (fun hc => ?_) (fun hc => ?_) | refine .scope ?_ | refine .inScope ?_ | refine .label ?_ | refine .ret rfl ?_ | refine .nil rfl ?_) | (show EG _ _ _ _ _ _ _ _ _; first | refine .mov rfl rfl ?_ | refine .lload rfl rfl rfl rfl ?_ | refine .laddr rfl rfl rfl ?_ | (show EG _ _ (⟨_, .bin _ _ _, _, _⟩ :: _) _ _ _ _ _ _; first | refine .lss rfl rfl rfl (fun hc => ?_) (fun hc => ?_) | refine .leq rfl rfl rfl (fun hc => ?_) (fun hc => ?_) | refine .gtr rfl rfl rfl (fun hc => ?_) (fun hc => ?_) | refine .geq rfl rfl rfl (fun hc => ?_) (fun hc => ?_) | refine .eql rfl rfl rfl (fun hc => ?_) (fun hc => ?_) | refine .neq rfl rfl rfl (fun hc => ?_) (fun hc => ?_)) | refine .skip rfl ?_ | refine .fin ?_ | refine .go rfl rfl rfl ?_ | refine .gono rfl rfl rfl ?_ | refine .skipn rfl ?_))
  all_goals first | rfl | (exfalso; omega)
end Go.Proofs.YtfpfknafcgkcjaaGreat

/- Entries, packed; locked, moved; sizes rounded. -/
set_option linter.unusedVariables false
set_option linter.unusedSimpArgs false
namespace Go.Proofs.YtfpfknafcgkcjaaGreat
open Go Go.Ir

def pkV (e : Ent) : Value := if e.may then .tuple #[N (packN e), I 0] else .tuple #[I 0, I 1]

def vals (e : Ent) : Nat → Nat
 | 0 => e.o.toNat
 | 1 => e.g.toNat
 | 2 => e.p.toNat
 | 3 => e.u.toNat
 | 4 => bitN e.lk
 | _ => bitN e.lv
def pw (e : Ent) : Nat → Nat
 | 0 => 0
 | 1 => 0 + vals e 0 * 2 ^ 0
 | 2 => 0 + vals e 0 * 2 ^ 0 + vals e 1 * 2 ^ 20
 | 3 => 0 + vals e 0 * 2 ^ 0 + vals e 1 * 2 ^ 20 + vals e 2 * 2 ^ 40
 | 4 => 0 + vals e 0 * 2 ^ 0 + vals e 1 * 2 ^ 20 + vals e 2 * 2 ^ 40 + vals e 3 * 2 ^ 44
 | 5 => 0 + vals e 0 * 2 ^ 0 + vals e 1 * 2 ^ 20 + vals e 2 * 2 ^ 40 + vals e 3 * 2 ^ 44 + vals e 4 * 2 ^ 48
 | _ => 0 + vals e 0 * 2 ^ 0 + vals e 1 * 2 ^ 20 + vals e 2 * 2 ^ 40 + vals e 3 * 2 ^ 44 + vals e 4 * 2 ^ 48 + vals e 5 * 2 ^ 49

set_option maxHeartbeats 3200000 in
theorem pack_spec (lo : Nat) (h : Heap) (e : Ent) : callR En lo Id.entry_Pack [.agg e.cs.toArray] h = some (pkV e, h) := by
 have hF := fun lo h => fields_spec lo h
 have hE := fun lo => emay_spec lo h e
 unfold pkV
 by_cases hm : e.may
 ·rw [if_pos hm]
  rw [decide_eq_true hm] at hE
  have hm' := hm
  unfold Ent.may at hm'
  have b4 : bitN e.lk ≤ 1 := by unfold bitN; split <;> decide
  have b5 : bitN e.lv ≤ 1 := by unfold bitN; split <;> decide
  have hB4 := fun lo => ebit_spec lo h e.lk
  have hB5 := fun lo => ebit_spec lo h e.lv
  have i0 : e.o = ((vals e 0 : Nat) : Int) := by simp only [vals]; omega
  have i1 : e.g = ((vals e 1 : Nat) : Int) := by simp only [vals]; omega
  have i2 : e.p = ((vals e 2 : Nat) : Int) := by simp only [vals]; omega
  have i3 : e.u = ((vals e 3 : Nat) : Int) := by simp only [vals]; omega
  have v0 : vals e 0 < 2 ^ 20 := by simp only [vals]; omega
  have v1 : vals e 1 < 2 ^ 20 := by simp only [vals]; omega
  have v2 : vals e 2 < 2 ^ 4 := by simp only [vals]; omega
  have v3 : vals e 3 < 2 ^ 4 := by simp only [vals]; omega
  have v4 : vals e 4 < 2 ^ 1 := by simp only [vals]; omega
  have v5 : vals e 5 < 2 ^ 1 := by simp only [vals]; omega
  have p0 : ∀ lo h, callR En lo Id.field_Put [N (pw e 0), .agg #[I 0, I 20], N (vals e 0)] h = some (.tuple #[N (pw e 1), I 0], h) := fun lo h => put_spec lo h (a := 0) (b := 20) (by decide) (by decide) (by simp only [pw]; omega) v0
  have p1 : ∀ lo h, callR En lo Id.field_Put [N (pw e 1), .agg #[I 20, I 20], N (vals e 1)] h = some (.tuple #[N (pw e 2), I 0], h) := fun lo h => put_spec lo h (a := 20) (b := 20) (by decide) (by decide) (by simp only [pw]; omega) v1
  have p2 : ∀ lo h, callR En lo Id.field_Put [N (pw e 2), .agg #[I 40, I 4], N (vals e 2)] h = some (.tuple #[N (pw e 3), I 0], h) := fun lo h => put_spec lo h (a := 40) (b := 4) (by decide) (by decide) (by simp only [pw]; omega) v2
  have p3 : ∀ lo h, callR En lo Id.field_Put [N (pw e 3), .agg #[I 44, I 4], N (vals e 3)] h = some (.tuple #[N (pw e 4), I 0], h) := fun lo h => put_spec lo h (a := 44) (b := 4) (by decide) (by decide) (by simp only [pw]; omega) v3
  have p4 : ∀ lo h, callR En lo Id.field_Put [N (pw e 4), .agg #[I 48, I 1], N (vals e 4)] h = some (.tuple #[N (pw e 5), I 0], h) := fun lo h => put_spec lo h (a := 48) (b := 1) (by decide) (by decide) (by simp only [pw]; omega) v4
  have p5 : ∀ lo h, callR En lo Id.field_Put [N (pw e 5), .agg #[I 49, I 1], N (vals e 5)] h = some (.tuple #[N (pw e 6), I 0], h) := fun lo h => put_spec lo h (a := 49) (b := 1) (by decide) (by decide) (by simp only [pw]; omega) v5
  have hres : packN e = pw e 6 := by unfold packN; simp only [pw, vals]; omega
  rw [hres]
  have hcs : e.cs = [N (vals e 0), N (vals e 1), N (vals e 2), N (vals e 3), .bool e.lk, .bool e.lv] := by
   unfold Ent.cs
   rw [i0, i1, i2, i3]
  rw [hcs] at hE ⊢
  refine call_scr rfl Fn.entry_Pack rfl rfl ?_
  repeat' (first | (show ER _ _ _ _ _ _ _; first | refine .seq ?_ | refine .reg ?_ | refine .yes rfl ?_ | refine .no rfl ?_ | refine .skip ?_ | refine .block ?_ | refine .endB ?_ | refine .exit rfl ?_ | refine .br rfl (fun hc => ?_) (fun hc => ?_) | refine .scope ?_ | refine .inScope ?_ | refine .label ?_ | refine .ret rfl ?_ | refine .nil rfl ?_) | (show EG _ _ _ _ _ _ _ _ _; first | refine .mov rfl rfl ?_ | refine .lload rfl rfl rfl rfl ?_ | refine .laddr rfl rfl rfl ?_ | (show EG _ _ (⟨_, .bin _ _ _, _, _⟩ :: _) _ _ _ _ _ _; first | refine .lss rfl rfl rfl (fun hc => ?_) (fun hc => ?_) | refine .leq rfl rfl rfl (fun hc => ?_) (fun hc => ?_) | refine .gtr rfl rfl rfl (fun hc => ?_) (fun hc => ?_) | refine .geq rfl rfl rfl (fun hc => ?_) (fun hc => ?_) | refine .eql rfl rfl rfl (fun hc => ?_) (fun hc => ?_) | refine .neq rfl rfl rfl (fun hc => ?_) (fun hc => ?_)) | (show EG _ _ (⟨_, .call _ _, _, _⟩ :: _) _ _ _ _ _ _; first | refine .call rfl rfl (hE _) ?_ | refine .call rfl rfl (hB4 _) ?_ | refine .call rfl rfl (hB5 _) ?_) | refine .skip rfl ?_ | refine .fin ?_ | refine .go rfl rfl rfl ?_ | refine .gono rfl rfl rfl ?_ | refine .skipn rfl ?_))
  refine .loop (fun m f H => ∃ i : Nat, m + i = 6 ∧ f = [(4, N (pw e i)), (24, .agg #[N (vals e 0), N (vals e 1), N (vals e 2), N (vals e 3), N (vals e 4), N (vals e 5)]), (25, N i)] ∧ H = h) (n := 6) ⟨0, rfl, rfl, rfl⟩ ?_
  rintro m f H ⟨i, hmi, rfl, rfl⟩ next
  by_cases hi : i < 6
  ·match i, hi with
   | 0, _ | 1, _ | 2, _ | 3, _ | 4, _ | 5, _ =>
     repeat' (first | (show ER _ _ _ _ _ _ _; first | refine .seq ?_ | refine .reg ?_ | refine .yes rfl ?_ | refine .no rfl ?_ | refine .skip ?_ | refine .block ?_ | refine .endB ?_ | refine .exit rfl ?_ | refine .br rfl (fun hc => ?_) (fun hc => ?_) | refine .scope ?_ | refine .inScope ?_ | refine .label ?_ | refine .ret rfl ?_ | refine .nil rfl ?_) | (show EG _ _ _ _ _ _ _ _ _; first | refine .mov rfl rfl ?_ | refine .lload rfl rfl rfl rfl ?_ | refine .laddr rfl rfl rfl ?_ | (show EG _ _ (⟨_, .bin _ _ _, _, _⟩ :: _) _ _ _ _ _ _; first | refine .lssT rfl rfl rfl (by omega) ?_ | refine .lssF rfl rfl rfl (by omega) ?_ | refine .leq rfl rfl rfl (fun hc => ?_) (fun hc => ?_) | refine .gtr rfl rfl rfl (fun hc => ?_) (fun hc => ?_) | refine .geq rfl rfl rfl (fun hc => ?_) (fun hc => ?_) | refine .eql rfl rfl rfl (fun hc => ?_) (fun hc => ?_) | refine .neq rfl rfl rfl (fun hc => ?_) (fun hc => ?_) | refine .addN rfl rfl rfl (by omega) ?_ | refine .addN (b := 1) rfl rfl rfl (by omega) ?_ | refine .subN rfl rfl rfl (by omega) ?_ | refine .subN (b := 1) rfl rfl rfl (by omega) ?_) | (show EG _ _ (⟨_, .call _ _, _, _⟩ :: _) _ _ _ _ _ _; first | refine .call rfl rfl (hF _ _) ?_ | refine .call rfl rfl (p0 _ _) ?_ | refine .call rfl rfl (p1 _ _) ?_ | refine .call rfl rfl (p2 _ _) ?_ | refine .call rfl rfl (p3 _ _) ?_ | refine .call rfl rfl (p4 _ _) ?_ | refine .call rfl rfl (p5 _ _) ?_) | refine .skip rfl ?_ | refine .fin ?_ | refine .go rfl rfl rfl ?_ | refine .gono rfl rfl rfl ?_ | refine .skipn rfl ?_))
     exact next (m - 1) _ _ (by omega) ⟨_, by omega, rfl, rfl⟩
  ·have h6 : i = 6 := by omega
   subst h6
   repeat' (first | (show ER _ _ _ _ _ _ _; first | refine .seq ?_ | refine .reg ?_ | refine .yes rfl ?_ | refine .no rfl ?_ | refine .skip ?_ | refine .block ?_ | refine .endB ?_ | refine .exit rfl ?_ | refine .br rfl (fun hc => ?_) (fun hc => ?_) | refine .scope ?_ | refine .inScope ?_ | refine .label ?_ | refine .ret rfl ?_ | refine .nil rfl ?_) | (show EG _ _ _ _ _ _ _ _ _; first | refine .mov rfl rfl ?_ | refine .lload rfl rfl rfl rfl ?_ | refine .laddr rfl rfl rfl ?_ | (show EG _ _ (⟨_, .bin _ _ _, _, _⟩ :: _) _ _ _ _ _ _; first | refine .lssT rfl rfl rfl (by omega) ?_ | refine .lssF rfl rfl rfl (by omega) ?_ | refine .leq rfl rfl rfl (fun hc => ?_) (fun hc => ?_) | refine .gtr rfl rfl rfl (fun hc => ?_) (fun hc => ?_) | refine .geq rfl rfl rfl (fun hc => ?_) (fun hc => ?_) | refine .eql rfl rfl rfl (fun hc => ?_) (fun hc => ?_) | refine .neq rfl rfl rfl (fun hc => ?_) (fun hc => ?_)) | refine .skip rfl ?_ | refine .fin ?_ | refine .go rfl rfl rfl ?_ | refine .gono rfl rfl rfl ?_ | refine .skipn rfl ?_))
   rfl
 ·rw [if_neg hm]
  rw [decide_eq_false hm] at hE
  refine call_scr rfl Fn.entry_Pack rfl rfl ?_
  repeat' (first | (show ER _ _ _ _ _ _ _; first | refine .seq ?_ | refine .reg ?_ | refine .yes rfl ?_ | refine .no rfl ?_ | refine .skip ?_ | refine .block ?_ | refine .endB ?_ | refine .exit rfl ?_ | refine .br rfl (fun hc => ?_) (fun hc => ?_) | refine .scope ?_ | refine .inScope ?_ | refine .label ?_ | refine .ret rfl ?_ | refine .nil rfl ?_) | (show EG _ _ _ _ _ _ _ _ _; first | refine .mov rfl rfl ?_ | refine .lload rfl rfl rfl rfl ?_ | refine .laddr rfl rfl rfl ?_ | (show EG _ _ (⟨_, .bin _ _ _, _, _⟩ :: _) _ _ _ _ _ _; first | refine .lss rfl rfl rfl (fun hc => ?_) (fun hc => ?_) | refine .leq rfl rfl rfl (fun hc => ?_) (fun hc => ?_) | refine .gtr rfl rfl rfl (fun hc => ?_) (fun hc => ?_) | refine .geq rfl rfl rfl (fun hc => ?_) (fun hc => ?_) | refine .eql rfl rfl rfl (fun hc => ?_) (fun hc => ?_) | refine .neq rfl rfl rfl (fun hc => ?_) (fun hc => ?_)) | refine .call rfl rfl (hE _) ?_ | refine .skip rfl ?_ | refine .fin ?_ | refine .go rfl rfl rfl ?_ | refine .gono rfl rfl rfl ?_ | refine .skipn rfl ?_))
  rfl

def chV (w : Int) (f : Ent → Ent) : Value :=
 match unpackE w with
 | none => .tuple #[I 0, I 2]
 | some e => if e.lv then pkV (f e) else .tuple #[I 0, I 1]

theorem lock1_spec {lo : Nat} {H : Heap} {b c : Nat} {on : Bool} {e : Ent} (hb : H[b]? = some (.row [.bool on] false)) (hc : H[c]? = some (.row e.cs false)) (hlo : lo ≤ c) :
  callR En lo Id.entry_Lock_1 [.pointer (some ⟨c, 0, none⟩), .pointer (some ⟨b, 0, none⟩)] H = some (I 0, H.set c (.row ({ e with lk := on } : Ent).cs false)) := by
 have l1 : loadV H none ⟨b, 0, none⟩ = some (.bool on) := ld_row hb rfl
 have hst : stN lo H ⟨c, 0 + 4, none⟩ (vcells (.bool on)) = some (H.set c (.row ({ e with lk := on } : Ent).cs false)) := st_row hc hlo (Nat.le_of_ble_eq_true rfl) rfl
 refine call_of rfl Fn.entry_Lock_1 rfl rfl ?_
 repeat' (first | (show ER _ _ _ _ _ _ _; first | refine .seq ?_ | refine .reg ?_ | refine .yes rfl ?_ | refine .no rfl ?_ | refine .skip ?_ | refine .block ?_ | refine .endB ?_ | refine .exit rfl ?_ | refine .br rfl (fun hc => ?_) (fun hc => ?_) | refine .scope ?_ | refine .inScope ?_ | refine .label ?_ | refine .ret rfl ?_ | refine .nil rfl ?_) | (show EG _ _ _ _ _ _ _ _ _; first | refine .mov rfl rfl ?_ | refine .lload rfl rfl rfl rfl ?_ | refine .laddr rfl rfl rfl ?_ | (show EG _ _ (⟨_, .bin _ _ _, _, _⟩ :: _) _ _ _ _ _ _; first | refine .lss rfl rfl rfl (fun hc => ?_) (fun hc => ?_) | refine .leq rfl rfl rfl (fun hc => ?_) (fun hc => ?_) | refine .gtr rfl rfl rfl (fun hc => ?_) (fun hc => ?_) | refine .geq rfl rfl rfl (fun hc => ?_) (fun hc => ?_) | refine .eql rfl rfl rfl (fun hc => ?_) (fun hc => ?_) | refine .neq rfl rfl rfl (fun hc => ?_) (fun hc => ?_)) | refine .load rfl rfl (l1) ?_ | refine .store rfl rfl rfl rfl rfl hst ?_ | refine .skip rfl ?_ | refine .fin ?_ | refine .go rfl rfl rfl ?_ | refine .gono rfl rfl rfl ?_ | refine .skipn rfl ?_))
 rfl
theorem move1_spec {lo : Nat} {H : Heap} {b c : Nat} {to : Int} {e : Ent} (hb : H[b]? = some (.row [I to] false)) (hc : H[c]? = some (.row e.cs false)) (hlo : lo ≤ c) (hbc : b ≠ c) :
  callR En lo Id.entry_Move_1 [.pointer (some ⟨c, 0, none⟩), .pointer (some ⟨b, 0, none⟩)] H = some (I 0, H.set c (.row ({ e with o := to, lk := false } : Ent).cs false)) := by
 have l1 : loadV H none ⟨b, 0, none⟩ = some (I to) := ld_row hb rfl
 have h1 : stN lo H ⟨c, 0 + 0, none⟩ (vcells (I to)) = some (H.set c (.row ({ e with o := to } : Ent).cs false)) := st_row hc hlo (Nat.le_of_ble_eq_true rfl) rfl
 have h2 : stN lo (H.set c (.row ({ e with o := to } : Ent).cs false)) ⟨c, 0 + 4, none⟩ (vcells (.bool false)) = some (H.set c (.row ({ e with o := to, lk := false } : Ent).cs false)) :=
  (st_row (hs_same (hlt_of hc)) hlo (Nat.le_of_ble_eq_true rfl) rfl).trans (by rw [List.set_set]; rfl)
 refine call_of rfl Fn.entry_Move_1 rfl rfl ?_
 repeat' (first | (show ER _ _ _ _ _ _ _; first | refine .seq ?_ | refine .reg ?_ | refine .yes rfl ?_ | refine .no rfl ?_ | refine .skip ?_ | refine .block ?_ | refine .endB ?_ | refine .exit rfl ?_ | refine .br rfl (fun hc => ?_) (fun hc => ?_) | refine .scope ?_ | refine .inScope ?_ | refine .label ?_ | refine .ret rfl ?_ | refine .nil rfl ?_) | (show EG _ _ _ _ _ _ _ _ _; first | refine .mov rfl rfl ?_ | refine .lload rfl rfl rfl rfl ?_ | refine .laddr rfl rfl rfl ?_ | (show EG _ _ (⟨_, .bin _ _ _, _, _⟩ :: _) _ _ _ _ _ _; first | refine .lss rfl rfl rfl (fun hc => ?_) (fun hc => ?_) | refine .leq rfl rfl rfl (fun hc => ?_) (fun hc => ?_) | refine .gtr rfl rfl rfl (fun hc => ?_) (fun hc => ?_) | refine .geq rfl rfl rfl (fun hc => ?_) (fun hc => ?_) | refine .eql rfl rfl rfl (fun hc => ?_) (fun hc => ?_) | refine .neq rfl rfl rfl (fun hc => ?_) (fun hc => ?_)) | refine .load rfl rfl (l1) ?_ | refine .store rfl rfl rfl rfl rfl h1 ?_ | refine .store rfl rfl rfl rfl rfl h2 ?_ | refine .skip rfl ?_ | refine .fin ?_ | refine .go rfl rfl rfl ?_ | refine .gono rfl rfl rfl ?_ | refine .skipn rfl ?_))
 rfl

theorem changed_spec (lo : Nat) {h : Heap} {w : Int} {f : Ent → Ent} {fn : Nat} {caps : Array Value}
  (hf : ∀ (H : Heap) (e : Ent), Ext h H → H[h.length]? = some (.row e.cs false) → callR En h.length fn (.pointer (some ⟨h.length, 0, none⟩) :: caps.toList) H = some (I 0, H.set h.length (.row (f e).cs false))) :
  callR En lo Id.entry_changed [I w, .func (.func fn) #[] caps] h = some (chV w f, h) := by
 have hU := fun lo => unpack_spec lo h w
 have hP := fun lo h e => pack_spec lo h e
 unfold chV
 refine call_scr rfl Fn.entry_changed rfl rfl ?_
 cases hu : unpackE w with
 | none =>
   rw [hu] at hU
   have hst : stN h.length (h ++ [.row [I 0, I 0, I 0, I 0, .bool false, .bool false] false]) ⟨h.length, 0, none⟩ (vcells (.agg Ent.zero.cs.toArray)) = some (h ++ [.row [I 0, I 0, I 0, I 0, .bool false, .bool false] false]) := by
    have hcat : (h ++ [Blk.row [I 0, I 0, I 0, I 0, .bool false, .bool false] false])[h.length]? = some (.row [I 0, I 0, I 0, I 0, .bool false, .bool false] false) := List.getElem?_concat_length
    refine (st_row (w := [I 0, I 0, I 0, I 0, .bool false, .bool false]) hcat (Nat.le_refl _) (Nat.le_of_ble_eq_true rfl) rfl).trans ?_
    exact congrArg some (by rw [List.set_append_right _ _ (Nat.le_refl _), Nat.sub_self]; rfl)
   repeat' (first | (show ER _ _ _ _ _ _ _; first | refine .seq ?_ | refine .reg ?_ | refine .yes rfl ?_ | refine .no rfl ?_ | refine .skip ?_ | refine .block ?_ | refine .endB ?_ | refine .exit rfl ?_ | refine .br rfl (fun hc => ?_) (fun hc => ?_) | refine .scope ?_ | refine .inScope ?_ | refine .label ?_ | refine .ret rfl ?_ | refine .nil rfl ?_) | (show EG _ _ _ _ _ _ _ _ _; first | refine .mov rfl rfl ?_ | refine .lload rfl rfl rfl rfl ?_ | refine .laddr rfl rfl rfl ?_ | (show EG _ _ (⟨_, .bin _ _ _, _, _⟩ :: _) _ _ _ _ _ _; first | refine .lss rfl rfl rfl (fun hc => ?_) (fun hc => ?_) | refine .leq rfl rfl rfl (fun hc => ?_) (fun hc => ?_) | refine .gtr rfl rfl rfl (fun hc => ?_) (fun hc => ?_) | refine .geq rfl rfl rfl (fun hc => ?_) (fun hc => ?_) | refine .eql rfl rfl rfl (fun hc => ?_) (fun hc => ?_) | refine .neqT rfl rfl rfl (by omega) ?_ | refine .neqF rfl rfl rfl (by omega) ?_) | refine .call rfl rfl (hU _) ?_ | refine .store rfl rfl rfl rfl rfl hst ?_ | refine .skip rfl ?_ | refine .fin ?_ | refine .go rfl rfl rfl ?_ | refine .gono rfl rfl rfl ?_ | refine .skipn rfl ?_))
   rfl
 | some e =>
   rw [hu] at hU
   have hcat : ∀ k : Blk, (h ++ [k])[h.length]? = some k := fun k => List.getElem?_concat_length
   have hset : ∀ k k' : Blk, (h ++ [k]).set h.length k' = h ++ [k'] := fun k k' => by rw [List.set_append_right _ _ (Nat.le_refl _), Nat.sub_self]; rfl
   have hst : stN h.length (h ++ [.row [I 0, I 0, I 0, I 0, .bool false, .bool false] false]) ⟨h.length, 0, none⟩ (vcells (.agg e.cs.toArray)) = some (h ++ [.row e.cs false]) := by
    refine (st_row (w := e.cs) (hcat _) (Nat.le_refl _) (Nat.le_of_ble_eq_true rfl) rfl).trans ?_
    rw [hset]
   have l5 : loadV (h ++ [.row e.cs false]) none ⟨h.length, 0 + 5, none⟩ = some (.bool e.lv) := ld_row (hcat _) rfl
   have hC := hf (h ++ [.row e.cs false]) e ((Ext.refl h).app _) (hcat _)
   rw [hset] at hC
   have l6 : loadV (h ++ [.row (f e).cs false]) (some 6) ⟨h.length, 0, none⟩ = some (.agg (f e).cs.toArray) := ldN_row (hcat _) (Nat.le_of_ble_eq_true rfl) rfl
   cases hv : e.lv with
   | false =>
     rw [hv] at l5
     repeat' (first | (show ER _ _ _ _ _ _ _; first | refine .seq ?_ | refine .reg ?_ | refine .yes rfl ?_ | refine .no rfl ?_ | refine .skip ?_ | refine .block ?_ | refine .endB ?_ | refine .exit rfl ?_ | refine .br rfl (fun hc => ?_) (fun hc => ?_) | refine .scope ?_ | refine .inScope ?_ | refine .label ?_ | refine .ret rfl ?_ | refine .nil rfl ?_) | (show EG _ _ _ _ _ _ _ _ _; first | refine .mov rfl rfl ?_ | refine .lload rfl rfl rfl rfl ?_ | refine .laddr rfl rfl rfl ?_ | (show EG _ _ (⟨_, .bin _ _ _, _, _⟩ :: _) _ _ _ _ _ _; first | refine .lss rfl rfl rfl (fun hc => ?_) (fun hc => ?_) | refine .leq rfl rfl rfl (fun hc => ?_) (fun hc => ?_) | refine .gtr rfl rfl rfl (fun hc => ?_) (fun hc => ?_) | refine .geq rfl rfl rfl (fun hc => ?_) (fun hc => ?_) | refine .eql rfl rfl rfl (fun hc => ?_) (fun hc => ?_) | refine .neqT rfl rfl rfl (by omega) ?_ | refine .neqF rfl rfl rfl (by omega) ?_) | refine .load rfl rfl (l5) ?_ | refine .call rfl rfl (hU _) ?_ | refine .store rfl rfl rfl rfl rfl hst ?_ | refine .skip rfl ?_ | refine .fin ?_ | refine .go rfl rfl rfl ?_ | refine .gono rfl rfl rfl ?_ | refine .skipn rfl ?_))
     simp only [hv]
     rfl
   | true =>
     rw [hv] at l5
     have hPe := fun lo h => hP lo h (f e)
     unfold pkV at hPe
     simp only [hv, if_true]
     unfold pkV
     by_cases hm : (f e).may
     ·rw [if_pos hm] at hPe ⊢
      repeat' (first | (show ER _ _ _ _ _ _ _; first | refine .seq ?_ | refine .reg ?_ | refine .yes rfl ?_ | refine .no rfl ?_ | refine .skip ?_ | refine .block ?_ | refine .endB ?_ | refine .exit rfl ?_ | refine .br rfl (fun hc => ?_) (fun hc => ?_) | refine .scope ?_ | refine .inScope ?_ | refine .label ?_ | refine .ret rfl ?_ | refine .nil rfl ?_) | (show EG _ _ _ _ _ _ _ _ _; first | refine .mov rfl rfl ?_ | refine .lload rfl rfl rfl rfl ?_ | refine .laddr rfl rfl rfl ?_ | (show EG _ _ (⟨_, .bin _ _ _, _, _⟩ :: _) _ _ _ _ _ _; first | refine .lss rfl rfl rfl (fun hc => ?_) (fun hc => ?_) | refine .leq rfl rfl rfl (fun hc => ?_) (fun hc => ?_) | refine .gtr rfl rfl rfl (fun hc => ?_) (fun hc => ?_) | refine .geq rfl rfl rfl (fun hc => ?_) (fun hc => ?_) | refine .eql rfl rfl rfl (fun hc => ?_) (fun hc => ?_) | refine .neqT rfl rfl rfl (by omega) ?_ | refine .neqF rfl rfl rfl (by omega) ?_) | (show EG _ _ (⟨_, .load _ _, _, _⟩ :: _) _ _ _ _ _ _; first | refine .load rfl rfl (l5) ?_ | refine .load rfl rfl (l6) ?_) | (show EG _ _ (⟨_, .call _ _, _, _⟩ :: _) _ _ _ _ _ _; first | refine .call rfl rfl (hU _) ?_ | refine .call rfl rfl (hPe _ _) ?_) | refine .callv rfl rfl rfl rfl (hC) ?_ | refine .store rfl rfl rfl rfl rfl hst ?_ | refine .skip rfl ?_ | refine .fin ?_ | refine .go rfl rfl rfl ?_ | refine .gono rfl rfl rfl ?_ | refine .skipn rfl ?_))
      rfl
     ·rw [if_neg hm] at hPe ⊢
      repeat' (first | (show ER _ _ _ _ _ _ _; first | refine .seq ?_ | refine .reg ?_ | refine .yes rfl ?_ | refine .no rfl ?_ | refine .skip ?_ | refine .block ?_ | refine .endB ?_ | refine .exit rfl ?_ | refine .br rfl (fun hc => ?_) (fun hc => ?_) | refine .scope ?_ | refine .inScope ?_ | refine .label ?_ | refine .ret rfl ?_ | refine .nil rfl ?_) | (show EG _ _ _ _ _ _ _ _ _; first | refine .mov rfl rfl ?_ | refine .lload rfl rfl rfl rfl ?_ | refine .laddr rfl rfl rfl ?_ | (show EG _ _ (⟨_, .bin _ _ _, _, _⟩ :: _) _ _ _ _ _ _; first | refine .lss rfl rfl rfl (fun hc => ?_) (fun hc => ?_) | refine .leq rfl rfl rfl (fun hc => ?_) (fun hc => ?_) | refine .gtr rfl rfl rfl (fun hc => ?_) (fun hc => ?_) | refine .geq rfl rfl rfl (fun hc => ?_) (fun hc => ?_) | refine .eql rfl rfl rfl (fun hc => ?_) (fun hc => ?_) | refine .neqT rfl rfl rfl (by omega) ?_ | refine .neqF rfl rfl rfl (by omega) ?_) | (show EG _ _ (⟨_, .load _ _, _, _⟩ :: _) _ _ _ _ _ _; first | refine .load rfl rfl (l5) ?_ | refine .load rfl rfl (l6) ?_) | (show EG _ _ (⟨_, .call _ _, _, _⟩ :: _) _ _ _ _ _ _; first | refine .call rfl rfl (hU _) ?_ | refine .call rfl rfl (hPe _ _) ?_) | refine .callv rfl rfl rfl rfl (hC) ?_ | refine .store rfl rfl rfl rfl rfl hst ?_ | refine .skip rfl ?_ | refine .fin ?_ | refine .go rfl rfl rfl ?_ | refine .gono rfl rfl rfl ?_ | refine .skipn rfl ?_))
      rfl

theorem tup_ex (w : Int) (f : Ent → Ent) : ∃ a b : Int, chV w f = .tuple #[I a, I b] := by
 unfold chV pkV
 split
 ·exact ⟨_, _, rfl⟩
 ·split
  ·split <;> exact ⟨_, _, rfl⟩
  ·exact ⟨_, _, rfl⟩

theorem lock_spec (lo : Nat) (h : Heap) (w : Int) (on : Bool) : callR En lo Id.entry_Lock [I w, .bool on] h = some (chV w fun e => { e with lk := on }, h) := by
 have hC := fun lo => changed_spec lo (h := h ++ [.row [.bool on] false]) (w := w) (f := fun e => { e with lk := on }) (fn := Id.entry_Lock_1) (caps := #[.pointer (some ⟨h.length, 0, none⟩)]) (fun H e hx hc =>
  lock1_spec (by rw [hx.2 h.length (by simp), List.getElem?_concat_length]) hc (Nat.le_refl _))
 refine call_scr rfl Fn.entry_Lock rfl rfl ?_
 refine Exists.elim (tup_ex w fun e => { e with lk := on }) fun a hq => Exists.elim hq fun b hv => ?_
 rw [hv] at hC ⊢
 repeat' (first | (show ER _ _ _ _ _ _ _; first | refine .seq ?_ | refine .reg ?_ | refine .yes rfl ?_ | refine .no rfl ?_ | refine .skip ?_ | refine .block ?_ | refine .endB ?_ | refine .exit rfl ?_ | refine .br rfl (fun hc => ?_) (fun hc => ?_) | refine .scope ?_ | refine .inScope ?_ | refine .label ?_ | refine .ret rfl ?_ | refine .nil rfl ?_) | (show EG _ _ _ _ _ _ _ _ _; first | refine .mov rfl rfl ?_ | refine .lload rfl rfl rfl rfl ?_ | refine .laddr rfl rfl rfl ?_ | (show EG _ _ (⟨_, .bin _ _ _, _, _⟩ :: _) _ _ _ _ _ _; first | refine .lss rfl rfl rfl (fun hc => ?_) (fun hc => ?_) | refine .leq rfl rfl rfl (fun hc => ?_) (fun hc => ?_) | refine .gtr rfl rfl rfl (fun hc => ?_) (fun hc => ?_) | refine .geq rfl rfl rfl (fun hc => ?_) (fun hc => ?_) | refine .eql rfl rfl rfl (fun hc => ?_) (fun hc => ?_) | refine .neq rfl rfl rfl (fun hc => ?_) (fun hc => ?_)) | refine .call rfl rfl (hC _) ?_ | refine .skip rfl ?_ | refine .fin ?_ | refine .go rfl rfl rfl ?_ | refine .gono rfl rfl rfl ?_ | refine .skipn rfl ?_))
 rfl
theorem move_spec (lo : Nat) (h : Heap) (w to : Int) : callR En lo Id.entry_Move [I w, I to] h = some (chV w fun e => { e with o := to, lk := false }, h) := by
 have hC := fun lo => changed_spec lo (h := h ++ [.row [I to] false]) (w := w) (f := fun e => { e with o := to, lk := false }) (fn := Id.entry_Move_1) (caps := #[.pointer (some ⟨h.length, 0, none⟩)]) (fun H e hx hc =>
  move1_spec (by rw [hx.2 h.length (by simp), List.getElem?_concat_length]) hc (Nat.le_refl _) (by simp))
 refine call_scr rfl Fn.entry_Move rfl rfl ?_
 refine Exists.elim (tup_ex w fun e => { e with o := to, lk := false }) fun a hq => Exists.elim hq fun b hv => ?_
 rw [hv] at hC ⊢
 repeat' (first | (show ER _ _ _ _ _ _ _; first | refine .seq ?_ | refine .reg ?_ | refine .yes rfl ?_ | refine .no rfl ?_ | refine .skip ?_ | refine .block ?_ | refine .endB ?_ | refine .exit rfl ?_ | refine .br rfl (fun hc => ?_) (fun hc => ?_) | refine .scope ?_ | refine .inScope ?_ | refine .label ?_ | refine .ret rfl ?_ | refine .nil rfl ?_) | (show EG _ _ _ _ _ _ _ _ _; first | refine .mov rfl rfl ?_ | refine .lload rfl rfl rfl rfl ?_ | refine .laddr rfl rfl rfl ?_ | (show EG _ _ (⟨_, .bin _ _ _, _, _⟩ :: _) _ _ _ _ _ _; first | refine .lss rfl rfl rfl (fun hc => ?_) (fun hc => ?_) | refine .leq rfl rfl rfl (fun hc => ?_) (fun hc => ?_) | refine .gtr rfl rfl rfl (fun hc => ?_) (fun hc => ?_) | refine .geq rfl rfl rfl (fun hc => ?_) (fun hc => ?_) | refine .eql rfl rfl rfl (fun hc => ?_) (fun hc => ?_) | refine .neq rfl rfl rfl (fun hc => ?_) (fun hc => ?_)) | refine .call rfl rfl (hC _) ?_ | refine .skip rfl ?_ | refine .fin ?_ | refine .go rfl rfl rfl ?_ | refine .gono rfl rfl rfl ?_ | refine .skipn rfl ?_))
 rfl

def roundI (n : Int) : Int := (n + 7) / 8 * 8
def roundV (n : Int) : Value := if 1 ≤ n ∧ n ≤ 256 then .tuple #[I (roundI n), I 0] else .tuple #[I 0, I 9]
theorem round_spec (lo : Nat) (h : Heap) (n : Int) : callR En lo Id.handle_Round [I n] h = some (roundV n, h) := by
 refine call_scr rfl Fn.handle_Round rfl rfl ?_
 unfold roundV
 by_cases hr : 1 ≤ n ∧ n ≤ 256
 ·rw [if_pos hr]
  refine Exists.elim (show ∃ k : Nat, n = k from ⟨n.toNat, by omega⟩) fun k hk => ?_
  subst hk
  have hd : ∀ m : Nat, m % 8 = 0 → k ≤ m → m < k + 8 → roundI (k : Int) = (m : Int) := fun m h1 h2 h3 => by unfold roundI; omega
  rcases (show k % 8 = 0 ∨ k % 8 = 1 ∨ k % 8 = 2 ∨ k % 8 = 3 ∨ k % 8 = 4 ∨ k % 8 = 5 ∨ k % 8 = 6 ∨ k % 8 = 7 by omega) with h8 | h8 | h8 | h8 | h8 | h8 | h8 | h8
  all_goals
   repeat' (first | (show ER _ _ _ _ _ _ _; first | refine .goto rfl rfl ?_ | refine .seq ?_ | refine .reg ?_ | refine .yes rfl ?_ | refine .no rfl ?_ | refine .skip ?_ | refine .block ?_ | refine .endB ?_ | refine .exit rfl ?_ | refine .br rfl (fun hc => ?_) (fun hc => ?_) | refine .scope ?_ | refine .inScope ?_ | refine .label ?_ | refine .ret rfl ?_ | refine .nil rfl ?_) | (show EG _ _ _ _ _ _ _ _ _; first | refine .mov rfl rfl ?_ | refine .lload rfl rfl rfl rfl ?_ | refine .laddr rfl rfl rfl ?_ | (show EG _ _ (⟨_, .bin _ _ _, _, _⟩ :: _) _ _ _ _ _ _; first | refine .lssT rfl rfl rfl (by omega) ?_ | refine .lssF rfl rfl rfl (by omega) ?_ | refine .leq rfl rfl rfl (fun hc => ?_) (fun hc => ?_) | refine .gtrT rfl rfl rfl (by omega) ?_ | refine .gtrF rfl rfl rfl (by omega) ?_ | refine .geq rfl rfl rfl (fun hc => ?_) (fun hc => ?_) | refine .eqlT rfl rfl rfl (by omega) ?_ | refine .eqlF rfl rfl rfl (by omega) ?_ | refine .neq rfl rfl rfl (fun hc => ?_) (fun hc => ?_) | refine .addN rfl rfl rfl (by omega) ?_ | refine .addN (b := 1) rfl rfl rfl (by omega) ?_ | refine .subN rfl rfl rfl (by omega) ?_ | refine .subN (b := 1) rfl rfl rfl (by omega) ?_) | refine .remN (b := 8) rfl rfl rfl (by decide) ?_ | refine .skip rfl ?_ | refine .fin ?_ | refine .go rfl rfl rfl ?_ | refine .gono rfl rfl rfl ?_ | refine .skipn rfl ?_))
   exact congrArg (fun z => some (Value.tuple #[I z, I 0], h)) (hd _ (by omega) (by omega) (by omega)).symm
 ·rw [if_neg hr]
  repeat' (first | (show ER _ _ _ _ _ _ _; first | refine .seq ?_ | refine .reg ?_ | refine .yes rfl ?_ | refine .no rfl ?_ | refine .skip ?_ | refine .block ?_ | refine .endB ?_ | refine .exit rfl ?_ | refine .br rfl (fun hc => ?_) (fun hc => ?_) | refine .scope ?_ | refine .inScope ?_ | refine .label ?_ | refine .ret rfl ?_ | refine .nil rfl ?_) | (show EG _ _ _ _ _ _ _ _ _; first | refine .mov rfl rfl ?_ | refine .lload rfl rfl rfl rfl ?_ | refine .laddr rfl rfl rfl ?_ | (show EG _ _ (⟨_, .bin _ _ _, _, _⟩ :: _) _ _ _ _ _ _; first | refine .lss rfl rfl rfl (fun hc => ?_) (fun hc => ?_) | refine .leq rfl rfl rfl (fun hc => ?_) (fun hc => ?_) | refine .gtr rfl rfl rfl (fun hc => ?_) (fun hc => ?_) | refine .geq rfl rfl rfl (fun hc => ?_) (fun hc => ?_) | refine .eql rfl rfl rfl (fun hc => ?_) (fun hc => ?_) | refine .neq rfl rfl rfl (fun hc => ?_) (fun hc => ?_)) | refine .skip rfl ?_ | refine .fin ?_ | refine .go rfl rfl rfl ?_ | refine .gono rfl rfl rfl ?_ | refine .skipn rfl ?_))
  all_goals first | rfl | (exfalso; omega)
end Go.Proofs.YtfpfknafcgkcjaaGreat

