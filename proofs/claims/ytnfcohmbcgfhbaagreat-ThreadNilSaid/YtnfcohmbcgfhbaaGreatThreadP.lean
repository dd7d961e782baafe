/- The seat's operations. -/
import Derived.Test.YtnfcohmbcgfhbaaGreatThreadFn
import Derived.Test.YtnfcohmbcgfhbaaGreatIrD

set_option linter.unusedVariables false
set_option linter.unusedSimpArgs false
namespace Go.Proofs.YtnfcohmbcgfhbaaGreat
open Go Go.Ir

abbrev cellsT : Nat := 25
theorem live_c (lo : Nat) (h : Heap) : callR En lo Id.sidingslaw19_live [] h = some (.bool true, h) := callR_iff.2 ⟨1, by kernel_rfl⟩
end Go.Proofs.YtnfcohmbcgfhbaaGreat

/- Small functions: whether a config may be, and where words lie. -/
set_option linter.unusedVariables false
set_option linter.unusedSimpArgs false
namespace Go.Proofs.YtnfcohmbcgfhbaaGreat
open Go Go.Ir

abbrev N (n : Nat) : Value := .int .i64 (n : Int)
abbrev I (n : Int) : Value := .int .i64 n
theorem tidyI {h H : Heap} {n m : Int} (e : n = m) : Ir.tidy h (.int .i64 n) H = some (.int .i64 m, h) := by subst e; rfl
theorem tidyB {h H : Heap} {n m : Bool} (e : n = m) : Ir.tidy h (.bool n) H = some (.bool m, h) := by subst e; rfl
theorem wrap_id {n : Int} (h0 : -4611686018427387904 ≤ n) (h1 : n ≤ 4611686018427387904) : IntKind.i64.wrap n = n := by rw [IntKind.wrap_i64]; omega

structure Cfg where
 A : Int
 S : Int
 T : Int
def Cfg.cs (c : Cfg) : List Value := [I c.A, I c.S, I c.T]
def Cfg.may (c : Cfg) : Prop := 8 ≤ c.A ∧ c.A ≤ 4096 ∧ c.A.tmod 8 = 0 ∧ 1 ≤ c.S ∧ c.S ≤ 64 ∧ 1 ≤ c.T ∧ c.T ≤ 4
instance (c : Cfg) : Decidable c.may := by unfold Cfg.may; infer_instance

def inB (n a b : Int) : Bool := decide (a ≤ n) && decide (n ≤ b)
theorem in_spec (lo : Nat) (h : Heap) (n a b : Int) : callR En lo Id.layout_in [I n, I a, I b] h = some (.bool (inB n a b), h) := by
 refine call_scr rfl Fn.layout_in rfl rfl ?_
 repeat' (first | (show ER _ _ _ _ _ _ _; first | refine .seq ?_ | refine .reg ?_ | refine .yes rfl ?_ | refine .no rfl ?_ | refine .skip ?_ | refine .block ?_ | refine .endB ?_ | refine .exit rfl ?_ | refine .br rfl (fun hc => ?_) (fun hc => ?_) | refine .scope ?_ | refine .inScope ?_ | refine .label ?_ | refine .ret rfl ?_ | refine .nil rfl ?_) | (show EG _ _ _ _ _ _ _ _ _; first | refine .mov rfl rfl ?_ | refine .lload rfl rfl rfl rfl ?_ | refine .laddr rfl rfl rfl ?_ | (show EG _ _ (⟨_, .bin _ _ _, _, _⟩ :: _) _ _ _ _ _ _; first | refine .lss rfl rfl rfl (fun hc => ?_) (fun hc => ?_) | refine .leq rfl rfl rfl (fun hc => ?_) (fun hc => ?_) | refine .gtr rfl rfl rfl (fun hc => ?_) (fun hc => ?_) | refine .geq rfl rfl rfl (fun hc => ?_) (fun hc => ?_) | refine .eql rfl rfl rfl (fun hc => ?_) (fun hc => ?_) | refine .neq rfl rfl rfl (fun hc => ?_) (fun hc => ?_)) | refine .skip rfl ?_ | refine .fin ?_ | refine .go rfl rfl rfl ?_ | refine .gono rfl rfl rfl ?_ | refine .skipn rfl ?_))
 all_goals (refine tidyB ?_; simp [inB, *])

def layV (c : Cfg) : List Value := if c.may then [I c.T, I c.S] else [I 0, I 0]
theorem of_spec (lo : Nat) (h : Heap) (c : Cfg) : callR En lo Id.layout_Of [.agg c.cs.toArray] h = some (.tuple #[.agg (layV c).toArray, I (if c.may then 0 else 1)], h) := by
 have hin := fun lo (n a b : Int) => in_spec lo h n a b
 by_cases hm : c.may
 ·have hm' := hm
  unfold Cfg.may at hm'
  refine call_scr rfl Fn.layout_Of rfl rfl ?_
  have i1 := fun lo => hin lo c.A 8 4096
  have i2 := fun lo => hin lo c.S 1 64
  have i3 := fun lo => hin lo c.T 1 4
  rw [show inB c.A 8 4096 = true by simp [inB]; omega] at i1
  rw [show inB c.S 1 64 = true by simp [inB]; omega] at i2
  rw [show inB c.T 1 4 = true by simp [inB]; omega] at i3
  unfold layV
  rw [if_pos hm, if_pos hm]
  repeat' (first | (show ER _ _ _ _ _ _ _; first | refine .seq ?_ | refine .reg ?_ | refine .yes rfl ?_ | refine .no rfl ?_ | refine .skip ?_ | refine .block ?_ | refine .endB ?_ | refine .exit rfl ?_ | refine .br rfl (fun hc => ?_) (fun hc => ?_) | refine .scope ?_ | refine .inScope ?_ | refine .label ?_ | refine .ret rfl ?_ | refine .nil rfl ?_) | (show EG _ _ _ _ _ _ _ _ _; first | refine .mov rfl rfl ?_ | refine .lload rfl rfl rfl rfl ?_ | refine .laddr rfl rfl rfl ?_ | (show EG _ _ (⟨_, .bin _ _ _, _, _⟩ :: _) _ _ _ _ _ _; first | refine .lss rfl rfl rfl (fun hc => ?_) (fun hc => ?_) | refine .leq rfl rfl rfl (fun hc => ?_) (fun hc => ?_) | refine .gtr rfl rfl rfl (fun hc => ?_) (fun hc => ?_) | refine .geq rfl rfl rfl (fun hc => ?_) (fun hc => ?_) | refine .eql rfl rfl rfl (fun hc => ?_) (fun hc => ?_) | refine .neqT rfl rfl rfl (by omega) ?_ | refine .neqF rfl rfl rfl (by omega) ?_) | (show EG _ _ (⟨_, .call _ _, _, _⟩ :: _) _ _ _ _ _ _; first | refine .call rfl rfl (i1 _) ?_ | refine .call rfl rfl (i2 _) ?_ | refine .call rfl rfl (i3 _) ?_) | refine .skip rfl ?_ | refine .fin ?_ | refine .go rfl rfl rfl ?_ | refine .gono rfl rfl rfl ?_ | refine .skipn rfl ?_))
  rfl
 ·unfold layV
  rw [if_neg hm, if_neg hm]
  refine call_scr rfl Fn.layout_Of rfl rfl ?_
  repeat' (first | (show ER _ _ _ _ _ _ _; first | refine .seq ?_ | refine .reg ?_ | refine .yes rfl ?_ | refine .no rfl ?_ | refine .skip ?_ | refine .block ?_ | refine .endB ?_ | refine .exit rfl ?_ | refine .br rfl (fun hc => ?_) (fun hc => ?_) | refine .scope ?_ | refine .inScope ?_ | refine .label ?_ | refine .ret rfl ?_ | refine .nil rfl ?_) | (show EG _ _ _ _ _ _ _ _ _; first | refine .mov rfl rfl ?_ | refine .lload rfl rfl rfl rfl ?_ | refine .laddr rfl rfl rfl ?_ | (show EG _ _ (⟨_, .bin _ _ _, _, _⟩ :: _) _ _ _ _ _ _; first | refine .lss rfl rfl rfl (fun hc => ?_) (fun hc => ?_) | refine .leq rfl rfl rfl (fun hc => ?_) (fun hc => ?_) | refine .gtr rfl rfl rfl (fun hc => ?_) (fun hc => ?_) | refine .geq rfl rfl rfl (fun hc => ?_) (fun hc => ?_) | refine .eql rfl rfl rfl (fun hc => ?_) (fun hc => ?_) | refine .neq rfl rfl rfl (fun hc => ?_) (fun hc => ?_)) | refine .callb rfl rfl (hin _ _ _ _) (fun hc => ?_) (fun hc => ?_) | refine .skip rfl ?_ | refine .fin ?_ | refine .go rfl rfl rfl ?_ | refine .gono rfl rfl rfl ?_ | refine .skipn rfl ?_))
  all_goals first | rfl | (exfalso; apply hm; unfold Cfg.may; simp [inB] at *; omega)

theorem may_spec (lo : Nat) (h : Heap) (c : Cfg) : callR En lo Id.sidingsref06_May [.agg c.cs.toArray] h = some (.bool (decide c.may), h) := by
 refine call_scr rfl Fn.sidingsref06_May rfl rfl ?_
 repeat' (first | (show ER _ _ _ _ _ _ _; first | refine .seq ?_ | refine .reg ?_ | refine .yes rfl ?_ | refine .no rfl ?_ | refine .skip ?_ | refine .block ?_ | refine .endB ?_ | refine .exit rfl ?_ | refine .br rfl (fun hc => ?_) (fun hc => ?_) | refine .scope ?_ | refine .inScope ?_ | refine .label ?_ | refine .ret rfl ?_ | refine .nil rfl ?_) | (show EG _ _ _ _ _ _ _ _ _; first | refine .mov rfl rfl ?_ | refine .lload rfl rfl rfl rfl ?_ | refine .laddr rfl rfl rfl ?_ | (show EG _ _ (⟨_, .bin _ _ _, _, _⟩ :: _) _ _ _ _ _ _; first | refine .lss rfl rfl rfl (fun hc => ?_) (fun hc => ?_) | refine .leq rfl rfl rfl (fun hc => ?_) (fun hc => ?_) | refine .gtr rfl rfl rfl (fun hc => ?_) (fun hc => ?_) | refine .geq rfl rfl rfl (fun hc => ?_) (fun hc => ?_) | refine .eql rfl rfl rfl (fun hc => ?_) (fun hc => ?_) | refine .neq rfl rfl rfl (fun hc => ?_) (fun hc => ?_)) | refine .skip rfl ?_ | refine .fin ?_ | refine .go rfl rfl rfl ?_ | refine .gono rfl rfl rfl ?_ | refine .skipn rfl ?_))
 all_goals
  refine tidyB ?_
  first
  | (rw [decide_eq_true (show c.may by unfold Cfg.may; omega)])
  | (rw [decide_eq_false (show ¬ c.may by unfold Cfg.may; omega)])

def wordsI (c : Cfg) : Int := 4 + c.T + 3 * c.S
theorem words_spec (lo : Nat) (h : Heap) (c : Cfg) : callR En lo Id.sidingsref06_Words [.agg c.cs.toArray] h = some (I (if c.may then wordsI c else 0), h) := by
 have hM := fun lo => may_spec lo h c
 refine call_scr rfl Fn.sidingsref06_Words rfl rfl ?_
 by_cases hm : c.may
 ·rw [decide_eq_true hm] at hM
  rw [if_pos hm]
  unfold Cfg.may at hm
  repeat' (first | (show ER _ _ _ _ _ _ _; first | refine .seq ?_ | refine .reg ?_ | refine .yes rfl ?_ | refine .no rfl ?_ | refine .skip ?_ | refine .block ?_ | refine .endB ?_ | refine .exit rfl ?_ | refine .br rfl (fun hc => ?_) (fun hc => ?_) | refine .scope ?_ | refine .inScope ?_ | refine .label ?_ | refine .ret rfl ?_ | refine .nil rfl ?_) | (show EG _ _ _ _ _ _ _ _ _; first | refine .mov rfl rfl ?_ | refine .lload rfl rfl rfl rfl ?_ | refine .laddr rfl rfl rfl ?_ | (show EG _ _ (⟨_, .bin _ _ _, _, _⟩ :: _) _ _ _ _ _ _; first | refine .lss rfl rfl rfl (fun hc => ?_) (fun hc => ?_) | refine .leq rfl rfl rfl (fun hc => ?_) (fun hc => ?_) | refine .gtr rfl rfl rfl (fun hc => ?_) (fun hc => ?_) | refine .geq rfl rfl rfl (fun hc => ?_) (fun hc => ?_) | refine .eql rfl rfl rfl (fun hc => ?_) (fun hc => ?_) | refine .neq rfl rfl rfl (fun hc => ?_) (fun hc => ?_)) | refine .call rfl rfl (hM _) ?_ | refine .skip rfl ?_ | refine .fin ?_ | refine .go rfl rfl rfl ?_ | refine .gono rfl rfl rfl ?_ | refine .skipn rfl ?_))
  refine tidyI ?_
  unfold wordsI
  rw [wrap_id (n := 4 + c.T) (by omega) (by omega), wrap_id (n := 3 * c.S) (by omega) (by omega), wrap_id (by omega) (by omega)]
 ·rw [decide_eq_false hm] at hM
  rw [if_neg hm]
  repeat' (first | (show ER _ _ _ _ _ _ _; first | refine .seq ?_ | refine .reg ?_ | refine .yes rfl ?_ | refine .no rfl ?_ | refine .skip ?_ | refine .block ?_ | refine .endB ?_ | refine .exit rfl ?_ | refine .br rfl (fun hc => ?_) (fun hc => ?_) | refine .scope ?_ | refine .inScope ?_ | refine .label ?_ | refine .ret rfl ?_ | refine .nil rfl ?_) | (show EG _ _ _ _ _ _ _ _ _; first | refine .mov rfl rfl ?_ | refine .lload rfl rfl rfl rfl ?_ | refine .laddr rfl rfl rfl ?_ | (show EG _ _ (⟨_, .bin _ _ _, _, _⟩ :: _) _ _ _ _ _ _; first | refine .lss rfl rfl rfl (fun hc => ?_) (fun hc => ?_) | refine .leq rfl rfl rfl (fun hc => ?_) (fun hc => ?_) | refine .gtr rfl rfl rfl (fun hc => ?_) (fun hc => ?_) | refine .geq rfl rfl rfl (fun hc => ?_) (fun hc => ?_) | refine .eql rfl rfl rfl (fun hc => ?_) (fun hc => ?_) | refine .neq rfl rfl rfl (fun hc => ?_) (fun hc => ?_)) | refine .call rfl rfl (hM _) ?_ | refine .skip rfl ?_ | refine .fin ?_ | refine .go rfl rfl rfl ?_ | refine .gono rfl rfl rfl ?_ | refine .skipn rfl ?_))
  rfl

theorem cmay_spec (lo : Nat) (h : Heap) (a b : Int) : callR En lo Id.cells_may [I a, I b] h = some (.bool (inB a 1 4096 && inB b 0 4096), h) := by
 refine call_scr rfl Fn.cells_may rfl rfl ?_
 repeat' (first | (show ER _ _ _ _ _ _ _; first | refine .seq ?_ | refine .reg ?_ | refine .yes rfl ?_ | refine .no rfl ?_ | refine .skip ?_ | refine .block ?_ | refine .endB ?_ | refine .exit rfl ?_ | refine .br rfl (fun hc => ?_) (fun hc => ?_) | refine .scope ?_ | refine .inScope ?_ | refine .label ?_ | refine .ret rfl ?_ | refine .nil rfl ?_) | (show EG _ _ _ _ _ _ _ _ _; first | refine .mov rfl rfl ?_ | refine .lload rfl rfl rfl rfl ?_ | refine .laddr rfl rfl rfl ?_ | (show EG _ _ (⟨_, .bin _ _ _, _, _⟩ :: _) _ _ _ _ _ _; first | refine .lss rfl rfl rfl (fun hc => ?_) (fun hc => ?_) | refine .leq rfl rfl rfl (fun hc => ?_) (fun hc => ?_) | refine .gtr rfl rfl rfl (fun hc => ?_) (fun hc => ?_) | refine .geq rfl rfl rfl (fun hc => ?_) (fun hc => ?_) | refine .eql rfl rfl rfl (fun hc => ?_) (fun hc => ?_) | refine .neq rfl rfl rfl (fun hc => ?_) (fun hc => ?_)) | refine .skip rfl ?_ | refine .fin ?_ | refine .go rfl rfl rfl ?_ | refine .gono rfl rfl rfl ?_ | refine .skipn rfl ?_))
 all_goals (refine tidyB ?_; simp [inB, *])
end Go.Proofs.YtnfcohmbcgfhbaaGreat

/- Cells: what they are in the heap, and what each call does. -/
set_option linter.unusedVariables false
set_option linter.unusedSimpArgs false
namespace Go.Proofs.YtnfcohmbcgfhbaaGreat
open Go Go.Ir

structure CB where
 P : Nat
 W : Nat
 Y : Nat
def u8s (l : List Int) : List Value := l.map (.int .u8 ·)
def prow (c : CB) (nw nb : Nat) (st : Int) : List Value := [.slice (some ⟨c.W, 0, none⟩) nw nw, .slice (some ⟨c.Y, 0, none⟩) nb nb, I st]
structure IsC (H : Heap) (c : CB) (ws bs : List Int) : Prop where
 p : ∃ st, H[c.P]? = some (.row (prow c ws.length bs.length st) false)
 w : H[c.W]? = some (.row (ints ws) false)
 y : H[c.Y]? = some (.row (u8s bs) false)
 pw : c.P ≠ c.W
 py : c.P ≠ c.Y
 wy : c.W ≠ c.Y
 byte : ∀ b ∈ bs, 0 ≤ b ∧ b < 256

structure Only (S : List Nat) (H H' : Heap) : Prop where
 len : H'.length = H.length
 same : ∀ j, j ∉ S → H'[j]? = H[j]?
theorem Only.refl (S : List Nat) (H : Heap) : Only S H H := ⟨rfl, fun _ _ => rfl⟩
theorem Only.trans {S : List Nat} {H H' H'' : Heap} (a : Only S H H') (b : Only S H' H'') : Only S H H'' := ⟨b.len.trans a.len, fun j hj => (b.same j hj).trans (a.same j hj)⟩
theorem Only.set {S : List Nat} {H H' : Heap} (a : Only S H H') {i : Nat} {k : Blk} (hi : i ∈ S) : Only S H (H'.set i k) := ⟨by rw [List.length_set]; exact a.len, fun j hj => by rw [List.getElem?_set_ne (fun e => hj (by rw [← e]; exact hi))]; exact a.same j hj⟩
theorem Only.mono {S S' : List Nat} {H H' : Heap} (a : Only S H H') (h : ∀ i ∈ S, i ∈ S') : Only S' H H' := ⟨a.len, fun j hj => a.same j fun hs => hj (h j hs)⟩

def setI (ws : List Int) (i n : Int) : List Int := if 0 ≤ i ∧ i < ws.length then ws.set i.toNat n else ws
section
variable {lo : Nat} {H : Heap} {c : CB} {ws bs : List Int}

abbrev ptrC (c : CB) : Value := .pointer (some ⟨c.P, 0, none⟩)

theorem word_spec (hC : IsC H c ws bs) (hlo : lo ≤ c.P) (i : Int) : ∃ H', callR En lo Id.cells_Plain_word [ptrC c, I i] H = some (.bool (decide (0 ≤ i ∧ i < ws.length)), H') ∧ IsC H' c ws bs ∧ Only [c.P] H H' := by
 refine Exists.elim hC.p fun st hp => ?_
 have hpl := hlt_of hp
 have hst : stN lo H ⟨c.P, 0 + 2, none⟩ (vcells (I (IntKind.i64.wrap (st + 1)))) = some (H.set c.P (.row (prow c ws.length bs.length (IntKind.i64.wrap (st + 1))) false)) := st_row hp hlo (Nat.le_of_ble_eq_true rfl) rfl
 refine ⟨H.set c.P (.row (prow c ws.length bs.length (IntKind.i64.wrap (st + 1))) false), ?_, ⟨⟨_, hs_same hpl⟩, hs_ne hC.pw hC.w, hs_ne hC.py hC.y, hC.pw, hC.py, hC.wy, hC.byte⟩, (Only.refl _ _).set (by simp)⟩
 refine call_of rfl Fn.cells_Plain_word rfl rfl ?_
 have l2 : loadV H none ⟨c.P, 0 + 2, none⟩ = some (I st) := ld_row hp rfl
 have l0 : loadV (H.set c.P (.row (prow c ws.length bs.length (IntKind.i64.wrap (st + 1))) false)) none ⟨c.P, 0 + 0, none⟩ = some (.slice (some ⟨c.W, 0, none⟩) ws.length ws.length) := ld_row (hs_same hpl) rfl
 by_cases h0 : 0 ≤ i
 ·by_cases h1 : i < (ws.length : Int)
  ·rw [decide_eq_true (show 0 ≤ i ∧ i < (ws.length : Int) from ⟨h0, h1⟩)]
   repeat' (first | (show ER _ _ _ _ _ _ _; first | refine .seq ?_ | refine .reg ?_ | refine .yes rfl ?_ | refine .no rfl ?_ | refine .skip ?_ | refine .block ?_ | refine .endB ?_ | refine .exit rfl ?_ | refine .br rfl (fun hc => ?_) (fun hc => ?_) | refine .scope ?_ | refine .inScope ?_ | refine .label ?_ | refine .ret rfl ?_ | refine .nil rfl ?_) | (show EG _ _ _ _ _ _ _ _ _; first | refine .mov rfl rfl ?_ | refine .lload rfl rfl rfl rfl ?_ | refine .laddr rfl rfl rfl ?_ | (show EG _ _ (⟨_, .bin _ _ _, _, _⟩ :: _) _ _ _ _ _ _; first | refine .lssT rfl rfl rfl (by omega) ?_ | refine .lssF rfl rfl rfl (by omega) ?_ | refine .leq rfl rfl rfl (fun hc => ?_) (fun hc => ?_) | refine .gtr rfl rfl rfl (fun hc => ?_) (fun hc => ?_) | refine .geqT rfl rfl rfl (by omega) ?_ | refine .geqF rfl rfl rfl (by omega) ?_ | refine .eql rfl rfl rfl (fun hc => ?_) (fun hc => ?_) | refine .neq rfl rfl rfl (fun hc => ?_) (fun hc => ?_)) | (show EG _ _ (⟨_, .load _ _, _, _⟩ :: _) _ _ _ _ _ _; first | refine .load rfl rfl (l2) ?_ | refine .load rfl rfl (l0) ?_) | refine .store rfl rfl rfl rfl rfl hst ?_ | refine .skip rfl ?_ | refine .fin ?_ | refine .go rfl rfl rfl ?_ | refine .gono rfl rfl rfl ?_ | refine .skipn rfl ?_))
   rfl
  ·rw [decide_eq_false (show ¬ (0 ≤ i ∧ i < (ws.length : Int)) from fun h => h1 h.2)]
   repeat' (first | (show ER _ _ _ _ _ _ _; first | refine .seq ?_ | refine .reg ?_ | refine .yes rfl ?_ | refine .no rfl ?_ | refine .skip ?_ | refine .block ?_ | refine .endB ?_ | refine .exit rfl ?_ | refine .br rfl (fun hc => ?_) (fun hc => ?_) | refine .scope ?_ | refine .inScope ?_ | refine .label ?_ | refine .ret rfl ?_ | refine .nil rfl ?_) | (show EG _ _ _ _ _ _ _ _ _; first | refine .mov rfl rfl ?_ | refine .lload rfl rfl rfl rfl ?_ | refine .laddr rfl rfl rfl ?_ | (show EG _ _ (⟨_, .bin _ _ _, _, _⟩ :: _) _ _ _ _ _ _; first | refine .lssT rfl rfl rfl (by omega) ?_ | refine .lssF rfl rfl rfl (by omega) ?_ | refine .leq rfl rfl rfl (fun hc => ?_) (fun hc => ?_) | refine .gtr rfl rfl rfl (fun hc => ?_) (fun hc => ?_) | refine .geqT rfl rfl rfl (by omega) ?_ | refine .geqF rfl rfl rfl (by omega) ?_ | refine .eql rfl rfl rfl (fun hc => ?_) (fun hc => ?_) | refine .neq rfl rfl rfl (fun hc => ?_) (fun hc => ?_)) | (show EG _ _ (⟨_, .load _ _, _, _⟩ :: _) _ _ _ _ _ _; first | refine .load rfl rfl (l2) ?_ | refine .load rfl rfl (l0) ?_) | refine .store rfl rfl rfl rfl rfl hst ?_ | refine .skip rfl ?_ | refine .fin ?_ | refine .go rfl rfl rfl ?_ | refine .gono rfl rfl rfl ?_ | refine .skipn rfl ?_))
   rfl
 ·rw [decide_eq_false (show ¬ (0 ≤ i ∧ i < (ws.length : Int)) from fun h => h0 h.1)]
  repeat' (first | (show ER _ _ _ _ _ _ _; first | refine .seq ?_ | refine .reg ?_ | refine .yes rfl ?_ | refine .no rfl ?_ | refine .skip ?_ | refine .block ?_ | refine .endB ?_ | refine .exit rfl ?_ | refine .br rfl (fun hc => ?_) (fun hc => ?_) | refine .scope ?_ | refine .inScope ?_ | refine .label ?_ | refine .ret rfl ?_ | refine .nil rfl ?_) | (show EG _ _ _ _ _ _ _ _ _; first | refine .mov rfl rfl ?_ | refine .lload rfl rfl rfl rfl ?_ | refine .laddr rfl rfl rfl ?_ | (show EG _ _ (⟨_, .bin _ _ _, _, _⟩ :: _) _ _ _ _ _ _; first | refine .lssT rfl rfl rfl (by omega) ?_ | refine .lssF rfl rfl rfl (by omega) ?_ | refine .leq rfl rfl rfl (fun hc => ?_) (fun hc => ?_) | refine .gtr rfl rfl rfl (fun hc => ?_) (fun hc => ?_) | refine .geqT rfl rfl rfl (by omega) ?_ | refine .geqF rfl rfl rfl (by omega) ?_ | refine .eql rfl rfl rfl (fun hc => ?_) (fun hc => ?_) | refine .neq rfl rfl rfl (fun hc => ?_) (fun hc => ?_)) | (show EG _ _ (⟨_, .load _ _, _, _⟩ :: _) _ _ _ _ _ _; first | refine .load rfl rfl (l2) ?_ | refine .load rfl rfl (l0) ?_) | refine .store rfl rfl rfl rfl rfl hst ?_ | refine .skip rfl ?_ | refine .fin ?_ | refine .go rfl rfl rfl ?_ | refine .gono rfl rfl rfl ?_ | refine .skipn rfl ?_))
  rfl

theorem IsC.p0 (hC : IsC H c ws bs) : loadV H none ⟨c.P, 0 + 0, none⟩ = some (.slice (some ⟨c.W, 0, none⟩) ws.length ws.length) := by
 obtain ⟨st, hp⟩ := hC.p
 exact ld_row hp rfl
theorem IsC.p1 (hC : IsC H c ws bs) : loadV H none ⟨c.P, 0 + 1, none⟩ = some (.slice (some ⟨c.Y, 0, none⟩) bs.length bs.length) := by
 obtain ⟨st, hp⟩ := hC.p
 exact ld_row hp rfl

theorem splice_one {f : Int → Value} {l : List Int} {k : Nat} {n : Int} (hk : k < l.length) : splice (l.map f) k [f n] = (l.set k n).map f := by
 unfold splice
 simp only [List.length_singleton]
 rw [List.map_set, List.set_eq_take_append_cons_drop]
 simp [hk]

theorem IsC.set_w (hC : IsC H c ws bs) {k : Nat} (hk : k < ws.length) (n : Int) (hlo : lo ≤ c.W) :
  stN lo H ⟨c.W, 0 + k * 1, none⟩ (vcells (I n)) = some (H.set c.W (.row (ints (ws.set k n)) false)) ∧ IsC (H.set c.W (.row (ints (ws.set k n)) false)) c (ws.set k n) bs ∧ Only [c.W] H (H.set c.W (.row (ints (ws.set k n)) false)) := by
 refine ⟨?_, ⟨?_, hs_same (hlt_of hC.w), hs_ne hC.wy hC.y, hC.pw, hC.py, hC.wy, hC.byte⟩, (Only.refl _ _).set (by simp)⟩
 ·rw [Nat.zero_add, Nat.mul_one]
  exact st_row hC.w hlo (by show k + 1 ≤ _; simp [ints]; omega) (splice_one hk)
 ·obtain ⟨st, hp⟩ := hC.p
  exact ⟨st, by rw [List.length_set]; exact hs_ne hC.pw.symm hp⟩
theorem store_spec (hC : IsC H c ws bs) (hlo : lo ≤ c.P) (hlw : lo ≤ c.W) (i n : Int) : ∃ H', callR En lo Id.cells_Plain_Store [ptrC c, I i, I n] H = some (noneV, H') ∧ IsC H' c (setI ws i n) bs ∧ Only [c.P, c.W] H H' := by
 refine Exists.elim (word_spec hC hlo i) fun H1 hq => ?_
 have hw := hq.1
 have hC1 := hq.2.1
 have ho := hq.2.2.mono (S' := [c.P, c.W]) (by simp)
 clear hq
 have l0 := hC1.p0
 by_cases hi : 0 ≤ i ∧ i < (ws.length : Int)
 ·rw [decide_eq_true hi] at hw
  refine Exists.elim (show ∃ k : Nat, i = k from ⟨i.toNat, by omega⟩) fun k hk => ?_
  subst hk
  have hkl : k < ws.length := by omega
  have hs := hC1.set_w hkl n hlw
  unfold setI
  rw [if_pos hi, Int.toNat_natCast]
  refine ⟨_, ?_, hs.2.1, ho.trans (hs.2.2.mono (by simp))⟩
  refine call_of rfl Fn.cells_Plain_Store rfl rfl ?_
  repeat' (first | (show ER _ _ _ _ _ _ _; first | refine .seq ?_ | refine .reg ?_ | refine .yes rfl ?_ | refine .no rfl ?_ | refine .skip ?_ | refine .block ?_ | refine .endB ?_ | refine .exit rfl ?_ | refine .br rfl (fun hc => ?_) (fun hc => ?_) | refine .scope ?_ | refine .inScope ?_ | refine .label ?_ | refine .ret rfl ?_ | refine .nil rfl ?_) | (show EG _ _ _ _ _ _ _ _ _; first | refine .mov rfl rfl ?_ | refine .lload rfl rfl rfl rfl ?_ | refine .laddr rfl rfl rfl ?_ | (show EG _ _ (⟨_, .bin _ _ _, _, _⟩ :: _) _ _ _ _ _ _; first | refine .lss rfl rfl rfl (fun hc => ?_) (fun hc => ?_) | refine .leq rfl rfl rfl (fun hc => ?_) (fun hc => ?_) | refine .gtr rfl rfl rfl (fun hc => ?_) (fun hc => ?_) | refine .geq rfl rfl rfl (fun hc => ?_) (fun hc => ?_) | refine .eql rfl rfl rfl (fun hc => ?_) (fun hc => ?_) | refine .neq rfl rfl rfl (fun hc => ?_) (fun hc => ?_)) | refine .load rfl rfl (l0) ?_ | refine .call rfl rfl (hw) ?_ | refine .iaddr rfl rfl rfl (hkl) ?_ | refine .store rfl rfl rfl rfl rfl hs.1 ?_ | refine .skip rfl ?_ | refine .fin ?_ | refine .go rfl rfl rfl ?_ | refine .gono rfl rfl rfl ?_ | refine .skipn rfl ?_))
  rfl
 ·rw [decide_eq_false hi] at hw
  unfold setI
  rw [if_neg hi]
  refine ⟨H1, ?_, hC1, ho⟩
  refine call_of rfl Fn.cells_Plain_Store rfl rfl ?_
  repeat' (first | (show ER _ _ _ _ _ _ _; first | refine .seq ?_ | refine .reg ?_ | refine .yes rfl ?_ | refine .no rfl ?_ | refine .skip ?_ | refine .block ?_ | refine .endB ?_ | refine .exit rfl ?_ | refine .br rfl (fun hc => ?_) (fun hc => ?_) | refine .scope ?_ | refine .inScope ?_ | refine .label ?_ | refine .ret rfl ?_ | refine .nil rfl ?_) | (show EG _ _ _ _ _ _ _ _ _; first | refine .mov rfl rfl ?_ | refine .lload rfl rfl rfl rfl ?_ | refine .laddr rfl rfl rfl ?_ | (show EG _ _ (⟨_, .bin _ _ _, _, _⟩ :: _) _ _ _ _ _ _; first | refine .lss rfl rfl rfl (fun hc => ?_) (fun hc => ?_) | refine .leq rfl rfl rfl (fun hc => ?_) (fun hc => ?_) | refine .gtr rfl rfl rfl (fun hc => ?_) (fun hc => ?_) | refine .geq rfl rfl rfl (fun hc => ?_) (fun hc => ?_) | refine .eql rfl rfl rfl (fun hc => ?_) (fun hc => ?_) | refine .neq rfl rfl rfl (fun hc => ?_) (fun hc => ?_)) | refine .call rfl rfl (hw) ?_ | refine .skip rfl ?_ | refine .fin ?_ | refine .go rfl rfl rfl ?_ | refine .gono rfl rfl rfl ?_ | refine .skipn rfl ?_))
  rfl

theorem cwords_spec (hC : IsC H c ws bs) : callR En lo Id.cells_Plain_Words [ptrC c] H = some (N ws.length, H) := by
 refine call_of rfl Fn.cells_Plain_Words rfl rfl ?_
 have l0 := hC.p0
 repeat' (first | (show ER _ _ _ _ _ _ _; first | refine .seq ?_ | refine .reg ?_ | refine .yes rfl ?_ | refine .no rfl ?_ | refine .skip ?_ | refine .block ?_ | refine .endB ?_ | refine .exit rfl ?_ | refine .br rfl (fun hc => ?_) (fun hc => ?_) | refine .scope ?_ | refine .inScope ?_ | refine .label ?_ | refine .ret rfl ?_ | refine .nil rfl ?_) | (show EG _ _ _ _ _ _ _ _ _; first | refine .mov rfl rfl ?_ | refine .lload rfl rfl rfl rfl ?_ | refine .laddr rfl rfl rfl ?_ | (show EG _ _ (⟨_, .bin _ _ _, _, _⟩ :: _) _ _ _ _ _ _; first | refine .lss rfl rfl rfl (fun hc => ?_) (fun hc => ?_) | refine .leq rfl rfl rfl (fun hc => ?_) (fun hc => ?_) | refine .gtr rfl rfl rfl (fun hc => ?_) (fun hc => ?_) | refine .geq rfl rfl rfl (fun hc => ?_) (fun hc => ?_) | refine .eql rfl rfl rfl (fun hc => ?_) (fun hc => ?_) | refine .neq rfl rfl rfl (fun hc => ?_) (fun hc => ?_)) | refine .load rfl rfl (l0) ?_ | refine .skip rfl ?_ | refine .fin ?_ | refine .go rfl rfl rfl ?_ | refine .gono rfl rfl rfl ?_ | refine .skipn rfl ?_))
 rfl
theorem cbytes_spec (hC : IsC H c ws bs) : callR En lo Id.cells_Plain_Bytes [ptrC c] H = some (N bs.length, H) := by
 refine call_of rfl Fn.cells_Plain_Bytes rfl rfl ?_
 have l1 := hC.p1
 repeat' (first | (show ER _ _ _ _ _ _ _; first | refine .seq ?_ | refine .reg ?_ | refine .yes rfl ?_ | refine .no rfl ?_ | refine .skip ?_ | refine .block ?_ | refine .endB ?_ | refine .exit rfl ?_ | refine .br rfl (fun hc => ?_) (fun hc => ?_) | refine .scope ?_ | refine .inScope ?_ | refine .label ?_ | refine .ret rfl ?_ | refine .nil rfl ?_) | (show EG _ _ _ _ _ _ _ _ _; first | refine .mov rfl rfl ?_ | refine .lload rfl rfl rfl rfl ?_ | refine .laddr rfl rfl rfl ?_ | (show EG _ _ (⟨_, .bin _ _ _, _, _⟩ :: _) _ _ _ _ _ _; first | refine .lss rfl rfl rfl (fun hc => ?_) (fun hc => ?_) | refine .leq rfl rfl rfl (fun hc => ?_) (fun hc => ?_) | refine .gtr rfl rfl rfl (fun hc => ?_) (fun hc => ?_) | refine .geq rfl rfl rfl (fun hc => ?_) (fun hc => ?_) | refine .eql rfl rfl rfl (fun hc => ?_) (fun hc => ?_) | refine .neq rfl rfl rfl (fun hc => ?_) (fun hc => ?_)) | refine .load rfl rfl (l1) ?_ | refine .skip rfl ?_ | refine .fin ?_ | refine .go rfl rfl rfl ?_ | refine .gono rfl rfl rfl ?_ | refine .skipn rfl ?_))
 rfl
end

def newH (h : Heap) (nw nb : Nat) : Heap := h ++ [.row (ints (List.replicate nw 0)) false] ++ [.row (u8s (List.replicate nb 0)) false] ++ [.row (prow ⟨h.length + 2, h.length, h.length + 1⟩ nw nb 0) false]
def newC (h : Heap) : CB := ⟨h.length + 2, h.length, h.length + 1⟩

theorem rep_ints (k : IntKind) : ∀ n, repeatL [Value.int k 0] n = (List.replicate n (0 : Int)).map (.int k)
 | 0 => rfl
 | n + 1 => by rw [List.replicate_succ, List.map_cons, ← rep_ints k n]; rfl

theorem newH_is (h : Heap) (nw nb : Nat) : IsC (newH h nw nb) (newC h) (List.replicate nw 0) (List.replicate nb 0) ∧ Ext h (newH h nw nb) := by
 refine ⟨⟨⟨0, ?_⟩, ?_, ?_, ?_, ?_, ?_, ?_⟩, ?_⟩
 ·unfold newH newC
  simp only [List.length_replicate]
  rw [List.getElem?_append_right (by simp)]
  simp
 ·unfold newH newC
  rw [List.getElem?_append_left (by simp), List.getElem?_append_left (by simp), List.getElem?_append_right (by simp)]
  simp
 ·unfold newH newC
  rw [List.getElem?_append_left (by simp), List.getElem?_append_right (by simp)]
  simp
 ·simp [newC]
 ·simp [newC]
 ·simp [newC]
 ·intro b hb
  rw [List.eq_of_mem_replicate hb]; omega
 ·exact (((Ext.refl h).app _).app _).app _

theorem new_spec (lo : Nat) (h : Heap) {nw nb : Nat} (h1 : 1 ≤ nw) (h2 : nw ≤ 4096) (h3 : nb ≤ 4096) : callR En lo Id.cells_New [N nw, N nb] h = some (ptrC (newC h), newH h nw nb) := by
 refine call_of rfl Fn.cells_New rfl rfl ?_
 have hm := fun lo => cmay_spec lo h nw nb
 rw [show (inB (nw : Int) 1 4096 && inB (nb : Int) 0 4096) = true by simp [inB]; omega] at hm
 repeat' (first | (show ER _ _ _ _ _ _ _; first | refine .seq ?_ | refine .reg ?_ | refine .yes rfl ?_ | refine .no rfl ?_ | refine .skip ?_ | refine .block ?_ | refine .endB ?_ | refine .exit rfl ?_ | refine .br rfl (fun hc => ?_) (fun hc => ?_) | refine .scope ?_ | refine .inScope ?_ | refine .label ?_ | refine .ret rfl ?_ | refine .nil rfl ?_) | (show EG _ _ _ _ _ _ _ _ _; first | refine .mov rfl rfl ?_ | refine .lload rfl rfl rfl rfl ?_ | refine .laddr rfl rfl rfl ?_ | (show EG _ _ (⟨_, .bin _ _ _, _, _⟩ :: _) _ _ _ _ _ _; first | refine .lss rfl rfl rfl (fun hc => ?_) (fun hc => ?_) | refine .leq rfl rfl rfl (fun hc => ?_) (fun hc => ?_) | refine .gtr rfl rfl rfl (fun hc => ?_) (fun hc => ?_) | refine .geq rfl rfl rfl (fun hc => ?_) (fun hc => ?_) | refine .eql rfl rfl rfl (fun hc => ?_) (fun hc => ?_) | refine .neq rfl rfl rfl (fun hc => ?_) (fun hc => ?_)) | refine .call rfl rfl (hm _) ?_ | refine .mks rfl rfl rfl ⟨Nat.le_refl _, by omega, by decide⟩ ?_ | refine .skip rfl ?_ | refine .fin ?_ | refine .go rfl rfl rfl ?_ | refine .gono rfl rfl rfl ?_ | refine .skipn rfl ?_))
 unfold newH newC
 rw [rep_ints, rep_ints]
 simp only [List.length_append, List.length_singleton]
 rfl
end Go.Proofs.YtnfcohmbcgfhbaaGreat

/- Where words lie; cells as they are at first. -/
set_option linter.unusedVariables false
set_option linter.unusedSimpArgs false
namespace Go.Proofs.YtnfcohmbcgfhbaaGreat
open Go Go.Ir

abbrev ifC (c : CB) : Value := .iface cellsT (ptrC c)
def lay (T S : Int) : Value := .agg #[I T, I S]

theorem layV_pos {c : Cfg} (h : c.may) : (Value.agg (layV c).toArray) = lay c.T c.S := by unfold layV lay; rw [if_pos h]
theorem of_spec' (lo : Nat) (h : Heap) {c : Cfg} (hm : c.may) : callR En lo Id.layout_Of [.agg c.cs.toArray] h = some (.tuple #[lay c.T c.S, I 0], h) := by rw [of_spec, if_pos hm, layV_pos hm]

theorem lwords_spec (lo : Nat) (h : Heap) {c : Cfg} (hm : c.may) : callR En lo Id.layout_Layout_Words [lay c.T c.S] h = some (I (wordsI c), h) := by
 refine call_scr rfl Fn.layout_Layout_Words rfl rfl ?_
 unfold Cfg.may at hm
 repeat' (first | (show ER _ _ _ _ _ _ _; first | refine .seq ?_ | refine .reg ?_ | refine .yes rfl ?_ | refine .no rfl ?_ | refine .skip ?_ | refine .block ?_ | refine .endB ?_ | refine .exit rfl ?_ | refine .br rfl (fun hc => ?_) (fun hc => ?_) | refine .scope ?_ | refine .inScope ?_ | refine .label ?_ | refine .ret rfl ?_ | refine .nil rfl ?_) | (show EG _ _ _ _ _ _ _ _ _; first | refine .mov rfl rfl ?_ | refine .lload rfl rfl rfl rfl ?_ | refine .laddr rfl rfl rfl ?_ | (show EG _ _ (⟨_, .bin _ _ _, _, _⟩ :: _) _ _ _ _ _ _; first | refine .lss rfl rfl rfl (fun hc => ?_) (fun hc => ?_) | refine .leq rfl rfl rfl (fun hc => ?_) (fun hc => ?_) | refine .gtr rfl rfl rfl (fun hc => ?_) (fun hc => ?_) | refine .geq rfl rfl rfl (fun hc => ?_) (fun hc => ?_) | refine .eql rfl rfl rfl (fun hc => ?_) (fun hc => ?_) | refine .neq rfl rfl rfl (fun hc => ?_) (fun hc => ?_)) | refine .eqc rfl rfl rfl rfl (fun hc => ?_) (fun hc => ?_) | refine .skip rfl ?_ | refine .fin ?_ | refine .go rfl rfl rfl ?_ | refine .gono rfl rfl rfl ?_ | refine .skipn rfl ?_))
 ·simp at hc; omega
 ·refine tidyI ?_
  unfold wordsI
  rw [wrap_id (n := 4 + c.T) (by omega) (by omega), wrap_id (n := 3 * c.S) (by omega) (by omega), wrap_id (by omega) (by omega)]

theorem once_spec (lo : Nat) (h : Heap) {c : Cfg} (hm : c.may) (n : Int) : callR En lo Id.layout_Layout_once [lay c.T c.S, I n] h = some (I n, h) := by
 refine call_scr rfl Fn.layout_Layout_once rfl rfl ?_
 unfold Cfg.may at hm
 repeat' (first | (show ER _ _ _ _ _ _ _; first | refine .seq ?_ | refine .reg ?_ | refine .yes rfl ?_ | refine .no rfl ?_ | refine .skip ?_ | refine .block ?_ | refine .endB ?_ | refine .exit rfl ?_ | refine .br rfl (fun hc => ?_) (fun hc => ?_) | refine .scope ?_ | refine .inScope ?_ | refine .label ?_ | refine .ret rfl ?_ | refine .nil rfl ?_) | (show EG _ _ _ _ _ _ _ _ _; first | refine .mov rfl rfl ?_ | refine .lload rfl rfl rfl rfl ?_ | refine .laddr rfl rfl rfl ?_ | (show EG _ _ (⟨_, .bin _ _ _, _, _⟩ :: _) _ _ _ _ _ _; first | refine .lss rfl rfl rfl (fun hc => ?_) (fun hc => ?_) | refine .leq rfl rfl rfl (fun hc => ?_) (fun hc => ?_) | refine .gtr rfl rfl rfl (fun hc => ?_) (fun hc => ?_) | refine .geq rfl rfl rfl (fun hc => ?_) (fun hc => ?_) | refine .eql rfl rfl rfl (fun hc => ?_) (fun hc => ?_) | refine .neq rfl rfl rfl (fun hc => ?_) (fun hc => ?_)) | refine .eqc rfl rfl rfl rfl (fun hc => ?_) (fun hc => ?_) | refine .skip rfl ?_ | refine .fin ?_ | refine .go rfl rfl rfl ?_ | refine .gono rfl rfl rfl ?_ | refine .skipn rfl ?_))
 ·simp at hc; omega
 ·rfl

theorem stack_spec (lo : Nat) (h : Heap) {c : Cfg} (hm : c.may) : callR En lo Id.layout_Layout_Stack [lay c.T c.S] h = some (I 1, h) := by
 refine call_scr rfl Fn.layout_Layout_Stack rfl rfl ?_
 repeat' (first | (show ER _ _ _ _ _ _ _; first | refine .seq ?_ | refine .reg ?_ | refine .yes rfl ?_ | refine .no rfl ?_ | refine .skip ?_ | refine .block ?_ | refine .endB ?_ | refine .exit rfl ?_ | refine .br rfl (fun hc => ?_) (fun hc => ?_) | refine .scope ?_ | refine .inScope ?_ | refine .label ?_ | refine .ret rfl ?_ | refine .nil rfl ?_) | (show EG _ _ _ _ _ _ _ _ _; first | refine .mov rfl rfl ?_ | refine .lload rfl rfl rfl rfl ?_ | refine .laddr rfl rfl rfl ?_ | (show EG _ _ (⟨_, .bin _ _ _, _, _⟩ :: _) _ _ _ _ _ _; first | refine .lss rfl rfl rfl (fun hc => ?_) (fun hc => ?_) | refine .leq rfl rfl rfl (fun hc => ?_) (fun hc => ?_) | refine .gtr rfl rfl rfl (fun hc => ?_) (fun hc => ?_) | refine .geq rfl rfl rfl (fun hc => ?_) (fun hc => ?_) | refine .eql rfl rfl rfl (fun hc => ?_) (fun hc => ?_) | refine .neq rfl rfl rfl (fun hc => ?_) (fun hc => ?_)) | refine .call rfl rfl (once_spec _ _ hm _) ?_ | refine .skip rfl ?_ | refine .fin ?_ | refine .go rfl rfl rfl ?_ | refine .gono rfl rfl rfl ?_ | refine .skipn rfl ?_))
 rfl

def slotI (c : Cfg) (s k : Int) : Int := if 0 ≤ s ∧ s < c.S then 4 + c.T + 3 * s + k else -1
theorem lof_spec (lo : Nat) (h : Heap) {c : Cfg} (hm : c.may) (s k : Int) (hk : 0 ≤ k ∧ k ≤ 2) : callR En lo Id.layout_Layout_of [lay c.T c.S, I s, I k] h = some (I (slotI c s k), h) := by
 have hin := fun lo => in_spec lo h s 0 (c.S - 1)
 unfold Cfg.may at hm
 have hw : IntKind.i64.wrap (c.S - 1) = c.S - 1 := wrap_id (by omega) (by omega)
 unfold slotI
 by_cases hs : 0 ≤ s ∧ s < c.S
 ·rw [show inB s 0 (c.S - 1) = true by simp [inB]; omega, ← hw] at hin
  rw [if_pos hs]
  refine call_scr rfl Fn.layout_Layout_of rfl rfl ?_
  repeat' (first | (show ER _ _ _ _ _ _ _; first | refine .seq ?_ | refine .reg ?_ | refine .yes rfl ?_ | refine .no rfl ?_ | refine .skip ?_ | refine .block ?_ | refine .endB ?_ | refine .exit rfl ?_ | refine .br rfl (fun hc => ?_) (fun hc => ?_) | refine .scope ?_ | refine .inScope ?_ | refine .label ?_ | refine .ret rfl ?_ | refine .nil rfl ?_) | (show EG _ _ _ _ _ _ _ _ _; first | refine .mov rfl rfl ?_ | refine .lload rfl rfl rfl rfl ?_ | refine .laddr rfl rfl rfl ?_ | (show EG _ _ (⟨_, .bin _ _ _, _, _⟩ :: _) _ _ _ _ _ _; first | refine .lss rfl rfl rfl (fun hc => ?_) (fun hc => ?_) | refine .leq rfl rfl rfl (fun hc => ?_) (fun hc => ?_) | refine .gtr rfl rfl rfl (fun hc => ?_) (fun hc => ?_) | refine .geq rfl rfl rfl (fun hc => ?_) (fun hc => ?_) | refine .eql rfl rfl rfl (fun hc => ?_) (fun hc => ?_) | refine .neq rfl rfl rfl (fun hc => ?_) (fun hc => ?_)) | refine .call rfl rfl (hin _) ?_ | refine .skip rfl ?_ | refine .fin ?_ | refine .go rfl rfl rfl ?_ | refine .gono rfl rfl rfl ?_ | refine .skipn rfl ?_))
  refine tidyI ?_
  rw [wrap_id (n := 4 + c.T) (by omega) (by omega), wrap_id (n := 3 * s) (by omega) (by omega), wrap_id (n := 4 + c.T + 3 * s) (by omega) (by omega), wrap_id (by omega) (by omega)]
 ·rw [show inB s 0 (c.S - 1) = false by simp [inB]; omega, ← hw] at hin
  rw [if_neg hs]
  refine call_scr rfl Fn.layout_Layout_of rfl rfl ?_
  repeat' (first | (show ER _ _ _ _ _ _ _; first | refine .seq ?_ | refine .reg ?_ | refine .yes rfl ?_ | refine .no rfl ?_ | refine .skip ?_ | refine .block ?_ | refine .endB ?_ | refine .exit rfl ?_ | refine .br rfl (fun hc => ?_) (fun hc => ?_) | refine .scope ?_ | refine .inScope ?_ | refine .label ?_ | refine .ret rfl ?_ | refine .nil rfl ?_) | (show EG _ _ _ _ _ _ _ _ _; first | refine .mov rfl rfl ?_ | refine .lload rfl rfl rfl rfl ?_ | refine .laddr rfl rfl rfl ?_ | (show EG _ _ (⟨_, .bin _ _ _, _, _⟩ :: _) _ _ _ _ _ _; first | refine .lss rfl rfl rfl (fun hc => ?_) (fun hc => ?_) | refine .leq rfl rfl rfl (fun hc => ?_) (fun hc => ?_) | refine .gtr rfl rfl rfl (fun hc => ?_) (fun hc => ?_) | refine .geq rfl rfl rfl (fun hc => ?_) (fun hc => ?_) | refine .eql rfl rfl rfl (fun hc => ?_) (fun hc => ?_) | refine .neq rfl rfl rfl (fun hc => ?_) (fun hc => ?_)) | refine .call rfl rfl (hin _) ?_ | refine .skip rfl ?_ | refine .fin ?_ | refine .go rfl rfl rfl ?_ | refine .gono rfl rfl rfl ?_ | refine .skipn rfl ?_))
  rfl
theorem link_spec (lo : Nat) (h : Heap) {c : Cfg} (hm : c.may) (s : Int) : callR En lo Id.layout_Layout_Link [lay c.T c.S, I s] h = some (I (slotI c s 2), h) := by
 refine call_scr rfl Fn.layout_Layout_Link rfl rfl ?_
 repeat' (first | (show ER _ _ _ _ _ _ _; first | refine .seq ?_ | refine .reg ?_ | refine .yes rfl ?_ | refine .no rfl ?_ | refine .skip ?_ | refine .block ?_ | refine .endB ?_ | refine .exit rfl ?_ | refine .br rfl (fun hc => ?_) (fun hc => ?_) | refine .scope ?_ | refine .inScope ?_ | refine .label ?_ | refine .ret rfl ?_ | refine .nil rfl ?_) | (show EG _ _ _ _ _ _ _ _ _; first | refine .mov rfl rfl ?_ | refine .lload rfl rfl rfl rfl ?_ | refine .laddr rfl rfl rfl ?_ | (show EG _ _ (⟨_, .bin _ _ _, _, _⟩ :: _) _ _ _ _ _ _; first | refine .lss rfl rfl rfl (fun hc => ?_) (fun hc => ?_) | refine .leq rfl rfl rfl (fun hc => ?_) (fun hc => ?_) | refine .gtr rfl rfl rfl (fun hc => ?_) (fun hc => ?_) | refine .geq rfl rfl rfl (fun hc => ?_) (fun hc => ?_) | refine .eql rfl rfl rfl (fun hc => ?_) (fun hc => ?_) | refine .neq rfl rfl rfl (fun hc => ?_) (fun hc => ?_)) | refine .call rfl rfl (lof_spec _ _ hm _ _ (by omega)) ?_ | refine .skip rfl ?_ | refine .fin ?_ | refine .go rfl rfl rfl ?_ | refine .gono rfl rfl rfl ?_ | refine .skipn rfl ?_))
 rfl
def noteI (c : Cfg) (t : Int) : Int := if 0 ≤ t ∧ t < c.T then 4 + t else -1
theorem note_spec (lo : Nat) (h : Heap) {c : Cfg} (hm : c.may) (t : Int) : callR En lo Id.layout_Layout_Note [lay c.T c.S, I t] h = some (I (noteI c t), h) := by
 have hin := fun lo => in_spec lo h t 0 (c.T - 1)
 unfold Cfg.may at hm
 have hw : IntKind.i64.wrap (c.T - 1) = c.T - 1 := wrap_id (by omega) (by omega)
 unfold noteI
 by_cases hs : 0 ≤ t ∧ t < c.T
 ·rw [show inB t 0 (c.T - 1) = true by simp [inB]; omega, ← hw] at hin
  rw [if_pos hs]
  refine call_scr rfl Fn.layout_Layout_Note rfl rfl ?_
  repeat' (first | (show ER _ _ _ _ _ _ _; first | refine .seq ?_ | refine .reg ?_ | refine .yes rfl ?_ | refine .no rfl ?_ | refine .skip ?_ | refine .block ?_ | refine .endB ?_ | refine .exit rfl ?_ | refine .br rfl (fun hc => ?_) (fun hc => ?_) | refine .scope ?_ | refine .inScope ?_ | refine .label ?_ | refine .ret rfl ?_ | refine .nil rfl ?_) | (show EG _ _ _ _ _ _ _ _ _; first | refine .mov rfl rfl ?_ | refine .lload rfl rfl rfl rfl ?_ | refine .laddr rfl rfl rfl ?_ | (show EG _ _ (⟨_, .bin _ _ _, _, _⟩ :: _) _ _ _ _ _ _; first | refine .lss rfl rfl rfl (fun hc => ?_) (fun hc => ?_) | refine .leq rfl rfl rfl (fun hc => ?_) (fun hc => ?_) | refine .gtr rfl rfl rfl (fun hc => ?_) (fun hc => ?_) | refine .geq rfl rfl rfl (fun hc => ?_) (fun hc => ?_) | refine .eql rfl rfl rfl (fun hc => ?_) (fun hc => ?_) | refine .neq rfl rfl rfl (fun hc => ?_) (fun hc => ?_)) | refine .call rfl rfl (hin _) ?_ | refine .skip rfl ?_ | refine .fin ?_ | refine .go rfl rfl rfl ?_ | refine .gono rfl rfl rfl ?_ | refine .skipn rfl ?_))
  refine tidyI ?_
  rw [wrap_id (by omega) (by omega)]
 ·rw [show inB t 0 (c.T - 1) = false by simp [inB]; omega, ← hw] at hin
  rw [if_neg hs]
  refine call_scr rfl Fn.layout_Layout_Note rfl rfl ?_
  repeat' (first | (show ER _ _ _ _ _ _ _; first | refine .seq ?_ | refine .reg ?_ | refine .yes rfl ?_ | refine .no rfl ?_ | refine .skip ?_ | refine .block ?_ | refine .endB ?_ | refine .exit rfl ?_ | refine .br rfl (fun hc => ?_) (fun hc => ?_) | refine .scope ?_ | refine .inScope ?_ | refine .label ?_ | refine .ret rfl ?_ | refine .nil rfl ?_) | (show EG _ _ _ _ _ _ _ _ _; first | refine .mov rfl rfl ?_ | refine .lload rfl rfl rfl rfl ?_ | refine .laddr rfl rfl rfl ?_ | (show EG _ _ (⟨_, .bin _ _ _, _, _⟩ :: _) _ _ _ _ _ _; first | refine .lss rfl rfl rfl (fun hc => ?_) (fun hc => ?_) | refine .leq rfl rfl rfl (fun hc => ?_) (fun hc => ?_) | refine .gtr rfl rfl rfl (fun hc => ?_) (fun hc => ?_) | refine .geq rfl rfl rfl (fun hc => ?_) (fun hc => ?_) | refine .eql rfl rfl rfl (fun hc => ?_) (fun hc => ?_) | refine .neq rfl rfl rfl (fun hc => ?_) (fun hc => ?_)) | refine .call rfl rfl (hin _) ?_ | refine .skip rfl ?_ | refine .fin ?_ | refine .go rfl rfl rfl ?_ | refine .gono rfl rfl rfl ?_ | refine .skipn rfl ?_))
  rfl

theorem headPack1 (lo : Nat) (h : Heap) : callR En lo Id.head_Pack [I 1, I 0] h = some (.tuple #[I 1, I 0], h) := callR_iff.2 ⟨200, by kernel_rfl⟩

def partW (c : Cfg) (m : Int) (k : Nat) : Int := if 4 + c.T ≤ k ∧ ((k : Int) - 4 - c.T) % 3 = 2 ∧ m ≤ ((k : Int) - 4 - c.T) / 3 ∧ ((k : Int) - 4 - c.T) / 3 + 1 < c.S then ((k : Int) - 4 - c.T) / 3 + 2 else 0
def partL (c : Cfg) (m : Int) : List Int := (List.range (wordsI c).toNat).map (partW c m)
def startL (c : Cfg) : List Int := (partL c 0).set 1 1

theorem partL_len (c : Cfg) (m : Int) : (partL c m).length = (wordsI c).toNat := by simp [partL]
theorem partL_get (c : Cfg) (m : Int) {k : Nat} (h : k < (wordsI c).toNat) : (partL c m)[k]? = some (partW c m k) := by simp [partL, h]

theorem partL_top {c : Cfg} (hm : c.may) : partL c c.S = List.replicate (wordsI c).toNat 0 := by
 refine List.ext_getElem? fun k => ?_
 by_cases hk : k < (wordsI c).toNat
 ·rw [partL_get c _ hk, List.getElem?_replicate, if_pos hk]
  unfold partW
  rw [if_neg (by omega)]
 ·rw [List.getElem?_eq_none (by rw [partL_len]; omega), List.getElem?_eq_none (by simp; omega)]

theorem partL_step {c : Cfg} (hm : c.may) {m : Int} (h0 : 0 ≤ m) (h1 : m < c.S) : setI (partL c (m + 1)) (slotI c m 2) (if m + 1 < c.S then m + 2 else 0) = partL c m := by
 unfold Cfg.may at hm
 have hs : slotI c m 2 = 4 + c.T + 3 * m + 2 := by unfold slotI; rw [if_pos ⟨h0, h1⟩]
 rw [hs]
 unfold setI
 rw [if_pos ⟨by omega, by rw [partL_len]; unfold wordsI; omega⟩]
 refine List.ext_getElem? fun k => ?_
 rw [List.getElem?_set]
 by_cases hk : k < (wordsI c).toNat
 ·rw [partL_get c _ hk, partL_get c _ hk]
  by_cases he : (4 + c.T + 3 * m + 2).toNat = k
  ·rw [if_pos he, if_pos (by rw [partL_len]; omega)]
   congr 1
   unfold partW
   have e1 : ((k : Int) - 4 - c.T) = 3 * m + 2 := by omega
   rw [e1]
   split <;> split <;> omega
  ·rw [if_neg he]
   congr 1
   unfold partW
   split <;> split <;> omega
 ·rw [List.getElem?_eq_none (by rw [partL_len]; omega), List.getElem?_eq_none (by rw [partL_len]; omega)]
  split
  ·rw [if_neg (by rw [partL_len]; omega)]
  ·rfl

set_option maxHeartbeats 1600000 in
theorem start_spec {lo : Nat} {H : Heap} {b : CB} {c : Cfg} {ws bs : List Int} (hm : c.may) (hC : IsC H b ws bs) (hlo : lo ≤ b.P ∧ lo ≤ b.W) (hw : ws.length = (wordsI c).toNat) (hb : (bs.length : Int) = c.A) :
  ∃ H', callR En lo Id.layout_Start [ifC b, .agg c.cs.toArray] H = some (I 0, H') ∧ IsC H' b (startL c) bs ∧ Only [b.P, b.W] H H' := by
 have key : ∃ v H', callR En lo Id.layout_Start [ifC b, .agg c.cs.toArray] H = some (v, H') ∧ v = I 0 ∧ IsC H' b (startL c) bs ∧ Only [b.P, b.W] H H' := by
  refine call_ex rfl Fn.layout_Start rfl rfl ?_
  have hm' := hm
  unfold Cfg.may at hm'
  have hwI : (ws.length : Int) = wordsI c := by rw [hw]; unfold wordsI; omega
  have hwb : ws.length ≤ 200 := by rw [hw]; unfold wordsI; omega
  have hO := fun lo => of_spec' lo H hm
  have hLW := fun lo => lwords_spec lo H hm
  have hCW := fun lo => cwords_spec (lo := lo) hC
  have hCB := fun lo => cbytes_spec (lo := lo) hC
  repeat' (first | (show ER _ _ _ _ _ _ _; first | refine .seq ?_ | refine .reg ?_ | refine .yes rfl ?_ | refine .no rfl ?_ | refine .skip ?_ | refine .block ?_ | refine .endB ?_ | refine .exit rfl ?_ | refine .br rfl (fun hc => ?_) (fun hc => ?_) | refine .scope ?_ | refine .inScope ?_ | refine .label ?_ | refine .ret rfl ?_ | refine .nil rfl ?_) | (show EG _ _ _ _ _ _ _ _ _; first | refine .mov rfl rfl ?_ | refine .lload rfl rfl rfl rfl ?_ | refine .laddr rfl rfl rfl ?_ | (show EG _ _ (⟨_, .bin _ _ _, _, _⟩ :: _) _ _ _ _ _ _; first | refine .lssT rfl rfl rfl (by omega) ?_ | refine .lssF rfl rfl rfl (by omega) ?_ | refine .leq rfl rfl rfl (fun hc => ?_) (fun hc => ?_) | refine .gtr rfl rfl rfl (fun hc => ?_) (fun hc => ?_) | refine .geq rfl rfl rfl (fun hc => ?_) (fun hc => ?_) | refine .eql rfl rfl rfl (fun hc => ?_) (fun hc => ?_) | refine .neqT rfl rfl rfl (by omega) ?_ | refine .neqF rfl rfl rfl (by omega) ?_) | (show EG _ _ (⟨_, .call _ _, _, _⟩ :: _) _ _ _ _ _ _; first | refine .call rfl rfl (hO _) ?_ | refine .call rfl rfl (hLW _) ?_) | (show EG _ _ (⟨_, .invoke _ _ _, _, _⟩ :: _) _ _ _ _ _ _; first | refine .inv rfl rfl rfl rfl (hCW _) ?_ | refine .inv rfl rfl rfl rfl (hCB _) ?_) | refine .skip rfl ?_ | refine .fin ?_ | refine .go rfl rfl rfl ?_ | refine .gono rfl rfl rfl ?_ | refine .skipn rfl ?_))
  refine .loop (fun n f H1 => ∃ (i : Nat) (w1 : List Int), n + i = ws.length ∧ f = [(0, ifC b), (5, lay c.T c.S), (38, I (wordsI c)), (39, N i)] ∧ IsC H1 b w1 bs ∧ w1 = List.replicate i 0 ++ ws.drop i ∧ Only [b.P, b.W] H H1) (n := ws.length)
   ⟨0, ws, rfl, rfl, hC, by simp, .refl _ _⟩ ?_
  rintro n f H1 ⟨i, w1, hn, rfl, hC1, he, ho⟩ next
  by_cases hi : i < ws.length
  ·refine Exists.elim (store_spec hC1 hlo.1 hlo.2 (i : Nat) 0) fun H2 hq => ?_
   have hS := hq.1
   have hC2 := hq.2.1
   have ho2 := ho.trans hq.2.2
   clear hq
   have e2 : setI w1 (i : Nat) 0 = List.replicate (i + 1) 0 ++ ws.drop (i + 1) := by
    have hl : w1.length = ws.length := by rw [he]; simp; omega
    unfold setI
    rw [if_pos ⟨by omega, by omega⟩, he, Int.toNat_natCast, List.set_append, if_neg (by simp), List.length_replicate, Nat.sub_self, List.drop_eq_getElem_cons hi, List.set_cons_zero, List.replicate_succ', List.append_assoc]
    rfl
   repeat' (first | (show ER _ _ _ _ _ _ _; first | refine .seq ?_ | refine .reg ?_ | refine .yes rfl ?_ | refine .no rfl ?_ | refine .skip ?_ | refine .block ?_ | refine .endB ?_ | refine .exit rfl ?_ | refine .br rfl (fun hc => ?_) (fun hc => ?_) | refine .scope ?_ | refine .inScope ?_ | refine .label ?_ | refine .ret rfl ?_ | refine .nil rfl ?_) | (show EG _ _ _ _ _ _ _ _ _; first | refine .mov rfl rfl ?_ | refine .lload rfl rfl rfl rfl ?_ | refine .laddr rfl rfl rfl ?_ | (show EG _ _ (⟨_, .bin _ _ _, _, _⟩ :: _) _ _ _ _ _ _; first | refine .lssT rfl rfl rfl (by omega) ?_ | refine .lssF rfl rfl rfl (by omega) ?_ | refine .leq rfl rfl rfl (fun hc => ?_) (fun hc => ?_) | refine .gtr rfl rfl rfl (fun hc => ?_) (fun hc => ?_) | refine .geq rfl rfl rfl (fun hc => ?_) (fun hc => ?_) | refine .eql rfl rfl rfl (fun hc => ?_) (fun hc => ?_) | refine .neq rfl rfl rfl (fun hc => ?_) (fun hc => ?_) | refine .addN rfl rfl rfl (by omega) ?_ | refine .addN (b := 1) rfl rfl rfl (by omega) ?_ | refine .subN rfl rfl rfl (by omega) ?_ | refine .subN (b := 1) rfl rfl rfl (by omega) ?_) | refine .inv rfl rfl rfl rfl (hS) ?_ | refine .skip rfl ?_ | refine .fin ?_ | refine .go rfl rfl rfl ?_ | refine .gono rfl rfl rfl ?_ | refine .skipn rfl ?_))
   exact next (n - 1) _ _ (by omega) ⟨i + 1, _, by omega, rfl, hC2, e2, ho2⟩
  ·have hw1 : w1 = partL c c.S := by
    rw [he, List.drop_of_length_le (by omega), List.append_nil, partL_top hm, show i = (wordsI c).toNat by omega]
   clear next he
   subst hw1
   repeat' (first | (show ER _ _ _ _ _ _ _; first | refine .seq ?_ | refine .reg ?_ | refine .yes rfl ?_ | refine .no rfl ?_ | refine .skip ?_ | refine .block ?_ | refine .endB ?_ | refine .exit rfl ?_ | refine .br rfl (fun hc => ?_) (fun hc => ?_) | refine .scope ?_ | refine .inScope ?_ | refine .label ?_ | refine .ret rfl ?_ | refine .nil rfl ?_) | (show EG _ _ _ _ _ _ _ _ _; first | refine .mov rfl rfl ?_ | refine .lload rfl rfl rfl rfl ?_ | refine .laddr rfl rfl rfl ?_ | (show EG _ _ (⟨_, .bin _ _ _, _, _⟩ :: _) _ _ _ _ _ _; first | refine .lssT rfl rfl rfl (by omega) ?_ | refine .lssF rfl rfl rfl (by omega) ?_ | refine .leq rfl rfl rfl (fun hc => ?_) (fun hc => ?_) | refine .gtr rfl rfl rfl (fun hc => ?_) (fun hc => ?_) | refine .geq rfl rfl rfl (fun hc => ?_) (fun hc => ?_) | refine .eql rfl rfl rfl (fun hc => ?_) (fun hc => ?_) | refine .neq rfl rfl rfl (fun hc => ?_) (fun hc => ?_)) | refine .skip rfl ?_ | refine .fin ?_ | refine .go rfl rfl rfl ?_ | refine .gono rfl rfl rfl ?_ | refine .skipn rfl ?_))
   refine .loop (fun n f H3 => ∃ (m : Int), (n : Int) = m + 1 ∧ -1 ≤ m ∧ m < c.S ∧ f = [(0, ifC b), (5, lay c.T c.S), (8, I (if m + 1 < c.S then m + 2 else 0)), (9, I m)] ∧ IsC H3 b (partL c (m + 1)) bs ∧ Only [b.P, b.W] H H3) (n := c.S.toNat)
    ⟨c.S - 1, by omega, by omega, by omega, by show [(0, _), (5, _), (8, I 0), (9, I (IntKind.i64.wrap (c.S - 1)))] = _; rw [wrap_id (by omega) (by omega), if_neg (by omega)], by rw [show c.S - 1 + 1 = c.S by omega]; exact hC1, ho⟩ ?_
   rintro n f H3 ⟨m, hn3, hm0, hm1, rfl, hC3, ho3⟩ next
   by_cases hp : 0 ≤ m
   ·have hL := fun lo => link_spec lo H3 hm m
    refine Exists.elim (store_spec hC3 hlo.1 hlo.2 (slotI c m 2) (if m + 1 < c.S then m + 2 else 0)) fun H4 hq => ?_
    have hS := hq.1
    have hC4 := hq.2.1
    have ho4 := ho3.trans hq.2.2
    clear hq
    rw [partL_step hm hp hm1] at hC4
    repeat' (first | (show ER _ _ _ _ _ _ _; first | refine .seq ?_ | refine .reg ?_ | refine .yes rfl ?_ | refine .no rfl ?_ | refine .skip ?_ | refine .block ?_ | refine .endB ?_ | refine .exit rfl ?_ | refine .br rfl (fun hc => ?_) (fun hc => ?_) | refine .scope ?_ | refine .inScope ?_ | refine .label ?_ | refine .ret rfl ?_ | refine .nil rfl ?_) | (show EG _ _ _ _ _ _ _ _ _; first | refine .mov rfl rfl ?_ | refine .lload rfl rfl rfl rfl ?_ | refine .laddr rfl rfl rfl ?_ | (show EG _ _ (⟨_, .bin _ _ _, _, _⟩ :: _) _ _ _ _ _ _; first | refine .lss rfl rfl rfl (fun hc => ?_) (fun hc => ?_) | refine .leq rfl rfl rfl (fun hc => ?_) (fun hc => ?_) | refine .gtr rfl rfl rfl (fun hc => ?_) (fun hc => ?_) | refine .geqT rfl rfl rfl (by omega) ?_ | refine .geqF rfl rfl rfl (by omega) ?_ | refine .eql rfl rfl rfl (fun hc => ?_) (fun hc => ?_) | refine .neq rfl rfl rfl (fun hc => ?_) (fun hc => ?_)) | refine .call rfl rfl (hL _) ?_ | refine .inv rfl rfl rfl rfl (hS) ?_ | refine .skip rfl ?_ | refine .fin ?_ | refine .go rfl rfl rfl ?_ | refine .gono rfl rfl rfl ?_ | refine .skipn rfl ?_))
    refine next (n - 1) _ _ (by omega) ⟨m - 1, by omega, by omega, by omega, ?_, by rw [show m - 1 + 1 = m by omega]; exact hC4, ho4⟩
    show [(0, _), (5, _), (8, I (IntKind.i64.wrap (m + 1))), (9, I (IntKind.i64.wrap (m - 1)))] = _
    rw [wrap_id (by omega) (by omega), wrap_id (by omega) (by omega), if_pos (by omega), show m - 1 + 2 = m + 1 by omega]
   ·have hm2 : m = -1 := by omega
    subst hm2
    have hK := fun lo => stack_spec lo H3 hm
    have hP := fun lo => headPack1 lo H3
    refine Exists.elim (store_spec hC3 hlo.1 hlo.2 1 1) fun H4 hq => ?_
    have hS := hq.1
    have hC4 := hq.2.1
    have ho4 := ho3.trans hq.2.2
    clear hq
    have e4 : setI (partL c (-1 + 1)) 1 1 = startL c := by
     unfold setI startL
     rw [if_pos ⟨by omega, by rw [partL_len]; unfold wordsI; omega⟩]; rfl
    rw [e4] at hC4
    have hf : (if (-1 : Int) + 1 < c.S then (-1 : Int) + 2 else 0) = 1 := by rw [if_pos (by omega)]; rfl
    rw [hf]
    repeat' (first | (show ER _ _ _ _ _ _ _; first | refine .seq ?_ | refine .reg ?_ | refine .yes rfl ?_ | refine .no rfl ?_ | refine .skip ?_ | refine .block ?_ | refine .endB ?_ | refine .exit rfl ?_ | refine .br rfl (fun hc => ?_) (fun hc => ?_) | refine .scope ?_ | refine .inScope ?_ | refine .label ?_ | refine .ret rfl ?_ | refine .nil rfl ?_) | (show EG _ _ _ _ _ _ _ _ _; first | refine .mov rfl rfl ?_ | refine .lload rfl rfl rfl rfl ?_ | refine .laddr rfl rfl rfl ?_ | (show EG _ _ (⟨_, .bin _ _ _, _, _⟩ :: _) _ _ _ _ _ _; first | refine .lss rfl rfl rfl (fun hc => ?_) (fun hc => ?_) | refine .leq rfl rfl rfl (fun hc => ?_) (fun hc => ?_) | refine .gtr rfl rfl rfl (fun hc => ?_) (fun hc => ?_) | refine .geqT rfl rfl rfl (by omega) ?_ | refine .geqF rfl rfl rfl (by omega) ?_ | refine .eql rfl rfl rfl (fun hc => ?_) (fun hc => ?_) | refine .neq rfl rfl rfl (fun hc => ?_) (fun hc => ?_)) | (show EG _ _ (⟨_, .call _ _, _, _⟩ :: _) _ _ _ _ _ _; first | refine .call rfl rfl (hK _) ?_ | refine .call rfl rfl (hP _) ?_) | refine .inv rfl rfl rfl rfl (hS) ?_ | refine .skip rfl ?_ | refine .fin ?_ | refine .go rfl rfl rfl ?_ | refine .gono rfl rfl rfl ?_ | refine .skipn rfl ?_))
    exact ⟨rfl, hC4, ho4⟩
 obtain ⟨v, H', h1, rfl, h2, h3⟩ := key
 exact ⟨H', h1, h2, h3⟩
end Go.Proofs.YtnfcohmbcgfhbaaGreat

/- Cells as they are at first; of the thread seat. -/
set_option linter.unusedVariables false
set_option linter.unusedSimpArgs false
namespace Go.Proofs.YtnfcohmbcgfhbaaGreat
open Go Go.Ir

theorem start_may (lo : Nat) (h : Heap) {c : Cfg} (hm : c.may) (hlo : lo ≤ h.length) :
  ∃ H', callR En lo Id.sidingslaw19_start [.agg c.cs.toArray] h = some (ptrC (newC h), H') ∧ IsC H' (newC h) (startL c) (List.replicate c.A.toNat 0) ∧ Ext h H' ∧ H'.length = h.length + 3 := by
 have hm' := hm
 unfold Cfg.may at hm'
 have hW := fun lo => words_spec lo h c
 rw [if_pos hm] at hW
 refine Exists.elim (show ∃ nw : Nat, wordsI c = nw ∧ 1 ≤ nw ∧ nw ≤ 4096 from ⟨(wordsI c).toNat, by unfold wordsI; omega, by unfold wordsI; omega, by unfold wordsI; omega⟩) fun nw hnw => ?_
 refine Exists.elim (show ∃ nb : Nat, c.A = nb ∧ nb ≤ 4096 from ⟨c.A.toNat, by omega, by omega⟩) fun nb hnb => ?_
 have hN : ∀ lo, callR En lo Id.cells_New [I (wordsI c), I c.A] h = some (ptrC (newC h), newH h nw nb) := fun lo => by
  rw [hnw.1, hnb.1]; exact new_spec lo h hnw.2.1 hnw.2.2 hnb.2
 have hnh := newH_is h nw nb
 have hl : (newH h nw nb).length = h.length + 3 := by simp [newH]
 refine Exists.elim (start_spec (lo := lo) hm hnh.1 ⟨by simp [newC]; omega, by simp [newC]; omega⟩ (by rw [List.length_replicate, hnw.1]; simp) (by rw [List.length_replicate, hnb.1])) fun H' hq => ?_
 have hS := hq.1
 have hC := hq.2.1
 have ho := hq.2.2
 clear hq
 refine ⟨H', ?_, by rw [hnb.1]; exact hC, ⟨by rw [ho.len, hl]; omega, fun i hi => ?_⟩, by rw [ho.len, hl]⟩
 ·refine call_of rfl Fn.sidingslaw19_start rfl rfl ?_
  repeat' (first | (show ER _ _ _ _ _ _ _; first | refine .seq ?_ | refine .reg ?_ | refine .yes rfl ?_ | refine .no rfl ?_ | refine .skip ?_ | refine .block ?_ | refine .endB ?_ | refine .exit rfl ?_ | refine .br rfl (fun hc => ?_) (fun hc => ?_) | refine .scope ?_ | refine .inScope ?_ | refine .label ?_ | refine .ret rfl ?_ | refine .nil rfl ?_) | (show EG _ _ _ _ _ _ _ _ _; first | refine .mov rfl rfl ?_ | refine .lload rfl rfl rfl rfl ?_ | refine .laddr rfl rfl rfl ?_ | (show EG _ _ (⟨_, .bin _ _ _, _, _⟩ :: _) _ _ _ _ _ _; first | refine .lss rfl rfl rfl (fun hc => ?_) (fun hc => ?_) | refine .leq rfl rfl rfl (fun hc => ?_) (fun hc => ?_) | refine .gtr rfl rfl rfl (fun hc => ?_) (fun hc => ?_) | refine .geq rfl rfl rfl (fun hc => ?_) (fun hc => ?_) | refine .eql rfl rfl rfl (fun hc => ?_) (fun hc => ?_) | refine .neqT rfl rfl rfl (by omega) ?_ | refine .neqF rfl rfl rfl (by omega) ?_) | (show EG _ _ (⟨_, .call _ _, _, _⟩ :: _) _ _ _ _ _ _; first | refine .call rfl rfl (hW _) ?_ | refine .call rfl rfl (hN _) ?_ | refine .call rfl rfl (hS) ?_) | refine .skip rfl ?_ | refine .fin ?_ | refine .go rfl rfl rfl ?_ | refine .gono rfl rfl rfl ?_ | refine .skipn rfl ?_))
  rfl
 ·rw [ho.same i (by simp [newC]; omega)]
  exact hnh.2.2 i hi

theorem start_not (lo : Nat) (h : Heap) {c : Cfg} (hm : ¬ c.may) : callR En lo Id.sidingslaw19_start [.agg c.cs.toArray] h = some (.pointer none, h) := by
 have hW := fun lo => words_spec lo h c
 rw [if_neg hm] at hW
 have hc := fun lo => cmay_spec lo h 0 c.A
 rw [show (inB 0 1 4096 && inB c.A 0 4096) = false by simp [inB]] at hc
 have hN : ∀ lo, callR En lo Id.cells_New [I 0, I c.A] h = some (.pointer none, h) := fun lo => by
  refine call_of rfl Fn.cells_New rfl rfl ?_
  repeat' (first | (show ER _ _ _ _ _ _ _; first | refine .seq ?_ | refine .reg ?_ | refine .yes rfl ?_ | refine .no rfl ?_ | refine .skip ?_ | refine .block ?_ | refine .endB ?_ | refine .exit rfl ?_ | refine .br rfl (fun hc => ?_) (fun hc => ?_) | refine .scope ?_ | refine .inScope ?_ | refine .label ?_ | refine .ret rfl ?_ | refine .nil rfl ?_) | (show EG _ _ _ _ _ _ _ _ _; first | refine .mov rfl rfl ?_ | refine .lload rfl rfl rfl rfl ?_ | refine .laddr rfl rfl rfl ?_ | (show EG _ _ (⟨_, .bin _ _ _, _, _⟩ :: _) _ _ _ _ _ _; first | refine .lss rfl rfl rfl (fun hc => ?_) (fun hc => ?_) | refine .leq rfl rfl rfl (fun hc => ?_) (fun hc => ?_) | refine .gtr rfl rfl rfl (fun hc => ?_) (fun hc => ?_) | refine .geq rfl rfl rfl (fun hc => ?_) (fun hc => ?_) | refine .eql rfl rfl rfl (fun hc => ?_) (fun hc => ?_) | refine .neq rfl rfl rfl (fun hc => ?_) (fun hc => ?_)) | refine .call rfl rfl (hc _) ?_ | refine .skip rfl ?_ | refine .fin ?_ | refine .go rfl rfl rfl ?_ | refine .gono rfl rfl rfl ?_ | refine .skipn rfl ?_))
  rfl
 refine call_of rfl Fn.sidingslaw19_start rfl rfl ?_
 repeat' (first | (show ER _ _ _ _ _ _ _; first | refine .seq ?_ | refine .reg ?_ | refine .yes rfl ?_ | refine .no rfl ?_ | refine .skip ?_ | refine .block ?_ | refine .endB ?_ | refine .exit rfl ?_ | refine .br rfl (fun hc => ?_) (fun hc => ?_) | refine .scope ?_ | refine .inScope ?_ | refine .label ?_ | refine .ret rfl ?_ | refine .nil rfl ?_) | (show EG _ _ _ _ _ _ _ _ _; first | refine .mov rfl rfl ?_ | refine .lload rfl rfl rfl rfl ?_ | refine .laddr rfl rfl rfl ?_ | (show EG _ _ (⟨_, .bin _ _ _, _, _⟩ :: _) _ _ _ _ _ _; first | refine .lss rfl rfl rfl (fun hc => ?_) (fun hc => ?_) | refine .leq rfl rfl rfl (fun hc => ?_) (fun hc => ?_) | refine .gtr rfl rfl rfl (fun hc => ?_) (fun hc => ?_) | refine .geq rfl rfl rfl (fun hc => ?_) (fun hc => ?_) | refine .eql rfl rfl rfl (fun hc => ?_) (fun hc => ?_) | refine .neq rfl rfl rfl (fun hc => ?_) (fun hc => ?_)) | (show EG _ _ (⟨_, .call _ _, _, _⟩ :: _) _ _ _ _ _ _; first | refine .call rfl rfl (hW _) ?_ | refine .call rfl rfl (hN _) ?_) | refine .skip rfl ?_ | refine .fin ?_ | refine .go rfl rfl rfl ?_ | refine .gono rfl rfl rfl ?_ | refine .skipn rfl ?_))
 rfl

end Go.Proofs.YtnfcohmbcgfhbaaGreat

