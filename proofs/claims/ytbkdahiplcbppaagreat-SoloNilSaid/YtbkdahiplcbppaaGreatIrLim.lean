/- The interpreter without fuel. -/
import Derived.Test.YtbkdahiplcbppaaGreatIrSound
set_option linter.unusedVariables false
set_option linter.unusedSimpArgs false
namespace Go.Ir

def CLe (c d : CallF) : Prop := ∀ g vs h r, c g vs h = some r → d g vs h = some r
def ELe (c d : ExF) : Prop := ∀ lo items f h r, c lo items f h = some r → d lo items f h = some r

theorem iop_le {c d : CallF} (hcd : CLe c d) {lo : Nat} {o : IOp} {f : Fr} {h : Heap} {r : Value × Heap} (hv : iop c lo o f h = some r) : iop d lo o f h = some r := by
  cases o
  case call g args =>
    simp only [iop] at hv ⊢
    split at hv <;> try (cases hv; done)
    exact hcd _ _ _ _ hv
  case callv x args =>
    simp only [iop] at hv ⊢
    split at hv <;> try (cases hv; done)
    split at hv <;> try (cases hv; done)
    exact hcd _ _ _ _ hv
  case invoke tab x args =>
    simp only [iop] at hv ⊢
    split at hv <;> try (cases hv; done)
    split at hv <;> try (cases hv; done)
    exact hcd _ _ _ _ hv
  all_goals exact hv

theorem asAhead_le {c d : CallF} (hcd : CLe c d) {lo : Nat} {o : IOp} {f : Fr} {v : Value} : ∀ {hs : List Heap}, asAhead c lo o f v hs = true → asAhead d lo o f v hs = true
  | [], h => rfl
  | g :: hs, h => by
    unfold asAhead at h ⊢
    cases hi : iop c lo o f g with
    | none => rw [hi] at h; cases h
    | some r =>
      rw [hi] at h
      rw [iop_le hcd hi]
      simp only [Bool.and_eq_true] at h ⊢
      exact ⟨h.1, asAhead_le hcd h.2⟩

theorem iops_le {c d : CallF} (hcd : CLe c d) {lo : Nat} : ∀ {os : List IOper} {f : Fr} {h : Heap} {hs : List Heap} {r : Fr × Heap}, iops c lo os f h hs = some r → iops d lo os f h hs = some r
  | [], f, h, hs, r, hv => hv
  | o :: os, f, h, hs, r, hv => by
    simp only [iops] at hv ⊢
    split at hv
    · cases hv
    · rename_i hw; exact iops_le hcd hv
    · split at hv <;> try (cases hv; done)
      rename_i v h' hi
      obtain ⟨ha, hv⟩ := ifSomeO hv
      rw [iop_le hcd hi]
      simp only
      rw [if_pos (asAhead_le hcd ha)]
      exact iops_le hcd hv

theorem callW_le {E : Env} {ex ex' : ExF} (hle : ELe ex ex') (lo : Nat) : CLe (callW E ex lo) (callW E ex' lo) := by
  intro g vs h r hv
  unfold callW at hv ⊢
  split at hv
  · exact hv
  · split at hv <;> try (cases hv; done)
    rename_i fn hfn
    split at hv <;> try (cases hv; done)
    rename_i ha
    simp only [ha, if_false]
    split at hv <;> try (cases hv; done)
    rename_i f1 h1 he
    rw [hle _ _ _ _ _ he]
    exact hv

theorem exN_le {E : Env} : ∀ n, ELe (exN E n) (exN E (n + 1))
  | 0 => fun lo items f h r hv => by simp [exN] at hv
  | n + 1 => fun lo items f h r hv => by
    have ih := exN_le (E := E) n
    cases items with
    | nil => simpa [exN] using hv
    | cons it k =>
      cases it with
      | endB id => rw [exN] at hv ⊢; exact ih _ _ _ _ _ hv
      | again ls b => rw [exN] at hv ⊢; exact ih _ _ _ _ _ hv
      | inScope b => rw [exN] at hv ⊢; exact ih _ _ _ _ _ hv
      | code c =>
        cases c <;> rw [exN] at hv <;> rw [exN]
        case region ops =>
          split at hv <;> try (cases hv; done)
          rename_i h1
          rw [iops_le (callW_le ih lo) h1]
          exact ih _ _ _ _ _ hv
        case cond c a b =>
          split at hv <;> try (cases hv; done)
          exact ih _ _ _ _ _ hv
        case exit id =>
          split at hv <;> try (cases hv; done)
          exact ih _ _ _ _ _ hv
        case goto l ls =>
          split at hv <;> try (cases hv; done)
          exact ih _ _ _ _ _ hv
        case ret => exact hv
        all_goals exact ih _ _ _ _ _ hv

theorem exN_mono {E : Env} {n m : Nat} (h : n ≤ m) : ELe (exN E n) (exN E m) := by
  induction m with
  | zero => have : n = 0 := by omega
            subst this; exact fun _ _ _ _ _ h => h
  | succ m ih =>
    by_cases hnm : n = m + 1
    · subst hnm; exact fun _ _ _ _ _ h => h
    · exact fun lo items f h r hv => exN_le m _ _ _ _ _ (ih (by omega) _ _ _ _ _ hv)

open Classical in
/-- The run without fuel. -/
noncomputable def exR (E : Env) : ExF := fun lo items f h => if p : ∃ r n, exN E n lo items f h = some r then some p.choose else none

theorem exR_iff {E : Env} {lo : Nat} {items : List Item} {f : Fr} {h : Heap} {r : Fr × Heap} : exR E lo items f h = some r ↔ ∃ n, exN E n lo items f h = some r := by
  unfold exR
  constructor
  · intro hv
    split at hv
    · rename_i p
      injection hv with hv
      rw [← hv]
      exact p.choose_spec
    · cases hv
  · rintro ⟨n, hn⟩
    have p : ∃ r n, exN E n lo items f h = some r := ⟨r, n, hn⟩
    rw [dif_pos p]
    obtain ⟨m, hm⟩ := p.choose_spec
    have h1 := exN_mono (Nat.le_max_left n m) _ _ _ _ _ hn
    have h2 := exN_mono (Nat.le_max_right n m) _ _ _ _ _ hm
    rw [h1] at h2
    injection h2 with h2
    rw [← h2]

theorem exR_of {E : Env} (n : Nat) : ELe (exN E n) (exR E) := fun _ _ _ _ _ h => exR_iff.2 ⟨n, h⟩

/-- A call without fuel. -/
noncomputable def callR (E : Env) (lo : Nat) : CallF := callW E (exR E) lo

theorem callR_iff {E : Env} {lo g : Nat} {vs : List Value} {h : Heap} {r : Value × Heap} : callR E lo g vs h = some r ↔ ∃ n, callW E (exN E n) lo g vs h = some r := by
  constructor
  · intro hv
    unfold callR callW at hv
    unfold callW
    split at hv
    · exact ⟨0, hv⟩
    · split at hv <;> try (cases hv; done)
      rename_i fn hfn
      split at hv <;> try (cases hv; done)
      rename_i ha
      split at hv <;> try (cases hv; done)
      rename_i f1 h1 he
      obtain ⟨n, hn⟩ := exR_iff.1 he
      refine ⟨n, ?_⟩
      simp only [ha, if_false, hn]
      exact hv
  · rintro ⟨n, hn⟩
    exact callW_le (exR_of n) lo _ _ _ _ hn

theorem callN_mono {E : Env} {n m lo : Nat} (h : n ≤ m) : CLe (callW E (exN E n) lo) (callW E (exN E m) lo) := callW_le (exN_mono h) lo

/-! ### continuity -/
theorem iop_lim {E : Env} {lo : Nat} {o : IOp} {f : Fr} {h : Heap} {r : Value × Heap} (hv : iop (callR E lo) lo o f h = some r) : ∃ n, iop (callW E (exN E n) lo) lo o f h = some r := by
  cases o
  case call g args =>
    simp only [iop] at hv ⊢
    split at hv <;> try (cases hv; done)
    exact callR_iff.1 hv
  case callv x args =>
    simp only [iop] at hv ⊢
    split at hv <;> try (cases hv; done)
    split at hv <;> try (cases hv; done)
    rename_i hc
    obtain ⟨n, hn⟩ := callR_iff.1 hv
    exact ⟨n, hn⟩
  case invoke tab x args =>
    simp only [iop] at hv ⊢
    split at hv <;> try (cases hv; done)
    split at hv <;> try (cases hv; done)
    rename_i hc
    obtain ⟨n, hn⟩ := callR_iff.1 hv
    exact ⟨n, hn⟩
  all_goals exact ⟨0, hv⟩

theorem asAhead_lim {E : Env} {lo : Nat} {o : IOp} {f : Fr} {v : Value} : ∀ {hs : List Heap}, asAhead (callR E lo) lo o f v hs = true → ∃ n, asAhead (callW E (exN E n) lo) lo o f v hs = true
  | [], h => ⟨0, rfl⟩
  | g :: hs, h => by
    unfold asAhead at h
    cases hi : iop (callR E lo) lo o f g with
    | none => rw [hi] at h; cases h
    | some r =>
      rw [hi] at h
      simp only [Bool.and_eq_true] at h
      obtain ⟨n, hn⟩ := iop_lim hi
      obtain ⟨m, hm⟩ := asAhead_lim h.2
      refine ⟨max n m, ?_⟩
      unfold asAhead
      rw [iop_le (callN_mono (Nat.le_max_left n m)) hn]
      simp only [Bool.and_eq_true]
      exact ⟨h.1, asAhead_le (callN_mono (Nat.le_max_right n m)) hm⟩

theorem iops_lim {E : Env} {lo : Nat} : ∀ {os : List IOper} {f : Fr} {h : Heap} {hs : List Heap} {r : Fr × Heap}, iops (callR E lo) lo os f h hs = some r → ∃ n, iops (callW E (exN E n) lo) lo os f h hs = some r
  | [], f, h, hs, r, hv => ⟨0, hv⟩
  | o :: os, f, h, hs, r, hv => by
    simp only [iops] at hv ⊢
    split at hv
    · cases hv
    · rename_i hw; exact iops_lim hv
    · split at hv <;> try (cases hv; done)
      rename_i v h' hi
      obtain ⟨ha, hv⟩ := ifSomeO hv
      obtain ⟨n1, e1⟩ := iop_lim hi
      obtain ⟨n2, e2⟩ := asAhead_lim ha
      obtain ⟨n3, e3⟩ := iops_lim hv
      refine ⟨max n1 (max n2 n3), ?_⟩
      rw [iop_le (callN_mono (Nat.le_max_left _ _)) e1]
      simp only
      rw [if_pos (asAhead_le (callN_mono (Nat.le_trans (Nat.le_max_left n2 n3) (Nat.le_max_right _ _))) e2)]
      exact iops_le (callN_mono (Nat.le_trans (Nat.le_max_right n2 n3) (Nat.le_max_right _ _))) e3

/-! ### equations -/
section
variable {E : Env} {lo : Nat} {k : List Item} {f : Fr} {h : Heap}

theorem exR_ext {items items' : List Item} {f f' : Fr} {h h' : Heap} (he : ∀ n, exN E (n + 1) lo items f h = exN E n lo items' f' h') : exR E lo items f h = exR E lo items' f' h' := by
  refine Option.ext fun r => ?_
  rw [exR_iff, exR_iff]
  constructor
  · rintro ⟨n, hn⟩
    exact ⟨n, by rw [← he]; exact exN_le n _ _ _ _ _ hn⟩
  · rintro ⟨n, hn⟩
    exact ⟨n + 1, by rw [he]; exact hn⟩

theorem exR_nil : exR E lo [] f h = some (f, h) := exR_iff.2 ⟨1, by simp [exN]⟩
theorem exR_endB {id : Nat} : exR E lo (.endB id :: k) f h = exR E lo k f h := exR_ext fun n => by simp only [exN]
theorem exR_inScope {b : ICode} : exR E lo (.inScope b :: k) f h = exR E lo k f h := exR_ext fun n => by simp only [exN]
theorem exR_again {ls : List Nat} {b : ICode} : exR E lo (.again ls b :: k) f h = exR E lo (.code b :: .again ls b :: k) (keep ls f) h := exR_ext fun n => by simp only [exN]
theorem exR_skip : exR E lo (.code .skip :: k) f h = exR E lo k f h := exR_ext fun n => by simp only [exN]
theorem exR_seq {a b : ICode} : exR E lo (.code (.seq a b) :: k) f h = exR E lo (.code a :: .code b :: k) f h := exR_ext fun n => by simp only [exN]
theorem exR_block {id : Nat} {b : ICode} : exR E lo (.code (.block id b) :: k) f h = exR E lo (.code b :: .endB id :: k) f h := exR_ext fun n => by simp only [exN]
theorem exR_loop {ls : List Nat} {b : ICode} : exR E lo (.code (.loop ls b) :: k) f h = exR E lo (.code b :: .again ls b :: k) (keep ls f) h := exR_ext fun n => by simp only [exN]
theorem exR_scope {b : ICode} : exR E lo (.code (.scope b) :: k) f h = exR E lo (.code b :: .inScope b :: k) f h := exR_ext fun n => by simp only [exN]
theorem exR_label {l : Nat} : exR E lo (.code (.label l) :: k) f h = exR E lo k f h := exR_ext fun n => by simp only [exN]
theorem exR_ret : exR E lo (.code .ret :: k) f h = some (f, h) := exR_iff.2 ⟨1, by simp [exN]⟩
theorem exR_cond {c : Operand} {a b : ICode} {t : Bool} (hc : ev f c = some (.bool t)) : exR E lo (.code (.cond c a b) :: k) f h = exR E lo (.code (if t then a else b) :: k) f h := exR_ext fun n => by simp only [exN, hc]
theorem exR_exit {id : Nat} {k' : List Item} (hk : exitI id k = some k') : exR E lo (.code (.exit id) :: k) f h = exR E lo k' f h := exR_ext fun n => by simp only [exN, hk]
theorem exR_goto {l : Nat} {ls : List Nat} {k' : List Item} (hk : gotoI l k = some k') : exR E lo (.code (.goto l ls) :: k) f h = exR E lo k' (keep ls f) h := exR_ext fun n => by simp only [exN, hk]

theorem exR_region {ops : List IOper} {f' : Fr} {h' : Heap} (hv : iops (callR E lo) lo ops f h [] = some (f', h')) : exR E lo (.code (.region ops) :: k) f h = exR E lo k f' h' := by
  refine Option.ext fun r => ?_
  obtain ⟨m, hm⟩ := iops_lim hv
  rw [exR_iff, exR_iff]
  constructor
  · rintro ⟨n, hn⟩
    cases n with
    | zero => simp [exN] at hn
    | succ n =>
      rw [exN] at hn
      split at hn <;> try (cases hn; done)
      rename_i f1 h1 h2
      have e1 := iops_le (callN_mono (Nat.le_max_left m n)) hm
      have e2 := iops_le (callN_mono (Nat.le_max_right m n)) h2
      rw [e1] at e2
      injection e2 with e2
      injection e2 with e3 e4
      subst e3 e4
      exact ⟨n, hn⟩
  · rintro ⟨n, hn⟩
    refine ⟨max m n + 1, ?_⟩
    rw [exN]
    rw [iops_le (callN_mono (Nat.le_max_left m n)) hm]
    exact exN_mono (Nat.le_max_right m n) _ _ _ _ _ hn

end

/-- A call of a translated function. -/
theorem callR_fn {E : Env} {lo g : Nat} {fn : IFunc} {args : List Value} {h h' : Heap} {f' : Fr} {v : Value} (hp : E.prim g = none) (hf : E.fn g = some fn) (ha : args.length = fn.nargs) (hs : fn.scr = false)
    (he : exR E lo [.code fn.body] (number 0 args) h = some (f', h')) (hr : results fn.res f' h' = some v) : callR E lo g args h = some (v, h') := by
  unfold callR callW
  simp [hp, hf, ha, hs, he, hr]

theorem callR_scr {E : Env} {lo g : Nat} {fn : IFunc} {args : List Value} {h h' : Heap} {f' : Fr} {v : Value} {r : Value × Heap} (hp : E.prim g = none) (hf : E.fn g = some fn) (ha : args.length = fn.nargs) (hs : fn.scr = true)
    (he : exR E h.length [.code fn.body] (number 0 args) h = some (f', h')) (hr : results fn.res f' h' = some v) (ht : tidy h v h' = some r) : callR E lo g args h = some r := by
  unfold callR callW
  simp [hp, hf, ha, hs, he, hr, ht]

/-- What the interpreter without fuel says of a call holds of the machine. -/
theorem callR_sound {P : Program} {E : Env} (ok : EnvOk P E) (hmix : P.follows .mixedOrders = true) {B0 : Nat} {w0 : World} {lo : Nat} (hB0 : B0 ≤ w0.heap.size) : CallOk P B0 w0 (callR E lo) := by
  intro g vs h v h' hv
  obtain ⟨n, hn⟩ := callR_iff.1 hv
  exact calls_ok ok hmix n B0 w0 lo hB0 g vs h v h' hn

end Go.Ir
