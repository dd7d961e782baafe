/- Regions, second part: the interpreter's run written out; what is read of the frame. -/
import Derived.Test.YtbkdahiplcbppaaGreatIrReg
set_option linter.unusedVariables false
set_option linter.unusedSimpArgs false
namespace Go.Ir

def res (E : Emb) (n : Nat) : Emb := fun i => if i < n then E i else none

theorem res_lt {E : Emb} {n i : Nat} (h : i < n) : res E n i = E i := by simp [res, h]
theorem res_ge {E : Emb} {n i : Nat} (h : n ≤ i) : res E n i = none := by simp [res]; omega
theorem res_some {E : Emb} {n i : Nat} {e : Option Ent} (h : res E n i = some e) : i < n ∧ E i = some e := by
  unfold res at h
  split at h
  · rename_i hi; exact ⟨hi, h⟩
  · cases h
theorem res_le {E : Emb} {n m : Nat} (h : n ≤ m) : (res E n).le (res E m) := fun i e hi => by
  obtain ⟨h1, h2⟩ := res_some hi
  exact .inl (by rw [res_lt (by omega)]; exact h2)
theorem res_le_self {E : Emb} {n : Nat} : (res E n).le E := fun i e hi => .inl (res_some hi).2
theorem res_mono {E E' : Emb} {n : Nat} (h : ∀ i, i < n → ∀ e, E i = some e → E' i = some e ∨ E' i = some none) : (res E n).le (res E' n) := fun i e hi => by
  obtain ⟨h1, h2⟩ := res_some hi
  rw [res_lt h1]
  exact h i h1 e h2

/-- A run of a region's operations in the interpreter's order, written out. -/
structure Tr (call : CallF) (lo : Nat) (cc : List COper) (ck : Nat → Nat) (f0 : Fr) (h0 : Heap) where
  F : Nat → Fr
  H : Nat → Heap
  HS : Nat → List Heap
  V : Nat → Value
  W : Nat → Bool
  hF : F 0 = f0
  hH : H 0 = h0
  hHS : HS 0 = []
  step : ∀ (p : Nat) (c : COper), cc[p]? = some c → want c.guard (F p) = some (W p) ∧ F (p + 1) = fset (F p) c.dst (V p) ∧
    (W p = true → iop call lo c.io (F p) (H p) = some (V p, H (p + 1)) ∧ asAhead call lo c.io (F p) (V p) ((HS p).take (ck p)) = true ∧
      HS (p + 1) = if isEff c.io then H p :: HS p else HS p) ∧
    (W p = false → V p = noneV ∧ H (p + 1) = H p ∧ HS (p + 1) = HS p)

def toIOper (c : COper) (k : Nat) : IOper := { dst := c.dst, op := c.io, guard := c.guard, chk := k }

theorem iops_tr {call : CallF} {lo : Nat} : ∀ (cc : List COper) (ck : Nat → Nat) (f0 f1 : Fr) (h0 h1 : Heap) (hs0 : List Heap),
    iops call lo (cc.mapIdx fun p c => toIOper c (ck p)) f0 h0 hs0 = some (f1, h1) →
    ∃ (F : Nat → Fr) (H : Nat → Heap) (HS : Nat → List Heap) (V : Nat → Value) (W : Nat → Bool), F 0 = f0 ∧ H 0 = h0 ∧ HS 0 = hs0 ∧ F cc.length = f1 ∧ H cc.length = h1 ∧
      ∀ (p : Nat) (c : COper), cc[p]? = some c → want c.guard (F p) = some (W p) ∧ F (p + 1) = fset (F p) c.dst (V p) ∧
        (W p = true → iop call lo c.io (F p) (H p) = some (V p, H (p + 1)) ∧ asAhead call lo c.io (F p) (V p) ((HS p).take (ck p)) = true ∧
          HS (p + 1) = if isEff c.io then H p :: HS p else HS p) ∧
        (W p = false → V p = noneV ∧ H (p + 1) = H p ∧ HS (p + 1) = HS p)
  | [], ck, f0, f1, h0, h1, hs0, h => by
    simp [iops] at h
    obtain ⟨rfl, rfl⟩ := h
    exact ⟨fun _ => f0, fun _ => h0, fun _ => hs0, fun _ => noneV, fun _ => true, rfl, rfl, rfl, rfl, rfl, fun p c hc => by simp at hc⟩
  | c :: cc, ck, f0, f1, h0, h1, hs0, h => by
    have ih := fun f0 h0 hs0 h => iops_tr (call := call) (lo := lo) cc (fun p => ck (p + 1)) f0 f1 h0 h1 hs0 h
    simp only [List.mapIdx_cons] at h
    simp only [iops, toIOper] at h
    cases hw : want c.guard f0 with
    | none => rw [hw] at h; cases h
    | some b =>
      rw [hw] at h
      cases b with
      | false =>
        obtain ⟨F, H, HS, V, W, e1, e2, e3, e4, e5, hst⟩ := ih _ _ _ h
        refine ⟨fun p => match p with | 0 => f0 | p + 1 => F p, fun p => match p with | 0 => h0 | p + 1 => H p, fun p => match p with | 0 => hs0 | p + 1 => HS p,
          fun p => match p with | 0 => noneV | p + 1 => V p, fun p => match p with | 0 => false | p + 1 => W p, rfl, rfl, rfl, e4, e5, fun p c' hc' => ?_⟩
        cases p with
        | zero =>
          simp at hc'
          subst hc'
          exact ⟨hw, e1, fun h => (by cases h), fun _ => ⟨rfl, e2, e3⟩⟩
        | succ p => exact hst p c' (by simpa using hc')
      | true =>
        simp only at h
        cases hi : iop call lo c.io f0 h0 with
        | none => rw [hi] at h; cases h
        | some r =>
          obtain ⟨v, h'⟩ := r
          rw [hi] at h
          simp only at h
          obtain ⟨ha, h⟩ := ifSomeO h
          obtain ⟨F, H, HS, V, W, e1, e2, e3, e4, e5, hst⟩ := ih _ _ _ h
          refine ⟨fun p => match p with | 0 => f0 | p + 1 => F p, fun p => match p with | 0 => h0 | p + 1 => H p, fun p => match p with | 0 => hs0 | p + 1 => HS p,
            fun p => match p with | 0 => v | p + 1 => V p, fun p => match p with | 0 => true | p + 1 => W p, rfl, rfl, rfl, e4, e5, fun p c' hc' => ?_⟩
          cases p with
          | zero =>
            simp at hc'
            subst hc'
            exact ⟨hw, e1, fun _ => ⟨by rw [hi]; simp [e2], ha, e3⟩, fun h => (by cases h)⟩
          | succ p => exact hst p c' (by simpa using hc')

theorem iops_Tr {call : CallF} {lo : Nat} {cc : List COper} {ck : Nat → Nat} {f0 f1 : Fr} {h0 h1 : Heap} (h : iops call lo (cc.mapIdx fun p c => toIOper c (ck p)) f0 h0 [] = some (f1, h1)) :
    ∃ T : Tr call lo cc ck f0 h0, T.F cc.length = f1 ∧ T.H cc.length = h1 := by
  obtain ⟨F, H, HS, V, W, e1, e2, e3, e4, e5, hst⟩ := iops_tr cc ck f0 f1 h0 h1 [] h
  exact ⟨⟨F, H, HS, V, W, e1, e2, e3, hst⟩, e4, e5⟩

section
variable {call : CallF} {lo : Nat} {cc : List COper} {ck : Nat → Nat} {f0 : Fr} {h0 : Heap}

/-- How many blocks there are at a place of the run. -/
def Tr.L (T : Tr call lo cc ck f0 h0) (p : Nat) : Nat := (T.H p).length

theorem Tr.L_step (T : Tr call lo cc ck f0 h0) (hm : CallMono call) {p : Nat} (hp : p < cc.length) : T.L p ≤ T.L (p + 1) := by
  obtain ⟨h1, h2, h3, h4⟩ := T.step p cc[p] (by simp [hp])
  unfold Tr.L
  cases hw : T.W p with
  | true => exact iop_len hm (h3 hw).1
  | false => rw [(h4 hw).2.1]; exact Nat.le_refl _

theorem Tr.L_mono (T : Tr call lo cc ck f0 h0) (hm : CallMono call) {p q : Nat} (hpq : p ≤ q) (hq : q ≤ cc.length) : T.L p ≤ T.L q := by
  induction q with
  | zero => have : p = 0 := by omega
            subst this; exact Nat.le_refl _
  | succ q ih =>
    by_cases h : p = q + 1
    · subst h; exact Nat.le_refl _
    · exact Nat.le_trans (ih (by omega) (by omega)) (T.L_step hm (by omega))

def dstAt (cc : List COper) (p : Nat) : Option Nat := (cc[p]?).bind COper.dst

/-- What a slot holds where just those of S are done: the last one's that wrote it, with how many blocks there were behind it. -/
def Tr.now (T : Tr call lo cc ck f0 h0) (S : Nat → Bool) (t : Nat) : Nat → Option (Value × Nat)
  | 0 => (fget f0 t).map fun v => (v, T.L 0)
  | k + 1 => if S k && (dstAt cc k == some t) then some (T.V k, T.L (k + 1)) else T.now S t k

theorem fget_fset (f : Fr) (d : Option Nat) (v : Value) (t : Nat) : fget (fset f d v) t = if d = some t then some v else fget f t := by
  cases d with
  | none => simp [fset]
  | some d => simp [fset, fget]

theorem Tr.F_now (T : Tr call lo cc ck f0 h0) (t : Nat) : ∀ p, p ≤ cc.length → fget (T.F p) t = (T.now (fun _ => true) t p).map (·.1)
  | 0, _ => by simp only [Tr.now, T.hF]; cases fget f0 t <;> rfl
  | p + 1, hp => by
    have ih := T.F_now t p (by omega)
    have hc : cc[p]? = some cc[p] := List.getElem?_eq_getElem (by omega)
    obtain ⟨h1, h2, h3, h4⟩ := T.step p cc[p] hc
    rw [h2, fget_fset]
    simp only [Tr.now, dstAt, hc, Option.bind_some, Bool.true_and]
    by_cases hd : cc[p].dst = some t
    · simp [hd]
    · simp [hd, ih]

theorem Tr.now_congr (T : Tr call lo cc ck f0 h0) {S S' : Nat → Bool} {t : Nat} : ∀ k, (∀ q, q < k → dstAt cc q = some t → S q = S' q) → T.now S t k = T.now S' t k
  | 0, _ => rfl
  | k + 1, h => by
    simp only [Tr.now]
    rw [T.now_congr k (fun q hq hd => h q (by omega) hd)]
    by_cases hd : dstAt cc k = some t
    · rw [h k (by omega) hd]
    · have : (dstAt cc k == some t) = false := by simpa using hd
      simp [this]

theorem Tr.now_skip (T : Tr call lo cc ck f0 h0) {S : Nat → Bool} {t k : Nat} : ∀ m, k ≤ m → (∀ q, k ≤ q → q < m → dstAt cc q = some t → S q = false) → T.now S t m = T.now S t k
  | 0, h, _ => by have : k = 0 := by omega
                  subst this; rfl
  | m + 1, h, hs => by
    by_cases hk : k = m + 1
    · subst hk; rfl
    · simp only [Tr.now]
      have ih := T.now_skip (S := S) (t := t) (k := k) m (by omega) (fun q h1 h2 hd => hs q h1 (by omega) hd)
      by_cases hd : dstAt cc m = some t
      · simp [hs m (by omega) (by omega) hd, ih]
      · have : (dstAt cc m == some t) = false := by simpa using hd
        simp [this, ih]

theorem Tr.now_le (T : Tr call lo cc ck f0 h0) (hm : CallMono call) {S : Nat → Bool} {t : Nat} {v : Value} {n : Nat} : ∀ k, k ≤ cc.length → T.now S t k = some (v, n) → n ≤ T.L k
  | 0, _, h => by
    simp only [Tr.now, Option.map_eq_some_iff] at h
    obtain ⟨u, _, h⟩ := h
    injection h with _ h
    omega
  | k + 1, hk, h => by
    simp only [Tr.now] at h
    split at h
    · injection h with h; injection h with _ h; omega
    · exact Nat.le_trans (T.now_le hm k (by omega) h) (T.L_step hm (by omega))

/-- A slot that an operation reads: what stands there is what the interpreter finds. -/
theorem Tr.read (T : Tr call lo cc ck f0 h0) (hm : CallMono call) {S : Nat → Bool} {t p : Nat} (hp : p ≤ cc.length) (h1 : ∀ q, q < p → dstAt cc q = some t → S q = true)
    (h2 : ∀ q, p ≤ q → q < cc.length → dstAt cc q = some t → S q = false) {v : Value} (hv : fget (T.F p) t = some v) : ∃ n, n ≤ T.L p ∧ T.now S t cc.length = some (v, n) := by
  rw [T.F_now t p hp] at hv
  rw [T.now_skip cc.length hp h2, T.now_congr (S' := fun _ => true) p h1]
  cases hn : T.now (fun _ => true) t p with
  | none => rw [hn] at hv; cases hv
  | some r =>
    obtain ⟨u, n⟩ := r
    rw [hn] at hv
    simp at hv
    subst hv
    exact ⟨n, T.now_le hm p hp hn, rfl⟩

theorem Tr.now_done (T : Tr call lo cc ck f0 h0) (t : Nat) {v : Value} (h : fget (T.F cc.length) t = some v) : ∃ n, T.now (fun _ => true) t cc.length = some (v, n) := by
  rw [T.F_now t _ (Nat.le_refl _)] at h
  cases hn : T.now (fun _ => true) t cc.length with
  | none => rw [hn] at h; cases h
  | some r => obtain ⟨u, n⟩ := r; rw [hn] at h; simp at h; subst h; exact ⟨n, rfl⟩

end
end Go.Ir
