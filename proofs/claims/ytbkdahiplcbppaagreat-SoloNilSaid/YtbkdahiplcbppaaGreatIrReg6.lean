/- Regions, sixth part: reading; variables of the frame; new blocks. -/
import Derived.Test.YtbkdahiplcbppaaGreatIrReg5
set_option linter.unusedVariables false
set_option linter.unusedSimpArgs false
namespace Go.Ir

section
variable {call : CallF} {lo : Nat} {cc : List COper} {ck : Nat → Nat} {f0 : Fr} {h0 : Heap}
variable {P : Program} {B0 : Nat} {w0 : World} {LB : List Nat} {nt : Nat} {ops : List Oper} {Ef : Emb} {wf : World} {D : List Deferred} {T : Tr call lo cc ck f0 h0} {S : Nat → Bool} {E : Emb} {bx : Nat → Nat} {b : Nat} {a : Act} {w : World}

/-- What E tells of holds in the interpreter's heap up to where the next effect stands. -/
theorem Inv.has (inv : Inv B0 w0 LB nt Ef wf D T S E bx b a w) (hm : CallMono call) : ∀ {q0 : Nat}, b ≤ q0 → q0 ≤ cc.length →
    (∀ q c, b ≤ q → q < q0 → cc[q]? = some c → T.W q = true → isEff c.io = false) → Has B0 (res E (T.L q0)) (T.H q0) w := by
  intro q0
  induction q0 with
  | zero =>
    intro hb _ _
    have : b = 0 := by omega
    subst this
    exact inv.sim.has
  | succ q ih =>
    intro hb hq hno
    by_cases hbq : b = q + 1
    · subst hbq; exact inv.sim.has
    · have hql : q < cc.length := by omega
      have hc : cc[q]? = some cc[q] := List.getElem?_eq_getElem hql
      have h0 := ih (by omega) (by omega) fun q' c' h1 h2 => hno q' c' h1 (by omega)
      by_cases hal : T.W q = true ∧ isAlloc (cc[q]).io = true
      · obtain ⟨hW, hal⟩ := hal
        obtain ⟨k, hk⟩ := iop_alloc hal ((T.step q _ hc).2.2.1 hW).1
        have hL : T.L (q + 1) = T.L q + 1 := by simp [Tr.L, hk]
        intro i e k' he hk'
        obtain ⟨hi, hE⟩ := res_some he
        by_cases hiq : i < T.L q
        · rw [hk, List.getElem?_append_left hiq] at hk'
          rcases h0 i e k' (by rw [res_lt hiq]; exact hE) hk' with ⟨x, h1, h2, h3⟩ | h
          · exact .inl ⟨x, h1, h2, h3.mono (res_le (by omega))⟩
          · exact .inr h
        · have hiq : i = T.L q := by omega
          subst hiq
          have hlen : T.L q = (T.H q).length := rfl
          rw [hk, hlen, List.getElem?_append_right (Nat.le_refl _)] at hk'
          simp at hk'
          subst hk'
          cases hSq : T.W q && S q with
          | true =>
            simp only [Bool.and_eq_true] at hSq
            obtain ⟨x, k2, g1, g2, g3, g4⟩ := inv.pend q _ (by omega) hc hSq.2 hW hal
            have : k2 = k := by
              rw [hk] at g1
              simpa using g1.symm
            subst this
            rw [g3] at hE
            injection hE with hE
            exact .inl ⟨x, hE.symm, g2, g4⟩
          | false =>
            have hSq : S q = false := by simpa [hW] using hSq
            have := inv.free hm hql hSq (by omega) (i := T.L q) (Nat.le_refl _) (.inl (by omega))
            rw [this] at hE; cases hE
      · have hne : T.W q = true → isEff (cc[q]).io = false ∧ isAlloc (cc[q]).io = false := fun hW =>
          ⟨hno q _ (by omega) (by omega) hc hW, by
            cases h : isAlloc (cc[q]).io with
            | false => rfl
            | true => exact absurd ⟨hW, h⟩ hal⟩
        rw [T.sameL hc hne, T.same hc hne]
        exact h0

/-- The first place of some kind. -/
theorem first_of (p : Nat) (Z : Nat → Bool) (b : Nat) (h : ∃ q, b ≤ q ∧ q < p ∧ Z q = true) : ∃ q, b ≤ q ∧ q < p ∧ Z q = true ∧ ∀ q', b ≤ q' → q' < q → Z q' = false := by
  obtain ⟨q, h1, h2, h3⟩ := h
  induction q using Nat.strongRecOn with
  | _ q ih =>
    by_cases hx : ∃ q', b ≤ q' ∧ q' < q ∧ Z q' = true
    · obtain ⟨q', g1, g2, g3⟩ := hx
      exact ih q' g2 g1 (by omega) g3
    · exact ⟨q, h1, h2, h3, fun q' g1 g2 => by
        cases hz : Z q' with
        | false => rfl
        | true => exact absurd ⟨q', g1, g2, hz⟩ hx⟩

def effW (cc : List COper) (T : Tr call lo cc ck f0 h0) (q : Nat) : Bool := T.W q && (cc[q]?).any fun c => isEff c.io

theorem effW_iff {q : Nat} : effW cc T q = true ↔ T.W q = true ∧ ∃ c, cc[q]? = some c ∧ isEff c.io = true := by
  unfold effW
  cases h : cc[q]? with
  | none => simp
  | some c => simp

/-- The heaps ahead of the effects. -/
theorem Tr.HS_eq (T : Tr call lo cc ck f0 h0) : ∀ p, p ≤ cc.length → T.HS p = (((List.range p).filter (effW cc T)).map T.H).reverse
  | 0, _ => by simp [T.hHS]
  | p + 1, hp => by
    have hc : cc[p]? = some cc[p] := List.getElem?_eq_getElem (by omega)
    obtain ⟨t1, t2, t3, t4⟩ := T.step p _ hc
    have ih := T.HS_eq p (by omega)
    rw [List.range_succ, List.filter_append, List.map_append, List.reverse_append]
    cases hW : T.W p with
    | false =>
      have : effW cc T p = false := by simp [effW, hW]
      rw [(t4 hW).2.2, ih]
      simp [this]
    | true =>
      have : effW cc T p = isEff (cc[p]).io := by simp [effW, hW, hc]
      rw [(t3 hW).2.2, ih]
      simp only [List.filter_cons, List.filter_nil, this]
      split <;> simp

theorem filter_split (Z : Nat → Bool) {q p : Nat} (h : q < p) (hz : Z q = true) :
    (List.range p).filter Z = (List.range q).filter Z ++ q :: ((List.range p).filter Z).drop (((List.range q).filter Z).length + 1) ∧
    ((List.range p).filter Z).length = ((List.range q).filter Z).length + 1 + ((List.range p).filter fun i => Z i && decide (q < i)).length := by
  induction p with
  | zero => omega
  | succ p ih =>
    rw [List.range_succ, List.filter_append, List.filter_append]
    by_cases hqp : q = p
    · subst hqp
      have : (List.filter (fun i => Z i && decide (q < i)) (List.range q)) = [] := by
        rw [List.filter_eq_nil_iff]
        intro i hi
        have := List.mem_range.1 hi
        simp; intro _; omega
      simp [hz, this]
    · obtain ⟨h1, h2⟩ := ih (by omega)
      refine ⟨?_, ?_⟩
      · rw [List.drop_append_of_le_length (by omega), ← List.cons_append, ← List.append_assoc, ← h1]
      · rw [List.length_append, List.length_append, h2]
        have : (List.filter (fun i => Z i && decide (q < i)) [p]) = List.filter Z [p] := by
          have : decide (q < p) = true := by simp; omega
          simp [List.filter_cons, this]
        rw [this]; omega

/-- What a read reads: now, or as it was ahead of the effects that are still to come. -/
theorem Inv.readNow (inv : Inv B0 w0 LB nt Ef wf D T S E bx b a w) (hm : CallMono call) (wf' : Wf P LB nt ops cc) {p : Nat} {c : COper} (hc : cc[p]? = some c) (hS : S p = false) (r : Rdy cc ck S p c)
    (hr : isRead c.io = true) (hW : T.W p = true) : ∃ g g', Has B0 (res E (T.L p)) g w ∧ iop call lo c.io (T.F p) g = some (T.V p, g') := by
  have hp : p < cc.length := (List.getElem?_eq_some_iff.1 hc).1
  obtain ⟨t1, t2, t3, t4⟩ := T.step p c hc
  have hbp := inv.b_le hc hS r (by simp [hr])
  by_cases hx : ∃ q, b ≤ q ∧ q < p ∧ effW cc T q = true
  · obtain ⟨q, h1, h2, h3, h4⟩ := first_of p _ b hx
    have hno : ∀ q' c', b ≤ q' → q' < q → cc[q']? = some c' → T.W q' = true → isEff c'.io = false := fun q' c' g1 g2 g3 g4 => by
      have := h4 q' g1 g2
      simpa [effW, g4, g3] using this
    have hh := inv.has hm h1 (by omega) hno
    -- q's heap is among those that were looked at
    have hmem : T.H q ∈ (T.HS p).take (ck p) := by
      rw [T.HS_eq p (by omega)]
      obtain ⟨e1, e2⟩ := filter_split (effW cc T) h2 h3
      have hle : ((List.range p).filter fun i => effW cc T i && decide (q < i)).length + 1 ≤ ck p := by
        refine Nat.le_trans ?_ (r.chk hr)
        have hund : ∀ i, q ≤ i → effW cc T i = true → S i = false := fun i hi he => by
          obtain ⟨g1, c', g2, g3⟩ := effW_iff.1 he
          cases hSi : S i with
          | false => rfl
          | true => have := inv.noeff i c' (by omega) g2 hSi g1; rw [g3] at this; cases this
        have hZ : ∀ i, (effW cc T i && decide (q ≤ i)) = true → (!S i && (cc[i]?).any fun c' => isEff c'.io) = true := fun i hi => by
          simp only [Bool.and_eq_true, decide_eq_true_eq] at hi
          obtain ⟨g1, c', g2, g3⟩ := effW_iff.1 hi.1
          simp [hund i hi.2 hi.1, g2, g3]
        have key : ∀ n, ((List.range n).filter fun i => effW cc T i && decide (q < i)).length + (if q < n then 1 else 0) ≤ ((List.range n).filter fun i => !S i && (cc[i]?).any fun c' => isEff c'.io).length := by
          intro n
          induction n with
          | zero => simp
          | succ n ih =>
            rw [List.range_succ, List.filter_append, List.filter_append, List.length_append, List.length_append]
            have hcase : (List.filter (fun i => effW cc T i && decide (q < i)) [n]).length + (if q = n then 1 else 0) ≤ (List.filter (fun i => !S i && (cc[i]?).any fun c' => isEff c'.io) [n]).length := by
              by_cases hqn : q = n
              · subst hqn
                have := hZ q (by simp [h3])
                simp [List.filter_cons, this]
              · cases hz : effW cc T n && decide (q < n) with
                | false => simp [List.filter_cons, hz, hqn]
                | true =>
                  have hz2 : (effW cc T n && decide (q ≤ n)) = true := by
                    simp only [Bool.and_eq_true, decide_eq_true_eq] at hz ⊢
                    exact ⟨hz.1, by omega⟩
                  simp [List.filter_cons, hz, hqn, hZ n hz2]
            split at ih <;> split at hcase <;> split <;> omega
        have := key p
        rw [if_pos h2] at this
        exact this
      rw [e1, List.map_append, List.map_cons, List.reverse_append, List.reverse_cons]
      refine List.mem_take_iff_getElem.2 ⟨((List.range p).filter fun i => effW cc T i && decide (q < i)).length, ?_, ?_⟩
      · simp only [List.length_append, List.length_reverse, List.length_map, List.length_drop, List.length_cons, List.length_nil]
        omega
      · have hl : (((List.range p).filter (effW cc T)).drop (((List.range q).filter (effW cc T)).length + 1)).length = ((List.range p).filter fun i => effW cc T i && decide (q < i)).length := by
          rw [List.length_drop]; omega
        rw [List.getElem_append_left (by simp only [List.length_append, List.length_reverse, List.length_map, hl, List.length_cons, List.length_nil]; omega)]
        rw [List.getElem_append_right (by simp only [List.length_reverse, List.length_map, hl]; omega)]
        simp
    obtain ⟨g', hg'⟩ := asAhead_mem (t3 hW).2.1 hmem
    refine ⟨T.H q, g', fun i e k he hk => ?_, hg'⟩
    obtain ⟨g1, g2⟩ := res_some he
    have hi : i < T.L q := (List.getElem?_eq_some_iff.1 hk).1
    rcases hh i e k (by rw [res_lt hi]; exact g2) hk with ⟨x, k1, k2, k3⟩ | k1
    · exact .inl ⟨x, k1, k2, k3.mono (res_le (T.L_mono hm (by omega) (by omega)))⟩
    · exact .inr k1
  · refine ⟨T.H p, T.H (p + 1), inv.has hm hbp (by omega) fun q c' h1 h2 h3 h4 => ?_, (t3 hW).1⟩
    cases he : isEff c'.io with
    | false => rfl
    | true => exact absurd ⟨q, h1, h2, effW_iff.2 ⟨h4, c', h3, he⟩⟩ hx

end
end Go.Ir
