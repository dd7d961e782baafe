/- Regions, fourth part: one operation more. -/
import Derived.Test.YtbkdahiplcbppaaGreatIrReg3
set_option linter.unusedVariables false
set_option linter.unusedSimpArgs false
namespace Go.Ir

theorem put_get {a : Act} {d : Option Nat} {v : Value} {t : Nat} (h : ∀ e, d = some e → e < a.tmps.size) : (a.put d v).tmps.getD t undef = if d = some t then v else a.tmps.getD t undef := by
  cases d with
  | none => simp [Act.put]
  | some d =>
    have := h d rfl
    by_cases hd : d = t
    · subst hd
      simp [Act.put, Array.getD_eq_getD_getElem?, this]
    · have hne : ¬ (some d = some t) := fun e => hd (by injection e)
      simp [Act.put, Array.getD_eq_getD_getElem?, hne, Array.getElem?_setIfInBounds_ne hd]

theorem put_size {a : Act} {d : Option Nat} {v : Value} : (a.put d v).tmps.size = a.tmps.size := by cases d <;> simp [Act.put]
theorem put_defers {a : Act} {d : Option Nat} {v : Value} : (a.put d v).defers = a.defers := by cases d <;> rfl

section
variable {call : CallF} {lo : Nat} {cc : List COper} {ck : Nat → Nat} {f0 : Fr} {h0 : Heap}
variable {P : Program} {B0 : Nat} {w0 : World} {LB : List Nat} {nt : Nat} {ops : List Oper} {Ef : Emb} {wf : World} {D : List Deferred} {T : Tr call lo cc ck f0 h0} {S : Nat → Bool} {E : Emb} {bx : Nat → Nat} {b : Nat} {a : Act} {w : World}

theorem Sim.lt (s : Sim B0 w0 E h0 w) {j : Nat} {y : Ent} (hy : E j = some (some y)) : y.b < w.heap.size := by
  rcases s.ent hy with ⟨x', k', he, hj, hd, hb⟩ | ⟨he, _⟩
  · injection he with he; subst he; exact hb.lt hd
  · cases he

theorem Inv.lt (inv : Inv B0 w0 LB nt Ef wf D T S E bx b a w) {j : Nat} {y : Ent} (hy : E j = some (some y)) : y.b < w.heap.size := by
  rcases Nat.lt_or_ge j (T.L b) with h | h
  · exact inv.sim.lt (by rw [res_lt h]; exact hy)
  · obtain ⟨p, c, h1, h2, h3, h4, h5, h6⟩ := inv.only j h (by rw [hy]; simp)
    obtain ⟨x, k, g1, g2, g3, g4⟩ := inv.pend p c h1 h2 h3 h4 h5
    rw [← h6, hy] at g3
    injection g3 with g3
    injection g3 with g3
    subst g3
    exact g4.lt g2

/-- Nothing lies yet where an operation that is to come will lay its own. -/
theorem Inv.free (inv : Inv B0 w0 LB nt Ef wf D T S E bx b a w) (hm : CallMono call) {p : Nat} (hp : p < cc.length) (hS : S p = false) (hb : b ≤ p) {i : Nat} (h1 : T.L p ≤ i) (h2 : i < T.L (p + 1) ∨ (i = T.L p ∧ T.L p < T.L (p + 1))) : E i = none := by
  have h2' : i < T.L (p + 1) := by rcases h2 with h | ⟨h, h'⟩ <;> omega
  cases hE : E i with
  | none => rfl
  | some e =>
    obtain ⟨q, c, g1, g2, g3, g4, g5, g6⟩ := inv.only i (Nat.le_trans (T.L_mono hm hb (by omega)) h1) (by rw [hE]; simp)
    obtain ⟨x, k, k1, k2, k3, k4⟩ := inv.pend q c g1 g2 g3 g4 g5
    have hql : q < cc.length := (List.getElem?_eq_some_iff.1 g2).1
    have hq1 : T.L (q + 1) = T.L q + 1 := by simp [Tr.L, k1]
    rcases Nat.lt_trichotomy q p with h | h | h
    · have := T.L_mono hm (show q + 1 ≤ p by omega) (by omega)
      omega
    · subst h; rw [hS] at g3; cases g3
    · have := T.L_mono hm (show p + 1 ≤ q by omega) (by omega)
      omega

/-- The interpreter's heap at a place to which no effect is owed, with all that is made ahead of it. -/
theorem Inv.at (inv : Inv B0 w0 LB nt Ef wf D T S E bx b a w) (hm : CallMono call) {p : Nat} (hp : p ≤ cc.length) (hb : b ≤ p)
    (hall : ∀ q c', b ≤ q → q < p → cc[q]? = some c' → (isEff c'.io || isAlloc c'.io) = true → S q = true) (hsame : ∀ q c', b ≤ q → q < p → cc[q]? = some c' → isEff c'.io = false → isAlloc c'.io = false → T.H (q + 1) = T.H q) :
    Sim B0 w0 (res E (T.L p)) (T.H p) w := by
  induction p with
  | zero =>
    have : b = 0 := by omega
    subst this
    exact inv.sim
  | succ p ih =>
    by_cases hbp : b = p + 1
    · subst hbp; exact inv.sim
    · have hplt : p < cc.length := by omega
      have hc : cc[p]? = some cc[p] := List.getElem?_eq_getElem hplt
      have s := ih (by omega) (by omega) (fun q c' h1 h2 => hall q c' h1 (by omega)) (fun q c' h1 h2 => hsame q c' h1 (by omega))
      obtain ⟨t1, t2, t3, t4⟩ := T.step p cc[p] hc
      cases hW : T.W p with
      | false =>
        have := (t4 hW).2.1
        have hL : T.L (p + 1) = T.L p := by simp [Tr.L, this]
        rw [hL, this]
        exact s
      | true =>
        cases he : isEff (cc[p]).io with
        | true =>
          have hs := hall p cc[p] (by omega) (by omega) hc (by simp [he])
          have := inv.noeff p cc[p] (by omega) hc hs hW
          rw [he] at this; cases this
        | false =>
          cases hal : isAlloc (cc[p]).io with
          | false =>
            have := hsame p cc[p] (by omega) (by omega) hc he hal
            have hL : T.L (p + 1) = T.L p := by simp [Tr.L, this]
            rw [hL, this]
            exact s
          | true =>
            have hs := hall p cc[p] (by omega) (by omega) hc (by simp [hal])
            obtain ⟨x, k, k1, k2, k3, k4⟩ := inv.pend p cc[p] (by omega) hc hs hW hal
            have hL : T.L (p + 1) = T.L p + 1 := by simp [Tr.L, k1]
            have hput : res E (T.L (p + 1)) = (res E (T.L p)).put (T.H p).length (some x) := by
              funext i
              have hlen : (T.H p).length = T.L p := rfl
              rw [hL, hlen]
              by_cases hi : i = T.L p
              · subst hi
                rw [Emb.put_same, res_lt (by omega), k3]
              · rw [Emb.put_other hi]
                by_cases hi2 : i < T.L p
                · rw [res_lt (by omega), res_lt hi2]
                · rw [res_ge (by omega), res_ge (by omega)]
            rw [k1, hput]
            have hLb : T.L b ≤ T.L p := T.L_mono hm (by omega) (by omega)
            -- the block was made already: it is taken in
            refine ⟨s.below, fun j hj => ?_, fun j hj => ?_, fun j k' hj hk' => ?_, fun j j' y y' hne hy hy' he' => ?_⟩
            · simp at hj
              rw [Emb.put_other (by omega)]
              exact s.out j (by omega)
            · rw [List.getElem?_append] at hj
              split at hj
              · rename_i hjl; rw [Emb.put_other (by omega)]; exact s.dead j hj
              · rename_i hjl
                rcases Nat.eq_zero_or_pos (j - (T.H p).length) with h0 | h0
                · simp [h0] at hj; exact absurd hj k2
                · rw [List.getElem?_eq_none (by simp; omega)] at hj; cases hj
            · rw [List.getElem?_append] at hj
              split at hj
              · rename_i hjl
                rw [Emb.put_other (by omega)]
                obtain ⟨y, hy, hbr⟩ := s.live j k' hj hk'
                refine ⟨y, hy, hbr.mono (Emb.le_put (s.out _ (Nat.le_refl _)))⟩
              · rename_i hjl
                rcases Nat.eq_zero_or_pos (j - (T.H p).length) with h0 | h0
                · have hje : j = (T.H p).length := by omega
                  simp [h0] at hj
                  subst hj hje
                  exact ⟨x, Emb.put_same, by rw [← hput]; exact k4⟩
                · rw [List.getElem?_eq_none (by simp; omega)] at hj; cases hj
            · have fr : ∀ j y, (res E (T.L p)) j = some (some y) → x.b ≠ y.b := fun j y hy => by
                obtain ⟨g1, g2⟩ := res_some hy
                exact inv.fresh (T.L p) j x y hLb (by omega) k3 g2
              by_cases h1 : j = (T.H p).length
              · subst h1
                rw [Emb.put_same] at hy
                rw [Emb.put_other (fun e => hne e.symm)] at hy'
                injection hy with hy; injection hy with hy; subst hy
                exact absurd he' (fr j' y' hy')
              · by_cases h2 : j' = (T.H p).length
                · subst h2
                  rw [Emb.put_same] at hy'
                  rw [Emb.put_other h1] at hy
                  injection hy' with hy'; injection hy' with hy'; subst hy'
                  exact absurd he'.symm (fr j y hy)
                · rw [Emb.put_other h1] at hy
                  rw [Emb.put_other h2] at hy'
                  have := s.inj j j' y y' hne hy hy' he'
                  have l1 : j < (T.H p).length := (res_some hy).1
                  have l2 : j' < (T.H p).length := (res_some hy').1
                  rw [List.getElem?_append_left l1, List.getElem?_append_left l2]
                  exact this

end
end Go.Ir
