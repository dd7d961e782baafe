/- Operations that write (but calls), second part. -/
import Derived.Test.YtbkdahiplcbppaaGreatIrMem4
set_option linter.unusedVariables false
set_option linter.unusedSimpArgs false
namespace Go.Ir

theorem splice_tail (C us : List Value) (o k : Nat) (h : o + k + us.length ≤ C.length) : ((splice C (o + k) us).drop o).take (k + us.length) = (C.drop o).take k ++ us := by
  apply List.ext_getElem?
  intro j
  by_cases hj : j < k + us.length
  · rw [take_drop_get _ _ _ _ hj]
    simp only [splice, List.getElem?_append, List.getElem?_take, List.getElem?_drop, List.length_append, List.length_take, List.length_drop]
    have e1 : min (o + k) C.length = o + k := by omega
    have e2 : min k (C.length - o) = k := by omega
    rw [e1, e2]
    by_cases h1 : j < k
    · simp [h1, show o + j < o + k by omega, show o + j < o + k + us.length by omega]
    · simp [h1, show ¬ o + j < o + k by omega, show o + j < o + k + us.length by omega, show o + j - (o + k) = j - k by omega]
  · rw [List.getElem?_take, if_neg hj, List.getElem?_eq_none]
    simp
    omega

section
variable {P : Program} {LB : List Nat} {E : Emb} {f : Fr} {a : Act} {call : CallF} {lo : Nat} {h h' : Heap} {v : Value} {w w0 : World} {B0 : Nat}

theorem Has.world {F : Emb} {w' : World} (hh : Has B0 F h w) (he : w'.heap = w.heap) : Has B0 F h w' := fun i e k hi hk => by
  rcases hh i e k hi hk with ⟨x, h1, h3, h4⟩ | h1
  · exact .inl ⟨x, h1, h3, h4.world (by rw [he])⟩
  · exact .inr h1

/-- A row's place is used for another row. -/
theorem Sim.reuse (s : Sim B0 w0 E h w) {i : Nat} {cs cs' : List Value} (hi : h[i]? = some (.row cs false)) {x : Ent} (hx : E i = some (some x)) {C C' : Array Value} {t : TypeId}
    (hC : w.heap[x.b]? = some (.cells C t (0, 0))) (hB : B0 ≤ x.b) (hsz : C'.size = C.size) (hxs : C.size = x.size) {o : Nat} (hb : o + cs'.length ≤ C'.size)
    (hr : VRs E cs' ((C'.toList.drop o).take cs'.length)) (ho : cs'.all oneA = true) :
    Sim B0 w0 ((E.put i none).put h.length (some ⟨x.b, o, x.size⟩)) (h.set i .dead ++ [.row cs' false]) (w.setRow x.b C') ∧
      Later E w ((E.put i none).put h.length (some ⟨x.b, o, x.size⟩)) (w.setRow x.b C') := by
  have hilt : i < h.length := (List.getElem?_eq_some_iff.1 hi).1
  have hother : ∀ j y, j ≠ i → E j = some (some y) → y.b ≠ x.b := fun j y hj hy e => by
    have := (s.inj i j x y (fun e => hj e.symm) hx hy e.symm).1
    rw [hi] at this
    cases this
  obtain ⟨s1, l1⟩ := s.kill hilt
  have hn : E.put i none h.length = none := by rw [Emb.put_other (by omega)]; exact s.out _ (Nat.le_refl _)
  have hle2 : (E.put i none).le ((E.put i none).put h.length (some ⟨x.b, o, x.size⟩)) := Emb.le_put hn
  have hle : E.le ((E.put i none).put h.length (some ⟨x.b, o, x.size⟩)) := Emb.le_trans l1.le hle2
  have hjl : ∀ j e, E.put i none j = some e → j < h.length := fun j e hj => by
    rcases Nat.lt_or_ge j h.length with h1 | h1
    · exact h1
    · rw [Emb.put_other (by omega), s.out j h1] at hj; cases hj
  constructor
  · refine ⟨Below.setRow s.below hB _, fun j hj => ?_, fun j hj => ?_, fun j k hj hk => ?_, fun j j' y y' hne hy hy' he => ?_⟩
    · simp at hj
      rw [Emb.put_other (by omega), Emb.put_other (by omega)]
      exact s.out j (by omega)
    · rw [List.getElem?_append] at hj
      split at hj
      · rename_i hjl'; simp at hjl'; rw [Emb.put_other (by omega)]; exact s1.dead j hj
      · rename_i hjl'
        simp at hjl'
        rcases Nat.eq_zero_or_pos (j - h.length) with h0 | h0
        · simp [h0] at hj
        · rw [List.getElem?_eq_none (by simp; omega)] at hj; cases hj
    · rw [List.getElem?_append] at hj
      split at hj
      · rename_i hjl'
        simp at hjl'
        rw [Emb.put_other (by omega)]
        obtain ⟨y, hy, hbr⟩ := s1.live j k hj hk
        have hji : j ≠ i := fun e => by subst e; rw [Emb.put_same] at hy; cases hy
        refine ⟨y, hy, (hbr.mono hle2).world (setRow_other (hother j y hji ?_))⟩
        rw [Emb.put_other hji] at hy
        exact hy
      · rename_i hjl'
        simp at hjl'
        rcases Nat.eq_zero_or_pos (j - h.length) with h0 | h0
        · have hje : j = h.length := by omega
          simp [h0] at hj
          subst hj hje
          exact ⟨_, Emb.put_same, C', t, (0, 0), setRow_same hC, by simp [hsz, hxs], hb, hr.mono hle, fun _ => ⟨hB, rfl⟩, ho⟩
        · rw [List.getElem?_eq_none (by simp; omega)] at hj; cases hj
    · by_cases h1 : j = h.length
      · subst h1
        rw [Emb.put_same] at hy
        rw [Emb.put_other (fun e => hne e.symm)] at hy'
        injection hy with hy; injection hy with hy; subst hy
        have hji : j' ≠ i := fun e => by subst e; rw [Emb.put_same] at hy'; cases hy'
        rw [Emb.put_other hji] at hy'
        exact absurd he.symm (hother j' y' hji hy')
      · by_cases h2 : j' = h.length
        · subst h2
          rw [Emb.put_same] at hy'
          rw [Emb.put_other h1] at hy
          injection hy' with hy'; injection hy' with hy'; subst hy'
          have hji : j ≠ i := fun e => by subst e; rw [Emb.put_same] at hy; cases hy
          rw [Emb.put_other hji] at hy
          exact absurd he (hother j y hji hy)
        · rw [Emb.put_other h1] at hy
          rw [Emb.put_other h2] at hy'
          have := s1.inj j j' y y' hne hy hy' he
          rw [List.getElem?_append_left (by simp; exact hjl _ _ hy), List.getElem?_append_left (by simp; exact hjl _ _ hy')]
          exact this
  · refine ⟨hle, fun j y hy => ?_, by rw [setRow_size]; exact Nat.le_refl _, fun b hb hn => setRow_other (fun e => hn i x hx e.symm)⟩
    by_cases h1 : j = h.length
    · subst h1
      rw [Emb.put_same] at hy
      injection hy with hy; injection hy with hy; subst hy
      exact .inl ⟨i, x, hx, rfl⟩
    · rw [Emb.put_other h1] at hy
      have hji : j ≠ i := fun e => by subst e; rw [Emb.put_same] at hy; cases hy
      rw [Emb.put_other hji] at hy
      exact .inl ⟨j, y, hy, rfl⟩

theorem drew_sim (s : Sim B0 w0 E h w) : Sim B0 w0 E h w.drew :=
  ⟨s.below.drew, s.out, s.dead, fun i k hi hk => by obtain ⟨x, hx, hb⟩ := s.live i k hi hk; exact ⟨x, hx, hb.world rfl⟩, s.inj⟩

/-- A row that an append made. -/
theorem Sim.grown (s : Sim B0 w0 E h w) {cs : List Value} {C rest : Array Value} {t : TypeId} (hB : B0 ≤ w.heap.size) (hr : VRs E cs C.toList) (ho : cs.all oneA = true) :
    Sim B0 w0 (E.put h.length (some ⟨w.heap.size, 0, (C ++ rest).size⟩)) (h ++ [.row cs false]) (w.drew.alloc (.cells (C ++ rest) t)) ∧
      Later E w (E.put h.length (some ⟨w.heap.size, 0, (C ++ rest).size⟩)) (w.drew.alloc (.cells (C ++ rest) t)) := by
  have hl := hr.length
  simp at hl
  refine s.push (by simp) ((s.below.drew).alloc hB _) (fun b hb => ?_) (by simp) (Nat.le_refl _) ?_
  · show (w.heap.push _)[b]? = _
    rw [Array.getElem?_push, if_neg (by omega)]
  · refine ⟨C ++ rest, t, (0, 0), alloc_heap w.drew _, rfl, by simp; omega, ?_, fun _ => ⟨hB, rfl⟩, ho⟩
    simp only [List.drop_zero, Array.toList_append]
    rw [List.take_append_of_le_length (by simp; omega), List.take_of_length_le (by simp; omega)]
    exact hr.mono (Emb.le_put (s.out _ (Nat.le_refl _)))

end
end Go.Ir
