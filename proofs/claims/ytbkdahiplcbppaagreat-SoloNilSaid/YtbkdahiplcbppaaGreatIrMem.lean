/- Operations on memory. -/
import Derived.Test.YtbkdahiplcbppaaGreatIrPure3
set_option linter.unusedVariables false
set_option linter.unusedSimpArgs false
namespace Go.Ir

/-! ### rows -/
theorem cell_row {w : World} {b : Nat} {C : Array Value} {t : TypeId} {fz : Nat × Nat} (hb : w.heap[b]? = some (.cells C t fz)) (o : Nat) : w.cell? ⟨b, o, none⟩ = C[o]? := by
  simp [World.cell?, hb]

theorem run_loadCells_row {P : Program} {w : World} {b : Nat} {C : Array Value} {t : TypeId} {fz : Nat × Nat} (hb : w.heap[b]? = some (.cells C t fz)) {o n : Nat} (hn : o + n ≤ C.size) :
    (loadCells ⟨b, o, none⟩ n).run P w = .ok ((C.toList.drop o).take n).toArray w := by
  have hl : ((C.toList.drop o).take n).length = n := by simp; omega
  have := run_loadCells_list (P := P) w ⟨b, o, none⟩ ((C.toList.drop o).take n) (fun j v hj => by
    rw [add_eq, cell_row hb]
    rw [List.getElem?_take] at hj
    split at hj
    · rw [List.getElem?_drop] at hj
      simpa using hj
    · cases hj)
  rw [hl] at this
  exact this

theorem take_drop_get {α : Type} (l : List α) (b n j : Nat) (hj : j < n) : ((l.drop b).take n)[j]? = l[b + j]? := by
  rw [List.getElem?_take, if_pos hj, List.getElem?_drop]

theorem sub_row {α : Type} (l : List α) (b m o n : Nat) (h : o + n ≤ m) : ((((l.drop b).take m).drop o).take n) = (l.drop (b + o)).take n := by
  apply List.ext_getElem?
  intro j
  by_cases hj : j < n
  · rw [take_drop_get _ _ _ _ hj, take_drop_get _ _ _ _ hj, take_drop_get _ _ _ _ (by omega)]
    congr 1
    omega
  · rw [List.getElem?_take, if_neg hj, List.getElem?_take, if_neg hj]

theorem sub_splice (l us : List Value) (b m o : Nat) (h : o + us.length ≤ m) (hm : b + m ≤ l.length) : ((splice l (b + o) us).drop b).take m = splice ((l.drop b).take m) o us := by
  apply List.ext_getElem?
  intro j
  by_cases hj : j < m
  · rw [take_drop_get _ _ _ _ hj]
    simp only [splice, List.getElem?_append, List.getElem?_take, List.getElem?_drop, List.length_append, List.length_take, List.length_drop]
    have e1 : min (b + o) l.length = b + o := by omega
    have e2 : min o (min m (l.length - b)) = o := by omega
    rw [e1, e2]
    by_cases h1 : j < o
    · simp [h1, show b + j < b + o by omega, show b + j < b + o + us.length by omega, show j < o + us.length by omega, hj]
    · by_cases h2 : j < o + us.length
      · simp [h1, h2, show ¬ b + j < b + o by omega, show b + j < b + o + us.length by omega, show b + j - (b + o) = j - o by omega]
      · simp [h1, h2, show ¬ b + j < b + o by omega, show ¬ b + j < b + o + us.length by omega]
        rw [if_pos (by omega)]
        congr 1
        omega
  · rw [List.getElem?_take, if_neg hj]
    rw [List.getElem?_eq_none]
    simp [splice]
    omega

theorem VRs.one {E : Emb} : ∀ {vs cs : List Value}, VRs E vs cs → vs.all oneA = true → ∀ c ∈ cs, c.oneCell' = true
  | _, _, .nil, _, c, hc => by cases hc
  | _, _, .cons v d vs cs hv hs, h, c, hc => by
    simp only [List.all_cons, Bool.and_eq_true] at h
    rcases List.mem_cons.1 hc with rfl | hc
    · cases hv <;> simp [oneA] at h <;> rfl
    · exact hs.one h.2 c hc

theorem setRow_same {w : World} {g : Nat} {C C' : Array Value} {t : TypeId} {fz : Nat × Nat} (hg : w.heap[g]? = some (.cells C t fz)) : (w.setRow g C').heap[g]? = some (.cells C' t fz) := by
  simp [World.setRow, Array.getElem?_modify, hg]

theorem setRow_other {w : World} {g b : Nat} {C' : Array Value} (h : b ≠ g) : (w.setRow g C').heap[b]? = w.heap[b]? := by
  simp only [World.setRow, Array.getElem?_modify]
  rw [if_neg (fun e => h e.symm)]

theorem setRow_size {w : World} {g : Nat} {C' : Array Value} : (w.setRow g C').heap.size = w.heap.size := by simp [World.setRow]

open Go.RowKit in
theorem Below.setRow {B : Nat} {w0 w : World} (h : Below B w0 w) {g : Nat} (hg : B ≤ g) (C' : Array Value) : Below B w0 (w.setRow g C') :=
  h.trans ⟨rfl, rfl, rfl, by rw [setRow_size]; exact Nat.le_refl _, fun k hk => setRow_other (by omega)⟩

/-! ### the relation over writes and new blocks -/
section
variable {B0 : Nat} {w0 : World} {E : Emb} {h : Heap} {w : World}

theorem isRo_false {k : Option Blk} (hk : isRo k = false) : True := trivial

/-- A write into a row of the call's own. -/
theorem Sim.write (s : Sim B0 w0 E h w) {i : Nat} {cs : List Value} (hi : h[i]? = some (.row cs false)) {x : Ent} (hx : E i = some (some x)) {C : Array Value} {t : TypeId}
    (hC : w.heap[x.b]? = some (.cells C t (0, 0))) (hsz : C.size = x.size) (hb : x.base + cs.length ≤ C.size) (hB : B0 ≤ x.b) (hcs : VRs E cs ((C.toList.drop x.base).take cs.length)) (hone : cs.all oneA = true)
    {off : Nat} {us ds : List Value} (hu : VRs E us ds) (huo : us.all oneA = true) (hl : off + us.length ≤ cs.length) :
    Sim B0 w0 E (h.set i (.row (splice cs off us) false)) (w.setRow x.b (splice C.toList (x.base + off) ds).toArray) ∧
      Later E w E (w.setRow x.b (splice C.toList (x.base + off) ds).toArray) := by
  have hilt : i < h.length := (List.getElem?_eq_some_iff.1 hi).1
  have hul := hu.length
  have hlen : (splice C.toList (x.base + off) ds).length = C.size := by rw [splice_length _ _ _ (by simp; omega)]; simp
  have hother : ∀ j y, j ≠ i → E j = some (some y) → y.b ≠ x.b := fun j y hj hy e => by
    have := (s.inj i j x y (fun e => hj e.symm) hx hy e.symm).1
    rw [hi] at this
    cases this
  constructor
  · refine ⟨Below.setRow s.below hB _, fun j hj => s.out j (by simpa using hj), fun j hj => ?_, fun j k hj hk => ?_, fun j j' y y' hne hy hy' he => ?_⟩
    · rw [List.getElem?_set] at hj
      split at hj
      · cases hj
      · exact s.dead j hj
    · by_cases hji : j = i
      · subst hji
        rw [List.getElem?_set_self hilt] at hj
        injection hj with hj
        subst hj
        refine ⟨x, hx, _, t, (0, 0), setRow_same hC, by simp [hlen, hsz], ?_, ?_, fun _ => ⟨hB, rfl⟩, oneA_splice off hone huo⟩
        · rw [splice_length _ _ _ hl]; simp [hlen]; omega
        · rw [splice_length _ _ _ hl]
          simp only [List.toList_toArray]
          rw [sub_splice _ _ _ _ _ (by omega) (by simp; omega)]
          exact hcs.splice hu off
      · rw [List.getElem?_set_ne (fun e => hji e.symm)] at hj
        obtain ⟨y, hy, hbr⟩ := s.live j k hj hk
        exact ⟨y, hy, hbr.world (setRow_other (hother j y hji hy))⟩
    · have := s.inj j j' y y' hne hy hy' he
      have h1 : j ≠ i := fun e => by subst e; rw [hi] at this; cases this.1
      have h2 : j' ≠ i := fun e => by subst e; rw [hi] at this; cases this.2
      rw [List.getElem?_set_ne (fun e => h1 e.symm), List.getElem?_set_ne (fun e => h2 e.symm)]
      exact this
  · exact ⟨Emb.le_refl E, fun j y hy => .inl ⟨j, y, hy, rfl⟩, by rw [setRow_size]; exact Nat.le_refl _, fun b hb hn => setRow_other (fun e => hn i x hx e.symm)⟩

def Emb.put (E : Emb) (n : Nat) (e : Option Ent) : Emb := fun i => if i = n then some e else E i

theorem Emb.put_same {n : Nat} {e : Option Ent} : E.put n e n = some e := by simp [Emb.put]
theorem Emb.put_other {n i : Nat} {e : Option Ent} (h : i ≠ n) : E.put n e i = E i := by simp [Emb.put, h]
theorem Emb.le_put {n : Nat} {e : Option Ent} (h : E n = none) : E.le (E.put n e) := fun i e' hi => by
  by_cases hin : i = n
  · subst hin; rw [h] at hi; cases hi
  · exact .inl (by rw [Emb.put_other hin]; exact hi)

/-- A new block, at the abstract heap's end. -/
theorem Sim.push (s : Sim B0 w0 E h w) {w' : World} {k : Blk} {x : Ent} (hk : k ≠ .dead) (hbw : Go.RowKit.Below B0 w0 w') (hold : ∀ b, b < w.heap.size → w'.heap[b]? = w.heap[b]?)
    (hsz : w.heap.size ≤ w'.heap.size) (hx : w.heap.size ≤ x.b) (hbr : BR B0 (E.put h.length (some x)) w' x k) :
    Sim B0 w0 (E.put h.length (some x)) (h ++ [k]) w' ∧ Later E w (E.put h.length (some x)) w' := by
  have hn : E h.length = none := s.out _ (Nat.le_refl _)
  have hle : E.le (E.put h.length (some x)) := Emb.le_put hn
  have hlt : ∀ j y, E j = some (some y) → y.b < w.heap.size := fun j y hy => by
    rcases s.ent hy with ⟨x', k', he, hj, hd, hb⟩ | ⟨he, _⟩
    · injection he with he; subst he; exact hb.lt hd
    · cases he
  have hjl : ∀ j e, E j = some e → j < h.length := fun j e hj => by
    rcases Nat.lt_or_ge j h.length with h1 | h1
    · exact h1
    · rw [s.out j h1] at hj; cases hj
  constructor
  · refine ⟨hbw, fun j hj => ?_, fun j hj => ?_, fun j k' hj hk' => ?_, fun j j' y y' hne hy hy' he => ?_⟩
    · simp at hj
      rw [Emb.put_other (by omega)]
      exact s.out j (by omega)
    · rw [List.getElem?_append] at hj
      split at hj
      · rename_i hjl'; rw [Emb.put_other (by omega)]; exact s.dead j hj
      · rename_i hjl'
        have : j - h.length = 0 := by
          rcases Nat.eq_zero_or_pos (j - h.length) with h0 | h0
          · exact h0
          · rw [List.getElem?_eq_none (by simp; omega)] at hj; cases hj
        rw [this] at hj
        simp at hj
        exact absurd hj hk
    · rw [List.getElem?_append] at hj
      split at hj
      · rename_i hjl'
        rw [Emb.put_other (by omega)]
        obtain ⟨y, hy, hb⟩ := s.live j k' hj hk'
        exact ⟨y, hy, (hb.mono hle).world (hold _ (hlt j y hy))⟩
      · rename_i hjl'
        have : j - h.length = 0 := by
          rcases Nat.eq_zero_or_pos (j - h.length) with h0 | h0
          · exact h0
          · rw [List.getElem?_eq_none (by simp; omega)] at hj; cases hj
        have hje : j = h.length := by omega
        rw [this] at hj
        simp at hj
        subst hj hje
        exact ⟨x, Emb.put_same, hbr⟩
    · by_cases h1 : j = h.length
      · subst h1
        rw [Emb.put_same] at hy
        rw [Emb.put_other (fun e => hne e.symm)] at hy'
        injection hy with hy; injection hy with hy; subst hy
        have := hlt j' y' hy'
        omega
      · by_cases h2 : j' = h.length
        · subst h2
          rw [Emb.put_same] at hy'
          rw [Emb.put_other h1] at hy
          injection hy' with hy'; injection hy' with hy'; subst hy'
          have := hlt j y hy
          omega
        · rw [Emb.put_other h1] at hy
          rw [Emb.put_other h2] at hy'
          have := s.inj j j' y y' hne hy hy' he
          rw [List.getElem?_append_left (hjl _ _ hy), List.getElem?_append_left (hjl _ _ hy')]
          exact this
  · refine ⟨hle, fun j y hy => ?_, hsz, fun b hb _ => hold b hb⟩
    by_cases h1 : j = h.length
    · subst h1
      rw [Emb.put_same] at hy
      injection hy with hy; injection hy with hy; subst hy
      exact .inr hx
    · rw [Emb.put_other h1] at hy
      exact .inl ⟨j, y, hy, rfl⟩

/-- A row that is used no more. -/
theorem Sim.kill (s : Sim B0 w0 E h w) {i : Nat} (hi : i < h.length) : Sim B0 w0 (E.put i none) (h.set i .dead) w ∧ Later E w (E.put i none) w := by
  have hle : E.le (E.put i none) := fun j e hj => by
    by_cases hji : j = i
    · subst hji; exact .inr Emb.put_same
    · exact .inl (by rw [Emb.put_other hji]; exact hj)
  constructor
  · refine ⟨s.below, fun j hj => ?_, fun j hj => ?_, fun j k hj hk => ?_, fun j j' y y' hne hy hy' he => ?_⟩
    · rw [Emb.put_other (by simp at hj; omega)]; exact s.out j (by simpa using hj)
    · by_cases hji : j = i
      · subst hji; exact Emb.put_same
      · rw [List.getElem?_set_ne (fun e => hji e.symm)] at hj
        rw [Emb.put_other hji]; exact s.dead j hj
    · have hji : j ≠ i := fun e => by
        subst e
        rw [List.getElem?_set_self hi] at hj
        injection hj with hj
        exact hk hj.symm
      rw [List.getElem?_set_ne (fun e => hji e.symm)] at hj
      rw [Emb.put_other hji]
      obtain ⟨y, hy, hb⟩ := s.live j k hj hk
      exact ⟨y, hy, hb.mono hle⟩
    · have h1 : j ≠ i := fun e => by subst e; rw [Emb.put_same] at hy; cases hy
      have h2 : j' ≠ i := fun e => by subst e; rw [Emb.put_same] at hy'; cases hy'
      rw [Emb.put_other h1] at hy
      rw [Emb.put_other h2] at hy'
      rw [List.getElem?_set_ne (fun e => h1 e.symm), List.getElem?_set_ne (fun e => h2 e.symm)]
      exact s.inj j j' y y' hne hy hy' he
  · refine ⟨hle, fun j y hy => ?_, Nat.le_refl _, fun _ _ _ => rfl⟩
    have h1 : j ≠ i := fun e => by subst e; rw [Emb.put_same] at hy; cases hy
    rw [Emb.put_other h1] at hy
    exact .inl ⟨j, y, hy, rfl⟩

end
end Go.Ir
