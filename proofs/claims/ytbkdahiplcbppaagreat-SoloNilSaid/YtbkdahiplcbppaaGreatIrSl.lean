/- Slices in the abstract heap: read, and made longer. -/
import Derived.Test.YtbkdahiplcbppaaGreatIrStep
set_option linter.unusedVariables false
set_option linter.unusedSimpArgs false
namespace Go.Ir

theorem flat_at {α : Type} {n : Nat} : ∀ {es : List (List α)} {i o : Nat} {e : List α}, (∀ e ∈ es, e.length = n) → es[i]? = some e → o < n → es.flatten[i * n + o]? = e[o]?
  | [], i, o, e, _, h, _ => by simp at h
  | x :: es, i, o, e, hl, h, ho => by
    have hx := hl x (by simp)
    cases i with
    | zero =>
      simp at h
      subst h
      simp [List.getElem?_append_left (show o < x.length by omega)]
    | succ i =>
      have ih := flat_at (es := es) (i := i) (o := o) (e := e) (fun e he => hl e (by simp [he])) (by simpa using h) ho
      rw [List.flatten_cons, List.getElem?_append_right (by rw [hx, Nat.add_mul]; omega), ← ih]
      congr 1
      rw [hx, Nat.add_mul]; omega

theorem flat_len {α : Type} {n : Nat} : ∀ {es : List (List α)}, (∀ e ∈ es, e.length = n) → es.flatten.length = es.length * n
  | [], _ => by simp
  | x :: es, hl => by
    rw [List.flatten_cons, List.length_append, flat_len (fun e he => hl e (by simp [he])), hl x (by simp), List.length_cons, Nat.add_mul]; omega

theorem flat_piece {α : Type} {n : Nat} {es : List (List α)} {i : Nat} {e : List α} (hl : ∀ e ∈ es, e.length = n) (hi : es[i]? = some e) : (es.flatten.drop (i * n)).take n = e := by
  have he := hl e (List.mem_of_getElem? hi)
  refine List.ext_getElem? fun o => ?_
  rw [List.getElem?_take]
  split
  · rename_i ho
    rw [List.getElem?_drop, flat_at hl hi ho]
  · rw [List.getElem?_eq_none (by omega)]

/-- v is a slice of these elements, each of n cells. -/
def Sl (h : Heap) (n : Nat) (v : Value) (es : List (List Value)) : Prop :=
  (∀ e ∈ es, e.length = n) ∧ ((es = [] ∧ ∃ base cap, v = .slice base 0 cap) ∨ ∃ a cap, v = .slice (some a) es.length cap ∧ ldN h a (es.length * n) = some es.flatten)

/-- The same below the older heap's end. -/
def Ext (h h' : Heap) : Prop := h.length ≤ h'.length ∧ ∀ i, i < h.length → h'[i]? = h[i]?

theorem Ext.refl (h : Heap) : Ext h h := ⟨Nat.le_refl _, fun _ _ => rfl⟩
theorem Ext.trans {h h' h'' : Heap} (a : Ext h h') (b : Ext h' h'') : Ext h h'' := ⟨Nat.le_trans a.1 b.1, fun i hi => (b.2 i (by have := a.1; omega)).trans (a.2 i hi)⟩
theorem Ext.app {h h' : Heap} (e : Ext h h') (k : List Blk) : Ext h (h' ++ k) := e.trans ⟨by simp, fun i hi => List.getElem?_append_left hi⟩
theorem Ext.set {h h' : Heap} (e : Ext h h') {i : Nat} {k : Blk} (hi : h.length ≤ i) : Ext h (h'.set i k) := ⟨by simpa using e.1, fun j hj => by rw [List.getElem?_set_ne (by omega)]; exact e.2 j hj⟩
theorem Ext.of_kp {h h' : Heap} (k : Kp h.length h h') : Ext h h' := ⟨k.len, k.keep (Nat.le_refl _)⟩

theorem ldN_some {h : Heap} {a : Addr} {n : Nat} {l : List Value} (hl : ldN h a n = some l) : ∃ cs ro, h[a.block]? = some (.row cs ro) ∧ a.off + n ≤ cs.length ∧ l = (cs.drop a.off).take n := by
  unfold ldN hrow at hl
  split at hl <;> try (cases hl; done)
  rename_i cs hcs
  split at hcs <;> try (cases hcs; done)
  rename_i cs' ro hb
  injection hcs with hcs; subst hcs
  obtain ⟨h1, h2⟩ := ifSome hl
  exact ⟨_, ro, hb, h1, h2.symm⟩

theorem ldN_of {h : Heap} {a : Addr} {n : Nat} {cs : List Value} {ro : Bool} (hb : h[a.block]? = some (.row cs ro)) (hle : a.off + n ≤ cs.length) : ldN h a n = some ((cs.drop a.off).take n) := by
  unfold ldN hrow
  rw [hb]
  simp [hle]

theorem ldN_whole {h : Heap} {a : Addr} {n : Nat} {cs : List Value} {ro : Bool} (hb : h[a.block]? = some (.row cs ro)) (ho : a.off = 0) (hn : n = cs.length) : ldN h a n = some cs := by
  rw [ldN_of hb (by omega), ho, hn]
  simp

theorem ldN_ext {h h' : Heap} (e : Ext h h') {a : Addr} {n : Nat} {l : List Value} (hl : ldN h a n = some l) : ldN h' a n = some l := by
  obtain ⟨cs, ro, hb, h1, h2⟩ := ldN_some hl
  have : h'[a.block]? = some (.row cs ro) := by rw [e.2 _ (List.getElem?_eq_some_iff.1 hb).1]; exact hb
  unfold ldN hrow
  rw [this]
  simp [h1, h2]

theorem Sl.ext {h h' : Heap} {n : Nat} {v : Value} {es : List (List Value)} (s : Sl h n v es) (e : Ext h h') : Sl h' n v es := by
  refine ⟨s.1, ?_⟩
  rcases s.2 with h1 | ⟨a, cap, h1, h2⟩
  · exact .inl h1
  · exact .inr ⟨a, cap, h1, ldN_ext e h2⟩

theorem Sl.len {h : Heap} {n : Nat} {v : Value} {es : List (List Value)} (s : Sl h n v es) : ∃ base cap, v = .slice base es.length cap := by
  rcases s.2 with ⟨h1, base, cap, h2⟩ | ⟨a, cap, h1, h2⟩
  · exact ⟨base, cap, by rw [h2, h1]; rfl⟩
  · exact ⟨some a, cap, h1⟩

/-- One element. -/
theorem Sl.at {h : Heap} {n : Nat} {v : Value} {es : List (List Value)} (s : Sl h n v es) {i : Nat} {e : List Value} (hi : es[i]? = some e) :
    ∃ a cap, v = .slice (some a) es.length cap ∧ (∀ o x, e[o]? = some x → loadV h none ⟨a.block, a.off + i * n + o, none⟩ = some x) ∧ loadV h (some n) ⟨a.block, a.off + i * n, none⟩ = some (.agg e.toArray) := by
  have hil := (List.getElem?_eq_some_iff.1 hi).1
  rcases s.2 with ⟨h1, base, cap, h2⟩ | ⟨a, cap, h1, h2⟩
  · subst h1; simp at hi
  · obtain ⟨cs, ro, hb, h3, h4⟩ := ldN_some h2
    have he := s.1 e (List.mem_of_getElem? hi)
    have hmul : i * n + n ≤ es.length * n := by rw [← Nat.succ_mul]; exact Nat.mul_le_mul_right n hil
    refine ⟨a, cap, h1, fun o x ho => ?_, ?_⟩
    · have hol : o < n := by rw [← he]; exact (List.getElem?_eq_some_iff.1 ho).1
      have := flat_at s.1 hi hol
      rw [h4, List.getElem?_take, if_pos (by omega), List.getElem?_drop, ho] at this
      simp only [loadV, ld1, hrow, hb]
      rw [Nat.add_assoc]; exact this
    · have := flat_piece s.1 hi
      rw [h4, List.drop_take, List.take_take, Nat.min_eq_left (by omega), List.drop_drop] at this
      simp only [loadV, ldN, hrow, hb]
      rw [if_pos (by omega), this]

/-- All elements by one address. -/
theorem Sl.row {h : Heap} {n : Nat} {v : Value} {es : List (List Value)} (s : Sl h n v es) (hne : es ≠ []) :
    ∃ a cap, v = .slice (some a) es.length cap ∧ ∀ (i : Nat) (e : List Value), es[i]? = some e →
      (∀ (o : Nat) x, e[o]? = some x → loadV h none ⟨a.block, a.off + i * n + o, none⟩ = some x) ∧ loadV h (some n) ⟨a.block, a.off + i * n, none⟩ = some (.agg e.toArray) := by
  rcases s.2 with ⟨h1, _⟩ | ⟨a, cap, h1, h2⟩
  · exact absurd h1 hne
  · refine ⟨a, cap, h1, fun i e hi => ?_⟩
    obtain ⟨a', cap', g1, g2, g3⟩ := s.at hi
    rw [h1] at g1
    injection g1 with g1
    injection g1 with g1
    subst g1
    exact ⟨g2, g3⟩

/-- A slice that is being built by appends. -/
def Out (H : Heap) (lo n : Nat) (v : Value) (es : List (List Value)) : Prop :=
  (∀ e ∈ es, e.length = n) ∧ ((es = [] ∧ v = .slice none 0 0) ∨ es ≠ [] ∧ ∃ b, v = .slice (some (loose b 0)) es.length n ∧ lo ≤ b ∧ H[b]? = some (.row es.flatten false))

theorem Out.sl {H : Heap} {lo n : Nat} {v : Value} {es : List (List Value)} (o : Out H lo n v es) : Sl H n v es := by
  refine ⟨o.1, ?_⟩
  rcases o.2 with ⟨h1, h2⟩ | ⟨h0, b, h1, h2, h3⟩
  · exact .inl ⟨h1, none, 0, h2⟩
  · refine .inr ⟨_, _, h1, ?_⟩
    exact ldN_whole (a := loose b 0) h3 rfl (flat_len o.1).symm

theorem Out.nil (H : Heap) (lo n : Nat) : Out H lo n (.slice none 0 0) [] := ⟨fun _ h => (by cases h), .inl ⟨rfl, rfl⟩⟩

theorem Out.app {H : Heap} {lo n : Nat} {v : Value} {es : List (List Value)} (o : Out H lo n v es) (k : Blk) : Out (H ++ [k]) lo n v es := by
  refine ⟨o.1, ?_⟩
  rcases o.2 with h1 | ⟨h0, b, h1, h2, h3⟩
  · exact .inl h1
  · exact .inr ⟨h0, b, h1, h2, by rw [List.getElem?_append_left (List.getElem?_eq_some_iff.1 h3).1]; exact h3⟩

/-- One element more. -/
theorem Out.push {H : Heap} {lo n bytes : Nat} {v : Value} {es : List (List Value)} {e : List Value} (o : Out H lo n v es) (he : e.length = n) (hlo : lo ≤ H.length) (hn : es.length + 1 ≤ 2 ^ 30) (hb : bytes ≤ 2 ^ 12) :
    ∃ v' H', iappend lo n bytes (H ++ [.row e false]) v (.slice (some ⟨H.length, 0, none⟩) 1 1) = some (v', H') ∧ Out H' lo n v' (es ++ [e]) ∧ (∀ h : Heap, h.length ≤ lo → Ext h H → Ext h H') := by
  have hsrc : ∀ m, m = 1 → srcCells (H ++ [.row e false]) n m (.slice (some ⟨H.length, 0, none⟩) 1 1) = some e := fun m hm => by
    subst hm
    unfold srcCells
    simp only
    rw [if_neg (by decide), ldN_whole (a := ⟨H.length, 0, none⟩) (cs := e) (ro := false) (List.getElem?_concat_length) rfl (by omega)]
  have hall : ∀ x ∈ es ++ [e], x.length = n := fun x hx => by
    rcases List.mem_append.1 hx with hx | hx
    · exact o.1 x hx
    · simp at hx; subst hx; exact he
  rcases o.2 with ⟨rfl, rfl⟩ | ⟨h0, b, rfl, h2, h3⟩
  · refine ⟨.slice (some (loose (H ++ [Blk.row e false]).length 0)) 1 n, H ++ [Blk.row e false] ++ [Blk.row e false], ?_, ⟨hall, .inr ⟨by simp, (H ++ [Blk.row e false]).length, by simp, by simp; omega, by rw [List.getElem?_concat_length]; simp⟩⟩, fun h hh he => (he.app _).app _⟩
    simp only [iappend, lenV, Nat.zero_add, hsrc 1 rfl]
    rw [if_pos ⟨by omega, hb⟩]
    simp
  · have hbl := (List.getElem?_eq_some_iff.1 h3).1
    have hfl := flat_len o.1
    have h3' : (H ++ [Blk.row e false])[b]? = some (.row es.flatten false) := by rw [List.getElem?_append_left hbl]; exact h3
    have hold : srcCells (H ++ [.row e false]) n es.length (.slice (some (loose b 0)) es.length n) = some es.flatten := by
      unfold srcCells
      simp only
      split
      · rename_i h0
        have : es = [] := List.length_eq_zero_iff.1 h0
        subst this; rfl
      · exact ldN_whole (a := loose b 0) h3' rfl hfl.symm
    refine ⟨.slice (some (loose (H ++ [Blk.row e false]).length 0)) (es.length + 1) n, (H ++ [Blk.row e false]).set b Blk.dead ++ [Blk.row (es.flatten ++ e) false], ?_,
      ⟨hall, .inr ⟨by simp, (H ++ [Blk.row e false]).length, by simp, by simp; omega, ?_⟩⟩, fun h hh hx => ((hx.app _).set (by omega)).app _⟩
    · simp only [iappend, lenV, hsrc 1 rfl]
      rw [if_pos ⟨hn, hb⟩]
      simp only [loose] at hold h3' ⊢
      simp only [hold, h3']
      simp [h2]
    · rw [List.getElem?_append_right (by simp)]
      simp

/-- .. where the slice's own row lies higher. -/
theorem Out.push2 {H : Heap} {l0 lo n bytes : Nat} {v : Value} {es : List (List Value)} {e : List Value} (o : Out H lo n v es) (he : e.length = n) (hl0 : l0 ≤ lo) (hlo : lo ≤ H.length) (hn : es.length + 1 ≤ 2 ^ 30) (hb : bytes ≤ 2 ^ 12) :
    ∃ v' H', iappend l0 n bytes (H ++ [.row e false]) v (.slice (some ⟨H.length, 0, none⟩) 1 1) = some (v', H') ∧ Out H' lo n v' (es ++ [e]) ∧ (∀ h : Heap, h.length ≤ lo → Ext h H → Ext h H') := by
  have hsrc : ∀ m, m = 1 → srcCells (H ++ [.row e false]) n m (.slice (some ⟨H.length, 0, none⟩) 1 1) = some e := fun m hm => by
    subst hm
    unfold srcCells
    simp only
    rw [if_neg (by decide), ldN_whole (a := ⟨H.length, 0, none⟩) (cs := e) (ro := false) (List.getElem?_concat_length) rfl (by omega)]
  have hall : ∀ x ∈ es ++ [e], x.length = n := fun x hx => by
    rcases List.mem_append.1 hx with hx | hx
    · exact o.1 x hx
    · simp at hx; subst hx; exact he
  rcases o.2 with ⟨rfl, rfl⟩ | ⟨h0, b, rfl, h2, h3⟩
  · refine ⟨.slice (some (loose (H ++ [Blk.row e false]).length 0)) 1 n, H ++ [Blk.row e false] ++ [Blk.row e false], ?_, ⟨hall, .inr ⟨by simp, (H ++ [Blk.row e false]).length, by simp, by simp; omega, by rw [List.getElem?_concat_length]; simp⟩⟩, fun h hh he => (he.app _).app _⟩
    simp only [iappend, lenV, Nat.zero_add, hsrc 1 rfl]
    rw [if_pos ⟨by omega, hb⟩]
    simp
  · have hbl := (List.getElem?_eq_some_iff.1 h3).1
    have hfl := flat_len o.1
    have h3' : (H ++ [Blk.row e false])[b]? = some (.row es.flatten false) := by rw [List.getElem?_append_left hbl]; exact h3
    have hold : srcCells (H ++ [.row e false]) n es.length (.slice (some (loose b 0)) es.length n) = some es.flatten := by
      unfold srcCells
      simp only
      split
      · rename_i h0
        have : es = [] := List.length_eq_zero_iff.1 h0
        subst this; rfl
      · exact ldN_whole (a := loose b 0) h3' rfl hfl.symm
    refine ⟨.slice (some (loose (H ++ [Blk.row e false]).length 0)) (es.length + 1) n, (H ++ [Blk.row e false]).set b Blk.dead ++ [Blk.row (es.flatten ++ e) false], ?_,
      ⟨hall, .inr ⟨by simp, (H ++ [Blk.row e false]).length, by simp, by simp; omega, ?_⟩⟩, fun h hh hx => ((hx.app _).set (by omega)).app _⟩
    · simp only [iappend, lenV, hsrc 1 rfl]
      rw [if_pos ⟨hn, hb⟩]
      simp only [loose] at hold h3' ⊢
      simp only [hold, h3']
      simp [show l0 ≤ b by omega]
    · rw [List.getElem?_append_right (by simp)]
      simp

section
variable {call : CallF} {lo : Nat} {f : Fr} {h h' : Heap} {v : Value}

theorem i_iaddr {esz : Nat} {x i : Operand} {a : Addr} {len cap : Nat} {k : IntKind} {j : Nat} (hx : ev f x = some (.slice (some a) len cap)) (hi : ev f i = some (.int k (j : Nat))) (hj : j < len) :
    iop call lo (.iaddr none esz x i) f h = some (.pointer (some ⟨a.block, a.off + j * esz, none⟩), h) := by
  simp only [iop, hx, hi]
  rw [if_pos ⟨by omega, by omega⟩]
  simp

theorem i_load {n : Option Nat} {x : Operand} {a : Addr} (hx : ev f x = some (.pointer (some a))) (hl : loadV h n a = some v) : iop call lo (.load n x) f h = some (v, h) := by
  simp only [iop, hx, hl]

theorem i_call {g : Nat} {xs : List Operand} {vs : List Value} {r : Value × Heap} (hx : evs f xs = some vs) (hc : call g vs h = some r) : iop call lo (.call g xs) f h = some r := by
  simp only [iop, hx, hc]

theorem i_append {esz bytes : Nat} {x y : Operand} {vx vy : Value} (hx : ev f x = some vx) (hy : ev f y = some vy) (ha : iappend lo esz bytes h vx vy = some (v, h')) : iop call lo (.append esz bytes x y) f h = some (v, h') := by
  simp only [iop, hx, hy, ha]
end

/-- What a call hands back that built a slice. -/
def made (h : Heap) (n : Nat) (es : List (List Value)) : Value × Heap :=
  if es = [] then (.slice none 0 0, h) else (.slice (some (loose h.length 0)) es.length n, h ++ [.row es.flatten false])

theorem Out.tidy {h H : Heap} {n : Nat} {v : Value} {es : List (List Value)} (o : Out H h.length n v es) (hf : ∀ e ∈ es, e.all flat1 = true) : Ir.tidy h v H = some (made h n es) := by
  rcases o.2 with ⟨rfl, rfl⟩ | ⟨h0, b, rfl, h2, h3⟩
  · simp [Ir.tidy, tidy1, made, flatV, flat1]
  · have hfl : es.flatten.all flat1 = true := by
      simp only [List.all_eq_true, List.mem_flatten]
      rintro x ⟨e, he, hx⟩
      exact List.all_eq_true.1 (hf e he) x hx
    simp only [Ir.tidy, tidy1, loose]
    rw [if_neg (by omega), h3]
    simp only
    rw [if_pos (by simpa using hfl)]
    unfold made
    rw [if_neg h0]
    rfl

theorem made_sl {h : Heap} {n : Nat} {es : List (List Value)} (hl : ∀ e ∈ es, e.length = n) : Sl (made h n es).2 n (made h n es).1 es ∧ Ext h (made h n es).2 := by
  unfold made
  split
  · rename_i he
    exact ⟨⟨hl, .inl ⟨he, none, 0, rfl⟩⟩, .refl _⟩
  · exact ⟨⟨hl, .inr ⟨_, _, rfl, ldN_whole (a := loose h.length 0) List.getElem?_concat_length rfl (flat_len hl).symm⟩⟩, (Ext.refl h).app _⟩

end Go.Ir
