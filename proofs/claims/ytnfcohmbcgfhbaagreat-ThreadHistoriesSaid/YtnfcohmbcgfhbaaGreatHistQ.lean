/- Slices of slices as an argument. -/
import Derived.Test.YtnfcohmbcgfhbaaGreatIrD
import Derived.SizedLaws
import Derived.Test.YtnfcohmbcgfhbaaGreatThreadQ3
import Derived.Test.YtnfcohmbcgfhbaaGreatThreadP5
set_option linter.unusedVariables false
set_option linter.unusedSimpArgs false

namespace Go.Ir
open Go Go.ChangeShapes Go.WideShapes

theorem open_rowZ {P : Program} {S T n : Nat} {α : Type} [Inhabited α] (f : α → List Value) (hu : P.underlying S = some (.slice T)) (hcl : P.cellsOf T = n) (hn : 0 < n) (hf : ∀ a, (f a).length = n ∧ (f a).all flat1 = true ∧ (f a).all oneA = true)
  {H : Type} {enc : TypeId × Value → H} {W : World} {spare : Nat → Bool} {held : Bool}
  (op : ∀ {base k : Nat} {cs : List Value} {x : DataW H × List MemPlace}, DataW.trod enc P W base spare held k T cs = some x → ∃ a, cs = f a)
  {E : Emb} {h : Heap} (s : Sim W.heap.size W E h W) (hro : RoH h) {base k : Nat} {v0 : Value} {x : DataW H × List MemPlace} (hk : DataW.trod enc P W base spare held k S [v0] = some x) (hz : ∀ w ∈ x.1.weights P S, w ≤ reachBytes) :
  ∃ E' h' v l, Sim W.heap.size W E' h' W ∧ E.le E' ∧ RoH h' ∧ Ext h h' ∧ VR E' v v0 ∧ Sl h' n v (List.map f l) ∧ TightV v l.length ∧ l.length * P.bytesOf T ≤ reachBytes := by
 rcases Deep.open_slice hu hk with ⟨hc, _⟩ | ⟨a, len, cap, m, k', D, Pl, hc, _, hlc, _, hm, hx, hX⟩
 ·injection hc with hc
  subst hc
  exact ⟨E, h, .slice none 0 0, [], s, Emb.le_refl E, hro, .refl _, .slice0, ⟨fun e he => (by cases he), .inl ⟨rfl, none, 0, rfl⟩⟩, .inl ⟨rfl, rfl⟩, by simp⟩
 ·injection hc with hc
  subst hc
  simp only [hcl] at hX
  have hlm : len ≤ m := by
   rw [hm]; split <;> omega
  have hbd : len * P.bytesOf T ≤ reachBytes := by
   have := hz ((((List.range len).map D).length + ((List.range (m - len)).map fun j => D (len + j)).length) * P.bytesOf T) (by rw [hx]; simp [DataW.weights, hu])
   rw [List.length_map, List.length_range] at this
   exact Nat.le_trans (Nat.mul_le_mul_right _ (Nat.le_add_right _ _)) this
  obtain ⟨X, hXX⟩ := Deep.choose_lt (α := List Value) (n := len) (p := fun i cs => (∃ o : α, cs = f o) ∧ ∀ j, j < n → W.cell? (a.add (i * n + j)) = cs[j]?) (fun i hi => by
   obtain ⟨cs', g1, g2⟩ := hX i (by omega)
   obtain ⟨_, _, g3⟩ := World.cells?_some g1
   refine ⟨cs', op g2, fun j hj => ?_⟩
   have := g3 j hj
   rw [Deep.add_add] at this
   exact this)
  obtain ⟨O, hO⟩ := Deep.choose_lt (α := α) (n := len) (p := fun i o => X i = f o) (fun i hi => (hXX i hi).1)
  obtain ⟨E', h', v, s1, s2, s3, s4, s5, s6, s7⟩ := arg_push (a := a) (len := len) (cap := cap) (n := n) s hro hlc X hn (fun i hi => by rw [hO i hi]; exact ⟨(hf _).1, (hf _).2.2⟩) (fun i j x hi hj => by
   have hjn : j < n := by
    have := (List.getElem?_eq_some_iff.1 hj).1
    rw [hO i hi, (hf _).1] at this
    exact this
   refine ⟨x, by rw [(hXX i hi).2 j hjn, hj], VR.flat ?_⟩
   rw [hO i hi] at hj
   have := List.all_eq_true.1 (hf (O i)).2.1 x (List.mem_of_getElem? hj)
   unfold flatV
   split <;> simp_all [flat1])
  refine ⟨E', h', v, (List.range len).map O, s1, s2, s3, s4, s5, ?_, by simpa using s7, by rw [List.length_map, List.length_range]; exact hbd⟩
  have : List.map f ((List.range len).map O) = (List.range len).map X := by
   rw [List.map_map]
   exact List.map_congr_left fun i hi => (hO i (by simpa using hi)).symm
  rw [this]
  exact s6

theorem weights_all {H : Type} {P : Program} {e : TypeId} : ∀ {l : List (DataW H)} {d : DataW H}, d ∈ l → ∀ w ∈ d.weights P e, w ∈ DataW.weightsAll P e l
 | [], _, h, _, _ => by cases h
 | a :: r, d, h, w, hw => by
   unfold DataW.weightsAll
   rcases List.mem_cons.1 h with rfl | h
   ·exact List.mem_append_left _ hw
   ·exact List.mem_append_right _ (weights_all h w hw)

theorem open_rows {P : Program} {S T U n : Nat} {α : Type} [Inhabited α] (f : α → List Value) (hu : P.underlying S = some (.slice T)) (hu1 : P.underlying T = some (.slice U)) (hcT : P.cellsOf T = 1) (hcl : P.cellsOf U = n) (hn : 0 < n) (hf : ∀ a, (f a).length = n ∧ (f a).all flat1 = true ∧ (f a).all oneA = true)
  {H : Type} {enc : TypeId × Value → H} {W : World} {spare : Nat → Bool} {held : Bool}
  (op : ∀ {base k : Nat} {cs : List Value} {x : DataW H × List MemPlace}, DataW.trod enc P W base spare held k U cs = some x → ∃ a, cs = f a)
  {E : Emb} {h : Heap} (s : Sim W.heap.size W E h W) (hro : RoH h) {b0 base : Nat} {r : Reach} {v0 : Value} {d0 : DataW H} {p0 : List MemPlace} (hval : Value.okWide P W r b0 S v0) (hd : DataW.Trod enc P W base spare held S v0 d0 p0) (hz : ∀ w ∈ d0.weights P S, w ≤ reachBytes) :
  ∃ E' h' v, ∃ l : List (Value × List α), Sim W.heap.size W E' h' W ∧ E.le E' ∧ RoH h' ∧ Ext h h' ∧ VR E' v v0 ∧ Sl h' 1 v (l.map fun p => [p.1]) ∧ TightV v l.length ∧ l.length * P.bytesOf T ≤ reachBytes ∧
   ∀ p ∈ l, Sl h' n p.1 (List.map f p.2) ∧ TightV p.1 p.2.length ∧ p.2.length * P.bytesOf U ≤ reachBytes := by
 obtain ⟨p, len, cap, rfl⟩ := okWide_slice hu hval
 obtain ⟨k, hk⟩ := hd
 rcases Deep.open_slice1 hu hcT hk with ⟨hc, _⟩ | ⟨a, len', cap', m, k', C, D, Pl, hc, _, hlc, _, hm, hx, hX⟩
 ·have hc : Value.slice p len cap = .slice none 0 0 := by simpa [Value.cells] using hc
  injection hc with e1 e2 e3
  subst e1 e2 e3
  exact ⟨E, h, .slice none 0 0, [], s, Emb.le_refl E, hro, .refl _, .slice0, ⟨fun e he => (by cases he), .inl ⟨rfl, none, 0, rfl⟩⟩, .inl ⟨rfl, rfl⟩, by simp, fun p hp => (by cases hp)⟩
 ·have hc : Value.slice p len cap = .slice (some a) len' cap' := by simpa [Value.cells] using hc
  injection hc with e1 e2 e3
  subst e1 e2 e3
  injection hx with hx _
  subst hx
  have hlm : len ≤ m := by
   rw [hm]; split <;> omega
  have hzi : ∀ i, i < len → ∀ w ∈ (D i).weights P T, w ≤ reachBytes := fun i hi w hw => by
   refine hz w ?_
   simp only [DataW.weights, hu]
   refine List.mem_cons_of_mem _ (List.mem_append_left _ (weights_all (List.mem_map.2 ⟨i, by simpa using hi, rfl⟩) w hw))
  have key : ∀ k, k ≤ len → ∃ E' h', ∃ (V : Nat → Value) (L : Nat → List α), Sim W.heap.size W E' h' W ∧ E.le E' ∧ RoH h' ∧ Ext h h' ∧
    ∀ i, i < k → VR E' (V i) (C i) ∧ Sl h' n (V i) ((L i).map f) ∧ TightV (V i) (L i).length ∧ (L i).length * P.bytesOf U ≤ reachBytes := by
   intro k
   induction k with
   | zero => exact fun _ => ⟨E, h, fun _ => .slice none 0 0, fun _ => [], s, Emb.le_refl E, hro, .refl _, fun i hi => absurd hi (Nat.not_lt_zero i)⟩
   | succ k ih =>
     intro hk1
     obtain ⟨E1, h1, V, L, s1, le1, ro1, ex1, al1⟩ := ih (by omega)
     obtain ⟨E2, h2, v, l, s2, le2, ro2, ex2, vr2, sl2, ti2, bd2⟩ := open_rowZ f hu1 hcl hn hf op s1 ro1 (hX k (by omega)).2 (hzi k (by omega))
     refine ⟨E2, h2, fun i => if i = k then v else V i, fun i => if i = k then l else L i, s2, Emb.le_trans le1 le2, ro2, ex1.trans ex2, fun i hi => ?_⟩
     by_cases he : i = k
     ·subst he
      simp only [if_true]
      exact ⟨vr2, sl2, ti2, bd2⟩
     ·simp only [if_neg he]
      obtain ⟨g1, g2, g3, g4⟩ := al1 i (by omega)
      exact ⟨g1.mono le2, g2.ext ex2, g3, g4⟩
  obtain ⟨E1, h1, V, L, s1, le1, ro1, ex1, al1⟩ := key len (Nat.le_refl _)
  obtain ⟨E2, h2, v, q1, q2, q3, q4, q5, q6, q7⟩ := arg_push (a := a) (len := len) (cap := cap) (n := 1) s1 ro1 hlc (fun i => [V i]) (by decide) (fun i hi => ⟨rfl, by
   obtain ⟨b, c, hb⟩ := (al1 i hi).2.1.len
   simp only [hb]
   rfl⟩) (fun i j x hi hj => by
   have hj0 : j = 0 := by
    have := (List.getElem?_eq_some_iff.1 hj).1
    simp at this
    omega
   subst hj0
   injection hj with hj
   subst hj
   exact ⟨C i, by rw [Nat.mul_one, Nat.add_zero]; exact (hX i (by omega)).1, (al1 i hi).1⟩)
  refine ⟨E2, h2, v, (List.range len).map fun i => (V i, L i), q1, Emb.le_trans le1 q2, q3, ex1.trans q4, q5, ?_, by simpa using q7, ?_, fun p hp => ?_⟩
  ·rw [List.map_map]; exact q6
  ·have := hz ((((List.range len).map D).length + ((List.range (m - len)).map fun j => D (len + j)).length) * P.bytesOf T) (by simp [DataW.weights, hu])
   rw [List.length_map, List.length_range] at this ⊢
   exact Nat.le_trans (Nat.mul_le_mul_right _ (Nat.le_add_right _ _)) this
  ·obtain ⟨i, hi, rfl⟩ := List.mem_map.1 hp
   obtain ⟨g1, g2, g3, g4⟩ := al1 i (by simpa using hi)
   exact ⟨g2.ext q4, g3, g4⟩
end Go.Ir

/- Rows that are built; blocks that stay; ops of many threads. -/
namespace Go.Proofs.YtnfcohmbcgfhbaaGreat
open Go Go.Ir

def OutB (H : Heap) (v : Value) (es : List (List Value)) (k : Nat) : Prop :=
 (∀ e ∈ es, e.length = 8) ∧ ((es = [] ∧ v = .slice none 0 0) ∨ (es ≠ [] ∧ v = .slice (some (loose k 0)) es.length 8 ∧ H[k]? = some (.row es.flatten false)))
theorem OutB.sl {H : Heap} {v : Value} {es : List (List Value)} {k : Nat} (o : OutB H v es k) : Sl H 8 v es := by
 refine ⟨o.1, ?_⟩
 rcases o.2 with ⟨h1, h2⟩ | ⟨h0, h1, h3⟩
 ·exact .inl ⟨h1, none, 0, h2⟩
 ·exact .inr ⟨_, _, h1, ldN_whole (a := loose k 0) h3 rfl (flat_len o.1).symm⟩
theorem OutB.keep {H H' : Heap} {v : Value} {es : List (List Value)} {k : Nat} (o : OutB H v es k) (h : es ≠ [] → H'[k]? = H[k]?) : OutB H' v es k := by
 refine ⟨o.1, ?_⟩
 rcases o.2 with h1 | ⟨h0, h1, h3⟩
 ·exact .inl h1
 ·exact .inr ⟨h0, h1, (h h0).trans h3⟩
theorem OutB.lt {H : Heap} {v : Value} {es : List (List Value)} {k : Nat} (o : OutB H v es k) (h : es ≠ []) : k < H.length := by
 rcases o.2 with h1 | ⟨h0, h1, h3⟩
 ·exact absurd h1.1 h
 ·exact hlt_of h3
theorem OutB.same {H : Heap} {v : Value} {es : List (List Value)} {k : Nat} (o : OutB H v es k) : sameV v v = true := by
 rcases o.2 with ⟨_, rfl⟩ | ⟨_, rfl, _⟩ <;> simp [sameV, same1, sameA]
theorem OutB.one {H : Heap} {v : Value} {es : List (List Value)} {k : Nat} (o : OutB H v es k) : vcells v = [v] := by
 rcases o.2 with ⟨_, rfl⟩ | ⟨_, rfl, _⟩ <;> rfl
theorem Arr.same {H : Heap} {v : Value} {l : List Nat} {k : Nat} (h : Arr H v l k) : sameV v v = true := by
 rcases h with ⟨_, rfl⟩ | ⟨_, rfl, _⟩ <;> simp [sameV, same1, sameA]
theorem Arr.one {H : Heap} {v : Value} {l : List Nat} {k : Nat} (h : Arr H v l k) : vcells v = [v] := by
 rcases h with ⟨_, rfl⟩ | ⟨_, rfl, _⟩ <;> rfl
theorem outb_more {H : Heap} {v u : Value} {es fs : List (List Value)} {k : Nat} (o : OutB H v es k) (s : Sl H 8 u fs) (hn : es.length + fs.length ≤ 2 ^ 30) :
  ∃ v' k' H', iappend 0 8 64 H v u = some (v', H') ∧ OutB H' v' (es ++ fs) k' ∧ ((es ≠ [] ∧ k' = k) ∨ H.length ≤ k') ∧ H.length ≤ H'.length ∧ ∀ x, x < H.length → (es = [] ∨ x ≠ k) → H'[x]? = H[x]? := by
 have hall : ∀ x ∈ es ++ fs, x.length = 8 := fun x hx => by
  rcases List.mem_append.1 hx with hx | hx
  ·exact o.1 x hx
  ·exact s.1 x hx
 by_cases hf : fs = []
 ·subst hf
  obtain ⟨ub, uc, hu⟩ := s.len
  subst hu
  rw [List.append_nil]
  rcases o.2 with ⟨h1, h2⟩ | ⟨h0, h1, h3⟩
  ·subst h1 h2
   exact ⟨.slice none 0 0, H.length, H, by cases ub <;> simp [iappend, lenV, srcCells], ⟨o.1, .inl ⟨rfl, rfl⟩⟩, .inr (Nat.le_refl _), Nat.le_refl _, fun _ _ _ => rfl⟩
  ·refine ⟨v, k, H, ?_, o, .inl ⟨h0, rfl⟩, Nat.le_refl _, fun _ _ _ => rfl⟩
   subst h1
   have hle : es.length ≤ 2 ^ 30 := by simpa using hn
   simp only [iappend, lenV, List.length_nil, Nat.add_zero]
   rw [if_pos (.inl ⟨hle, by decide⟩)]
   cases ub <;> simp [srcCells, loose]
 ·rcases s.2 with ⟨h1, _⟩ | ⟨a, cap, h1, h2⟩
  ·exact absurd h1 hf
  subst h1
  have hf0 : ¬ fs.length = 0 := fun e => hf (List.length_eq_zero_iff.1 e)
  have hsrc : srcCells H 8 fs.length (.slice (some a) fs.length cap) = some fs.flatten := by
   unfold srcCells
   simp only
   rw [if_neg hf0]
   exact h2
  rcases o.2 with ⟨h1, h2⟩ | ⟨h0, h1, h3⟩
  ·subst h1 h2
   refine ⟨.slice (some (loose H.length 0)) fs.length 8, H.length, H ++ [.row fs.flatten false], ?_, ⟨hall, .inr ⟨hf, rfl, by rw [List.getElem?_concat_length]; rfl⟩⟩, .inr (Nat.le_refl _), by simp, fun x hx _ => List.getElem?_append_left hx⟩
   simp only [iappend, lenV, hsrc, List.length_nil, Nat.zero_add]
   rw [if_pos (.inl ⟨by simpa using hn, by decide⟩), if_neg hf0]
  ·subst h1
   have hbl := hlt_of h3
   have hel : ¬ es.length = 0 := fun e => h0 (List.length_eq_zero_iff.1 e)
   have hold : srcCells H 8 es.length (.slice (some (loose k 0)) es.length 8) = some es.flatten := by
    unfold srcCells
    simp only
    rw [if_neg hel]
    exact ldN_whole (a := loose k 0) h3 rfl (flat_len o.1).symm
   refine ⟨.slice (some (loose H.length 0)) (es.length + fs.length) 8, H.length, H.set k .dead ++ [.row (es.flatten ++ fs.flatten) false], ?_, ⟨hall, .inr ⟨by simp [h0], by simp, ?_⟩⟩, .inr (Nat.le_refl _), by simp, fun x hx hk => ?_⟩
   ·simp only [iappend, lenV, hsrc]
    rw [if_pos (.inl ⟨hn, by decide⟩)]
    simp only [loose] at hold h3 ⊢
    simp only [hold, h3, if_neg hf0]
    simp
   ·rw [List.getElem?_append_right (by simp)]
    simp
   ·have hkx : x ≠ k := hk.resolve_left h0
    rw [List.getElem?_append_left (by rw [List.length_set]; exact hx), List.getElem?_set_ne (Ne.symm hkx)]

def Calm0 (H H' : Heap) (g g' : Nat → Nat) : Prop := H.length ≤ H'.length ∧ ∀ x, x < H.length → g' x = g x ∧ (g x = 0 ∨ g x = 3 → H'[x]? = H[x]?)
theorem Calm0.refl (H : Heap) (g : Nat → Nat) : Calm0 H H g g := ⟨Nat.le_refl _, fun x _ => ⟨rfl, fun _ => rfl⟩⟩
theorem Calm0.trans {H H1 H2 : Heap} {g g1 g2 : Nat → Nat} (a : Calm0 H H1 g g1) (b : Calm0 H1 H2 g1 g2) : Calm0 H H2 g g2 :=
 ⟨Nat.le_trans a.1 b.1, fun x hx => by
   have hx1 := Nat.lt_of_lt_of_le hx a.1
   exact ⟨((b.2 x hx1).1).trans (a.2 x hx).1, fun h => ((b.2 x hx1).2 (by rw [(a.2 x hx).1]; exact h)).trans ((a.2 x hx).2 h)⟩⟩
theorem Stp.calm0 {T : Nat → Prop} {H H' : Heap} {g g' : Nat → Nat} (s : Stp T H H' g g') (h0 : T 0) (h3 : T 3) : Calm0 H H' g g' :=
 ⟨s.len, fun x hx => ⟨s.tag x hx, fun h => s.same x hx (by rcases h with h | h <;> rw [h] <;> assumption)⟩⟩
theorem PInv.cells' {T : Nat → Prop} {H H' : Heap} {g g' : Nat → Nat} {c : Cfg} {cb : CB} {ws bs ws' bs' : List Int} {ts : List Th} {pb : List Nat} (h : PInv H g c cb ws bs ts pb) (hC : IsC H' cb ws' bs') (s : Stp T H H' g g') (h0 : T 0) (hi : ∀ i, T (4 + 2 * i)) : PInv H' g' c cb ws' bs' ts pb :=
 have lc := ltC h.cells
 ⟨hC, ⟨(s.tag _ lc.1).trans h.tc.1, (s.tag _ lc.2.1).trans h.tc.2.1, (s.tag _ lc.2.2).trans h.tc.2.2⟩, h.len, fun i t b ht hb => (h.th i t b ht hb).keep s h0 (hi i)⟩

structure Pgs (h : Heap) (v : Value) (l : List (Value × List Op4)) : Prop where
 sl : Sl h 1 v (l.map fun p => [p.1])
 each : ∀ p ∈ l, Sl h 4 p.1 (ocs p.2) ∧ TightV p.1 p.2.length ∧ p.2.length * 32 ≤ 2 ^ 47
theorem Pgs.ext {h h' : Heap} {v : Value} {l : List (Value × List Op4)} (p : Pgs h v l) (e : Ext h h') : Pgs h' v l := ⟨p.sl.ext e, fun q hq => ⟨(p.each q hq).1.ext e, (p.each q hq).2⟩⟩
theorem Pgs.at {h : Heap} {v : Value} {l : List (Value × List Op4)} (p : Pgs h v l) {i : Nat} {q : Value × List Op4} (hi : l[i]? = some q) :
  ∃ a cap, v = .slice (some a) l.length cap ∧ loadV h none ⟨a.block, a.off + i * 1, none⟩ = some q.1 := by
 obtain ⟨a, cap, h1, h2, _⟩ := p.sl.at (i := i) (e := [q.1]) (by rw [List.getElem?_map, hi]; rfl)
 rw [List.length_map] at h1
 exact ⟨a, cap, h1, h2 0 q.1 rfl⟩

def opsAt (l : List (Value × List Op4)) (i : Nat) : List Op4 := match l[i]? with | some q => q.2 | none => []
def tsW (c : Cfg) (l : List (Value × List Op4)) (n : Nat) : List Th := (List.range n).map fun (i : Nat) => th0 i (opsOf c i (opsAt l i))
theorem tsW_succ (c : Cfg) (l : List (Value × List Op4)) (n : Nat) : tsW c l (n + 1) = tsW c l n ++ [th0 n (opsOf c n (opsAt l n))] := by
 unfold tsW
 rw [List.range_succ, List.map_append]
 rfl
def Old (h H : Heap) (g : Nat → Nat) : Prop := h.length ≤ H.length ∧ ∀ x, x < h.length → g x = 0 ∧ H[x]? = h[x]?
theorem Old.ext {h H : Heap} {g : Nat → Nat} (o : Old h H g) : Ext h H := ⟨o.1, fun x hx => (o.2 x hx).2⟩
theorem Old.calm {h H H' : Heap} {g g' : Nat → Nat} (o : Old h H g) (s : Calm0 H H' g g') : Old h H' g' :=
 ⟨Nat.le_trans o.1 s.1, fun x hx => by
   have hx1 := Nat.lt_of_lt_of_le hx o.1
   exact ⟨(s.2 x hx1).1.trans (o.2 x hx).1, ((s.2 x hx1).2 (.inl (o.2 x hx).1)).trans (o.2 x hx).2⟩⟩
def kcs (l : List Int) : List (List Value) := l.map fun n => [I n]
theorem kcs_length (l : List Int) : (kcs l).length = l.length := by simp [kcs]
theorem kcs_at {h : Heap} {v : Value} {l : List Int} (hv : Sl h 1 v (kcs l)) {i : Nat} {q : Int} (hi : l[i]? = some q) :
  ∃ a cap, v = .slice (some a) l.length cap ∧ loadV h none ⟨a.block, a.off + i * 1, none⟩ = some (I q) := by
 obtain ⟨a, cap, h1, h2, _⟩ := hv.at (i := i) (e := [I q]) (by unfold kcs; rw [List.getElem?_map, hi]; rfl)
 rw [kcs_length] at h1
 exact ⟨a, cap, h1, h2 0 _ rfl⟩
def lens (l : List (Value × List Op4)) : Nat := (l.map fun p => p.2.length).sum
theorem lens_take {l : List (Value × List Op4)} {i : Nat} {q : Value × List Op4} (hi : l[i]? = some q) : lens (l.take (i + 1)) = lens (l.take i) + q.2.length := by
 obtain ⟨hil, he⟩ := List.getElem?_eq_some_iff.1 hi
 rw [List.take_succ_eq_append_getElem hil, he]
 simp [lens]
theorem lens_le : ∀ {l : List (Value × List Op4)} {q : Value × List Op4}, q ∈ l → q.2.length ≤ lens l
 | p :: r, q, h => by
   have e : lens (p :: r) = p.2.length + lens r := by simp [lens]
   rw [e]
   rcases List.mem_cons.1 h with rfl | h
   ·omega
   ·have := lens_le h; omega
theorem lens_bd {l : List (Value × List Op4)} {B : Nat} (h : ∀ p ∈ l, p.2.length ≤ B) : lens l ≤ l.length * B := by
 induction l with
 | nil => simp [lens]
 | cons p r ih =>
   have e : lens (p :: r) = p.2.length + lens r := by simp [lens]
   rw [e, List.length_cons, Nat.add_mul]
   have := ih fun q hq => h q (List.mem_cons_of_mem _ hq)
   have := h p (List.mem_cons_self ..)
   omega

end Go.Proofs.YtnfcohmbcgfhbaaGreat

/- What becomes of an entry's word by a thread's step: plain. -/
namespace Go.Proofs.YtnfcohmbcgfhbaaGreat
open Go Go.Ir

theorem getI_set {ws : List Int} {i j v : Int} (h : i ≠ j) : getI (setI ws i v) j = getI ws j := by
 unfold setI
 split
 ·rename_i hi
  unfold getI
  rw [List.length_set]
  by_cases hj : 0 ≤ j ∧ j < ws.length
  ·rw [if_pos hj, if_pos hj, List.getD_eq_getElem?_getD, List.getD_eq_getElem?_getD, List.getElem?_set_ne (by omega)]
  ·rw [if_neg hj, if_neg hj]
 ·rfl
theorem getI_set_same {ws : List Int} {i v : Int} (h0 : 0 ≤ i) (h1 : i < ws.length) : getI (setI ws i v) i = v := by
 unfold setI
 rw [if_pos ⟨h0, h1⟩]
 unfold getI
 rw [List.length_set, if_pos ⟨h0, h1⟩, List.getD_eq_getElem?_getD, List.getElem?_set_self (by omega)]
 rfl
def okW (w : Int) : Prop := ∃ e, unpackE w = some e
def noPin (w : Int) : Prop := ∃ e, unpackE w = some e ∧ e.p = 0
def Tr (w w' : Int) : Prop := w' = w ∨ noPin w' ∨ ∃ e e', unpackE w = some e ∧ unpackE w' = some e' ∧ e'.o = e.o ∧ e'.g = e.g
theorem Tr.ok {w w' : Int} (h : okW w) (t : Tr w w') : okW w' := by
 rcases t with rfl | ⟨e, h1, _⟩ | ⟨e, e', _, h2, _⟩
 ·exact h
 ·exact ⟨e, h1⟩
 ·exact ⟨e', h2⟩
def TrAll (c : Cfg) (ws ws' : List Int) : Prop := ∀ s, 0 ≤ s → s < c.S → Tr (getI ws (slotI c s 0)) (getI ws' (slotI c s 0))
section
variable {c : Cfg} {ws bs : List Int}
theorem TrAll.refl : TrAll c ws ws := fun s _ _ => .inl rfl
end
end Go.Proofs.YtnfcohmbcgfhbaaGreat

