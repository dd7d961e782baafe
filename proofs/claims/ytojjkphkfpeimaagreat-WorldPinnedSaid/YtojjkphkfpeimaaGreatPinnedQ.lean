/- Slices of slices as an argument. -/
import Derived.Test.YtojjkphkfpeimaaGreatIrD
import Derived.SizedLaws
import Derived.Test.YtojjkphkfpeimaaGreatThreadQ3
import Derived.Test.YtojjkphkfpeimaaGreatThreadP5
import Derived.Test.YtojjkphkfpeimaaGreatWorldI
import Derived.Test.YtojjkphkfpeimaaGreatThreadP3
set_option linter.unusedVariables false
set_option linter.unusedSimpArgs false

namespace Go.Ir
open Go Go.ChangeShapes Go.WideShapes

theorem qqG {P : Program} {S T n : Nat} {α : Type} [Inhabited α] (f : α → List Value) (hu : P.underlying S = some (.slice T)) (hcl : P.cellsOf T = n) (hn : 0 < n) (hf : ∀ a, (f a).length = n ∧ (f a).all flat1 = true ∧ (f a).all qad = true)
  {H : Type} {enc : TypeId × Value → H} {W : World} {spare : Nat → Bool} {held : Bool}
  (op : ∀ {base k : Nat} {cs : List Value} {x : DataW H × List MemPlace}, DataW.trod enc P W base spare held k T cs = some x → ∃ a, cs = f a)
  {E : Emb} {h : qab} (s : Sim W.heap.size W E h W) (hro : RoH h) {base k : Nat} {v0 : Value} {x : DataW H × List MemPlace} (hk : DataW.trod enc P W base spare held k S [v0] = some x) (hz : ∀ w ∈ x.1.weights P S, w ≤ reachBytes) :
  ∃ E' h' v l, Sim W.heap.size W E' h' W ∧ E.le E' ∧ RoH h' ∧ Ext h h' ∧ VR E' v v0 ∧ Sl h' n v (List.map f l) ∧ qiv v l.length ∧ l.length * P.bytesOf T ≤ reachBytes := by
 rcases Deep.open_slice hu hk with ⟨hc, _⟩ | ⟨a, len, cap, m, k', D, Pl, hc, _, hlc, _, hm, hx, hX⟩
 ·injection hc with hc
  subst hc
  exact ⟨E, h, .slice none 0 0, [], s, Emb.le_refl E, hro, .refl _, .slice0, ⟨fun e he => (by cases he), .inl ⟨rfl, none, 0, rfl⟩⟩, .inl ⟨rfl, rfl⟩, by simp⟩
 ·injection hc with hc
  subst hc
  simp only [hcl] at hX
  have hlm : len ≤ m := by
   rw [hm]; split <;> omega
  have hbd : len * P.bytesOf T ≤ reachBytes := by
   have := hz ((((List.range len).map D).length + ((List.range (m - len)).map fun j => D (len + j)).length) * P.bytesOf T) (by rw [hx]; simp [DataW.weights, hu])
   rw [List.length_map, List.length_range] at this
   exact Nat.le_trans (Nat.mul_le_mul_right _ (Nat.le_add_right _ _)) this
  obtain ⟨X, hXX⟩ := Deep.choose_lt (α := List Value) (n := len) (p := fun i cs => (∃ o : α, cs = f o) ∧ ∀ j, j < n → W.cell? (a.add (i * n + j)) = cs[j]?) (fun i hi => by
   obtain ⟨cs', g1, g2⟩ := hX i (by omega)
   obtain ⟨_, _, g3⟩ := World.cells?_some g1
   refine ⟨cs', op g2, fun j hj => ?_⟩
   have := g3 j hj
   rw [Deep.add_add] at this
   exact this)
  obtain ⟨O, hO⟩ := Deep.choose_lt (α := α) (n := len) (p := fun i o => X i = f o) (fun i hi => (hXX i hi).1)
  obtain ⟨E', h', v, s1, s2, s3, s4, s5, s6, s7⟩ := qiD (a := a) (len := len) (cap := cap) (n := n) s hro hlc X hn (fun i hi => by rw [hO i hi]; exact ⟨(hf _).1, (hf _).2.2⟩) (fun i j x hi hj => by
   have hjn : j < n := by
    have := (List.getElem?_eq_some_iff.1 hj).1
    rw [hO i hi, (hf _).1] at this
    exact this
   refine ⟨x, by rw [(hXX i hi).2 j hjn, hj], VR.flat ?_⟩
   rw [hO i hi] at hj
   have := List.all_eq_true.1 (hf (O i)).2.1 x (List.mem_of_getElem? hj)
   unfold qae
   split <;> simp_all [flat1])
  refine ⟨E', h', v, (List.range len).map O, s1, s2, s3, s4, s5, ?_, by simpa using s7, by rw [List.length_map, List.length_range]; exact hbd⟩
  have : List.map f ((List.range len).map O) = (List.range len).map X := by
   rw [List.map_map]
   exact List.map_congr_left fun i hi => (hO i (by simpa using hi)).symm
  rw [this]
  exact s6

theorem qqH {H : Type} {P : Program} {e : TypeId} : ∀ {l : List (DataW H)} {d : DataW H}, d ∈ l → ∀ w ∈ d.weights P e, w ∈ DataW.weightsAll P e l
 | [], _, h, _, _ => by cases h
 | a :: r, d, h, w, hw => by
   unfold DataW.weightsAll
   rcases List.mem_cons.1 h with rfl | h
   ·exact List.mem_append_left _ hw
   ·exact List.mem_append_right _ (qqH h w hw)

theorem qqI {P : Program} {S T U n : Nat} {α : Type} [Inhabited α] (f : α → List Value) (hu : P.underlying S = some (.slice T)) (hu1 : P.underlying T = some (.slice U)) (hcT : P.cellsOf T = 1) (hcl : P.cellsOf U = n) (hn : 0 < n) (hf : ∀ a, (f a).length = n ∧ (f a).all flat1 = true ∧ (f a).all qad = true)
  {H : Type} {enc : TypeId × Value → H} {W : World} {spare : Nat → Bool} {held : Bool}
  (op : ∀ {base k : Nat} {cs : List Value} {x : DataW H × List MemPlace}, DataW.trod enc P W base spare held k U cs = some x → ∃ a, cs = f a)
  {E : Emb} {h : qab} (s : Sim W.heap.size W E h W) (hro : RoH h) {b0 base : Nat} {r : Reach} {v0 : Value} {d0 : DataW H} {p0 : List MemPlace} (hval : Value.okWide P W r b0 S v0) (hd : DataW.Trod enc P W base spare held S v0 d0 p0) (hz : ∀ w ∈ d0.weights P S, w ≤ reachBytes) :
  ∃ E' h' v, ∃ l : List (Value × List α), Sim W.heap.size W E' h' W ∧ E.le E' ∧ RoH h' ∧ Ext h h' ∧ VR E' v v0 ∧ Sl h' 1 v (l.map fun p => [p.1]) ∧ qiv v l.length ∧ l.length * P.bytesOf T ≤ reachBytes ∧
   ∀ p ∈ l, Sl h' n p.1 (List.map f p.2) ∧ qiv p.1 p.2.length ∧ p.2.length * P.bytesOf U ≤ reachBytes := by
 obtain ⟨p, len, cap, rfl⟩ := okWide_slice hu hval
 obtain ⟨k, hk⟩ := hd
 rcases Deep.open_slice1 hu hcT hk with ⟨hc, _⟩ | ⟨a, len', cap', m, k', C, D, Pl, hc, _, hlc, _, hm, hx, hX⟩
 ·have hc : Value.slice p len cap = .slice none 0 0 := by simpa [Value.cells] using hc
  injection hc with e1 e2 e3
  subst e1 e2 e3
  exact ⟨E, h, .slice none 0 0, [], s, Emb.le_refl E, hro, .refl _, .slice0, ⟨fun e he => (by cases he), .inl ⟨rfl, none, 0, rfl⟩⟩, .inl ⟨rfl, rfl⟩, by simp, fun p hp => (by cases hp)⟩
 ·have hc : Value.slice p len cap = .slice (some a) len' cap' := by simpa [Value.cells] using hc
  injection hc with e1 e2 e3
  subst e1 e2 e3
  injection hx with hx _
  subst hx
  have hlm : len ≤ m := by
   rw [hm]; split <;> omega
  have hzi : ∀ i, i < len → ∀ w ∈ (D i).weights P T, w ≤ reachBytes := fun i hi w hw => by
   refine hz w ?_
   simp only [DataW.weights, hu]
   refine List.mem_cons_of_mem _ (List.mem_append_left _ (qqH (List.mem_map.2 ⟨i, by simpa using hi, rfl⟩) w hw))
  have key : ∀ k, k ≤ len → ∃ E' h', ∃ (V : Nat → Value) (L : Nat → List α), Sim W.heap.size W E' h' W ∧ E.le E' ∧ RoH h' ∧ Ext h h' ∧
    ∀ i, i < k → VR E' (V i) (C i) ∧ Sl h' n (V i) ((L i).map f) ∧ qiv (V i) (L i).length ∧ (L i).length * P.bytesOf U ≤ reachBytes := by
   intro k
   induction k with
   | zero => exact fun _ => ⟨E, h, fun _ => .slice none 0 0, fun _ => [], s, Emb.le_refl E, hro, .refl _, fun i hi => absurd hi (Nat.not_lt_zero i)⟩
   | succ k ih =>
     intro hk1
     obtain ⟨E1, h1, V, L, s1, le1, ro1, ex1, al1⟩ := ih (by omega)
     obtain ⟨E2, h2, v, l, s2, le2, ro2, ex2, vr2, sl2, ti2, bd2⟩ := qqG f hu1 hcl hn hf op s1 ro1 (hX k (by omega)).2 (hzi k (by omega))
     refine ⟨E2, h2, fun i => if i = k then v else V i, fun i => if i = k then l else L i, s2, Emb.le_trans le1 le2, ro2, ex1.trans ex2, fun i hi => ?_⟩
     by_cases he : i = k
     ·subst he
      simp only [if_true]
      exact ⟨vr2, sl2, ti2, bd2⟩
     ·simp only [if_neg he]
      obtain ⟨g1, g2, g3, g4⟩ := al1 i (by omega)
      exact ⟨g1.mono le2, g2.ext ex2, g3, g4⟩
  obtain ⟨E1, h1, V, L, s1, le1, ro1, ex1, al1⟩ := key len (Nat.le_refl _)
  obtain ⟨E2, h2, v, q1, q2, q3, q4, q5, q6, q7⟩ := qiD (a := a) (len := len) (cap := cap) (n := 1) s1 ro1 hlc (fun i => [V i]) (by decide) (fun i hi => ⟨rfl, by
   obtain ⟨b, c, hb⟩ := (al1 i hi).2.1.len
   simp only [hb]
   rfl⟩) (fun i j x hi hj => by
   have hj0 : j = 0 := by
    have := (List.getElem?_eq_some_iff.1 hj).1
    simp at this
    omega
   subst hj0
   injection hj with hj
   subst hj
   exact ⟨C i, by rw [Nat.mul_one, Nat.add_zero]; exact (hX i (by omega)).1, (al1 i hi).1⟩)
  refine ⟨E2, h2, v, (List.range len).map fun i => (V i, L i), q1, Emb.le_trans le1 q2, q3, ex1.trans q4, q5, ?_, by simpa using q7, ?_, fun p hp => ?_⟩
  ·rw [List.map_map]; exact q6
  ·have := hz ((((List.range len).map D).length + ((List.range (m - len)).map fun j => D (len + j)).length) * P.bytesOf T) (by simp [DataW.weights, hu])
   rw [List.length_map, List.length_range] at this ⊢
   exact Nat.le_trans (Nat.mul_le_mul_right _ (Nat.le_add_right _ _)) this
  ·obtain ⟨i, hi, rfl⟩ := List.mem_map.1 hp
   obtain ⟨g1, g2, g3, g4⟩ := al1 i (by simpa using hi)
   exact ⟨g2.ext q4, g3, g4⟩
end Go.Ir

/- What becomes of an entry's word by a thread's step: plain. -/
namespace Go.Proofs.YtojjkphkfpeimaaGreat
open Go Go.Ir

theorem qqJ {ws : List Int} {i j v : Int} (h : i ≠ j) : qiV (qiW ws i v) j = qiV ws j := by
 unfold qiW
 split
 ·rename_i hi
  unfold qiV
  rw [List.length_set]
  by_cases hj : 0 ≤ j ∧ j < ws.length
  ·rw [if_pos hj, if_pos hj, List.getD_eq_getElem?_getD, List.getD_eq_getElem?_getD, List.getElem?_set_ne (by omega)]
  ·rw [if_neg hj, if_neg hj]
 ·rfl
theorem qqK {ws : List Int} {i v : Int} (h0 : 0 ≤ i) (h1 : i < ws.length) : qiV (qiW ws i v) i = v := by
 unfold qiW
 rw [if_pos ⟨h0, h1⟩]
 unfold qiV
 rw [List.length_set, if_pos ⟨h0, h1⟩, List.getD_eq_getElem?_getD, List.getElem?_set_self (by omega)]
 rfl
theorem qqL {ws : List Int} {i v : Int} (h : qi6 ws i v = true) : 0 ≤ i ∧ i < ws.length ∧ qiV ws i = v := by
 unfold qi6 at h
 simp only [Bool.and_eq_true, decide_eq_true_eq] at h
 refine ⟨h.1.1, h.1.2, ?_⟩
 unfold qiV
 rw [if_pos h.1]
 exact h.2
theorem qqM {c : Cfg} {s t j k : Int} (hs : 0 ≤ s) (h1 : s < c.S) (hT : 0 ≤ c.T) (hj : 0 ≤ j ∧ j ≤ 2) (hk : 0 ≤ k ∧ k ≤ 2) (h : j ≠ k) : qjm c t j ≠ qjm c s k := by
 unfold qjm
 rw [if_pos (show 0 ≤ s ∧ s < c.S from ⟨hs, h1⟩)]
 split <;> omega
theorem qqN {c : Cfg} {s t k : Int} (hs : 0 ≤ s) (h1 : s < c.S) (hT : 0 ≤ c.T) (hk : 0 ≤ k) (h : qjm c t k = qjm c s k) : t = s := by
 unfold qjm at h
 rw [if_pos (show 0 ≤ s ∧ s < c.S from ⟨hs, h1⟩)] at h
 split at h <;> omega
theorem qqO {c : Cfg} {s k : Int} (hs : 0 ≤ s) (h1 : s < c.S) (hk : 0 ≤ k) (hT : 0 ≤ c.T) : 4 + c.T ≤ qjm c s k := by
 unfold qjm
 rw [if_pos (show 0 ≤ s ∧ s < c.S from ⟨hs, h1⟩)]
 omega
theorem qqP (c : Cfg) (t : Int) : qju c t < 4 + c.T ∨ qju c t = -1 := by
 unfold qju
 split <;> omega

def okW (w : Int) : Prop := ∃ e, qj0 w = some e
def qqQ (w : Int) : Prop := ∃ e, qj0 w = some e ∧ e.p = 0
def Tr (w w' : Int) : Prop := w' = w ∨ qqQ w' ∨ ∃ e e', qj0 w = some e ∧ qj0 w' = some e' ∧ e'.o = e.o ∧ e'.g = e.g
theorem Tr.ok {w w' : Int} (h : okW w) (t : Tr w w') : okW w' := by
 rcases t with rfl | ⟨e, h1, _⟩ | ⟨e, e', _, h2, _⟩
 ·exact h
 ·exact ⟨e, h1⟩
 ·exact ⟨e', h2⟩
theorem qqR : qqQ 0 := ⟨Ent.zero, by decide, rfl⟩
theorem qqS {e : Ent} (h : e.p = 0) : qqQ (qoW e) := by
 unfold qoW
 split
 ·rename_i hm
  exact ⟨e, qj4 hm, h⟩
 ·exact qqR
theorem qqT {F : Ent → Int × Ent} (w : Int) (h : ∀ e, (F e).1 = 0 → (F e).2.p = 0 ∨ (F e).2.o = e.o ∧ (F e).2.g = e.g) : qqQ (chE w F).1 ∨ ∃ e e', qj0 w = some e ∧ qj0 (chE w F).1 = some e' ∧ e'.o = e.o ∧ e'.g = e.g := by
 unfold chE
 cases hu : qj0 w with
 | none => exact .inl qqR
 | some e =>
   simp only
   by_cases h1 : e.lv = true
   ·rw [if_pos h1]
    by_cases h2 : (F e).1 = 0
    ·rw [if_pos h2]
     by_cases h3 : (F e).2.may
     ·rw [if_pos h3]
      rcases h e h2 with q | q
      ·exact .inl ⟨_, qj4 h3, q⟩
      ·exact .inr ⟨e, _, rfl, qj4 h3, q⟩
     ·rw [if_neg h3]; exact .inl qqR
    ·rw [if_neg h2]; exact .inl qqR
   ·rw [if_neg h1]; exact .inl qqR
theorem qqU (w b : Int) : Tr w (chE w (qmk b)).1 := .inr (qqT w fun e he => by
 unfold qmk at he ⊢
 split
 ·rename_i h; rw [if_pos h] at he; simp at he
 ·exact .inr ⟨rfl, rfl⟩)
theorem qqV (w : Int) (un : Bool) : Tr w (chE w (qoA un)).1 := .inr (qqT w fun e he => by
 cases un with
 | true =>
   show (qmj e).2.p = 0 ∨ _
   have he : (qmj e).1 = 0 := he
   unfold qmj at he
   split at he
   ·simp at he
   ·rename_i h
    exact .inr (by show (qmj e).2.o = e.o ∧ (qmj e).2.g = e.g; unfold qmj; rw [if_neg h]; exact ⟨rfl, rfl⟩)
 | false =>
   have he : (qmi e).1 = 0 := he
   refine .inr ?_
   show (qmi e).2.o = e.o ∧ (qmi e).2.g = e.g
   unfold qmi
   repeat' split
   all_goals exact ⟨rfl, rfl⟩)
theorem qqW (w : Int) : qqQ (chE w qn0).1 := by
 rcases qqT (F := qn0) w (fun e he => .inl (by
  unfold qn0 at he ⊢
  split
  ·rename_i h; rw [if_pos h] at he; simp at he
  ·rfl)) with h | ⟨e, e', h1, h2, h3⟩
 ·exact h
 ·unfold chE at h2 ⊢
  rw [h1] at h2 ⊢
  simp only at h2 ⊢
  split at h2
  ·rename_i hv
   rw [if_pos hv]
   split at h2
   ·rename_i hz
    rw [if_pos hz]
    split at h2
    ·rename_i hm
     rw [if_pos hm]
     refine ⟨_, qj4 hm, ?_⟩
     unfold qn0 at hz ⊢
     split
     ·rename_i h; rw [if_pos h] at hz; simp at hz
     ·rfl
    ·rename_i hm; rw [if_neg hm]; exact qqR
   ·rename_i hz; rw [if_neg hz]; exact qqR
  ·rename_i hv; rw [if_neg hv]; exact qqR
def TrAll (c : Cfg) (ws ws' : List Int) : Prop := ∀ s, 0 ≤ s → s < c.S → Tr (qiV ws (qjm c s 0)) (qiV ws' (qjm c s 0))
section
variable {c : Cfg} {ws bs : List Int}
theorem TrAll.refl : TrAll c ws ws := fun s _ _ => .inl rfl
theorem qqX (hT : 0 ≤ c.T) {i v : Int} (h : i < 4 + c.T) : TrAll c ws (qiW ws i v) := fun s h0 h1 => by
 have := qqO (c := c) h0 h1 (k := 0) (Int.le_refl _) hT
 exact .inl (qqJ (by omega))
theorem qqY (hT : 0 ≤ c.T) {t k v : Int} (hk : 1 ≤ k ∧ k ≤ 2) : TrAll c ws (qiW ws (qjm c t k) v) := fun s h0 h1 => .inl (qqJ (qqM h0 h1 hT (by omega) (by omega) (by omega)))
theorem qqZ (hT : 0 ≤ c.T) {t v : Int} (h : Tr (qiV ws (qjm c t 0)) v) : TrAll c ws (qiW ws (qjm c t 0) v) := fun s h0 h1 => by
 by_cases e : qjm c t 0 = qjm c s 0
 ·have := qqN h0 h1 hT (Int.le_refl _) e
  subst this
  by_cases hr : 0 ≤ qjm c t 0 ∧ qjm c t 0 < ws.length
  ·rw [qqK hr.1 hr.2]; exact h
  ·unfold qiW; rw [if_neg hr]; exact .inl rfl
 ·exact .inl (qqJ e)
theorem qq0 (hT : 0 ≤ c.T) {t w v : Int} (hc : qi6 ws (qjm c t 0) w = true) (h : Tr w v) : TrAll c ws (qiW ws (qjm c t 0) v) := qqZ hT (by rw [(qqL hc).2.2]; exact h)

theorem qq1 (hT : 0 ≤ c.T) (s : Sk) : TrAll c ws (qnB c s ws).2.1 := by
 unfold qnB
 repeat' split
 all_goals first | exact TrAll.refl | exact qqX hT (by omega)
theorem qq2 (hT : 0 ≤ c.T) (s : Sk) : TrAll c ws (qnC c s ws).2.1 := by
 unfold qnC
 repeat' split
 all_goals first | exact TrAll.refl | exact qqX hT (by omega) | exact qqY hT (by omega)

def Mx.pk : Mx → Prop
 | .al s => qqQ s.word
 | .pn s => s.nx ≠ 0 → s.nx ≠ 1 → s.to = (chE s.word (qoA s.un)).1
 | _ => True
theorem qq3 (o : Op4) : (mkM o).pk := by
 unfold mkM
 repeat' split
 all_goals first | exact trivial | exact qqR | (intro _ h; exact absurd rfl h)
theorem qq4 (hT : 0 ≤ c.T) (s : Al) : TrAll c ws (qoY s (qnB c s.p ws)).2 ∧ (qoY s (qnB c s.p ws)).1.word = s.word := by
 have := qq1 (c := c) (ws := ws) hT s.p
 unfold qoY
 repeat' split
 all_goals exact ⟨this, rfl⟩
theorem qq5 (hT : 0 ≤ c.T) (s : Al) : TrAll c ws (qoZ s (qnC c s.q ws)).2 ∧ (qoZ s (qnC c s.q ws)).1.word = s.word := by
 have := qq2 (c := c) (ws := ws) hT s.q
 unfold qoZ
 repeat' split
 all_goals exact ⟨this, rfl⟩
theorem qq6 {s : Al} {o : Option Ent} (h : qqQ s.word) : qqQ (qo0 s o).word := by
 unfold qo0
 repeat' split
 all_goals first | exact h | exact qqS rfl
theorem qq7 (hT : 0 ≤ c.T) {s : Al} (h : qqQ s.word) : TrAll c ws (alS c s ws bs).2.1 ∧ qqQ (alS c s ws bs).1.word := by
 unfold alS
 by_cases h0 : s.nx = 0
 ·rw [if_pos h0]; exact ⟨TrAll.refl, h⟩
 rw [if_neg h0]
 by_cases h1 : s.nx = 1
 ·rw [if_pos h1]; split <;> exact ⟨TrAll.refl, h⟩
 rw [if_neg h1]
 by_cases h2 : s.nx = 2
 ·rw [if_pos h2]; split
  ·exact ⟨qqX hT (by omega), h⟩
  ·exact ⟨TrAll.refl, h⟩
 rw [if_neg h2]
 by_cases h3 : s.nx = 3
 ·rw [if_pos h3]
  exact ⟨(qq4 hT s).1, by show qqQ (qoY s (qnB c s.p ws)).1.word; rw [(qq4 hT s).2]; exact h⟩
 rw [if_neg h3]
 by_cases h4 : s.nx = 4
 ·rw [if_pos h4]; split <;> exact ⟨TrAll.refl, h⟩
 rw [if_neg h4]
 by_cases h5 : s.nx = 5
 ·rw [if_pos h5]; split
  ·exact ⟨qqX hT (by omega), h⟩
  ·exact ⟨TrAll.refl, h⟩
 rw [if_neg h5]
 by_cases h6 : s.nx = 6
 ·rw [if_pos h6]
  exact ⟨(qq5 hT s).1, by show qqQ (qoZ s (qnC c s.q ws)).1.word; rw [(qq5 hT s).2]; exact h⟩
 rw [if_neg h6]
 by_cases h7 : s.nx = 7
 ·rw [if_pos h7]; split <;> exact ⟨TrAll.refl, h⟩
 rw [if_neg h7]
 by_cases h8 : s.nx = 8
 ·rw [if_pos h8]; exact ⟨qqY hT (by omega), h⟩
 rw [if_neg h8]
 by_cases h9 : s.nx = 9
 ·rw [if_pos h9]; exact ⟨TrAll.refl, qq6 h⟩
 rw [if_neg h9]
 by_cases ha : s.nx = 10
 ·rw [if_pos ha]
  refine ⟨?_, h⟩
  show TrAll c ws (if s.kept = 0 then qiW ws (qjm c s.slot 0) s.word else ws)
  split
  ·exact qqZ hT (.inr (.inl h))
  ·exact TrAll.refl
 rw [if_neg ha]
 by_cases hb : s.nx = 11
 ·rw [if_pos hb]; exact ⟨TrAll.refl, h⟩
 rw [if_neg hb]
 split
 ·exact ⟨qqX hT (by omega), h⟩
 ·exact ⟨TrAll.refl, h⟩
theorem qq8 (hT : 0 ≤ c.T) (s : Fe) : TrAll c ws (qoM s (qnC c s.p ws)).2.1 := by
 have := qq2 (c := c) (ws := ws) hT s.p
 unfold qoM
 split <;> exact this
theorem qq9 (hT : 0 ≤ c.T) (s : Fe) : TrAll c ws (feS c s ws).2.1 := by
 unfold feS
 split
 ·exact TrAll.refl
 split
 ·split <;> exact TrAll.refl
 split
 ·split
  ·rename_i hc
   split <;> exact qq0 hT hc (.inr (.inl (qqW _)))
  ·exact TrAll.refl
 ·exact qq8 hT s
theorem qra (hT : 0 ≤ c.T) (s : Wr) : TrAll c ws (wrS c s ws bs).2.1 := by
 unfold wrS
 split
 ·split <;> exact TrAll.refl
 split
 ·split
  ·rename_i hc; exact qq0 hT hc (qqU _ _)
  ·exact TrAll.refl
 split
 ·split <;> exact TrAll.refl
 split
 ·exact TrAll.refl
 split
 ·exact TrAll.refl
 split
 ·split
  ·exact TrAll.refl
  ·split
   ·rename_i hc; exact qq0 hT hc (qqU _ _)
   ·exact TrAll.refl
 split <;> exact TrAll.refl
theorem qrb {s : Pn} (o : Option Ent) (h : s.nx = 1) : (Mx.pn (qoD s o).1).pk := by
 unfold qoD
 split
 ·exact fun h _ => absurd rfl h
 ·split
  ·exact fun _ g => absurd h g
  ·unfold qoC
   split
   ·exact fun h _ => absurd rfl h
   ·exact fun _ _ => rfl
theorem qrc (hT : 0 ≤ c.T) {s : Pn} (h : (Mx.pn s).pk) : TrAll c ws (pnS c s ws).2.1 ∧ (Mx.pn (pnS c s ws).1).pk := by
 unfold pnS
 by_cases h0 : s.nx = 0
 ·rw [if_pos h0]; exact ⟨TrAll.refl, h⟩
 rw [if_neg h0]
 by_cases h1 : s.nx = 1
 ·rw [if_pos h1]
  split
  ·exact ⟨TrAll.refl, fun h _ => absurd rfl h⟩
  ·exact ⟨TrAll.refl, qrb (s := { s with word := qiV ws (pnG c s) }) _ h1⟩
 rw [if_neg h1]
 split
 ·rename_i hc
  refine ⟨?_, fun h _ => absurd rfl h⟩
  show TrAll c ws (qiW ws (pnG c s) s.to)
  rw [h h0 h1]
  exact qq0 hT hc (qqV _ _)
 ·exact ⟨TrAll.refl, fun _ h => absurd rfl h⟩
theorem qrd (hT : 0 ≤ c.T) {m : Mx} (h : m.pk) : TrAll c ws (mxS c m ws bs).2.1 ∧ (mxS c m ws bs).1.pk := by
 cases m with
 | al s => exact qq7 hT h
 | fe s => exact ⟨qq9 hT s, trivial⟩
 | rd s => exact ⟨TrAll.refl, trivial⟩
 | wr s => exact ⟨qra hT s, trivial⟩
 | pn s => exact qrc hT h
 | no => exact ⟨TrAll.refl, trivial⟩
theorem qre (hT : 0 ≤ c.T) (t v : Int) : TrAll c ws (qiW ws (qju c t) v) := by
 have := qqP c t
 exact qqX hT (by omega)
theorem qrf (hT : 0 ≤ c.T) {t : Th} (h : t.m.pk) : TrAll c ws (thS c t ws bs).2.1 ∧ (thS c t ws bs).1.m.pk := by
 unfold thS
 split
 ·exact ⟨TrAll.refl, h⟩
 ·split
  ·exact ⟨TrAll.refl, h⟩
  ·split
   ·exact ⟨qre hT _ _, qq3 _⟩
   ·split
    ·have hk := qpO t (mxS c t.m ws bs)
     have hm := qrd (ws := ws) (bs := bs) hT h
     rw [hk.1, hk.2.1]
     exact hm
    ·exact ⟨qre hT _ _, h⟩
end
end Go.Proofs.YtojjkphkfpeimaaGreat

/- What becomes of an entry's word by a pass's step, and by a pick: plain. -/
namespace Go.Proofs.YtojjkphkfpeimaaGreat
open Go Go.Ir

theorem qrg (w : Int) : qqQ (chA w qmY) := by
 unfold chA
 split
 ·exact qqR
 ·rename_i e _
  split
  ·split
   ·rename_i hm
    refine ⟨_, qj4 hm, ?_⟩
    have h1 := hm
    unfold Ent.may at h1
    have := h1.2.2.2.2.2.2.2.2.1 rfl
    omega
   ·exact qqR
  ·exact qqR
theorem qrh {w : Int} (h : qqQ w) (d : Int) : qqQ (chA w (qmZ d)) := by
 obtain ⟨e, h1, h2⟩ := h
 unfold chA
 rw [h1]
 simp only
 split
 ·split
  ·rename_i hm
   exact ⟨_, qj4 hm, h2⟩
  ·exact qqR
 ·exact qqR

section
variable {c : Cfg} {ws bs : List Int}
def Mc.pk (m : Mc) : Prop := 7 ≤ m.next → m.next ≤ 9 → qqQ m.word
theorem qri (m : Mc) : (qmI m).1.pk := by
 unfold qmI
 split
 ·exact fun h => absurd h (by show ¬ (7 : Int) ≤ 5; decide)
 ·split
  ·exact fun h => absurd h (by show ¬ (7 : Int) ≤ 0; decide)
  ·exact fun _ h => absurd h (by show ¬ (10 : Int) ≤ 9; decide)
theorem qrj {m : Mc} {n : Int} (h : n < 7 ∨ 9 < n) : (onM m n).1.pk := fun h1 h2 => by
 have h1 : 7 ≤ n := h1
 have h2 : n ≤ 9 := h2
 omega
theorem qrk (m : Mc) : (qmL m).1.pk := by
 unfold qmL
 split
 ·exact qrj (by omega)
 ·exact qri _
theorem qrl {m : Mc} (hm : m.c = c) (hT : 0 ≤ c.T) (h : m.pk) : TrAll c ws (qnj m ws bs).2.1 ∧ (qnj m ws bs).1.1.pk := by
 have hend : ∀ m : Mc, (qmH m).1.pk := fun m h => absurd h (by show ¬ (7 : Int) ≤ 0; decide)
 unfold qnj
 by_cases h1 : m.next = 1
 ·rw [if_pos h1]; exact ⟨TrAll.refl, qrj (by omega)⟩
 by_cases h2 : m.next = 2
 ·rw [if_neg h1, if_pos h2]
  refine ⟨TrAll.refl, ?_⟩
  show (if qiV ws 2 ≠ 0 then qmH m else onM m 3).1.pk
  split
  ·exact hend _
  ·exact qrj (by omega)
 by_cases h3 : m.next = 3
 ·rw [if_neg h1, if_neg h2, if_pos h3]
  refine ⟨TrAll.refl, ?_⟩
  show (qmV m ws).1.pk
  unfold qmV
  split
  ·split
   ·exact qrj (by omega)
   ·exact qrk _
  ·exact qrk _
 by_cases h4 : m.next = 4
 ·rw [if_neg h1, if_neg h2, if_neg h3, if_pos h4]
  refine ⟨TrAll.refl, ?_⟩
  show (qmT m ws).1.pk
  unfold qmT
  split <;> exact qrk _
 by_cases h5 : m.next = 5
 ·rw [if_neg h1, if_neg h2, if_neg h3, if_neg h4, if_pos h5]
  refine ⟨TrAll.refl, ?_⟩
  show (qm4 m ws (qni m)).1.pk
  unfold qm4
  split
  ·exact qri _
  ·split
   ·exact qri _
   ·split
    ·exact qri _
    ·exact qrj (by omega)
 by_cases h6 : m.next = 6
 ·rw [if_neg h1, if_neg h2, if_neg h3, if_neg h4, if_neg h5, if_pos h6]
  show TrAll c ws (qm6 m ws (qni m)).2 ∧ (qm6 m ws (qni m)).1.1.pk
  unfold qm6
  split
  ·rename_i hc
   rw [hm] at hc
   exact ⟨by rw [hm]; exact qq0 hT hc (.inr (.inl (qrg _))), fun _ _ => qrg _⟩
  ·exact ⟨TrAll.refl, qrj (by omega)⟩
 by_cases h7 : m.next = 7
 ·rw [if_neg h1, if_neg h2, if_neg h3, if_neg h4, if_neg h5, if_neg h6, if_pos h7]
  exact ⟨TrAll.refl, fun _ _ => h (by omega) (by omega)⟩
 by_cases h8 : m.next = 8
 ·rw [if_neg h1, if_neg h2, if_neg h3, if_neg h4, if_neg h5, if_neg h6, if_neg h7, if_pos h8]
  exact ⟨TrAll.refl, fun _ _ => h (by omega) (by omega)⟩
 by_cases h9 : m.next = 9
 ·rw [if_neg h1, if_neg h2, if_neg h3, if_neg h4, if_neg h5, if_neg h6, if_neg h7, if_neg h8, if_pos h9]
  refine ⟨?_, qri _⟩
  show TrAll c ws (qiW ws (qjm m.c (qni m).s 0) (chA m.word (qmZ m.dest)))
  rw [hm]
  exact qqZ hT (.inr (.inl (qrh (h (by omega) (by omega)) _)))
 by_cases ha : m.next = 10
 ·rw [if_neg h1, if_neg h2, if_neg h3, if_neg h4, if_neg h5, if_neg h6, if_neg h7, if_neg h8, if_neg h9, if_pos ha]
  refine ⟨?_, ?_⟩
  ·show TrAll c ws (qne m.c (m.turn.getD ⟨0, 0, 0⟩) ws).2
   unfold qne
   repeat' split
   all_goals first | exact TrAll.refl | exact qqX hT (by omega)
  ·show (qng m (m.turn.getD ⟨0, 0, 0⟩) ws).1.1.pk
   unfold qng
   split
   ·exact qrj (by omega)
   ·split
    ·exact hend _
    ·exact qrj (by omega)
 ·rw [if_neg h1, if_neg h2, if_neg h3, if_neg h4, if_neg h5, if_neg h6, if_neg h7, if_neg h8, if_neg h9, if_neg ha]
  refine ⟨?_, hend _⟩
  show TrAll c ws (if qi6 ws 0 m.top then qiW ws 0 m.dest else ws)
  split
  ·exact qqX hT (by omega)
  ·exact TrAll.refl
end

theorem qrm (m : Mc) : (qmI m).1.c = m.c := by
 unfold qmI
 split
 ·rfl
 ·split <;> rfl
theorem qrn (m : Mc) : (qmL m).1.c = m.c := by
 unfold qmL
 split
 ·rfl
 ·exact qrm _
theorem qro (m : Mc) (ws bs : List Int) : (qnj m ws bs).1.1.c = m.c := by
 unfold qnj
 by_cases h1 : m.next = 1
 ·rw [if_pos h1]; rfl
 rw [if_neg h1]
 by_cases h2 : m.next = 2
 ·rw [if_pos h2]
  show (if qiV ws 2 ≠ 0 then qmH m else onM m 3).1.c = m.c
  split <;> rfl
 rw [if_neg h2]
 by_cases h3 : m.next = 3
 ·rw [if_pos h3]
  show (qmV m ws).1.c = m.c
  unfold qmV
  split
  ·split
   ·rfl
   ·exact qrn _
  ·exact qrn _
 rw [if_neg h3]
 by_cases h4 : m.next = 4
 ·rw [if_pos h4]
  show (qmT m ws).1.c = m.c
  unfold qmT
  split <;> exact qrn _
 rw [if_neg h4]
 by_cases h5 : m.next = 5
 ·rw [if_pos h5]
  show (qm4 m ws (qni m)).1.c = m.c
  unfold qm4
  split
  ·exact qrm _
  ·split
   ·exact qrm _
   ·split
    ·exact qrm _
    ·rfl
 rw [if_neg h5]
 by_cases h6 : m.next = 6
 ·rw [if_pos h6]
  show (qm6 m ws (qni m)).1.1.c = m.c
  unfold qm6
  split <;> rfl
 rw [if_neg h6]
 by_cases h7 : m.next = 7
 ·rw [if_pos h7]; rfl
 rw [if_neg h7]
 by_cases h8 : m.next = 8
 ·rw [if_pos h8]; rfl
 rw [if_neg h8]
 by_cases h9 : m.next = 9
 ·rw [if_pos h9]; exact qrm _
 rw [if_neg h9]
 by_cases ha : m.next = 10
 ·rw [if_pos ha]
  show (qng m (m.turn.getD ⟨0, 0, 0⟩) ws).1.1.c = m.c
  unfold qng
  split
  ·rfl
  ·split <;> rfl
 rw [if_neg ha]
 rfl

def Wst.pk (c : Cfg) (w : Wst) : Prop := w.m.c = c ∧ w.m.pk ∧ ∀ t ∈ w.ts, t.m.pk
theorem qrp {c : Cfg} {w : Wst} (hT : 0 ≤ c.T) (h : w.pk c) (n : Int) : TrAll c w.ws (qqn c w n).1.ws ∧ (qqn c w n).1.pk c := by
 unfold qqn
 split
 ·exact ⟨TrAll.refl, h⟩
 ·split
  ·show TrAll c w.ws (qql c w).ws ∧ (qql c w).pk c
   have hs := qrl (ws := w.ws) (bs := w.bs) h.1 hT h.2.1
   have hc := qro w.m w.ws w.bs
   unfold qql
   split
   ·exact ⟨hs.1, hc.trans h.1, hs.2, h.2.2⟩
   ·exact ⟨hs.1, rfl, fun q => absurd q (by show ¬ (7 : Int) ≤ 1; decide), h.2.2⟩
  ·split
   ·exact ⟨TrAll.refl, h⟩
   ·rename_i t ht
    split
    ·exact ⟨TrAll.refl, h⟩
    ·have hk := qrf (ws := w.ws) (bs := w.bs) hT (h.2.2 t (List.mem_of_getElem? ht))
     refine ⟨hk.1, h.1, h.2.1, fun u hu => ?_⟩
     rcases List.mem_or_eq_of_mem_set hu with hu | hu
     ·exact h.2.2 u hu
     ·rw [hu]; exact hk.2
theorem qrq (c : Cfg) (l : List (Value × List Op4)) : (w0 c l).pk c :=
 ⟨rfl, fun h => absurd h (by show ¬ (7 : Int) ≤ 1; decide), fun t ht => by
   obtain ⟨i, _, rfl⟩ := List.mem_map.1 ht
   exact trivial⟩
end Go.Proofs.YtojjkphkfpeimaaGreat

/- WorldPinned, as the program runs it. -/
namespace Go.Proofs.YtojjkphkfpeimaaGreat
open Go Go.Ir

def qrr (c : Cfg) (ws : List Int) (L : List Ent) : Prop := ∀ (s : Nat) e, L[s]? = some e → e.p = 0 ∨ qj0 (qiV ws (qjm c s 0)) = some e
def Valid (c : Cfg) (ws : List Int) : Prop := ∀ s : Nat, (s : Int) < c.S → okW (qiV ws (qjm c s 0))
theorem qrs {c : Cfg} (hm : c.may) {s : Int} (h0 : 0 ≤ s) (h1 : s < c.S) : qiV (qjy c) (qjm c s 0) = 0 := by
 unfold Cfg.may at hm
 have e : qjm c s 0 = 4 + c.T + 3 * s := by unfold qjm; rw [if_pos ⟨h0, h1⟩]; omega
 have hl : ((qjy c).length : Int) = qiS c := by rw [qjA]; unfold qiS; omega
 obtain ⟨k, hk⟩ : ∃ k : Nat, qjm c s 0 = k := ⟨(qjm c s 0).toNat, by omega⟩
 unfold qiV
 unfold qiS at hl
 rw [if_pos ⟨by omega, by omega⟩, hk, Int.toNat_natCast, List.getD_eq_getElem?_getD]
 unfold qjy
 rw [List.getElem?_set_ne (by omega), qjB c 0 (by unfold qiS; omega)]
 unfold qjx
 rw [if_neg (by omega)]
 rfl
theorem qrt {c : Cfg} (hm : c.may) : Valid c (qjy c) := fun s hs => by
 rw [qrs hm (by omega) hs]
 exact ⟨Ent.zero, by decide⟩
theorem Valid.tr {c : Cfg} {ws ws' : List Int} (h : Valid c ws) (t : TrAll c ws ws') : Valid c ws' := fun s hs => (t s (by omega) hs).ok (h s hs)
theorem qru {c : Cfg} {ws ws' : List Int} {L : List Ent} (hk : qrr c ws L) (t : TrAll c ws ws') {s : Nat} (hs : (s : Int) < c.S) {e x : Ent} (he : L[s]? = some e) (hx : qj0 (qiV ws' (qjm c s 0)) = some x) (h1 : 0 < x.p) (h2 : 0 < e.p) : x.o = e.o ∧ x.g = e.g := by
 have hw : qj0 (qiV ws (qjm c s 0)) = some e := (hk s e he).resolve_left (by omega)
 rcases t s (by omega) hs with q | ⟨y, q1, q2⟩ | ⟨y, z, q1, q2, q3, q4⟩
 ·rw [q, hw] at hx
  injection hx with hx
  subst hx
  exact ⟨rfl, rfl⟩
 ·rw [q1] at hx
  injection hx with hx
  subst hx
  omega
 ·rw [hw] at q1
  rw [q2] at hx
  injection q1 with q1
  injection hx with hx
  subst q1 hx
  exact ⟨q3, q4⟩
theorem qrv {w : Int} {x : Ent} (h : qj0 w = some x) (hp : 0 < x.p) : x.lk = false := by
 have hm := qn4 h
 unfold Ent.may at hm
 cases hl : x.lk with
 | false => rfl
 | true =>
   have := hm.2.2.2.2.2.2.2.2.1 hl
   omega

def qrw (L : List Ent) : Blk := .row (L.map Ent.cs).flatten false
theorem cs6 (L : List Ent) : ∀ e ∈ L.map Ent.cs, e.length = 6 := fun e he => by
 obtain ⟨x, _, rfl⟩ := List.mem_map.1 he
 rfl
theorem qrx {H : qab} {b : Nat} {L : List Ent} (hb : H[b]? = some (qrw L)) {s : Nat} {e : Ent} (hs : L[s]? = some e) :
  qav H none ⟨b, 0 + s * 6 + 0, none⟩ = some (I e.o) ∧ qav H none ⟨b, 0 + s * 6 + 1, none⟩ = some (I e.g) ∧ qav H none ⟨b, 0 + s * 6 + 2, none⟩ = some (I e.p) := by
 have hs1 : Sl H 6 (.slice (some ⟨b, 0, none⟩) (L.map Ent.cs).length (L.map Ent.cs).length) (L.map Ent.cs) := ⟨cs6 L, .inr ⟨_, _, rfl, qgE (a := ⟨b, 0, none⟩) hb rfl (qgA (cs6 L)).symm⟩⟩
 obtain ⟨a, cap, h1, h2, _⟩ := hs1.at (i := s) (e := e.cs) (by rw [List.getElem?_map, hs]; rfl)
 injection h1 with h1
 injection h1 with h1
 subst h1
 exact ⟨h2 0 _ rfl, h2 1 _ rfl, h2 2 _ rfl⟩
theorem qry {H : qab} {b : Nat} {L : List Ent} (hb : H[b]? = some (qrw L)) {s : Nat} {e x : Ent} (hs : L[s]? = some e) : stN 0 H ⟨b, 0 + s * 6, none⟩ (qaf (.agg x.cs.toArray)) = some (H.set b (qrw (L.set s x))) := by
 have h := qiu (lo := 0) (o := 0) (vs := x.cs) (s := none) hb (Nat.zero_le _) (cs6 L) (i := s) (e := e.cs) (by rw [List.getElem?_map, hs]; rfl) (by show 0 + 6 ≤ 6; omega)
 rw [Nat.add_zero] at h
 rw [Nat.zero_add]
 refine h.trans ?_
 unfold qrw
 rw [List.map_set]
 rfl
theorem qrz : ∀ n, qaM Ent.zero.cs n = ((List.replicate n Ent.zero).map Ent.cs).flatten
 | 0 => rfl
 | n + 1 => by
   rw [List.replicate_succ, List.map_cons, List.flatten_cons, ← qrz n]
   rfl
end Go.Proofs.YtojjkphkfpeimaaGreat

