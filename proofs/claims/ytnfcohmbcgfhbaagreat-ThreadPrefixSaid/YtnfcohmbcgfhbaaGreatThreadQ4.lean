/- Many threads: each with its own blocks, by both. -/
import Derived.Test.YtnfcohmbcgfhbaaGreatThreadQ3
import Derived.Test.YtnfcohmbcgfhbaaGreatThreadP1
import Derived.Test.YtnfcohmbcgfhbaaGreatPrefixE
set_option linter.unusedVariables false
set_option linter.unusedSimpArgs false

namespace Go.Proofs.YtnfcohmbcgfhbaaGreat
open Go Go.Ir

def fil (H : Heap) (own : List Nat) : List Nat := own.filter (fun x => decide (x < H.length))
theorem mem_fil {H : Heap} {own : List Nat} {x : Nat} : x ∈ fil H own ↔ x ∈ own ∧ x < H.length := by simp [fil]
theorem fil_row {H : Heap} {own : List Nat} {x : Nat} {k : Blk} (h : x ∈ own) (hr : H[x]? = some k) : x ∈ fil H own := mem_fil.2 ⟨h, hlt_of hr⟩
theorem ownS_fil {H : Heap} {own : List Nat} {cb : CB} {x : Nat} (h : x ∈ ownS (fil H own) cb) : x ∈ ownS own cb := by
 rcases List.mem_append.1 h with g | g
 ·exact List.mem_append_left _ (mem_fil.1 g).1
 ·exact List.mem_append_right _ g

section
variable {H H' : Heap} {b ob : Nat} {c : Cfg} {t : Th} {cb : CB} {ws bs : List Int} {own : List Nat}
theorem MxP.fil {k : Nat} : ∀ {m : Mx}, MxP H own c k m → MxP H (fil H own) c k m
 | .al s, h => by
   obtain ⟨h1, h2, t, gv, h3, h4, h5, h6, h7⟩ := h
   refine ⟨fil_row h1 h3, h2, t, gv, h3, h4, h5, fil_row h6 h4, fun h => ?_⟩
   obtain ⟨q, q1, q2, q3, q4, q5⟩ := h7 h
   exact ⟨q, q1, q2, q3, q4, fil_row q5 q2⟩
 | .fe s, h => by
   obtain ⟨h1, to, more, gv, h2, h3, h4⟩ := h
   refine ⟨fil_row h1 h2, to, more, gv, h2, h3, fun a1 a2 a3 => ?_⟩
   obtain ⟨q, q1, q2, q3, q4⟩ := h4 a1 a2 a3
   exact ⟨q, q1, q2, q3, fil_row q4 q2⟩
 | .rd s, h => ⟨fil_row h.1 h.2, h.2⟩
 | .wr s, h => ⟨fil_row h.1 h.2, h.2⟩
 | .pn s, h => ⟨fil_row h.1 h.2, h.2⟩
 | .no, _ => trivial
theorem ThP.fil (h : ThP H own ob cb c t b) : ThP H (fil H own) ob cb c t b := by
 obtain ⟨ov, ev, mv, av, hr, ho, he, hw⟩ := h.row
 refine ⟨fil_row h.mem hr, h.note, h.nx, fun a hm => h.far a (ownS_fil hm), ov, ev, mv, av, hr, ho, fun a => ?_, fun a => ?_⟩
 ·obtain ⟨e, e1, e2, e3, e4⟩ := he a
  exact ⟨e, e1, fil_row e2 e4, e3, e4⟩
 ·obtain ⟨k, mo, e1, e2, e3, e4, e5⟩ := hw a
  exact ⟨k, Go.Proofs.YtnfcohmbcgfhbaaGreat.fil H mo, e1, e2, fun x hx => mem_fil.2 ⟨e3 x (mem_fil.1 hx).1, (mem_fil.1 hx).2⟩, fun hb => e4 (mem_fil.1 hb).1, e5.fil⟩
theorem ThP.keep (h : ThP H own ob cb c t b) (hk : ∀ x ∈ own, H'[x]? = H[x]?) (hob : H'[ob]? = H[ob]?) : ThP H' own ob cb c t b := by
 obtain ⟨ov, ev, mv, av, hr, ho, he, hw⟩ := h.row
 refine ⟨h.mem, h.note, h.nx, h.far, ov, ev, mv, av, (hk _ h.mem).trans hr, ho.keep hob, fun a => ?_, fun a => ?_⟩
 ·obtain ⟨e, e1, e2, e3, e4⟩ := he a
  exact ⟨e, e1, e2, e3, (hk _ e2).trans e4⟩
 ·obtain ⟨k, mo, e1, e2, e3, e4, e5⟩ := hw a
  exact ⟨k, mo, e1, e2, e3, e4, e5.keep fun x hx => hk x (e3 x hx)⟩
theorem MxR.fil {k : Nat} : ∀ {m : Mx}, MxR H own c k m → MxR H (fil H own) c k m
 | .al s, h => by
   obtain ⟨h1, h2, pv, gv, h3, h4, h5⟩ := h
   refine ⟨fil_row h1 h3, h2, pv, gv, h3, fun h => ?_, fun h => ?_⟩
   ·obtain ⟨q, q1, q2, q3, q4⟩ := h4 h
    exact ⟨q, q1, q2, q3, fil_row q4 q2⟩
   ·obtain ⟨q, q1, q2, q3, q4⟩ := h5 h
    exact ⟨q, q1, q2, q3, fil_row q4 q2⟩
 | .fe s, h => by
   obtain ⟨h1, ⟨gv, h2, h3⟩, h4, h5⟩ := h
   refine ⟨fil_row h1 h2, ⟨gv, h2, fun a1 a2 a3 => ?_⟩, h4, h5⟩
   obtain ⟨q, q1, q2, q3, q4⟩ := h3 a1 a2 a3
   exact ⟨q, q1, q2, q3, fil_row q4 q2⟩
 | .rd s, h => by
   obtain ⟨h1, kp, bb, h2, h3⟩ := h
   exact ⟨fil_row h1 h2, kp, bb, h2, h3⟩
 | .wr s, h => by
   obtain ⟨h1, e, h2, h3⟩ := h
   exact ⟨fil_row h1 h2, e, h2, h3⟩
 | .pn s, h => by
   obtain ⟨h1, h2, h3⟩ := h
   exact ⟨fil_row h1 h2, h2, h3⟩
 | .no, _ => trivial
theorem ThR.fil (h : ThR H own ob cb c t b) : ThR H (fil H own) ob cb c t b := by
 obtain ⟨L, at_, ov, ev, xv, hr, ho, g1, g2, g3, g4, he, hw⟩ := h.row
 refine ⟨fil_row h.mem hr, h.note, h.nx, L, at_, ov, ev, xv, hr, ho, g1, g2, g3, fun a hm => g4 a (ownS_fil hm), fun a => ?_, fun a => ?_⟩
 ·obtain ⟨e, e1, e2, e3, e4⟩ := he a
  exact ⟨e, e1, fil_row e2 e4, e3, e4⟩
 ·obtain ⟨x, k, mo, d, e1, e2, e3, e4, e5, e6⟩ := hw a
  exact ⟨x, k, Go.Proofs.YtnfcohmbcgfhbaaGreat.fil H mo, d, e1, fil_row e2 e6.row, e3, fun x hx => mem_fil.2 ⟨e4 x (mem_fil.1 hx).1, (mem_fil.1 hx).2⟩, fun hb => e5 (mem_fil.1 hb).1, ⟨e6.row, e6.d, e6.ok, e6.my.fil, fun hb => e6.no (mem_fil.1 hb).1⟩⟩
theorem ThR.keep (h : ThR H own ob cb c t b) (hk : ∀ x ∈ own, H'[x]? = H[x]?) (hob : H'[ob]? = H[ob]?) : ThR H' own ob cb c t b := by
 obtain ⟨L, at_, ov, ev, xv, hr, ho, g1, g2, g3, g4, he, hw⟩ := h.row
 refine ⟨h.mem, h.note, h.nx, L, at_, ov, ev, xv, (hk _ h.mem).trans hr, ho.keep hob, g1, g2, g3, g4, fun a => ?_, fun a => ?_⟩
 ·obtain ⟨e, e1, e2, e3, e4⟩ := he a
  exact ⟨e, e1, e2, e3, (hk _ e2).trans e4⟩
 ·obtain ⟨x, k, mo, d, e1, e2, e3, e4, e5, e6⟩ := hw a
  exact ⟨x, k, mo, d, e1, e2, e3, e4, e5, e6.keep (fun y hy => hk y (e4 y hy)) (hk x e2)⟩
end

def PT (H : Heap) (g : Nat → Nat) (c : Cfg) (cb : CB) (i : Nat) (t : Th) (b : Nat) : Prop :=
 ∃ own ob, ThP H own ob cb c t b ∧ (∀ x ∈ own, x < H.length ∧ g x = 4 + 2 * i) ∧ ob < H.length ∧ g ob = 0
structure PInv (H : Heap) (g : Nat → Nat) (c : Cfg) (cb : CB) (ws bs : List Int) (ts : List Th) (pb : List Nat) : Prop where
 cells : IsC H cb ws bs
 tc : g cb.P = 2 ∧ g cb.W = 2 ∧ g cb.Y = 2
 len : pb.length = ts.length
 th : ∀ i t b, ts[i]? = some t → pb[i]? = some b → PT H g c cb i t b
def RT (H : Heap) (g : Nat → Nat) (c : Cfg) (cb : CB) (i : Nat) (t : Th) (b : Nat) : Prop :=
 ∃ own ob, ThR H own ob cb c t b ∧ (∀ x ∈ own, x < H.length ∧ g x = 5 + 2 * i) ∧ ob < H.length ∧ g ob = 0
structure RInv (H : Heap) (g : Nat → Nat) (c : Cfg) (cb : CB) (ws bs : List Int) (ts : List Th) (pb : List Nat) : Prop where
 cells : IsR H cb ws bs
 tc : g cb.P = 3 ∧ g cb.W = 3 ∧ g cb.Y = 3
 len : pb.length = ts.length
 th : ∀ i t b, ts[i]? = some t → pb[i]? = some b → RT H g c cb i t b
structure Stp (T : Nat → Prop) (H H' : Heap) (g g' : Nat → Nat) : Prop where
 len : H.length ≤ H'.length
 tag : ∀ x, x < H.length → g' x = g x
 same : ∀ x, x < H.length → T (g x) → H'[x]? = H[x]?
def TP (n : Nat) : Prop := n % 2 = 1 ∨ n = 0
theorem Stp.mono {T T' : Nat → Prop} {H H' : Heap} {g g' : Nat → Nat} (h : Stp T H H' g g') (hT : ∀ n, T' n → T n) : Stp T' H H' g g' := ⟨h.len, h.tag, fun x hx ht => h.same x hx (hT _ ht)⟩

section
variable {H H' : Heap} {g g' : Nat → Nat} {c : Cfg} {cb : CB} {ws bs : List Int} {ts : List Th} {pb : List Nat} {i b : Nat} {t : Th}
theorem PT.keep {T : Nat → Prop} (h : PT H g c cb i t b) (s : Stp T H H' g g') (h0 : T 0) (hi : T (4 + 2 * i)) : PT H' g' c cb i t b := by
 obtain ⟨own, ob, h1, h2, h3, h4⟩ := h
 refine ⟨own, ob, h1.keep (fun x hx => s.same x (h2 x hx).1 (by rw [(h2 x hx).2]; exact hi)) (s.same ob h3 (by rw [h4]; exact h0)), fun x hx => ⟨Nat.lt_of_lt_of_le (h2 x hx).1 s.len, (s.tag x (h2 x hx).1).trans (h2 x hx).2⟩, Nat.lt_of_lt_of_le h3 s.len, (s.tag ob h3).trans h4⟩
theorem PInv.keep {T : Nat → Prop} (h : PInv H g c cb ws bs ts pb) (s : Stp T H H' g g') (h0 : T 0) (h2 : T 2) (hi : ∀ i, T (4 + 2 * i)) : PInv H' g' c cb ws bs ts pb := by
 have lc := ltC h.cells
 obtain ⟨st, hp⟩ := h.cells.p
 refine ⟨⟨⟨st, (s.same _ lc.1 (by rw [h.tc.1]; exact h2)).trans hp⟩, (s.same _ lc.2.1 (by rw [h.tc.2.1]; exact h2)).trans h.cells.w, (s.same _ lc.2.2 (by rw [h.tc.2.2]; exact h2)).trans h.cells.y, h.cells.pw, h.cells.py, h.cells.wy, h.cells.byte⟩,
  ⟨(s.tag _ lc.1).trans h.tc.1, (s.tag _ lc.2.1).trans h.tc.2.1, (s.tag _ lc.2.2).trans h.tc.2.2⟩, h.len, fun i t b ht hb => (h.th i t b ht hb).keep s h0 (hi i)⟩
theorem RT.keep {T : Nat → Prop} (h : RT H g c cb i t b) (s : Stp T H H' g g') (h0 : T 0) (hi : T (5 + 2 * i)) : RT H' g' c cb i t b := by
 obtain ⟨own, ob, h1, h2, h3, h4⟩ := h
 refine ⟨own, ob, h1.keep (fun x hx => s.same x (h2 x hx).1 (by rw [(h2 x hx).2]; exact hi)) (s.same ob h3 (by rw [h4]; exact h0)), fun x hx => ⟨Nat.lt_of_lt_of_le (h2 x hx).1 s.len, (s.tag x (h2 x hx).1).trans (h2 x hx).2⟩, Nat.lt_of_lt_of_le h3 s.len, (s.tag ob h3).trans h4⟩
theorem RInv.keep {T : Nat → Prop} (h : RInv H g c cb ws bs ts pb) (s : Stp T H H' g g') (h0 : T 0) (h2 : T 3) (hi : ∀ i, T (5 + 2 * i)) : RInv H' g' c cb ws bs ts pb := by
 have lc := ltR h.cells
 obtain ⟨st, hp⟩ := h.cells.p
 refine ⟨⟨⟨st, (s.same _ lc.1 (by rw [h.tc.1]; exact h2)).trans hp⟩, (s.same _ lc.2.1 (by rw [h.tc.2.1]; exact h2)).trans h.cells.w, (s.same _ lc.2.2 (by rw [h.tc.2.2]; exact h2)).trans h.cells.y, h.cells.pw, h.cells.py, h.cells.wy, h.cells.byte⟩,
  ⟨(s.tag _ lc.1).trans h.tc.1, (s.tag _ lc.2.1).trans h.tc.2.1, (s.tag _ lc.2.2).trans h.tc.2.2⟩, h.len, fun i t b ht hb => (h.th i t b ht hb).keep s h0 (hi i)⟩

def newG (H : Heap) (g : Nat → Nat) (k : Nat) : Nat → Nat := fun x => if x < H.length then g x else k
theorem newG_lt {x k : Nat} (h : x < H.length) : newG H g k x = g x := if_pos h
theorem newG_ge {x k : Nat} (h : H.length ≤ x) : newG H g k x = k := if_neg (by omega)

theorem grew_stp {own own' : List Nat} {k e : Nat} (hg : Grew H H' own own' cb) (ho : ∀ x ∈ own, g x = k) (hc : g cb.P = e ∧ g cb.W = e ∧ g cb.Y = e) : Stp (fun n => n ≠ k ∧ n ≠ e) H H' g (newG H g k) :=
 ⟨hg.chg.len, fun x hx => newG_lt hx, fun x hx ht => hg.chg.same x hx fun hm => by
   unfold ownS at hm
   simp only [List.mem_append, List.mem_cons, List.mem_nil_iff, or_false] at hm
   rcases hm with h | rfl | rfl | rfl
   ·exact ht.1 (ho x h)
   ·exact ht.2 hc.1
   ·exact ht.2 hc.2.1
   ·exact ht.2 hc.2.2⟩

theorem p_step (hm : c.may) (h : PInv H g c cb ws bs ts pb) (ht : ts[i]? = some t) (hb : pb[i]? = some b) :
  ∃ v H' g', callR En 0 Id.zcx [ptrB b, ifC cb] H = some (v, H') ∧ SlN H H' v (thS c t ws bs).2.2.2 ∧ PInv H' g' c cb (thS c t ws bs).2.1 (thS c t ws bs).2.2.1 (ts.set i (thS c t ws bs).1) pb ∧ Stp TP H H' g g' ∧ (∀ x, H.length ≤ x → g' x = 4 + 2 * i) := by
 obtain ⟨own, ob, hP, h2, h3, h4⟩ := h.th i t b ht hb
 have hA : Apart own cb := fun x hx => ⟨fun e => by have := (h2 x hx).2; rw [e, h.tc.1] at this; omega, fun e => by have := (h2 x hx).2; rw [e, h.tc.2.1] at this; omega, fun e => by have := (h2 x hx).2; rw [e, h.tc.2.2] at this; omega⟩
 obtain ⟨v, own', H', hC, hS, hP', hC', hg⟩ := th_spec hP h.cells hA hm
 have st := grew_stp (g := g) (k := 4 + 2 * i) (e := 2) hg (fun x hx => (h2 x hx).2) h.tc
 refine ⟨v, H', newG H g (4 + 2 * i), hC, hS, ⟨hC', ?_, by rw [List.length_set]; exact h.len, fun j u d hu hd => ?_⟩, st.mono fun n hn => ?_, fun x hx => newG_ge hx⟩
 ·have lc := ltC h.cells
  rw [newG_lt lc.1, newG_lt lc.2.1, newG_lt lc.2.2]
  exact h.tc
 ·by_cases hj : i = j
  ·subst hj
   have hil := (List.getElem?_eq_some_iff.1 ht).1
   rw [List.getElem?_set_self hil] at hu
   injection hu with hu
   rw [hb] at hd
   injection hd with hd
   subst hu hd
   refine ⟨fil H' own', ob, hP'.fil, fun x hx => ?_, Nat.lt_of_lt_of_le h3 hg.chg.len, (newG_lt h3).trans h4⟩
   obtain ⟨hx1, hx2⟩ := mem_fil.1 hx
   refine ⟨hx2, ?_⟩
   rcases hg.new x hx1 with q | q
   ·rw [newG_lt (h2 x q).1]; exact (h2 x q).2
   ·exact newG_ge q
  ·rw [List.getElem?_set_ne hj] at hu
   exact (h.th j u d hu hd).keep st ⟨by omega, by omega⟩ ⟨by omega, by omega⟩
 ·rcases hn with hn | hn <;> exact ⟨by omega, by omega⟩
end
end Go.Proofs.YtnfcohmbcgfhbaaGreat

/- Rows of pointers to threads; threads made one behind the other. -/
namespace Go.Proofs.YtnfcohmbcgfhbaaGreat
open Go Go.Ir

def Arr (H : Heap) (v : Value) (l : List Nat) (k : Nat) : Prop :=
 (l = [] ∧ v = .slice none 0 0) ∨ (l ≠ [] ∧ v = .slice (some (loose k 0)) l.length 1 ∧ H[k]? = some (.row (l.map ptrB) false))
theorem Arr.keep {H H' : Heap} {v : Value} {l : List Nat} {k : Nat} (h : Arr H v l k) (hk : l ≠ [] → H'[k]? = H[k]?) : Arr H' v l k := by
 rcases h with h | ⟨h1, h2, h3⟩
 ·exact .inl h
 ·exact .inr ⟨h1, h2, (hk h1).trans h3⟩
theorem Arr.lt {H : Heap} {v : Value} {l : List Nat} {k : Nat} (h : Arr H v l k) (h0 : l ≠ []) : k < H.length := by
 rcases h with h | ⟨h1, h2, h3⟩
 ·exact absurd h.1 h0
 ·exact hlt_of h3
theorem Arr.len {H : Heap} {v : Value} {l : List Nat} {k : Nat} (h : Arr H v l k) : ∃ a c, v = .slice a l.length c := by
 rcases h with ⟨rfl, h⟩ | ⟨h1, h2, h3⟩
 ·exact ⟨none, 0, h⟩
 ·exact ⟨_, _, h2⟩
theorem Arr.at {H : Heap} {v : Value} {l : List Nat} {k : Nat} (h : Arr H v l k) {i b : Nat} (hi : l[i]? = some b) : v = .slice (some (loose k 0)) l.length 1 ∧ ∀ H', H'[k]? = H[k]? → loadV H' none ⟨k, 0 + i * 1, none⟩ = some (ptrB b) := by
 rcases h with ⟨rfl, _⟩ | ⟨h1, h2, h3⟩
 ·simp at hi
 ·exact ⟨h2, fun H' hk => ld_row (hk.trans h3) (by rw [Nat.zero_add, Nat.mul_one, List.getElem?_map, hi]; rfl)⟩
section
variable {H : Heap} {g : Nat → Nat} {c : Cfg} {cb : CB} {ws bs : List Int} {ts : List Th} {pb : List Nat}
theorem PInv.push {H' : Heap} {g' : Nat → Nat} {t : Th} {b : Nat} (h : PInv H' g' c cb ws bs ts pb) (hn : PT H' g' c cb ts.length t b) : PInv H' g' c cb ws bs (ts ++ [t]) (pb ++ [b]) := by
 refine ⟨h.cells, h.tc, by simp [h.len], fun i u d hu hd => ?_⟩
 by_cases hi : i < ts.length
 ·rw [List.getElem?_append_left hi] at hu
  rw [List.getElem?_append_left (by rw [h.len]; exact hi)] at hd
  exact h.th i u d hu hd
 ·have hl := (List.getElem?_eq_some_iff.1 hu).1
  rw [List.length_append, List.length_singleton] at hl
  have he : i = ts.length := by omega
  subst he
  rw [List.getElem?_concat_length] at hu
  rw [← h.len, List.getElem?_concat_length] at hd
  injection hu with hu
  injection hd with hd
  subst hu hd
  exact hn
theorem RInv.push {H' : Heap} {g' : Nat → Nat} {t : Th} {b : Nat} (h : RInv H' g' c cb ws bs ts pb) (hn : RT H' g' c cb ts.length t b) : RInv H' g' c cb ws bs (ts ++ [t]) (pb ++ [b]) := by
 refine ⟨h.cells, h.tc, by simp [h.len], fun i u d hu hd => ?_⟩
 by_cases hi : i < ts.length
 ·rw [List.getElem?_append_left hi] at hu
  rw [List.getElem?_append_left (by rw [h.len]; exact hi)] at hd
  exact h.th i u d hu hd
 ·have hl := (List.getElem?_eq_some_iff.1 hu).1
  rw [List.length_append, List.length_singleton] at hl
  have he : i = ts.length := by omega
  subst he
  rw [List.getElem?_concat_length] at hu
  rw [← h.len, List.getElem?_concat_length] at hd
  injection hu with hu
  injection hd with hd
  subst hu hd
  exact hn

def newB (H : Heap) (g : Nat → Nat) (k : Nat) : Nat → Nat := fun x => if x < H.length then g x else if x = H.length then k else 0
theorem newB_lt {k x : Nat} (h : x < H.length) : newB H g k x = g x := if_pos h
theorem newB_at {k : Nat} : newB H g k H.length = k := (if_neg (Nat.lt_irrefl _)).trans (if_pos rfl)
theorem newB_gt {k x : Nat} (h : H.length < x) : newB H g k x = 0 := (if_neg (by omega)).trans (if_neg (by omega))
theorem stp_ext {H' : Heap} {k : Nat} (hx : Ext H H') : Stp (fun _ => True) H H' g (newB H g k) := ⟨hx.1, fun x h => newB_lt h, fun x h _ => hx.2 x h⟩
end
end Go.Proofs.YtnfcohmbcgfhbaaGreat

/- A pick: a thread's step by both, and what both tell. -/
namespace Go.Ir
end Go.Ir
namespace Go.Proofs.YtnfcohmbcgfhbaaGreat
open Go Go.Ir

structure Both (H : Heap) (g : Nat → Nat) (c : Cfg) (cb cr : CB) (ws bs : List Int) (ts : List Th) (pb rb : List Nat) : Prop where
 p : PInv H g c cb ws bs ts pb
 r : RInv H g c cr ws bs ts rb
 rng : Rng ws
 rg : ∀ t ∈ ts, t.rg
def Calm (H H' : Heap) (g g' : Nat → Nat) : Prop := H.length ≤ H'.length ∧ ∀ x, x < H.length → g' x = g x ∧ (g x = 0 ∨ g x = 1 → H'[x]? = H[x]?)
theorem Calm.refl (H : Heap) (g : Nat → Nat) : Calm H H g g := ⟨Nat.le_refl _, fun x _ => ⟨rfl, fun _ => rfl⟩⟩
theorem Calm.trans {H H1 H2 : Heap} {g g1 g2 : Nat → Nat} (a : Calm H H1 g g1) (b : Calm H1 H2 g1 g2) : Calm H H2 g g2 :=
 ⟨Nat.le_trans a.1 b.1, fun x hx => by
   have hx1 := Nat.lt_of_lt_of_le hx a.1
   exact ⟨((b.2 x hx1).1).trans (a.2 x hx).1, fun h => ((b.2 x hx1).2 (by rw [(a.2 x hx).1]; exact h)).trans ((a.2 x hx).2 h)⟩⟩
end Go.Proofs.YtnfcohmbcgfhbaaGreat

/- Cells as they are at first; of the thread seat. -/
namespace Go.Proofs.YtnfcohmbcgfhbaaGreat
open Go Go.Ir

theorem start_may (lo : Nat) (h : Heap) {c : Cfg} (hm : c.may) (hlo : lo ≤ h.length) :
  ∃ H', callR En lo Id.zbT [.agg c.cs.toArray] h = some (ptrC (newC h), H') ∧ IsC H' (newC h) (startL c) (List.replicate c.A.toNat 0) ∧ Ext h H' ∧ H'.length = h.length + 3 := by
 have hm' := hm
 unfold Cfg.may at hm'
 have hW := fun lo => words_spec lo h c
 rw [if_pos hm] at hW
 refine Exists.elim (show ∃ nw : Nat, wordsI c = nw ∧ 1 ≤ nw ∧ nw ≤ 4096 from ⟨(wordsI c).toNat, by unfold wordsI; omega, by unfold wordsI; omega, by unfold wordsI; omega⟩) fun nw hnw => ?_
 refine Exists.elim (show ∃ nb : Nat, c.A = nb ∧ nb ≤ 4096 from ⟨c.A.toNat, by omega, by omega⟩) fun nb hnb => ?_
 have hN : ∀ lo, callR En lo Id.zak [I (wordsI c), I c.A] h = some (ptrC (newC h), newH h nw nb) := fun lo => by
  rw [hnw.1, hnb.1]; exact new_spec lo h hnw.2.1 hnw.2.2 hnb.2
 have hnh := newH_is h nw nb
 have hl : (newH h nw nb).length = h.length + 3 := by simp [newH]
 refine Exists.elim (start_spec (lo := lo) hm hnh.1 ⟨by simp [newC]; omega, by simp [newC]; omega⟩ (by rw [List.length_replicate, hnw.1]; simp) (by rw [List.length_replicate, hnb.1])) fun H' hq => ?_
 have hS := hq.1
 have hC := hq.2.1
 have ho := hq.2.2
 clear hq
 refine ⟨H', ?_, by rw [hnb.1]; exact hC, ⟨by rw [ho.len, hl]; omega, fun i hi => ?_⟩, by rw [ho.len, hl]⟩
 ·refine call_of rfl Fn.zbT rfl rfl ?_
  repeat' first | refine .A ?_ | refine .B ?_ | refine .D ?_ | refine .F ?_ | refine .J ?_ | refine .C ?_ | refine .f6 ?_ | refine .P (hW _) ?_ | refine .P (hN _) ?_ | refine .P hS ?_ | refine .Y ?_ | fail
  rfl
 ·rw [ho.same i (by simp [newC]; omega)]
  exact hnh.2.2 i hi

theorem start_not (lo : Nat) (h : Heap) {c : Cfg} (hm : ¬ c.may) : callR En lo Id.zbT [.agg c.cs.toArray] h = some (.pointer none, h) := by
 have hW := fun lo => words_spec lo h c
 rw [if_neg hm] at hW
 have hc := fun lo => cmay_spec lo h 0 c.A
 rw [show (inB 0 1 4096 && inB c.A 0 4096) = false by simp [inB]] at hc
 have hN : ∀ lo, callR En lo Id.zak [I 0, I c.A] h = some (.pointer none, h) := fun lo => by
  refine call_of rfl Fn.zak rfl rfl ?_
  repeat' first | refine .A ?_ | refine .B ?_ | refine .C ?_ | refine .J ?_ | refine .P (hc _) ?_ | refine .F ?_ | refine .Y ?_ | fail
  rfl
 refine call_of rfl Fn.zbT rfl rfl ?_
 repeat' first | refine .A ?_ | refine .B ?_ | refine .C ?_ | refine .J ?_ | refine .P (hW _) ?_ | refine .P (hN _) ?_ | refine .D ?_ | refine .F ?_ | refine .Y ?_ | fail
 rfl

end Go.Proofs.YtnfcohmbcgfhbaaGreat

/- A thread alone, as the program runs it. -/
namespace Go.Proofs.YtnfcohmbcgfhbaaGreat
open Go Go.Ir

def OutB (H : Heap) (v : Value) (es : List (List Value)) (k : Nat) : Prop :=
 (∀ e ∈ es, e.length = 8) ∧ ((es = [] ∧ v = .slice none 0 0) ∨ (es ≠ [] ∧ v = .slice (some (loose k 0)) es.length 8 ∧ H[k]? = some (.row es.flatten false)))
theorem OutB.sl {H : Heap} {v : Value} {es : List (List Value)} {k : Nat} (o : OutB H v es k) : Sl H 8 v es := by
 refine ⟨o.1, ?_⟩
 rcases o.2 with ⟨h1, h2⟩ | ⟨h0, h1, h3⟩
 ·exact .inl ⟨h1, none, 0, h2⟩
 ·exact .inr ⟨_, _, h1, ldN_whole (a := loose k 0) h3 rfl (flat_len o.1).symm⟩
theorem OutB.keep {H H' : Heap} {v : Value} {es : List (List Value)} {k : Nat} (o : OutB H v es k) (h : es ≠ [] → H'[k]? = H[k]?) : OutB H' v es k := by
 refine ⟨o.1, ?_⟩
 rcases o.2 with h1 | ⟨h0, h1, h3⟩
 ·exact .inl h1
 ·exact .inr ⟨h0, h1, (h h0).trans h3⟩
theorem OutB.lt {H : Heap} {v : Value} {es : List (List Value)} {k : Nat} (o : OutB H v es k) (h : es ≠ []) : k < H.length := by
 rcases o.2 with h1 | ⟨h0, h1, h3⟩
 ·exact absurd h1.1 h
 ·exact hlt_of h3
theorem outb_more {H : Heap} {v u : Value} {es fs : List (List Value)} {k : Nat} (o : OutB H v es k) (s : Sl H 8 u fs) (hn : es.length + fs.length ≤ 2 ^ 30) :
  ∃ v' k' H', iappend 0 8 64 H v u = some (v', H') ∧ OutB H' v' (es ++ fs) k' ∧ ((es ≠ [] ∧ k' = k) ∨ H.length ≤ k') ∧ H.length ≤ H'.length ∧ ∀ x, x < H.length → (es = [] ∨ x ≠ k) → H'[x]? = H[x]? := by
 have hall : ∀ x ∈ es ++ fs, x.length = 8 := fun x hx => by
  rcases List.mem_append.1 hx with hx | hx
  ·exact o.1 x hx
  ·exact s.1 x hx
 by_cases hf : fs = []
 ·subst hf
  obtain ⟨ub, uc, hu⟩ := s.len
  subst hu
  rw [List.append_nil]
  rcases o.2 with ⟨h1, h2⟩ | ⟨h0, h1, h3⟩
  ·subst h1 h2
   exact ⟨.slice none 0 0, H.length, H, by cases ub <;> simp [iappend, lenV, srcCells], ⟨o.1, .inl ⟨rfl, rfl⟩⟩, .inr (Nat.le_refl _), Nat.le_refl _, fun _ _ _ => rfl⟩
  ·refine ⟨v, k, H, ?_, o, .inl ⟨h0, rfl⟩, Nat.le_refl _, fun _ _ _ => rfl⟩
   subst h1
   have hle : es.length ≤ 2 ^ 30 := by simpa using hn
   simp only [iappend, lenV, List.length_nil, Nat.add_zero]
   rw [if_pos (.inl ⟨hle, by decide⟩)]
   cases ub <;> simp [srcCells, loose]
 ·rcases s.2 with ⟨h1, _⟩ | ⟨a, cap, h1, h2⟩
  ·exact absurd h1 hf
  subst h1
  have hf0 : ¬ fs.length = 0 := fun e => hf (List.length_eq_zero_iff.1 e)
  have hsrc : srcCells H 8 fs.length (.slice (some a) fs.length cap) = some fs.flatten := by
   unfold srcCells
   simp only
   rw [if_neg hf0]
   exact h2
  rcases o.2 with ⟨h1, h2⟩ | ⟨h0, h1, h3⟩
  ·subst h1 h2
   refine ⟨.slice (some (loose H.length 0)) fs.length 8, H.length, H ++ [.row fs.flatten false], ?_, ⟨hall, .inr ⟨hf, rfl, by rw [List.getElem?_concat_length]; rfl⟩⟩, .inr (Nat.le_refl _), by simp, fun x hx _ => List.getElem?_append_left hx⟩
   simp only [iappend, lenV, hsrc, List.length_nil, Nat.zero_add]
   rw [if_pos (.inl ⟨by simpa using hn, by decide⟩), if_neg hf0]
  ·subst h1
   have hbl := hlt_of h3
   have hel : ¬ es.length = 0 := fun e => h0 (List.length_eq_zero_iff.1 e)
   have hold : srcCells H 8 es.length (.slice (some (loose k 0)) es.length 8) = some es.flatten := by
    unfold srcCells
    simp only
    rw [if_neg hel]
    exact ldN_whole (a := loose k 0) h3 rfl (flat_len o.1).symm
   refine ⟨.slice (some (loose H.length 0)) (es.length + fs.length) 8, H.length, H.set k .dead ++ [.row (es.flatten ++ fs.flatten) false], ?_, ⟨hall, .inr ⟨by simp [h0], by simp, ?_⟩⟩, .inr (Nat.le_refl _), by simp, fun x hx hk => ?_⟩
   ·simp only [iappend, lenV, hsrc]
    rw [if_pos (.inl ⟨hn, by decide⟩)]
    simp only [loose] at hold h3 ⊢
    simp only [hold, h3, if_neg hf0]
    simp
   ·rw [List.getElem?_append_right (by simp)]
    simp
   ·have hkx : x ≠ k := hk.resolve_left h0
    rw [List.getElem?_append_left (by rw [List.length_set]; exact hx), List.getElem?_set_ne (Ne.symm hkx)]

theorem runT_nil {c : Cfg} {n : Nat} {t : Th} {ws bs : List Int} (h : t.ops = []) : (runT c n t ws bs).1 = [] := by
 cases n with
 | zero => rfl
 | succ n => unfold runT; rw [if_pos h]
theorem runT_cons {c : Cfg} {n : Nat} {t : Th} {ws bs : List Int} (h : t.ops ≠ []) : (runT c (n + 1) t ws bs).1 = (thS c t ws bs).2.2.2 ++ (runT c n (thS c t ws bs).1 (thS c t ws bs).2.1 (thS c t ws bs).2.2.1).1 := by
 show (if t.ops = [] then _ else _ : List (List Value) × Th × List Int × List Int).1 = _
 rw [if_neg h]

set_option maxHeartbeats 3200000 in
theorem run_spec {H : Heap} {g : Nat → Nat} {c : Cfg} {cb : CB} {ws bs : List Int} {t : Th} {b : Nat} (hm : c.may) (hr : Rng ws) (hg : t.rg) (h : PInv H g c cb ws bs [t] [b]) {most : Nat} (hmo : most ≤ 100000) :
  ∃ v n k H', callR En 0 Id.zbS [ptrC cb, ptrB b, N most] H = some (.tuple #[v, I n], H') ∧ OutB H' v (runT c most t ws bs).1 k ∧ H.length ≤ k ∧ H.length ≤ H'.length ∧ ∀ x, x < H.length → g x = 0 → H'[x]? = H[x]? := by
 have key : ∃ u H', callR En 0 Id.zbS [ptrC cb, ptrB b, N most] H = some (u, H') ∧ ∃ v n k, u = .tuple #[v, I n] ∧ OutB H' v (runT c most t ws bs).1 k ∧ H.length ≤ k ∧ H.length ≤ H'.length ∧ ∀ x, x < H.length → g x = 0 → H'[x]? = H[x]? := by
  refine call_ex rfl Fn.zbS rfl rfl ?_
  repeat' first | refine .A ?_ | refine .B ?_ | refine .G ?_ | refine .F ?_ | fail
  refine .loop (fun n f H1 => ∃ (i : Nat) (v : Value) (k : Nat) (es : List (List Value)) (t1 : Th) (ws1 bs1 : List Int) (g1 : Nat → Nat), n + i = most ∧ f = [(0, ptrC cb), (1, ptrB b), (2, N most), (8, v), (9, N i)] ∧
   PInv H1 g1 c cb ws1 bs1 [t1] [b] ∧ Rng ws1 ∧ t1.rg ∧ OutB H1 v es k ∧ H.length ≤ k ∧ (es ≠ [] → g1 k = 1) ∧ es ++ (runT c n t1 ws1 bs1).1 = (runT c most t ws bs).1 ∧ es.length ≤ i ∧ H.length ≤ H1.length ∧ ∀ x, x < H.length → g1 x = g x ∧ (g x = 0 → H1[x]? = H[x]?)) (n := most)
   ⟨0, _, H.length, [], t, ws, bs, g, rfl, rfl, h, hr, hg, ⟨by simp, .inl ⟨rfl, rfl⟩⟩, Nat.le_refl _, by simp, rfl, Nat.le_refl _, Nat.le_refl _, fun x hx => ⟨rfl, fun _ => rfl⟩⟩ ?_
  rintro n f H1 ⟨i, v, k, es, t1, ws1, bs1, g1, hn, rfl, hP, hr1, hg1, hO, hk, hgk, hes, hel, hl1, hx1⟩ next
  by_cases hi : i < most
  ·obtain ⟨n, rfl⟩ : ∃ n', n = n' + 1 := ⟨n - 1, by omega⟩
   obtain ⟨own, ob, hT, _⟩ := hP.th 0 t1 b rfl rfl
   have hD := done_spec hT
   cases ho : t1.ops with
   | nil =>
     rw [ho] at hD
     simp only [List.isEmpty_nil] at hD
     repeat' first | refine .A ?_ | refine .B ?_ | refine .C ?_ | refine .F ?_ | refine .G ?_ | refine .J ?_ | refine .t1 ?_ | refine .P hD ?_ | fail
     refine ⟨v, i, k, rfl, ?_, hk, hl1, fun x hx h0 => (hx1 x hx).2 h0⟩
     rw [runT_nil ho, List.append_nil] at hes
     rw [← hes]
     exact hO
   | cons o r =>
     rw [ho] at hD
     simp only [List.isEmpty_cons] at hD
     have hne : t1.ops ≠ [] := by rw [ho]; simp
     obtain ⟨x, H2, g2, hS, hx, p2, st, nw⟩ := p_step hm hP (i := 0) rfl rfl
     have hkk := thS_rng (c := c) (bs := bs1) hr1 hg1
     rw [runT_cons hne] at hes
     obtain ⟨evs, he, hev⟩ := thEv c t1 ws1 bs1
     have hO2 : OutB H2 v es k := hO.keep fun hne => st.same k (hO.lt hne) (by rw [hgk hne]; exact .inl rfl)
     have hfl : (thS c t1 ws1 bs1).2.2.2.length ≤ 1 := by rw [he, ecs_length]; exact hev
     obtain ⟨v', k', H3, hap, hO3, hk3, hl3, hs3⟩ := outb_more hO2 hx.1 (by omega)
     have st3 : Stp (fun n => n ≠ 1) H2 H3 g2 (newG H2 g2 1) := ⟨hl3, fun y hy => newG_lt hy, fun y hy ht => hs3 y hy (Decidable.byContradiction fun hn => ht (by
      have h1 : es ≠ [] := fun e => hn (.inl e)
      have h2 : y = k := Decidable.byContradiction fun e => hn (.inr e)
      rw [h2, st.tag k (hO.lt h1)]; exact hgk h1))⟩
     have p3 := p2.keep st3 (by decide) (by decide) (fun i => by omega)
     have hl2 := st.len
     repeat' first | refine .A ?_ | refine .B ?_ | refine .C ?_ | refine .D ?_ | refine .F ?_ | refine .G ?_ | refine .H ?_ | refine .t1 ?_ | refine .n2 ?_ | refine .P hD ?_ | refine .P hS ?_ | refine .U hap ?_ | refine .Y ?_ | fail
     refine next n _ _ (by omega) ⟨i + 1, v', k', _, _, _, _, _, by omega, rfl, p3, hkk.1, hkk.2.1, hO3, by omega, fun _ => ?_, by rw [List.append_assoc]; exact hes, by rw [List.length_append]; omega, by omega, fun y hy => ?_⟩
     ·rcases hk3 with ⟨h1, rfl⟩ | h1
      ·rw [newG_lt (Nat.lt_of_lt_of_le (hO.lt h1) hl2), st.tag k' (hO.lt h1)]; exact hgk h1
      ·exact newG_ge h1
     ·have q := hx1 y hy
      have e1 : newG H2 g2 1 y = g y := by rw [newG_lt (by omega), st.tag y (by omega)]; exact q.1
      refine ⟨e1, fun h0 => ?_⟩
      rw [st3.same y (by omega) (by rw [st.tag y (by omega), q.1, h0]; decide), st.same y (by omega) (by rw [q.1, h0]; exact .inr rfl)]
      exact q.2 h0
  ·have hn0 : n = 0 := by omega
   subst hn0
   repeat' first | refine .A ?_ | refine .B ?_ | refine .D ?_ | refine .I ?_ | refine .J ?_ | refine .f1 ?_ | refine .F ?_ | fail
   refine ⟨v, most, k, rfl, ?_, hk, hl1, fun x hx h0 => (hx1 x hx).2 h0⟩
   have : es ++ [] = (runT c most t ws bs).1 := hes
   rw [List.append_nil] at this
   rw [← this]
   exact hO
 obtain ⟨u, H', h1, v, n, k, rfl, h2⟩ := key
 exact ⟨v, n, k, H', h1, h2⟩
end Go.Proofs.YtnfcohmbcgfhbaaGreat

/- ThreadPrefix, as the program runs it. -/
namespace Go.Proofs.YtnfcohmbcgfhbaaGreat
open Go Go.Ir

theorem OutB.take {H : Heap} {v : Value} {es : List (List Value)} {k : Nat} (o : OutB H v es k) {m : Nat} (hm : m ≤ es.length) :
  ∃ v', islice 8 v none (some (I (m : Nat))) none = some v' ∧ Sl H 8 v' (es.take m) := by
 have hall : ∀ e ∈ es.take m, e.length = 8 := fun e he => o.1 e (List.mem_of_mem_take he)
 have hib : ∀ n : Nat, m ≤ n → ibounds n n none (some (I (m : Nat))) none = some (0, m, n) := fun n hn => by
  have h1 : ibound (I (m : Nat)) n = some m := by
   show (if (0 : Int) ≤ (m : Nat) ∧ ((m : Nat) : Int) ≤ (n : Nat) then some ((m : Nat) : Int).toNat else none) = some m
   rw [if_pos ⟨by omega, by omega⟩]
   rfl
  simp only [ibounds, ibMax, ibHigh, ibLow, h1]
 rcases o.2 with ⟨h1, h2⟩ | ⟨h0, h1, h3⟩
 ·subst h1 h2
  have : m = 0 := by simpa using hm
  subst this
  refine ⟨.slice none 0 0, ?_, ⟨hall, .inl ⟨rfl, none, 0, rfl⟩⟩⟩
  simp only [islice, hib 0 (Nat.le_refl _)]
 ·subst h1
  refine ⟨.slice (some (loose k (0 + 0 * 8))) (m - 0) 8, ?_, ⟨hall, ?_⟩⟩
  ·simp only [islice, loose, hib _ hm, if_true]
  ·by_cases hm0 : m = 0
   ·subst hm0
    exact .inl ⟨rfl, _, _, rfl⟩
   ·refine .inr ⟨_, _, by rw [List.length_take, Nat.min_eq_left hm]; rfl, ?_⟩
    rw [List.length_take, Nat.min_eq_left hm]
    have hfl := flat_len o.1
    have := ldN_of (a := loose k (0 + 0 * 8)) (n := m * 8) h3 (by show 0 + 0 * 8 + m * 8 ≤ _; rw [hfl]; have := Nat.mul_le_mul_right 8 hm; omega)
    rw [this]
    show some ((es.flatten.drop 0).take (m * 8)) = _
    rw [List.drop_zero]
    congr 1
    have e1 : es.flatten = (es.take m).flatten ++ (es.drop m).flatten := by rw [← List.flatten_append, List.take_append_drop]
    have e2 : ((es.take m).flatten).length = m * 8 := by rw [flat_len hall, List.length_take, Nat.min_eq_left hm]
    rw [e1, ← e2, List.take_left']
    rfl

def g2 (n : Nat) : Nat → Nat := fun x => if n ≤ x ∧ x < n + 3 then 2 else 0
theorem pinv0 {H : Heap} {c : Cfg} {ws bs : List Int} {n : Nat} (hC : IsC H ⟨n + 2, n, n + 1⟩ ws bs) : PInv H (g2 n) c ⟨n + 2, n, n + 1⟩ ws bs [] [] :=
 ⟨hC, ⟨if_pos (show n ≤ n + 2 ∧ n + 2 < n + 3 by omega), if_pos (show n ≤ n ∧ n < n + 3 by omega), if_pos (show n ≤ n + 1 ∧ n + 1 < n + 3 by omega)⟩, rfl, fun i t b ht => by simp at ht⟩
theorem new_one {H : Heap} {g : Nat → Nat} {c : Cfg} {cb : CB} {ws bs : List Int} {v : Value} {l : List Op4} {s0 : Nat} (hm : c.may) (h : PInv H g c cb ws bs [] []) (h0 : s0 < H.length) (g0 : g s0 = 0) (hv : Sl H 4 v (ocs l)) (ht : TightV v l.length) (hb : l.length * 32 ≤ 2 ^ 47) :
  ∃ H1 g', callR En 0 Id.zcu [.agg c.cs.toArray, I 0, v] H = some (ptrB H.length, H1) ∧ PInv H1 g' c cb ws bs [th0 0 l] [H.length] ∧ Ext H H1 ∧ ∀ x, x < H.length → g' x = g x := by
 obtain ⟨H1, ob, hN, hx1, hP, ho1, ho2⟩ := thnew_spec h0 cb 0 hm (ltC h.cells) hv ht hb
 have hl : opsOf c 0 l = l := by
  unfold opsOf noteI
  unfold Cfg.may at hm
  rw [if_pos]
  rw [if_pos ⟨by omega, by omega⟩]
  omega
 rw [hl] at hP
 have st1 := stp_ext (g := g) (k := 4) hx1
 have h1 := h.keep st1 trivial trivial (fun _ => trivial)
 have hbl : H.length < H1.length := by
  obtain ⟨_, _, _, _, hr, _⟩ := hP.row
  exact hlt_of hr
 refine ⟨H1, _, hN, h1.push (t := th0 0 l) (b := H.length) ⟨[H.length], ob, hP, fun x hx => ?_, ho2, ?_⟩, hx1, fun x hx => newB_lt hx⟩
 ·rw [List.mem_singleton] at hx
  subst hx
  exact ⟨hbl, newB_at⟩
 ·rcases ho1 with rfl | ho1
  ·rw [newB_lt h0]; exact g0
  ·exact newB_gt ho1

theorem start_rngY {c : Cfg} (hm : c.may) : Rng (startL c) := by
 intro w hw
 unfold startL at hw
 unfold Cfg.may at hm
 rcases List.mem_or_eq_of_mem_set hw with h | h
 ·obtain ⟨k, hk, rfl⟩ := List.mem_map.1 h
  unfold partW
  split <;> omega
 ·omega
theorem start_still {c : Cfg} (hm : c.may) : Still c (startL c) := by
 intro s h0 h1
 have e := slot_at (c := c) 0 h0 h1
 have hw : getI (startL c) (slotI c s 0) = 0 := by
  unfold Cfg.may at hm
  have hl : ((startL c).length : Int) = wordsI c := by rw [startL_len]; unfold wordsI; omega
  obtain ⟨k, hk⟩ : ∃ k : Nat, slotI c s 0 = k := ⟨(slotI c s 0).toNat, by omega⟩
  unfold getI
  unfold wordsI at hl
  rw [if_pos ⟨by omega, by omega⟩, hk, Int.toNat_natCast, List.getD_eq_getElem?_getD]
  unfold startL
  rw [List.getElem?_set_ne (by omega), partL_get c 0 (by unfold wordsI; omega)]
  unfold partW
  rw [if_neg (by omega)]
  rfl
 rw [hw]
 intro e he
 have : unpackE 0 = some Ent.zero := by decide
 rw [this] at he
 injection he with he
 subst he
 exact ⟨rfl, rfl⟩
theorem th0_tj {c : Cfg} (hm : c.may) (l : List Op4) : TJ c (startL c) (th0 0 l) := ⟨by simp [th0], by simp [th0], fun h => by simp [th0] at h, fun _ => start_still hm⟩
theorem th0_mu {l : List Op4} (h : l.length ≤ 20) : muT (th0 0 l) ≤ 20000 := by simp [muT, th0]; omega
theorem IsC.eqs {H H' : Heap} {c : CB} {ws bs : List Int} (hC : IsC H c ws bs) (h1 : H'[c.P]? = H[c.P]?) (h2 : H'[c.W]? = H[c.W]?) (h3 : H'[c.Y]? = H[c.Y]?) : IsC H' c ws bs := by
 obtain ⟨st, hp⟩ := hC.p
 exact ⟨⟨st, h1.trans hp⟩, h2.trans hC.w, h3.trans hC.y, hC.pw, hC.py, hC.wy, hC.byte⟩
theorem runT_ev (c : Cfg) : ∀ (n : Nat) (t : Th) (ws bs : List Int), ∃ l : List Ev, (runT c n t ws bs).1 = ecs l
 | 0, t, ws, bs => ⟨[], rfl⟩
 | n + 1, t, ws, bs => by
   by_cases h : t.ops = []
   ·exact ⟨[], runT_nil h⟩
   ·obtain ⟨a, h1, _⟩ := thEv c t ws bs
    obtain ⟨b, h2⟩ := runT_ev c n (thS c t ws bs).1 (thS c t ws bs).2.1 (thS c t ws bs).2.2.1
    exact ⟨a ++ b, by rw [runT_cons h, h1, h2]; simp [ecs]⟩
set_option maxHeartbeats 8000000 in
theorem prefix_run (c : Cfg) {h : Heap} {v : Value} {l : List Op4} {at_ : Int} (hv : Sl h 4 v (ocs l)) (ht : TightV v l.length) : ∃ h', callR En 0 Id.zbQ [.agg c.cs.toArray, v, I at_] h = some (.bool true, h') := by
 have hcs : Value.agg c.cs.toArray = .agg #[I c.A, I c.S, I c.T] := rfl
 have key : ∃ u h', callR En 0 Id.zbQ [.agg #[I c.A, I c.S, I c.T], v, I at_] h = some (u, h') ∧ u = .bool true := by
  refine Exists.elim hv.len fun vb hq => Exists.elim hq fun vc hve => ?_
  rw [ocs_length] at hve
  refine call_ex rfl Fn.zbQ rfl rfl ?_
  by_cases hm : c.may
  ·refine Exists.elim (start_may 0 h hm (Nat.zero_le _)) fun H1 hq => ?_
   have hS1 := hq.1
   have hC1 := hq.2.1
   have hx1 := hq.2.2.1
   have hl1 := hq.2.2.2
   clear hq
   refine Exists.elim (start_may 0 H1 hm (Nat.zero_le _)) fun H2 hq => ?_
   have hS2 := hq.1
   have hC2 := hq.2.1
   have hx2 := hq.2.2.1
   have hl2 := hq.2.2.2
   clear hq
   rw [hcs] at hS1 hS2
   by_cases h20 : 20 < l.length
   ·subst hve
    repeat' first | refine .A ?_ | refine .B ?_ | refine .C ?_ | refine .J ?_ | refine .t3 ?_ | refine .P hS1 ?_ | refine .P hS2 ?_ | refine .P (live_c _ _) ?_ | refine .D ?_ | refine .F ?_ | refine .Y ?_ | fail
    rfl
   by_cases ha0 : at_ < 0
   ·subst hve
    repeat' first | refine .A ?_ | refine .B ?_ | refine .C ?_ | refine .J ?_ | refine .t1 ?_ | refine .f3 ?_ | refine .P hS1 ?_ | refine .P hS2 ?_ | refine .P (live_c _ _) ?_ | refine .D ?_ | refine .F ?_ | refine .Y ?_ | fail
    rfl
   by_cases hal : (l.length : Int) < at_
   ·subst hve
    repeat' first | refine .A ?_ | refine .B ?_ | refine .C ?_ | refine .J ?_ | refine .f1 ?_ | refine .t3 ?_ | refine .f3 ?_ | refine .P hS1 ?_ | refine .P hS2 ?_ | refine .P (live_c _ _) ?_ | refine .D ?_ | refine .F ?_ | refine .Y ?_ | fail
    rfl
   refine Exists.elim (show ∃ k : Nat, at_ = k from ⟨at_.toNat, by omega⟩) fun k hk => ?_
   subst hk
   have hkl : k ≤ l.length := by omega
   have hrs := start_rngY hm
   have hm' := hm
   unfold Cfg.may at hm'
   have hll : ((startL c).length : Int) = wordsI c := by rw [startL_len]; unfold wordsI; omega
   -- the first
   have hA2 : IsC H2 (newC h) (startL c) (List.replicate c.A.toNat 0) := hC1.chg (Chg.ofExt (S := []) hx2) (by simp)
   refine Exists.elim (new_one (s0 := H1.length) hm (pinv0 hA2) (by omega) (if_neg (by omega)) ((hv.ext hx1).ext hx2) ht (by omega)) fun H3 hq => Exists.elim hq fun g3 hq => ?_
   have hN1 := hq.1
   have hP3 := hq.2.1
   have hx3 := hq.2.2.1
   have hg3 := hq.2.2.2
   clear hq
   refine Exists.elim (run_spec hm hrs (th0_rg 0 l) hP3 (most := 20000) (by decide)) fun v1 hq => Exists.elim hq fun n1 hq => Exists.elim hq fun k1 hq => Exists.elim hq fun H4 hq => ?_
   have hR1 := hq.1
   have hO1 := hq.2.1
   have hk1 := hq.2.2.1
   have hl4 := hq.2.2.2.1
   have hs4 := hq.2.2.2.2
   clear hq
   have hl3 := hx3.1
   have keep4 : ∀ x, x < H2.length → (x < h.length ∨ h.length + 3 ≤ x) → H4[x]? = H2[x]? := fun x hx hh => (hs4 x (by omega) ((hg3 x hx).trans (if_neg (by omega)))).trans (hx3.2 x hx)
   -- the second
   have hB4 : IsC H4 (newC H1) (startL c) (List.replicate c.A.toNat 0) := hC2.eqs (keep4 _ (by show H1.length + 2 < _; omega) (by show _ ∨ _ ≤ H1.length + 2; omega)) (keep4 _ (by show H1.length < _; omega) (by show _ ∨ _ ≤ H1.length; omega)) (keep4 _ (by show H1.length + 1 < _; omega) (by show _ ∨ _ ≤ H1.length + 1; omega))
   have hxa : Ext h H4 := ⟨by omega, fun x hx => ((keep4 x (by omega) (.inl hx)).trans (hx2.2 x (by omega))).trans (hx1.2 x hx)⟩
   rw [← ocs_length] at ht
   refine Exists.elim ((hv.ext hxa).take ht (k := k) (by rw [ocs_length]; exact hkl)) fun v' hq => ?_
   have hi1 := hq.1
   have hv' := hq.2.1
   have ht' := hq.2.2
   clear hq
   rw [ocs_length] at ht
   have hoc : (ocs l).take k = ocs (l.take k) := by simp [ocs, List.map_take]
   rw [hoc] at hv'
   have hlk : (l.take k).length = k := by rw [List.length_take]; omega
   refine Exists.elim (new_one (s0 := h.length) hm (pinv0 hB4) (by omega) (if_neg (by omega)) hv' (by rw [hlk]; exact ht') (by omega)) fun H5 hq => Exists.elim hq fun g5 hq => ?_
   have hN2 := hq.1
   have hP5 := hq.2.1
   have hx5 := hq.2.2.1
   have hg5 := hq.2.2.2
   clear hq
   refine Exists.elim (run_spec hm hrs (th0_rg 0 (l.take k)) hP5 (most := 20000) (by decide)) fun v2 hq => Exists.elim hq fun n2 hq => Exists.elim hq fun k2 hq => Exists.elim hq fun H6 hq => ?_
   have hR2 := hq.1
   have hO2 := hq.2.1
   have hs6 := hq.2.2.2.2
   clear hq
   have hO16 : OutB H6 v1 (runT c 20000 (th0 0 l) (startL c) (List.replicate c.A.toNat 0)).1 k1 := hO1.keep fun hne => by
    have hk4 := hO1.lt hne
    exact (hs6 k1 (by have := hx5.1; omega) ((hg5 k1 hk4).trans (if_neg (by omega)))).trans (hx5.2 k1 hk4)
   -- the plain law
   have d1 := (run_done (bs := List.replicate c.A.toNat 0) hm 20000 hll hrs (th0_rg 0 l) (th0_tj hm l) (fun _ => th0_mu (by omega))).2
   have d2 := (run_done (bs := List.replicate c.A.toNat 0) hm 20000 hll hrs (th0_rg 0 (l.take k)) (th0_tj hm (l.take k)) (fun _ => th0_mu (by omega))).2
   have dm := run_more (bs := List.replicate c.A.toNat 0) (q := l.drop k) hm 20000 (k := 20000) hll hrs (th0_rg 0 (l.take k)) (th0_tj hm (l.take k)) (Nat.le_refl _) (fun _ => th0_mu (by omega))
   have emo : more (th0 0 (l.take k)) (l.drop k) = th0 0 l := by unfold more th0; simp
   rw [emo] at dm
   have c1 : ∀ l' : List Op4, (if (th0 0 l').ops = [] then 0 else cnt (th0 0 l')) = 2 * l'.length := fun l' => by
    split
    ·rename_i e
     have e : l' = [] := e
     subst e; rfl
    ·simp [cnt, th0]
   rw [c1] at d1 d2
   rw [hlk] at d2
   refine Exists.elim dm fun rest hrest => ?_
   have dev := runT_ev c 20000 (th0 0 (l.take k)) (startL c) (List.replicate c.A.toNat 0)
   generalize (runT c 20000 (th0 0 l) (startL c) (List.replicate c.A.toNat 0)).1 = E1 at hO16 d1 hrest
   generalize (runT c 20000 (th0 0 (l.take k)) (startL c) (List.replicate c.A.toNat 0)).1 = E2 at hO2 d2 hrest dev
   refine Exists.elim (hO16.take (m := 2 * k) (by omega)) fun v3 hq => ?_
   have hi3 := hq.1
   have hsl3 := hq.2
   clear hq
   have he2 : E1.take (2 * k) = E2 := by rw [hrest, List.take_left' d2]
   rw [he2] at hsl3
   refine Exists.elim hO16.sl.len fun b1 hq => Exists.elim hq fun cp1 hv1e => ?_
   refine Exists.elim hO2.sl.len fun b2 hq => Exists.elim hq fun cp2 hv2e => ?_
   rw [d1] at hv1e
   rw [d2] at hv2e
   have hev : ∀ lo, callR En lo Id.zcj [v3, v2] H6 = some (.bool true, H6) := fun lo => by
    obtain ⟨evs, hee⟩ := dev
    have hsl2 := hO2.sl
    rw [hee] at hsl3 hsl2 d2
    rw [ecs_length] at d2
    exact events_spec lo hsl3 hsl2 (by omega)
   rw [hcs] at hN1 hN2
   subst hve hv1e hv2e
   repeat' first | refine .A ?_ | refine .B ?_ | refine .D ?_ | refine .F ?_ | refine .J ?_ | refine .f1 ?_ | refine .f3 ?_ | refine .t5 ?_ | refine .mulN (a := 2) rfl rfl rfl (by omega) ?_ | (show EG _ _ (⟨_, .call _ _, _, _⟩ :: _) _ _ _ _ _ _; first | refine .P hS1 ?_ | refine .P hS2 ?_ | refine .P hN1 ?_ | refine .P hR1 ?_ | refine .P hN2 ?_ | refine .P hR2 ?_ | refine .P (hev _) ?_ | refine .P (live_c _ _) ?_) | refine .slTo rfl rfl rfl hi1 ?_ | refine .slTo rfl rfl rfl hi3 ?_ | refine .Y ?_ | fail
   rfl
  ·have hS1 := start_not 0 h hm
   have hM := fun lo => may_spec lo h c
   rw [decide_eq_false hm] at hM
   rw [hcs] at hS1 hM
   subst hve
   repeat' first | refine .A ?_ | refine .B ?_ | refine .C ?_ | refine .J ?_ | refine .P hS1 ?_ | refine .P (hM _) ?_ | refine .P (live_c _ _) ?_ | refine .D ?_ | refine .F ?_ | refine .Y ?_ | fail
   rfl
 obtain ⟨u, h', h1, rfl⟩ := key
 exact ⟨h', h1⟩
end Go.Proofs.YtnfcohmbcgfhbaaGreat

/- Ops as an argument. -/
set_option linter.constructorNameAsVariable false
namespace Go.Proofs.YtnfcohmbcgfhbaaGreat
open Go Go.Ir Go.ChangeShapes Go.WideShapes

theorem cellsOf40 : Tryz.prog.cellsOf 40 = 4 := by kernel_rfl
theorem i64_rng {n : Int} (h : (Lit.int .i64 n).wf = true) : -9223372036854775808 ≤ n ∧ n < 9223372036854775808 := by
 simp only [Lit.wf, Bool.and_eq_true, decide_eq_true_eq] at h
 have h1 : IntKind.min .i64 = -9223372036854775808 := by decide
 have h2 : IntKind.max .i64 = 9223372036854775807 := by decide
 omega
section
variable {H : Type} {enc : TypeId × Value → H} {W : World} {base : Nat} {spare : Nat → Bool} {held : Bool} {n : Nat} {cs : List Value} {x : DataW H × List MemPlace}
theorem open_op (h : DataW.trod enc Tryz.prog W base spare held n 40 cs = some x) : ∃ t : Op4, cs = t.cs := by
 obtain ⟨xs, m, _, _, hlen, hxl, hf⟩ := DataW.trod_struct Tryz.underlying40 h
 rw [cellsOf40] at hlen
 have hx : xs.length = 4 := hxl
 have g0 : DataW.trod enc Tryz.prog W base spare held m 3 ((cs.drop 0).take (Tryz.prog.cellsOf 3)) = xs[0]? := hf 0 _ rfl
 rw [cellsOf3, List.getElem?_eq_getElem (by omega)] at g0
 have g1 : DataW.trod enc Tryz.prog W base spare held m 3 ((cs.drop 1).take (Tryz.prog.cellsOf 3)) = xs[1]? := hf 1 _ rfl
 rw [cellsOf3, List.getElem?_eq_getElem (by omega)] at g1
 have g2 : DataW.trod enc Tryz.prog W base spare held m 3 ((cs.drop 2).take (Tryz.prog.cellsOf 3)) = xs[2]? := hf 2 _ rfl
 rw [cellsOf3, List.getElem?_eq_getElem (by omega)] at g2
 have g3 : DataW.trod enc Tryz.prog W base spare held m 3 ((cs.drop 3).take (Tryz.prog.cellsOf 3)) = xs[3]? := hf 3 _ rfl
 rw [cellsOf3, List.getElem?_eq_getElem (by omega)] at g3
 obtain ⟨b0, e0, _, w0⟩ := DataW.trod_int Tryz.underlying3 g0
 obtain ⟨b1, e1, _, w1⟩ := DataW.trod_int Tryz.underlying3 g1
 obtain ⟨b2, e2, _, w2⟩ := DataW.trod_int Tryz.underlying3 g2
 obtain ⟨b3, e3, _, w3⟩ := DataW.trod_int Tryz.underlying3 g3
 refine ⟨⟨b0, b1, b2, b3, i64_rng w1, i64_rng w3⟩, List.ext_getElem? fun i => ?_⟩
 match i with
 | 0 => exact take1 cs e0
 | 1 => exact take1 cs e1
 | 2 => exact take1 cs e2
 | 3 => exact take1 cs e3
 | i + 4 => rw [List.getElem?_eq_none (by omega)]; rfl
instance : Inhabited Op4 := ⟨⟨0, 0, 0, 0, by omega, by omega⟩⟩
set_option maxRecDepth 8000 in
theorem open_ops {E : Emb} {h : Heap} (s : Sim W.heap.size W E h W) (hro : RoH h) {b0 : Nat} {r : Reach} {v0 : Value} {d0 : DataW H} {p0 : List MemPlace} (hval : Value.okWide Tryz.prog W r b0 24 v0) (hd : DataW.Trod enc Tryz.prog W base spare held 24 v0 d0 p0) :
  ∃ E' h' v l, Sim W.heap.size W E' h' W ∧ E.le E' ∧ RoH h' ∧ Ext h h' ∧ VR E' v v0 ∧ Sl h' 4 v (ocs l) ∧ TightV v l.length :=
 open_row Op4.cs Tryz.underlying24 cellsOf40 (by decide) (fun a => ⟨rfl, rfl, rfl⟩) open_op s hro hval hd
end
end Go.Proofs.YtnfcohmbcgfhbaaGreat

