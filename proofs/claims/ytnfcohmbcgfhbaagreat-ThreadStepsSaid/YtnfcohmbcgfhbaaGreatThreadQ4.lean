/- Many threads: each with its own blocks, by both. -/
import Derived.Test.YtnfcohmbcgfhbaaGreatThreadQ3
import Derived.Test.YtnfcohmbcgfhbaaGreatIrD
import Derived.SizedLaws
import Derived.Test.YtnfcohmbcgfhbaaGreatThreadP1
import Derived.Test.YtnfcohmbcgfhbaaGreatStepsE
set_option linter.unusedVariables false
set_option linter.unusedSimpArgs false

namespace Go.Proofs.YtnfcohmbcgfhbaaGreat
open Go Go.Ir

def fil (H : qab) (own : List Nat) : List Nat := own.filter (fun x => decide (x < H.length))
theorem mem_fil {H : qab} {own : List Nat} {x : Nat} : x ∈ fil H own ↔ x ∈ own ∧ x < H.length := by simp [fil]
theorem qqf {H : qab} {own : List Nat} {x : Nat} {k : Blk} (h : x ∈ own) (hr : H[x]? = some k) : x ∈ fil H own := mem_fil.2 ⟨h, qim hr⟩
theorem qqg {H : qab} {own : List Nat} {cb : CB} {x : Nat} (h : x ∈ qno (fil H own) cb) : x ∈ qno own cb := by
 rcases List.mem_append.1 h with g | g
 ·exact List.mem_append_left _ (mem_fil.1 g).1
 ·exact List.mem_append_right _ g

section
variable {H H' : qab} {b ob : Nat} {c : Cfg} {t : Th} {cb : CB} {ws bs : List Int} {own : List Nat}
theorem MxP.fil {k : Nat} : ∀ {m : Mx}, MxP H own c k m → MxP H (fil H own) c k m
 | .al s, h => by
   obtain ⟨h1, h2, t, gv, h3, h4, h5, h6, h7⟩ := h
   refine ⟨qqf h1 h3, h2, t, gv, h3, h4, h5, qqf h6 h4, fun h => ?_⟩
   obtain ⟨q, q1, q2, q3, q4, q5⟩ := h7 h
   exact ⟨q, q1, q2, q3, q4, qqf q5 q2⟩
 | .fe s, h => by
   obtain ⟨h1, to, more, gv, h2, h3, h4⟩ := h
   refine ⟨qqf h1 h2, to, more, gv, h2, h3, fun a1 a2 a3 => ?_⟩
   obtain ⟨q, q1, q2, q3, q4⟩ := h4 a1 a2 a3
   exact ⟨q, q1, q2, q3, qqf q4 q2⟩
 | .rd s, h => ⟨qqf h.1 h.2, h.2⟩
 | .wr s, h => ⟨qqf h.1 h.2, h.2⟩
 | .pn s, h => ⟨qqf h.1 h.2, h.2⟩
 | .no, _ => trivial
theorem ThP.fil (h : ThP H own ob cb c t b) : ThP H (fil H own) ob cb c t b := by
 obtain ⟨ov, ev, mv, av, hr, ho, he, hw⟩ := h.row
 refine ⟨qqf h.mem hr, h.note, h.nx, fun a hm => h.far a (qqg hm), ov, ev, mv, av, hr, ho, fun a => ?_, fun a => ?_⟩
 ·obtain ⟨e, e1, e2, e3, e4⟩ := he a
  exact ⟨e, e1, qqf e2 e4, e3, e4⟩
 ·obtain ⟨k, mo, e1, e2, e3, e4, e5⟩ := hw a
  exact ⟨k, Go.Proofs.YtnfcohmbcgfhbaaGreat.fil H mo, e1, e2, fun x hx => mem_fil.2 ⟨e3 x (mem_fil.1 hx).1, (mem_fil.1 hx).2⟩, fun hb => e4 (mem_fil.1 hb).1, e5.fil⟩
theorem ThP.keep (h : ThP H own ob cb c t b) (hk : ∀ x ∈ own, H'[x]? = H[x]?) (hob : H'[ob]? = H[ob]?) : ThP H' own ob cb c t b := by
 obtain ⟨ov, ev, mv, av, hr, ho, he, hw⟩ := h.row
 refine ⟨h.mem, h.note, h.nx, h.far, ov, ev, mv, av, (hk _ h.mem).trans hr, ho.keep hob, fun a => ?_, fun a => ?_⟩
 ·obtain ⟨e, e1, e2, e3, e4⟩ := he a
  exact ⟨e, e1, e2, e3, (hk _ e2).trans e4⟩
 ·obtain ⟨k, mo, e1, e2, e3, e4, e5⟩ := hw a
  exact ⟨k, mo, e1, e2, e3, e4, e5.keep fun x hx => hk x (e3 x hx)⟩
theorem MxR.fil {k : Nat} : ∀ {m : Mx}, MxR H own c k m → MxR H (fil H own) c k m
 | .al s, h => by
   obtain ⟨h1, h2, pv, gv, h3, h4, h5⟩ := h
   refine ⟨qqf h1 h3, h2, pv, gv, h3, fun h => ?_, fun h => ?_⟩
   ·obtain ⟨q, q1, q2, q3, q4⟩ := h4 h
    exact ⟨q, q1, q2, q3, qqf q4 q2⟩
   ·obtain ⟨q, q1, q2, q3, q4⟩ := h5 h
    exact ⟨q, q1, q2, q3, qqf q4 q2⟩
 | .fe s, h => by
   obtain ⟨h1, ⟨gv, h2, h3⟩, h4, h5⟩ := h
   refine ⟨qqf h1 h2, ⟨gv, h2, fun a1 a2 a3 => ?_⟩, h4, h5⟩
   obtain ⟨q, q1, q2, q3, q4⟩ := h3 a1 a2 a3
   exact ⟨q, q1, q2, q3, qqf q4 q2⟩
 | .rd s, h => by
   obtain ⟨h1, kp, bb, h2, h3⟩ := h
   exact ⟨qqf h1 h2, kp, bb, h2, h3⟩
 | .wr s, h => by
   obtain ⟨h1, e, h2, h3⟩ := h
   exact ⟨qqf h1 h2, e, h2, h3⟩
 | .pn s, h => by
   obtain ⟨h1, h2, h3⟩ := h
   exact ⟨qqf h1 h2, h2, h3⟩
 | .no, _ => trivial
theorem ThR.fil (h : ThR H own ob cb c t b) : ThR H (fil H own) ob cb c t b := by
 obtain ⟨L, at_, ov, ev, xv, hr, ho, g1, g2, g3, g4, he, hw⟩ := h.row
 refine ⟨qqf h.mem hr, h.note, h.nx, L, at_, ov, ev, xv, hr, ho, g1, g2, g3, fun a hm => g4 a (qqg hm), fun a => ?_, fun a => ?_⟩
 ·obtain ⟨e, e1, e2, e3, e4⟩ := he a
  exact ⟨e, e1, qqf e2 e4, e3, e4⟩
 ·obtain ⟨x, k, mo, d, e1, e2, e3, e4, e5, e6⟩ := hw a
  exact ⟨x, k, Go.Proofs.YtnfcohmbcgfhbaaGreat.fil H mo, d, e1, qqf e2 e6.row, e3, fun x hx => mem_fil.2 ⟨e4 x (mem_fil.1 hx).1, (mem_fil.1 hx).2⟩, fun hb => e5 (mem_fil.1 hb).1, ⟨e6.row, e6.d, e6.ok, e6.my.fil, fun hb => e6.no (mem_fil.1 hb).1⟩⟩
theorem ThR.keep (h : ThR H own ob cb c t b) (hk : ∀ x ∈ own, H'[x]? = H[x]?) (hob : H'[ob]? = H[ob]?) : ThR H' own ob cb c t b := by
 obtain ⟨L, at_, ov, ev, xv, hr, ho, g1, g2, g3, g4, he, hw⟩ := h.row
 refine ⟨h.mem, h.note, h.nx, L, at_, ov, ev, xv, (hk _ h.mem).trans hr, ho.keep hob, g1, g2, g3, g4, fun a => ?_, fun a => ?_⟩
 ·obtain ⟨e, e1, e2, e3, e4⟩ := he a
  exact ⟨e, e1, e2, e3, (hk _ e2).trans e4⟩
 ·obtain ⟨x, k, mo, d, e1, e2, e3, e4, e5, e6⟩ := hw a
  exact ⟨x, k, mo, d, e1, e2, e3, e4, e5, e6.keep (fun y hy => hk y (e4 y hy)) (hk x e2)⟩
end

def PT (H : qab) (g : Nat → Nat) (c : Cfg) (cb : CB) (i : Nat) (t : Th) (b : Nat) : Prop :=
 ∃ own ob, ThP H own ob cb c t b ∧ (∀ x ∈ own, x < H.length ∧ g x = 4 + 2 * i) ∧ ob < H.length ∧ g ob = 0
structure PInv (H : qab) (g : Nat → Nat) (c : Cfg) (cb : CB) (ws bs : List Int) (ts : List Th) (pb : List Nat) : Prop where
 cells : IsC H cb ws bs
 tc : g cb.P = 2 ∧ g cb.W = 2 ∧ g cb.Y = 2
 len : pb.length = ts.length
 th : ∀ i t b, ts[i]? = some t → pb[i]? = some b → PT H g c cb i t b
def RT (H : qab) (g : Nat → Nat) (c : Cfg) (cb : CB) (i : Nat) (t : Th) (b : Nat) : Prop :=
 ∃ own ob, ThR H own ob cb c t b ∧ (∀ x ∈ own, x < H.length ∧ g x = 5 + 2 * i) ∧ ob < H.length ∧ g ob = 0
structure RInv (H : qab) (g : Nat → Nat) (c : Cfg) (cb : CB) (ws bs : List Int) (ts : List Th) (pb : List Nat) : Prop where
 cells : IsR H cb ws bs
 tc : g cb.P = 3 ∧ g cb.W = 3 ∧ g cb.Y = 3
 len : pb.length = ts.length
 th : ∀ i t b, ts[i]? = some t → pb[i]? = some b → RT H g c cb i t b
structure Stp (T : Nat → Prop) (H H' : qab) (g g' : Nat → Nat) : Prop where
 len : H.length ≤ H'.length
 tag : ∀ x, x < H.length → g' x = g x
 same : ∀ x, x < H.length → T (g x) → H'[x]? = H[x]?
def TP (n : Nat) : Prop := n % 2 = 1 ∨ n = 0
def TR (n : Nat) : Prop := n % 2 = 0 ∨ n = 1
theorem Stp.mono {T T' : Nat → Prop} {H H' : qab} {g g' : Nat → Nat} (h : Stp T H H' g g') (hT : ∀ n, T' n → T n) : Stp T' H H' g g' := ⟨h.len, h.tag, fun x hx ht => h.same x hx (hT _ ht)⟩

section
variable {H H' : qab} {g g' : Nat → Nat} {c : Cfg} {cb : CB} {ws bs : List Int} {ts : List Th} {pb : List Nat} {i b : Nat} {t : Th}
theorem PT.keep {T : Nat → Prop} (h : PT H g c cb i t b) (s : Stp T H H' g g') (h0 : T 0) (hi : T (4 + 2 * i)) : PT H' g' c cb i t b := by
 obtain ⟨own, ob, h1, h2, h3, h4⟩ := h
 refine ⟨own, ob, h1.keep (fun x hx => s.same x (h2 x hx).1 (by rw [(h2 x hx).2]; exact hi)) (s.same ob h3 (by rw [h4]; exact h0)), fun x hx => ⟨Nat.lt_of_lt_of_le (h2 x hx).1 s.len, (s.tag x (h2 x hx).1).trans (h2 x hx).2⟩, Nat.lt_of_lt_of_le h3 s.len, (s.tag ob h3).trans h4⟩
theorem PInv.keep {T : Nat → Prop} (h : PInv H g c cb ws bs ts pb) (s : Stp T H H' g g') (h0 : T 0) (h2 : T 2) (hi : ∀ i, T (4 + 2 * i)) : PInv H' g' c cb ws bs ts pb := by
 have lc := ltC h.cells
 obtain ⟨st, hp⟩ := h.cells.p
 refine ⟨⟨⟨st, (s.same _ lc.1 (by rw [h.tc.1]; exact h2)).trans hp⟩, (s.same _ lc.2.1 (by rw [h.tc.2.1]; exact h2)).trans h.cells.w, (s.same _ lc.2.2 (by rw [h.tc.2.2]; exact h2)).trans h.cells.y, h.cells.pw, h.cells.py, h.cells.wy, h.cells.byte⟩,
  ⟨(s.tag _ lc.1).trans h.tc.1, (s.tag _ lc.2.1).trans h.tc.2.1, (s.tag _ lc.2.2).trans h.tc.2.2⟩, h.len, fun i t b ht hb => (h.th i t b ht hb).keep s h0 (hi i)⟩
theorem RT.keep {T : Nat → Prop} (h : RT H g c cb i t b) (s : Stp T H H' g g') (h0 : T 0) (hi : T (5 + 2 * i)) : RT H' g' c cb i t b := by
 obtain ⟨own, ob, h1, h2, h3, h4⟩ := h
 refine ⟨own, ob, h1.keep (fun x hx => s.same x (h2 x hx).1 (by rw [(h2 x hx).2]; exact hi)) (s.same ob h3 (by rw [h4]; exact h0)), fun x hx => ⟨Nat.lt_of_lt_of_le (h2 x hx).1 s.len, (s.tag x (h2 x hx).1).trans (h2 x hx).2⟩, Nat.lt_of_lt_of_le h3 s.len, (s.tag ob h3).trans h4⟩
theorem RInv.keep {T : Nat → Prop} (h : RInv H g c cb ws bs ts pb) (s : Stp T H H' g g') (h0 : T 0) (h2 : T 3) (hi : ∀ i, T (5 + 2 * i)) : RInv H' g' c cb ws bs ts pb := by
 have lc := ltR h.cells
 obtain ⟨st, hp⟩ := h.cells.p
 refine ⟨⟨⟨st, (s.same _ lc.1 (by rw [h.tc.1]; exact h2)).trans hp⟩, (s.same _ lc.2.1 (by rw [h.tc.2.1]; exact h2)).trans h.cells.w, (s.same _ lc.2.2 (by rw [h.tc.2.2]; exact h2)).trans h.cells.y, h.cells.pw, h.cells.py, h.cells.wy, h.cells.byte⟩,
  ⟨(s.tag _ lc.1).trans h.tc.1, (s.tag _ lc.2.1).trans h.tc.2.1, (s.tag _ lc.2.2).trans h.tc.2.2⟩, h.len, fun i t b ht hb => (h.th i t b ht hb).keep s h0 (hi i)⟩

def qqh (H : qab) (g : Nat → Nat) (k : Nat) : Nat → Nat := fun x => if x < H.length then g x else k
theorem qqi {x k : Nat} (h : x < H.length) : qqh H g k x = g x := if_pos h
theorem qqj {x k : Nat} (h : H.length ≤ x) : qqh H g k x = k := if_neg (by omega)

theorem qqk {own own' : List Nat} {k e : Nat} (hg : Grew H H' own own' cb) (ho : ∀ x ∈ own, g x = k) (hc : g cb.P = e ∧ g cb.W = e ∧ g cb.Y = e) : Stp (fun n => n ≠ k ∧ n ≠ e) H H' g (qqh H g k) :=
 ⟨hg.chg.len, fun x hx => qqi hx, fun x hx ht => hg.chg.same x hx fun hm => by
   unfold qno at hm
   simp only [List.mem_append, List.mem_cons, List.mem_nil_iff, or_false] at hm
   rcases hm with h | rfl | rfl | rfl
   ·exact ht.1 (ho x h)
   ·exact ht.2 hc.1
   ·exact ht.2 hc.2.1
   ·exact ht.2 hc.2.2⟩

theorem qql (hm : c.may) (h : PInv H g c cb ws bs ts pb) (ht : ts[i]? = some t) (hb : pb[i]? = some b) :
  ∃ v H' g', qfV En 0 Id.zdJ [qkb b, ifC cb] H = some (v, H') ∧ SlN H H' v (thS c t ws bs).2.2.2 ∧ PInv H' g' c cb (thS c t ws bs).2.1 (thS c t ws bs).2.2.1 (ts.set i (thS c t ws bs).1) pb ∧ Stp TP H H' g g' ∧ (∀ x, H.length ≤ x → g' x = 4 + 2 * i) := by
 obtain ⟨own, ob, hP, h2, h3, h4⟩ := h.th i t b ht hb
 have hA : Apart own cb := fun x hx => ⟨fun e => by have := (h2 x hx).2; rw [e, h.tc.1] at this; omega, fun e => by have := (h2 x hx).2; rw [e, h.tc.2.1] at this; omega, fun e => by have := (h2 x hx).2; rw [e, h.tc.2.2] at this; omega⟩
 obtain ⟨v, own', H', hC, hS, hP', hC', hg⟩ := qoY hP h.cells hA hm
 have st := qqk (g := g) (k := 4 + 2 * i) (e := 2) hg (fun x hx => (h2 x hx).2) h.tc
 refine ⟨v, H', qqh H g (4 + 2 * i), hC, hS, ⟨hC', ?_, by rw [List.length_set]; exact h.len, fun j u d hu hd => ?_⟩, st.mono fun n hn => ?_, fun x hx => qqj hx⟩
 ·have lc := ltC h.cells
  rw [qqi lc.1, qqi lc.2.1, qqi lc.2.2]
  exact h.tc
 ·by_cases hj : i = j
  ·subst hj
   have hil := (List.getElem?_eq_some_iff.1 ht).1
   rw [List.getElem?_set_self hil] at hu
   injection hu with hu
   rw [hb] at hd
   injection hd with hd
   subst hu hd
   refine ⟨fil H' own', ob, hP'.fil, fun x hx => ?_, Nat.lt_of_lt_of_le h3 hg.chg.len, (qqi h3).trans h4⟩
   obtain ⟨hx1, hx2⟩ := mem_fil.1 hx
   refine ⟨hx2, ?_⟩
   rcases hg.new x hx1 with q | q
   ·rw [qqi (h2 x q).1]; exact (h2 x q).2
   ·exact qqj q
  ·rw [List.getElem?_set_ne hj] at hu
   exact (h.th j u d hu hd).keep st ⟨by omega, by omega⟩ ⟨by omega, by omega⟩
 ·rcases hn with hn | hn <;> exact ⟨by omega, by omega⟩
theorem qqm (hm : c.may) (hr0 : Rng ws) (h : RInv H g c cb ws bs ts pb) (ht : ts[i]? = some t) (hb : pb[i]? = some b) :
  ∃ v H' g', qfV En 0 Id.zdw [qkb b, qiX cb] H = some (v, H') ∧ SlN H H' v (thS c t ws bs).2.2.2 ∧ RInv H' g' c cb (thS c t ws bs).2.1 (thS c t ws bs).2.2.1 (ts.set i (thS c t ws bs).1) pb ∧ Stp TR H H' g g' := by
 obtain ⟨own, ob, hP, h2, h3, h4⟩ := h.th i t b ht hb
 have hA : Apart own cb := fun x hx => ⟨fun e => by have := (h2 x hx).2; rw [e, h.tc.1] at this; omega, fun e => by have := (h2 x hx).2; rw [e, h.tc.2.1] at this; omega, fun e => by have := (h2 x hx).2; rw [e, h.tc.2.2] at this; omega⟩
 obtain ⟨v, own', H', hC, hS, hP', hC', hg⟩ := qo7 hP h.cells hr0 hA hm
 have st := qqk (g := g) (k := 5 + 2 * i) (e := 3) hg (fun x hx => (h2 x hx).2) h.tc
 refine ⟨v, H', qqh H g (5 + 2 * i), hC, hS, ⟨hC', ?_, by rw [List.length_set]; exact h.len, fun j u d hu hd => ?_⟩, st.mono fun n hn => ?_⟩
 ·have lc := ltR h.cells
  rw [qqi lc.1, qqi lc.2.1, qqi lc.2.2]
  exact h.tc
 ·by_cases hj : i = j
  ·subst hj
   have hil := (List.getElem?_eq_some_iff.1 ht).1
   rw [List.getElem?_set_self hil] at hu
   injection hu with hu
   rw [hb] at hd
   injection hd with hd
   subst hu hd
   refine ⟨fil H' own', ob, hP'.fil, fun x hx => ?_, Nat.lt_of_lt_of_le h3 hg.chg.len, (qqi h3).trans h4⟩
   obtain ⟨hx1, hx2⟩ := mem_fil.1 hx
   refine ⟨hx2, ?_⟩
   rcases hg.new x hx1 with q | q
   ·rw [qqi (h2 x q).1]; exact (h2 x q).2
   ·exact qqj q
  ·rw [List.getElem?_set_ne hj] at hu
   exact (h.th j u d hu hd).keep st ⟨by omega, by omega⟩ ⟨by omega, by omega⟩
 ·rcases hn with hn | hn <;> exact ⟨by omega, by omega⟩

end
end Go.Proofs.YtnfcohmbcgfhbaaGreat

/- Rows of pointers to threads; threads made one behind the other. -/
namespace Go.Proofs.YtnfcohmbcgfhbaaGreat
open Go Go.Ir

def Arr (H : qab) (v : Value) (l : List Nat) (k : Nat) : Prop :=
 (l = [] ∧ v = .slice none 0 0) ∨ (l ≠ [] ∧ v = .slice (some (loose k 0)) l.length 1 ∧ H[k]? = some (.row (l.map qkb) false))
theorem Arr.keep {H H' : qab} {v : Value} {l : List Nat} {k : Nat} (h : Arr H v l k) (hk : l ≠ [] → H'[k]? = H[k]?) : Arr H' v l k := by
 rcases h with h | ⟨h1, h2, h3⟩
 ·exact .inl h
 ·exact .inr ⟨h1, h2, (hk h1).trans h3⟩
theorem Arr.lt {H : qab} {v : Value} {l : List Nat} {k : Nat} (h : Arr H v l k) (h0 : l ≠ []) : k < H.length := by
 rcases h with h | ⟨h1, h2, h3⟩
 ·exact absurd h.1 h0
 ·exact qim h3
theorem Arr.len {H : qab} {v : Value} {l : List Nat} {k : Nat} (h : Arr H v l k) : ∃ a c, v = .slice a l.length c := by
 rcases h with ⟨rfl, h⟩ | ⟨h1, h2, h3⟩
 ·exact ⟨none, 0, h⟩
 ·exact ⟨_, _, h2⟩
theorem Arr.at {H : qab} {v : Value} {l : List Nat} {k : Nat} (h : Arr H v l k) {i b : Nat} (hi : l[i]? = some b) : v = .slice (some (loose k 0)) l.length 1 ∧ ∀ H', H'[k]? = H[k]? → qav H' none ⟨k, 0 + i * 1, none⟩ = some (qkb b) := by
 rcases h with ⟨rfl, _⟩ | ⟨h1, h2, h3⟩
 ·simp at hi
 ·exact ⟨h2, fun H' hk => qin (hk.trans h3) (by rw [Nat.zero_add, Nat.mul_one, List.getElem?_map, hi]; rfl)⟩
theorem qqn {H : qab} {v : Value} {l : List Nat} {k : Nat} (h : Arr H v l k) (p : Nat) (hl : l.length < 1000) :
  ∃ v' k' H', qaF 0 1 8 (H ++ [.row [qkb p] false]) v (.slice (some ⟨H.length, 0, none⟩) 1 1) = some (v', H') ∧ Arr H' v' (l ++ [p]) k' ∧ H.length < k' ∧ k' < H'.length ∧ H.length ≤ H'.length ∧ ∀ x, x < H.length → (l = [] ∨ x ≠ k) → H'[x]? = H[x]? := by
 have hsrc : ∀ m, m = 1 → qaD (H ++ [.row [qkb p] false]) 1 m (.slice (some ⟨H.length, 0, none⟩) 1 1) = some [qkb p] := fun m hm => by
  subst hm
  unfold qaD
  simp only
  rw [if_neg (by decide)]
  exact qgE (a := ⟨H.length, 0, none⟩) (cs := [qkb p]) (ro := false) (List.getElem?_concat_length) rfl rfl
 rcases h with ⟨rfl, rfl⟩ | ⟨h0, rfl, h3⟩
 ·refine ⟨.slice (some (loose (H ++ [Blk.row [qkb p] false]).length 0)) 1 1, (H ++ [Blk.row [qkb p] false]).length, H ++ [Blk.row [qkb p] false] ++ [Blk.row [qkb p] false], ?_, .inr ⟨by simp, rfl, by rw [List.getElem?_concat_length]; rfl⟩, by simp, by simp, by simp <;> omega, fun x hx _ => by
   rw [List.append_assoc, List.getElem?_append_left hx]⟩
  simp only [qaF, qaC, Nat.zero_add, hsrc 1 rfl]
  rw [if_pos (.inl ⟨by omega, by decide⟩)]
  simp
 ·have hbl := qim h3
  have h3' : (H ++ [Blk.row [qkb p] false])[k]? = some (.row (l.map qkb) false) := by rw [List.getElem?_append_left hbl]; exact h3
  have hln : ¬ l.length = 0 := fun e => h0 (List.length_eq_zero_iff.1 e)
  have hold : qaD (H ++ [.row [qkb p] false]) 1 l.length (.slice (some (loose k 0)) l.length 1) = some (l.map qkb) := by
   unfold qaD
   simp only
   rw [if_neg hln]
   exact qgE (a := loose k 0) h3' rfl (by simp)
  refine ⟨.slice (some (loose (H ++ [Blk.row [qkb p] false]).length 0)) (l.length + 1) 1, (H ++ [Blk.row [qkb p] false]).length, (H ++ [Blk.row [qkb p] false]).set k Blk.dead ++ [Blk.row (l.map qkb ++ [qkb p]) false], ?_,
   .inr ⟨by simp, by simp, ?_⟩, by simp, by simp, by simp <;> omega, fun x hx hk => ?_⟩
  ·simp only [qaF, qaC, hsrc 1 rfl]
   rw [if_pos (.inl ⟨by omega, by decide⟩)]
   simp only [loose] at hold h3' ⊢
   simp only [hold, h3']
   simp
  ·rw [List.getElem?_append_right (by simp)]
   simp
  ·have hkx : x ≠ k := hk.resolve_left h0
   rw [List.getElem?_append_left (by rw [List.length_set, List.length_append]; omega), List.getElem?_set_ne (Ne.symm hkx), List.getElem?_append_left hx]

section
variable {H : qab} {g : Nat → Nat} {c : Cfg} {cb : CB} {ws bs : List Int} {ts : List Th} {pb : List Nat}
theorem PInv.push {H' : qab} {g' : Nat → Nat} {t : Th} {b : Nat} (h : PInv H' g' c cb ws bs ts pb) (hn : PT H' g' c cb ts.length t b) : PInv H' g' c cb ws bs (ts ++ [t]) (pb ++ [b]) := by
 refine ⟨h.cells, h.tc, by simp [h.len], fun i u d hu hd => ?_⟩
 by_cases hi : i < ts.length
 ·rw [List.getElem?_append_left hi] at hu
  rw [List.getElem?_append_left (by rw [h.len]; exact hi)] at hd
  exact h.th i u d hu hd
 ·have hl := (List.getElem?_eq_some_iff.1 hu).1
  rw [List.length_append, List.length_singleton] at hl
  have he : i = ts.length := by omega
  subst he
  rw [List.getElem?_concat_length] at hu
  rw [← h.len, List.getElem?_concat_length] at hd
  injection hu with hu
  injection hd with hd
  subst hu hd
  exact hn
theorem RInv.push {H' : qab} {g' : Nat → Nat} {t : Th} {b : Nat} (h : RInv H' g' c cb ws bs ts pb) (hn : RT H' g' c cb ts.length t b) : RInv H' g' c cb ws bs (ts ++ [t]) (pb ++ [b]) := by
 refine ⟨h.cells, h.tc, by simp [h.len], fun i u d hu hd => ?_⟩
 by_cases hi : i < ts.length
 ·rw [List.getElem?_append_left hi] at hu
  rw [List.getElem?_append_left (by rw [h.len]; exact hi)] at hd
  exact h.th i u d hu hd
 ·have hl := (List.getElem?_eq_some_iff.1 hu).1
  rw [List.length_append, List.length_singleton] at hl
  have he : i = ts.length := by omega
  subst he
  rw [List.getElem?_concat_length] at hu
  rw [← h.len, List.getElem?_concat_length] at hd
  injection hu with hu
  injection hd with hd
  subst hu hd
  exact hn

def qqo (H : qab) (g : Nat → Nat) (k : Nat) : Nat → Nat := fun x => if x < H.length then g x else if x = H.length then k else 0
theorem qqp {k x : Nat} (h : x < H.length) : qqo H g k x = g x := if_pos h
theorem qqq {k : Nat} : qqo H g k H.length = k := (if_neg (Nat.lt_irrefl _)).trans (if_pos rfl)
theorem qqr {k x : Nat} (h : H.length < x) : qqo H g k x = 0 := (if_neg (by omega)).trans (if_neg (by omega))
theorem qqs {H' : qab} {k : Nat} (hx : Ext H H') : Stp (fun _ => True) H H' g (qqo H g k) := ⟨hx.1, fun x h => qqp h, fun x h _ => hx.2 x h⟩
theorem qqt {H' : qab} {l : List Nat} {k : Nat} (hk : l ≠ [] → g k = 1) (hl : H.length ≤ H'.length) (hs : ∀ x, x < H.length → (l = [] ∨ x ≠ k) → H'[x]? = H[x]?) : Stp (fun n => n ≠ 1) H H' g (qqh H g 1) :=
 ⟨hl, fun x h => qqi h, fun x h ht => hs x h (Decidable.byContradiction fun hn => ht (by
   have h1 : l ≠ [] := fun e => hn (.inl e)
   have h2 : x = k := Decidable.byContradiction fun e => hn (.inr e)
   rw [h2]; exact hk h1))⟩

theorem qqu {v a : Value} {l : List Op4} {s0 ka : Nat} (hm : c.may) (h : PInv H g c cb ws bs ts pb) (h0 : s0 < H.length) (g0 : g s0 = 0) (hv : Sl H 4 v (ocs l)) (ht : qiq v l.length) (hb : l.length * 32 ≤ 2 ^ 47) (hA : Arr H a pb ka) (hka : pb ≠ [] → g ka = 1) (hl : pb.length < 1000) :
  ∃ H1 a' H2 k' g', qfV En 0 Id.zdF [.agg c.cs.toArray, I pb.length, v] H = some (qkb H.length, H1) ∧ qaF 0 1 8 (H1 ++ [.row [qkb H.length] false]) a (.slice (some ⟨H1.length, 0, none⟩) 1 1) = some (a', H2) ∧
   PInv H2 g' c cb ws bs (ts ++ [th0 pb.length (qpP c pb.length l)]) (pb ++ [H.length]) ∧ Arr H2 a' (pb ++ [H.length]) k' ∧ g' k' = 1 ∧ H.length ≤ k' ∧ H.length ≤ H2.length ∧ (∀ x, x < H.length → g' x = g x) ∧ (∀ x, x < H.length → (pb = [] ∨ x ≠ ka) → H2[x]? = H[x]?) := by
 have lc := ltC h.cells
 obtain ⟨H1, ob, hN, hx1, hP, ho1, ho2⟩ := qpR h0 cb (pb.length : Int) hm lc hv ht hb
 have st1 := qqs (g := g) (k := 4 + 2 * pb.length) hx1
 have h1 := h.keep st1 trivial trivial (fun _ => trivial)
 have hbl : H.length < H1.length := by
  obtain ⟨_, _, _, _, hr, _⟩ := hP.row
  exact qim hr
 have hpt : PT H1 (qqo H g (4 + 2 * pb.length)) c cb ts.length (th0 pb.length (qpP c pb.length l)) H.length := by
  refine ⟨[H.length], ob, hP, fun x hx => ?_, ho2, ?_⟩
  ·rw [List.mem_singleton] at hx
   subst hx
   exact ⟨hbl, by rw [qqq, h.len]⟩
  ·rcases ho1 with rfl | ho1
   ·rw [qqp h0]; exact g0
   ·exact qqr ho1
 have h2 := h1.push hpt
 have hA1 : Arr H1 a pb ka := hA.keep fun hne => hx1.2 _ (hA.lt hne)
 have hka1 : pb ≠ [] → qqo H g (4 + 2 * pb.length) ka = 1 := fun hne => by rw [qqp (hA.lt hne)]; exact hka hne
 obtain ⟨a', k', H2, hap, hA2, hk1, hk2, hl2, hs2⟩ := qqn hA1 H.length hl
 have st2 := qqt hka1 hl2 hs2
 refine ⟨H1, a', H2, k', _, hN, hap, h2.keep st2 (by decide) (by decide) (fun i => by omega), hA2, qqj (by omega), by omega, by omega, fun x hx => by rw [st2.tag x (by omega), qqp hx], fun x hx hh => ?_⟩
 rw [hs2 x (by omega) hh, hx1.2 x hx]
theorem qqv {v a : Value} {l : List Op4} {s0 ka : Nat} (hm : c.may) (h : RInv H g c cb ws bs ts pb) (h0 : s0 < H.length) (g0 : g s0 = 0) (hv : Sl H 4 v (ocs l)) (ht : qiq v l.length) (hb : l.length ≤ 1000) (hA : Arr H a pb ka) (hka : pb ≠ [] → g ka = 1) (hl : pb.length < 1000) :
  ∃ H1 a' H2 k' g', qfV En 0 Id.zdr [.agg c.cs.toArray, I pb.length, v] H = some (qkb H.length, H1) ∧ qaF 0 1 8 (H1 ++ [.row [qkb H.length] false]) a (.slice (some ⟨H1.length, 0, none⟩) 1 1) = some (a', H2) ∧
   RInv H2 g' c cb ws bs (ts ++ [th0 pb.length (qpP c pb.length l)]) (pb ++ [H.length]) ∧ Arr H2 a' (pb ++ [H.length]) k' ∧ g' k' = 1 ∧ H.length ≤ k' ∧ H.length ≤ H2.length ∧ (∀ x, x < H.length → g' x = g x) ∧ (∀ x, x < H.length → (pb = [] ∨ x ≠ ka) → H2[x]? = H[x]?) := by
 have lc := ltR h.cells
 obtain ⟨H1, ob, hN, hx1, hP, ho1, ho2⟩ := qpS h0 cb (pb.length : Int) hm lc hv ht hb
 have st1 := qqs (g := g) (k := 5 + 2 * pb.length) hx1
 have h1 := h.keep st1 trivial trivial (fun _ => trivial)
 have hbl : H.length < H1.length := by
  obtain ⟨_, _, _, _, _, hr, _⟩ := hP.row
  exact qim hr
 have hpt : RT H1 (qqo H g (5 + 2 * pb.length)) c cb ts.length (th0 pb.length (qpP c pb.length l)) H.length := by
  refine ⟨[H.length], ob, hP, fun x hx => ?_, ho2, ?_⟩
  ·rw [List.mem_singleton] at hx
   subst hx
   exact ⟨hbl, by rw [qqq, h.len]⟩
  ·rcases ho1 with rfl | ho1
   ·rw [qqp h0]; exact g0
   ·exact qqr ho1
 have h2 := h1.push hpt
 have hA1 : Arr H1 a pb ka := hA.keep fun hne => hx1.2 _ (hA.lt hne)
 have hka1 : pb ≠ [] → qqo H g (5 + 2 * pb.length) ka = 1 := fun hne => by rw [qqp (hA.lt hne)]; exact hka hne
 obtain ⟨a', k', H2, hap, hA2, hk1, hk2, hl2, hs2⟩ := qqn hA1 H.length hl
 have st2 := qqt hka1 hl2 hs2
 refine ⟨H1, a', H2, k', _, hN, hap, h2.keep st2 (by decide) (by decide) (fun i => by omega), hA2, qqj (by omega), by omega, by omega, fun x hx => by rw [st2.tag x (by omega), qqp hx], fun x hx hh => ?_⟩
 rw [hs2 x (by omega) hh, hx1.2 x hx]
end
end Go.Proofs.YtnfcohmbcgfhbaaGreat

/- A pick: a thread's step by both, and what both tell. -/
namespace Go.Ir
theorem EG.eqbb {E : Env} {lo : Nat} {os : List IOper} {f : Fr} {h : qab} {hs : List qab} {k : List Item} {rs : List qak} {Q : Value → qab → Prop} {d : Nat} {g : Option (Nat × Bool)} {x y : Operand} {b : Bool} (hw : want g f = some true) (hx : ev f x = some (.bool b)) (hy : ev f y = some (.bool b))
  (n : EG E lo os hs k ((d, .bool false) :: f) h rs Q) : EG E lo (⟨some d, .eqv true .bool x y, g, 0⟩ :: os) hs k f h rs Q := by
 refine .bl (b := false) hw (by cases b <;> simp only [iop, hx, hy] <;> rfl) rfl (fun e => ?_) (fun e => n)
 cases e
end Go.Ir
namespace Go.Proofs.YtnfcohmbcgfhbaaGreat
open Go Go.Ir

theorem Sl.keepB {H H' : qab} {n : Nat} {v : Value} {es : List (List Value)} (s : Sl H n v es) (hk : ∀ a k c, v = .slice (some a) k c → a.block < H.length → H'[a.block]? = H[a.block]?) : Sl H' n v es := by
 refine ⟨s.1, ?_⟩
 rcases s.2 with h1 | ⟨a, cap, h1, h2⟩
 ·exact .inl h1
 ·refine .inr ⟨a, cap, h1, ?_⟩
  obtain ⟨cs, ro, hb, h3, h4⟩ := qgC h2
  rw [h4]
  exact qgD ((hk a _ _ h1 (List.getElem?_eq_some_iff.1 hb).1).trans hb) h3

structure qqw (H : qab) (g : Nat → Nat) (c : Cfg) (cb cr : CB) (ws bs : List Int) (ts : List Th) (pb rb : List Nat) : Prop where
 p : PInv H g c cb ws bs ts pb
 r : RInv H g c cr ws bs ts rb
 rng : Rng ws
 rg : ∀ t ∈ ts, t.rg
def Calm (H H' : qab) (g g' : Nat → Nat) : Prop := H.length ≤ H'.length ∧ ∀ x, x < H.length → g' x = g x ∧ (g x = 0 ∨ g x = 1 → H'[x]? = H[x]?)
theorem Calm.refl (H : qab) (g : Nat → Nat) : Calm H H g g := ⟨Nat.le_refl _, fun x _ => ⟨rfl, fun _ => rfl⟩⟩
theorem Calm.trans {H H1 H2 : qab} {g g1 g2 : Nat → Nat} (a : Calm H H1 g g1) (b : Calm H1 H2 g1 g2) : Calm H H2 g g2 :=
 ⟨Nat.le_trans a.1 b.1, fun x hx => by
   have hx1 := Nat.lt_of_lt_of_le hx a.1
   exact ⟨((b.2 x hx1).1).trans (a.2 x hx).1, fun h => ((b.2 x hx1).2 (by rw [(a.2 x hx).1]; exact h)).trans ((a.2 x hx).2 h)⟩⟩
theorem Stp.calm {T : Nat → Prop} {H H' : qab} {g g' : Nat → Nat} (s : Stp T H H' g g') (h0 : T 0) (h1 : T 1) : Calm H H' g g' :=
 ⟨s.len, fun x hx => ⟨s.tag x hx, fun h => s.same x hx (by rcases h with h | h <;> rw [h] <;> assumption)⟩⟩
theorem qqx (o : Option (Int × Int)) : ∃ f g is, qpw o = .tuple #[I f, I g, .bool is] := by
 cases o with
 | none => exact ⟨0, 0, false, rfl⟩
 | some p => exact ⟨p.1, p.2, true, rfl⟩

theorem qqy {H : qab} {g : Nat → Nat} {c : Cfg} {cb cr : CB} {ws bs : List Int} {ts : List Th} {pb rb : List Nat} (hm : c.may) (h : qqw H g c cb cr ws bs ts pb rb) {i p r : Nat} (hp : pb[i]? = some p) (hr : rb[i]? = some r) :
  ∃ x y H1 H2 g1 g2 ws' bs' ts' f k is dn bz, qfV En 0 Id.zdJ [qkb p, ifC cb] H = some (x, H1) ∧ qfV En 0 Id.zdw [qkb r, qiX cr] H1 = some (y, H2) ∧
   qfV En 0 Id.zdI [qkb p] H2 = some (.tuple #[I f, I k, .bool is], H2) ∧ qfV En 0 Id.zdv [qkb r] H2 = some (.tuple #[I f, I k, .bool is], H2) ∧
   (∀ lo, qfV En lo Id.zdp [x, y] H2 = some (.bool true, H2)) ∧
   qfV En 0 Id.zdH [qkb p] H2 = some (.bool dn, H2) ∧ qfV En 0 Id.zdu [qkb r] H2 = some (.bool dn, H2) ∧
   qfV En 0 Id.zdG [qkb p] H2 = some (.bool bz, H2) ∧ qfV En 0 Id.zdt [qkb r] H2 = some (.bool bz, H2) ∧
   qqw H2 g2 c cb cr ws' bs' ts' pb rb ∧ Calm H H1 g g1 ∧ Calm H1 H2 g1 g2 ∧ ws'.length = ws.length ∧ bs'.length = bs.length := by
 have hil : i < ts.length := by rw [← h.p.len]; exact (List.getElem?_eq_some_iff.1 hp).1
 have ht : ts[i]? = some ts[i] := List.getElem?_eq_getElem hil
 generalize ts[i] = t at ht
 have hrt := h.rg t (List.mem_of_getElem? ht)
 obtain ⟨x, H1, g1, hS1, hx1, p1, st1, new1⟩ := qql hm h.p ht hp
 have r1 := h.r.keep st1 (.inr rfl) (.inl rfl) (fun i => .inl (by omega))
 obtain ⟨y, H2, g2, hS2, hy1, r2, st2⟩ := qqm hm h.rng r1 ht hr
 have p2 := p1.keep st2 (.inl rfl) (.inl rfl) (fun i => .inl (by omega))
 have hk := qpv (c := c) (bs := bs) h.rng hrt
 have hti : (ts.set i (thS c t ws bs).1)[i]? = some (thS c t ws bs).1 := List.getElem?_set_self hil
 obtain ⟨o1, b1, hP, _⟩ := p2.th i _ p hti hp
 obtain ⟨o2, b2, hR, _⟩ := r2.th i _ r hti hr
 obtain ⟨evs, he, hel⟩ := qpH c t ws bs
 rw [he] at hx1 hy1
 have hx2 : Sl H2 8 x (ecs evs) := Sl.keepB hx1.1 fun a k c hv hl => st2.same _ hl (by
  rw [new1 _ (hx1.2 a k c hv)]
  exact .inl (by omega))
 have hev := fun lo => qpJ lo hx2 hy1.1 (by omega)
 have hh1 := qpA hP
 have hh2 := qpE hR r2.cells
 obtain ⟨f, k, is, hf⟩ := qqx (thH (thS c t ws bs).1)
 rw [hf] at hh1 hh2
 refine ⟨x, y, H1, H2, g1, g2, _, _, _, f, k, is, _, _, hS1, hS2, hh1, hh2, hev, qpB hP, qpC hR, qpK hP, qpL hR, ⟨p2, r2, hk.1, fun u hu => ?_⟩, st1.calm (.inr rfl) (.inl rfl), st2.calm (.inl rfl) (.inr rfl), hk.2.2.1, hk.2.2.2⟩
 rcases List.mem_or_eq_of_mem_set hu with hu | hu
 ·exact h.rg u hu
 ·rw [hu]; exact hk.2.1
end Go.Proofs.YtnfcohmbcgfhbaaGreat

/- Slices of slices as an argument. -/
namespace Go.Ir
open Go Go.ChangeShapes Go.WideShapes

theorem qqz {P : Program} {S T n : Nat} {α : Type} [Inhabited α] (f : α → List Value) (hu : P.underlying S = some (.slice T)) (hcl : P.cellsOf T = n) (hn : 0 < n) (hf : ∀ a, (f a).length = n ∧ (f a).all flat1 = true ∧ (f a).all qad = true)
  {H : Type} {enc : TypeId × Value → H} {W : World} {spare : Nat → Bool} {held : Bool}
  (op : ∀ {base k : Nat} {cs : List Value} {x : DataW H × List MemPlace}, DataW.trod enc P W base spare held k T cs = some x → ∃ a, cs = f a)
  {E : Emb} {h : qab} (s : Sim W.heap.size W E h W) (hro : RoH h) {base k : Nat} {v0 : Value} {x : DataW H × List MemPlace} (hk : DataW.trod enc P W base spare held k S [v0] = some x) (hz : ∀ w ∈ x.1.weights P S, w ≤ reachBytes) :
  ∃ E' h' v l, Sim W.heap.size W E' h' W ∧ E.le E' ∧ RoH h' ∧ Ext h h' ∧ VR E' v v0 ∧ Sl h' n v (List.map f l) ∧ qiq v l.length ∧ l.length * P.bytesOf T ≤ reachBytes := by
 rcases Deep.open_slice hu hk with ⟨hc, _⟩ | ⟨a, len, cap, m, k', D, Pl, hc, _, hlc, _, hm, hx, hX⟩
 ·injection hc with hc
  subst hc
  exact ⟨E, h, .slice none 0 0, [], s, Emb.le_refl E, hro, .refl _, .slice0, ⟨fun e he => (by cases he), .inl ⟨rfl, none, 0, rfl⟩⟩, .inl ⟨rfl, rfl⟩, by simp⟩
 ·injection hc with hc
  subst hc
  simp only [hcl] at hX
  have hlm : len ≤ m := by
   rw [hm]; split <;> omega
  have hbd : len * P.bytesOf T ≤ reachBytes := by
   have := hz ((((List.range len).map D).length + ((List.range (m - len)).map fun j => D (len + j)).length) * P.bytesOf T) (by rw [hx]; simp [DataW.weights, hu])
   rw [List.length_map, List.length_range] at this
   exact Nat.le_trans (Nat.mul_le_mul_right _ (Nat.le_add_right _ _)) this
  obtain ⟨X, hXX⟩ := Deep.choose_lt (α := List Value) (n := len) (p := fun i cs => (∃ o : α, cs = f o) ∧ ∀ j, j < n → W.cell? (a.add (i * n + j)) = cs[j]?) (fun i hi => by
   obtain ⟨cs', g1, g2⟩ := hX i (by omega)
   obtain ⟨_, _, g3⟩ := World.cells?_some g1
   refine ⟨cs', op g2, fun j hj => ?_⟩
   have := g3 j hj
   rw [Deep.add_add] at this
   exact this)
  obtain ⟨O, hO⟩ := Deep.choose_lt (α := α) (n := len) (p := fun i o => X i = f o) (fun i hi => (hXX i hi).1)
  obtain ⟨E', h', v, s1, s2, s3, s4, s5, s6, s7⟩ := qiy (a := a) (len := len) (cap := cap) (n := n) s hro hlc X hn (fun i hi => by rw [hO i hi]; exact ⟨(hf _).1, (hf _).2.2⟩) (fun i j x hi hj => by
   have hjn : j < n := by
    have := (List.getElem?_eq_some_iff.1 hj).1
    rw [hO i hi, (hf _).1] at this
    exact this
   refine ⟨x, by rw [(hXX i hi).2 j hjn, hj], VR.flat ?_⟩
   rw [hO i hi] at hj
   have := List.all_eq_true.1 (hf (O i)).2.1 x (List.mem_of_getElem? hj)
   unfold qae
   split <;> simp_all [flat1])
  refine ⟨E', h', v, (List.range len).map O, s1, s2, s3, s4, s5, ?_, by simpa using s7, by rw [List.length_map, List.length_range]; exact hbd⟩
  have : List.map f ((List.range len).map O) = (List.range len).map X := by
   rw [List.map_map]
   exact List.map_congr_left fun i hi => (hO i (by simpa using hi)).symm
  rw [this]
  exact s6

theorem qqA {H : Type} {P : Program} {e : TypeId} : ∀ {l : List (DataW H)} {d : DataW H}, d ∈ l → ∀ w ∈ d.weights P e, w ∈ DataW.weightsAll P e l
 | [], _, h, _, _ => by cases h
 | a :: r, d, h, w, hw => by
   unfold DataW.weightsAll
   rcases List.mem_cons.1 h with rfl | h
   ·exact List.mem_append_left _ hw
   ·exact List.mem_append_right _ (qqA h w hw)

theorem qqB {P : Program} {S T U n : Nat} {α : Type} [Inhabited α] (f : α → List Value) (hu : P.underlying S = some (.slice T)) (hu1 : P.underlying T = some (.slice U)) (hcT : P.cellsOf T = 1) (hcl : P.cellsOf U = n) (hn : 0 < n) (hf : ∀ a, (f a).length = n ∧ (f a).all flat1 = true ∧ (f a).all qad = true)
  {H : Type} {enc : TypeId × Value → H} {W : World} {spare : Nat → Bool} {held : Bool}
  (op : ∀ {base k : Nat} {cs : List Value} {x : DataW H × List MemPlace}, DataW.trod enc P W base spare held k U cs = some x → ∃ a, cs = f a)
  {E : Emb} {h : qab} (s : Sim W.heap.size W E h W) (hro : RoH h) {b0 base : Nat} {r : Reach} {v0 : Value} {d0 : DataW H} {p0 : List MemPlace} (hval : Value.okWide P W r b0 S v0) (hd : DataW.Trod enc P W base spare held S v0 d0 p0) (hz : ∀ w ∈ d0.weights P S, w ≤ reachBytes) :
  ∃ E' h' v, ∃ l : List (Value × List α), Sim W.heap.size W E' h' W ∧ E.le E' ∧ RoH h' ∧ Ext h h' ∧ VR E' v v0 ∧ Sl h' 1 v (l.map fun p => [p.1]) ∧ qiq v l.length ∧ l.length * P.bytesOf T ≤ reachBytes ∧
   ∀ p ∈ l, Sl h' n p.1 (List.map f p.2) ∧ qiq p.1 p.2.length ∧ p.2.length * P.bytesOf U ≤ reachBytes := by
 obtain ⟨p, len, cap, rfl⟩ := okWide_slice hu hval
 obtain ⟨k, hk⟩ := hd
 rcases Deep.open_slice1 hu hcT hk with ⟨hc, _⟩ | ⟨a, len', cap', m, k', C, D, Pl, hc, _, hlc, _, hm, hx, hX⟩
 ·have hc : Value.slice p len cap = .slice none 0 0 := by simpa [Value.cells] using hc
  injection hc with e1 e2 e3
  subst e1 e2 e3
  exact ⟨E, h, .slice none 0 0, [], s, Emb.le_refl E, hro, .refl _, .slice0, ⟨fun e he => (by cases he), .inl ⟨rfl, none, 0, rfl⟩⟩, .inl ⟨rfl, rfl⟩, by simp, fun p hp => (by cases hp)⟩
 ·have hc : Value.slice p len cap = .slice (some a) len' cap' := by simpa [Value.cells] using hc
  injection hc with e1 e2 e3
  subst e1 e2 e3
  injection hx with hx _
  subst hx
  have hlm : len ≤ m := by
   rw [hm]; split <;> omega
  have hzi : ∀ i, i < len → ∀ w ∈ (D i).weights P T, w ≤ reachBytes := fun i hi w hw => by
   refine hz w ?_
   simp only [DataW.weights, hu]
   refine List.mem_cons_of_mem _ (List.mem_append_left _ (qqA (List.mem_map.2 ⟨i, by simpa using hi, rfl⟩) w hw))
  have key : ∀ k, k ≤ len → ∃ E' h', ∃ (V : Nat → Value) (L : Nat → List α), Sim W.heap.size W E' h' W ∧ E.le E' ∧ RoH h' ∧ Ext h h' ∧
    ∀ i, i < k → VR E' (V i) (C i) ∧ Sl h' n (V i) ((L i).map f) ∧ qiq (V i) (L i).length ∧ (L i).length * P.bytesOf U ≤ reachBytes := by
   intro k
   induction k with
   | zero => exact fun _ => ⟨E, h, fun _ => .slice none 0 0, fun _ => [], s, Emb.le_refl E, hro, .refl _, fun i hi => absurd hi (Nat.not_lt_zero i)⟩
   | succ k ih =>
     intro hk1
     obtain ⟨E1, h1, V, L, s1, le1, ro1, ex1, al1⟩ := ih (by omega)
     obtain ⟨E2, h2, v, l, s2, le2, ro2, ex2, vr2, sl2, ti2, bd2⟩ := qqz f hu1 hcl hn hf op s1 ro1 (hX k (by omega)).2 (hzi k (by omega))
     refine ⟨E2, h2, fun i => if i = k then v else V i, fun i => if i = k then l else L i, s2, Emb.le_trans le1 le2, ro2, ex1.trans ex2, fun i hi => ?_⟩
     by_cases he : i = k
     ·subst he
      simp only [if_true]
      exact ⟨vr2, sl2, ti2, bd2⟩
     ·simp only [if_neg he]
      obtain ⟨g1, g2, g3, g4⟩ := al1 i (by omega)
      exact ⟨g1.mono le2, g2.ext ex2, g3, g4⟩
  obtain ⟨E1, h1, V, L, s1, le1, ro1, ex1, al1⟩ := key len (Nat.le_refl _)
  obtain ⟨E2, h2, v, q1, q2, q3, q4, q5, q6, q7⟩ := qiy (a := a) (len := len) (cap := cap) (n := 1) s1 ro1 hlc (fun i => [V i]) (by decide) (fun i hi => ⟨rfl, by
   obtain ⟨b, c, hb⟩ := (al1 i hi).2.1.len
   simp only [hb]
   rfl⟩) (fun i j x hi hj => by
   have hj0 : j = 0 := by
    have := (List.getElem?_eq_some_iff.1 hj).1
    simp at this
    omega
   subst hj0
   injection hj with hj
   subst hj
   exact ⟨C i, by rw [Nat.mul_one, Nat.add_zero]; exact (hX i (by omega)).1, (al1 i hi).1⟩)
  refine ⟨E2, h2, v, (List.range len).map fun i => (V i, L i), q1, Emb.le_trans le1 q2, q3, ex1.trans q4, q5, ?_, by simpa using q7, ?_, fun p hp => ?_⟩
  ·rw [List.map_map]; exact q6
  ·have := hz ((((List.range len).map D).length + ((List.range (m - len)).map fun j => D (len + j)).length) * P.bytesOf T) (by simp [DataW.weights, hu])
   rw [List.length_map, List.length_range] at this ⊢
   exact Nat.le_trans (Nat.mul_le_mul_right _ (Nat.le_add_right _ _)) this
  ·obtain ⟨i, hi, rfl⟩ := List.mem_map.1 hp
   obtain ⟨g1, g2, g3, g4⟩ := al1 i (by simpa using hi)
   exact ⟨g2.ext q4, g3, g4⟩
end Go.Ir

/- Cells as they are at first; of the thread seat. -/
namespace Go.Proofs.YtnfcohmbcgfhbaaGreat
open Go Go.Ir

theorem qqC (lo : Nat) (h : qab) {c : Cfg} (hm : c.may) (hlo : lo ≤ h.length) :
  ∃ H', qfV En lo Id.zbW [.agg c.cs.toArray] h = some (qiX (qja h), H') ∧ IsC H' (qja h) (qjv c) (List.replicate c.A.toNat 0) ∧ Ext h H' ∧ H'.length = h.length + 3 := by
 have hm' := hm
 unfold Cfg.may at hm'
 have hW := fun lo => qiO lo h c
 rw [if_pos hm] at hW
 refine Exists.elim (show ∃ nw : Nat, qiN c = nw ∧ 1 ≤ nw ∧ nw ≤ 4096 from ⟨(qiN c).toNat, by unfold qiN; omega, by unfold qiN; omega, by unfold qiN; omega⟩) fun nw hnw => ?_
 refine Exists.elim (show ∃ nb : Nat, c.A = nb ∧ nb ≤ 4096 from ⟨c.A.toNat, by omega, by omega⟩) fun nb hnb => ?_
 have hN : ∀ lo, qfV En lo Id.zal [I (qiN c), I c.A] h = some (qiX (qja h), qi9 h nw nb) := fun lo => by
  rw [hnw.1, hnb.1]; exact qjd lo h hnw.2.1 hnw.2.2 hnb.2
 have hnh := qjc h nw nb
 have hl : (qi9 h nw nb).length = h.length + 3 := by simp [qi9]
 refine Exists.elim (qjB (lo := lo) hm hnh.1 ⟨by simp [qja]; omega, by simp [qja]; omega⟩ (by rw [List.length_replicate, hnw.1]; simp) (by rw [List.length_replicate, hnb.1])) fun H' hq => ?_
 have hS := hq.1
 have hC := hq.2.1
 have ho := hq.2.2
 clear hq
 refine ⟨H', ?_, by rw [hnb.1]; exact hC, ⟨by rw [ho.len, hl]; omega, fun i hi => ?_⟩, by rw [ho.len, hl]⟩
 ·refine qgx rfl Fn.zbW rfl rfl ?_
  repeat' first | refine .A ?_ | refine .B ?_ | refine .D ?_ | refine .F ?_ | refine .J ?_ | refine .C ?_ | refine .f6 ?_ | refine .P (hW _) ?_ | refine .P (hN _) ?_ | refine .P hS ?_ | refine .Y ?_ | fail
  rfl
 ·rw [ho.same i (by simp [qja]; omega)]
  exact hnh.2.2 i hi

theorem qqD (lo : Nat) (h : qab) {c : Cfg} (hm : ¬ c.may) : qfV En lo Id.zbW [.agg c.cs.toArray] h = some (.pointer none, h) := by
 have hW := fun lo => qiO lo h c
 rw [if_neg hm] at hW
 have hc := fun lo => qiP lo h 0 c.A
 rw [show (inB 0 1 4096 && inB c.A 0 4096) = false by simp [inB]] at hc
 have hN : ∀ lo, qfV En lo Id.zal [I 0, I c.A] h = some (.pointer none, h) := fun lo => by
  refine qgx rfl Fn.zal rfl rfl ?_
  repeat' first | refine .A ?_ | refine .B ?_ | refine .C ?_ | refine .J ?_ | refine .P (hc _) ?_ | refine .F ?_ | refine .Y ?_ | fail
  rfl
 refine qgx rfl Fn.zbW rfl rfl ?_
 repeat' first | refine .A ?_ | refine .B ?_ | refine .C ?_ | refine .J ?_ | refine .P (hW _) ?_ | refine .P (hN _) ?_ | refine .D ?_ | refine .F ?_ | refine .Y ?_ | fail
 rfl

end Go.Proofs.YtnfcohmbcgfhbaaGreat

/- Whether ops are few; whether cells are the same. -/
namespace Go.Ir
theorem qqE {E : Env} {lo : Nat} {h : qab} {g : Nat} {fn : qal} {args : List Value} {Q : Value → Prop} (hp : E.prim g = none) (hf : E.fn g = some fn) (ha : args.length = fn.nargs) (hs : fn.scr = true)
  (he : ER E h.length [.code fn.body] (number 0 args) h fn.res fun v h' => tidy h v h' = some (v, h) ∧ Q v) : ∃ v, qfV E lo g args h = some (v, h) ∧ Q v := by
 obtain ⟨f', h', v, h1, h2, h3, h4⟩ := he.out
 exact ⟨v, qgh hp hf ha hs h1 h2 h3, h4⟩
end Go.Ir
namespace Go.Proofs.YtnfcohmbcgfhbaaGreat
open Go Go.Ir

structure Pgs (h : qab) (v : Value) (l : List (Value × List Op4)) : Prop where
 sl : Sl h 1 v (l.map fun p => [p.1])
 each : ∀ p ∈ l, Sl h 4 p.1 (ocs p.2) ∧ qiq p.1 p.2.length ∧ p.2.length * 32 ≤ 2 ^ 47
theorem Pgs.ext {h h' : qab} {v : Value} {l : List (Value × List Op4)} (p : Pgs h v l) (e : Ext h h') : Pgs h' v l := ⟨p.sl.ext e, fun q hq => ⟨(p.each q hq).1.ext e, (p.each q hq).2⟩⟩
theorem Pgs.at {h : qab} {v : Value} {l : List (Value × List Op4)} (p : Pgs h v l) {i : Nat} {q : Value × List Op4} (hi : l[i]? = some q) :
  ∃ a cap, v = .slice (some a) l.length cap ∧ qav h none ⟨a.block, a.off + i * 1, none⟩ = some q.1 := by
 obtain ⟨a, cap, h1, h2, _⟩ := p.sl.at (i := i) (e := [q.1]) (by rw [List.getElem?_map, hi]; rfl)
 rw [List.length_map] at h1
 exact ⟨a, cap, h1, h2 0 q.1 rfl⟩
def qqF (l : List (Value × List Op4)) : Nat := (l.map fun p => p.2.length).sum
theorem qqG {l : List (Value × List Op4)} {i : Nat} {q : Value × List Op4} (hi : l[i]? = some q) : qqF (l.take (i + 1)) = qqF (l.take i) + q.2.length := by
 obtain ⟨hil, he⟩ := List.getElem?_eq_some_iff.1 hi
 rw [List.take_succ_eq_append_getElem hil, he]
 simp [qqF]
theorem qqH : ∀ {l : List (Value × List Op4)} {q : Value × List Op4}, q ∈ l → q.2.length ≤ qqF l
 | p :: r, q, h => by
   have e : qqF (p :: r) = p.2.length + qqF r := by simp [qqF]
   rw [e]
   rcases List.mem_cons.1 h with rfl | h
   ·omega
   ·have := qqH h; omega
theorem qqI {l : List (Value × List Op4)} {B : Nat} (h : ∀ p ∈ l, p.2.length ≤ B) : qqF l ≤ l.length * B := by
 induction l with
 | nil => simp [qqF]
 | cons p r ih =>
   have e : qqF (p :: r) = p.2.length + qqF r := by simp [qqF]
   rw [e, List.length_cons, Nat.add_mul]
   have := ih fun q hq => h q (List.mem_cons_of_mem _ hq)
   have := h p (List.mem_cons_self ..)
   omega

set_option maxHeartbeats 1600000 in
theorem qqJ (lo : Nat) {h : qab} {v : Value} {l : List (Value × List Op4)} (hv : Pgs h v l) (hl : l.length < 4611686018427387904) :
  ∃ r, qfV En lo Id.zbV [v, I 20] h = some (.bool r, h) ∧ (r = true → l.length ≤ 4 ∧ ∀ p ∈ l, p.2.length ≤ 20) := by
 have key : ∃ u, qfV En lo Id.zbV [v, I 20] h = some (u, h) ∧ ∃ r, u = .bool r ∧ (r = true → l.length ≤ 4 ∧ ∀ p ∈ l, p.2.length ≤ 20) := by
  have hb4 : ∀ p ∈ l, p.2.length ≤ 4398046511104 := fun p hp => by
   have := (hv.each p hp).2.2
   omega
  refine Exists.elim hv.sl.len fun base hq => Exists.elim hq fun cap hve => ?_
  rw [List.length_map] at hve
  have hpv := hv
  subst hve
  refine qqE rfl Fn.zbV rfl rfl ?_
  repeat' first | refine .A ?_ | refine .B ?_ | refine .G ?_ | refine .F ?_ | fail
  refine .loop (fun n f H => ∃ (i : Nat) (s : Int), n + i = l.length ∧ f = [(0, .slice base l.length cap), (1, I 20), (5, I s), (6, N i)] ∧ H = h ∧ (i ≤ 4 → s = qqF (l.take i))) (n := l.length) ⟨0, 0, rfl, rfl, rfl, fun _ => rfl⟩ ?_
  rintro n f H ⟨i, s, hn, rfl, rfl, hs⟩ next
  by_cases hi : i < l.length
  ·have hgi : l[i]? = some l[i] := List.getElem?_eq_getElem hi
   generalize l[i] = q at hgi
   have hqm := List.mem_of_getElem? hgi
   have hq4 := hb4 q hqm
   have hlt := qqG hgi
   have hbt : qqF (l.take i) ≤ (l.take i).length * 4398046511104 := qqI fun p hp => hb4 p (List.mem_of_mem_take hp)
   have hbl : (l.take i).length = i := by rw [List.length_take]; omega
   rw [hbl] at hbt
   refine Exists.elim (hpv.at hgi) fun a hq => Exists.elim hq fun cap' hq => ?_
   have hva := hq.1
   have I0 := hq.2
   clear hq
   injection hva with e1 e2 e3
   subst e1
   refine Exists.elim (hv.each q hqm).1.len fun qb hq => Exists.elim hq fun qc hqe => ?_
   rw [qlN] at hqe
   rw [hqe] at I0
   repeat' first | refine .A ?_ | refine .B ?_ | refine .C ?_ | refine .F ?_ | refine .G ?_ | refine .H ?_ | refine .t1 ?_ | refine .n2 ?_ | refine .L I0 ?_ | refine .R hi ?_ | refine .Y ?_ | fail
   refine next (n - 1) _ _ (by omega) ⟨i + 1, _, by omega, rfl, rfl, fun h4 => ?_⟩
   rw [hs (by omega), hlt]
   have : i ≤ 3 := by omega
   rw [qiI (by omega) (by have : i * 4398046511104 ≤ 3 * 4398046511104 := Nat.mul_le_mul_right _ this; omega)]
   simp
  ·have hil : i = l.length := by omega
   subst hil
   rw [List.take_length] at hs
   by_cases h4 : l.length ≤ 4
   ·have hs4 := hs h4
    by_cases h20 : s ≤ 20
    ·repeat' first | refine .A ?_ | refine .B ?_ | refine .D ?_ | refine .I ?_ | refine .J ?_ | refine .f1 ?_ | refine .t2 ?_ | refine .F ?_ | refine .Y ?_ | fail
     exact ⟨rfl, true, rfl, fun _ => ⟨h4, fun p hp => by have := qqH hp; omega⟩⟩
    ·repeat' first | refine .A ?_ | refine .B ?_ | refine .D ?_ | refine .I ?_ | refine .J ?_ | refine .f1 ?_ | refine .f2 ?_ | refine .F ?_ | refine .Y ?_ | fail
     exact ⟨rfl, false, rfl, fun h => by cases h⟩
   ·by_cases h20 : s ≤ 20
    ·repeat' first | refine .A ?_ | refine .B ?_ | refine .D ?_ | refine .I ?_ | refine .J ?_ | refine .f1 ?_ | refine .t2 ?_ | refine .f2 ?_ | refine .F ?_ | refine .Y ?_ | fail
     exact ⟨rfl, false, rfl, fun h => by cases h⟩
    ·repeat' first | refine .A ?_ | refine .B ?_ | refine .D ?_ | refine .I ?_ | refine .J ?_ | refine .f1 ?_ | refine .f2 ?_ | refine .F ?_ | refine .Y ?_ | fail
     exact ⟨rfl, false, rfl, fun h => by cases h⟩
 obtain ⟨u, h1, r, rfl, h2⟩ := key
 exact ⟨r, h1, h2⟩

theorem qqK (a : Addr) (n k : Nat) : qaQ (.slice (some a) n k) (.slice (some a) n k) = true := by simp [qaQ, qaP, qaO]
theorem qqL {ws : List Int} {k : Nat} {v : Int} (h : ws[k]? = some v) : qiR ws k = v := by
 have hl := (List.getElem?_eq_some_iff.1 h).1
 unfold qiR
 rw [if_pos ⟨by omega, by omega⟩, Int.toNat_natCast, List.getD_eq_getElem?_getD, h]
 rfl
set_option maxHeartbeats 1600000 in
theorem qqM {H : qab} {cb cr : CB} {ws bs : List Int} (hC : IsC H cb ws bs) (hR : IsR H cr ws bs) (hne : cr.P ≠ cb.P ∧ cr.W ≠ cb.P ∧ cr.Y ≠ cb.P) (hw : ws.length ≤ 100000) (hb : bs.length ≤ 100000) :
  ∃ H', qfV En 0 Id.zbU [qiX cb, qiX cr] H = some (.bool true, H') := by
 have key : ∃ u H', qfV En 0 Id.zbU [qiX cb, qiX cr] H = some (u, H') ∧ u = .bool true := by
  refine qif rfl Fn.zbU rfl rfl ?_
  have keepR : ∀ {H1 H2 : qab}, IsR H1 cr ws bs → Only [cb.P] H1 H2 → IsR H2 cr ws bs := fun h o => h.chg (Chg.of o) (by simp [hne.1, hne.2.1, hne.2.2])
  repeat' first | refine .A ?_ | refine .B ?_ | refine .G ?_ | refine .F ?_ | fail
  refine .loop (fun n f H => ∃ (i : Nat), n + i = ws.length ∧ f = [(0, qiX cb), (1, qiX cr), (5, N i)] ∧ IsC H cb ws bs ∧ IsR H cr ws bs) (n := ws.length) ⟨0, rfl, rfl, hC, hR⟩ ?_
  rintro n f H ⟨i, hn, rfl, hC, hR⟩ next
  have l0 := hR.p0
  by_cases hi : i < ws.length
  ·refine Exists.elim (qi1 (lo := 0) hC (Nat.zero_le _) (i : Nat)) fun H1 hq => ?_
   have hL := hq.1
   have hC1 := hq.2.1
   have hR1 := keepR hR hq.2.2
   clear hq
   have hgi : ws[i]? = some (ws.getD i 0) := qiW hi
   have m0 := hR1.p0
   have mw := hR1.w_ld hi
   have lw := hR.w_ld hi
   rw [qqL hgi] at hL
   generalize ws.getD i 0 = w at hL mw lw
   repeat' first | refine .A ?_ | refine .B ?_ | refine .C ?_ | refine .D ?_ | refine .F ?_ | refine .G ?_ | refine .H ?_ | refine .t1 ?_ | refine .f6 ?_ | refine .n2 ?_ | refine .L l0 ?_ | refine .P hL ?_ | refine .R hi ?_ | refine .X m0 (qis l0) (qqK _ _ _) ?_ | refine .X mw (qis lw) (qkd _) ?_ | refine .Y ?_ | fail
   exact next (n - 1) _ _ (by omega) ⟨i + 1, by omega, rfl, hC1, hR1⟩
  ·repeat' first | refine .A ?_ | refine .B ?_ | refine .D ?_ | refine .G ?_ | refine .I ?_ | refine .f1 ?_ | refine .L l0 ?_ | refine .F ?_ | refine .Y ?_ | fail
   refine .loop (fun n f H => ∃ (i : Nat), n + i = bs.length ∧ f = [(0, qiX cb), (1, qiX cr), (6, N i)] ∧ IsC H cb ws bs ∧ IsR H cr ws bs) (n := bs.length) ⟨0, rfl, rfl, hC, hR⟩ ?_
   rintro n f H ⟨i, hn, rfl, hC, hR⟩ next
   have l1 := hR.p1
   by_cases hi : i < bs.length
   ·refine Exists.elim (qi5 (lo := 0) hC (Nat.zero_le _) (i : Nat)) fun H1 hq => ?_
    have hL := hq.1
    have hC1 := hq.2.1
    have hR1 := keepR hR hq.2.2
    clear hq
    have hgi : bs[i]? = some (bs.getD i 0) := qiW hi
    have m1 := hR1.p1
    have my := hR1.y_ld hi
    have ly := hR.y_ld hi
    rw [qqL hgi] at hL
    generalize bs.getD i 0 = w at hL my ly
    repeat' first | refine .A ?_ | refine .B ?_ | refine .C ?_ | refine .D ?_ | refine .F ?_ | refine .G ?_ | refine .H ?_ | refine .t1 ?_ | refine .f6 ?_ | refine .n2 ?_ | refine .L l1 ?_ | refine .P hL ?_ | refine .R hi ?_ | refine .X m1 (qis l1) (qqK _ _ _) ?_ | refine .X my (qis ly) (qkd _) ?_ | refine .Y ?_ | fail
    exact next (n - 1) _ _ (by omega) ⟨i + 1, by omega, rfl, hC1, hR1⟩
   ·repeat' first | refine .A ?_ | refine .B ?_ | refine .D ?_ | refine .I ?_ | refine .J ?_ | refine .f1 ?_ | refine .L l1 ?_ | refine .F ?_ | refine .Y ?_ | fail
    rfl
 obtain ⟨u, H', h1, rfl⟩ := key
 exact ⟨H', h1⟩
end Go.Proofs.YtnfcohmbcgfhbaaGreat

/- ThreadSteps, as the program runs it. -/
namespace Go.Proofs.YtnfcohmbcgfhbaaGreat
open Go Go.Ir

def kcs (l : List Int) : List (List Value) := l.map fun n => [I n]
theorem qqN (l : List Int) : (kcs l).length = l.length := by simp [kcs]
theorem qqO {h : qab} {v : Value} {l : List Int} (s : Sl h 1 v (kcs l)) {i : Nat} {n : Int} (hi : l[i]? = some n) : ∃ a cap, v = .slice (some a) l.length cap ∧ qav h none ⟨a.block, a.off + i * 1, none⟩ = some (I n) := by
 obtain ⟨a, cap, h1, h2, _⟩ := s.at (i := i) (e := [I n]) (by simp [kcs, hi])
 rw [qqN] at h1
 exact ⟨a, cap, h1, h2 0 _ rfl⟩

def g0 (n : Nat) : Nat → Nat := fun x => if x < n then 0 else if x < n + 3 then 2 else if x = n + 3 then 0 else 3
structure Stat (h H : qab) (g : Nat → Nat) : Prop where
 len : h.length + 4 ≤ H.length
 old : ∀ x, x < h.length → g x = 0 ∧ H[x]? = h[x]?
 z : g (h.length + 3) = 0
theorem Stat.ext {h H : qab} {g : Nat → Nat} (s : Stat h H g) : Ext h H := ⟨by have := s.len; omega, fun x hx => (s.old x hx).2⟩
theorem Stat.calm {h H H' : qab} {g g' : Nat → Nat} (s : Stat h H g) (c : Calm H H' g g') : Stat h H' g' := by
 have hl := s.len
 exact ⟨Nat.le_trans hl c.1, fun x hx => ⟨(c.2 x (by omega)).1.trans (s.old x hx).1, ((c.2 x (by omega)).2 (.inl (s.old x hx).1)).trans (s.old x hx).2⟩, (c.2 _ (by omega)).1.trans s.z⟩
structure Rows2 (H : qab) (g : Nat → Nat) (a b : Value) (pb rb : List Nat) (ka kb : Nat) : Prop where
 a : Arr H a pb ka
 b : Arr H b rb kb
 tag : pb ≠ [] → g ka = 1 ∧ g kb = 1 ∧ ka ≠ kb
 len : rb.length = pb.length
theorem Rows2.ne {H : qab} {g : Nat → Nat} {a b : Value} {pb rb : List Nat} {ka kb : Nat} (r : Rows2 H g a b pb rb ka kb) : rb ≠ [] → pb ≠ [] := fun h e => h (List.length_eq_zero_iff.1 (by rw [r.len, e]; rfl))
theorem Rows2.calm {H H' : qab} {g g' : Nat → Nat} {a b : Value} {pb rb : List Nat} {ka kb : Nat} (r : Rows2 H g a b pb rb ka kb) (c : Calm H H' g g') : Rows2 H' g' a b pb rb ka kb := by
 refine ⟨r.a.keep fun h => (c.2 ka (r.a.lt h)).2 (.inr (r.tag h).1), r.b.keep fun h => (c.2 kb (r.b.lt h)).2 (.inr (r.tag (r.ne h)).2.1), fun h => ?_, r.len⟩
 have hb : rb ≠ [] := fun e => h (List.length_eq_zero_iff.1 (by rw [← r.len, e]; rfl))
 exact ⟨((c.2 ka (r.a.lt h)).1).trans (r.tag h).1, ((c.2 kb (r.b.lt hb)).1).trans (r.tag h).2.1, (r.tag h).2.2⟩

theorem made {h H : qab} {g : Nat → Nat} {c : Cfg} {cb cr : CB} {ws bs : List Int} {ts : List Th} {pb rb : List Nat} {a b v : Value} {ka kb i : Nat} {l : List Op4} (hm : c.may) (hB : qqw H g c cb cr ws bs ts pb rb) (hS : Stat h H g) (hR : Rows2 H g a b pb rb ka kb) (hpi : pb.length = i) (hi : i < 1000)
  (hv : Sl h 4 v (ocs l)) (ht : qiq v l.length) (hl : l.length ≤ 1000) :
  ∃ H1 a' H2 H3 b' H4 p r ts' g' ka' kb', qfV En 0 Id.zdF [.agg #[I c.A, I c.S, I c.T], N i, v] H = some (qkb p, H1) ∧ qaF 0 1 8 (H1 ++ [.row [qkb p] false]) a (.slice (some ⟨H1.length, 0, none⟩) 1 1) = some (a', H2) ∧
   qfV En 0 Id.zdr [.agg #[I c.A, I c.S, I c.T], N i, v] H2 = some (qkb r, H3) ∧ qaF 0 1 8 (H3 ++ [.row [qkb r] false]) b (.slice (some ⟨H3.length, 0, none⟩) 1 1) = some (b', H4) ∧
   qqw H4 g' c cb cr ws bs ts' (pb ++ [p]) (rb ++ [r]) ∧ Stat h H4 g' ∧ Rows2 H4 g' a' b' (pb ++ [p]) (rb ++ [r]) ka' kb' ∧ Ext h H2 := by
 subst hpi
 have hlen := hS.len
 have hB1 := hB.p
 obtain ⟨H1, a', H2, ka', g2, n1, ap1, p1, ar1, t1, k1, l1, tg1, s1⟩ := qqu hm hB.p (s0 := h.length + 3) (by omega) hS.z (hv.ext hS.ext) ht (by omega) hR.a (fun h => (hR.tag h).1) hi
 have st1 : Stp (fun n => n ≠ 1) H H2 g g2 := ⟨l1, tg1, fun x hx ht => s1 x hx (Decidable.byContradiction fun hn => ht (by
  have h1 : pb ≠ [] := fun e => hn (.inl e)
  have h2 : x = ka := Decidable.byContradiction fun e => hn (.inr e)
  rw [h2]; exact (hR.tag h1).1))⟩
 have r1 := hB.r.keep st1 (by decide) (by decide) (fun i => by omega)
 have hS2 : Stat h H2 g2 := ⟨by omega, fun x hx => ⟨(tg1 x (by omega)).trans (hS.old x hx).1, (st1.same x (by omega) (by rw [(hS.old x hx).1]; decide)).trans (hS.old x hx).2⟩, (tg1 _ (by omega)).trans hS.z⟩
 have arb : Arr H2 b rb kb := hR.b.keep fun h => s1 kb (hR.b.lt h) (.inr fun e => (hR.tag (hR.ne h)).2.2 e.symm)
 have trb : rb ≠ [] → g2 kb = 1 := fun h => (tg1 kb (hR.b.lt h)).trans (hR.tag (hR.ne h)).2.1
 obtain ⟨H3, b', H4, kb', g4, n2, ap2, q1, ar2, t2, k2, l2, tg2, s2⟩ := qqv hm r1 (s0 := h.length + 3) (by omega) hS2.z (hv.ext hS2.ext) ht hl arb trb (by rw [hR.len]; exact hi)
 have st2 : Stp (fun n => n ≠ 1) H2 H4 g2 g4 := ⟨l2, tg2, fun x hx ht => s2 x hx (Decidable.byContradiction fun hn => ht (by
  have h1 : rb ≠ [] := fun e => hn (.inl e)
  have h2 : x = kb := Decidable.byContradiction fun e => hn (.inr e)
  rw [h2]; exact trb h1))⟩
 have p2 := p1.keep st2 (by decide) (by decide) (fun i => by omega)
 have hS4 : Stat h H4 g4 := ⟨by omega, fun x hx => ⟨(tg2 x (by omega)).trans (hS2.old x hx).1, (st2.same x (by omega) (by rw [(hS2.old x hx).1]; decide)).trans (hS2.old x hx).2⟩, (tg2 _ (by omega)).trans hS2.z⟩
 have hka := ar1.lt (by simp)
 rw [hR.len] at n2 q1
 refine ⟨H1, a', H2, H3, b', H4, _, _, _, g4, ka', kb', n1, ap1, n2, ap2, ⟨p2, q1, hB.rng, fun t ht => ?_⟩, hS4, ⟨ar1.keep fun _ => s2 ka' hka (Decidable.byContradiction fun hn => ?_), ar2, fun _ => ⟨(tg2 ka' hka).trans t1, t2, by omega⟩, by simp [hR.len]⟩, hS2.ext⟩
 ·rcases List.mem_append.1 ht with ht | ht
  ·exact hB.rg t ht
  ·rw [List.mem_singleton] at ht
   subst ht
   exact qpO _ _
 ·have h1 : rb ≠ [] := fun e => hn (.inl e)
  have h2 : ka' = kb := Decidable.byContradiction fun e => hn (.inr e)
  have := hR.b.lt h1
  omega
end Go.Proofs.YtnfcohmbcgfhbaaGreat

/- ThreadSteps, as the program runs it: the run. -/
namespace Go.Proofs.YtnfcohmbcgfhbaaGreat
open Go Go.Ir

theorem qqP {c : Cfg} (hm : c.may) : Rng (qjv c) := by
 intro w hw
 unfold qjv at hw
 unfold Cfg.may at hm
 rcases List.mem_or_eq_of_mem_set hw with h | h
 ·obtain ⟨k, hk, rfl⟩ := List.mem_map.1 h
  unfold qju
  split <;> omega
 ·omega
theorem qqQ (b : Nat) : qaQ (qkb b) (qkb b) = true := by simp [qaQ, qaP, qaO]

theorem qqR {h : qab} {c : Cfg} (hm : c.may) : ∃ H1 H2 cb cr, qfV En 0 Id.zbW [.agg #[I c.A, I c.S, I c.T]] h = some (qiX cb, H1) ∧ qfV En 0 Id.zcG [.agg #[I c.A, I c.S, I c.T]] H1 = some (qiX cr, H2) ∧
  qqw H2 (g0 h.length) c cb cr (qjv c) (List.replicate c.A.toNat 0) [] [] [] ∧ Stat h H2 (g0 h.length) := by
 obtain ⟨H1, h1, hC, e1, l1⟩ := qqC 0 h hm (Nat.zero_le _)
 obtain ⟨H2, h2, hR, e2, l2⟩ := qp6 0 H1 hm (Nat.zero_le _)
 have hC2 : IsC H2 (qja h) (qjv c) (List.replicate c.A.toNat 0) := hC.chg (Chg.ofExt (S := []) e2) (by simp)
 refine ⟨H1, H2, qja h, qp5 H1, h1, h2, ⟨⟨hC2, ?_, rfl, fun i t b ht => by simp at ht⟩, ⟨hR, ?_, rfl, fun i t b ht => by simp at ht⟩, qqP hm, fun t ht => by cases ht⟩, ⟨by omega, fun x hx => ⟨if_pos hx, (e2.2 x (by omega)).trans (e1.2 x hx)⟩, ?_⟩⟩
 ·unfold g0 qja
  refine ⟨?_, ?_, ?_⟩
  ·rw [if_neg (by show ¬ h.length + 2 < h.length; omega), if_pos (by show h.length + 2 < h.length + 3; omega)]
  ·rw [if_neg (by show ¬ h.length < h.length; omega), if_pos (by show h.length < h.length + 3; omega)]
  ·rw [if_neg (by show ¬ h.length + 1 < h.length; omega), if_pos (by show h.length + 1 < h.length + 3; omega)]
 ·unfold g0 qp5
  rw [l1]
  refine ⟨?_, ?_, ?_⟩
  ·show (if h.length + 3 + 2 < h.length then 0 else if h.length + 3 + 2 < h.length + 3 then 2 else if h.length + 3 + 2 = h.length + 3 then 0 else 3) = 3
   rw [if_neg (by omega), if_neg (by omega), if_neg (by omega)]
  ·show (if h.length + 3 + 3 < h.length then 0 else if h.length + 3 + 3 < h.length + 3 then 2 else if h.length + 3 + 3 = h.length + 3 then 0 else 3) = 3
   rw [if_neg (by omega), if_neg (by omega), if_neg (by omega)]
  ·show (if h.length + 3 + 1 < h.length then 0 else if h.length + 3 + 1 < h.length + 3 then 2 else if h.length + 3 + 1 = h.length + 3 then 0 else 3) = 3
   rw [if_neg (by omega), if_neg (by omega), if_neg (by omega)]
 ·unfold g0
  rw [if_neg (by omega), if_neg (by omega), if_pos rfl]

set_option maxHeartbeats 8000000 in
theorem qqS (c : Cfg) {h : qab} {v w : Value} {l : List (Value × List Op4)} {ks : List Int} (hv : Pgs h v l) (hw : Sl h 1 w (kcs ks)) (hl : l.length < 4611686018427387904) : ∃ h', qfV En 0 Id.zbR [.agg c.cs.toArray, v, w] h = some (.bool true, h') := by
 have key : ∃ u h', qfV En 0 Id.zbR [.agg #[I c.A, I c.S, I c.T], v, w] h = some (u, h') ∧ u = .bool true := by
  refine Exists.elim hv.sl.len fun vb hq => Exists.elim hq fun vc hve => ?_
  refine Exists.elim hw.len fun wb hq => Exists.elim hq fun wc hwe => ?_
  rw [List.length_map] at hve
  rw [qqN] at hwe
  refine Exists.elim (qqJ 0 hv hl) fun sm hq => ?_
  have hSm := hq.1
  have hsm := hq.2
  clear hq
  subst hve hwe
  refine qif rfl Fn.zbR rfl rfl ?_
  by_cases h3 : 300 < ks.length
  ·repeat' first | refine .A ?_ | refine .B ?_ | refine .C ?_ | refine .J ?_ | refine .t3 ?_ | refine .P (qiF _ _) ?_ | refine .D ?_ | refine .F ?_ | refine .Y ?_ | fail
   rfl
  by_cases h2 : 200 < c.A
  ·repeat' first | refine .A ?_ | refine .B ?_ | refine .C ?_ | refine .J ?_ | refine .t3 ?_ | refine .f3 ?_ | refine .P (qiF _ _) ?_ | refine .D ?_ | refine .F ?_ | refine .Y ?_ | fail
   rfl
  cases sm with
  | false =>
    repeat' first | refine .A ?_ | refine .B ?_ | refine .C ?_ | refine .J ?_ | refine .f3 ?_ | refine .P (qiF _ _) ?_ | refine .P hSm ?_ | refine .F ?_ | refine .Y ?_ | fail
    rfl
  | true =>
    have hs4 := (hsm rfl).1
    have hs20 := (hsm rfl).2
    by_cases hm : c.may
    ·refine Exists.elim (qqR (h := h) hm) fun H1 hq => Exists.elim hq fun H2 hq => Exists.elim hq fun cb hq => Exists.elim hq fun cr hq => ?_
     have hS1 := hq.1
     have hS2 := hq.2.1
     have hB := hq.2.2.1
     have hSt := hq.2.2.2
     clear hq
     repeat' first | refine .A ?_ | refine .B ?_ | refine .D ?_ | refine .F ?_ | refine .G ?_ | refine .C ?_ | refine .f3 ?_ | refine .P hSm ?_ | refine .P hS1 ?_ | refine .P hS2 ?_ | refine .Y ?_ | fail
     refine .loop (fun n f H => ∃ (i : Nat) (a b : Value) (ts : List Th) (pb rb : List Nat) (g : Nat → Nat) (ka kb : Nat), n + i = l.length ∧
      f = [(1, .slice vb l.length vc), (2, .slice wb ks.length wc), (3, .agg #[I c.A, I c.S, I c.T]), (7, qiX cb), (8, qiX cr), (9, a), (10, b), (11, N i)] ∧
      qqw H g c cb cr (qjv c) (List.replicate c.A.toNat 0) ts pb rb ∧ Stat h H g ∧ Rows2 H g a b pb rb ka kb ∧ pb.length = i) (n := l.length)
      ⟨0, _, _, _, _, _, _, 0, 0, rfl, rfl, hB, hSt, ⟨.inl ⟨rfl, rfl⟩, .inl ⟨rfl, rfl⟩, fun h => absurd rfl h, rfl⟩, rfl⟩ ?_
     rintro n f H ⟨i, a, b, ts, pb, rb, g, ka, kb, hn, rfl, hB, hSt, hR, hpi⟩ next
     by_cases hi : i < l.length
     ·have hgi : l[i]? = some l[i] := List.getElem?_eq_getElem hi
      generalize l[i] = q at hgi
      have hqm := List.mem_of_getElem? hgi
      have hq4 := hv.each q hqm
      have hq20 := hs20 q hqm
      refine Exists.elim ((hv.ext hSt.ext).at hgi) fun ad hq => Exists.elim hq fun cap' hq => ?_
      have hva := hq.1
      have I0 := hq.2
      clear hq
      injection hva with e1 e2 e3
      refine Exists.elim (made hm hB hSt hR hpi (by omega) hq4.1 hq4.2.1 (by omega)) fun H1 hq => Exists.elim hq fun a' hq => Exists.elim hq fun H2 hq => Exists.elim hq fun H3 hq => Exists.elim hq fun b' hq => Exists.elim hq fun H4 hq => Exists.elim hq fun p hq => Exists.elim hq fun r hq => Exists.elim hq fun ts' hq => Exists.elim hq fun g' hq => Exists.elim hq fun ka' hq => Exists.elim hq fun kb' hq => ?_
      have n1 := hq.1
      have a1 := hq.2.1
      have n2 := hq.2.2.1
      have a2 := hq.2.2.2.1
      have hB' := hq.2.2.2.2.1
      have hSt' := hq.2.2.2.2.2.1
      have hR' := hq.2.2.2.2.2.2.1
      have ex2 := hq.2.2.2.2.2.2.2
      clear hq
      refine Exists.elim ((hv.ext ex2).at hgi) fun ad2 hq => Exists.elim hq fun cap2 hq => ?_
      have hva2 := hq.1
      have I2 := hq.2
      clear hq
      injection hva2 with e4 e5 e6
      subst e1
      injection e4 with e4
      subst e4
      refine Exists.elim hq4.1.len fun qb hq => Exists.elim hq fun qc hqe => ?_
      rw [hqe] at I0 I2 n1 n2
      repeat' first | refine .A ?_ | refine .B ?_ | refine .C ?_ | refine .F ?_ | refine .G ?_ | refine .H ?_ | refine .t1 ?_ | refine .n2 ?_ | refine .L I0 ?_ | refine .L I2 ?_ | refine .P n1 ?_ | refine .P n2 ?_ | refine .R hi ?_ | refine .U a1 ?_ | refine .U a2 ?_ | refine .Y ?_ | fail
      exact next (n - 1) _ _ (by omega) ⟨i + 1, a', b', ts', _, _, g', ka', kb', by omega, rfl, hB', hSt', hR', by rw [List.length_append, hpi]; rfl⟩
     ·have hil : i = l.length := by omega
      have hpl : pb.length ≤ 4 := by omega
      refine Exists.elim hR.a.len fun ab hq => Exists.elim hq fun ac hae => ?_
      refine Exists.elim hR.b.len fun bb hq => Exists.elim hq fun bc hbe => ?_
      subst hae hbe
      repeat' first | refine .A ?_ | refine .B ?_ | refine .D ?_ | refine .G ?_ | refine .I ?_ | refine .f1 ?_ | refine .F ?_ | refine .Y ?_ | fail
      clear hn hi hpi hil
      refine .loop (fun n f H => ∃ (i : Nat) (ts : List Th) (ws bs : List Int) (g : Nat → Nat), n + i = ks.length ∧
       f = [(2, .slice wb ks.length wc), (7, qiX cb), (8, qiX cr), (9, .slice ab pb.length ac), (10, .slice bb rb.length bc), (12, N i)] ∧
       qqw H g c cb cr ws bs ts pb rb ∧ Stat h H g ∧ Rows2 H g (.slice ab pb.length ac) (.slice bb rb.length bc) pb rb ka kb ∧ ws.length = (qjv c).length ∧ bs.length = (List.replicate c.A.toNat (0 : Int)).length) (n := ks.length)
       ⟨0, ts, _, _, g, rfl, rfl, hB, hSt, hR, rfl, rfl⟩ ?_
      clear hB hSt hR
      rintro n f H ⟨i, ts, ws, bs, g, hn, rfl, hB, hSt, hR, hwl, hbl⟩ next
      by_cases hi : i < ks.length
      ·have hgi : ks[i]? = some ks[i] := List.getElem?_eq_getElem hi
       generalize ks[i] = q at hgi
       refine Exists.elim (qqO (hw.ext hSt.ext) hgi) fun ad hq => Exists.elim hq fun cap' hq => ?_
       have hva := hq.1
       have I0 := hq.2
       clear hq
       injection hva with e1 e2 e3
       subst e1
       have cont : ∃ (i' : Nat) (ts : List Th) (ws bs : List Int) (g : Nat → Nat), n - 1 + i' = ks.length ∧
        [(2, Value.slice (some ad) ks.length wc), (7, qiX cb), (8, qiX cr), (9, .slice ab pb.length ac), (10, .slice bb rb.length bc), (12, N (i + 1))] = [(2, .slice (some ad) ks.length wc), (7, qiX cb), (8, qiX cr), (9, .slice ab pb.length ac), (10, .slice bb rb.length bc), (12, N i')] ∧
        qqw H g c cb cr ws bs ts pb rb ∧ Stat h H g ∧ Rows2 H g (.slice ab pb.length ac) (.slice bb rb.length bc) pb rb ka kb ∧ ws.length = (qjv c).length ∧ bs.length = (List.replicate c.A.toNat (0 : Int)).length := ⟨i + 1, ts, ws, bs, g, by omega, rfl, hB, hSt, hR, hwl, hbl⟩
       by_cases hq0 : q < 0
       ·repeat' first | refine .A ?_ | refine .B ?_ | refine .C ?_ | refine .F ?_ | refine .G ?_ | refine .I ?_ | refine .t1 ?_ | refine .n2 ?_ | refine .L I0 ?_ | refine .R hi ?_ | refine .D ?_ | refine .Y ?_ | fail
        exact next (n - 1) _ _ (by omega) cont
       by_cases hqp : (pb.length : Int) ≤ q
       ·repeat' first | refine .A ?_ | refine .B ?_ | refine .C ?_ | refine .F ?_ | refine .G ?_ | refine .I ?_ | refine .t1 ?_ | refine .f1 ?_ | refine .t4 ?_ | refine .n2 ?_ | refine .L I0 ?_ | refine .R hi ?_ | refine .Y ?_ | fail
        exact next (n - 1) _ _ (by omega) cont
       clear cont
       refine Exists.elim (show ∃ k : Nat, q = k from ⟨q.toNat, by omega⟩) fun k hk => ?_
       subst hk
       have hkp : k < pb.length := by omega
       have hkr : k < rb.length := by rw [hR.len]; exact hkp
       have hgp : pb[k]? = some pb[k] := List.getElem?_eq_getElem hkp
       have hgr : rb[k]? = some rb[k] := List.getElem?_eq_getElem hkr
       generalize pb[k] = p at hgp
       generalize rb[k] = r at hgr
       have hpe : pb ≠ [] := fun e => by rw [e] at hkp; simp at hkp
       have hre : rb ≠ [] := fun e => by rw [e] at hkr; simp at hkr
       have hA := hR.a.at hgp
       have hRb := hR.b.at hgr
       have ea := hA.1
       have eb := hRb.1
       injection ea with ea1 _ ea3
       injection eb with eb1 _ eb3
       subst ea1 ea3 eb1 eb3
       have hla := hR.a.lt hpe
       have hlb := hR.b.lt hre
       have tg := hR.tag hpe
       refine Exists.elim (qqy hm hB hgp hgr) fun x hq => Exists.elim hq fun y hq => Exists.elim hq fun H1 hq => Exists.elim hq fun H2 hq => Exists.elim hq fun g1 hq => Exists.elim hq fun g2 hq => Exists.elim hq fun ws' hq => Exists.elim hq fun bs' hq => Exists.elim hq fun ts' hq => Exists.elim hq fun hf hq => Exists.elim hq fun hk hq => Exists.elim hq fun is hq => Exists.elim hq fun dn hq => Exists.elim hq fun bz hq => ?_
       have s1 := hq.1
       have s2 := hq.2.1
       have q1 := hq.2.2.1
       have q2 := hq.2.2.2.1
       have q3 := hq.2.2.2.2.1
       have d1 := hq.2.2.2.2.2.1
       have d2 := hq.2.2.2.2.2.2.1
       have b1 := hq.2.2.2.2.2.2.2.1
       have b2 := hq.2.2.2.2.2.2.2.2.1
       have hB' := hq.2.2.2.2.2.2.2.2.2.1
       have c1 := hq.2.2.2.2.2.2.2.2.2.2.1
       have c2 := hq.2.2.2.2.2.2.2.2.2.2.2.1
       have w1 := hq.2.2.2.2.2.2.2.2.2.2.2.2.1
       have w2 := hq.2.2.2.2.2.2.2.2.2.2.2.2.2
       clear hq
       have c12 := c1.trans c2
       have A0 := hA.2 H rfl
       have A2 := hA.2 H2 ((c12.2 ka hla).2 (.inr tg.1))
       have B1 := hRb.2 H1 ((c1.2 kb hlb).2 (.inr tg.2.1))
       have B2 := hRb.2 H2 ((c12.2 kb hlb).2 (.inr tg.2.1))
       repeat' first | refine .A ?_ | refine .B ?_ | refine .C ?_ | refine .D ?_ | refine .F ?_ | refine .G ?_ | refine .H ?_ | (show EG _ _ (⟨_, .bin _ _ _, _, _⟩ :: _) _ _ _ _ _ _; first | refine .t1 ?_ | refine .f1 ?_ | refine .f4 ?_ | refine .f6 ?_ | refine .n2 ?_) | (show EG _ _ (⟨_, .load _ _, _, _⟩ :: _) _ _ _ _ _ _; first | refine .L I0 ?_ | refine .L A0 ?_ | refine .L A2 ?_ | refine .L B1 ?_ | refine .L B2 ?_) | (show EG _ _ (⟨_, .call _ _, _, _⟩ :: _) _ _ _ _ _ _; first | refine .P s1 ?_ | refine .P s2 ?_ | refine .P q1 ?_ | refine .P q2 ?_ | refine .P (q3 _) ?_ | refine .P d1 ?_ | refine .P d2 ?_ | refine .P b1 ?_ | refine .P b2 ?_) | refine .R hi ?_ | refine .R hkp ?_ | refine .R hkr ?_ | refine .eqbb rfl rfl rfl ?_ | refine .X B2 (qis B2) (qqQ _) ?_ | refine .Y ?_ | fail
       exact next (n - 1) _ _ (by omega) ⟨i + 1, ts', ws', bs', g2, by omega, rfl, hB', hSt.calm c12, hR.calm c12, w1.trans hwl, w2.trans hbl⟩
      ·have hm' := hm
       unfold Cfg.may at hm'
       have tc := hB.p.tc
       have tr := hB.r.tc
       have hw5 : ws.length ≤ 100000 := by rw [hwl, qjx]; unfold qiN; omega
       have hb5 : bs.length ≤ 100000 := by rw [hbl, List.length_replicate]; omega
       refine Exists.elim (qqM hB.p.cells hB.r.cells ⟨fun e => by have := tr.1; rw [e, tc.1] at this; omega, fun e => by have := tr.2.1; rw [e, tc.1] at this; omega, fun e => by have := tr.2.2; rw [e, tc.1] at this; omega⟩ hw5 hb5) fun H9 hsame => ?_
       repeat' first | refine .A ?_ | refine .B ?_ | refine .D ?_ | refine .I ?_ | refine .J ?_ | refine .f1 ?_ | refine .P hsame ?_ | refine .P (qiF _ _) ?_ | refine .F ?_ | refine .Y ?_ | fail
       rfl
    ·have hS1 := qqD 0 h hm
     have hM := fun lo => qiM lo h c
     rw [decide_eq_false hm] at hM
     have hcs : Value.agg c.cs.toArray = .agg #[I c.A, I c.S, I c.T] := rfl
     rw [hcs] at hS1 hM
     repeat' first | refine .A ?_ | refine .B ?_ | refine .C ?_ | refine .D ?_ | refine .F ?_ | refine .J ?_ | refine .f3 ?_ | refine .P (qiF _ _) ?_ | refine .P hSm ?_ | refine .P hS1 ?_ | refine .P (hM _) ?_ | refine .Y ?_ | fail
     rfl
 obtain ⟨u, h', h1, rfl⟩ := key
 exact ⟨h', h1⟩
end Go.Proofs.YtnfcohmbcgfhbaaGreat

/- Ops of many threads, and picks, as arguments. -/
set_option linter.constructorNameAsVariable false
namespace Go.Proofs.YtnfcohmbcgfhbaaGreat
open Go Go.Ir Go.ChangeShapes Go.WideShapes

theorem qqT : Tryz.prog.bytesOf 40 = 32 := by kernel_rfl
theorem qqU : Tryz.prog.bytesOf 24 = 24 := by kernel_rfl
theorem qqV : Tryz.prog.cellsOf 40 = 4 := by kernel_rfl
theorem qqW : Tryz.prog.cellsOf 24 = 1 := by kernel_rfl
theorem qqX {n : Int} (h : (Lit.int .i64 n).wf = true) : -9223372036854775808 ≤ n ∧ n < 9223372036854775808 := by
 simp only [Lit.wf, Bool.and_eq_true, decide_eq_true_eq] at h
 have h1 : IntKind.min .i64 = -9223372036854775808 := by decide
 have h2 : IntKind.max .i64 = 9223372036854775807 := by decide
 omega
section
variable {H : Type} {enc : TypeId × Value → H} {W : World} {base : Nat} {spare : Nat → Bool} {held : Bool} {n : Nat} {cs : List Value} {x : DataW H × List MemPlace}
theorem qqY (h : DataW.trod enc Tryz.prog W base spare held n 40 cs = some x) : ∃ t : Op4, cs = t.cs := by
 obtain ⟨xs, m, _, _, hlen, hxl, hf⟩ := DataW.trod_struct Tryz.underlying40 h
 rw [qqV] at hlen
 have hx : xs.length = 4 := hxl
 have g0 : DataW.trod enc Tryz.prog W base spare held m 3 ((cs.drop 0).take (Tryz.prog.cellsOf 3)) = xs[0]? := hf 0 _ rfl
 rw [qqc, List.getElem?_eq_getElem (by omega)] at g0
 have g1 : DataW.trod enc Tryz.prog W base spare held m 3 ((cs.drop 1).take (Tryz.prog.cellsOf 3)) = xs[1]? := hf 1 _ rfl
 rw [qqc, List.getElem?_eq_getElem (by omega)] at g1
 have g2 : DataW.trod enc Tryz.prog W base spare held m 3 ((cs.drop 2).take (Tryz.prog.cellsOf 3)) = xs[2]? := hf 2 _ rfl
 rw [qqc, List.getElem?_eq_getElem (by omega)] at g2
 have g3 : DataW.trod enc Tryz.prog W base spare held m 3 ((cs.drop 3).take (Tryz.prog.cellsOf 3)) = xs[3]? := hf 3 _ rfl
 rw [qqc, List.getElem?_eq_getElem (by omega)] at g3
 obtain ⟨b0, e0, _, w0⟩ := DataW.trod_int Tryz.underlying3 g0
 obtain ⟨b1, e1, _, w1⟩ := DataW.trod_int Tryz.underlying3 g1
 obtain ⟨b2, e2, _, w2⟩ := DataW.trod_int Tryz.underlying3 g2
 obtain ⟨b3, e3, _, w3⟩ := DataW.trod_int Tryz.underlying3 g3
 refine ⟨⟨b0, b1, b2, b3, qqX w1, qqX w3⟩, List.ext_getElem? fun i => ?_⟩
 match i with
 | 0 => exact qiz cs e0
 | 1 => exact qiz cs e1
 | 2 => exact qiz cs e2
 | 3 => exact qiz cs e3
 | i + 4 => rw [List.getElem?_eq_none (by omega)]; rfl
instance : Inhabited Op4 := ⟨⟨0, 0, 0, 0, by omega, by omega⟩⟩
theorem qqZ (h : DataW.trod enc Tryz.prog W base spare held n 3 cs = some x) : ∃ a : Int, cs = [I a] := by
 obtain ⟨b, e, _, _⟩ := DataW.trod_int Tryz.underlying3 h
 exact ⟨b, e⟩
set_option maxRecDepth 8000 in
theorem qq0 {E : Emb} {h : qab} (s : Sim W.heap.size W E h W) (hro : RoH h) {b0 : Nat} {r : Reach} {v0 : Value} {d0 : DataW H} {p0 : List MemPlace} (hval : Value.okWide Tryz.prog W r b0 36 v0) (hd : DataW.Trod enc Tryz.prog W base spare held 36 v0 d0 p0) :
  ∃ E' h' v l, Sim W.heap.size W E' h' W ∧ E.le E' ∧ RoH h' ∧ Ext h h' ∧ VR E' v v0 ∧ Sl h' 1 v (kcs l) ∧ qiq v l.length :=
 qiA (fun n : Int => [I n]) Tryz.underlying36 qqc (by decide) (fun a => ⟨rfl, rfl, rfl⟩) qqZ s hro hval hd
set_option maxRecDepth 8000 in
theorem qq1 {ts : List TypeId} {ds : List (DataW H)} (hsz : (DataW.weightsEach Tryz.prog ts ds).all (· ≤ reachBytes) = true) {j : Nat} {E : Emb} {h : qab} (s : Sim W.heap.size W E h W) (hro : RoH h) {b0 : Nat} {r : Reach} {v0 : Value} {d0 : DataW H} {p0 : List MemPlace}
  (ht : ts[j]? = some 49) (hdd : ds[j]? = some d0) (hval : Value.okWide Tryz.prog W r b0 49 v0) (hd : DataW.Trod enc Tryz.prog W base spare held 49 v0 d0 p0) :
  ∃ E' h' v l, Sim W.heap.size W E' h' W ∧ E.le E' ∧ RoH h' ∧ Ext h h' ∧ VR E' v v0 ∧ Pgs h' v l ∧ l.length < 4611686018427387904 := by
 obtain ⟨E', h', v, l, s1, s2, s3, s4, s5, s6, s7, s8, s9⟩ := qqB Op4.cs Tryz.underlying49 Tryz.underlying24 qqW qqV (by decide) (fun a => ⟨rfl, rfl, rfl⟩) qqY s hro hval hd (fun w hw => by
  have := List.all_eq_true.1 hsz _ (DataW.weights_mem_each ht hdd w hw)
  simpa using this)
 have hr := reachBytes_lt
 rw [qqU] at s8
 refine ⟨E', h', v, l, s1, s2, s3, s4, s5, ⟨s6, fun p hp => ⟨(s9 p hp).1, (s9 p hp).2.1, ?_⟩⟩, by omega⟩
 have := (s9 p hp).2.2
 rw [qqT] at this
 omega
end
end Go.Proofs.YtnfcohmbcgfhbaaGreat

