/- What laid objects cost a pass alone. Plain. -/
import Derived.Test.YtfpfknafcgkcjaaCompactW
import Derived.Test.YtfpfknafcgkcjaaCompactE
import Derived.Test.YtfpfknafcgkcjaaCompactV

set_option linter.unusedVariables false
set_option linter.unusedSimpArgs false
namespace Go.Proofs.Ytfpfknafcgkcjaa
open Go Go.Ir

theorem fillB_len (bs : List Int) (a : Nat) (f : Int) : ∀ k, (fillB bs a f k).length = bs.length
 | 0 => rfl
 | k + 1 => by rw [fillB, setI_len, fillB_len]

structure Laid (c : Cfg) (i : Nat) (s : LaySt) : Prop where
 wl : s.ws.length = (wordsI c).toNat
 zero : ∀ k : Int, (i : Int) ≤ k → k < c.S → getI s.ws (slotI c k 0) = 0
 cost : pS c s.ws c.S.toNat = oS s.ob
 size : ∀ o ∈ s.ob, 8 ≤ o.n ∧ o.n ≤ 256
 len : s.ob.length = i
 ep : getI s.ws 3 = 0

theorem laid_one {A S T i : Nat} {t : Th} {s : LaySt} (hm : Cfg.may ⟨A, S, T⟩) (h : Laid ⟨A, S, T⟩ i s) (hi : i < S) (ht : okTh A s.a t) : Laid ⟨A, S, T⟩ (i + 1) (layOne A T i t s) := by
 have hm' := hm
 unfold Cfg.may at hm'
 simp only at hm'
 have hsl : ∀ k : Int, 0 ≤ k → k < S → ∀ j : Int, 0 ≤ j ∧ j ≤ 2 → slotI ⟨A, S, T⟩ k j = 4 + T + 3 * k + j := fun k h0 h1 j hj => (slotI_lt hm h0 h1 hj).1
 have hwl : (s.ws.length : Int) = 4 + T + 3 * S := by rw [h.wl]; unfold wordsI; simp only; omega
 have he := entTh_may (i := i) ht (by omega) (by omega)
 have e0 : getI (layOne A T i t s).ws (slotI ⟨A, S, T⟩ i 0) = (packN (entTh s.a i t) : Nat) := by
  rw [hsl _ (by omega) (by omega) _ (by omega)]
  unfold layOne
  simp only
  rw [getI_ne (by omega), show (4 + (T : Int) + 3 * i + 0) = ((4 + T + 3 * i : Nat) : Int) by omega, getI_same (by omega) (by omega)]
 have e1 : getI (layOne A T i t s).ws (slotI ⟨A, S, T⟩ i 1) = t.z := by
  rw [hsl _ (by omega) (by omega) _ (by omega)]
  unfold layOne
  simp only
  rw [show (4 + (T : Int) + 3 * i + 1) = ((5 + T + 3 * i : Nat) : Int) by omega, getI_same (by omega) (by rw [setI_len]; omega)]
 have en : ∀ k : Int, 0 ≤ k → k < S → k ≠ i → ∀ j : Int, 0 ≤ j ∧ j ≤ 1 → getI (layOne A T i t s).ws (slotI ⟨A, S, T⟩ k j) = getI s.ws (slotI ⟨A, S, T⟩ k j) := fun k h0 h1 hk j hj => by
  rw [hsl _ (by omega) (by omega) _ (by omega)]
  unfold layOne
  simp only
  rw [getI_ne (by omega), getI_ne (by omega)]
 unfold okTh at ht
 have hr : 8 ≤ roundI t.z ∧ roundI t.z ≤ 256 := by unfold roundI; omega
 have hpi : pot ⟨A, S, T⟩ (layOne A T i t s).ws i = 3 + 2 * (roundI t.z).toNat := by
  unfold pot
  rw [e0, e1, unpack_pack he]
  simp only
  rw [if_pos ⟨rfl, by omega, by omega⟩]
 have hp0 : pot ⟨A, S, T⟩ s.ws i = 0 := pot_zero (h.zero i (by omega) (by show (i : Int) < S; omega))
 refine ⟨?_, fun k h0 h1 => ?_, ?_, fun o ho => ?_, ?_, ?_⟩
 ·unfold layOne; simp only; rw [setI_len, setI_len]; exact h.wl
 ·have h1 : k < S := h1
  rw [en k (by omega) h1 (by omega) 0 (by omega)]
  exact h.zero k (by omega) h1
 ·have hu := pS_upd (c := ⟨A, S, T⟩) (ws := s.ws) (ws' := (layOne A T i t s).ws) (i := i) (fun k h0 h1 hk => by
   unfold pot
   rw [en k h0 h1 hk 0 (by omega), en k h0 h1 hk 1 (by omega)]) S (by show (S : Int) ≤ S; omega) (by show (i : Int) < S; omega)
  simp only at hu
  rw [if_pos (by omega), if_pos (by omega), hp0, hpi] at hu
  have hc := h.cost
  show pS _ _ ((S : Int)).toNat = _
  have hc : pS ⟨A, S, T⟩ s.ws ((S : Int)).toNat = oS s.ob := hc
  rw [Int.toNat_natCast] at hc ⊢
  show _ = oS (s.ob ++ [⟨i, (s.a : Int) + 8 * t.g, roundI t.z, decide (0 < t.p)⟩])
  rw [oS_app]
  show _ = oS s.ob + ((3 + 2 * (roundI t.z).toNat) + 0)
  omega
 ·have ho : o ∈ s.ob ++ [⟨i, (s.a : Int) + 8 * t.g, roundI t.z, decide (0 < t.p)⟩] := ho
  rcases List.mem_append.1 ho with g | g
  ·exact h.size o g
  ·simp at g; subst g; exact hr
 ·show (s.ob ++ [_]).length = i + 1
  rw [List.length_append, h.len]; rfl
 ·unfold layOne
  simp only
  rw [getI_ne (by omega), getI_ne (by omega)]
  exact h.ep

theorem laid_all {A S T : Nat} (hm : Cfg.may ⟨A, S, T⟩) : ∀ (l : List Th) (i : Nat) (s r : LaySt), Laid ⟨A, S, T⟩ i s → i + l.length ≤ S → layAll A T l i s = some r → Laid ⟨A, S, T⟩ (i + l.length) r
 | [], i, s, r, h, _, e => by
   unfold layAll at e
   injection e with e
   subst e; exact h
 | t :: l, i, s, r, h, hl, e => by
   unfold layAll at e
   rw [List.length_cons] at hl ⊢
   by_cases ht : okTh A s.a t
   ·rw [if_pos ht] at e
    have := laid_all hm l (i + 1) _ r (laid_one hm h (by omega) ht) (by omega) e
    rw [show i + (l.length + 1) = i + 1 + l.length by omega]; exact this
   ·rw [if_neg ht] at e; cases e

theorem laid_start {A S T : Nat} (hm : Cfg.may ⟨A, S, T⟩) (bs : List Int) : Laid ⟨A, S, T⟩ 0 ⟨0, startL ⟨A, S, T⟩, bs, []⟩ := by
 have hm' := hm
 unfold Cfg.may at hm'
 simp only at hm'
 refine ⟨startL_len _, fun k h0 h1 => start_slot hm (by omega) h1, ?_, fun o ho => (by cases ho), rfl, ?_⟩
 rotate_left
 ·refine getI_nat (k := 3) ?_
  unfold startL
  rw [List.getElem?_set_ne (by omega), partL_get _ _ (by unfold wordsI; simp only; omega)]
  unfold partW
  simp only
  rw [if_neg (by omega)]
 exact pS_zero _ (by show (((S : Int)).toNat : Int) ≤ S; omega) fun s h0 h1 => start_slot hm h0 h1

theorem lay_cost {A S T : Nat} {l : List Th} {tail : Int} {bs : List Int} {r : LaySt} (hm : Cfg.may ⟨A, S, T⟩) (h : layR A S T l tail (startL ⟨A, S, T⟩) bs = some r) :
  r.ws.length = (wordsI ⟨A, S, T⟩).toNat ∧ (∀ o ∈ r.ob, 8 ≤ o.n ∧ o.n ≤ 256) ∧ r.ob.length = l.length ∧ getI r.ws 3 = 0 ∧ phi (mc0 ⟨A, S, T⟩) r.ws = 2 * S + T + 5 + oS r.ob := by
 have hm' := hm
 unfold Cfg.may at hm'
 simp only at hm'
 unfold layR at h
 by_cases hg : l.length ≤ S ∧ 0 ≤ tail ∧ tail ≤ 100
 ·rw [if_pos hg] at h
  cases hr : layAll A T l 0 ⟨0, startL ⟨A, S, T⟩, bs, []⟩ with
  | none => rw [hr] at h; cases h
  | some s =>
    rw [hr] at h
    have hL := laid_all hm l 0 _ s (laid_start hm bs) (by omega) hr
    rw [Option.map_some] at h
    injection h with h
    subst h
    refine ⟨by simp only [setI_len]; exact hL.wl, hL.size, by have := hL.len; simp only; omega, by simp only; rw [getI_ne (by omega)]; exact hL.ep, ?_⟩
    have hc : pS ⟨A, S, T⟩ s.ws ((S : Int)).toNat = oS s.ob := hL.cost
    have hu := pS_upd (c := ⟨A, S, T⟩) (ws := s.ws) (ws' := setI s.ws 0 (min ((s.a : Int) + 8 * tail) A)) (i := -1) (fun k h0 h1 hk => by
     have h2 := slotI_lt hm h0 h1 (k := 0) (by omega)
     have h3 := slotI_lt hm h0 h1 (k := 1) (by omega)
     unfold pot
     rw [getI_ne (by omega), getI_ne (by omega)]) S (by show (S : Int) ≤ S; omega) (by show (-1 : Int) < S; omega)
    simp only at hu
    rw [if_neg (by omega), if_neg (by omega)] at hu
    unfold phi
    show (if (1 : Int) = 1 then 2 + 2 * ((S : Int)).toNat + pS ⟨A, S, T⟩ (setI s.ws 0 (min ((s.a : Int) + 8 * tail) A)) ((S : Int)).toNat + ((T : Int)).toNat + 3 else _) = _
    rw [if_pos rfl]
    rw [Int.toNat_natCast] at hc ⊢
    rw [Int.toNat_natCast]
    simp only
    omega
 ·rw [if_neg hg] at h; cases h

end Go.Proofs.Ytfpfknafcgkcjaa

/- Laid objects: small facts. -/
set_option linter.unusedVariables false
set_option linter.unusedSimpArgs false
namespace Go.Proofs.Ytfpfknafcgkcjaa
open Go Go.Ir

theorem th_block {h : Heap} {v : Value} {l : List Th} (hv : Sl h 4 v (tcs l)) (h0 : 0 < l.length) : ∀ a len cap, v = .slice (some a) len cap → a.block < h.length := by
 intro a len cap e
 obtain ⟨a', cap', e', hld⟩ := th_cells hv h0
 rw [e] at e'
 injection e' with e1 e2 e3
 injection e1 with e1
 subst e1
 have := (hld 0 _ (List.getElem?_eq_getElem h0)).1
 simp only [loadV, ld1, hrow] at this
 exact Decidable.byContradiction fun hn => by
  rw [List.getElem?_eq_none (by omega)] at this
  cases this

end Go.Proofs.Ytfpfknafcgkcjaa

/- Whether a pass lowered the frontier. -/
set_option linter.unusedVariables false
set_option linter.unusedSimpArgs false
namespace Go.Proofs.Ytfpfknafcgkcjaa
open Go Go.Ir

end Go.Proofs.Ytfpfknafcgkcjaa

/- A pass alone ends: the law's run. -/
set_option linter.unusedVariables false
set_option linter.unusedSimpArgs false
namespace Go.Proofs.Ytfpfknafcgkcjaa
open Go Go.Ir

end Go.Proofs.Ytfpfknafcgkcjaa

/- Things as an argument. -/
set_option linter.unusedVariables false
set_option linter.unusedSimpArgs false
set_option linter.constructorNameAsVariable false
namespace Go.Proofs.Ytfpfknafcgkcjaa
open Go Go.Ir Go.ChangeShapes Go.WideShapes

theorem cellsOf65 : Try.prog.cellsOf 65 = 4 := by kernel_rfl
theorem open_T65 {H : Type} {enc : TypeId × Value → H} {W : World} {base : Nat} {spare : Nat → Bool} {held : Bool} {n : Nat} {cs : List Value} {x : DataW H × List MemPlace} (h : DataW.trod enc Try.prog W base spare held n 65 cs = some x) :
  ∃ (a0 : Int) (a1 : Int) (a2 : Int) (a3 : Int), cs = [.int .i64 a0, .int .i64 a1, .int .i64 a2, .int .i64 a3] := by
 obtain ⟨xs, m, _, _, hlen, hxl, hf⟩ := DataW.trod_struct Try.underlying65 h
 rw [cellsOf65] at hlen
 have hx : xs.length = 4 := hxl
 have g0 : DataW.trod enc Try.prog W base spare held m 3 ((cs.drop 0).take (Try.prog.cellsOf 3)) = xs[0]? := hf 0 _ rfl
 rw [cellsOf3, List.getElem?_eq_getElem (by omega)] at g0
 have g1 : DataW.trod enc Try.prog W base spare held m 3 ((cs.drop 1).take (Try.prog.cellsOf 3)) = xs[1]? := hf 1 _ rfl
 rw [cellsOf3, List.getElem?_eq_getElem (by omega)] at g1
 have g2 : DataW.trod enc Try.prog W base spare held m 3 ((cs.drop 2).take (Try.prog.cellsOf 3)) = xs[2]? := hf 2 _ rfl
 rw [cellsOf3, List.getElem?_eq_getElem (by omega)] at g2
 have g3 : DataW.trod enc Try.prog W base spare held m 3 ((cs.drop 3).take (Try.prog.cellsOf 3)) = xs[3]? := hf 3 _ rfl
 rw [cellsOf3, List.getElem?_eq_getElem (by omega)] at g3
 obtain ⟨b0, e0, _, _⟩ := DataW.trod_int Try.underlying3 g0
 obtain ⟨b1, e1, _, _⟩ := DataW.trod_int Try.underlying3 g1
 obtain ⟨b2, e2, _, _⟩ := DataW.trod_int Try.underlying3 g2
 obtain ⟨b3, e3, _, _⟩ := DataW.trod_int Try.underlying3 g3
 refine ⟨b0, b1, b2, b3, List.ext_getElem? fun i => ?_⟩
 match i with
 | 0 => exact take1 cs e0
 | 1 => exact take1 cs e1
 | 2 => exact take1 cs e2
 | 3 => exact take1 cs e3
 | i + 4 => rw [List.getElem?_eq_none (by omega)]; rfl



section
variable {H : Type} {enc : TypeId × Value → H} {W : World} {base : Nat} {spare : Nat → Bool} {held : Bool} {n : Nat} {cs : List Value} {x : DataW H × List MemPlace}
theorem open_th (h : DataW.trod enc Try.prog W base spare held n 65 cs = some x) : ∃ t : Th, cs = t.cs := by
 obtain ⟨a0, a1, a2, a3, rfl⟩ := open_T65 h
 exact ⟨⟨a0, a1, a2, a3⟩, rfl⟩
instance : Inhabited Th := ⟨⟨0, 0, 0, 0⟩⟩
set_option maxRecDepth 8000 in
theorem open_ths {E : Emb} {h : Heap} (s : Sim W.heap.size W E h W) (hro : RoH h) {b0 : Nat} {r : Reach} {v0 : Value} {d0 : DataW H} {p0 : List MemPlace} (hval : Value.okWide Try.prog W r b0 24 v0) (hd : DataW.Trod enc Try.prog W base spare held 24 v0 d0 p0) :
  ∃ E' h' v l, Sim W.heap.size W E' h' W ∧ E.le E' ∧ RoH h' ∧ Ext h h' ∧ VR E' v v0 ∧ Sl h' 4 v (tcs l) ∧ TightV v l.length :=
 open_row Th.cs Try.underlying24 cellsOf65 (by decide) (fun a => ⟨rfl, rfl, rfl⟩) open_th s hro hval hd
end
end Go.Proofs.Ytfpfknafcgkcjaa

