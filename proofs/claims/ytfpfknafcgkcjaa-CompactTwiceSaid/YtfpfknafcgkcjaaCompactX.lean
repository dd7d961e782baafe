/- What laid objects cost a pass alone. Plain. -/
import Derived.Test.YtfpfknafcgkcjaaCompactW
import Derived.Test.YtfpfknafcgkcjaaCompactE
import Derived.Test.YtfpfknafcgkcjaaCompactV

set_option linter.unusedVariables false
set_option linter.unusedSimpArgs false
namespace Go.Proofs.Ytfpfknafcgkcjaa
open Go Go.Ir

theorem fillB_len (bs : List Int) (a : Nat) (f : Int) : ∀ k, (fillB bs a f k).length = bs.length
 | 0 => rfl
 | k + 1 => by rw [fillB, setI_len, fillB_len]

structure Laid (c : Cfg) (i : Nat) (s : LaySt) : Prop where
 wl : s.ws.length = (wordsI c).toNat
 zero : ∀ k : Int, (i : Int) ≤ k → k < c.S → getI s.ws (slotI c k 0) = 0
 cost : pS c s.ws c.S.toNat = oS s.ob
 size : ∀ o ∈ s.ob, 8 ≤ o.n ∧ o.n ≤ 256
 len : s.ob.length = i
 ep : getI s.ws 3 = 0

end Go.Proofs.Ytfpfknafcgkcjaa

/- A pass alone ends: the law's run. -/
set_option linter.unusedVariables false
set_option linter.unusedSimpArgs false
namespace Go.Proofs.Ytfpfknafcgkcjaa
open Go Go.Ir

theorem th_block {h : Heap} {v : Value} {l : List Th} (hv : Sl h 4 v (tcs l)) (h0 : 0 < l.length) : ∀ a len cap, v = .slice (some a) len cap → a.block < h.length := by
 intro a len cap e
 obtain ⟨a', cap', e', hld⟩ := th_cells hv h0
 rw [e] at e'
 injection e' with e1 e2 e3
 injection e1 with e1
 subst e1
 have := (hld 0 _ (List.getElem?_eq_getElem h0)).1
 simp only [loadV, ld1, hrow] at this
 exact Decidable.byContradiction fun hn => by
  rw [List.getElem?_eq_none (by omega)] at this
  cases this

theorem mc_inv (m : Mc) (ws bs : List Int) (h : Al ws m ∧ m.next ≠ 0) : m.wf ∧ m.next ≠ 0 ∧ ((stepM m ws bs).1.2 = none → Al (stepM m ws bs).2.1 (stepM m ws bs).1.1 ∧ (stepM m ws bs).1.1.next ≠ 0) :=
 ⟨h.1.wf, h.2, fun hr => by
   obtain ⟨b, _, hg⟩ := step_good bs h.1 h.2
   exact ⟨(hg.1 hr).1, (hg.1 hr).2.1⟩⟩

end Go.Proofs.Ytfpfknafcgkcjaa

/- Things as an argument. -/
set_option linter.unusedVariables false
set_option linter.unusedSimpArgs false
set_option linter.constructorNameAsVariable false
namespace Go.Proofs.Ytfpfknafcgkcjaa
open Go Go.Ir Go.ChangeShapes Go.WideShapes

theorem cellsOf65 : Try.prog.cellsOf 65 = 4 := by kernel_rfl
theorem open_T65 {H : Type} {enc : TypeId × Value → H} {W : World} {base : Nat} {spare : Nat → Bool} {held : Bool} {n : Nat} {cs : List Value} {x : DataW H × List MemPlace} (h : DataW.trod enc Try.prog W base spare held n 65 cs = some x) :
  ∃ (a0 : Int) (a1 : Int) (a2 : Int) (a3 : Int), cs = [.int .i64 a0, .int .i64 a1, .int .i64 a2, .int .i64 a3] := by
 obtain ⟨xs, m, _, _, hlen, hxl, hf⟩ := DataW.trod_struct Try.underlying65 h
 rw [cellsOf65] at hlen
 have hx : xs.length = 4 := hxl
 have g0 : DataW.trod enc Try.prog W base spare held m 3 ((cs.drop 0).take (Try.prog.cellsOf 3)) = xs[0]? := hf 0 _ rfl
 rw [cellsOf3, List.getElem?_eq_getElem (by omega)] at g0
 have g1 : DataW.trod enc Try.prog W base spare held m 3 ((cs.drop 1).take (Try.prog.cellsOf 3)) = xs[1]? := hf 1 _ rfl
 rw [cellsOf3, List.getElem?_eq_getElem (by omega)] at g1
 have g2 : DataW.trod enc Try.prog W base spare held m 3 ((cs.drop 2).take (Try.prog.cellsOf 3)) = xs[2]? := hf 2 _ rfl
 rw [cellsOf3, List.getElem?_eq_getElem (by omega)] at g2
 have g3 : DataW.trod enc Try.prog W base spare held m 3 ((cs.drop 3).take (Try.prog.cellsOf 3)) = xs[3]? := hf 3 _ rfl
 rw [cellsOf3, List.getElem?_eq_getElem (by omega)] at g3
 obtain ⟨b0, e0, _, _⟩ := DataW.trod_int Try.underlying3 g0
 obtain ⟨b1, e1, _, _⟩ := DataW.trod_int Try.underlying3 g1
 obtain ⟨b2, e2, _, _⟩ := DataW.trod_int Try.underlying3 g2
 obtain ⟨b3, e3, _, _⟩ := DataW.trod_int Try.underlying3 g3
 refine ⟨b0, b1, b2, b3, List.ext_getElem? fun i => ?_⟩
 match i with
 | 0 => exact take1 cs e0
 | 1 => exact take1 cs e1
 | 2 => exact take1 cs e2
 | 3 => exact take1 cs e3
 | i + 4 => rw [List.getElem?_eq_none (by omega)]; rfl



section
variable {H : Type} {enc : TypeId × Value → H} {W : World} {base : Nat} {spare : Nat → Bool} {held : Bool} {n : Nat} {cs : List Value} {x : DataW H × List MemPlace}
theorem open_th (h : DataW.trod enc Try.prog W base spare held n 65 cs = some x) : ∃ t : Th, cs = t.cs := by
 obtain ⟨a0, a1, a2, a3, rfl⟩ := open_T65 h
 exact ⟨⟨a0, a1, a2, a3⟩, rfl⟩
instance : Inhabited Th := ⟨⟨0, 0, 0, 0⟩⟩
set_option maxRecDepth 8000 in
theorem open_ths {E : Emb} {h : Heap} (s : Sim W.heap.size W E h W) (hro : RoH h) {b0 : Nat} {r : Reach} {v0 : Value} {d0 : DataW H} {p0 : List MemPlace} (hval : Value.okWide Try.prog W r b0 24 v0) (hd : DataW.Trod enc Try.prog W base spare held 24 v0 d0 p0) :
  ∃ E' h' v l, Sim W.heap.size W E' h' W ∧ E.le E' ∧ RoH h' ∧ Ext h h' ∧ VR E' v v0 ∧ Sl h' 4 v (tcs l) ∧ TightV v l.length :=
 open_row Th.cs Try.underlying24 cellsOf65 (by decide) (fun a => ⟨rfl, rfl, rfl⟩) open_th s hro hval hd
end
end Go.Proofs.Ytfpfknafcgkcjaa

