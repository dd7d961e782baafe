/- What laid objects cost a pass alone. Plain. -/
import Derived.Test.YtfpfknafcgkcjaaGreatAloneW
import Derived.Test.YtfpfknafcgkcjaaGreatAloneE
import Derived.Test.YtfpfknafcgkcjaaGreatAloneV

set_option linter.unusedVariables false
set_option linter.unusedSimpArgs false
namespace Go.Proofs.YtfpfknafcgkcjaaGreat
open Go Go.Ir

theorem fillB_len (bs : List Int) (a : Nat) (f : Int) : ∀ k, (fillB bs a f k).length = bs.length
 | 0 => rfl
 | k + 1 => by rw [fillB, setI_len, fillB_len]

structure Laid (c : Cfg) (i : Nat) (s : LaySt) : Prop where
 wl : s.ws.length = (wordsI c).toNat
 zero : ∀ k : Int, (i : Int) ≤ k → k < c.S → getI s.ws (slotI c k 0) = 0
 cost : pS c s.ws c.S.toNat = oS s.ob
 size : ∀ o ∈ s.ob, 8 ≤ o.n ∧ o.n ≤ 256
 len : s.ob.length = i
 ep : getI s.ws 3 = 0

end Go.Proofs.YtfpfknafcgkcjaaGreat

/- Laid objects: small facts. -/
set_option linter.unusedVariables false
set_option linter.unusedSimpArgs false
namespace Go.Proofs.YtfpfknafcgkcjaaGreat
open Go Go.Ir

theorem th_block {h : Heap} {v : Value} {l : List Th} (hv : Sl h 4 v (tcs l)) (h0 : 0 < l.length) : ∀ a len cap, v = .slice (some a) len cap → a.block < h.length := by
 intro a len cap e
 obtain ⟨a', cap', e', hld⟩ := th_cells hv h0
 rw [e] at e'
 injection e' with e1 e2 e3
 injection e1 with e1
 subst e1
 have := (hld 0 _ (List.getElem?_eq_getElem h0)).1
 simp only [loadV, ld1, hrow] at this
 exact Decidable.byContradiction fun hn => by
  rw [List.getElem?_eq_none (by omega)] at this
  cases this

theorem mc_inv (m : Mc) (ws bs : List Int) (h : Al ws m ∧ m.next ≠ 0) : m.wf ∧ m.next ≠ 0 ∧ ((stepM m ws bs).1.2 = none → Al (stepM m ws bs).2.1 (stepM m ws bs).1.1 ∧ (stepM m ws bs).1.1.next ≠ 0) :=
 ⟨h.1.wf, h.2, fun hr => by
   obtain ⟨b, _, hg⟩ := step_good bs h.1 h.2
   exact ⟨(hg.1 hr).1, (hg.1 hr).2.1⟩⟩

end Go.Proofs.YtfpfknafcgkcjaaGreat

/- Whether a pass lowered the frontier. -/
set_option linter.unusedVariables false
set_option linter.unusedSimpArgs false
namespace Go.Proofs.YtfpfknafcgkcjaaGreat
open Go Go.Ir

theorem lowered_spec {lo : Nat} {H : Heap} {own : List Nat} {M : Nat} {m : Mc} {ov tv : Value} (h : McAt H own M m ov tv) : callR En lo Id.compact_Machine_Lowered [ptrB M] H = some (.bool m.low, H) := by
 have l86 : loadV H none ⟨M, 0 + 86, none⟩ = some (.bool m.low) := ld_row h.row rfl
 refine call_of rfl Fn.compact_Machine_Lowered rfl rfl ?_
 repeat' (first | (show ER _ _ _ _ _ _ _; first | refine .seq ?_ | refine .reg ?_ | refine .yes rfl ?_ | refine .no rfl ?_ | refine .skip ?_ | refine .block ?_ | refine .endB ?_ | refine .exit rfl ?_ | refine .br rfl (fun hc => ?_) (fun hc => ?_) | refine .scope ?_ | refine .inScope ?_ | refine .label ?_ | refine .ret rfl ?_ | refine .nil rfl ?_) | (show EG _ _ _ _ _ _ _ _ _; first | refine .mov rfl rfl ?_ | refine .lload rfl rfl rfl rfl ?_ | refine .laddr rfl rfl rfl ?_ | (show EG _ _ (⟨_, .bin _ _ _, _, _⟩ :: _) _ _ _ _ _ _; first | refine .lss rfl rfl rfl (fun hc => ?_) (fun hc => ?_) | refine .leq rfl rfl rfl (fun hc => ?_) (fun hc => ?_) | refine .gtr rfl rfl rfl (fun hc => ?_) (fun hc => ?_) | refine .geq rfl rfl rfl (fun hc => ?_) (fun hc => ?_) | refine .eql rfl rfl rfl (fun hc => ?_) (fun hc => ?_) | refine .neq rfl rfl rfl (fun hc => ?_) (fun hc => ?_)) | refine .load rfl rfl (l86) ?_ | refine .skip rfl ?_ | refine .fin ?_ | refine .go rfl rfl rfl ?_ | refine .gono rfl rfl rfl ?_ | refine .skipn rfl ?_))
 rfl

end Go.Proofs.YtfpfknafcgkcjaaGreat

/- Things as an argument. -/
set_option linter.unusedVariables false
set_option linter.unusedSimpArgs false
set_option linter.constructorNameAsVariable false
namespace Go.Proofs.YtfpfknafcgkcjaaGreat
open Go Go.Ir Go.ChangeShapes Go.WideShapes

theorem cellsOf50 : Tryz.prog.cellsOf 50 = 4 := by kernel_rfl
theorem open_T50 {H : Type} {enc : TypeId × Value → H} {W : World} {base : Nat} {spare : Nat → Bool} {held : Bool} {n : Nat} {cs : List Value} {x : DataW H × List MemPlace} (h : DataW.trod enc Tryz.prog W base spare held n 50 cs = some x) :
  ∃ (a0 : Int) (a1 : Int) (a2 : Int) (a3 : Int), cs = [.int .i64 a0, .int .i64 a1, .int .i64 a2, .int .i64 a3] := by
 obtain ⟨xs, m, _, _, hlen, hxl, hf⟩ := DataW.trod_struct Tryz.underlying50 h
 rw [cellsOf50] at hlen
 have hx : xs.length = 4 := hxl
 have g0 : DataW.trod enc Tryz.prog W base spare held m 3 ((cs.drop 0).take (Tryz.prog.cellsOf 3)) = xs[0]? := hf 0 _ rfl
 rw [cellsOf3, List.getElem?_eq_getElem (by omega)] at g0
 have g1 : DataW.trod enc Tryz.prog W base spare held m 3 ((cs.drop 1).take (Tryz.prog.cellsOf 3)) = xs[1]? := hf 1 _ rfl
 rw [cellsOf3, List.getElem?_eq_getElem (by omega)] at g1
 have g2 : DataW.trod enc Tryz.prog W base spare held m 3 ((cs.drop 2).take (Tryz.prog.cellsOf 3)) = xs[2]? := hf 2 _ rfl
 rw [cellsOf3, List.getElem?_eq_getElem (by omega)] at g2
 have g3 : DataW.trod enc Tryz.prog W base spare held m 3 ((cs.drop 3).take (Tryz.prog.cellsOf 3)) = xs[3]? := hf 3 _ rfl
 rw [cellsOf3, List.getElem?_eq_getElem (by omega)] at g3
 obtain ⟨b0, e0, _, _⟩ := DataW.trod_int Tryz.underlying3 g0
 obtain ⟨b1, e1, _, _⟩ := DataW.trod_int Tryz.underlying3 g1
 obtain ⟨b2, e2, _, _⟩ := DataW.trod_int Tryz.underlying3 g2
 obtain ⟨b3, e3, _, _⟩ := DataW.trod_int Tryz.underlying3 g3
 refine ⟨b0, b1, b2, b3, List.ext_getElem? fun i => ?_⟩
 match i with
 | 0 => exact take1 cs e0
 | 1 => exact take1 cs e1
 | 2 => exact take1 cs e2
 | 3 => exact take1 cs e3
 | i + 4 => rw [List.getElem?_eq_none (by omega)]; rfl



section
variable {H : Type} {enc : TypeId × Value → H} {W : World} {base : Nat} {spare : Nat → Bool} {held : Bool} {n : Nat} {cs : List Value} {x : DataW H × List MemPlace}
theorem open_th (h : DataW.trod enc Tryz.prog W base spare held n 50 cs = some x) : ∃ t : Th, cs = t.cs := by
 obtain ⟨a0, a1, a2, a3, rfl⟩ := open_T50 h
 exact ⟨⟨a0, a1, a2, a3⟩, rfl⟩
instance : Inhabited Th := ⟨⟨0, 0, 0, 0⟩⟩
set_option maxRecDepth 8000 in
theorem open_ths {E : Emb} {h : Heap} (s : Sim W.heap.size W E h W) (hro : RoH h) {b0 : Nat} {r : Reach} {v0 : Value} {d0 : DataW H} {p0 : List MemPlace} (hval : Value.okWide Tryz.prog W r b0 24 v0) (hd : DataW.Trod enc Tryz.prog W base spare held 24 v0 d0 p0) :
  ∃ E' h' v l, Sim W.heap.size W E' h' W ∧ E.le E' ∧ RoH h' ∧ Ext h h' ∧ VR E' v v0 ∧ Sl h' 4 v (tcs l) ∧ TightV v l.length :=
 open_row Th.cs Tryz.underlying24 cellsOf50 (by decide) (fun a => ⟨rfl, rfl, rfl⟩) open_th s hro hval hd
end
end Go.Proofs.YtfpfknafcgkcjaaGreat

