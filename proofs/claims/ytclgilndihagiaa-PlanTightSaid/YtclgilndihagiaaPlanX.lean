/- The seat's environment: the closed part of the statements is evaluated by the kernel. -/
import Derived.Test.YtclgilndihagiaaPlanOk
import Derived.Test.YtclgilndihagiaaPlanP
import Derived.Test.YtclgilndihagiaaIrD
import Derived.Test.YtclgilndihagiaaPlanQ
import Derived.OpenShut

namespace Go.Proofs.Ytclgilndihagiaa
open Go Go.Ir

theorem mixed : Try.prog.follows .mixedOrders = true := by kernel_rfl
theorem env0_ok : EnvOk Try.prog env0 := envOk_tbl tbl_ok [] (by simp)
theorem live_run : okB (callW env0 (exF env0 5000) 0 Id.sidingslaw17_live [] []) = true := by kernel_rfl
theorem En_ok : EnvOk Try.prog En := envOk_tbl tbl_ok pr (by
  intro p hp
  obtain rfl : p = (Id.sidingslaw17_live, constPrim (.bool true)) := by simpa [pr] using hp
  exact ⟨constPrim_kp _, closed_true env0_ok mixed (okF live_run)⟩)
end Go.Proofs.Ytclgilndihagiaa

/- An argument that is a slice of objects. -/
set_option linter.unusedVariables false
set_option linter.unusedSimpArgs false
namespace Go.Proofs.Ytclgilndihagiaa
open Go Go.Ir Go.ChangeShapes Go.WideShapes

theorem cells40 : Try.prog.cellsOf 40 = 4 := by kernel_rfl
theorem cells3 : Try.prog.cellsOf 3 = 1 := by kernel_rfl
theorem cells4 : Try.prog.cellsOf 4 = 1 := by kernel_rfl

theorem take1 {α : Type} (l : List α) {i : Nat} {x : α} (h : (l.drop i).take 1 = [x]) : l[i]? = some x := by
  have := congrArg (·[0]?) h
  simpa using this

theorem open_obj {H : Type} {enc : TypeId × Value → H} {W : World} {base : Nat} {spare : Nat → Bool} {held : Bool} {n : Nat} {cs : List Value} {x : DataW H × List MemPlace} (h : DataW.trod enc Try.prog W base spare held n 40 cs = some x) : ∃ o : Obj, cs = o.cs := by
  obtain ⟨xs, m, _, _, hlen, hxl, hf⟩ := DataW.trod_struct Try.underlying40 h
  rw [cells40] at hlen
  have g0 : DataW.trod enc Try.prog W base spare held m 3 ((cs.drop 0).take (Try.prog.cellsOf 3)) = xs[0]? := hf 0 _ rfl
  have g1 : DataW.trod enc Try.prog W base spare held m 3 ((cs.drop 1).take (Try.prog.cellsOf 3)) = xs[1]? := hf 1 _ rfl
  have g2 : DataW.trod enc Try.prog W base spare held m 3 ((cs.drop 2).take (Try.prog.cellsOf 3)) = xs[2]? := hf 2 _ rfl
  have g3 : DataW.trod enc Try.prog W base spare held m 4 ((cs.drop 3).take (Try.prog.cellsOf 4)) = xs[3]? := hf 3 _ rfl
  rw [cells3] at g0 g1 g2
  rw [cells4] at g3
  have hx : xs.length = 4 := hxl
  rw [List.getElem?_eq_getElem (by omega)] at g0 g1 g2 g3
  obtain ⟨a0, e0, _, _⟩ := DataW.trod_int Try.underlying3 g0
  obtain ⟨a1, e1, _, _⟩ := DataW.trod_int Try.underlying3 g1
  obtain ⟨a2, e2, _, _⟩ := DataW.trod_int Try.underlying3 g2
  obtain ⟨a3, e3, _⟩ := DataW.trod_bool Try.underlying4 g3
  refine ⟨⟨a0, a1, a2, a3⟩, ?_⟩
  have f0 := take1 cs e0
  have f1 := take1 cs e1
  have f2 := take1 cs e2
  have f3 := take1 cs e3
  refine List.ext_getElem? fun i => ?_
  match i with
  | 0 => exact f0
  | 1 => exact f1
  | 2 => exact f2
  | 3 => exact f3
  | i + 4 => rw [List.getElem?_eq_none (by omega)]; rfl

theorem open_objs {H : Type} {enc : TypeId × Value → H} {W : World} {base : Nat} {v0 : Value} {d0 : DataW H} {p0 : List MemPlace} (hval : Value.okWide Try.prog W .any base 22 v0) (h : DataW.Trod enc Try.prog W 0 (fun _ => true) true 22 v0 d0 p0) :
    ∃ E hp v l, Sim W.heap.size W E hp W ∧ VR E v v0 ∧ Sl hp 4 v (css l) := by
  obtain ⟨p, len, cap, rfl⟩ := okWide_slice Try.underlying22 hval
  obtain ⟨n, hn⟩ := h
  rcases Deep.open_slice Try.underlying22 hn with ⟨hc, _⟩ | ⟨a, len', cap', m, k, D, Pl, hc, _, hlc, _, hm, _, hX⟩
  · have hc : Value.slice p len cap = .slice none 0 0 := by simpa [Value.cells] using hc
    injection hc with e1 e2 e3
    subst e1 e2 e3
    exact ⟨fun _ => none, [], .slice none 0 0, [], sim_nil W, .slice0, fun e he => (by cases he), .inl ⟨rfl, none, 0, rfl⟩⟩
  · have hc : Value.slice p len cap = .slice (some a) len' cap' := by simpa [Value.cells] using hc
    injection hc with e1 e2 e3
    subst e1 e2 e3
    have hm : m = cap := by simpa using hm
    subst hm
    simp only [cells40] at hX
    obtain ⟨X, hXX⟩ := Deep.choose_lt (α := List Value) (n := len) (p := fun i cs => (∃ o : Obj, cs = o.cs) ∧ ∀ j, j < 4 → W.cell? (a.add (i * 4 + j)) = cs[j]?) (fun i hi => by
      obtain ⟨cs', g1, g2⟩ := hX i (by omega)
      obtain ⟨_, _, g3⟩ := World.cells?_some g1
      refine ⟨cs', open_obj g2, fun j hj => ?_⟩
      have := g3 j hj
      rw [Deep.add_add] at this
      exact this)
    haveI : Inhabited Obj := ⟨dflt⟩
    obtain ⟨O, hO⟩ := Deep.choose_lt (α := Obj) (n := len) (p := fun i o => X i = o.cs) (fun i hi => (hXX i hi).1)
    obtain ⟨E, hp, v, s1, s2, s3⟩ := arg_slice (W := W) (a := a) (len := len) (cap := m) (n := 4) hlc X (by decide) (fun i hi => by rw [hO i hi]; exact ⟨rfl, rfl, rfl⟩) (fun i j hi hj => (hXX i hi).2 j hj)
    refine ⟨E, hp, v, (List.range len).map O, s1, s2, ?_⟩
    have : css ((List.range len).map O) = (List.range len).map X := by
      unfold css
      rw [List.map_map]
      exact List.map_congr_left fun i hi => (hO i (by simpa using hi)).symm
    rw [this]
    exact s3
end Go.Proofs.Ytclgilndihagiaa
