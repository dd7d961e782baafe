/- Calls of threads, as they are told; one before another. -/
import Derived.Test.YtgdlplhglpinaaaEventFn
import Derived.Test.YtgdlplhglpinaaaIrD
import Derived.Test.YtgdlplhglpinaaaEventOk
import Derived.OpenShut

set_option linter.unusedVariables false
set_option linter.unusedSimpArgs false
namespace Go.Proofs.Ytgdlplhglpinaaa
open Go Go.Ir

def pr : List (Nat × Prim) := [(Id.sidingslaw08_live, constPrim (.bool true))]
def En : Env := { fn := fun g => tbl.lookup g, prim := fun g => pr.lookup g }
theorem live_c (lo : Nat) (h : Heap) : callR En lo Id.sidingslaw08_live [] h = some (.bool true, h) := callR_iff.2 ⟨1, by kernel_rfl⟩

theorem tidyB {h H : Heap} {n m : Bool} (e : n = m) : Ir.tidy h (.bool n) H = some (.bool m, h) := by subst e; rfl

structure Cl where
  th : Int
  od : Int
  oh : Int
  oo : Int
  on : Int
  rc : Int
  rn : Int
  dn : Bool
  fr : Int
  to : Int
def Cl.cs (c : Cl) : List Value := [.int .i64 c.th, .int .i64 c.od, .int .i64 c.oh, .int .i64 c.oo, .int .i64 c.on, .int .i64 c.rc, .int .i64 c.rn, .bool c.dn, .int .i64 c.fr, .int .i64 c.to]

theorem own_spec (lo : Nat) (h : Heap) (c : Cl) : callR En lo Id.sidingslaw08_own [.agg c.cs.toArray] h = some (.agg c.cs.toArray, h) := callR_iff.2 ⟨60, by kernel_rfl⟩

def befB (a b : Cl) : Bool := a.dn && decide (a.to < b.fr)

theorem before_spec (lo : Nat) (h : Heap) (a b : Cl) : callR En lo Id.event_Before [.agg a.cs.toArray, .agg b.cs.toArray] h = some (.bool (befB a b), h) := by
  rcases a with ⟨a1, a2, a3, a4, a5, a6, a7, dn, fr, to⟩
  cases dn
  · exact callR_iff.2 ⟨60, by kernel_rfl⟩
  · exact callR_iff.2 ⟨60, by kernel_rfl⟩

theorem refBefore_spec (lo : Nat) (h : Heap) (a b : Cl) : callR En lo Id.sidingsref08_Before [.agg a.cs.toArray, .agg b.cs.toArray] h = some (.bool (befB a b), h) := by
  rcases a with ⟨a1, a2, a3, a4, a5, a6, a7, dn, fr, to⟩
  cases dn
  · exact callR_iff.2 ⟨60, by kernel_rfl⟩
  · exact callR_iff.2 ⟨60, by kernel_rfl⟩

theorem bef_run (a b : Cl) : callR En 0 Id.sidingslaw08_EventBefore [.agg a.cs.toArray, .agg b.cs.toArray] [] = some (.bool true, []) := by
  refine call_of rfl Fn.sidingslaw08_EventBefore rfl rfl ?_
  repeat' (first | (show EndsR _ _ _ _ _ _ _; first | refine EndsR.seq ?_ | refine EndsR.reg ?_ | refine EndsR.yes rfl ?_ | refine EndsR.no rfl ?_ | refine EndsR.skip ?_ | refine EndsR.block ?_ | refine EndsR.endB ?_ | refine EndsR.exit rfl ?_ | refine EndsR.br rfl (fun hc => ?_) (fun hc => ?_) | refine EndsR.scope ?_ | refine EndsR.inScope ?_ | refine EndsR.label ?_ | refine EndsR.ret rfl ?_ | refine EndsR.nil rfl ?_) | (show EndsG _ _ _ _ _ _ _ _ _; first | refine EndsG.mov rfl rfl ?_ | refine EndsG.lload rfl rfl rfl rfl ?_ | refine EndsG.laddr rfl rfl rfl ?_ | refine EndsG.lss rfl rfl rfl (fun hc => ?_) (fun hc => ?_) | refine EndsG.leq rfl rfl rfl (fun hc => ?_) (fun hc => ?_) | refine EndsG.gtr rfl rfl rfl (fun hc => ?_) (fun hc => ?_) | refine EndsG.geq rfl rfl rfl (fun hc => ?_) (fun hc => ?_) | refine EndsG.eql rfl rfl rfl (fun hc => ?_) (fun hc => ?_) | refine EndsG.neq rfl rfl rfl (fun hc => ?_) (fun hc => ?_) | refine EndsG.call rfl rfl (own_spec _ _ a) ?_ | refine EndsG.call rfl rfl (own_spec _ _ b) ?_ | refine EndsG.callb rfl rfl (before_spec _ _ a b) (fun hc => ?_) (fun hc => ?_) | refine EndsG.callb rfl rfl (refBefore_spec _ _ a b) (fun hc => ?_) (fun hc => ?_) | refine EndsG.call rfl rfl (live_c _ _) ?_ | refine EndsG.skip rfl ?_ | refine EndsG.fin ?_ | refine EndsG.go rfl rfl rfl ?_ | refine EndsG.gono rfl rfl rfl ?_ | refine EndsG.skipn rfl ?_))
  all_goals first | rfl | simp_all
end Go.Proofs.Ytgdlplhglpinaaa

/- The seat's environment; a call as an argument. -/
set_option linter.unusedVariables false
set_option linter.unusedSimpArgs false
namespace Go.Proofs.Ytgdlplhglpinaaa
open Go Go.Ir Go.ChangeShapes Go.WideShapes

theorem mixed : Try.prog.follows .mixedOrders = true := by kernel_rfl
theorem env0_ok : EnvOk Try.prog env0 := envOk_tbl tbl_ok [] (by simp)
theorem live_run : okB (callW env0 (exF env0 5000) 0 Id.sidingslaw08_live [] []) = true := by kernel_rfl
theorem En_ok : EnvOk Try.prog En := envOk_tbl tbl_ok pr (by
  intro p hp
  obtain rfl : p = (Id.sidingslaw08_live, constPrim (.bool true)) := by simpa [pr] using hp
  exact ⟨constPrim_kp _, closed_true env0_ok mixed (okF live_run)⟩)

theorem cells43 : Try.prog.cellsOf 43 = 10 := by kernel_rfl
theorem cells39 : Try.prog.cellsOf 39 = 4 := by kernel_rfl
theorem cells41 : Try.prog.cellsOf 41 = 2 := by kernel_rfl
theorem cells25 : Try.prog.cellsOf 25 = 1 := by kernel_rfl
theorem cells3 : Try.prog.cellsOf 3 = 1 := by kernel_rfl
theorem cells4 : Try.prog.cellsOf 4 = 1 := by kernel_rfl

theorem take1 {α : Type} (l : List α) {i : Nat} {x : α} (h : (l.drop i).take 1 = [x]) : l[i]? = some x := by
  have := congrArg (·[0]?) h
  simpa using this

section
variable {H : Type} {enc : TypeId × Value → H} {W : World} {base : Nat} {spare : Nat → Bool} {held : Bool} {n : Nat} {cs : List Value} {x : DataW H × List MemPlace}

theorem open_op (h : DataW.trod enc Try.prog W base spare held n 39 cs = some x) : ∃ a b c d : Int, cs = [.int .i64 a, .int .i64 b, .int .i64 c, .int .i64 d] := by
  obtain ⟨xs, m, _, _, hlen, hxl, hf⟩ := DataW.trod_struct Try.underlying39 h
  rw [cells39] at hlen
  have hx : xs.length = 4 := hxl
  have g0 : DataW.trod enc Try.prog W base spare held m 3 ((cs.drop 0).take (Try.prog.cellsOf 3)) = xs[0]? := hf 0 _ rfl
  have g1 : DataW.trod enc Try.prog W base spare held m 3 ((cs.drop 1).take (Try.prog.cellsOf 3)) = xs[1]? := hf 1 _ rfl
  have g2 : DataW.trod enc Try.prog W base spare held m 3 ((cs.drop 2).take (Try.prog.cellsOf 3)) = xs[2]? := hf 2 _ rfl
  have g3 : DataW.trod enc Try.prog W base spare held m 3 ((cs.drop 3).take (Try.prog.cellsOf 3)) = xs[3]? := hf 3 _ rfl
  rw [cells3, List.getElem?_eq_getElem (by omega)] at g0 g1 g2 g3
  obtain ⟨a0, e0, _, _⟩ := DataW.trod_int Try.underlying3 g0
  obtain ⟨a1, e1, _, _⟩ := DataW.trod_int Try.underlying3 g1
  obtain ⟨a2, e2, _, _⟩ := DataW.trod_int Try.underlying3 g2
  obtain ⟨a3, e3, _, _⟩ := DataW.trod_int Try.underlying3 g3
  refine ⟨a0, a1, a2, a3, List.ext_getElem? fun i => ?_⟩
  match i with
  | 0 => exact take1 cs e0
  | 1 => exact take1 cs e1
  | 2 => exact take1 cs e2
  | 3 => exact take1 cs e3
  | i + 4 => rw [List.getElem?_eq_none (by omega)]; rfl

theorem open_res (h : DataW.trod enc Try.prog W base spare held n 41 cs = some x) : ∃ a b : Int, cs = [.int .i64 a, .int .i64 b] := by
  obtain ⟨xs, m, _, _, hlen, hxl, hf⟩ := DataW.trod_struct Try.underlying41 h
  rw [cells41] at hlen
  have hx : xs.length = 2 := hxl
  have g0 : DataW.trod enc Try.prog W base spare held m 25 ((cs.drop 0).take (Try.prog.cellsOf 25)) = xs[0]? := hf 0 _ rfl
  have g1 : DataW.trod enc Try.prog W base spare held m 3 ((cs.drop 1).take (Try.prog.cellsOf 3)) = xs[1]? := hf 1 _ rfl
  rw [cells25, List.getElem?_eq_getElem (by omega)] at g0
  rw [cells3, List.getElem?_eq_getElem (by omega)] at g1
  obtain ⟨a0, e0, _, _⟩ := DataW.trod_int Try.underlying25 g0
  obtain ⟨a1, e1, _, _⟩ := DataW.trod_int Try.underlying3 g1
  refine ⟨a0, a1, List.ext_getElem? fun i => ?_⟩
  match i with
  | 0 => exact take1 cs e0
  | 1 => exact take1 cs e1
  | i + 2 => rw [List.getElem?_eq_none (by omega)]; rfl

theorem drop_get {α : Type} {l s : List α} {o k : Nat} (h : (l.drop o).take k = s) {i : Nat} (hi : i < k) : l[o + i]? = s[i]? := by
  rw [← h, List.getElem?_take, if_pos hi, List.getElem?_drop]

theorem open_cl (h : DataW.trod enc Try.prog W base spare held n 43 cs = some x) : ∃ c : Cl, cs = c.cs := by
  obtain ⟨xs, m, _, _, hlen, hxl, hf⟩ := DataW.trod_struct Try.underlying43 h
  rw [cells43] at hlen
  have hx : xs.length = 6 := hxl
  have g0 : DataW.trod enc Try.prog W base spare held m 3 ((cs.drop 0).take (Try.prog.cellsOf 3)) = xs[0]? := hf 0 _ rfl
  have g1 : DataW.trod enc Try.prog W base spare held m 39 ((cs.drop 1).take (Try.prog.cellsOf 39)) = xs[1]? := hf 1 _ rfl
  have g2 : DataW.trod enc Try.prog W base spare held m 41 ((cs.drop 5).take (Try.prog.cellsOf 41)) = xs[2]? := hf 2 _ rfl
  have g3 : DataW.trod enc Try.prog W base spare held m 4 ((cs.drop 7).take (Try.prog.cellsOf 4)) = xs[3]? := hf 3 _ rfl
  have g4 : DataW.trod enc Try.prog W base spare held m 3 ((cs.drop 8).take (Try.prog.cellsOf 3)) = xs[4]? := hf 4 _ rfl
  have g5 : DataW.trod enc Try.prog W base spare held m 3 ((cs.drop 9).take (Try.prog.cellsOf 3)) = xs[5]? := hf 5 _ rfl
  rw [cells3, List.getElem?_eq_getElem (by omega)] at g0 g4 g5
  rw [cells39, List.getElem?_eq_getElem (by omega)] at g1
  rw [cells41, List.getElem?_eq_getElem (by omega)] at g2
  rw [cells4, List.getElem?_eq_getElem (by omega)] at g3
  obtain ⟨a0, e0, _, _⟩ := DataW.trod_int Try.underlying3 g0
  obtain ⟨b0, b1, b2, b3, e1⟩ := open_op g1
  obtain ⟨c0, c1, e2⟩ := open_res g2
  obtain ⟨a3, e3, _⟩ := DataW.trod_bool Try.underlying4 g3
  obtain ⟨a4, e4, _, _⟩ := DataW.trod_int Try.underlying3 g4
  obtain ⟨a5, e5, _, _⟩ := DataW.trod_int Try.underlying3 g5
  refine ⟨⟨a0, b0, b1, b2, b3, c0, c1, a3, a4, a5⟩, List.ext_getElem? fun i => ?_⟩
  match i with
  | 0 => exact take1 cs e0
  | 1 => exact drop_get (i := 0) e1 (by decide)
  | 2 => exact drop_get (i := 1) e1 (by decide)
  | 3 => exact drop_get (i := 2) e1 (by decide)
  | 4 => exact drop_get (i := 3) e1 (by decide)
  | 5 => exact drop_get (i := 0) e2 (by decide)
  | 6 => exact drop_get (i := 1) e2 (by decide)
  | 7 => exact take1 cs e3
  | 8 => exact take1 cs e4
  | 9 => exact take1 cs e5
  | i + 10 => rw [List.getElem?_eq_none (by omega)]; rfl

theorem open_call {v0 : Value} {d0 : DataW H} {p0 : List MemPlace} {r : Reach} {b : Nat} (hval : Value.okWide Try.prog W r b 43 v0) (h : DataW.Trod enc Try.prog W base spare held 43 v0 d0 p0) : ∃ c : Cl, v0 = .agg c.cs.toArray := by
  simp only [Value.okWide, Try.underlying43] at hval
  obtain ⟨cs, rfl, _, _⟩ := hval
  obtain ⟨n, hn⟩ := h
  obtain ⟨c, hc⟩ := open_cl (cs := cs.toList) (by simpa [Value.cells] using hn)
  exact ⟨c, by rw [← hc]⟩
end
end Go.Proofs.Ytgdlplhglpinaaa
