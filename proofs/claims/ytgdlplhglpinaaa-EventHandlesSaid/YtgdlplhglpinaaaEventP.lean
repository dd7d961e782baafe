/- Calls of threads, as they are told; one before another. -/
import Derived.Test.YtgdlplhglpinaaaEventFn
import Derived.Test.YtgdlplhglpinaaaIrD
import Derived.Test.YtgdlplhglpinaaaEventOk
import Derived.Test.YtgdlplhglpinaaaEventShelf

set_option linter.unusedVariables false
set_option linter.unusedSimpArgs false
namespace Go.Proofs.Ytgdlplhglpinaaa
open Go Go.Ir

def pr : List (Nat × Prim) := [(Id.sidingslaw08_live, constPrim (.bool true)), (Id.slices_Sort_Lint, sortPrim)]
def En : Env := { fn := fun g => tbl.lookup g, prim := fun g => pr.lookup g }
theorem live_c (lo : Nat) (h : Heap) : callR En lo Id.sidingslaw08_live [] h = some (.bool true, h) := callR_iff.2 ⟨1, by kernel_rfl⟩

theorem tidyB {h H : Heap} {n m : Bool} (e : n = m) : Ir.tidy h (.bool n) H = some (.bool m, h) := by subst e; rfl

structure Cl where
  th : Int
  od : Int
  oh : Int
  oo : Int
  on : Int
  rc : Int
  rn : Int
  dn : Bool
  fr : Int
  to : Int
def Cl.cs (c : Cl) : List Value := [.int .i64 c.th, .int .i64 c.od, .int .i64 c.oh, .int .i64 c.oo, .int .i64 c.on, .int .i64 c.rc, .int .i64 c.rn, .bool c.dn, .int .i64 c.fr, .int .i64 c.to]

theorem own_spec (lo : Nat) (h : Heap) (c : Cl) : callR En lo Id.sidingslaw08_own [.agg c.cs.toArray] h = some (.agg c.cs.toArray, h) := callR_iff.2 ⟨60, by kernel_rfl⟩

def befB (a b : Cl) : Bool := a.dn && decide (a.to < b.fr)

theorem before_spec (lo : Nat) (h : Heap) (a b : Cl) : callR En lo Id.event_Before [.agg a.cs.toArray, .agg b.cs.toArray] h = some (.bool (befB a b), h) := by
  rcases a with ⟨a1, a2, a3, a4, a5, a6, a7, dn, fr, to⟩
  cases dn
  · exact callR_iff.2 ⟨60, by kernel_rfl⟩
  · exact callR_iff.2 ⟨60, by kernel_rfl⟩

theorem refBefore_spec (lo : Nat) (h : Heap) (a b : Cl) : callR En lo Id.sidingsref08_Before [.agg a.cs.toArray, .agg b.cs.toArray] h = some (.bool (befB a b), h) := by
  rcases a with ⟨a1, a2, a3, a4, a5, a6, a7, dn, fr, to⟩
  cases dn
  · exact callR_iff.2 ⟨60, by kernel_rfl⟩
  · exact callR_iff.2 ⟨60, by kernel_rfl⟩

theorem bef_run (a b : Cl) : callR En 0 Id.sidingslaw08_EventBefore [.agg a.cs.toArray, .agg b.cs.toArray] [] = some (.bool true, []) := by
  refine call_of rfl Fn.sidingslaw08_EventBefore rfl rfl ?_
  repeat' (first | (show EndsR _ _ _ _ _ _ _; first | refine EndsR.seq ?_ | refine EndsR.reg ?_ | refine EndsR.yes rfl ?_ | refine EndsR.no rfl ?_ | refine EndsR.skip ?_ | refine EndsR.block ?_ | refine EndsR.endB ?_ | refine EndsR.exit rfl ?_ | refine EndsR.br rfl (fun hc => ?_) (fun hc => ?_) | refine EndsR.scope ?_ | refine EndsR.inScope ?_ | refine EndsR.label ?_ | refine EndsR.ret rfl ?_ | refine EndsR.nil rfl ?_) | (show EndsG _ _ _ _ _ _ _ _ _; first | refine EndsG.mov rfl rfl ?_ | refine EndsG.lload rfl rfl rfl rfl ?_ | refine EndsG.laddr rfl rfl rfl ?_ | (show EndsG _ _ (⟨_, .bin _ _ _, _, _⟩ :: _) _ _ _ _ _ _; first | refine EndsG.lss rfl rfl rfl (fun hc => ?_) (fun hc => ?_) | refine EndsG.leq rfl rfl rfl (fun hc => ?_) (fun hc => ?_) | refine EndsG.gtr rfl rfl rfl (fun hc => ?_) (fun hc => ?_) | refine EndsG.geq rfl rfl rfl (fun hc => ?_) (fun hc => ?_) | refine EndsG.eql rfl rfl rfl (fun hc => ?_) (fun hc => ?_) | refine EndsG.neq rfl rfl rfl (fun hc => ?_) (fun hc => ?_)) | (show EndsG _ _ (⟨_, .call _ _, _, _⟩ :: _) _ _ _ _ _ _; first | refine EndsG.call rfl rfl (own_spec _ _ a) ?_ | refine EndsG.call rfl rfl (own_spec _ _ b) ?_ | refine EndsG.callb rfl rfl (before_spec _ _ a b) (fun hc => ?_) (fun hc => ?_) | refine EndsG.callb rfl rfl (refBefore_spec _ _ a b) (fun hc => ?_) (fun hc => ?_) | refine EndsG.call rfl rfl (live_c _ _) ?_) | refine EndsG.skip rfl ?_ | refine EndsG.fin ?_ | refine EndsG.go rfl rfl rfl ?_ | refine EndsG.gono rfl rfl rfl ?_ | refine EndsG.skipn rfl ?_))
  all_goals first | rfl | simp_all
end Go.Proofs.Ytgdlplhglpinaaa

/- The calls of any events, as the program tells them. -/
set_option linter.unusedVariables false
set_option linter.unusedSimpArgs false
namespace Go.Proofs.Ytgdlplhglpinaaa
open Go Go.Ir

abbrev N (n : Nat) : Value := .int .i64 (n : Int)

structure Ev where
  th : Int
  bk : Bool
  d : Int
  h : Int
  o : Int
  n : Int
  rc : Int
  rn : Int
def Ev.cs (e : Ev) : List Value := [.int .i64 e.th, .bool e.bk, .int .i64 e.d, .int .i64 e.h, .int .i64 e.o, .int .i64 e.n, .int .i64 e.rc, .int .i64 e.rn]
def ecs (l : List Ev) : List (List Value) := l.map Ev.cs
def ccs (l : List Cl) : List (List Value) := l.map Cl.cs

theorem ecs_len (l : List Ev) : ∀ e ∈ ecs l, e.length = 8 := by
  intro e he
  obtain ⟨x, _, rfl⟩ := List.mem_map.1 he
  rfl
theorem ccs_len (l : List Cl) : ∀ e ∈ ccs l, e.length = 10 := by
  intro e he
  obtain ⟨x, _, rfl⟩ := List.mem_map.1 he
  rfl
theorem ccs_flat (l : List Cl) : ∀ e ∈ ccs l, e.all flat1 = true := by
  intro e he
  obtain ⟨x, _, rfl⟩ := List.mem_map.1 he
  rfl
theorem ecs_length (l : List Ev) : (ecs l).length = l.length := by simp [ecs]
theorem ccs_length (l : List Cl) : (ccs l).length = l.length := by simp [ccs]
theorem ecs_get {l : List Ev} {i : Nat} {x : Ev} (h : l[i]? = some x) : (ecs l)[i]? = some x.cs := by simp [ecs, h]
theorem ccs_get {l : List Cl} {i : Nat} {x : Cl} (h : l[i]? = some x) : (ccs l)[i]? = some x.cs := by simp [ccs, h]
theorem ccs_app (l : List Cl) (x : Cl) : ccs l ++ [x.cs] = ccs (l ++ [x]) := by simp [ccs]

def Ev.zo (e : Ev) : Bool := e.d == 0 && (e.h == 0 && (e.o == 0 && (e.n == 0 && true)))
def Ev.zr (e : Ev) : Bool := e.rc == 0 && (e.rn == 0 && true)
def okE (W : List Nat) (e : Ev) : Bool := decide (0 ≤ e.th) && decide (e.th < 4) && (e.bk == decide (0 < W.getD e.th.toNat 0)) && (if e.bk then e.zo else e.zr)
def askC (e : Ev) (i n : Nat) : Cl := ⟨e.th, e.d, e.h, e.o, e.n, 0, 0, false, i, n⟩
def ansC (c : Cl) (e : Ev) (i : Nat) : Cl := { c with rc := e.rc, rn := e.rn, dn := true, to := i }

def runE (n : Nat) : List Ev → Nat → List Cl → List Nat → Option (List Cl)
  | [], i, C, W => some C
  | e :: r, i, C, W =>
    if okE W e then
      if e.bk then runE n r (i + 1) (C.modify (W.getD e.th.toNat 0 - 1) (ansC · e i)) (W.set e.th.toNat 0)
      else runE n r (i + 1) (C ++ [askC e i n]) (W.set e.th.toNat (C.length + 1))
    else none
def callsP (l : List Ev) : Option (List Cl) := runE l.length l 0 [] [0, 0, 0, 0]

def callsV (h : Heap) : Option (List Cl) → Value × Heap
  | none => (.tuple #[.slice none 0 0, .int .i64 2], h)
  | some C => (.tuple #[(made h 10 (ccs C)).1, .int .i64 0], (made h 10 (ccs C)).2)

/-- What the program's waits are worth. -/
structure WaitOk (C : List Cl) (W : List Nat) : Prop where
  four : W.length = 4
  low : ∀ w ∈ W, w ≤ C.length

end Go.Proofs.Ytgdlplhglpinaaa

/- The calls of any events: the run. -/
set_option linter.unusedVariables false
set_option linter.unusedSimpArgs false
namespace Go.Proofs.Ytgdlplhglpinaaa
open Go Go.Ir

theorem tidyT {h H : Heap} : Ir.tidy h (.tuple #[.slice none 0 0, .int .i64 2]) H = some (callsV h none) := rfl

theorem ccs_ne {C : List Cl} (h : 0 < C.length) : ccs C ≠ [] := fun e => by have := congrArg List.length e; rw [ccs_length, List.length_nil] at this; omega

def wrow (W : List Nat) : Blk := .row (W.map N) false

theorem getD_get {W : List Nat} {t : Nat} (h : t < W.length) : W[t]? = some (W.getD t 0) := by
  rw [List.getD_eq_getElem?_getD, List.getElem?_eq_getElem h]
  rfl

theorem wrow_set {W : List Nat} {t n : Nat} (h : t < W.length) : splice (W.map N) t (vcells (N n)) = (W.set t n).map N := by
  unfold splice vcells
  simp only [List.length_singleton]
  rw [List.map_set, List.set_eq_take_append_cons_drop]
  simp [h]

theorem ccs_set {C : List Cl} {i : Nat} {c : Cl} : (ccs C).set i c.cs = ccs (C.set i c) := by simp [ccs, List.map_set]
theorem modify_set {C : List Cl} {i : Nat} {c : Cl} {f : Cl → Cl} (h : C[i]? = some c) : C.modify i f = C.set i (f c) := by
  refine List.ext_getElem? fun j => ?_
  rw [List.getElem?_modify, List.getElem?_set]
  by_cases hj : i = j
  · subst hj
    have := (List.getElem?_eq_some_iff.1 h).1
    rw [if_pos rfl, if_pos this, h]; simp
  · rw [if_neg hj]; simp [hj]

theorem cl_store {lo : Nat} {H : Heap} {b w o : Nat} {C : List Cl} {c c' : Cl} {vs : List Value} (hb : H[b]? = some (.row (ccs C).flatten false)) (hlo : lo ≤ b) (hc : C[w]? = some c) (ho : o + vs.length ≤ 10) (hs : splice c.cs o vs = c'.cs) :
    stN lo H ⟨b, 0 + w * 10 + o, none⟩ vs = some (H.set b (.row (ccs (C.set w c')).flatten false)) := by
  rw [Nat.zero_add, st_el hb hlo (ccs_len C) (ccs_get hc) ho, hs, ccs_set]
theorem w_store {lo : Nat} {H : Heap} {b t n : Nat} {W : List Nat} (hb : H[b]? = some (wrow W)) (hlo : lo ≤ b) (ht : t < W.length) : stN lo H ⟨b, 0 + t * 1, none⟩ (vcells (N n)) = some (H.set b (wrow (W.set t n))) := by
  rw [Nat.zero_add, Nat.mul_one]
  refine st_row hb hlo ?_ (wrow_set ht)
  simp [vcells]; omega

theorem WaitOk.set {C C' : List Cl} {W : List Nat} {t n : Nat} (h : WaitOk C W) (hl : C.length ≤ C'.length) (hn : n ≤ C'.length) : WaitOk C' (W.set t n) := by
  refine ⟨by rw [List.length_set]; exact h.four, fun w hw => ?_⟩
  rcases List.mem_or_eq_of_mem_set hw with h1 | h1
  · exact Nat.le_trans (h.low w h1) hl
  · omega

set_option maxHeartbeats 1600000 in
theorem calls_spec (lo : Nat) {h : Heap} {v : Value} {l : List Ev} (hv : Sl h 8 v (ecs l)) (hl : l.length ≤ 1000) :
    callR En lo Id.event_Calls [v] h = some (callsV h (callsP l)) := by
  refine Exists.elim hv.len fun base hq => Exists.elim hq fun cap hve => ?_
  rw [ecs_length] at hve
  refine call_scr rfl Fn.event_Calls rfl rfl ?_
  rw [hve] at hv ⊢
  repeat' (first | (show EndsR _ _ _ _ _ _ _; first | refine EndsR.seq ?_ | refine EndsR.reg ?_ | refine EndsR.yes rfl ?_ | refine EndsR.no rfl ?_ | refine EndsR.skip ?_ | refine EndsR.block ?_ | refine EndsR.endB ?_ | refine EndsR.exit rfl ?_ | refine EndsR.br rfl (fun hc => ?_) (fun hc => ?_) | refine EndsR.scope ?_ | refine EndsR.inScope ?_ | refine EndsR.label ?_ | refine EndsR.ret rfl ?_ | refine EndsR.nil rfl ?_) | (show EndsG _ _ _ _ _ _ _ _ _; first | refine EndsG.mov rfl rfl ?_ | refine EndsG.lload rfl rfl rfl rfl ?_ | refine EndsG.laddr rfl rfl rfl ?_ | (show EndsG _ _ (⟨_, .bin _ _ _, _, _⟩ :: _) _ _ _ _ _ _; first | refine EndsG.lss rfl rfl rfl (fun hc => ?_) (fun hc => ?_) | refine EndsG.leq rfl rfl rfl (fun hc => ?_) (fun hc => ?_) | refine EndsG.gtr rfl rfl rfl (fun hc => ?_) (fun hc => ?_) | refine EndsG.geq rfl rfl rfl (fun hc => ?_) (fun hc => ?_) | refine EndsG.eql rfl rfl rfl (fun hc => ?_) (fun hc => ?_) | refine EndsG.neq rfl rfl rfl (fun hc => ?_) (fun hc => ?_)) | refine EndsG.skip rfl ?_ | refine EndsG.fin ?_ | refine EndsG.go rfl rfl rfl ?_ | refine EndsG.gono rfl rfl rfl ?_ | refine EndsG.skipn rfl ?_))
  refine .loop (fun n f H => ∃ (i : Nat) (o : Value) (C : List Cl) (W : List Nat), n + i = l.length ∧ f = [(0, .slice base l.length cap), (4, o), (5, .pointer (some ⟨h.length, 0, none⟩)), (10, .slice base l.length cap), (11, N l.length), (12, N i)] ∧ Ext h H ∧ H[h.length]? = some (wrow W) ∧
      Out H (h.length + 1) 10 o (ccs C) ∧ WaitOk C W ∧ C.length ≤ i ∧ callsP l = runE l.length (l.drop i) i C W) (n := l.length)
    ⟨0, _, [], [0, 0, 0, 0], rfl, rfl, (Ext.refl h).app _, List.getElem?_concat_length, Out.nil _ _ _, ⟨rfl, by simp⟩, Nat.le_refl _, rfl⟩ ?_
  rintro n f H ⟨i, o, C, W, hn, rfl, hx, hw, ho, hW, hCi, hR⟩ next
  by_cases hi : i < l.length
  · have hgi : l[i]? = some l[i] := List.getElem?_eq_getElem hi
    have hd : l.drop i = l[i] :: l.drop (i + 1) := List.drop_eq_getElem_cons hi
    have hsl := (hv.ext hx).at (ecs_get hgi)
    generalize l[i] = e at hd hsl
    refine Exists.elim hsl fun a hq => Exists.elim hq fun cap' hq => ?_
    have hva := hq.1
    have hld := hq.2.2
    rw [ecs_length] at hva
    injection hva with e1 e2 e3
    subst e1
    rw [hd, runE] at hR
    have hxl := hx.1
    have hwl := hlt_of hw
    by_cases ht : 0 ≤ e.th ∧ e.th < 4
    · have htt : ∃ t : Nat, e.th = t := ⟨e.th.toNat, by omega⟩
      refine Exists.elim htt fun t htt => ?_
      have ht4 : t < 4 := by omega
      have htn : e.th.toNat = t := by omega
      have htW : t < W.length := by have := hW.four; omega
      have hwt : loadV H none ⟨h.length, 0 + t * 1, none⟩ = some (N (W.getD t 0)) := ld_row hw (by rw [Nat.zero_add, Nat.mul_one, List.getElem?_map, getD_get htW]; rfl)
      have hwc : W.getD t 0 ≤ C.length := hW.low _ (List.mem_of_getElem? (getD_get htW))
      have hok : ∀ b, okE W ⟨t, b, e.d, e.h, e.o, e.n, e.rc, e.rn⟩ = ((b == decide (0 < W.getD t 0)) && (if b then e.zo else e.zr)) := fun b => by
        unfold okE
        simp only [Int.toNat_natCast]
        rw [decide_eq_true (show (0 : Int) ≤ (t : Int) by omega), decide_eq_true (show (t : Int) < 4 by omega)]
        rfl
      rcases e with ⟨th, bk, ed, eh, eo, en, erc, ern⟩
      simp only at htt hok htn
      subst htt
      have hkb := hok bk
      simp only [Int.toNat_natCast] at hR
      have hll : (ecs l).length = l.length := ecs_length l
      generalize hwg : W.getD t 0 = w at hR hwt hwc hkb
      clear hok
      have hnone : okE W ⟨t, bk, ed, eh, eo, en, erc, ern⟩ = false → ∀ H, Ir.tidy h (.tuple #[.slice none 0 0, .int .i64 2]) H = some (callsV h (callsP l)) := fun e H => by
        rw [hR, if_neg (by rw [e]; decide)]; rfl
      cases bk with
      | true =>
        cases w with
        | zero =>
          repeat' (first | (show EndsR _ _ _ _ _ _ _; first | refine EndsR.seq ?_ | refine EndsR.reg ?_ | refine EndsR.yes rfl ?_ | refine EndsR.no rfl ?_ | refine EndsR.skip ?_ | refine EndsR.block ?_ | refine EndsR.endB ?_ | refine EndsR.exit rfl ?_ | refine EndsR.br rfl (fun hc => ?_) (fun hc => ?_) | refine EndsR.scope ?_ | refine EndsR.inScope ?_ | refine EndsR.label ?_ | refine EndsR.ret rfl ?_ | refine EndsR.nil rfl ?_) | (show EndsG _ _ _ _ _ _ _ _ _; first | refine EndsG.mov rfl rfl ?_ | refine EndsG.lload rfl rfl rfl rfl ?_ | refine EndsG.laddr rfl rfl rfl ?_ | (show EndsG _ _ (⟨_, .bin _ _ _, _, _⟩ :: _) _ _ _ _ _ _; first | refine EndsG.lssT rfl rfl rfl (by omega) ?_ | refine EndsG.lssF rfl rfl rfl (by omega) ?_ | refine EndsG.leq rfl rfl rfl (fun hc => ?_) (fun hc => ?_) | refine EndsG.gtr rfl rfl rfl (fun hc => ?_) (fun hc => ?_) | refine EndsG.geqT rfl rfl rfl (by omega) ?_ | refine EndsG.geqF rfl rfl rfl (by omega) ?_ | refine EndsG.eql rfl rfl rfl (fun hc => ?_) (fun hc => ?_) | refine EndsG.neq rfl rfl rfl (fun hc => ?_) (fun hc => ?_)) | (show EndsG _ _ (⟨_, .load _ _, _, _⟩ :: _) _ _ _ _ _ _; first | refine EndsG.load rfl rfl (hld) ?_ | refine EndsG.load rfl rfl (hwt) ?_) | (show EndsG _ _ (⟨_, .iaddr _ _ _ _, _, _⟩ :: _) _ _ _ _ _ _; first | refine EndsG.iaddr rfl rfl rfl (hi) ?_ | refine EndsG.iaddrA rfl rfl rfl (ht4) ?_) | refine EndsG.eqc rfl rfl rfl rfl (fun hc => ?_) (fun hc => ?_) | refine EndsG.skip rfl ?_ | refine EndsG.fin ?_ | refine EndsG.go rfl rfl rfl ?_ | refine EndsG.gono rfl rfl rfl ?_ | refine EndsG.skipn rfl ?_))
          · exact hnone hkb _
          · have hw0 : IntKind.i64.wrap (((0 : Nat) : Int) - 1) = -1 := rfl
            omega
          · exact hnone hkb _
        | succ w =>
          repeat' (first | (show EndsR _ _ _ _ _ _ _; first | refine EndsR.seq ?_ | refine EndsR.reg ?_ | refine EndsR.yes rfl ?_ | refine EndsR.no rfl ?_ | refine EndsR.skip ?_ | refine EndsR.block ?_ | refine EndsR.endB ?_ | refine EndsR.exit rfl ?_ | refine EndsR.br rfl (fun hc => ?_) (fun hc => ?_) | refine EndsR.scope ?_ | refine EndsR.inScope ?_ | refine EndsR.label ?_ | refine EndsR.ret rfl ?_ | refine EndsR.nil rfl ?_) | (show EndsG _ _ _ _ _ _ _ _ _; first | refine EndsG.mov rfl rfl ?_ | refine EndsG.lload rfl rfl rfl rfl ?_ | refine EndsG.laddr rfl rfl rfl ?_ | (show EndsG _ _ (⟨_, .bin _ _ _, _, _⟩ :: _) _ _ _ _ _ _; first | refine EndsG.lssT rfl rfl rfl (by omega) ?_ | refine EndsG.lssF rfl rfl rfl (by omega) ?_ | refine EndsG.leq rfl rfl rfl (fun hc => ?_) (fun hc => ?_) | refine EndsG.gtrT rfl rfl rfl (by omega) ?_ | refine EndsG.gtrF rfl rfl rfl (by omega) ?_ | refine EndsG.geqT rfl rfl rfl (by omega) ?_ | refine EndsG.geqF rfl rfl rfl (by omega) ?_ | refine EndsG.eql rfl rfl rfl (fun hc => ?_) (fun hc => ?_) | refine EndsG.neq rfl rfl rfl (fun hc => ?_) (fun hc => ?_) | refine EndsG.addN rfl rfl rfl (by omega) ?_ | refine EndsG.addN (b := 1) rfl rfl rfl (by omega) ?_ | refine EndsG.subN rfl rfl rfl (by omega) ?_ | refine EndsG.subN (b := 1) rfl rfl rfl (by omega) ?_) | (show EndsG _ _ (⟨_, .load _ _, _, _⟩ :: _) _ _ _ _ _ _; first | refine EndsG.load rfl rfl (hld) ?_ | refine EndsG.load rfl rfl (hwt) ?_) | (show EndsG _ _ (⟨_, .iaddr _ _ _ _, _, _⟩ :: _) _ _ _ _ _ _; first | refine EndsG.iaddr rfl rfl rfl (hi) ?_ | refine EndsG.iaddrA rfl rfl rfl (ht4) ?_) | refine EndsG.eqc rfl rfl rfl rfl (fun hc => ?_) (fun hc => ?_) | refine EndsG.skip rfl ?_ | refine EndsG.fin ?_ | refine EndsG.go rfl rfl rfl ?_ | refine EndsG.gono rfl rfl rfl ?_ | refine EndsG.skipn rfl ?_))
          · refine hnone (hkb.trans ?_) _
            rw [decide_eq_true (show 0 < w + 1 by omega)]
            exact hc
          · have hC0 : ccs C ≠ [] := ccs_ne (by omega)
            have hgc : C[w]? = some (C[w]'(by omega)) := List.getElem?_eq_getElem (by omega)
            generalize C[w]'(by omega) = c at hgc
            rw [hkb.trans (show _ = true by rw [decide_eq_true (show 0 < w + 1 by omega)]; exact hc), if_pos rfl, if_pos rfl, modify_set (c := c) (by simpa using hgc)] at hR
            clear hnone hkb
            refine Exists.elim (ho.at hC0) fun b hb => ?_
            have hb1 := hb.1
            have hb2 := hb.2.1
            have hb3 := hb.2.2
            subst hb1
            have hbl := hlt_of hb3
            have hlo : h.length ≤ b := by omega
            have hne : b ≠ h.length := by omega
            have hset : ∀ (X : Blk), (H.set b X).length = H.length := fun X => List.length_set
            have hget : ∀ (x : Cl), (C.set w x)[w]? = some x := fun x => List.getElem?_set_self (by omega)
            have hget2 : ∀ (x y : Cl), ((C.set w x).set w y)[w]? = some y := fun x y => List.getElem?_set_self (by rw [List.length_set]; omega)
            have hbl2 : ∀ (X : Blk), b < (H.set b X).length := fun X => by rw [hset]; exact hbl
            repeat' (first | (show EndsR _ _ _ _ _ _ _; first | refine EndsR.seq ?_ | refine EndsR.reg ?_ | refine EndsR.yes rfl ?_ | refine EndsR.no rfl ?_ | refine EndsR.skip ?_ | refine EndsR.block ?_ | refine EndsR.endB ?_ | refine EndsR.exit rfl ?_ | refine EndsR.br rfl (fun hc => ?_) (fun hc => ?_) | refine EndsR.scope ?_ | refine EndsR.inScope ?_ | refine EndsR.label ?_ | refine EndsR.ret rfl ?_ | refine EndsR.nil rfl ?_) | (show EndsG _ _ _ _ _ _ _ _ _; first | refine EndsG.mov rfl rfl ?_ | refine EndsG.lload rfl rfl rfl rfl ?_ | refine EndsG.laddr rfl rfl rfl ?_ | (show EndsG _ _ (⟨_, .bin _ _ _, _, _⟩ :: _) _ _ _ _ _ _; first | refine EndsG.lss rfl rfl rfl (fun hc => ?_) (fun hc => ?_) | refine EndsG.leq rfl rfl rfl (fun hc => ?_) (fun hc => ?_) | refine EndsG.gtr rfl rfl rfl (fun hc => ?_) (fun hc => ?_) | refine EndsG.geq rfl rfl rfl (fun hc => ?_) (fun hc => ?_) | refine EndsG.eql rfl rfl rfl (fun hc => ?_) (fun hc => ?_) | refine EndsG.neq rfl rfl rfl (fun hc => ?_) (fun hc => ?_)) | refine EndsG.iaddr rfl rfl rfl ((by rw [ccs_length]; omega)) ?_ | refine EndsG.skip rfl ?_ | refine EndsG.fin ?_ | refine EndsG.go rfl rfl rfl ?_ | refine EndsG.gono rfl rfl rfl ?_ | refine EndsG.skipn rfl ?_))
            refine EndsG.store rfl rfl rfl rfl rfl (cl_store (w := w) (c' := { c with rc := erc, rn := ern }) hb3 hlo hgc (Nat.le_of_ble_eq_true rfl) rfl) ?_
            repeat' (first | (show EndsR _ _ _ _ _ _ _; first | refine EndsR.seq ?_ | refine EndsR.reg ?_ | refine EndsR.yes rfl ?_ | refine EndsR.no rfl ?_ | refine EndsR.skip ?_ | refine EndsR.block ?_ | refine EndsR.endB ?_ | refine EndsR.exit rfl ?_ | refine EndsR.br rfl (fun hc => ?_) (fun hc => ?_) | refine EndsR.scope ?_ | refine EndsR.inScope ?_ | refine EndsR.label ?_ | refine EndsR.ret rfl ?_ | refine EndsR.nil rfl ?_) | (show EndsG _ _ _ _ _ _ _ _ _; first | refine EndsG.mov rfl rfl ?_ | refine EndsG.lload rfl rfl rfl rfl ?_ | refine EndsG.laddr rfl rfl rfl ?_ | (show EndsG _ _ (⟨_, .bin _ _ _, _, _⟩ :: _) _ _ _ _ _ _; first | refine EndsG.lss rfl rfl rfl (fun hc => ?_) (fun hc => ?_) | refine EndsG.leq rfl rfl rfl (fun hc => ?_) (fun hc => ?_) | refine EndsG.gtr rfl rfl rfl (fun hc => ?_) (fun hc => ?_) | refine EndsG.geq rfl rfl rfl (fun hc => ?_) (fun hc => ?_) | refine EndsG.eql rfl rfl rfl (fun hc => ?_) (fun hc => ?_) | refine EndsG.neq rfl rfl rfl (fun hc => ?_) (fun hc => ?_)) | refine EndsG.skip rfl ?_ | refine EndsG.fin ?_ | refine EndsG.go rfl rfl rfl ?_ | refine EndsG.gono rfl rfl rfl ?_ | refine EndsG.skipn rfl ?_))
            refine EndsG.store rfl rfl rfl rfl rfl (cl_store (w := w) (c' := { c with rc := erc, rn := ern, dn := true }) (hs_same hbl) hlo (hget _) (Nat.le_of_ble_eq_true rfl) rfl) ?_
            repeat' (first | (show EndsR _ _ _ _ _ _ _; first | refine EndsR.seq ?_ | refine EndsR.reg ?_ | refine EndsR.yes rfl ?_ | refine EndsR.no rfl ?_ | refine EndsR.skip ?_ | refine EndsR.block ?_ | refine EndsR.endB ?_ | refine EndsR.exit rfl ?_ | refine EndsR.br rfl (fun hc => ?_) (fun hc => ?_) | refine EndsR.scope ?_ | refine EndsR.inScope ?_ | refine EndsR.label ?_ | refine EndsR.ret rfl ?_ | refine EndsR.nil rfl ?_) | (show EndsG _ _ _ _ _ _ _ _ _; first | refine EndsG.mov rfl rfl ?_ | refine EndsG.lload rfl rfl rfl rfl ?_ | refine EndsG.laddr rfl rfl rfl ?_ | (show EndsG _ _ (⟨_, .bin _ _ _, _, _⟩ :: _) _ _ _ _ _ _; first | refine EndsG.lss rfl rfl rfl (fun hc => ?_) (fun hc => ?_) | refine EndsG.leq rfl rfl rfl (fun hc => ?_) (fun hc => ?_) | refine EndsG.gtr rfl rfl rfl (fun hc => ?_) (fun hc => ?_) | refine EndsG.geq rfl rfl rfl (fun hc => ?_) (fun hc => ?_) | refine EndsG.eql rfl rfl rfl (fun hc => ?_) (fun hc => ?_) | refine EndsG.neq rfl rfl rfl (fun hc => ?_) (fun hc => ?_)) | refine EndsG.skip rfl ?_ | refine EndsG.fin ?_ | refine EndsG.go rfl rfl rfl ?_ | refine EndsG.gono rfl rfl rfl ?_ | refine EndsG.skipn rfl ?_))
            refine EndsG.store rfl rfl rfl rfl rfl (cl_store (w := w) (c' := ansC c ⟨t, true, ed, eh, eo, en, erc, ern⟩ i) (hs_same (hbl2 _)) hlo (hget2 _ _) (Nat.le_of_ble_eq_true rfl) rfl) ?_
            simp only [List.set_set]
            repeat' (first | (show EndsR _ _ _ _ _ _ _; first | refine EndsR.seq ?_ | refine EndsR.reg ?_ | refine EndsR.yes rfl ?_ | refine EndsR.no rfl ?_ | refine EndsR.skip ?_ | refine EndsR.block ?_ | refine EndsR.endB ?_ | refine EndsR.exit rfl ?_ | refine EndsR.br rfl (fun hc => ?_) (fun hc => ?_) | refine EndsR.scope ?_ | refine EndsR.inScope ?_ | refine EndsR.label ?_ | refine EndsR.ret rfl ?_ | refine EndsR.nil rfl ?_) | (show EndsG _ _ _ _ _ _ _ _ _; first | refine EndsG.mov rfl rfl ?_ | refine EndsG.lload rfl rfl rfl rfl ?_ | refine EndsG.laddr rfl rfl rfl ?_ | (show EndsG _ _ (⟨_, .bin _ _ _, _, _⟩ :: _) _ _ _ _ _ _; first | refine EndsG.lss rfl rfl rfl (fun hc => ?_) (fun hc => ?_) | refine EndsG.leq rfl rfl rfl (fun hc => ?_) (fun hc => ?_) | refine EndsG.gtr rfl rfl rfl (fun hc => ?_) (fun hc => ?_) | refine EndsG.geq rfl rfl rfl (fun hc => ?_) (fun hc => ?_) | refine EndsG.eql rfl rfl rfl (fun hc => ?_) (fun hc => ?_) | refine EndsG.neq rfl rfl rfl (fun hc => ?_) (fun hc => ?_)) | refine EndsG.iaddrA rfl rfl rfl (ht4) ?_ | refine EndsG.skip rfl ?_ | refine EndsG.fin ?_ | refine EndsG.go rfl rfl rfl ?_ | refine EndsG.gono rfl rfl rfl ?_ | refine EndsG.skipn rfl ?_))
            refine EndsG.store rfl rfl rfl rfl rfl (w_store (n := 0) (hs_ne hne hw) (Nat.le_refl _) htW) ?_
            repeat' (first | (show EndsR _ _ _ _ _ _ _; first | refine EndsR.seq ?_ | refine EndsR.reg ?_ | refine EndsR.yes rfl ?_ | refine EndsR.no rfl ?_ | refine EndsR.skip ?_ | refine EndsR.block ?_ | refine EndsR.endB ?_ | refine EndsR.exit rfl ?_ | refine EndsR.br rfl (fun hc => ?_) (fun hc => ?_) | refine EndsR.scope ?_ | refine EndsR.inScope ?_ | refine EndsR.label ?_ | refine EndsR.ret rfl ?_ | refine EndsR.nil rfl ?_) | (show EndsG _ _ _ _ _ _ _ _ _; first | refine EndsG.mov rfl rfl ?_ | refine EndsG.lload rfl rfl rfl rfl ?_ | refine EndsG.laddr rfl rfl rfl ?_ | (show EndsG _ _ (⟨_, .bin _ _ _, _, _⟩ :: _) _ _ _ _ _ _; first | refine EndsG.lss rfl rfl rfl (fun hc => ?_) (fun hc => ?_) | refine EndsG.leq rfl rfl rfl (fun hc => ?_) (fun hc => ?_) | refine EndsG.gtr rfl rfl rfl (fun hc => ?_) (fun hc => ?_) | refine EndsG.geq rfl rfl rfl (fun hc => ?_) (fun hc => ?_) | refine EndsG.eql rfl rfl rfl (fun hc => ?_) (fun hc => ?_) | refine EndsG.neq rfl rfl rfl (fun hc => ?_) (fun hc => ?_) | refine EndsG.addN rfl rfl rfl (by omega) ?_ | refine EndsG.addN (b := 1) rfl rfl rfl (by omega) ?_ | refine EndsG.subN rfl rfl rfl (by omega) ?_ | refine EndsG.subN (b := 1) rfl rfl rfl (by omega) ?_) | refine EndsG.skip rfl ?_ | refine EndsG.fin ?_ | refine EndsG.go rfl rfl rfl ?_ | refine EndsG.gono rfl rfl rfl ?_ | refine EndsG.skipn rfl ?_))
            refine next (n - 1) _ _ (by omega) ⟨i + 1, _, C.set w (ansC c ⟨t, true, ed, eh, eo, en, erc, ern⟩ i), W.set t 0, by omega, rfl, (hx.set hlo).set (Nat.le_refl _), hs_same (by rw [List.length_set]; exact hwl), ?_, hW.set (by simp) (by simp), by simp; omega, ?_⟩
            · have := Out.of (H := (H.set b (.row (ccs (C.set w (ansC c ⟨t, true, ed, eh, eo, en, erc, ern⟩ i))).flatten false)).set h.length (wrow (W.set t 0))) (lo := h.length + 1) (n := 10) (b := b) (ccs_len (C.set w (ansC c ⟨t, true, ed, eh, eo, en, erc, ern⟩ i))) (ccs_ne (by rw [List.length_set]; omega)) hb2 (hs_ne hne.symm (hs_same hbl))
              rw [ccs_length, List.length_set] at this
              rw [ccs_length]
              exact this
            · exact hR
      | false =>
        cases w with
        | zero =>
          repeat' (first | (show EndsR _ _ _ _ _ _ _; first | refine EndsR.seq ?_ | refine EndsR.reg ?_ | refine EndsR.yes rfl ?_ | refine EndsR.no rfl ?_ | refine EndsR.skip ?_ | refine EndsR.block ?_ | refine EndsR.endB ?_ | refine EndsR.exit rfl ?_ | refine EndsR.br rfl (fun hc => ?_) (fun hc => ?_) | refine EndsR.scope ?_ | refine EndsR.inScope ?_ | refine EndsR.label ?_ | refine EndsR.ret rfl ?_ | refine EndsR.nil rfl ?_) | (show EndsG _ _ _ _ _ _ _ _ _; first | refine EndsG.mov rfl rfl ?_ | refine EndsG.lload rfl rfl rfl rfl ?_ | refine EndsG.laddr rfl rfl rfl ?_ | (show EndsG _ _ (⟨_, .bin _ _ _, _, _⟩ :: _) _ _ _ _ _ _; first | refine EndsG.lssT rfl rfl rfl (by omega) ?_ | refine EndsG.lssF rfl rfl rfl (by omega) ?_ | refine EndsG.leq rfl rfl rfl (fun hc => ?_) (fun hc => ?_) | refine EndsG.gtr rfl rfl rfl (fun hc => ?_) (fun hc => ?_) | refine EndsG.geqT rfl rfl rfl (by omega) ?_ | refine EndsG.geqF rfl rfl rfl (by omega) ?_ | refine EndsG.eql rfl rfl rfl (fun hc => ?_) (fun hc => ?_) | refine EndsG.neq rfl rfl rfl (fun hc => ?_) (fun hc => ?_)) | (show EndsG _ _ (⟨_, .load _ _, _, _⟩ :: _) _ _ _ _ _ _; first | refine EndsG.load rfl rfl (hld) ?_ | refine EndsG.load rfl rfl (hwt) ?_) | (show EndsG _ _ (⟨_, .iaddr _ _ _ _, _, _⟩ :: _) _ _ _ _ _ _; first | refine EndsG.iaddr rfl rfl rfl (hi) ?_ | refine EndsG.iaddrA rfl rfl rfl (ht4) ?_) | refine EndsG.eqc rfl rfl rfl rfl (fun hc => ?_) (fun hc => ?_) | refine EndsG.skip rfl ?_ | refine EndsG.fin ?_ | refine EndsG.go rfl rfl rfl ?_ | refine EndsG.gono rfl rfl rfl ?_ | refine EndsG.skipn rfl ?_))
          · have hw0 : IntKind.i64.wrap (((0 : Nat) : Int) - 1) = -1 := rfl
            omega
          · exact hnone (hkb.trans hc) _
          · have hkt := hkb.trans hc
            rw [hkt, if_pos rfl, if_neg (by decide)] at hR
            clear hnone hkb hkt
            have hpl : (ccs C).length + 1 ≤ 2 ^ 30 := by rw [ccs_length]; omega
            refine Exists.elim (ho.push2 (l0 := h.length) (bytes := 80) (e := (askC ⟨t, false, ed, eh, eo, en, erc, ern⟩ i l.length).cs) rfl (Nat.le_succ _) (by omega) hpl (by decide)) fun o' hq1 => Exists.elim hq1 fun H' hq2 => ?_
            have hap := hq2.1
            have ho' := hq2.2.1
            have hx' := hq2.2.2
            rw [ccs_app] at ho'
            have hw' : H'[h.length]? = some (wrow W) := by
              rw [Ext.take_get (hx' (H.take (h.length + 1)) (by rw [List.length_take]; omega) (Ext.take H _)) hwl]; exact hw
            have hxx := hx' h (Nat.le_succ _) hx
            have hC0 : ccs (C ++ [askC ⟨t, false, ed, eh, eo, en, erc, ern⟩ i l.length]) ≠ [] := ccs_ne (by simp)
            refine Exists.elim (ho'.at hC0) fun b hb => ?_
            have hb1 := hb.1
            have hb2 := hb.2.1
            have hb3 := hb.2.2
            rw [ccs_length, List.length_append, List.length_singleton] at hb1
            subst hb1
            have hbl := hlt_of hb3
            repeat' (first | (show EndsR _ _ _ _ _ _ _; first | refine EndsR.seq ?_ | refine EndsR.reg ?_ | refine EndsR.yes rfl ?_ | refine EndsR.no rfl ?_ | refine EndsR.skip ?_ | refine EndsR.block ?_ | refine EndsR.endB ?_ | refine EndsR.exit rfl ?_ | refine EndsR.br rfl (fun hc => ?_) (fun hc => ?_) | refine EndsR.scope ?_ | refine EndsR.inScope ?_ | refine EndsR.label ?_ | refine EndsR.ret rfl ?_ | refine EndsR.nil rfl ?_) | (show EndsG _ _ _ _ _ _ _ _ _; first | refine EndsG.mov rfl rfl ?_ | refine EndsG.lload rfl rfl rfl rfl ?_ | refine EndsG.laddr rfl rfl rfl ?_ | (show EndsG _ _ (⟨_, .bin _ _ _, _, _⟩ :: _) _ _ _ _ _ _; first | refine EndsG.lss rfl rfl rfl (fun hc => ?_) (fun hc => ?_) | refine EndsG.leq rfl rfl rfl (fun hc => ?_) (fun hc => ?_) | refine EndsG.gtr rfl rfl rfl (fun hc => ?_) (fun hc => ?_) | refine EndsG.geq rfl rfl rfl (fun hc => ?_) (fun hc => ?_) | refine EndsG.eql rfl rfl rfl (fun hc => ?_) (fun hc => ?_) | refine EndsG.neq rfl rfl rfl (fun hc => ?_) (fun hc => ?_)) | refine EndsG.iaddrA rfl rfl rfl (ht4) ?_ | refine EndsG.app rfl rfl rfl (hap) ?_ | refine EndsG.skip rfl ?_ | refine EndsG.fin ?_ | refine EndsG.go rfl rfl rfl ?_ | refine EndsG.gono rfl rfl rfl ?_ | refine EndsG.skipn rfl ?_))
            refine EndsG.store rfl rfl rfl rfl rfl (w_store (n := C.length + 1) hw' (Nat.le_refl _) htW) ?_
            repeat' (first | (show EndsR _ _ _ _ _ _ _; first | refine EndsR.seq ?_ | refine EndsR.reg ?_ | refine EndsR.yes rfl ?_ | refine EndsR.no rfl ?_ | refine EndsR.skip ?_ | refine EndsR.block ?_ | refine EndsR.endB ?_ | refine EndsR.exit rfl ?_ | refine EndsR.br rfl (fun hc => ?_) (fun hc => ?_) | refine EndsR.scope ?_ | refine EndsR.inScope ?_ | refine EndsR.label ?_ | refine EndsR.ret rfl ?_ | refine EndsR.nil rfl ?_) | (show EndsG _ _ _ _ _ _ _ _ _; first | refine EndsG.mov rfl rfl ?_ | refine EndsG.lload rfl rfl rfl rfl ?_ | refine EndsG.laddr rfl rfl rfl ?_ | (show EndsG _ _ (⟨_, .bin _ _ _, _, _⟩ :: _) _ _ _ _ _ _; first | refine EndsG.lss rfl rfl rfl (fun hc => ?_) (fun hc => ?_) | refine EndsG.leq rfl rfl rfl (fun hc => ?_) (fun hc => ?_) | refine EndsG.gtr rfl rfl rfl (fun hc => ?_) (fun hc => ?_) | refine EndsG.geq rfl rfl rfl (fun hc => ?_) (fun hc => ?_) | refine EndsG.eql rfl rfl rfl (fun hc => ?_) (fun hc => ?_) | refine EndsG.neq rfl rfl rfl (fun hc => ?_) (fun hc => ?_) | refine EndsG.addN rfl rfl rfl (by omega) ?_ | refine EndsG.addN (b := 1) rfl rfl rfl (by omega) ?_ | refine EndsG.subN rfl rfl rfl (by omega) ?_ | refine EndsG.subN (b := 1) rfl rfl rfl (by omega) ?_) | refine EndsG.skip rfl ?_ | refine EndsG.fin ?_ | refine EndsG.go rfl rfl rfl ?_ | refine EndsG.gono rfl rfl rfl ?_ | refine EndsG.skipn rfl ?_))
            refine next (n - 1) _ _ (by omega) ⟨i + 1, _, C ++ [askC ⟨t, false, ed, eh, eo, en, erc, ern⟩ i l.length], W.set t (C.length + 1), by omega, rfl, hxx.set (Nat.le_refl _), hs_same (hlt_of hw'), ?_, hW.set (by simp) (by simp), by simp; omega, hR⟩
            have := Out.of (H := H'.set h.length (wrow (W.set t (C.length + 1)))) (lo := h.length + 1) (n := 10) (b := b) ho'.1 hC0 hb2 (hs_ne (by omega) hb3)
            rw [ccs_length, List.length_append, List.length_singleton] at this
            exact this
        | succ w =>
          repeat' (first | (show EndsR _ _ _ _ _ _ _; first | refine EndsR.seq ?_ | refine EndsR.reg ?_ | refine EndsR.yes rfl ?_ | refine EndsR.no rfl ?_ | refine EndsR.skip ?_ | refine EndsR.block ?_ | refine EndsR.endB ?_ | refine EndsR.exit rfl ?_ | refine EndsR.br rfl (fun hc => ?_) (fun hc => ?_) | refine EndsR.scope ?_ | refine EndsR.inScope ?_ | refine EndsR.label ?_ | refine EndsR.ret rfl ?_ | refine EndsR.nil rfl ?_) | (show EndsG _ _ _ _ _ _ _ _ _; first | refine EndsG.mov rfl rfl ?_ | refine EndsG.lload rfl rfl rfl rfl ?_ | refine EndsG.laddr rfl rfl rfl ?_ | (show EndsG _ _ (⟨_, .bin _ _ _, _, _⟩ :: _) _ _ _ _ _ _; first | refine EndsG.lssT rfl rfl rfl (by omega) ?_ | refine EndsG.lssF rfl rfl rfl (by omega) ?_ | refine EndsG.leq rfl rfl rfl (fun hc => ?_) (fun hc => ?_) | refine EndsG.gtrT rfl rfl rfl (by omega) ?_ | refine EndsG.gtrF rfl rfl rfl (by omega) ?_ | refine EndsG.geqT rfl rfl rfl (by omega) ?_ | refine EndsG.geqF rfl rfl rfl (by omega) ?_ | refine EndsG.eql rfl rfl rfl (fun hc => ?_) (fun hc => ?_) | refine EndsG.neq rfl rfl rfl (fun hc => ?_) (fun hc => ?_) | refine EndsG.addN rfl rfl rfl (by omega) ?_ | refine EndsG.addN (b := 1) rfl rfl rfl (by omega) ?_ | refine EndsG.subN rfl rfl rfl (by omega) ?_ | refine EndsG.subN (b := 1) rfl rfl rfl (by omega) ?_) | (show EndsG _ _ (⟨_, .load _ _, _, _⟩ :: _) _ _ _ _ _ _; first | refine EndsG.load rfl rfl (hld) ?_ | refine EndsG.load rfl rfl (hwt) ?_) | (show EndsG _ _ (⟨_, .iaddr _ _ _ _, _, _⟩ :: _) _ _ _ _ _ _; first | refine EndsG.iaddr rfl rfl rfl (hi) ?_ | refine EndsG.iaddrA rfl rfl rfl (ht4) ?_) | refine EndsG.eqc rfl rfl rfl rfl (fun hc => ?_) (fun hc => ?_) | refine EndsG.skip rfl ?_ | refine EndsG.fin ?_ | refine EndsG.go rfl rfl rfl ?_ | refine EndsG.gono rfl rfl rfl ?_ | refine EndsG.skipn rfl ?_))
          exact hnone (hkb.trans (by simp)) _
    · have hok : okE W e = false := by
        unfold okE
        by_cases h0 : 0 ≤ e.th
        · rw [decide_eq_false (show ¬ e.th < 4 from fun h4 => ht ⟨h0, h4⟩)]; simp
        · rw [decide_eq_false h0]; simp
      rw [hok] at hR
      repeat' (first | (show EndsR _ _ _ _ _ _ _; first | refine EndsR.seq ?_ | refine EndsR.reg ?_ | refine EndsR.yes rfl ?_ | refine EndsR.no rfl ?_ | refine EndsR.skip ?_ | refine EndsR.block ?_ | refine EndsR.endB ?_ | refine EndsR.exit rfl ?_ | refine EndsR.br rfl (fun hc => ?_) (fun hc => ?_) | refine EndsR.scope ?_ | refine EndsR.inScope ?_ | refine EndsR.label ?_ | refine EndsR.ret rfl ?_ | refine EndsR.nil rfl ?_) | (show EndsG _ _ _ _ _ _ _ _ _; first | refine EndsG.mov rfl rfl ?_ | refine EndsG.lload rfl rfl rfl rfl ?_ | refine EndsG.laddr rfl rfl rfl ?_ | (show EndsG _ _ (⟨_, .bin _ _ _, _, _⟩ :: _) _ _ _ _ _ _; first | refine EndsG.lss rfl rfl rfl (fun hc => ?_) (fun hc => ?_) | refine EndsG.leq rfl rfl rfl (fun hc => ?_) (fun hc => ?_) | refine EndsG.gtr rfl rfl rfl (fun hc => ?_) (fun hc => ?_) | refine EndsG.geq rfl rfl rfl (fun hc => ?_) (fun hc => ?_) | refine EndsG.eql rfl rfl rfl (fun hc => ?_) (fun hc => ?_) | refine EndsG.neq rfl rfl rfl (fun hc => ?_) (fun hc => ?_)) | refine EndsG.load rfl rfl (hld) ?_ | refine EndsG.iaddr rfl rfl rfl (hi) ?_ | refine EndsG.skip rfl ?_ | refine EndsG.fin ?_ | refine EndsG.go rfl rfl rfl ?_ | refine EndsG.gono rfl rfl rfl ?_ | refine EndsG.skipn rfl ?_))
      all_goals first | omega | (rw [hR]; rfl)
  · repeat' (first | (show EndsR _ _ _ _ _ _ _; first | refine EndsR.seq ?_ | refine EndsR.reg ?_ | refine EndsR.yes rfl ?_ | refine EndsR.no rfl ?_ | refine EndsR.skip ?_ | refine EndsR.block ?_ | refine EndsR.endB ?_ | refine EndsR.exit rfl ?_ | refine EndsR.br rfl (fun hc => ?_) (fun hc => ?_) | refine EndsR.scope ?_ | refine EndsR.inScope ?_ | refine EndsR.label ?_ | refine EndsR.ret rfl ?_ | refine EndsR.nil rfl ?_) | (show EndsG _ _ _ _ _ _ _ _ _; first | refine EndsG.mov rfl rfl ?_ | refine EndsG.lload rfl rfl rfl rfl ?_ | refine EndsG.laddr rfl rfl rfl ?_ | (show EndsG _ _ (⟨_, .bin _ _ _, _, _⟩ :: _) _ _ _ _ _ _; first | refine EndsG.lssT rfl rfl rfl (by omega) ?_ | refine EndsG.lssF rfl rfl rfl (by omega) ?_ | refine EndsG.leq rfl rfl rfl (fun hc => ?_) (fun hc => ?_) | refine EndsG.gtr rfl rfl rfl (fun hc => ?_) (fun hc => ?_) | refine EndsG.geq rfl rfl rfl (fun hc => ?_) (fun hc => ?_) | refine EndsG.eql rfl rfl rfl (fun hc => ?_) (fun hc => ?_) | refine EndsG.neq rfl rfl rfl (fun hc => ?_) (fun hc => ?_)) | refine EndsG.skip rfl ?_ | refine EndsG.fin ?_ | refine EndsG.go rfl rfl rfl ?_ | refine EndsG.gono rfl rfl rfl ?_ | refine EndsG.skipn rfl ?_))
    rw [List.drop_of_length_le (by omega)] at hR
    have := ((ho.mono' (Nat.le_succ _)).tidy2 (u := .int .i64 0) (ccs_flat C) rfl (fun a l c e => by cases e))
    rw [hR]
    exact this
end Go.Proofs.Ytgdlplhglpinaaa

/- What holds of the calls of events. Plain. -/
set_option linter.unusedVariables false
set_option linter.unusedSimpArgs false
namespace Go.Proofs.Ytgdlplhglpinaaa
open Go Go.Ir

theorem check_spec (lo : Nat) {h : Heap} {v : Value} {l : List Ev} (hv : Sl h 8 v (ecs l)) (hl : l.length ≤ 1000) :
    callR En lo Id.event_Check [v] h = some (.int .i64 (if (callsP l).isSome then 0 else 2), h) := by
  refine call_scr rfl Fn.event_Check rfl rfl ?_
  cases hc : callsP l with
  | none =>
    have hC := fun lo => calls_spec lo hv hl
    rw [hc] at hC
    repeat' (first | (show EndsR _ _ _ _ _ _ _; first | refine EndsR.seq ?_ | refine EndsR.reg ?_ | refine EndsR.yes rfl ?_ | refine EndsR.no rfl ?_ | refine EndsR.skip ?_ | refine EndsR.block ?_ | refine EndsR.endB ?_ | refine EndsR.exit rfl ?_ | refine EndsR.br rfl (fun hc => ?_) (fun hc => ?_) | refine EndsR.scope ?_ | refine EndsR.inScope ?_ | refine EndsR.label ?_ | refine EndsR.ret rfl ?_ | refine EndsR.nil rfl ?_) | (show EndsG _ _ _ _ _ _ _ _ _; first | refine EndsG.mov rfl rfl ?_ | refine EndsG.lload rfl rfl rfl rfl ?_ | refine EndsG.laddr rfl rfl rfl ?_ | (show EndsG _ _ (⟨_, .bin _ _ _, _, _⟩ :: _) _ _ _ _ _ _; first | refine EndsG.lss rfl rfl rfl (fun hc => ?_) (fun hc => ?_) | refine EndsG.leq rfl rfl rfl (fun hc => ?_) (fun hc => ?_) | refine EndsG.gtr rfl rfl rfl (fun hc => ?_) (fun hc => ?_) | refine EndsG.geq rfl rfl rfl (fun hc => ?_) (fun hc => ?_) | refine EndsG.eql rfl rfl rfl (fun hc => ?_) (fun hc => ?_) | refine EndsG.neq rfl rfl rfl (fun hc => ?_) (fun hc => ?_)) | refine EndsG.call rfl rfl (hC _) ?_ | refine EndsG.skip rfl ?_ | refine EndsG.fin ?_ | refine EndsG.go rfl rfl rfl ?_ | refine EndsG.gono rfl rfl rfl ?_ | refine EndsG.skipn rfl ?_))
    rfl
  | some C =>
    have hC := fun lo => calls_spec lo hv hl
    rw [hc] at hC
    repeat' (first | (show EndsR _ _ _ _ _ _ _; first | refine EndsR.seq ?_ | refine EndsR.reg ?_ | refine EndsR.yes rfl ?_ | refine EndsR.no rfl ?_ | refine EndsR.skip ?_ | refine EndsR.block ?_ | refine EndsR.endB ?_ | refine EndsR.exit rfl ?_ | refine EndsR.br rfl (fun hc => ?_) (fun hc => ?_) | refine EndsR.scope ?_ | refine EndsR.inScope ?_ | refine EndsR.label ?_ | refine EndsR.ret rfl ?_ | refine EndsR.nil rfl ?_) | (show EndsG _ _ _ _ _ _ _ _ _; first | refine EndsG.mov rfl rfl ?_ | refine EndsG.lload rfl rfl rfl rfl ?_ | refine EndsG.laddr rfl rfl rfl ?_ | (show EndsG _ _ (⟨_, .bin _ _ _, _, _⟩ :: _) _ _ _ _ _ _; first | refine EndsG.lss rfl rfl rfl (fun hc => ?_) (fun hc => ?_) | refine EndsG.leq rfl rfl rfl (fun hc => ?_) (fun hc => ?_) | refine EndsG.gtr rfl rfl rfl (fun hc => ?_) (fun hc => ?_) | refine EndsG.geq rfl rfl rfl (fun hc => ?_) (fun hc => ?_) | refine EndsG.eql rfl rfl rfl (fun hc => ?_) (fun hc => ?_) | refine EndsG.neq rfl rfl rfl (fun hc => ?_) (fun hc => ?_)) | refine EndsG.call rfl rfl (hC _) ?_ | refine EndsG.skip rfl ?_ | refine EndsG.fin ?_ | refine EndsG.go rfl rfl rfl ?_ | refine EndsG.gono rfl rfl rfl ?_ | refine EndsG.skipn rfl ?_))
    rfl

def dnN (C : List Cl) : Nat := C.countP (·.dn)

/-- What holds behind each event. -/
structure Inv (n i : Nat) (C : List Cl) (W : List Nat) : Prop where
  four : W.length = 4
  low : ∀ (k : Nat) (c : Cl), C[k]? = some c → 0 ≤ c.th ∧ c.th < 4 ∧ 0 ≤ c.fr ∧ c.fr < i
  rise : ∀ (k j : Nat) (c d : Cl), k < j → C[k]? = some c → C[j]? = some d → c.fr < d.fr
  done : ∀ (k : Nat) (c : Cl), C[k]? = some c → c.dn = true → c.fr < c.to ∧ c.to < i
  undone : ∀ (k : Nat) (c : Cl), C[k]? = some c → c.dn = false → c.to = n ∧ c.rc = 0 ∧ c.rn = 0 ∧ W.getD c.th.toNat 0 = k + 1
  wait : ∀ (t w : Nat), t < 4 → W.getD t 0 = w + 1 → ∃ c, C[w]? = some c ∧ c.th = t ∧ c.dn = false
  turn : ∀ (k j : Nat) (c d : Cl), k < j → C[k]? = some c → C[j]? = some d → c.th = d.th → c.dn = true ∧ c.to < d.fr
  count : C.length + dnN C = i

theorem inv_nil (n : Nat) : Inv n 0 [] [0, 0, 0, 0] where
  four := rfl
  low := by simp
  rise := by simp
  done := by simp
  undone := by simp
  wait := by
    intro t w ht hw
    match t, ht with
    | 0, _ | 1, _ | 2, _ | 3, _ => simp at hw
  turn := by simp
  count := rfl

theorem getD_set {W : List Nat} {t n s : Nat} (ht : t < W.length) : (W.set t n).getD s 0 = if s = t then n else W.getD s 0 := by
  simp only [List.getD_eq_getElem?_getD, List.getElem?_set]
  by_cases h : t = s
  · subst h; simp [ht]
  · rw [if_neg h, if_neg (fun e => h e.symm)]

theorem okE_of {W : List Nat} {e : Ev} (h : okE W e = true) : 0 ≤ e.th ∧ e.th < 4 ∧ (e.bk = true ↔ 0 < W.getD e.th.toNat 0) ∧ (e.bk = true → e.zo = true) ∧ (e.bk = false → e.zr = true) := by
  unfold okE at h
  simp only [Bool.and_eq_true, decide_eq_true_eq, beq_iff_eq] at h
  obtain ⟨⟨⟨h1, h2⟩, h3⟩, h4⟩ := h
  refine ⟨h1, h2, by rw [h3]; simp, fun hb => by rw [hb] at h4; simpa using h4, fun hb => by rw [hb] at h4; simpa using h4⟩

theorem get_modify {C : List Cl} {w k : Nat} {f : Cl → Cl} : (C.modify w f)[k]? = if k = w then (C[k]?).map f else C[k]? := by
  rw [List.getElem?_modify]
  by_cases h : w = k
  · subst h; simp
  · rw [if_neg (fun e => h e.symm)]; simp [h]

theorem countP_set {C : List Cl} : ∀ {w : Nat} {c c' : Cl}, C[w]? = some c → c.dn = false → c'.dn = true → dnN (C.set w c') = dnN C + 1 := by
  induction C with
  | nil => intro w c c' h; simp at h
  | cons a C ih =>
    intro w c c' h h1 h2
    cases w with
    | zero =>
      simp at h; subst h
      simp [dnN, h1, h2]
    | succ w =>
      have := ih (w := w) (by simpa using h) h1 h2
      simp only [dnN, List.set_cons_succ, List.countP_cons] at this ⊢
      omega

theorem inv_ans {n i : Nat} {C : List Cl} {W : List Nat} {e : Ev} (hI : Inv n i C W) (hk : okE W e = true) (hb : e.bk = true) :
    Inv n (i + 1) (C.modify (W.getD e.th.toNat 0 - 1) (ansC · e i)) (W.set e.th.toNat 0) := by
  obtain ⟨h1, h2, h3, h4, h5⟩ := okE_of hk
  have hw := h3.1 hb
  obtain ⟨t, ht⟩ : ∃ t : Nat, e.th = t := ⟨e.th.toNat, by omega⟩
  rw [ht] at hw ⊢
  simp only [Int.toNat_natCast] at hw ⊢
  obtain ⟨w, hw'⟩ : ∃ w, W.getD t 0 = w + 1 := ⟨W.getD t 0 - 1, by omega⟩
  have ht4 : t < 4 := by omega
  have htW : t < W.length := by rw [hI.four]; exact ht4
  obtain ⟨c, hc, hct, hcd⟩ := hI.wait t w ht4 hw'
  rw [hw', Nat.add_sub_cancel, modify_set hc]
  have hwl := (List.getElem?_eq_some_iff.1 hc).1
  have key : ∀ (k : Nat) (d : Cl), (C.set w (ansC c e i))[k]? = some d → (k = w ∧ d = ansC c e i) ∨ (k ≠ w ∧ C[k]? = some d) := by
    intro k d hd
    rw [List.getElem?_set] at hd
    by_cases hkw : w = k
    · rw [if_pos hkw, if_pos hwl] at hd
      injection hd with hd
      exact .inl ⟨hkw.symm, hd.symm⟩
    · rw [if_neg hkw] at hd
      exact .inr ⟨fun e => hkw e.symm, hd⟩
  obtain ⟨l1, l2, l3, l4⟩ := hI.low w c hc
  refine ⟨by simp [hI.four], ?_, ?_, ?_, ?_, ?_, ?_, ?_⟩
  · intro k d hd
    rcases key k d hd with ⟨rfl, rfl⟩ | ⟨_, hd⟩
    · exact ⟨l1, l2, l3, by show c.fr < _; omega⟩
    · have := hI.low k d hd; omega
  · intro k j d d' hkj hd hd'
    rcases key k d hd with ⟨rfl, rfl⟩ | ⟨_, hd2⟩ <;> rcases key j d' hd' with ⟨rfl, rfl⟩ | ⟨_, hd3⟩
    · omega
    · exact hI.rise _ j c d' hkj hc hd3
    · exact hI.rise k _ d c hkj hd2 hc
    · exact hI.rise k j d d' hkj hd2 hd3
  · intro k d hd hdn
    rcases key k d hd with ⟨rfl, rfl⟩ | ⟨_, hd⟩
    · show c.fr < (i : Int) ∧ (i : Int) < _; omega
    · have := hI.done k d hd hdn; omega
  · intro k d hd hdn
    rcases key k d hd with ⟨rfl, rfl⟩ | ⟨hkw, hd⟩
    · cases hdn
    · obtain ⟨u1, u2, u3, u4⟩ := hI.undone k d hd hdn
      refine ⟨u1, u2, u3, ?_⟩
      rw [getD_set htW, if_neg]
      · exact u4
      · intro e; rw [e, hw'] at u4; omega
  · intro s x hs hx
    rw [getD_set htW] at hx
    by_cases hst : s = t
    · rw [if_pos hst] at hx; omega
    · rw [if_neg hst] at hx
      obtain ⟨d, hd1, hd2, hd3⟩ := hI.wait s x hs hx
      refine ⟨d, ?_, hd2, hd3⟩
      rw [List.getElem?_set, if_neg]
      · exact hd1
      · intro e
        subst e
        rw [hc] at hd1
        injection hd1 with hd1
        subst hd1
        omega
  · intro k j d d' hkj hd hd' hth
    rcases key k d hd with ⟨rfl, rfl⟩ | ⟨_, hd2⟩ <;> rcases key j d' hd' with ⟨rfl, rfl⟩ | ⟨_, hd3⟩
    · omega
    · have := (hI.turn _ j c d' hkj hc hd3 hth).1
      rw [hcd] at this; cases this
    · exact hI.turn k _ d c hkj hd2 hc hth
    · exact hI.turn k j d d' hkj hd2 hd3 hth
  · rw [List.length_set, countP_set hc hcd rfl]
    have := hI.count
    omega

theorem get_app {C : List Cl} {x d : Cl} {k : Nat} (h : (C ++ [x])[k]? = some d) : (k < C.length ∧ C[k]? = some d) ∨ (k = C.length ∧ d = x) := by
  by_cases hk : k < C.length
  · rw [List.getElem?_append_left hk] at h; exact .inl ⟨hk, h⟩
  · rw [List.getElem?_append_right (by omega)] at h
    have : k - C.length = 0 := by
      have := (List.getElem?_eq_some_iff.1 h).1
      simp at this; omega
    rw [this] at h
    injection h with h
    exact .inr ⟨by omega, h.symm⟩

theorem inv_ask {n i : Nat} {C : List Cl} {W : List Nat} {e : Ev} (hI : Inv n i C W) (hk : okE W e = true) (hb : e.bk = false) :
    Inv n (i + 1) (C ++ [askC e i n]) (W.set e.th.toNat (C.length + 1)) := by
  obtain ⟨h1, h2, h3, h4, h5⟩ := okE_of hk
  have hw : W.getD e.th.toNat 0 = 0 := by
    have : ¬ 0 < W.getD e.th.toNat 0 := fun hh => by have := h3.2 hh; rw [hb] at this; cases this
    omega
  obtain ⟨t, ht⟩ : ∃ t : Nat, e.th = t := ⟨e.th.toNat, by omega⟩
  have htW : e.th.toNat < W.length := by rw [hI.four]; omega
  refine ⟨by simp [hI.four], ?_, ?_, ?_, ?_, ?_, ?_, ?_⟩
  · intro k d hd
    rcases get_app hd with ⟨_, hd⟩ | ⟨rfl, rfl⟩
    · have := hI.low k d hd; omega
    · show 0 ≤ e.th ∧ e.th < 4 ∧ 0 ≤ (i : Int) ∧ (i : Int) < _; omega
  · intro k j d d' hkj hd hd'
    rcases get_app hd with ⟨_, hd⟩ | ⟨rfl, rfl⟩ <;> rcases get_app hd' with ⟨_, hd'⟩ | ⟨rfl, rfl⟩
    · exact hI.rise k j d d' hkj hd hd'
    · have := hI.low k d hd; show d.fr < (i : Int); omega
    · omega
    · omega
  · intro k d hd hdn
    rcases get_app hd with ⟨_, hd⟩ | ⟨rfl, rfl⟩
    · have := hI.done k d hd hdn; omega
    · cases hdn
  · intro k d hd hdn
    rcases get_app hd with ⟨_, hd⟩ | ⟨rfl, rfl⟩
    · obtain ⟨u1, u2, u3, u4⟩ := hI.undone k d hd hdn
      refine ⟨u1, u2, u3, ?_⟩
      rw [getD_set htW, if_neg]
      · exact u4
      · intro e; rw [e, hw] at u4; omega
    · refine ⟨rfl, rfl, rfl, ?_⟩
      rw [getD_set htW]; exact if_pos rfl
  · intro s x hs hx
    rw [getD_set htW] at hx
    by_cases hst : s = e.th.toNat
    · rw [if_pos hst] at hx
      refine ⟨askC e i n, ?_, by show e.th = s; omega, rfl⟩
      rw [List.getElem?_append_right (by omega), show x - C.length = 0 by omega]
      rfl
    · rw [if_neg hst] at hx
      obtain ⟨d, hd1, hd2, hd3⟩ := hI.wait s x hs hx
      exact ⟨d, by rw [List.getElem?_append_left (List.getElem?_eq_some_iff.1 hd1).1]; exact hd1, hd2, hd3⟩
  · intro k j d d' hkj hd hd' hth
    rcases get_app hd with ⟨_, hd⟩ | ⟨rfl, rfl⟩ <;> rcases get_app hd' with ⟨_, hd'⟩ | ⟨rfl, rfl⟩
    · exact hI.turn k j d d' hkj hd hd' hth
    · have hdd : d.dn = true := by
        cases hdn : d.dn with
        | true => rfl
        | false =>
          have := (hI.undone k d hd hdn).2.2.2
          rw [hth] at this
          have h0 : W.getD (askC e i n).th.toNat 0 = 0 := hw
          omega
      refine ⟨hdd, ?_⟩
      have := hI.done k d hd hdd
      exact this.2
    · omega
    · omega
  · have := hI.count
    simp only [List.length_append, List.length_singleton, dnN, List.countP_append, List.countP_singleton] at this ⊢
    rw [if_neg (show ¬ (askC e i n).dn = true from fun h => by cases h)]
    omega

theorem inv_run : ∀ {n : Nat} (l : List Ev) {i : Nat} {C C' : List Cl} {W : List Nat}, Inv n i C W → runE n l i C W = some C' → ∃ W', Inv n (i + l.length) C' W'
  | n, [], i, C, C', W, hI, hr => by
    injection hr with hr; subst hr
    exact ⟨W, by simpa using hI⟩
  | n, e :: r, i, C, C', W, hI, hr => by
    unfold runE at hr
    split at hr
    · rename_i hk
      split at hr
      · rename_i hb
        obtain ⟨W', h⟩ := inv_run r (inv_ans hI hk hb) hr
        exact ⟨W', by rw [List.length_cons, show i + (r.length + 1) = i + 1 + r.length by omega]; exact h⟩
      · rename_i hb
        obtain ⟨W', h⟩ := inv_run r (inv_ask hI hk (by simpa using hb)) hr
        exact ⟨W', by rw [List.length_cons, show i + (r.length + 1) = i + 1 + r.length by omega]; exact h⟩
    · cases hr

theorem inv_calls {l : List Ev} {C : List Cl} (h : callsP l = some C) : ∃ W, Inv l.length l.length C W := by
  obtain ⟨W, hW⟩ := inv_run l (inv_nil l.length) h
  exact ⟨W, by simpa using hW⟩
end Go.Proofs.Ytgdlplhglpinaaa

/- Of histories that are cut off, and of those of two threads. Plain. -/
set_option linter.unusedVariables false
set_option linter.unusedSimpArgs false
namespace Go.Proofs.Ytgdlplhglpinaaa
open Go Go.Ir

def runS (n : Nat) : List Ev → Nat → List Cl → List Nat → Option (List Cl × List Nat)
  | [], i, C, W => some (C, W)
  | e :: r, i, C, W =>
    if okE W e then
      if e.bk then runS n r (i + 1) (C.modify (W.getD e.th.toNat 0 - 1) (ansC · e i)) (W.set e.th.toNat 0)
      else runS n r (i + 1) (C ++ [askC e i n]) (W.set e.th.toNat (C.length + 1))
    else none

theorem runE_S (n : Nat) : ∀ (l : List Ev) (i : Nat) (C : List Cl) (W : List Nat), runE n l i C W = (runS n l i C W).map (·.1)
  | [], i, C, W => rfl
  | e :: r, i, C, W => by
    unfold runE runS
    split
    · split
      · exact runE_S n r _ _ _
      · exact runE_S n r _ _ _
    · rfl

theorem runS_append (n : Nat) : ∀ (p q : List Ev) (i : Nat) (C : List Cl) (W : List Nat), runS n (p ++ q) i C W = (runS n p i C W).bind fun s => runS n q (i + p.length) s.1 s.2
  | [], q, i, C, W => rfl
  | e :: r, q, i, C, W => by
    have h1 : ∀ C' W', runS n (r ++ q) (i + 1) C' W' = (runS n r (i + 1) C' W').bind fun s => runS n q (i + (e :: r).length) s.1 s.2 := fun C' W' => by
      rw [runS_append n r q, List.length_cons, show i + (r.length + 1) = i + 1 + r.length by omega]
    simp only [List.cons_append, runS]
    split
    · split
      · exact h1 _ _
      · exact h1 _ _
    · rfl

def fixC (n : Nat) (c : Cl) : Cl := if c.dn then c else { c with to := n }

theorem map_modify {C : List Cl} {w : Nat} {f g : Cl → Cl} (h : ∀ c, g (f c) = f (g c)) : (C.modify w f).map g = (C.map g).modify w f := by
  refine List.ext_getElem? fun k => ?_
  rw [List.getElem?_map, get_modify, get_modify, List.getElem?_map]
  split
  · cases C[k]? <;> simp [h]
  · rfl

theorem fix_run (n n' : Nat) : ∀ (l : List Ev) (i : Nat) (C : List Cl) (W : List Nat), runS n' l i (C.map (fixC n')) W = (runS n l i C W).map fun s => (s.1.map (fixC n'), s.2)
  | [], i, C, W => rfl
  | e :: r, i, C, W => by
    unfold runS
    split
    · split
      · rw [← fix_run n n' r, map_modify]
        intro c
        unfold fixC ansC
        simp only [if_true]
        split <;> rfl
      · rw [← fix_run n n' r, List.map_append, List.length_map]
        rfl
    · rfl

theorem inv_runS {n : Nat} : ∀ (l : List Ev) {i : Nat} {C C' : List Cl} {W W' : List Nat}, Inv n i C W → runS n l i C W = some (C', W') → Inv n (i + l.length) C' W'
  | [], i, C, C', W, W', hI, hr => by
    injection hr with hr
    injection hr with e1 e2
    subst e1 e2
    simpa using hI
  | e :: r, i, C, C', W, W', hI, hr => by
    rw [List.length_cons, show i + (r.length + 1) = i + 1 + r.length by omega]
    unfold runS at hr
    split at hr
    · rename_i hk
      split at hr
      · rename_i hb
        exact inv_runS r (inv_ans hI hk hb) hr
      · rename_i hb
        exact inv_runS r (inv_ask hI hk (by simpa using hb)) hr
    · cases hr

/-- What becomes of a call behind it. -/
structure Goes (i : Nat) (c a : Cl) : Prop where
  th : a.th = c.th
  op : a.od = c.od ∧ a.oh = c.oh ∧ a.oo = c.oo ∧ a.on = c.on
  fr : a.fr = c.fr
  old : c.dn = true → a = c
  new : c.dn = false → a.dn = true → (i : Int) ≤ a.to

theorem Goes.refl (i : Nat) (c : Cl) : Goes i c c := ⟨rfl, ⟨rfl, rfl, rfl, rfl⟩, rfl, fun _ => rfl, fun h h' => by rw [h] at h'; cases h'⟩

theorem run_ext {n : Nat} : ∀ (l : List Ev) {i : Nat} {C A : List Cl} {W W' : List Nat}, Inv n i C W → runS n l i C W = some (A, W') →
    C.length ≤ A.length ∧ (∀ (k : Nat) (c : Cl), C[k]? = some c → ∃ a, A[k]? = some a ∧ Goes i c a) ∧ (∀ (k : Nat) (a : Cl), C.length ≤ k → A[k]? = some a → (i : Int) ≤ a.fr)
  | [], i, C, A, W, W', hI, hr => by
    injection hr with hr
    injection hr with e1 e2
    subst e1 e2
    exact ⟨Nat.le_refl _, fun k c hc => ⟨c, hc, .refl _ _⟩, fun k a hk ha => by have := (List.getElem?_eq_some_iff.1 ha).1; omega⟩
  | e :: r, i, C, A, W, W', hI, hr => by
    unfold runS at hr
    split at hr
    · rename_i hk
      split at hr
      · rename_i hb
        have hI' := inv_ans hI hk hb
        obtain ⟨g1, g2, g3⟩ := run_ext r hI' hr
        obtain ⟨h1, h2, h3, h4, h5⟩ := okE_of hk
        rw [List.length_modify] at g1 g3
        refine ⟨g1, fun k c hc => ?_, fun k a hka ha => ?_⟩
        · by_cases hkw : k = W.getD e.th.toNat 0 - 1
          · obtain ⟨a, ha, hg⟩ := g2 k (ansC c e i) (by rw [get_modify, if_pos hkw, hc]; rfl)
            obtain ⟨c', hc', _, hcd⟩ := hI.wait e.th.toNat (W.getD e.th.toNat 0 - 1) (by omega) (by have := h3.1 hb; omega)
            rw [← hkw, hc] at hc'
            injection hc' with hc'
            subst hc'
            have := hg.old rfl
            subst this
            exact ⟨_, ha, rfl, ⟨rfl, rfl, rfl, rfl⟩, rfl, (fun h => by rw [hcd] at h; cases h), fun _ _ => Int.le_refl _⟩
          · obtain ⟨a, ha, hg⟩ := g2 k c (by rw [get_modify, if_neg hkw, hc])
            exact ⟨a, ha, hg.th, hg.op, hg.fr, hg.old, fun x y => by have := hg.new x y; omega⟩
        · have := g3 k a hka ha; omega
      · rename_i hb
        have hI' := inv_ask hI hk (by simpa using hb)
        obtain ⟨g1, g2, g3⟩ := run_ext r hI' hr
        rw [List.length_append, List.length_singleton] at g1 g3
        refine ⟨by omega, fun k c hc => ?_, fun k a hka ha => ?_⟩
        · obtain ⟨a, ha, hg⟩ := g2 k c (by rw [List.getElem?_append_left (List.getElem?_eq_some_iff.1 hc).1]; exact hc)
          exact ⟨a, ha, hg.th, hg.op, hg.fr, hg.old, fun x y => by have := hg.new x y; omega⟩
        · by_cases hkk : k = C.length
          · subst hkk
            obtain ⟨a', ha', hg⟩ := g2 C.length (askC e i n) (by rw [List.getElem?_append_right (Nat.le_refl _), Nat.sub_self]; rfl)
            rw [ha] at ha'
            injection ha' with ha'
            subst ha'
            rw [hg.fr]
            exact Int.le_refl _
          · have := g3 k a (by omega) ha; omega
    · cases hr

theorem calls_S {l : List Ev} {C : List Cl} (h : callsP l = some C) : ∃ W, runS l.length l 0 [] [0, 0, 0, 0] = some (C, W) := by
  unfold callsP at h
  rw [runE_S] at h
  cases hr : runS l.length l 0 [] [0, 0, 0, 0] with
  | none => rw [hr] at h; cases h
  | some s =>
    rw [hr] at h
    injection h with h
    exact ⟨s.2, by rw [← h]⟩

theorem S_calls {l : List Ev} {C : List Cl} {W : List Nat} (h : runS l.length l 0 [] [0, 0, 0, 0] = some (C, W)) : callsP l = some C := by
  unfold callsP
  rw [runE_S, h]
  rfl

/-- A history that is cut off. -/
theorem cut_law {l : List Ev} {A : List Cl} {m : Nat} (hm : m ≤ l.length) (h : callsP l = some A) : ∃ B, callsP (l.take m) = some B ∧ B.length ≤ A.length ∧
    ∀ (i : Nat) (a : Cl), A[i]? = some a → (a.fr < m ↔ i < B.length) ∧ ∀ b, B[i]? = some b → (b.od = a.od ∧ b.oh = a.oh ∧ b.oo = a.oo ∧ b.on = a.on) ∧ b.fr = a.fr ∧ b.dn = (a.dn && decide (a.to < m)) := by
  obtain ⟨W, hS⟩ := calls_S h
  have hml : (l.take m).length = m := by rw [List.length_take]; omega
  rw [show runS l.length l 0 [] [0, 0, 0, 0] = runS l.length (l.take m ++ l.drop m) 0 [] [0, 0, 0, 0] by rw [List.take_append_drop], runS_append] at hS
  cases h1 : runS l.length (l.take m) 0 [] [0, 0, 0, 0] with
  | none => rw [h1] at hS; cases hS
  | some s =>
    obtain ⟨C, V⟩ := s
    rw [h1] at hS
    have hS : runS l.length (l.drop m) (0 + (l.take m).length) C V = some (A, W) := hS
    have hI := inv_runS _ (inv_nil l.length) h1
    rw [hml, Nat.zero_add] at hS hI
    obtain ⟨g1, g2, g3⟩ := run_ext _ hI hS
    have hf := fix_run l.length m (l.take m) 0 [] [0, 0, 0, 0]
    rw [h1] at hf
    refine ⟨C.map (fixC m), S_calls (by rw [hml]; exact hf), by rw [List.length_map]; exact g1, fun i a ha => ?_⟩
    rw [List.length_map]
    refine ⟨⟨fun hlt => ?_, fun hlt => ?_⟩, fun b hb => ?_⟩
    · refine Decidable.byContradiction fun hn => ?_
      have := g3 i a (by omega) ha
      omega
    · obtain ⟨a', ha', hg⟩ := g2 i _ (List.getElem?_eq_getElem hlt)
      rw [ha] at ha'
      injection ha' with ha'
      subst ha'
      rw [hg.fr]
      exact (hI.low i _ (List.getElem?_eq_getElem hlt)).2.2.2
    · rw [List.getElem?_map] at hb
      cases hc : C[i]? with
      | none => rw [hc] at hb; cases hb
      | some c =>
        rw [hc] at hb
        injection hb with hb
        subst hb
        obtain ⟨a', ha', hg⟩ := g2 i c hc
        rw [ha] at ha'
        injection ha' with ha'
        subst ha'
        obtain ⟨o1, o2, o3, o4⟩ := hg.op
        unfold fixC
        cases hcd : c.dn with
        | true =>
          have := hg.old hcd
          subst this
          rw [if_pos rfl]
          refine ⟨⟨rfl, rfl, rfl, rfl⟩, rfl, ?_⟩
          rw [hcd, decide_eq_true (hI.done i _ hc hcd).2]; rfl
        | false =>
          rw [if_neg (by decide)]
          refine ⟨⟨o1.symm, o2.symm, o3.symm, o4.symm⟩, hg.fr.symm, ?_⟩
          cases had : a.dn with
          | false => rfl
          | true =>
            have := hg.new hcd had
            rw [decide_eq_false (by omega)]
            rfl

theorem run_th {n : Nat} {P : Int → Prop} : ∀ (l : List Ev) {i : Nat} {C A : List Cl} {W W' : List Nat}, (∀ e ∈ l, P e.th) → (∀ c ∈ C, P c.th) → runS n l i C W = some (A, W') → ∀ c ∈ A, P c.th
  | [], i, C, A, W, W', hl, hC, hr => by
    injection hr with hr
    injection hr with e1 e2
    subst e1
    exact hC
  | e :: r, i, C, A, W, W', hl, hC, hr => by
    unfold runS at hr
    split at hr
    · split at hr
      · refine run_th r (fun x hx => hl x (by simp [hx])) (fun c hc => ?_) hr
        obtain ⟨k, hk⟩ := List.mem_iff_getElem?.1 hc
        rw [get_modify] at hk
        split at hk
        · cases hc' : C[k]? with
          | none => rw [hc'] at hk; cases hk
          | some c' =>
            rw [hc'] at hk
            injection hk with hk
            subst hk
            exact hC c' (List.mem_of_getElem? hc')
        · exact hC c (List.mem_of_getElem? hk)
      · refine run_th r (fun x hx => hl x (by simp [hx])) (fun c hc => ?_) hr
        rcases List.mem_append.1 hc with hc | hc
        · exact hC c hc
        · simp at hc; subst hc; exact hl e (by simp)
    · cases hr

/-- Events of threads 2 and 3 behind those of 0 and 1. -/
structure Behind (i0 : Nat) (C1 C : List Cl) (W V : List Nat) : Prop where
  w4 : W.length = 4
  v4 : V.length = 4
  len : C1.length ≤ C.length
  old : ∀ (k : Nat), k < C1.length → C[k]? = C1[k]?
  new : ∀ (k : Nat) (c : Cl), C1.length ≤ k → C[k]? = some c → 2 ≤ c.th ∧ (i0 : Int) ≤ c.fr
  wait : ∀ t, 2 ≤ t → t < 4 → W.getD t 0 = 0 ∨ C1.length < W.getD t 0
  both : ∀ t, 2 ≤ t → t < 4 → (0 < W.getD t 0 ↔ 0 < V.getD t 0)

theorem okE_both {W V : List Nat} {e : Ev} (h : 0 < W.getD e.th.toNat 0 ↔ 0 < V.getD e.th.toNat 0) : okE W e = okE V e := by
  unfold okE
  simp only [h]

theorem run_behind {i0 n n' : Nat} {C1 : List Cl} : ∀ (l : List Ev) {i i' : Nat} {C C' B : List Cl} {W V V' : List Nat}, i0 ≤ i → (∀ e ∈ l, 2 ≤ e.th) → Behind i0 C1 C W V → runS n' l i' C' V = some (B, V') →
    ∃ A W', runS n l i C W = some (A, W') ∧ Behind i0 C1 A W' V'
  | [], i, i', C, C', B, W, V, V', hi, hl, hb, hr => by
    injection hr with hr
    injection hr with e1 e2
    subst e1 e2
    exact ⟨C, W, rfl, hb⟩
  | e :: r, i, i', C, C', B, W, V, V', hi, hl, hb, hr => by
    have ht2 := hl e (by simp)
    have hl' : ∀ x ∈ r, 2 ≤ x.th := fun x hx => hl x (by simp [hx])
    unfold runS at hr ⊢
    by_cases hk : okE V e = true
    · obtain ⟨h1, h2, h3, h4, h5⟩ := okE_of hk
      have hbt := hb.both e.th.toNat (by omega) (by omega)
      rw [okE_both hbt, if_pos hk]
      rw [if_pos hk] at hr
      have hwt := hb.wait e.th.toNat (by omega) (by omega)
      have hW : e.th.toNat < W.length := by rw [hb.w4]; omega
      have hV : e.th.toNat < V.length := by rw [hb.v4]; omega
      by_cases hbk : e.bk = true
      · rw [if_pos hbk] at hr ⊢
        have hpos := hbt.2 (h3.1 hbk)
        refine run_behind r (by omega) hl' ⟨by simp [hb.w4], by simp [hb.v4], by simpa using hb.len, fun k hkl => ?_, fun k c hkl hc => ?_, fun t h2' h4' => ?_, fun t h2' h4' => ?_⟩ hr
        · rw [get_modify, if_neg (by omega)]; exact hb.old k hkl
        · rw [get_modify] at hc
          split at hc
          · cases hc' : C[k]? with
            | none => rw [hc'] at hc; cases hc
            | some c' =>
              rw [hc'] at hc
              injection hc with hc
              subst hc
              exact hb.new k c' hkl hc'
          · exact hb.new k c hkl hc
        · rw [getD_set hW]; split
          · exact .inl rfl
          · exact hb.wait t h2' h4'
        · rw [getD_set hW, getD_set hV]; split
          · simp
          · exact hb.both t h2' h4'
      · rw [if_neg hbk] at hr ⊢
        refine run_behind r (by omega) hl' ⟨by simp [hb.w4], by simp [hb.v4], by have := hb.len; simp; omega, fun k hkl => ?_, fun k c hkl hc => ?_, fun t h2' h4' => ?_, fun t h2' h4' => ?_⟩ hr
        · rw [List.getElem?_append_left (by have := hb.len; omega)]; exact hb.old k hkl
        · rcases get_app hc with ⟨_, hc⟩ | ⟨rfl, rfl⟩
          · exact hb.new k c hkl hc
          · exact ⟨ht2, by show (i0 : Int) ≤ (i : Int); omega⟩
        · rw [getD_set hW]; split
          · exact .inr (by have := hb.len; omega)
          · exact hb.wait t h2' h4'
        · rw [getD_set hW, getD_set hV]; split
          · simp
          · exact hb.both t h2' h4'
    · rw [if_neg hk] at hr; cases hr

theorem apart_law {l k : List Ev} {C D : List Cl} (hl : callsP l = some C) (hk : callsP k = some D) (h1 : ∀ e ∈ l, ¬ 1 < e.th) (h2 : ∀ e ∈ k, ¬ e.th < 2) :
    ∃ A, callsP (l ++ k) = some A ∧ ∀ (i j : Nat) (a b : Cl), A[i]? = some a → A[j]? = some b → a.th < 2 → 2 ≤ b.th → befB a b = a.dn := by
  obtain ⟨W, hW⟩ := calls_S hl
  obtain ⟨V, hV⟩ := calls_S hk
  have hf := fix_run l.length (l ++ k).length l 0 [] [0, 0, 0, 0]
  rw [hW] at hf
  have hf : runS (l ++ k).length l 0 [] [0, 0, 0, 0] = some (C.map (fixC (l ++ k).length), W) := hf
  generalize hC1 : C.map (fixC (l ++ k).length) = C1 at hf
  have hI := inv_runS _ (inv_nil _) hf
  rw [Nat.zero_add] at hI
  have hth := run_th (P := (· < 2)) l (fun e he => by have := h1 e he; omega) (by simp) hf
  have hb0 : Behind l.length C1 C1 W [0, 0, 0, 0] := ⟨hI.four, rfl, Nat.le_refl _, fun _ _ => rfl, fun k c hk hc => by have := (List.getElem?_eq_some_iff.1 hc).1; omega, fun t ht2 ht4 => ?_, fun t ht2 ht4 => ?_⟩
  · obtain ⟨A, W', hr, hb⟩ := run_behind (n := (l ++ k).length) k (Nat.le_refl _) (fun e he => by have := h2 e he; omega) hb0 hV
    refine ⟨A, S_calls (W := W') ?_, fun i j a b ha hb' hta htb => ?_⟩
    · rw [runS_append, hf]
      show runS _ k (0 + l.length) C1 W = _
      rw [Nat.zero_add]; exact hr
    · have hi : i < C1.length := Decidable.byContradiction fun hn => by have := (hb.new i a (by omega) ha).1; omega
      have hj : C1.length ≤ j := Decidable.byContradiction fun hn => by
        rw [hb.old j (by omega)] at hb'
        have := hth b (List.mem_of_getElem? hb')
        omega
      rw [hb.old i hi] at ha
      unfold befB
      cases hd : a.dn with
      | false => rfl
      | true =>
        have g1 := (hI.done i a ha hd).2
        have g2 := (hb.new j b hj hb').2
        rw [decide_eq_true (by omega)]; rfl
  all_goals
    have hz : W.getD t 0 = 0 := by
      cases hw : W.getD t 0 with
      | zero => rfl
      | succ w =>
        obtain ⟨c, hc, hct, _⟩ := hI.wait t w ht4 hw
        have := hth c (List.mem_of_getElem? hc)
        omega
    first | exact .inl hz | (rw [hz]; match t, ht4 with | 0, _ | 1, _ | 2, _ | 3, _ => simp)
end Go.Proofs.Ytgdlplhglpinaaa

/- The seat's environment; calls and events as arguments. -/
set_option linter.unusedVariables false
set_option linter.unusedSimpArgs false
namespace Go.Proofs.Ytgdlplhglpinaaa
open Go Go.Ir Go.ChangeShapes Go.WideShapes

theorem mixed : Try.prog.follows .mixedOrders = true := by kernel_rfl
theorem env0_ok : EnvOk Try.prog env0 := envOk_tbl tbl_ok [] (by simp)
theorem live_run : okB (callW env0 (exF env0 5000) 0 Id.sidingslaw08_live [] []) = true := by kernel_rfl
theorem sort_enters (w : World) : Enters Try.prog Id.slices_Sort_Lint := by
  have hv : callW env0 (exN env0 100) 0 Id.slices_Sort_Lint [.slice none 0 0] [] = some (noneV, []) := by kernel_rfl
  exact (calls_ok env0_ok mixed 100 0 w 0 (Nat.zero_le _) _ _ _ _ _ hv).1
theorem En_ok : EnvOk Try.prog En := envOk_tbl tbl_ok pr (by
  intro p hp
  simp only [pr, List.mem_cons, List.not_mem_nil, or_false] at hp
  rcases hp with rfl | rfl
  · exact ⟨constPrim_kp _, closed_true env0_ok mixed (okF live_run)⟩
  · exact ⟨fun _ _ _ _ _ h => sortPrim_kp h, sortPrim_ok sort_enters ⟨slices_Sort_int, slices_Sort_int_none⟩⟩)

theorem cellsOf39 : Try.prog.cellsOf 39 = 4 := by kernel_rfl
theorem cellsOf3 : Try.prog.cellsOf 3 = 1 := by kernel_rfl
theorem open_T39 {H : Type} {enc : TypeId × Value → H} {W : World} {base : Nat} {spare : Nat → Bool} {held : Bool} {n : Nat} {cs : List Value} {x : DataW H × List MemPlace} (h : DataW.trod enc Try.prog W base spare held n 39 cs = some x) :
    ∃ (a0 : Int) (a1 : Int) (a2 : Int) (a3 : Int), cs = [.int .i64 a0, .int .i64 a1, .int .i64 a2, .int .i64 a3] := by
  obtain ⟨xs, m, _, _, hlen, hxl, hf⟩ := DataW.trod_struct Try.underlying39 h
  rw [cellsOf39] at hlen
  have hx : xs.length = 4 := hxl
  have g0 : DataW.trod enc Try.prog W base spare held m 3 ((cs.drop 0).take (Try.prog.cellsOf 3)) = xs[0]? := hf 0 _ rfl
  rw [cellsOf3, List.getElem?_eq_getElem (by omega)] at g0
  have g1 : DataW.trod enc Try.prog W base spare held m 3 ((cs.drop 1).take (Try.prog.cellsOf 3)) = xs[1]? := hf 1 _ rfl
  rw [cellsOf3, List.getElem?_eq_getElem (by omega)] at g1
  have g2 : DataW.trod enc Try.prog W base spare held m 3 ((cs.drop 2).take (Try.prog.cellsOf 3)) = xs[2]? := hf 2 _ rfl
  rw [cellsOf3, List.getElem?_eq_getElem (by omega)] at g2
  have g3 : DataW.trod enc Try.prog W base spare held m 3 ((cs.drop 3).take (Try.prog.cellsOf 3)) = xs[3]? := hf 3 _ rfl
  rw [cellsOf3, List.getElem?_eq_getElem (by omega)] at g3
  obtain ⟨b0, e0, _, _⟩ := DataW.trod_int Try.underlying3 g0
  obtain ⟨b1, e1, _, _⟩ := DataW.trod_int Try.underlying3 g1
  obtain ⟨b2, e2, _, _⟩ := DataW.trod_int Try.underlying3 g2
  obtain ⟨b3, e3, _, _⟩ := DataW.trod_int Try.underlying3 g3
  refine ⟨b0, b1, b2, b3, List.ext_getElem? fun i => ?_⟩
  match i with
  | 0 => exact take1 cs e0
  | 1 => exact take1 cs e1
  | 2 => exact take1 cs e2
  | 3 => exact take1 cs e3
  | i + 4 => rw [List.getElem?_eq_none (by omega)]; rfl

theorem cellsOf41 : Try.prog.cellsOf 41 = 2 := by kernel_rfl
theorem cellsOf25 : Try.prog.cellsOf 25 = 1 := by kernel_rfl
theorem open_T41 {H : Type} {enc : TypeId × Value → H} {W : World} {base : Nat} {spare : Nat → Bool} {held : Bool} {n : Nat} {cs : List Value} {x : DataW H × List MemPlace} (h : DataW.trod enc Try.prog W base spare held n 41 cs = some x) :
    ∃ (a0 : Int) (a1 : Int), cs = [.int .i64 a0, .int .i64 a1] := by
  obtain ⟨xs, m, _, _, hlen, hxl, hf⟩ := DataW.trod_struct Try.underlying41 h
  rw [cellsOf41] at hlen
  have hx : xs.length = 2 := hxl
  have g0 : DataW.trod enc Try.prog W base spare held m 25 ((cs.drop 0).take (Try.prog.cellsOf 25)) = xs[0]? := hf 0 _ rfl
  rw [cellsOf25, List.getElem?_eq_getElem (by omega)] at g0
  have g1 : DataW.trod enc Try.prog W base spare held m 3 ((cs.drop 1).take (Try.prog.cellsOf 3)) = xs[1]? := hf 1 _ rfl
  rw [cellsOf3, List.getElem?_eq_getElem (by omega)] at g1
  obtain ⟨b0, e0, _, _⟩ := DataW.trod_int Try.underlying25 g0
  obtain ⟨b1, e1, _, _⟩ := DataW.trod_int Try.underlying3 g1
  refine ⟨b0, b1, List.ext_getElem? fun i => ?_⟩
  match i with
  | 0 => exact take1 cs e0
  | 1 => exact take1 cs e1
  | i + 2 => rw [List.getElem?_eq_none (by omega)]; rfl

theorem cellsOf43 : Try.prog.cellsOf 43 = 10 := by kernel_rfl
theorem cellsOf4 : Try.prog.cellsOf 4 = 1 := by kernel_rfl
theorem open_T43 {H : Type} {enc : TypeId × Value → H} {W : World} {base : Nat} {spare : Nat → Bool} {held : Bool} {n : Nat} {cs : List Value} {x : DataW H × List MemPlace} (h : DataW.trod enc Try.prog W base spare held n 43 cs = some x) :
    ∃ (a0 : Int) (a1 : Int) (a2 : Int) (a3 : Int) (a4 : Int) (a5 : Int) (a6 : Int) (a7 : Bool) (a8 : Int) (a9 : Int), cs = [.int .i64 a0, .int .i64 a1, .int .i64 a2, .int .i64 a3, .int .i64 a4, .int .i64 a5, .int .i64 a6, .bool a7, .int .i64 a8, .int .i64 a9] := by
  obtain ⟨xs, m, _, _, hlen, hxl, hf⟩ := DataW.trod_struct Try.underlying43 h
  rw [cellsOf43] at hlen
  have hx : xs.length = 6 := hxl
  have g0 : DataW.trod enc Try.prog W base spare held m 3 ((cs.drop 0).take (Try.prog.cellsOf 3)) = xs[0]? := hf 0 _ rfl
  rw [cellsOf3, List.getElem?_eq_getElem (by omega)] at g0
  have g1 : DataW.trod enc Try.prog W base spare held m 39 ((cs.drop 1).take (Try.prog.cellsOf 39)) = xs[1]? := hf 1 _ rfl
  rw [cellsOf39, List.getElem?_eq_getElem (by omega)] at g1
  have g2 : DataW.trod enc Try.prog W base spare held m 41 ((cs.drop 5).take (Try.prog.cellsOf 41)) = xs[2]? := hf 2 _ rfl
  rw [cellsOf41, List.getElem?_eq_getElem (by omega)] at g2
  have g3 : DataW.trod enc Try.prog W base spare held m 4 ((cs.drop 7).take (Try.prog.cellsOf 4)) = xs[3]? := hf 3 _ rfl
  rw [cellsOf4, List.getElem?_eq_getElem (by omega)] at g3
  have g4 : DataW.trod enc Try.prog W base spare held m 3 ((cs.drop 8).take (Try.prog.cellsOf 3)) = xs[4]? := hf 4 _ rfl
  rw [cellsOf3, List.getElem?_eq_getElem (by omega)] at g4
  have g5 : DataW.trod enc Try.prog W base spare held m 3 ((cs.drop 9).take (Try.prog.cellsOf 3)) = xs[5]? := hf 5 _ rfl
  rw [cellsOf3, List.getElem?_eq_getElem (by omega)] at g5
  obtain ⟨b0, e0, _, _⟩ := DataW.trod_int Try.underlying3 g0
  obtain ⟨b1, b2, b3, b4, e1⟩ := open_T39 g1
  obtain ⟨b5, b6, e2⟩ := open_T41 g2
  obtain ⟨b7, e3, _⟩ := DataW.trod_bool Try.underlying4 g3
  obtain ⟨b8, e4, _, _⟩ := DataW.trod_int Try.underlying3 g4
  obtain ⟨b9, e5, _, _⟩ := DataW.trod_int Try.underlying3 g5
  refine ⟨b0, b1, b2, b3, b4, b5, b6, b7, b8, b9, List.ext_getElem? fun i => ?_⟩
  match i with
  | 0 => exact take1 cs e0
  | 1 => exact drop_get (i := 0) e1 (by decide)
  | 2 => exact drop_get (i := 1) e1 (by decide)
  | 3 => exact drop_get (i := 2) e1 (by decide)
  | 4 => exact drop_get (i := 3) e1 (by decide)
  | 5 => exact drop_get (i := 0) e2 (by decide)
  | 6 => exact drop_get (i := 1) e2 (by decide)
  | 7 => exact take1 cs e3
  | 8 => exact take1 cs e4
  | 9 => exact take1 cs e5
  | i + 10 => rw [List.getElem?_eq_none (by omega)]; rfl

theorem cellsOf50 : Try.prog.cellsOf 50 = 8 := by kernel_rfl
theorem open_T50 {H : Type} {enc : TypeId × Value → H} {W : World} {base : Nat} {spare : Nat → Bool} {held : Bool} {n : Nat} {cs : List Value} {x : DataW H × List MemPlace} (h : DataW.trod enc Try.prog W base spare held n 50 cs = some x) :
    ∃ (a0 : Int) (a1 : Bool) (a2 : Int) (a3 : Int) (a4 : Int) (a5 : Int) (a6 : Int) (a7 : Int), cs = [.int .i64 a0, .bool a1, .int .i64 a2, .int .i64 a3, .int .i64 a4, .int .i64 a5, .int .i64 a6, .int .i64 a7] := by
  obtain ⟨xs, m, _, _, hlen, hxl, hf⟩ := DataW.trod_struct Try.underlying50 h
  rw [cellsOf50] at hlen
  have hx : xs.length = 4 := hxl
  have g0 : DataW.trod enc Try.prog W base spare held m 3 ((cs.drop 0).take (Try.prog.cellsOf 3)) = xs[0]? := hf 0 _ rfl
  rw [cellsOf3, List.getElem?_eq_getElem (by omega)] at g0
  have g1 : DataW.trod enc Try.prog W base spare held m 4 ((cs.drop 1).take (Try.prog.cellsOf 4)) = xs[1]? := hf 1 _ rfl
  rw [cellsOf4, List.getElem?_eq_getElem (by omega)] at g1
  have g2 : DataW.trod enc Try.prog W base spare held m 39 ((cs.drop 2).take (Try.prog.cellsOf 39)) = xs[2]? := hf 2 _ rfl
  rw [cellsOf39, List.getElem?_eq_getElem (by omega)] at g2
  have g3 : DataW.trod enc Try.prog W base spare held m 41 ((cs.drop 6).take (Try.prog.cellsOf 41)) = xs[3]? := hf 3 _ rfl
  rw [cellsOf41, List.getElem?_eq_getElem (by omega)] at g3
  obtain ⟨b0, e0, _, _⟩ := DataW.trod_int Try.underlying3 g0
  obtain ⟨b1, e1, _⟩ := DataW.trod_bool Try.underlying4 g1
  obtain ⟨b2, b3, b4, b5, e2⟩ := open_T39 g2
  obtain ⟨b6, b7, e3⟩ := open_T41 g3
  refine ⟨b0, b1, b2, b3, b4, b5, b6, b7, List.ext_getElem? fun i => ?_⟩
  match i with
  | 0 => exact take1 cs e0
  | 1 => exact take1 cs e1
  | 2 => exact drop_get (i := 0) e2 (by decide)
  | 3 => exact drop_get (i := 1) e2 (by decide)
  | 4 => exact drop_get (i := 2) e2 (by decide)
  | 5 => exact drop_get (i := 3) e2 (by decide)
  | 6 => exact drop_get (i := 0) e3 (by decide)
  | 7 => exact drop_get (i := 1) e3 (by decide)
  | i + 8 => rw [List.getElem?_eq_none (by omega)]; rfl

section
variable {H : Type} {enc : TypeId × Value → H} {W : World} {base : Nat} {spare : Nat → Bool} {held : Bool} {n : Nat} {cs : List Value} {x : DataW H × List MemPlace}
theorem open_cl (h : DataW.trod enc Try.prog W base spare held n 43 cs = some x) : ∃ c : Cl, cs = c.cs := by
  obtain ⟨a0, a1, a2, a3, a4, a5, a6, a7, a8, a9, rfl⟩ := open_T43 h
  exact ⟨⟨a0, a1, a2, a3, a4, a5, a6, a7, a8, a9⟩, rfl⟩
theorem open_ev (h : DataW.trod enc Try.prog W base spare held n 50 cs = some x) : ∃ e : Ev, cs = e.cs := by
  obtain ⟨a0, a1, a2, a3, a4, a5, a6, a7, rfl⟩ := open_T50 h
  exact ⟨⟨a0, a1, a2, a3, a4, a5, a6, a7⟩, rfl⟩
instance : Inhabited Ev := ⟨⟨0, false, 0, 0, 0, 0, 0, 0⟩⟩
theorem open_evs {E : Emb} {h : Heap} (s : Sim W.heap.size W E h W) (hro : RoH h) {b0 : Nat} {r : Reach} {v0 : Value} {d0 : DataW H} {p0 : List MemPlace} (hval : Value.okWide Try.prog W r b0 22 v0) (hd : DataW.Trod enc Try.prog W base spare held 22 v0 d0 p0) :
    ∃ E' h' v l, Sim W.heap.size W E' h' W ∧ E.le E' ∧ RoH h' ∧ Ext h h' ∧ VR E' v v0 ∧ Sl h' 8 v (ecs l) ∧ TightV v l.length :=
  open_row Ev.cs Try.underlying22 cellsOf50 (by decide) (fun a => ⟨rfl, rfl, rfl⟩) open_ev s hro hval hd
theorem open_call {v0 : Value} {d0 : DataW H} {p0 : List MemPlace} {r : Reach} {b : Nat} (hval : Value.okWide Try.prog W r b 43 v0) (h : DataW.Trod enc Try.prog W base spare held 43 v0 d0 p0) : ∃ c : Cl, v0 = .agg c.cs.toArray := by
  simp only [Value.okWide, Try.underlying43] at hval
  obtain ⟨cs, rfl, _, _⟩ := hval
  obtain ⟨n, hn⟩ := h
  obtain ⟨c, hc⟩ := open_cl (cs := cs.toList) (by simpa [Value.cells] using hn)
  exact ⟨c, by rw [← hc]⟩
end
end Go.Proofs.Ytgdlplhglpinaaa
