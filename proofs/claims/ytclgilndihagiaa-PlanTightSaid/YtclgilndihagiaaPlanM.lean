/- What a slide does to objects that may be. Plain. -/
import Derived.Test.YtclgilndihagiaaPlanL

set_option linter.unusedVariables false
set_option linter.unusedSimpArgs false
namespace Go.Proofs.Ytclgilndihagiaa
open Go Go.Ir

def slideG : List Obj → Int → List Mv × Int
  | [], e => ([], e)
  | x :: r, e => ((if slideT e x = x.o then (slideG r (IntKind.i64.wrap (slideT e x + x.n))).1 else ⟨x.s, x.o, slideT e x, x.n⟩ :: (slideG r (IntKind.i64.wrap (slideT e x + x.n))).1), (slideG r (IntKind.i64.wrap (slideT e x + x.n))).2)

theorem slideG_cons (x : Obj) (r : List Obj) (e : Int) : slideG (x :: r) e = ((if slideT e x = x.o then (slideG r (IntKind.i64.wrap (slideT e x + x.n))).1 else ⟨x.s, x.o, slideT e x, x.n⟩ :: (slideG r (IntKind.i64.wrap (slideT e x + x.n))).1), (slideG r (IntKind.i64.wrap (slideT e x + x.n))).2) := rfl

theorem foldl_slideG : ∀ (l : List Obj) (ms : List Mv) (e : Int), l.foldl slideS (ms, e) = (ms ++ (slideG l e).1, (slideG l e).2)
  | [], ms, e => by simp [slideG]
  | x :: r, ms, e => by
    have h1 : slideS (ms, e) x = (if slideT e x = x.o then ms else ms ++ [⟨x.s, x.o, slideT e x, x.n⟩], IntKind.i64.wrap (slideT e x + x.n)) := rfl
    rw [List.foldl_cons, h1, foldl_slideG r]
    rw [slideG_cons]
    split <;> simp
theorem slideL_G (l : List Obj) : slideL l = slideG l 0 := by
  unfold slideL
  rw [foldl_slideG]
  simp

/-- Objects that may be, in their order. -/
structure Good (arena : Int) (l : List Obj) : Prop where
  low : 0 ≤ arena
  high : arena ≤ 4096
  each : ∀ x ∈ l, 0 ≤ x.o ∧ 1 ≤ x.n ∧ x.o + x.n ≤ arena
  row : l.Pairwise (fun x y => x.o + x.n ≤ y.o)

theorem wrap_le {n : Int} (h0 : -9000 ≤ n) (h1 : n ≤ 9000) : IntKind.i64.wrap n = n := by
  rw [IntKind.wrap_i64]; omega

theorem Good.tail {arena : Int} {x : Obj} {r : List Obj} (h : Good arena (x :: r)) : Good arena r := ⟨h.low, h.high, fun y hy => h.each y (by simp [hy]), (List.pairwise_cons.1 h.row).2⟩

theorem good_of {arena : Int} {l : List Obj} (h : okP arena l) : Good arena (sortR l) := by
  obtain ⟨h1, h2, h3, h4⟩ := h
  have hp := sortR_perm l
  have each : ∀ x ∈ sortR l, 0 ≤ x.o ∧ 1 ≤ x.n ∧ x.o + x.n ≤ arena := fun x hx => by
    obtain ⟨i, hi, rfl⟩ := List.mem_iff_getElem.1 (hp.mem_iff.1 hx)
    obtain ⟨f1, f2, f3, f4⟩ := h4 i _ (List.getElem?_eq_getElem hi)
    rw [wrap_le (by omega) (by omega)] at f4
    exact ⟨f1, f2, by omega⟩
  refine ⟨h1, h2, each, ?_⟩
  have hpair := (hp.pairwise_iff (R := fun y x => shareB x y = false) (fun {x y} h => by rw [shareB_comm]; exact h)).2 ((apartP_pairs l).1 h3)
  have hboth := hpair.and (sortR_sorted l)
  refine hboth.imp_of_mem fun {x y} hx hy hxy => ?_
  obtain ⟨e1, e2⟩ := hxy
  obtain ⟨a1, a2, a3⟩ := each x hx
  obtain ⟨b1, b2, b3⟩ := each y hy
  have hle : x.o ≤ y.o := by unfold Le ltP at e2; omega
  have hsh : hasB x y.o = false := by
    unfold shareB at e1
    have n1 : decide (0 < y.n) = true := decide_eq_true (by omega)
    have n2 : decide (0 < x.n) = true := decide_eq_true (by omega)
    rw [n1, n2] at e1
    simp at e1
    exact e1.2
  unfold hasB at hsh
  rw [wrap_le (n := y.o - x.o) (by omega) (by omega)] at hsh
  simp at hsh
  omega

theorem slideG_fixed : ∀ (l : List Obj) (e : Int), (∀ x ∈ l, x.fx = true) → (slideG l e).1 = []
  | [], e, h => rfl
  | x :: r, e, h => by
    have hx := h x (by simp)
    rw [slideG_cons]
    have : slideT e x = x.o := by simp [slideT, hx]
    rw [this, if_pos rfl]
    exact slideG_fixed r _ fun y hy => h y (by simp [hy])

theorem slideG_over : ∀ {arena : Int} {l : List Obj} {e : Int}, Good arena l → 0 ≤ e → (∀ x ∈ l, e ≤ x.o) → ∀ mv ∈ (slideG l e).1, e ≤ mv.t ∧ ∀ y ∈ l, y.fx = true → y.o < mv.f → y.o + y.n ≤ mv.t
  | arena, [], e, hg, h0, hl, mv, hm => by cases hm
  | arena, x :: r, e, hg, h0, hl, mv, hm => by
    have hex := hl x (by simp)
    obtain ⟨a1, a2, a3⟩ := hg.each x (by simp)
    have hpr := List.pairwise_cons.1 hg.row
    have hhi := hg.high
    have ht : e ≤ slideT e x ∧ slideT e x ≤ x.o := by unfold slideT; split <;> omega
    have hw : IntKind.i64.wrap (slideT e x + x.n) = slideT e x + x.n := wrap_le (by omega) (by omega)
    have ih := slideG_over (e := slideT e x + x.n) hg.tail (by omega) (fun y hy => by have := hpr.1 y hy; omega)
    rw [slideG_cons] at hm
    rw [hw] at hm
    have rest : mv ∈ (slideG r (slideT e x + x.n)).1 → e ≤ mv.t ∧ ∀ y ∈ x :: r, y.fx = true → y.o < mv.f → y.o + y.n ≤ mv.t := fun hm => by
      obtain ⟨g1, g2⟩ := ih mv hm
      refine ⟨by omega, fun y hy hf hlt => ?_⟩
      rcases List.mem_cons.1 hy with rfl | hy
      · have : slideT e y = y.o := by simp [slideT, hf]
        omega
      · exact g2 y hy hf hlt
    split at hm
    · exact rest hm
    · rename_i hne
      rcases List.mem_cons.1 hm with rfl | hm
      · refine ⟨ht.1, fun y hy hf hlt => ?_⟩
        simp only at hlt ⊢
        rcases List.mem_cons.1 hy with rfl | hy
        · omega
        · have := hpr.1 y hy; omega
      · exact rest hm

theorem fixed_law {arena : Int} {l : List Obj} (h : okP arena l) : ∀ mv ∈ (slideL (sortR l)).1, ∀ y ∈ l, y.fx = true → y.o < mv.f → ¬ mv.t < IntKind.i64.wrap (y.o + y.n) := by
  intro mv hm y hy hf hlt
  have hg := good_of h
  rw [slideL_G] at hm
  have hys := (sortR_perm l).mem_iff.2 hy
  obtain ⟨a1, a2, a3⟩ := hg.each y hys
  have hhi := hg.high
  have := (slideG_over hg (Int.le_refl 0) (fun x hx => (hg.each x hx).1) mv hm).2 y hys hf hlt
  rw [wrap_le (by omega) (by omega)]
  omega

def fixd (x : Obj) : Obj := ⟨x.s, x.o, x.n, true⟩
theorem okP_fixd {arena : Int} {l : List Obj} : okP arena (l.map fixd) ↔ okP arena l := by
  have hs : ∀ x y, shareB (fixd x) (fixd y) = shareB x y := fun _ _ => rfl
  have ha : apartP (l.map fixd) ↔ apartP l := by
    rw [apartP_pairs, apartP_pairs, List.pairwise_map]
    exact Iff.rfl
  unfold okP
  rw [ha]
  constructor
  · intro ⟨h1, h2, h3, h4⟩
    exact ⟨h1, h2, h3, fun i x hx => h4 i (fixd x) (by simp [hx])⟩
  · intro ⟨h1, h2, h3, h4⟩
    refine ⟨h1, h2, h3, fun i x hx => ?_⟩
    rw [List.getElem?_map] at hx
    cases hi : l[i]? with
    | none => rw [hi] at hx; cases hx
    | some y =>
      rw [hi] at hx
      injection hx with hx
      subst hx
      exact h4 i y hi
theorem okN_fixd {arena : Int} {l : List Obj} : okN arena (l.map fixd) = okN arena l := by
  by_cases h : okP arena l
  · rw [okN_0 h, okN_0 (okP_fixd.2 h)]
  · rw [okN_1 h, okN_1 (fun hc => h (okP_fixd.1 hc))]
theorem all_fixed (l : List Obj) : (slideL (sortR (l.map fixd))).1 = [] := by
  rw [slideL_G]
  refine slideG_fixed _ _ fun x hx => ?_
  obtain ⟨y, _, rfl⟩ := List.mem_map.1 ((sortR_perm _).mem_iff.1 hx)
  rfl
end Go.Proofs.Ytclgilndihagiaa

/- If all objects are fixed, nothing moves; none goes ahead of a fixed one: the law's run. -/
set_option linter.unusedVariables false
set_option linter.unusedSimpArgs false
namespace Go.Proofs.Ytclgilndihagiaa
open Go Go.Ir

theorem slideR_ok {h : Heap} {l : List Obj} : slideR h 0 l = (.tuple #[(made h 4 (mcs (slideL l).1)).1, .int .i64 (slideL l).2, .int .i64 0], (made h 4 (mcs (slideL l).1)).2) := by
  unfold slideR; rw [if_pos rfl]
theorem slideR_bad {h : Heap} {l : List Obj} : slideR h 1 l = (.tuple #[.slice none 0 0, .int .i64 0, .int .i64 1], h) := by
  unfold slideR; rw [if_neg (by decide)]

theorem fixed_tail {h : Heap} {l : List Obj} {base : Option Addr} {cap : Nat} (hv : Sl h 4 (.slice base l.length cap) (css l)) (hl : l.length ≤ 30) (hp : Heap) (v2 : Value) (ms : List Mv) (f0 : Fr) (hx2 : Ext h hp) (hs2 : Sl hp 4 v2 (mcs ms))
    (hF : ∀ mv ∈ ms, ∀ y ∈ l, y.fx = true → y.o < mv.f → ¬ mv.t < IntKind.i64.wrap (y.o + y.n)) (hms : ms.length ≤ 1000) :
    EndsR En 0 [.code (tailC 7 F.sidingslaw17_PlanFixed.body)] ((0, .slice base l.length cap) :: (11, v2) :: f0) hp F.sidingslaw17_PlanFixed.res (fun u _ => u = .bool true) := by
  refine Exists.elim hs2.len fun base2 hq => Exists.elim hq fun cap2 hve2 => ?_
  rw [mcs_length] at hve2
  subst hve2
  repeat' (first | (show EndsR _ _ _ _ _ _ _; first | refine EndsR.seq ?_ | refine EndsR.reg ?_ | refine EndsR.yes rfl ?_ | refine EndsR.no rfl ?_ | refine EndsR.skip ?_ | refine EndsR.block ?_ | refine EndsR.endB ?_ | refine EndsR.exit rfl ?_ | refine EndsR.br rfl (fun hc => ?_) (fun hc => ?_) | refine EndsR.scope ?_ | refine EndsR.inScope ?_ | refine EndsR.label ?_ | refine EndsR.ret rfl ?_ | refine EndsR.nil rfl ?_) | (show EndsG _ _ _ _ _ _ _ _ _; first | refine EndsG.mov rfl rfl ?_ | refine EndsG.lload rfl rfl rfl rfl ?_ | refine EndsG.laddr rfl rfl rfl ?_ | refine EndsG.lss rfl rfl rfl (fun hc => ?_) (fun hc => ?_) | refine EndsG.leq rfl rfl rfl (fun hc => ?_) (fun hc => ?_) | refine EndsG.gtr rfl rfl rfl (fun hc => ?_) (fun hc => ?_) | refine EndsG.geq rfl rfl rfl (fun hc => ?_) (fun hc => ?_) | refine EndsG.eql rfl rfl rfl (fun hc => ?_) (fun hc => ?_) | refine EndsG.neq rfl rfl rfl (fun hc => ?_) (fun hc => ?_) | refine EndsG.skip rfl ?_ | refine EndsG.fin ?_ | refine EndsG.go rfl rfl rfl ?_ | refine EndsG.gono rfl rfl rfl ?_ | refine EndsG.skipn rfl ?_))
  refine .loop (fun n f H' => H' = hp ∧ ∃ i : Nat, n + i = ms.length ∧ f = [(0, .slice base l.length cap), (11, .slice base2 ms.length cap2), (14, N i)]) (n := ms.length) ⟨rfl, 0, by omega, rfl⟩ ?_
  rintro n f H' ⟨rfl, i, hn, rfl⟩ next
  by_cases hi : i < ms.length
  · have hgi : ms[i]? = some ms[i] := List.getElem?_eq_getElem hi
    have hmem : ms[i] ∈ ms := List.getElem_mem hi
    refine Exists.elim (mcs_row hs2 hgi) fun a hq => Exists.elim hq fun cap' hq => ?_
    have hva := hq.1
    have m1 := hq.2.2.2.1
    have m2 := hq.2.2.2.2.1
    injection hva with e1 e2 e3
    subst e1
    have hFi := hF _ hmem
    generalize ms[i] = mv at m1 m2 hFi
    repeat' (first | (show EndsR _ _ _ _ _ _ _; first | refine EndsR.seq ?_ | refine EndsR.reg ?_ | refine EndsR.yes rfl ?_ | refine EndsR.no rfl ?_ | refine EndsR.skip ?_ | refine EndsR.block ?_ | refine EndsR.endB ?_ | refine EndsR.exit rfl ?_ | refine EndsR.br rfl (fun hc => ?_) (fun hc => ?_) | refine EndsR.scope ?_ | refine EndsR.inScope ?_ | refine EndsR.label ?_ | refine EndsR.ret rfl ?_ | refine EndsR.nil rfl ?_) | (show EndsG _ _ _ _ _ _ _ _ _; first | refine EndsG.mov rfl rfl ?_ | refine EndsG.lload rfl rfl rfl rfl ?_ | refine EndsG.laddr rfl rfl rfl ?_ | refine EndsG.leq rfl rfl rfl (fun hc => ?_) (fun hc => ?_) | refine EndsG.gtr rfl rfl rfl (fun hc => ?_) (fun hc => ?_) | refine EndsG.geq rfl rfl rfl (fun hc => ?_) (fun hc => ?_) | refine EndsG.eql rfl rfl rfl (fun hc => ?_) (fun hc => ?_) | refine EndsG.neq rfl rfl rfl (fun hc => ?_) (fun hc => ?_) | refine EndsG.lssT rfl rfl rfl (by omega) ?_ | refine EndsG.lssF rfl rfl rfl (by omega) ?_ | refine EndsG.skip rfl ?_ | refine EndsG.fin ?_ | refine EndsG.go rfl rfl rfl ?_ | refine EndsG.gono rfl rfl rfl ?_ | refine EndsG.skipn rfl ?_))
    refine .loop (fun n f H2 => H2 = H' ∧ ∃ j : Nat, n + j = l.length ∧ f = [(0, .slice base l.length cap), (11, .slice (some a) ms.length cap2), (14, N i), (15, N j)]) (n := l.length) ⟨rfl, 0, by omega, rfl⟩ ?_
    rintro n2 f H2 ⟨rfl, j, hn2, rfl⟩ nextj
    by_cases hj : j < l.length
    · have hgj : l[j]? = some l[j] := List.getElem?_eq_getElem hj
      have hmj : l[j] ∈ l := List.getElem_mem hj
      refine Exists.elim (css_row (hv.ext hx2) hgj) fun a2 hq => Exists.elim hq fun cap' hq => ?_
      have hva := hq.1
      have q1 := hq.2.2.2.1
      have q2 := hq.2.2.2.2.1
      have q3 := hq.2.2.2.2.2
      injection hva with e1 e2 e3
      subst e1
      have hFj := hFi _ hmj
      rcases hxj : l[j] with ⟨xs, xo, xn, xf⟩
      rw [hxj] at q1 q2 q3 hFj
      cases xf with
      | false =>
        repeat' (first | (show EndsR _ _ _ _ _ _ _; first | refine EndsR.seq ?_ | refine EndsR.reg ?_ | refine EndsR.yes rfl ?_ | refine EndsR.no rfl ?_ | refine EndsR.skip ?_ | refine EndsR.block ?_ | refine EndsR.endB ?_ | refine EndsR.exit rfl ?_ | refine EndsR.br rfl (fun hc => ?_) (fun hc => ?_) | refine EndsR.scope ?_ | refine EndsR.inScope ?_ | refine EndsR.label ?_ | refine EndsR.ret rfl ?_ | refine EndsR.nil rfl ?_) | (show EndsG _ _ _ _ _ _ _ _ _; first | refine EndsG.mov rfl rfl ?_ | refine EndsG.lload rfl rfl rfl rfl ?_ | refine EndsG.laddr rfl rfl rfl ?_ | refine EndsG.lss rfl rfl rfl (fun hc => ?_) (fun hc => ?_) | refine EndsG.leq rfl rfl rfl (fun hc => ?_) (fun hc => ?_) | refine EndsG.gtr rfl rfl rfl (fun hc => ?_) (fun hc => ?_) | refine EndsG.geq rfl rfl rfl (fun hc => ?_) (fun hc => ?_) | refine EndsG.eql rfl rfl rfl (fun hc => ?_) (fun hc => ?_) | refine EndsG.neq rfl rfl rfl (fun hc => ?_) (fun hc => ?_) | refine EndsG.load rfl rfl (q3) ?_ | refine EndsG.iaddr rfl rfl rfl (hj) ?_ | refine EndsG.addN rfl rfl rfl (by omega) ?_ | refine EndsG.addN (b := 1) rfl rfl rfl (by omega) ?_ | refine EndsG.subN rfl rfl rfl (by omega) ?_ | refine EndsG.subN (b := 1) rfl rfl rfl (by omega) ?_ | refine EndsG.skip rfl ?_ | refine EndsG.fin ?_ | refine EndsG.go rfl rfl rfl ?_ | refine EndsG.gono rfl rfl rfl ?_ | refine EndsG.skipn rfl ?_))
        all_goals first | (exact nextj (n2 - 1) _ _ (by omega) ⟨rfl, j + 1, by omega, rfl⟩) | omega
      | true =>
        have hFj := hFj rfl
        repeat' (first | (show EndsR _ _ _ _ _ _ _; first | refine EndsR.seq ?_ | refine EndsR.reg ?_ | refine EndsR.yes rfl ?_ | refine EndsR.no rfl ?_ | refine EndsR.skip ?_ | refine EndsR.block ?_ | refine EndsR.endB ?_ | refine EndsR.exit rfl ?_ | refine EndsR.br rfl (fun hc => ?_) (fun hc => ?_) | refine EndsR.scope ?_ | refine EndsR.inScope ?_ | refine EndsR.label ?_ | refine EndsR.ret rfl ?_ | refine EndsR.nil rfl ?_) | (show EndsG _ _ _ _ _ _ _ _ _; first | refine EndsG.mov rfl rfl ?_ | refine EndsG.lload rfl rfl rfl rfl ?_ | refine EndsG.laddr rfl rfl rfl ?_ | refine EndsG.lss rfl rfl rfl (fun hc => ?_) (fun hc => ?_) | refine EndsG.leq rfl rfl rfl (fun hc => ?_) (fun hc => ?_) | refine EndsG.gtr rfl rfl rfl (fun hc => ?_) (fun hc => ?_) | refine EndsG.geq rfl rfl rfl (fun hc => ?_) (fun hc => ?_) | refine EndsG.eql rfl rfl rfl (fun hc => ?_) (fun hc => ?_) | refine EndsG.neq rfl rfl rfl (fun hc => ?_) (fun hc => ?_) | refine EndsG.load rfl rfl (q1) ?_ | refine EndsG.load rfl rfl (q2) ?_ | refine EndsG.load rfl rfl (q3) ?_ | refine EndsG.load rfl rfl (m1) ?_ | refine EndsG.load rfl rfl (m2) ?_ | refine EndsG.iaddr rfl rfl rfl (hj) ?_ | refine EndsG.iaddr rfl rfl rfl (hi) ?_ | refine EndsG.addN rfl rfl rfl (by omega) ?_ | refine EndsG.addN (b := 1) rfl rfl rfl (by omega) ?_ | refine EndsG.subN rfl rfl rfl (by omega) ?_ | refine EndsG.subN (b := 1) rfl rfl rfl (by omega) ?_ | refine EndsG.skip rfl ?_ | refine EndsG.fin ?_ | refine EndsG.go rfl rfl rfl ?_ | refine EndsG.gono rfl rfl rfl ?_ | refine EndsG.skipn rfl ?_))
        all_goals first | (exact nextj (n2 - 1) _ _ (by omega) ⟨rfl, j + 1, by omega, rfl⟩) | (exact (hFj ‹_› hc).elim) | omega
    · repeat' (first | (show EndsR _ _ _ _ _ _ _; first | refine EndsR.seq ?_ | refine EndsR.reg ?_ | refine EndsR.yes rfl ?_ | refine EndsR.no rfl ?_ | refine EndsR.skip ?_ | refine EndsR.block ?_ | refine EndsR.endB ?_ | refine EndsR.exit rfl ?_ | refine EndsR.br rfl (fun hc => ?_) (fun hc => ?_) | refine EndsR.scope ?_ | refine EndsR.inScope ?_ | refine EndsR.label ?_ | refine EndsR.ret rfl ?_ | refine EndsR.nil rfl ?_) | (show EndsG _ _ _ _ _ _ _ _ _; first | refine EndsG.mov rfl rfl ?_ | refine EndsG.lload rfl rfl rfl rfl ?_ | refine EndsG.laddr rfl rfl rfl ?_ | refine EndsG.lss rfl rfl rfl (fun hc => ?_) (fun hc => ?_) | refine EndsG.leq rfl rfl rfl (fun hc => ?_) (fun hc => ?_) | refine EndsG.gtr rfl rfl rfl (fun hc => ?_) (fun hc => ?_) | refine EndsG.geq rfl rfl rfl (fun hc => ?_) (fun hc => ?_) | refine EndsG.eql rfl rfl rfl (fun hc => ?_) (fun hc => ?_) | refine EndsG.neq rfl rfl rfl (fun hc => ?_) (fun hc => ?_) | refine EndsG.addN rfl rfl rfl (by omega) ?_ | refine EndsG.addN (b := 1) rfl rfl rfl (by omega) ?_ | refine EndsG.subN rfl rfl rfl (by omega) ?_ | refine EndsG.subN (b := 1) rfl rfl rfl (by omega) ?_ | refine EndsG.skip rfl ?_ | refine EndsG.fin ?_ | refine EndsG.go rfl rfl rfl ?_ | refine EndsG.gono rfl rfl rfl ?_ | refine EndsG.skipn rfl ?_))
      all_goals first | (exact next (n - 1) _ _ (by omega) ⟨rfl, i + 1, by omega, rfl⟩) | omega
  · repeat' (first | (show EndsR _ _ _ _ _ _ _; first | refine EndsR.seq ?_ | refine EndsR.reg ?_ | refine EndsR.yes rfl ?_ | refine EndsR.no rfl ?_ | refine EndsR.skip ?_ | refine EndsR.block ?_ | refine EndsR.endB ?_ | refine EndsR.exit rfl ?_ | refine EndsR.br rfl (fun hc => ?_) (fun hc => ?_) | refine EndsR.scope ?_ | refine EndsR.inScope ?_ | refine EndsR.label ?_ | refine EndsR.ret rfl ?_ | refine EndsR.nil rfl ?_) | (show EndsG _ _ _ _ _ _ _ _ _; first | refine EndsG.mov rfl rfl ?_ | refine EndsG.lload rfl rfl rfl rfl ?_ | refine EndsG.laddr rfl rfl rfl ?_ | refine EndsG.leq rfl rfl rfl (fun hc => ?_) (fun hc => ?_) | refine EndsG.gtr rfl rfl rfl (fun hc => ?_) (fun hc => ?_) | refine EndsG.geq rfl rfl rfl (fun hc => ?_) (fun hc => ?_) | refine EndsG.eql rfl rfl rfl (fun hc => ?_) (fun hc => ?_) | refine EndsG.neq rfl rfl rfl (fun hc => ?_) (fun hc => ?_) | refine EndsG.lssT rfl rfl rfl (by omega) ?_ | refine EndsG.lssF rfl rfl rfl (by omega) ?_ | refine EndsG.call rfl rfl (live_c _ _) ?_ | refine EndsG.skip rfl ?_ | refine EndsG.fin ?_ | refine EndsG.go rfl rfl rfl ?_ | refine EndsG.gono rfl rfl rfl ?_ | refine EndsG.skipn rfl ?_))
    rfl

theorem fixed_run {h : Heap} {v : Value} {l : List Obj} {arena : Int} (hv : Sl h 4 v (css l)) : ∃ u h', callR En 0 Id.sidingslaw17_PlanFixed [v, .int .i64 arena] h = some (u, h') ∧ u = .bool true := by
  refine call_ex rfl Fn.sidingslaw17_PlanFixed rfl rfl ?_
  refine Exists.elim hv.len fun base hq => Exists.elim hq fun cap hve => ?_
  rw [css_length] at hve
  subst hve
  by_cases hl : l.length ≤ 30
  · repeat' (first | (show EndsR _ _ _ _ _ _ _; first | refine EndsR.seq ?_ | refine EndsR.reg ?_ | refine EndsR.yes rfl ?_ | refine EndsR.no rfl ?_ | refine EndsR.skip ?_ | refine EndsR.block ?_ | refine EndsR.endB ?_ | refine EndsR.exit rfl ?_ | refine EndsR.br rfl (fun hc => ?_) (fun hc => ?_) | refine EndsR.scope ?_ | refine EndsR.inScope ?_ | refine EndsR.label ?_ | refine EndsR.ret rfl ?_ | refine EndsR.nil rfl ?_) | (show EndsG _ _ _ _ _ _ _ _ _; first | refine EndsG.mov rfl rfl ?_ | refine EndsG.lload rfl rfl rfl rfl ?_ | refine EndsG.laddr rfl rfl rfl ?_ | refine EndsG.lss rfl rfl rfl (fun hc => ?_) (fun hc => ?_) | refine EndsG.leq rfl rfl rfl (fun hc => ?_) (fun hc => ?_) | refine EndsG.geq rfl rfl rfl (fun hc => ?_) (fun hc => ?_) | refine EndsG.eql rfl rfl rfl (fun hc => ?_) (fun hc => ?_) | refine EndsG.neq rfl rfl rfl (fun hc => ?_) (fun hc => ?_) | refine EndsG.gtrT rfl rfl rfl (by omega) ?_ | refine EndsG.gtrF rfl rfl rfl (by omega) ?_ | refine EndsG.skip rfl ?_ | refine EndsG.fin ?_ | refine EndsG.go rfl rfl rfl ?_ | refine EndsG.gono rfl rfl rfl ?_ | refine EndsG.skipn rfl ?_))
    refine .loop (fun n f H => ∃ (i : Nat) (o : Value), n + i = l.length ∧ f = [(0, .slice base l.length cap), (1, .int .i64 arena), (5, o), (6, N i)] ∧ Ext h H ∧ Out H h.length 4 o (css ((l.map fixd).take i))) (n := l.length)
      ⟨0, _, by omega, rfl, .refl _, Out.nil _ _ _⟩ ?_
    rintro n f H ⟨i, o, hn, rfl, hx, ho⟩ next
    by_cases hi : i < l.length
    · have hgi : l[i]? = some l[i] := List.getElem?_eq_getElem hi
      have htk : (l.map fixd).take (i + 1) = (l.map fixd).take i ++ [fixd l[i]] := by rw [List.take_succ_eq_append_getElem (by simpa using hi)]; simp
      refine Exists.elim (css_row (hv.ext hx) hgi) fun a hq => Exists.elim hq fun cap' hq => ?_
      have hva := hq.1
      have q0 := hq.2.1
      injection hva with e1 e2 e3
      subst e1
      generalize l[i] = x at q0 htk
      repeat' (first | (show EndsR _ _ _ _ _ _ _; first | refine EndsR.seq ?_ | refine EndsR.reg ?_ | refine EndsR.yes rfl ?_ | refine EndsR.no rfl ?_ | refine EndsR.skip ?_ | refine EndsR.block ?_ | refine EndsR.endB ?_ | refine EndsR.exit rfl ?_ | refine EndsR.br rfl (fun hc => ?_) (fun hc => ?_) | refine EndsR.scope ?_ | refine EndsR.inScope ?_ | refine EndsR.label ?_ | refine EndsR.ret rfl ?_ | refine EndsR.nil rfl ?_) | (show EndsG _ _ _ _ _ _ _ _ _; first | refine EndsG.mov rfl rfl ?_ | refine EndsG.lload rfl rfl rfl rfl ?_ | refine EndsG.laddr rfl rfl rfl ?_ | refine EndsG.leq rfl rfl rfl (fun hc => ?_) (fun hc => ?_) | refine EndsG.gtr rfl rfl rfl (fun hc => ?_) (fun hc => ?_) | refine EndsG.geq rfl rfl rfl (fun hc => ?_) (fun hc => ?_) | refine EndsG.eql rfl rfl rfl (fun hc => ?_) (fun hc => ?_) | refine EndsG.neq rfl rfl rfl (fun hc => ?_) (fun hc => ?_) | refine EndsG.load rfl rfl (q0) ?_ | refine EndsG.iaddr rfl rfl rfl (hi) ?_ | refine EndsG.lssT rfl rfl rfl (by omega) ?_ | refine EndsG.lssF rfl rfl rfl (by omega) ?_ | refine EndsG.addN rfl rfl rfl (by omega) ?_ | refine EndsG.addN (b := 1) rfl rfl rfl (by omega) ?_ | refine EndsG.subN rfl rfl rfl (by omega) ?_ | refine EndsG.subN (b := 1) rfl rfl rfl (by omega) ?_ | refine EndsG.skip rfl ?_ | refine EndsG.fin ?_ | refine EndsG.go rfl rfl rfl ?_ | refine EndsG.gono rfl rfl rfl ?_ | refine EndsG.skipn rfl ?_))
      refine Exists.elim (ho.push2 (l0 := 0) (e := (fixd x).cs) (bytes := 32) rfl (Nat.zero_le _) hx.1 (by rw [css_length, List.length_take, List.length_map]; omega) (by omega)) fun o' hq => Exists.elim hq fun H1 hq => ?_
      have hE1 := hq.2.2 h (Nat.le_refl _) hx
      have hN2 := hq.2.1
      rw [css_app, ← htk] at hN2
      refine EndsG.app rfl rfl rfl hq.1 ?_
      repeat' (first | (show EndsR _ _ _ _ _ _ _; first | refine EndsR.seq ?_ | refine EndsR.reg ?_ | refine EndsR.yes rfl ?_ | refine EndsR.no rfl ?_ | refine EndsR.skip ?_ | refine EndsR.block ?_ | refine EndsR.endB ?_ | refine EndsR.exit rfl ?_ | refine EndsR.br rfl (fun hc => ?_) (fun hc => ?_) | refine EndsR.scope ?_ | refine EndsR.inScope ?_ | refine EndsR.label ?_ | refine EndsR.ret rfl ?_ | refine EndsR.nil rfl ?_) | (show EndsG _ _ _ _ _ _ _ _ _; first | refine EndsG.mov rfl rfl ?_ | refine EndsG.lload rfl rfl rfl rfl ?_ | refine EndsG.laddr rfl rfl rfl ?_ | refine EndsG.lss rfl rfl rfl (fun hc => ?_) (fun hc => ?_) | refine EndsG.leq rfl rfl rfl (fun hc => ?_) (fun hc => ?_) | refine EndsG.gtr rfl rfl rfl (fun hc => ?_) (fun hc => ?_) | refine EndsG.geq rfl rfl rfl (fun hc => ?_) (fun hc => ?_) | refine EndsG.eql rfl rfl rfl (fun hc => ?_) (fun hc => ?_) | refine EndsG.neq rfl rfl rfl (fun hc => ?_) (fun hc => ?_) | refine EndsG.addN rfl rfl rfl (by omega) ?_ | refine EndsG.addN (b := 1) rfl rfl rfl (by omega) ?_ | refine EndsG.subN rfl rfl rfl (by omega) ?_ | refine EndsG.subN (b := 1) rfl rfl rfl (by omega) ?_ | refine EndsG.skip rfl ?_ | refine EndsG.fin ?_ | refine EndsG.go rfl rfl rfl ?_ | refine EndsG.gono rfl rfl rfl ?_ | refine EndsG.skipn rfl ?_))
      exact next (n - 1) _ _ (by omega) ⟨i + 1, o', by omega, rfl, hE1, hN2⟩
    · have hti : (l.map fixd).take i = l.map fixd := List.take_of_length_le (by simp; omega)
      rw [hti] at ho
      have hml : (l.map fixd).length = l.length := by simp
      have hO := fun lo => own_sp lo ho.sl (by omega)
      have h1 := made_sl (h := H) (css_len (l.map fixd))
      have h1n := fun h0 => made_nil (h := H) (l := l.map fixd) h0
      generalize made H 4 (css (l.map fixd)) = p1 at hO h1 h1n
      obtain ⟨v1, hp1⟩ := p1
      simp only at h1 h1n
      have hP := fun lo => planSlide_spec lo (arena := arena) h1.1 h1n (by omega)
      rw [okN_fixd] at hP
      rcases okN_cases arena l with h0 | h0
      · rw [h0] at hP
        simp only [slideR_ok, all_fixed] at hP
        have hok : okP arena l := Classical.byContradiction fun hn => by rw [okN_1 hn] at h0; cases h0
        rw [show made hp1 4 (mcs []) = (.slice none 0 0, hp1) from rfl] at hP
        have hO2 := fun lo => own_sp lo (hv.ext (hx.trans h1.2)) (by omega)
        have h2 := made_sl (h := hp1) (css_len l)
        have h2n := fun h0 => made_nil (h := hp1) (l := l) h0
        generalize made hp1 4 (css l) = p2 at hO2 h2 h2n
        obtain ⟨v2, hp2⟩ := p2
        simp only at h2 h2n
        have hP2 := fun lo => planSlide_spec lo (arena := arena) h2.1 h2n (by omega)
        rw [h0] at hP2
        simp only [slideR_ok] at hP2
        have h3 := made_sl (h := hp2) (mcs_len (slideL (sortR l)).1)
        generalize made hp2 4 (mcs (slideL (sortR l)).1) = p3 at hP2 h3
        obtain ⟨v3, hp3⟩ := p3
        simp only at hP2 h3
        have nx := fun f0 => fixed_tail hv hl hp3 v3 _ f0 ((hx.trans h1.2).trans (h2.2.trans h3.2)) h3.1 (fixed_law hok) (by have := slideL_len (sortR l); rw [sortR_len] at this; omega)
        repeat' (first | (show EndsR _ _ _ _ _ _ _; first | (exact EndsR.fe' (nx _) (.cons rfl (.cons rfl (FE.refl _)))) | refine EndsR.seq ?_ | refine EndsR.reg ?_ | refine EndsR.yes rfl ?_ | refine EndsR.no rfl ?_ | refine EndsR.skip ?_ | refine EndsR.block ?_ | refine EndsR.endB ?_ | refine EndsR.exit rfl ?_ | refine EndsR.br rfl (fun hc => ?_) (fun hc => ?_) | refine EndsR.scope ?_ | refine EndsR.inScope ?_ | refine EndsR.label ?_ | refine EndsR.ret rfl ?_ | refine EndsR.nil rfl ?_) | (show EndsG _ _ _ _ _ _ _ _ _; first | refine EndsG.mov rfl rfl ?_ | refine EndsG.lload rfl rfl rfl rfl ?_ | refine EndsG.laddr rfl rfl rfl ?_ | refine EndsG.leq rfl rfl rfl (fun hc => ?_) (fun hc => ?_) | refine EndsG.gtr rfl rfl rfl (fun hc => ?_) (fun hc => ?_) | refine EndsG.geq rfl rfl rfl (fun hc => ?_) (fun hc => ?_) | refine EndsG.eql rfl rfl rfl (fun hc => ?_) (fun hc => ?_) | refine EndsG.lssT rfl rfl rfl (by omega) ?_ | refine EndsG.lssF rfl rfl rfl (by omega) ?_ | refine EndsG.neqT rfl rfl rfl (by omega) ?_ | refine EndsG.neqF rfl rfl rfl (by omega) ?_ | refine EndsG.call rfl rfl (hO _) ?_ | refine EndsG.call rfl rfl (hP _) ?_ | refine EndsG.call rfl rfl (hO2 _) ?_ | refine EndsG.call rfl rfl (hP2 _) ?_ | refine EndsG.skip rfl ?_ | refine EndsG.fin ?_ | refine EndsG.go rfl rfl rfl ?_ | refine EndsG.gono rfl rfl rfl ?_ | refine EndsG.skipn rfl ?_))
      · rw [h0] at hP
        simp only [slideR_bad] at hP
        have hO2 := fun lo => own_sp lo (hv.ext (hx.trans h1.2)) (by omega)
        have h2 := made_sl (h := hp1) (css_len l)
        have h2n := fun h0 => made_nil (h := hp1) (l := l) h0
        generalize made hp1 4 (css l) = p2 at hO2 h2 h2n
        obtain ⟨v2, hp2⟩ := p2
        simp only at h2 h2n
        have hP2 := fun lo => planSlide_spec lo (arena := arena) h2.1 h2n (by omega)
        rw [h0] at hP2
        simp only [slideR_bad] at hP2
        have hnil : Sl hp2 4 (.slice none 0 0) (mcs []) := ⟨fun e he => (by cases he), .inl ⟨rfl, none, 0, rfl⟩⟩
        have nx := fun f0 => fixed_tail hv hl hp2 _ _ f0 ((hx.trans h1.2).trans h2.2) hnil (fun mv hm => (by cases hm)) (by simp)
        repeat' (first | (show EndsR _ _ _ _ _ _ _; first | (exact EndsR.fe' (nx _) (.cons rfl (.cons rfl (FE.refl _)))) | refine EndsR.seq ?_ | refine EndsR.reg ?_ | refine EndsR.yes rfl ?_ | refine EndsR.no rfl ?_ | refine EndsR.skip ?_ | refine EndsR.block ?_ | refine EndsR.endB ?_ | refine EndsR.exit rfl ?_ | refine EndsR.br rfl (fun hc => ?_) (fun hc => ?_) | refine EndsR.scope ?_ | refine EndsR.inScope ?_ | refine EndsR.label ?_ | refine EndsR.ret rfl ?_ | refine EndsR.nil rfl ?_) | (show EndsG _ _ _ _ _ _ _ _ _; first | refine EndsG.mov rfl rfl ?_ | refine EndsG.lload rfl rfl rfl rfl ?_ | refine EndsG.laddr rfl rfl rfl ?_ | refine EndsG.leq rfl rfl rfl (fun hc => ?_) (fun hc => ?_) | refine EndsG.gtr rfl rfl rfl (fun hc => ?_) (fun hc => ?_) | refine EndsG.geq rfl rfl rfl (fun hc => ?_) (fun hc => ?_) | refine EndsG.eql rfl rfl rfl (fun hc => ?_) (fun hc => ?_) | refine EndsG.lssT rfl rfl rfl (by omega) ?_ | refine EndsG.lssF rfl rfl rfl (by omega) ?_ | refine EndsG.neqT rfl rfl rfl (by omega) ?_ | refine EndsG.neqF rfl rfl rfl (by omega) ?_ | refine EndsG.call rfl rfl (hO _) ?_ | refine EndsG.call rfl rfl (hP _) ?_ | refine EndsG.call rfl rfl (hO2 _) ?_ | refine EndsG.call rfl rfl (hP2 _) ?_ | refine EndsG.skip rfl ?_ | refine EndsG.fin ?_ | refine EndsG.go rfl rfl rfl ?_ | refine EndsG.gono rfl rfl rfl ?_ | refine EndsG.skipn rfl ?_))
  · repeat' (first | (show EndsR _ _ _ _ _ _ _; first | refine EndsR.seq ?_ | refine EndsR.reg ?_ | refine EndsR.yes rfl ?_ | refine EndsR.no rfl ?_ | refine EndsR.skip ?_ | refine EndsR.block ?_ | refine EndsR.endB ?_ | refine EndsR.exit rfl ?_ | refine EndsR.br rfl (fun hc => ?_) (fun hc => ?_) | refine EndsR.scope ?_ | refine EndsR.inScope ?_ | refine EndsR.label ?_ | refine EndsR.ret rfl ?_ | refine EndsR.nil rfl ?_) | (show EndsG _ _ _ _ _ _ _ _ _; first | refine EndsG.mov rfl rfl ?_ | refine EndsG.lload rfl rfl rfl rfl ?_ | refine EndsG.laddr rfl rfl rfl ?_ | refine EndsG.lss rfl rfl rfl (fun hc => ?_) (fun hc => ?_) | refine EndsG.leq rfl rfl rfl (fun hc => ?_) (fun hc => ?_) | refine EndsG.geq rfl rfl rfl (fun hc => ?_) (fun hc => ?_) | refine EndsG.eql rfl rfl rfl (fun hc => ?_) (fun hc => ?_) | refine EndsG.neq rfl rfl rfl (fun hc => ?_) (fun hc => ?_) | refine EndsG.call rfl rfl (live_c _ _) ?_ | refine EndsG.gtrT rfl rfl rfl (by omega) ?_ | refine EndsG.gtrF rfl rfl rfl (by omega) ?_ | refine EndsG.skip rfl ?_ | refine EndsG.fin ?_ | refine EndsG.go rfl rfl rfl ?_ | refine EndsG.gono rfl rfl rfl ?_ | refine EndsG.skipn rfl ?_))
    rfl

theorem fixed_run' {h : Heap} {v : Value} {l : List Obj} {arena : Int} (hv : Sl h 4 v (css l)) : ∃ h', callR En 0 Id.sidingslaw17_PlanFixed [v, .int .i64 arena] h = some (.bool true, h') := by
  obtain ⟨u, h', h1, rfl⟩ := fixed_run (arena := arena) hv
  exact ⟨h', h1⟩
end Go.Proofs.Ytclgilndihagiaa
