/- Objects behind moves. Plain. -/
import Derived.Test.YtclgilndihagiaaPlanM

set_option linter.unusedVariables false
set_option linter.unusedSimpArgs false
namespace Go.Proofs.Ytclgilndihagiaa
open Go Go.Ir

def mvF (x : Obj) (ms : List Mv) : Int := ms.foldl (fun o m => if m.f = x.o then m.t else o) x.o
def putO (x : Obj) (o : Int) : Obj := ⟨x.s, o, x.n, x.fx⟩
def mvO (x : Obj) (ms : List Mv) : Obj := putO x (mvF x ms)
def mvd (l : List Obj) (ms : List Mv) : List Obj := l.map fun x => mvO x ms

theorem mvF_none {x : Obj} : ∀ {ms : List Mv} {o : Int}, (∀ m ∈ ms, ¬ m.f = x.o) → ms.foldl (fun o m => if m.f = x.o then m.t else o) o = o
  | [], o, h => rfl
  | m :: ms, o, h => by
    rw [List.foldl_cons, if_neg (h m (by simp))]
    exact mvF_none fun m' hm => h m' (by simp [hm])
theorem putO_self (x : Obj) : putO x x.o = x := rfl

theorem slideG_from : ∀ (l : List Obj) (e : Int), ∀ m ∈ (slideG l e).1, ∃ x ∈ l, m.f = x.o
  | [], e, m, h => by cases h
  | x :: r, e, m, h => by
    rw [slideG_cons] at h
    split at h
    · obtain ⟨y, hy, he⟩ := slideG_from r _ m h
      exact ⟨y, by simp [hy], he⟩
    · rcases List.mem_cons.1 h with rfl | h
      · exact ⟨x, by simp, rfl⟩
      · obtain ⟨y, hy, he⟩ := slideG_from r _ m h
        exact ⟨y, by simp [hy], he⟩

/-- So many are where they go, the rest where they were. -/
def mixG : List Obj → Int → Nat → List Obj
  | l, _, 0 => l
  | [], _, _ => []
  | x :: r, e, k + 1 => putO x (slideT e x) :: mixG r (slideT e x + x.n) k

theorem slide_wrap {arena e : Int} {x : Obj} {r : List Obj} (hg : Good arena (x :: r)) (h0 : 0 ≤ e) (hex : e ≤ x.o) : e ≤ slideT e x ∧ slideT e x ≤ x.o ∧ IntKind.i64.wrap (slideT e x + x.n) = slideT e x + x.n := by
  obtain ⟨a1, a2, a3⟩ := hg.each x (by simp)
  have hhi := hg.high
  have ht : e ≤ slideT e x ∧ slideT e x ≤ x.o := by unfold slideT; split <;> omega
  exact ⟨ht.1, ht.2, wrap_le (by omega) (by omega)⟩

theorem mvd_mix : ∀ {arena : Int} {l : List Obj} {e : Int}, Good arena l → 0 ≤ e → (∀ x ∈ l, e ≤ x.o) → ∀ i, i ≤ (slideG l e).1.length → ∃ k, k ≤ l.length ∧ mvd l ((slideG l e).1.take i) = mixG l e k
  | arena, [], e, hg, h0, hl, i, hi => ⟨0, Nat.le_refl _, rfl⟩
  | arena, x :: r, e, hg, h0, hl, i, hi => by
    obtain ⟨t1, t2, hw⟩ := slide_wrap hg h0 (hl x (by simp))
    obtain ⟨a1, a2, a3⟩ := hg.each x (by simp)
    have hpr := List.pairwise_cons.1 hg.row
    have ih := mvd_mix (e := slideT e x + x.n) hg.tail (by omega) (fun y hy => by have := hpr.1 y hy; omega)
    rw [slideG_cons, hw] at hi ⊢
    simp only at hi ⊢
    have hno : ∀ m ∈ (slideG r (slideT e x + x.n)).1, ¬ m.f = x.o := fun m hm he => by
      obtain ⟨y, hy, hf⟩ := slideG_from r _ m hm
      have := hpr.1 y hy
      omega
    by_cases ht : slideT e x = x.o
    · rw [if_pos ht] at hi ⊢
      obtain ⟨k, hk, he⟩ := ih i hi
      refine ⟨k + 1, by simp; omega, ?_⟩
      show mvO x _ :: mvd r _ = _
      rw [he]
      unfold mvO mvF
      rw [mvF_none (fun m hm => hno m (List.mem_of_mem_take hm))]
      show _ = putO x (slideT e x) :: mixG r (slideT e x + x.n) k
      rw [ht]
    · rw [if_neg ht] at hi ⊢
      cases i with
      | zero => exact ⟨0, Nat.zero_le _, by simp [mvd, mvO, mvF, putO, mixG]⟩
      | succ i =>
        obtain ⟨k, hk, he⟩ := ih i (by simpa using hi)
        refine ⟨k + 1, by simp; omega, ?_⟩
        rw [List.take_succ_cons]
        show mvO x _ :: mvd r _ = _
        have hr : mvd r (⟨x.s, x.o, slideT e x, x.n⟩ :: (slideG r (slideT e x + x.n)).1.take i) = mvd r ((slideG r (slideT e x + x.n)).1.take i) := by
          unfold mvd
          refine List.map_congr_left fun y hy => ?_
          unfold mvO mvF
          rw [List.foldl_cons, if_neg (by have := hpr.1 y hy; simp only; omega)]
        rw [hr, he]
        unfold mvO mvF
        rw [List.foldl_cons, if_pos rfl, mvF_none (fun m hm => hno m (List.mem_of_mem_take hm))]
        rfl

theorem mvd_all : ∀ {arena : Int} {l : List Obj} {e : Int}, Good arena l → 0 ≤ e → (∀ x ∈ l, e ≤ x.o) → mvd l (slideG l e).1 = mixG l e l.length
  | arena, [], e, hg, h0, hl => rfl
  | arena, x :: r, e, hg, h0, hl => by
    obtain ⟨t1, t2, hw⟩ := slide_wrap hg h0 (hl x (by simp))
    obtain ⟨a1, a2, a3⟩ := hg.each x (by simp)
    have hpr := List.pairwise_cons.1 hg.row
    have ih := mvd_all (e := slideT e x + x.n) hg.tail (by omega) (fun y hy => by have := hpr.1 y hy; omega)
    rw [slideG_cons, hw]
    simp only
    have hno : ∀ m ∈ (slideG r (slideT e x + x.n)).1, ¬ m.f = x.o := fun m hm he => by
      obtain ⟨y, hy, hf⟩ := slideG_from r _ m hm
      have := hpr.1 y hy
      omega
    show mvO x _ :: mvd r _ = putO x (slideT e x) :: mixG r (slideT e x + x.n) r.length
    by_cases ht : slideT e x = x.o
    · rw [if_pos ht, ih]
      unfold mvO mvF
      rw [mvF_none hno, ht]
    · rw [if_neg ht]
      have hr : mvd r (⟨x.s, x.o, slideT e x, x.n⟩ :: (slideG r (slideT e x + x.n)).1) = mvd r (slideG r (slideT e x + x.n)).1 := by
        unfold mvd
        refine List.map_congr_left fun y hy => ?_
        unfold mvO mvF
        rw [List.foldl_cons, if_neg (by have := hpr.1 y hy; simp only; omega)]
      rw [hr, ih]
      unfold mvO mvF
      rw [List.foldl_cons, if_pos rfl, mvF_none hno]

theorem mix_good : ∀ {arena : Int} {l : List Obj} {e : Int} {k : Nat}, Good arena l → 0 ≤ e → (∀ x ∈ l, e ≤ x.o) → Good arena (mixG l e k) ∧ ∀ y ∈ mixG l e k, e ≤ y.o
  | arena, l, e, 0, hg, h0, hl => by cases l <;> exact ⟨hg, hl⟩
  | arena, [], e, k + 1, hg, h0, hl => ⟨hg, hl⟩
  | arena, x :: r, e, k + 1, hg, h0, hl => by
    obtain ⟨t1, t2, hw⟩ := slide_wrap hg h0 (hl x (by simp))
    obtain ⟨a1, a2, a3⟩ := hg.each x (by simp)
    have hpr := List.pairwise_cons.1 hg.row
    obtain ⟨g1, g2⟩ := mix_good (e := slideT e x + x.n) (k := k) hg.tail (by omega) (fun y hy => by have := hpr.1 y hy; omega)
    have e1 : (putO x (slideT e x)).o = slideT e x := rfl
    have e2 : (putO x (slideT e x)).n = x.n := rfl
    refine ⟨⟨hg.low, hg.high, fun y hy => ?_, List.pairwise_cons.2 ⟨fun y hy => ?_, g1.row⟩⟩, fun y hy => ?_⟩
    · rcases List.mem_cons.1 hy with rfl | hy
      · rw [e1, e2]; omega
      · exact g1.each y hy
    · rw [e1, e2]; exact g2 y hy
    · rcases List.mem_cons.1 hy with rfl | hy
      · rw [e1]; exact t1
      · have := g2 y hy; omega

theorem good_apart {arena : Int} {l : List Obj} (hg : Good arena l) : apartP l := by
  rw [apartP_pairs]
  refine hg.row.imp_of_mem fun {y x} hy hx hyx => ?_
  obtain ⟨a1, a2, a3⟩ := hg.each x hx
  obtain ⟨b1, b2, b3⟩ := hg.each y hy
  have hhi := hg.high
  have h1 : hasB x y.o = false := by
    unfold hasB
    rw [decide_eq_false (by omega)]
    rfl
  have h2 : hasB y x.o = false := by
    unfold hasB
    rw [wrap_le (n := x.o - y.o) (by omega) (by omega)]
    simp; omega
  unfold shareB
  rw [h1, h2]
  simp

/-- What is told of each object behind all moves. -/
theorem mix_each : ∀ {arena : Int} {l : List Obj} {e : Int}, Good arena l → 0 ≤ e → e ≤ arena → (∀ x ∈ l, e ≤ x.o) →
    e ≤ (slideG l e).2 ∧ (slideG l e).2 ≤ arena ∧ (mixG l e l.length).length = l.length ∧
    ∀ (i : Nat) (x y : Obj), l[i]? = some x → (mixG l e l.length)[i]? = some y → y.o ≤ x.o ∧ 0 ≤ y.o ∧ IntKind.i64.wrap (y.o + y.n) ≤ (slideG l e).2 ∧ (x.fx = true → y.o = x.o)
  | arena, [], e, hg, h0, hea, hl => ⟨Int.le_refl _, hea, rfl, fun i x y hx => by simp at hx⟩
  | arena, x :: r, e, hg, h0, hea, hl => by
    obtain ⟨t1, t2, hw⟩ := slide_wrap hg h0 (hl x (by simp))
    obtain ⟨a1, a2, a3⟩ := hg.each x (by simp)
    have hpr := List.pairwise_cons.1 hg.row
    obtain ⟨i1, i2, i3, i4⟩ := mix_each (e := slideT e x + x.n) hg.tail (by omega) (by omega) (fun y hy => by have := hpr.1 y hy; omega)
    have hs2 : (slideG (x :: r) e).2 = (slideG r (slideT e x + x.n)).2 := by rw [slideG_cons, hw]
    rw [hs2]
    refine ⟨by omega, i2, by show (mixG r _ r.length).length + 1 = r.length + 1; rw [i3], fun i x' y hx hy => ?_⟩
    cases i with
    | zero =>
      have hx : x = x' := by simpa using hx
      have hy : putO x (slideT e x) = y := by simpa [mixG] using hy
      subst hx hy
      have e1 : (putO x (slideT e x)).o = slideT e x := rfl
      have e2 : (putO x (slideT e x)).n = x.n := rfl
      rw [e1, e2, hw]
      exact ⟨t2, by omega, i1, fun hf => by simp [slideT, hf]⟩
    | succ i => exact i4 i x' y (by simpa using hx) (by simpa [mixG] using hy)
end Go.Proofs.Ytclgilndihagiaa

/- Objects behind moves: the law's helper. -/
set_option linter.unusedVariables false
set_option linter.unusedSimpArgs false
namespace Go.Proofs.Ytclgilndihagiaa
open Go Go.Ir

theorem mvd_length (l : List Obj) (ms : List Mv) : (mvd l ms).length = l.length := by simp [mvd]

theorem moved_spec (lo : Nat) {h : Heap} {v w : Value} {l : List Obj} {ms : List Mv} (hv : Sl h 4 v (css l)) (hw : Sl h 4 w (mcs ms)) (hl : l.length ≤ 1000) (hms : ms.length ≤ 1000) :
    callR En lo Id.sidingslaw17_moved [v, w] h = some (made h 4 (css (mvd l ms))) := by
  refine Exists.elim hv.len fun base hq => Exists.elim hq fun cap hve => ?_
  refine Exists.elim hw.len fun base2 hq => Exists.elim hq fun cap2 hwe => ?_
  rw [css_length] at hve
  rw [mcs_length] at hwe
  subst hve hwe
  refine call_scr rfl Fn.sidingslaw17_moved rfl rfl ?_
  repeat' (first | (show EndsR _ _ _ _ _ _ _; first | refine EndsR.seq ?_ | refine EndsR.reg ?_ | refine EndsR.yes rfl ?_ | refine EndsR.no rfl ?_ | refine EndsR.skip ?_ | refine EndsR.block ?_ | refine EndsR.endB ?_ | refine EndsR.exit rfl ?_ | refine EndsR.br rfl (fun hc => ?_) (fun hc => ?_) | refine EndsR.scope ?_ | refine EndsR.inScope ?_ | refine EndsR.label ?_ | refine EndsR.ret rfl ?_ | refine EndsR.nil rfl ?_) | (show EndsG _ _ _ _ _ _ _ _ _; first | refine EndsG.mov rfl rfl ?_ | refine EndsG.lload rfl rfl rfl rfl ?_ | refine EndsG.laddr rfl rfl rfl ?_ | refine EndsG.lss rfl rfl rfl (fun hc => ?_) (fun hc => ?_) | refine EndsG.leq rfl rfl rfl (fun hc => ?_) (fun hc => ?_) | refine EndsG.gtr rfl rfl rfl (fun hc => ?_) (fun hc => ?_) | refine EndsG.geq rfl rfl rfl (fun hc => ?_) (fun hc => ?_) | refine EndsG.eql rfl rfl rfl (fun hc => ?_) (fun hc => ?_) | refine EndsG.neq rfl rfl rfl (fun hc => ?_) (fun hc => ?_) | refine EndsG.skip rfl ?_ | refine EndsG.fin ?_ | refine EndsG.go rfl rfl rfl ?_ | refine EndsG.gono rfl rfl rfl ?_ | refine EndsG.skipn rfl ?_))
  refine .loop (fun n f H => ∃ (i : Nat) (o : Value), n + i = l.length ∧ f = [(0, .slice base l.length cap), (1, .slice base2 ms.length cap2), (5, o), (6, N i)] ∧ Ext h H ∧ Out H h.length 4 o (css ((mvd l ms).take i))) (n := l.length)
    ⟨0, _, by omega, rfl, .refl _, Out.nil _ _ _⟩ ?_
  rintro n f H ⟨i, o, hn, rfl, hx, ho⟩ next
  by_cases hi : i < l.length
  · have hgi : l[i]? = some l[i] := List.getElem?_eq_getElem hi
    have htk : (mvd l ms).take (i + 1) = (mvd l ms).take i ++ [mvO l[i] ms] := by
      rw [List.take_succ_eq_append_getElem (by rw [mvd_length]; exact hi)]
      simp [mvd]
    refine Exists.elim (css_row (hv.ext hx) hgi) fun a hq => Exists.elim hq fun cap' hq => ?_
    have hva := hq.1
    have q0 := hq.2.1
    have q1 := hq.2.2.2.1
    injection hva with e1 e2 e3
    subst e1
    generalize l[i] = x at q0 q1 htk
    repeat' (first | (show EndsR _ _ _ _ _ _ _; first | refine EndsR.seq ?_ | refine EndsR.reg ?_ | refine EndsR.yes rfl ?_ | refine EndsR.no rfl ?_ | refine EndsR.skip ?_ | refine EndsR.block ?_ | refine EndsR.endB ?_ | refine EndsR.exit rfl ?_ | refine EndsR.br rfl (fun hc => ?_) (fun hc => ?_) | refine EndsR.scope ?_ | refine EndsR.inScope ?_ | refine EndsR.label ?_ | refine EndsR.ret rfl ?_ | refine EndsR.nil rfl ?_) | (show EndsG _ _ _ _ _ _ _ _ _; first | refine EndsG.mov rfl rfl ?_ | refine EndsG.lload rfl rfl rfl rfl ?_ | refine EndsG.laddr rfl rfl rfl ?_ | refine EndsG.leq rfl rfl rfl (fun hc => ?_) (fun hc => ?_) | refine EndsG.gtr rfl rfl rfl (fun hc => ?_) (fun hc => ?_) | refine EndsG.geq rfl rfl rfl (fun hc => ?_) (fun hc => ?_) | refine EndsG.eql rfl rfl rfl (fun hc => ?_) (fun hc => ?_) | refine EndsG.neq rfl rfl rfl (fun hc => ?_) (fun hc => ?_) | refine EndsG.load rfl rfl (q0) ?_ | refine EndsG.iaddr rfl rfl rfl (hi) ?_ | refine EndsG.lssT rfl rfl rfl (by omega) ?_ | refine EndsG.lssF rfl rfl rfl (by omega) ?_ | refine EndsG.skip rfl ?_ | refine EndsG.fin ?_ | refine EndsG.go rfl rfl rfl ?_ | refine EndsG.gono rfl rfl rfl ?_ | refine EndsG.skipn rfl ?_))
    refine .loop (fun n2 f H2 => H2 = H ∧ ∃ k : Nat, n2 + k = ms.length ∧ f = [(0, .slice (some a) l.length cap), (1, .slice base2 ms.length cap2), (5, o), (6, N i), (7, .agg (mvO x (ms.take k)).cs.toArray), (8, N k)]) (n := ms.length)
      ⟨rfl, 0, by omega, rfl⟩ ?_
    rintro n2 f H2 ⟨rfl, k, hn2, rfl⟩ nextk
    by_cases hk : k < ms.length
    · have hgk : ms[k]? = some ms[k] := List.getElem?_eq_getElem hk
      have hstep : mvF x (ms.take (k + 1)) = if ms[k].f = x.o then ms[k].t else mvF x (ms.take k) := foldl_take_succ _ _ ms hk
      refine Exists.elim (mcs_row (hw.ext hx) hgk) fun b hq => Exists.elim hq fun cap'' hq => ?_
      have hwa := hq.1
      have m1 := hq.2.2.2.1
      have m2 := hq.2.2.2.2.1
      injection hwa with e1 e2 e3
      subst e1
      generalize ms[k] = m at m1 m2 hstep
      repeat' (first | (show EndsR _ _ _ _ _ _ _; first | refine EndsR.seq ?_ | refine EndsR.reg ?_ | refine EndsR.yes rfl ?_ | refine EndsR.no rfl ?_ | refine EndsR.skip ?_ | refine EndsR.block ?_ | refine EndsR.endB ?_ | refine EndsR.exit rfl ?_ | refine EndsR.br rfl (fun hc => ?_) (fun hc => ?_) | refine EndsR.scope ?_ | refine EndsR.inScope ?_ | refine EndsR.label ?_ | refine EndsR.ret rfl ?_ | refine EndsR.nil rfl ?_) | (show EndsG _ _ _ _ _ _ _ _ _; first | refine EndsG.mov rfl rfl ?_ | refine EndsG.lload rfl rfl rfl rfl ?_ | refine EndsG.laddr rfl rfl rfl ?_ | refine EndsG.leq rfl rfl rfl (fun hc => ?_) (fun hc => ?_) | refine EndsG.gtr rfl rfl rfl (fun hc => ?_) (fun hc => ?_) | refine EndsG.geq rfl rfl rfl (fun hc => ?_) (fun hc => ?_) | refine EndsG.eql rfl rfl rfl (fun hc => ?_) (fun hc => ?_) | refine EndsG.neq rfl rfl rfl (fun hc => ?_) (fun hc => ?_) | refine EndsG.load rfl rfl (q1) ?_ | refine EndsG.load rfl rfl (m1) ?_ | refine EndsG.load rfl rfl (m2) ?_ | refine EndsG.iaddr rfl rfl rfl (hi) ?_ | refine EndsG.iaddr rfl rfl rfl (hk) ?_ | refine EndsG.lssT rfl rfl rfl (by omega) ?_ | refine EndsG.lssF rfl rfl rfl (by omega) ?_ | refine EndsG.addN rfl rfl rfl (by omega) ?_ | refine EndsG.addN (b := 1) rfl rfl rfl (by omega) ?_ | refine EndsG.subN rfl rfl rfl (by omega) ?_ | refine EndsG.subN (b := 1) rfl rfl rfl (by omega) ?_ | refine EndsG.skip rfl ?_ | refine EndsG.fin ?_ | refine EndsG.go rfl rfl rfl ?_ | refine EndsG.gono rfl rfl rfl ?_ | refine EndsG.skipn rfl ?_))
      · refine nextk (n2 - 1) _ _ (by omega) ⟨rfl, k + 1, by omega, ?_⟩
        unfold mvO
        rw [hstep, if_pos ‹_›]
        rfl
      · refine nextk (n2 - 1) _ _ (by omega) ⟨rfl, k + 1, by omega, ?_⟩
        unfold mvO
        rw [hstep, if_neg ‹_›]
        rfl
    · have htm : ms.take k = ms := List.take_of_length_le (by omega)
      rw [htm]
      repeat' (first | (show EndsR _ _ _ _ _ _ _; first | refine EndsR.seq ?_ | refine EndsR.reg ?_ | refine EndsR.yes rfl ?_ | refine EndsR.no rfl ?_ | refine EndsR.skip ?_ | refine EndsR.block ?_ | refine EndsR.endB ?_ | refine EndsR.exit rfl ?_ | refine EndsR.br rfl (fun hc => ?_) (fun hc => ?_) | refine EndsR.scope ?_ | refine EndsR.inScope ?_ | refine EndsR.label ?_ | refine EndsR.ret rfl ?_ | refine EndsR.nil rfl ?_) | (show EndsG _ _ _ _ _ _ _ _ _; first | refine EndsG.mov rfl rfl ?_ | refine EndsG.lload rfl rfl rfl rfl ?_ | refine EndsG.laddr rfl rfl rfl ?_ | refine EndsG.leq rfl rfl rfl (fun hc => ?_) (fun hc => ?_) | refine EndsG.gtr rfl rfl rfl (fun hc => ?_) (fun hc => ?_) | refine EndsG.geq rfl rfl rfl (fun hc => ?_) (fun hc => ?_) | refine EndsG.eql rfl rfl rfl (fun hc => ?_) (fun hc => ?_) | refine EndsG.neq rfl rfl rfl (fun hc => ?_) (fun hc => ?_) | refine EndsG.lssT rfl rfl rfl (by omega) ?_ | refine EndsG.lssF rfl rfl rfl (by omega) ?_ | refine EndsG.skip rfl ?_ | refine EndsG.fin ?_ | refine EndsG.go rfl rfl rfl ?_ | refine EndsG.gono rfl rfl rfl ?_ | refine EndsG.skipn rfl ?_))
      refine Exists.elim (ho.push2 (l0 := h.length) (e := (mvO x ms).cs) (bytes := 32) rfl (Nat.le_refl _) hx.1 (by rw [css_length, List.length_take, mvd_length]; omega) (by omega)) fun o' hq => Exists.elim hq fun H1 hq => ?_
      have hE1 := hq.2.2 h (Nat.le_refl _) hx
      have hN2 := hq.2.1
      rw [css_app, ← htk] at hN2
      refine EndsG.app rfl rfl rfl hq.1 ?_
      repeat' (first | (show EndsR _ _ _ _ _ _ _; first | refine EndsR.seq ?_ | refine EndsR.reg ?_ | refine EndsR.yes rfl ?_ | refine EndsR.no rfl ?_ | refine EndsR.skip ?_ | refine EndsR.block ?_ | refine EndsR.endB ?_ | refine EndsR.exit rfl ?_ | refine EndsR.br rfl (fun hc => ?_) (fun hc => ?_) | refine EndsR.scope ?_ | refine EndsR.inScope ?_ | refine EndsR.label ?_ | refine EndsR.ret rfl ?_ | refine EndsR.nil rfl ?_) | (show EndsG _ _ _ _ _ _ _ _ _; first | refine EndsG.mov rfl rfl ?_ | refine EndsG.lload rfl rfl rfl rfl ?_ | refine EndsG.laddr rfl rfl rfl ?_ | refine EndsG.lss rfl rfl rfl (fun hc => ?_) (fun hc => ?_) | refine EndsG.leq rfl rfl rfl (fun hc => ?_) (fun hc => ?_) | refine EndsG.gtr rfl rfl rfl (fun hc => ?_) (fun hc => ?_) | refine EndsG.geq rfl rfl rfl (fun hc => ?_) (fun hc => ?_) | refine EndsG.eql rfl rfl rfl (fun hc => ?_) (fun hc => ?_) | refine EndsG.neq rfl rfl rfl (fun hc => ?_) (fun hc => ?_) | refine EndsG.addN rfl rfl rfl (by omega) ?_ | refine EndsG.addN (b := 1) rfl rfl rfl (by omega) ?_ | refine EndsG.subN rfl rfl rfl (by omega) ?_ | refine EndsG.subN (b := 1) rfl rfl rfl (by omega) ?_ | refine EndsG.skip rfl ?_ | refine EndsG.fin ?_ | refine EndsG.go rfl rfl rfl ?_ | refine EndsG.gono rfl rfl rfl ?_ | refine EndsG.skipn rfl ?_))
      exact next (n - 1) _ _ (by omega) ⟨i + 1, o', by omega, rfl, hE1, hN2⟩
  · repeat' (first | (show EndsR _ _ _ _ _ _ _; first | refine EndsR.seq ?_ | refine EndsR.reg ?_ | refine EndsR.yes rfl ?_ | refine EndsR.no rfl ?_ | refine EndsR.skip ?_ | refine EndsR.block ?_ | refine EndsR.endB ?_ | refine EndsR.exit rfl ?_ | refine EndsR.br rfl (fun hc => ?_) (fun hc => ?_) | refine EndsR.scope ?_ | refine EndsR.inScope ?_ | refine EndsR.label ?_ | refine EndsR.ret rfl ?_ | refine EndsR.nil rfl ?_) | (show EndsG _ _ _ _ _ _ _ _ _; first | refine EndsG.mov rfl rfl ?_ | refine EndsG.lload rfl rfl rfl rfl ?_ | refine EndsG.laddr rfl rfl rfl ?_ | refine EndsG.leq rfl rfl rfl (fun hc => ?_) (fun hc => ?_) | refine EndsG.gtr rfl rfl rfl (fun hc => ?_) (fun hc => ?_) | refine EndsG.geq rfl rfl rfl (fun hc => ?_) (fun hc => ?_) | refine EndsG.eql rfl rfl rfl (fun hc => ?_) (fun hc => ?_) | refine EndsG.neq rfl rfl rfl (fun hc => ?_) (fun hc => ?_) | refine EndsG.lssT rfl rfl rfl (by omega) ?_ | refine EndsG.lssF rfl rfl rfl (by omega) ?_ | refine EndsG.skip rfl ?_ | refine EndsG.fin ?_ | refine EndsG.go rfl rfl rfl ?_ | refine EndsG.gono rfl rfl rfl ?_ | refine EndsG.skipn rfl ?_))
    have hti : (mvd l ms).take i = mvd l ms := List.take_of_length_le (by rw [mvd_length]; omega)
    rw [hti] at ho
    exact ho.tidy (css_flat _)
end Go.Proofs.Ytclgilndihagiaa

/- Behind a slide objects are apart, in the same order, none farther than ahead: the law's run. -/
set_option linter.unusedVariables false
set_option linter.unusedSimpArgs false
namespace Go.Proofs.Ytclgilndihagiaa
open Go Go.Ir

abbrev ordB : ICode := F.sidingslaw17_PlanOrder.body
abbrev ordQ : Value → Heap → Prop := fun u _ => u = .bool true

def loopIn : ICode → ICode
  | .seq (.seq _ (.block _ (.loop _ b))) _ => b
  | c => c

theorem ord_b1 {K : List Ir.Item} {rs : List IRes} {Q : Value → Heap → Prop} {hp : Heap} {a b : Addr} {cap cap2 n i : Nat} {en arena xo yo yn po : Int} (hi : i < n) (hn : n ≤ 30) (h0 : 0 < i)
    (s1 : loadV hp none ⟨a.block, a.off + i * 4 + 1, none⟩ = some (.int .i64 xo)) (s3 : loadV hp none ⟨a.block, a.off + i * 4 + 3, none⟩ = some (.bool false))
    (t1 : loadV hp none ⟨b.block, b.off + i * 4 + 1, none⟩ = some (.int .i64 yo)) (t2 : loadV hp none ⟨b.block, b.off + i * 4 + 2, none⟩ = some (.int .i64 yn)) (p1 : loadV hp none ⟨b.block, b.off + (i - 1) * 4 + 1, none⟩ = some (.int .i64 po)) (c5 : po < yo)
    (c1 : yo ≤ xo) (c2 : 0 ≤ yo) (c3 : IntKind.i64.wrap (yo + yn) ≤ en)
    (nx : ∀ f', keep [1, 6, 8, 10, 11] f' = [(1, .int .i64 arena), (6, .int .i64 en), (8, .slice (some a) n cap), (10, .slice (some b) n cap2), (11, N (i + 1))] → EndsR En 0 K f' hp rs Q) :
    EndsR En 0 (.code (loopIn (tailC 7 ordB)) :: K) [(1, .int .i64 arena), (6, .int .i64 en), (8, .slice (some a) n cap), (10, .slice (some b) n cap2), (11, N i)] hp rs Q := by
  have hip : i - 1 < n := by omega
  repeat' (first | (show EndsR _ _ _ _ _ _ _; first | refine EndsR.seq ?_ | refine EndsR.reg ?_ | refine EndsR.yes rfl ?_ | refine EndsR.no rfl ?_ | refine EndsR.skip ?_ | refine EndsR.block ?_ | refine EndsR.endB ?_ | refine EndsR.exit rfl ?_ | refine EndsR.br rfl (fun hc => ?_) (fun hc => ?_) | refine EndsR.scope ?_ | refine EndsR.inScope ?_ | refine EndsR.label ?_ | refine EndsR.ret rfl ?_ | refine EndsR.nil rfl ?_) | (show EndsG _ _ _ _ _ _ _ _ _; first | refine EndsG.mov rfl rfl ?_ | refine EndsG.lload rfl rfl rfl rfl ?_ | refine EndsG.laddr rfl rfl rfl ?_ | refine EndsG.leq rfl rfl rfl (fun hc => ?_) (fun hc => ?_) | refine EndsG.eql rfl rfl rfl (fun hc => ?_) (fun hc => ?_) | refine EndsG.load rfl rfl (s1) ?_ | refine EndsG.load rfl rfl (s3) ?_ | refine EndsG.load rfl rfl (t1) ?_ | refine EndsG.load rfl rfl (t2) ?_ | refine EndsG.load rfl rfl (p1) ?_ | refine EndsG.iaddr rfl rfl rfl (hi) ?_ | refine EndsG.iaddr rfl rfl rfl (hip) ?_ | refine EndsG.lssT rfl rfl rfl (by omega) ?_ | refine EndsG.lssF rfl rfl rfl (by omega) ?_ | refine EndsG.gtrT rfl rfl rfl (by omega) ?_ | refine EndsG.gtrF rfl rfl rfl (by omega) ?_ | refine EndsG.geqT rfl rfl rfl (by omega) ?_ | refine EndsG.geqF rfl rfl rfl (by omega) ?_ | refine EndsG.neqT rfl rfl rfl (by omega) ?_ | refine EndsG.neqF rfl rfl rfl (by omega) ?_ | refine EndsG.addN rfl rfl rfl (by omega) ?_ | refine EndsG.addN (b := 1) rfl rfl rfl (by omega) ?_ | refine EndsG.subN rfl rfl rfl (by omega) ?_ | refine EndsG.subN (b := 1) rfl rfl rfl (by omega) ?_ | refine EndsG.skip rfl ?_ | refine EndsG.fin ?_ | refine EndsG.go rfl rfl rfl ?_ | refine EndsG.gono rfl rfl rfl ?_ | refine EndsG.skipn rfl ?_))
  exact nx _ rfl

theorem ord_b2 {K : List Ir.Item} {rs : List IRes} {Q : Value → Heap → Prop} {hp : Heap} {a b : Addr} {cap cap2 n i : Nat} {en arena xo yo yn po : Int} (hi : i < n) (hn : n ≤ 30) (h0 : 0 < i)
    (s1 : loadV hp none ⟨a.block, a.off + i * 4 + 1, none⟩ = some (.int .i64 xo)) (s3 : loadV hp none ⟨a.block, a.off + i * 4 + 3, none⟩ = some (.bool true))
    (t1 : loadV hp none ⟨b.block, b.off + i * 4 + 1, none⟩ = some (.int .i64 yo)) (t2 : loadV hp none ⟨b.block, b.off + i * 4 + 2, none⟩ = some (.int .i64 yn)) (p1 : loadV hp none ⟨b.block, b.off + (i - 1) * 4 + 1, none⟩ = some (.int .i64 po)) (c5 : po < yo)
    (c1 : yo ≤ xo) (c2 : 0 ≤ yo) (c3 : IntKind.i64.wrap (yo + yn) ≤ en) (c4 : yo = xo)
    (nx : ∀ f', keep [1, 6, 8, 10, 11] f' = [(1, .int .i64 arena), (6, .int .i64 en), (8, .slice (some a) n cap), (10, .slice (some b) n cap2), (11, N (i + 1))] → EndsR En 0 K f' hp rs Q) :
    EndsR En 0 (.code (loopIn (tailC 7 ordB)) :: K) [(1, .int .i64 arena), (6, .int .i64 en), (8, .slice (some a) n cap), (10, .slice (some b) n cap2), (11, N i)] hp rs Q := by
  have hip : i - 1 < n := by omega
  repeat' (first | (show EndsR _ _ _ _ _ _ _; first | refine EndsR.seq ?_ | refine EndsR.reg ?_ | refine EndsR.yes rfl ?_ | refine EndsR.no rfl ?_ | refine EndsR.skip ?_ | refine EndsR.block ?_ | refine EndsR.endB ?_ | refine EndsR.exit rfl ?_ | refine EndsR.br rfl (fun hc => ?_) (fun hc => ?_) | refine EndsR.scope ?_ | refine EndsR.inScope ?_ | refine EndsR.label ?_ | refine EndsR.ret rfl ?_ | refine EndsR.nil rfl ?_) | (show EndsG _ _ _ _ _ _ _ _ _; first | refine EndsG.mov rfl rfl ?_ | refine EndsG.lload rfl rfl rfl rfl ?_ | refine EndsG.laddr rfl rfl rfl ?_ | refine EndsG.leq rfl rfl rfl (fun hc => ?_) (fun hc => ?_) | refine EndsG.eql rfl rfl rfl (fun hc => ?_) (fun hc => ?_) | refine EndsG.load rfl rfl (s1) ?_ | refine EndsG.load rfl rfl (s3) ?_ | refine EndsG.load rfl rfl (t1) ?_ | refine EndsG.load rfl rfl (t2) ?_ | refine EndsG.load rfl rfl (p1) ?_ | refine EndsG.iaddr rfl rfl rfl (hi) ?_ | refine EndsG.iaddr rfl rfl rfl (hip) ?_ | refine EndsG.lssT rfl rfl rfl (by omega) ?_ | refine EndsG.lssF rfl rfl rfl (by omega) ?_ | refine EndsG.gtrT rfl rfl rfl (by omega) ?_ | refine EndsG.gtrF rfl rfl rfl (by omega) ?_ | refine EndsG.geqT rfl rfl rfl (by omega) ?_ | refine EndsG.geqF rfl rfl rfl (by omega) ?_ | refine EndsG.neqT rfl rfl rfl (by omega) ?_ | refine EndsG.neqF rfl rfl rfl (by omega) ?_ | refine EndsG.addN rfl rfl rfl (by omega) ?_ | refine EndsG.addN (b := 1) rfl rfl rfl (by omega) ?_ | refine EndsG.subN rfl rfl rfl (by omega) ?_ | refine EndsG.subN (b := 1) rfl rfl rfl (by omega) ?_ | refine EndsG.skip rfl ?_ | refine EndsG.fin ?_ | refine EndsG.go rfl rfl rfl ?_ | refine EndsG.gono rfl rfl rfl ?_ | refine EndsG.skipn rfl ?_))
  exact nx _ rfl

theorem ord_b3 {K : List Ir.Item} {rs : List IRes} {Q : Value → Heap → Prop} {hp : Heap} {a b : Addr} {cap cap2 n i : Nat} {en arena xo yo yn : Int} (hi : i < n) (hn : n ≤ 30) (h0 : ¬ 0 < i)
    (s1 : loadV hp none ⟨a.block, a.off + i * 4 + 1, none⟩ = some (.int .i64 xo)) (s3 : loadV hp none ⟨a.block, a.off + i * 4 + 3, none⟩ = some (.bool false))
    (t1 : loadV hp none ⟨b.block, b.off + i * 4 + 1, none⟩ = some (.int .i64 yo)) (t2 : loadV hp none ⟨b.block, b.off + i * 4 + 2, none⟩ = some (.int .i64 yn))
    (c1 : yo ≤ xo) (c2 : 0 ≤ yo) (c3 : IntKind.i64.wrap (yo + yn) ≤ en)
    (nx : ∀ f', keep [1, 6, 8, 10, 11] f' = [(1, .int .i64 arena), (6, .int .i64 en), (8, .slice (some a) n cap), (10, .slice (some b) n cap2), (11, N (i + 1))] → EndsR En 0 K f' hp rs Q) :
    EndsR En 0 (.code (loopIn (tailC 7 ordB)) :: K) [(1, .int .i64 arena), (6, .int .i64 en), (8, .slice (some a) n cap), (10, .slice (some b) n cap2), (11, N i)] hp rs Q := by
  have hip := hi
  repeat' (first | (show EndsR _ _ _ _ _ _ _; first | refine EndsR.seq ?_ | refine EndsR.reg ?_ | refine EndsR.yes rfl ?_ | refine EndsR.no rfl ?_ | refine EndsR.skip ?_ | refine EndsR.block ?_ | refine EndsR.endB ?_ | refine EndsR.exit rfl ?_ | refine EndsR.br rfl (fun hc => ?_) (fun hc => ?_) | refine EndsR.scope ?_ | refine EndsR.inScope ?_ | refine EndsR.label ?_ | refine EndsR.ret rfl ?_ | refine EndsR.nil rfl ?_) | (show EndsG _ _ _ _ _ _ _ _ _; first | refine EndsG.mov rfl rfl ?_ | refine EndsG.lload rfl rfl rfl rfl ?_ | refine EndsG.laddr rfl rfl rfl ?_ | refine EndsG.leq rfl rfl rfl (fun hc => ?_) (fun hc => ?_) | refine EndsG.eql rfl rfl rfl (fun hc => ?_) (fun hc => ?_) | refine EndsG.load rfl rfl (s1) ?_ | refine EndsG.load rfl rfl (s3) ?_ | refine EndsG.load rfl rfl (t1) ?_ | refine EndsG.load rfl rfl (t2) ?_ | refine EndsG.iaddr rfl rfl rfl (hi) ?_ | refine EndsG.iaddr rfl rfl rfl (hip) ?_ | refine EndsG.lssT rfl rfl rfl (by omega) ?_ | refine EndsG.lssF rfl rfl rfl (by omega) ?_ | refine EndsG.gtrT rfl rfl rfl (by omega) ?_ | refine EndsG.gtrF rfl rfl rfl (by omega) ?_ | refine EndsG.geqT rfl rfl rfl (by omega) ?_ | refine EndsG.geqF rfl rfl rfl (by omega) ?_ | refine EndsG.neqT rfl rfl rfl (by omega) ?_ | refine EndsG.neqF rfl rfl rfl (by omega) ?_ | refine EndsG.addN rfl rfl rfl (by omega) ?_ | refine EndsG.addN (b := 1) rfl rfl rfl (by omega) ?_ | refine EndsG.subN rfl rfl rfl (by omega) ?_ | refine EndsG.subN (b := 1) rfl rfl rfl (by omega) ?_ | refine EndsG.skip rfl ?_ | refine EndsG.fin ?_ | refine EndsG.go rfl rfl rfl ?_ | refine EndsG.gono rfl rfl rfl ?_ | refine EndsG.skipn rfl ?_))
  exact nx _ rfl

theorem ord_b4 {K : List Ir.Item} {rs : List IRes} {Q : Value → Heap → Prop} {hp : Heap} {a b : Addr} {cap cap2 n i : Nat} {en arena xo yo yn : Int} (hi : i < n) (hn : n ≤ 30) (h0 : ¬ 0 < i)
    (s1 : loadV hp none ⟨a.block, a.off + i * 4 + 1, none⟩ = some (.int .i64 xo)) (s3 : loadV hp none ⟨a.block, a.off + i * 4 + 3, none⟩ = some (.bool true))
    (t1 : loadV hp none ⟨b.block, b.off + i * 4 + 1, none⟩ = some (.int .i64 yo)) (t2 : loadV hp none ⟨b.block, b.off + i * 4 + 2, none⟩ = some (.int .i64 yn))
    (c1 : yo ≤ xo) (c2 : 0 ≤ yo) (c3 : IntKind.i64.wrap (yo + yn) ≤ en) (c4 : yo = xo)
    (nx : ∀ f', keep [1, 6, 8, 10, 11] f' = [(1, .int .i64 arena), (6, .int .i64 en), (8, .slice (some a) n cap), (10, .slice (some b) n cap2), (11, N (i + 1))] → EndsR En 0 K f' hp rs Q) :
    EndsR En 0 (.code (loopIn (tailC 7 ordB)) :: K) [(1, .int .i64 arena), (6, .int .i64 en), (8, .slice (some a) n cap), (10, .slice (some b) n cap2), (11, N i)] hp rs Q := by
  have hip := hi
  repeat' (first | (show EndsR _ _ _ _ _ _ _; first | refine EndsR.seq ?_ | refine EndsR.reg ?_ | refine EndsR.yes rfl ?_ | refine EndsR.no rfl ?_ | refine EndsR.skip ?_ | refine EndsR.block ?_ | refine EndsR.endB ?_ | refine EndsR.exit rfl ?_ | refine EndsR.br rfl (fun hc => ?_) (fun hc => ?_) | refine EndsR.scope ?_ | refine EndsR.inScope ?_ | refine EndsR.label ?_ | refine EndsR.ret rfl ?_ | refine EndsR.nil rfl ?_) | (show EndsG _ _ _ _ _ _ _ _ _; first | refine EndsG.mov rfl rfl ?_ | refine EndsG.lload rfl rfl rfl rfl ?_ | refine EndsG.laddr rfl rfl rfl ?_ | refine EndsG.leq rfl rfl rfl (fun hc => ?_) (fun hc => ?_) | refine EndsG.eql rfl rfl rfl (fun hc => ?_) (fun hc => ?_) | refine EndsG.load rfl rfl (s1) ?_ | refine EndsG.load rfl rfl (s3) ?_ | refine EndsG.load rfl rfl (t1) ?_ | refine EndsG.load rfl rfl (t2) ?_ | refine EndsG.iaddr rfl rfl rfl (hi) ?_ | refine EndsG.iaddr rfl rfl rfl (hip) ?_ | refine EndsG.lssT rfl rfl rfl (by omega) ?_ | refine EndsG.lssF rfl rfl rfl (by omega) ?_ | refine EndsG.gtrT rfl rfl rfl (by omega) ?_ | refine EndsG.gtrF rfl rfl rfl (by omega) ?_ | refine EndsG.geqT rfl rfl rfl (by omega) ?_ | refine EndsG.geqF rfl rfl rfl (by omega) ?_ | refine EndsG.neqT rfl rfl rfl (by omega) ?_ | refine EndsG.neqF rfl rfl rfl (by omega) ?_ | refine EndsG.addN rfl rfl rfl (by omega) ?_ | refine EndsG.addN (b := 1) rfl rfl rfl (by omega) ?_ | refine EndsG.subN rfl rfl rfl (by omega) ?_ | refine EndsG.subN (b := 1) rfl rfl rfl (by omega) ?_ | refine EndsG.skip rfl ?_ | refine EndsG.fin ?_ | refine EndsG.go rfl rfl rfl ?_ | refine EndsG.gono rfl rfl rfl ?_ | refine EndsG.skipn rfl ?_))
  exact nx _ rfl

theorem order_t7 {hp : Heap} {v3 v4 : Value} {so tl : List Obj} {en arena : Int} (f0 : Fr) (hs : Sl hp 4 v3 (css so)) (ht : Sl hp 4 v4 (css tl)) (hsl : so.length ≤ 30) (htl : tl.length = so.length)
    (hE : ∀ (i : Nat) (x y : Obj), so[i]? = some x → tl[i]? = some y → y.o ≤ x.o ∧ 0 ≤ y.o ∧ IntKind.i64.wrap (y.o + y.n) ≤ en ∧ (x.fx = true → y.o = x.o))
    (hrow : ∀ (i : Nat) (x y : Obj), tl[i]? = some x → tl[i + 1]? = some y → x.o < y.o) (hea : en ≤ arena) :
    EndsR En 0 [.code (tailC 7 ordB)] ((1, .int .i64 arena) :: (6, .int .i64 en) :: (8, v3) :: (10, v4) :: f0) hp F.sidingslaw17_PlanOrder.res ordQ := by
  refine Exists.elim hs.len fun base hq => Exists.elim hq fun cap hve => ?_
  refine Exists.elim ht.len fun base2 hq => Exists.elim hq fun cap2 hwe => ?_
  rw [css_length] at hve hwe
  subst hve hwe
  repeat' (first | (show EndsR _ _ _ _ _ _ _; first | refine EndsR.seq ?_ | refine EndsR.reg ?_ | refine EndsR.yes rfl ?_ | refine EndsR.no rfl ?_ | refine EndsR.skip ?_ | refine EndsR.block ?_ | refine EndsR.endB ?_ | refine EndsR.exit rfl ?_ | refine EndsR.br rfl (fun hc => ?_) (fun hc => ?_) | refine EndsR.scope ?_ | refine EndsR.inScope ?_ | refine EndsR.label ?_ | refine EndsR.ret rfl ?_ | refine EndsR.nil rfl ?_) | (show EndsG _ _ _ _ _ _ _ _ _; first | refine EndsG.mov rfl rfl ?_ | refine EndsG.lload rfl rfl rfl rfl ?_ | refine EndsG.laddr rfl rfl rfl ?_ | refine EndsG.lss rfl rfl rfl (fun hc => ?_) (fun hc => ?_) | refine EndsG.leq rfl rfl rfl (fun hc => ?_) (fun hc => ?_) | refine EndsG.gtr rfl rfl rfl (fun hc => ?_) (fun hc => ?_) | refine EndsG.geq rfl rfl rfl (fun hc => ?_) (fun hc => ?_) | refine EndsG.eql rfl rfl rfl (fun hc => ?_) (fun hc => ?_) | refine EndsG.neq rfl rfl rfl (fun hc => ?_) (fun hc => ?_) | refine EndsG.skip rfl ?_ | refine EndsG.fin ?_ | refine EndsG.go rfl rfl rfl ?_ | refine EndsG.gono rfl rfl rfl ?_ | refine EndsG.skipn rfl ?_))
  refine .loop (fun z f H => H = hp ∧ ∃ i : Nat, z + i = so.length ∧ f = [(1, .int .i64 arena), (6, .int .i64 en), (8, .slice base so.length cap), (10, .slice base2 tl.length cap2), (11, N i)]) (n := so.length) ⟨rfl, 0, by omega, rfl⟩ ?_
  rintro z f H ⟨rfl, i, hz, rfl⟩ next
  by_cases hi : i < so.length
  · have hit : i < tl.length := by omega
    refine Exists.elim (css_row hs (gt_get hi)) fun a hq => Exists.elim hq fun cap' hq => ?_
    have hva := hq.1
    have s1 := hq.2.2.2.1
    have s3 := hq.2.2.2.2.2
    refine Exists.elim (css_row ht (gt_get hit)) fun b hq => Exists.elim hq fun cap'' hq => ?_
    have hwa := hq.1
    have t1 := hq.2.2.2.1
    have t2 := hq.2.2.2.2.1
    injection hva with e1 _ _
    injection hwa with e2 _ _
    subst e1 e2
    obtain ⟨c1, c2, c3, c4⟩ := hE i _ _ (gt_get hi) (gt_get hit)
    rw [htl]
    have nx : ∀ f', keep [1, 6, 8, 10, 11] f' = [(1, .int .i64 arena), (6, .int .i64 en), (8, .slice (some a) so.length cap), (10, .slice (some b) so.length cap2), (11, N (i + 1))] → _ := fun f' g => next (z - 1) f' _ (by omega) ⟨rfl, i + 1, by omega, by rw [htl]; exact g⟩
    by_cases h0 : 0 < i
    · have hip : i - 1 < tl.length := by omega
      refine Exists.elim (css_row ht (gt_get hip)) fun b' hq => Exists.elim hq fun cap''' hq => ?_
      have hwp := hq.1
      have p1 := hq.2.2.2.1
      injection hwp with e3 _ _
      injection e3 with e3
      subst e3
      have c5 := hrow (i - 1) _ _ (gt_get hip) (by rw [show i - 1 + 1 = i by omega]; exact gt_get hit)
      rcases hxi : gt so i with ⟨xs, xo, xn, xf⟩
      rw [hxi] at s1 s3 c1 c4
      cases xf with
      | false => exact ord_b1 hi hsl h0 s1 s3 t1 t2 p1 c5 c1 c2 c3 nx
      | true => exact ord_b2 hi hsl h0 s1 s3 t1 t2 p1 c5 c1 c2 c3 (c4 rfl) nx
    · rcases hxi : gt so i with ⟨xs, xo, xn, xf⟩
      rw [hxi] at s1 s3 c1 c4
      cases xf with
      | false => exact ord_b3 hi hsl h0 s1 s3 t1 t2 c1 c2 c3 nx
      | true => exact ord_b4 hi hsl h0 s1 s3 t1 t2 c1 c2 c3 (c4 rfl) nx
  · repeat' (first | (show EndsR _ _ _ _ _ _ _; first | refine EndsR.seq ?_ | refine EndsR.reg ?_ | refine EndsR.yes rfl ?_ | refine EndsR.no rfl ?_ | refine EndsR.skip ?_ | refine EndsR.block ?_ | refine EndsR.endB ?_ | refine EndsR.exit rfl ?_ | refine EndsR.br rfl (fun hc => ?_) (fun hc => ?_) | refine EndsR.scope ?_ | refine EndsR.inScope ?_ | refine EndsR.label ?_ | refine EndsR.ret rfl ?_ | refine EndsR.nil rfl ?_) | (show EndsG _ _ _ _ _ _ _ _ _; first | refine EndsG.mov rfl rfl ?_ | refine EndsG.lload rfl rfl rfl rfl ?_ | refine EndsG.laddr rfl rfl rfl ?_ | refine EndsG.gtr rfl rfl rfl (fun hc => ?_) (fun hc => ?_) | refine EndsG.geq rfl rfl rfl (fun hc => ?_) (fun hc => ?_) | refine EndsG.eql rfl rfl rfl (fun hc => ?_) (fun hc => ?_) | refine EndsG.neq rfl rfl rfl (fun hc => ?_) (fun hc => ?_) | refine EndsG.lssT rfl rfl rfl (by omega) ?_ | refine EndsG.lssF rfl rfl rfl (by omega) ?_ | refine EndsG.leqT rfl rfl rfl (by omega) ?_ | refine EndsG.leqF rfl rfl rfl (by omega) ?_ | refine EndsG.call rfl rfl (live_c _ _) ?_ | refine EndsG.skip rfl ?_ | refine EndsG.fin ?_ | refine EndsG.go rfl rfl rfl ?_ | refine EndsG.gono rfl rfl rfl ?_ | refine EndsG.skipn rfl ?_))
    rfl

theorem order_t5 {hp : Heap} {v3 m1 : Value} {so : List Obj} {ms : List Mv} {en arena : Int} (f0 : Fr) (hs : Sl hp 4 v3 (css so)) (hm : Sl hp 4 m1 (mcs ms)) (hsl : so.length ≤ 30) (hml : ms.length ≤ 1000) (cut : Nat → Value)
    (hcut : ∀ (i : Nat) (f : Fr) (H : Heap) (x y : Operand), i ≤ ms.length → ev f x = some m1 → ev f y = some (N i) → iop (callR En 0) 0 (.slice 4 x none (some y) none) f H = some (cut i, H))
    (hcs : ∀ i, i ≤ ms.length → Sl hp 4 (cut i) (mcs (ms.take i))) (hap : ∀ i, i ≤ ms.length → apartP (mvd so (ms.take i)))
    (hE : ∀ (i : Nat) (x y : Obj), so[i]? = some x → (mvd so ms)[i]? = some y → y.o ≤ x.o ∧ 0 ≤ y.o ∧ IntKind.i64.wrap (y.o + y.n) ≤ en ∧ (x.fx = true → y.o = x.o))
    (hrow : ∀ (i : Nat) (x y : Obj), (mvd so ms)[i]? = some x → (mvd so ms)[i + 1]? = some y → x.o < y.o) (hea : en ≤ arena) :
    EndsR En 0 [.code (tailC 5 ordB)] ((1, .int .i64 arena) :: (5, m1) :: (6, .int .i64 en) :: (8, v3) :: f0) hp F.sidingslaw17_PlanOrder.res ordQ := by
  refine Exists.elim hm.len fun base2 hq => Exists.elim hq fun cap2 hme => ?_
  rw [mcs_length] at hme
  repeat' (first | (show EndsR _ _ _ _ _ _ _; first | refine EndsR.seq ?_ | refine EndsR.reg ?_ | refine EndsR.yes rfl ?_ | refine EndsR.no rfl ?_ | refine EndsR.skip ?_ | refine EndsR.block ?_ | refine EndsR.endB ?_ | refine EndsR.exit rfl ?_ | refine EndsR.br rfl (fun hc => ?_) (fun hc => ?_) | refine EndsR.scope ?_ | refine EndsR.inScope ?_ | refine EndsR.label ?_ | refine EndsR.ret rfl ?_ | refine EndsR.nil rfl ?_) | (show EndsG _ _ _ _ _ _ _ _ _; first | refine EndsG.mov rfl rfl ?_ | refine EndsG.lload rfl rfl rfl rfl ?_ | refine EndsG.laddr rfl rfl rfl ?_ | refine EndsG.lss rfl rfl rfl (fun hc => ?_) (fun hc => ?_) | refine EndsG.leq rfl rfl rfl (fun hc => ?_) (fun hc => ?_) | refine EndsG.gtr rfl rfl rfl (fun hc => ?_) (fun hc => ?_) | refine EndsG.geq rfl rfl rfl (fun hc => ?_) (fun hc => ?_) | refine EndsG.eql rfl rfl rfl (fun hc => ?_) (fun hc => ?_) | refine EndsG.neq rfl rfl rfl (fun hc => ?_) (fun hc => ?_) | refine EndsG.skip rfl ?_ | refine EndsG.fin ?_ | refine EndsG.go rfl rfl rfl ?_ | refine EndsG.gono rfl rfl rfl ?_ | refine EndsG.skipn rfl ?_))
  refine .loop (fun z f H => ∃ i : Nat, z + i = ms.length + 1 ∧ f = [(1, .int .i64 arena), (5, m1), (6, .int .i64 en), (8, v3), (9, N i)] ∧ Ext hp H) (n := ms.length + 1) ⟨0, by omega, rfl, .refl _⟩ ?_
  rintro z f H ⟨i, hz, rfl, hx⟩ next
  subst hme
  by_cases hi : i ≤ ms.length
  · have hM := fun lo => moved_spec lo (hs.ext hx) ((hcs i hi).ext hx) (by omega) (by rw [List.length_take]; omega)
    have h4 := made_sl (h := H) (css_len (mvd so (ms.take i)))
    generalize made H 4 (css (mvd so (ms.take i))) = p at hM h4
    obtain ⟨v4, hp4⟩ := p
    simp only at hM h4
    have hA := fun lo => refApart_spec (prims := pr) rfl rfl rfl (lo := lo) h4.1 (by rw [mvd_length]; omega)
    rw [apartB_true (hap i hi)] at hA
    repeat' (first | (show EndsR _ _ _ _ _ _ _; first | refine EndsR.seq ?_ | refine EndsR.reg ?_ | refine EndsR.yes rfl ?_ | refine EndsR.no rfl ?_ | refine EndsR.skip ?_ | refine EndsR.block ?_ | refine EndsR.endB ?_ | refine EndsR.exit rfl ?_ | refine EndsR.br rfl (fun hc => ?_) (fun hc => ?_) | refine EndsR.scope ?_ | refine EndsR.inScope ?_ | refine EndsR.label ?_ | refine EndsR.ret rfl ?_ | refine EndsR.nil rfl ?_) | (show EndsG _ _ _ _ _ _ _ _ _; first | refine EndsG.mov rfl rfl ?_ | refine EndsG.lload rfl rfl rfl rfl ?_ | refine EndsG.laddr rfl rfl rfl ?_ | refine EndsG.lss rfl rfl rfl (fun hc => ?_) (fun hc => ?_) | refine EndsG.gtr rfl rfl rfl (fun hc => ?_) (fun hc => ?_) | refine EndsG.geq rfl rfl rfl (fun hc => ?_) (fun hc => ?_) | refine EndsG.eql rfl rfl rfl (fun hc => ?_) (fun hc => ?_) | refine EndsG.neq rfl rfl rfl (fun hc => ?_) (fun hc => ?_) | refine EndsG.leqT rfl rfl rfl (by omega) ?_ | refine EndsG.leqF rfl rfl rfl (by omega) ?_ | refine EndsG.go rfl (hcut _ _ _ _ _ hi rfl rfl) rfl ?_ | refine EndsG.call rfl rfl (hM _) ?_ | refine EndsG.call rfl rfl (hA _) ?_ | refine EndsG.addN rfl rfl rfl (by omega) ?_ | refine EndsG.addN (b := 1) rfl rfl rfl (by omega) ?_ | refine EndsG.subN rfl rfl rfl (by omega) ?_ | refine EndsG.subN (b := 1) rfl rfl rfl (by omega) ?_ | refine EndsG.skip rfl ?_ | refine EndsG.fin ?_ | refine EndsG.go rfl rfl rfl ?_ | refine EndsG.gono rfl rfl rfl ?_ | refine EndsG.skipn rfl ?_))
    exact next (z - 1) _ _ (by omega) ⟨i + 1, by omega, rfl, hx.trans h4.2⟩
  · have hM := fun lo => moved_spec lo (hs.ext hx) (hm.ext hx) (by omega) hml
    have h4 := made_sl (h := H) (css_len (mvd so ms))
    generalize made H 4 (css (mvd so ms)) = p at hM h4
    obtain ⟨v4, hp4⟩ := p
    simp only at hM h4
    have nx := fun f0 => order_t7 (arena := arena) f0 (hs.ext (hx.trans h4.2)) h4.1 hsl (mvd_length so ms) hE hrow hea
    repeat' (first | (show EndsR _ _ _ _ _ _ _; first | (exact EndsR.fe' (nx _) (.cons rfl (.cons rfl (.cons rfl (.cons rfl (FE.refl _)))))) | refine EndsR.seq ?_ | refine EndsR.reg ?_ | refine EndsR.yes rfl ?_ | refine EndsR.no rfl ?_ | refine EndsR.skip ?_ | refine EndsR.block ?_ | refine EndsR.endB ?_ | refine EndsR.exit rfl ?_ | refine EndsR.br rfl (fun hc => ?_) (fun hc => ?_) | refine EndsR.scope ?_ | refine EndsR.inScope ?_ | refine EndsR.label ?_ | refine EndsR.ret rfl ?_ | refine EndsR.nil rfl ?_) | (show EndsG _ _ _ _ _ _ _ _ _; first | refine EndsG.mov rfl rfl ?_ | refine EndsG.lload rfl rfl rfl rfl ?_ | refine EndsG.laddr rfl rfl rfl ?_ | refine EndsG.lss rfl rfl rfl (fun hc => ?_) (fun hc => ?_) | refine EndsG.gtr rfl rfl rfl (fun hc => ?_) (fun hc => ?_) | refine EndsG.geq rfl rfl rfl (fun hc => ?_) (fun hc => ?_) | refine EndsG.eql rfl rfl rfl (fun hc => ?_) (fun hc => ?_) | refine EndsG.neq rfl rfl rfl (fun hc => ?_) (fun hc => ?_) | refine EndsG.leqT rfl rfl rfl (by omega) ?_ | refine EndsG.leqF rfl rfl rfl (by omega) ?_ | refine EndsG.call rfl rfl (hM _) ?_ | refine EndsG.skip rfl ?_ | refine EndsG.fin ?_ | refine EndsG.go rfl rfl rfl ?_ | refine EndsG.gono rfl rfl rfl ?_ | refine EndsG.skipn rfl ?_))

theorem mcs_take {h : Heap} {b cap : Nat} {ms : List Mv} (hv : Sl h 4 (.slice (some (loose b 0)) ms.length cap) (mcs ms)) {i : Nat} (hi : i ≤ ms.length) : Sl h 4 (.slice (some (loose b 0)) i cap) (mcs (ms.take i)) := by
  refine ⟨mcs_len _, ?_⟩
  have hlt : (ms.take i).length = i := by rw [List.length_take]; omega
  rcases hv.2 with ⟨h1, base, cap', h2⟩ | ⟨a, cap', h1, h2⟩
  · have : ms = [] := by cases ms with | nil => rfl | cons _ _ => simp [mcs] at h1
    subst this
    refine .inl ⟨by simp [mcs], some (loose b 0), cap, ?_⟩
    simp at hi
    rw [hi]
  · rw [mcs_length] at h1 h2
    injection h1 with e1 e2 e3
    injection e1 with e1
    subst e1
    refine .inr ⟨loose b 0, cap, by rw [mcs_length, hlt], ?_⟩
    obtain ⟨cs, ro, hb, g1, g2⟩ := ldN_some h2
    have e : (mcs ms).flatten = (mcs (ms.take i)).flatten ++ (mcs (ms.drop i)).flatten := by
      rw [← List.flatten_append]
      congr 1
      simp only [mcs, ← List.map_append, List.take_append_drop]
    have hlen : (mcs (ms.take i)).flatten.length = i * 4 := by rw [flat_len (mcs_len _), mcs_length, hlt]
    have ht : (mcs (ms.take i)).flatten = (mcs ms).flatten.take (i * 4) := by rw [e, ← hlen, List.take_left]
    rw [mcs_length, hlt, ldN_of hb (by omega), ht, g2, List.take_take, Nat.min_eq_left (by omega)]

theorem order_run {h : Heap} {v : Value} {l : List Obj} {arena : Int} (hv : Sl h 4 v (css l)) : ∃ u h', callR En 0 Id.sidingslaw17_PlanOrder [v, .int .i64 arena] h = some (u, h') ∧ u = .bool true := by
  refine call_ex rfl Fn.sidingslaw17_PlanOrder rfl rfl ?_
  refine Exists.elim hv.len fun base hq => Exists.elim hq fun cap hve => ?_
  rw [css_length] at hve
  subst hve
  by_cases hl : l.length ≤ 30
  · have hO := fun lo => own_sp lo hv (by omega)
    have h1 := made_sl (h := h) (css_len l)
    have h1n := fun h0 => made_nil (h := h) (l := l) h0
    generalize made h 4 (css l) = p1 at hO h1 h1n
    obtain ⟨v1, hp1⟩ := p1
    simp only at h1 h1n
    have hP := fun lo => planSlide_spec lo (arena := arena) h1.1 h1n (by omega)
    rcases okN_cases arena l with h0 | h0
    · have hok : okP arena l := Classical.byContradiction fun hn => by rw [okN_1 hn] at h0; cases h0
      have hg := good_of hok
      have hsl : (sortR l).length ≤ 30 := by rw [sortR_len]; exact hl
      have hml : (slideL (sortR l)).1.length ≤ 1000 := by have := slideL_len (sortR l); omega
      have hlow : ∀ x ∈ sortR l, (0 : Int) ≤ x.o := fun x hx => (hg.each x hx).1
      rw [h0] at hP
      simp only [slideR_ok] at hP
      obtain ⟨q1, q2, q3, q4⟩ := mix_each hg (Int.le_refl 0) hg.low hlow
      have hall := mvd_all hg (Int.le_refl 0) hlow
      have hgood := (mix_good (k := (sortR l).length) hg (Int.le_refl 0) hlow).1
      have hrow : ∀ (i : Nat) (x y : Obj), (mixG (sortR l) 0 (sortR l).length)[i]? = some x → (mixG (sortR l) 0 (sortR l).length)[i + 1]? = some y → x.o < y.o := fun i x y hx hy => by
        obtain ⟨hi, rfl⟩ := List.getElem?_eq_some_iff.1 hx
        obtain ⟨hj, rfl⟩ := List.getElem?_eq_some_iff.1 hy
        have := List.pairwise_iff_getElem.1 hgood.row i (i + 1) hi hj (by omega)
        have := (hgood.each _ (List.getElem_mem hi)).2.1
        omega
      have hap : ∀ i, i ≤ (slideL (sortR l)).1.length → apartP (mvd (sortR l) ((slideL (sortR l)).1.take i)) := fun i hi => by
        rw [slideL_G] at hi ⊢
        obtain ⟨k, _, hk⟩ := mvd_mix hg (Int.le_refl 0) hlow i hi
        rw [hk]
        exact good_apart (mix_good hg (Int.le_refl 0) hlow).1
      rw [← slideL_G] at q1 q2 q4 hall
      rw [← hall] at q4 hrow
      have h2 := made_sl (h := hp1) (mcs_len (slideL (sortR l)).1)
      have hshape : ((slideL (sortR l)).1 = [] ∧ made hp1 4 (mcs (slideL (sortR l)).1) = (.slice none 0 0, hp1)) ∨ ∃ b, (made hp1 4 (mcs (slideL (sortR l)).1)).1 = .slice (some (loose b 0)) (slideL (sortR l)).1.length 4 := by
        by_cases hne : (slideL (sortR l)).1 = []
        · exact .inl ⟨hne, by rw [hne]; rfl⟩
        · refine .inr ⟨hp1.length, ?_⟩
          unfold made
          rw [if_neg (by simpa [mcs] using hne), mcs_length]
      have hS := fun lo (hh : Heap) (e : Ext h hh) => refSort_spec lo (hv.ext e) (by omega)
      generalize (slideL (sortR l)).2 = en at hP q1 q2 q4
      generalize (slideL (sortR l)).1 = ms at hP q4 hall hrow hap h2 hshape hml
      generalize made hp1 4 (mcs ms) = p2 at hP h2 hshape
      obtain ⟨m1, hp2⟩ := p2
      simp only at hP h2 hshape
      have hS2 := fun lo => hS lo hp2 (h1.2.trans h2.2)
      have h3 := made_sl (h := hp2) (css_len (sortR l))
      generalize made hp2 4 (css (sortR l)) = p3 at hS2 h3
      obtain ⟨v3, hp3⟩ := p3
      simp only at hS2 h3
      have hm3 := h2.1.ext h3.2
      rcases hshape with ⟨hne, hp⟩ | ⟨b, hb⟩
      · injection hp with g1 g2
        subst g1 hne
        have nx := fun f0 => order_t5 (arena := arena) (en := en) f0 h3.1 hm3 hsl hml (fun _ => .slice none 0 0) (fun i f H x y hi hx hy => by
            have : i = 0 := by simpa using hi
            subst this
            simp only [iop, hx, evo, hy, islice, ibounds, ibMax, ibHigh, ibound, ibLow]
            rfl) (fun i hi => by simpa using hm3) hap q4 hrow q2
        repeat' (first | (show EndsR _ _ _ _ _ _ _; first | (exact EndsR.fe' (nx _) (.cons rfl (.cons rfl (.cons rfl (.cons rfl (FE.refl _)))))) | refine EndsR.seq ?_ | refine EndsR.reg ?_ | refine EndsR.yes rfl ?_ | refine EndsR.no rfl ?_ | refine EndsR.skip ?_ | refine EndsR.block ?_ | refine EndsR.endB ?_ | refine EndsR.exit rfl ?_ | refine EndsR.br rfl (fun hc => ?_) (fun hc => ?_) | refine EndsR.scope ?_ | refine EndsR.inScope ?_ | refine EndsR.label ?_ | refine EndsR.ret rfl ?_ | refine EndsR.nil rfl ?_) | (show EndsG _ _ _ _ _ _ _ _ _; first | refine EndsG.mov rfl rfl ?_ | refine EndsG.lload rfl rfl rfl rfl ?_ | refine EndsG.laddr rfl rfl rfl ?_ | refine EndsG.lss rfl rfl rfl (fun hc => ?_) (fun hc => ?_) | refine EndsG.leq rfl rfl rfl (fun hc => ?_) (fun hc => ?_) | refine EndsG.geq rfl rfl rfl (fun hc => ?_) (fun hc => ?_) | refine EndsG.eql rfl rfl rfl (fun hc => ?_) (fun hc => ?_) | refine EndsG.gtrT rfl rfl rfl (by omega) ?_ | refine EndsG.gtrF rfl rfl rfl (by omega) ?_ | refine EndsG.neqT rfl rfl rfl (by omega) ?_ | refine EndsG.neqF rfl rfl rfl (by omega) ?_ | refine EndsG.call rfl rfl (hO _) ?_ | refine EndsG.call rfl rfl (hP _) ?_ | refine EndsG.call rfl rfl (hS2 _) ?_ | refine EndsG.skip rfl ?_ | refine EndsG.fin ?_ | refine EndsG.go rfl rfl rfl ?_ | refine EndsG.gono rfl rfl rfl ?_ | refine EndsG.skipn rfl ?_))
      · subst hb
        have hcs : ∀ i, i ≤ ms.length → Sl hp3 4 (.slice (some (loose b 0)) i 4) (mcs (ms.take i)) := fun i hi => mcs_take hm3 hi
        have nx := fun f0 => order_t5 (arena := arena) (en := en) f0 h3.1 hm3 hsl hml (fun i => .slice (some (loose b 0)) i 4) (fun i f H x y hi hx hy => by
            simp only [iop, hx, evo, hy, islice, loose, if_true, ibounds, ibMax, ibHigh, ibound, ibLow]
            rw [if_pos ⟨by omega, by omega⟩]
            simp) hcs hap q4 hrow q2
        repeat' (first | (show EndsR _ _ _ _ _ _ _; first | (exact EndsR.fe' (nx _) (.cons rfl (.cons rfl (.cons rfl (.cons rfl (FE.refl _)))))) | refine EndsR.seq ?_ | refine EndsR.reg ?_ | refine EndsR.yes rfl ?_ | refine EndsR.no rfl ?_ | refine EndsR.skip ?_ | refine EndsR.block ?_ | refine EndsR.endB ?_ | refine EndsR.exit rfl ?_ | refine EndsR.br rfl (fun hc => ?_) (fun hc => ?_) | refine EndsR.scope ?_ | refine EndsR.inScope ?_ | refine EndsR.label ?_ | refine EndsR.ret rfl ?_ | refine EndsR.nil rfl ?_) | (show EndsG _ _ _ _ _ _ _ _ _; first | refine EndsG.mov rfl rfl ?_ | refine EndsG.lload rfl rfl rfl rfl ?_ | refine EndsG.laddr rfl rfl rfl ?_ | refine EndsG.lss rfl rfl rfl (fun hc => ?_) (fun hc => ?_) | refine EndsG.leq rfl rfl rfl (fun hc => ?_) (fun hc => ?_) | refine EndsG.geq rfl rfl rfl (fun hc => ?_) (fun hc => ?_) | refine EndsG.eql rfl rfl rfl (fun hc => ?_) (fun hc => ?_) | refine EndsG.gtrT rfl rfl rfl (by omega) ?_ | refine EndsG.gtrF rfl rfl rfl (by omega) ?_ | refine EndsG.neqT rfl rfl rfl (by omega) ?_ | refine EndsG.neqF rfl rfl rfl (by omega) ?_ | refine EndsG.call rfl rfl (hO _) ?_ | refine EndsG.call rfl rfl (hP _) ?_ | refine EndsG.call rfl rfl (hS2 _) ?_ | refine EndsG.skip rfl ?_ | refine EndsG.fin ?_ | refine EndsG.go rfl rfl rfl ?_ | refine EndsG.gono rfl rfl rfl ?_ | refine EndsG.skipn rfl ?_))
    · rw [h0] at hP
      simp only [slideR_bad] at hP
      repeat' (first | (show EndsR _ _ _ _ _ _ _; first | refine EndsR.seq ?_ | refine EndsR.reg ?_ | refine EndsR.yes rfl ?_ | refine EndsR.no rfl ?_ | refine EndsR.skip ?_ | refine EndsR.block ?_ | refine EndsR.endB ?_ | refine EndsR.exit rfl ?_ | refine EndsR.br rfl (fun hc => ?_) (fun hc => ?_) | refine EndsR.scope ?_ | refine EndsR.inScope ?_ | refine EndsR.label ?_ | refine EndsR.ret rfl ?_ | refine EndsR.nil rfl ?_) | (show EndsG _ _ _ _ _ _ _ _ _; first | refine EndsG.mov rfl rfl ?_ | refine EndsG.lload rfl rfl rfl rfl ?_ | refine EndsG.laddr rfl rfl rfl ?_ | refine EndsG.lss rfl rfl rfl (fun hc => ?_) (fun hc => ?_) | refine EndsG.leq rfl rfl rfl (fun hc => ?_) (fun hc => ?_) | refine EndsG.geq rfl rfl rfl (fun hc => ?_) (fun hc => ?_) | refine EndsG.gtrT rfl rfl rfl (by omega) ?_ | refine EndsG.gtrF rfl rfl rfl (by omega) ?_ | refine EndsG.neqT rfl rfl rfl (by omega) ?_ | refine EndsG.neqF rfl rfl rfl (by omega) ?_ | refine EndsG.eqlT rfl rfl rfl (by omega) ?_ | refine EndsG.eqlF rfl rfl rfl (by omega) ?_ | refine EndsG.call rfl rfl (hO _) ?_ | refine EndsG.call rfl rfl (hP _) ?_ | refine EndsG.call rfl rfl (live_c _ _) ?_ | refine EndsG.skip rfl ?_ | refine EndsG.fin ?_ | refine EndsG.go rfl rfl rfl ?_ | refine EndsG.gono rfl rfl rfl ?_ | refine EndsG.skipn rfl ?_))
      rfl
  · repeat' (first | (show EndsR _ _ _ _ _ _ _; first | refine EndsR.seq ?_ | refine EndsR.reg ?_ | refine EndsR.yes rfl ?_ | refine EndsR.no rfl ?_ | refine EndsR.skip ?_ | refine EndsR.block ?_ | refine EndsR.endB ?_ | refine EndsR.exit rfl ?_ | refine EndsR.br rfl (fun hc => ?_) (fun hc => ?_) | refine EndsR.scope ?_ | refine EndsR.inScope ?_ | refine EndsR.label ?_ | refine EndsR.ret rfl ?_ | refine EndsR.nil rfl ?_) | (show EndsG _ _ _ _ _ _ _ _ _; first | refine EndsG.mov rfl rfl ?_ | refine EndsG.lload rfl rfl rfl rfl ?_ | refine EndsG.laddr rfl rfl rfl ?_ | refine EndsG.lss rfl rfl rfl (fun hc => ?_) (fun hc => ?_) | refine EndsG.leq rfl rfl rfl (fun hc => ?_) (fun hc => ?_) | refine EndsG.geq rfl rfl rfl (fun hc => ?_) (fun hc => ?_) | refine EndsG.eql rfl rfl rfl (fun hc => ?_) (fun hc => ?_) | refine EndsG.neq rfl rfl rfl (fun hc => ?_) (fun hc => ?_) | refine EndsG.call rfl rfl (live_c _ _) ?_ | refine EndsG.gtrT rfl rfl rfl (by omega) ?_ | refine EndsG.gtrF rfl rfl rfl (by omega) ?_ | refine EndsG.skip rfl ?_ | refine EndsG.fin ?_ | refine EndsG.go rfl rfl rfl ?_ | refine EndsG.gono rfl rfl rfl ?_ | refine EndsG.skipn rfl ?_))
    rfl

theorem order_run' {h : Heap} {v : Value} {l : List Obj} {arena : Int} (hv : Sl h 4 v (css l)) : ∃ h', callR En 0 Id.sidingslaw17_PlanOrder [v, .int .i64 arena] h = some (.bool true, h') := by
  obtain ⟨u, h', h1, rfl⟩ := order_run (arena := arena) hv
  exact ⟨h', h1⟩
end Go.Proofs.Ytclgilndihagiaa
