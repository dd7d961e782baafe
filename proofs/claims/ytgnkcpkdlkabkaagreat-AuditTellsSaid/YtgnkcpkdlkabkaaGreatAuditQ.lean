/- Cells as they are at first; of the audit seat. -/
import Derived.Test.YtgnkcpkdlkabkaaGreatAuditP1
import Derived.Test.YtgnkcpkdlkabkaaGreatAuditP6
import Derived.Test.YtgnkcpkdlkabkaaGreatAuditP7
import Derived.Test.YtgnkcpkdlkabkaaGreatAuditE
import Derived.OpenShut

set_option linter.unusedVariables false
set_option linter.unusedSimpArgs false
namespace Go.Proofs.YtgnkcpkdlkabkaaGreat
open Go Go.Ir

theorem start_may (lo : Nat) (h : Heap) {c : Cfg} (hm : c.may) (hlo : lo ≤ h.length) :
  ∃ H', callR En lo Id.sidingslaw21_start [.agg c.cs.toArray] h = some (ptrC (newC h), H') ∧ IsC H' (newC h) (startL c) (List.replicate c.A.toNat 0) ∧ Ext h H' ∧ H'.length = h.length + 3 := by
 have hm' := hm
 unfold Cfg.may at hm'
 have hW := fun lo => words_spec lo h c
 rw [if_pos hm] at hW
 refine Exists.elim (show ∃ nw : Nat, wordsI c = nw ∧ 1 ≤ nw ∧ nw ≤ 4096 from ⟨(wordsI c).toNat, by unfold wordsI; omega, by unfold wordsI; omega, by unfold wordsI; omega⟩) fun nw hnw => ?_
 refine Exists.elim (show ∃ nb : Nat, c.A = nb ∧ nb ≤ 4096 from ⟨c.A.toNat, by omega, by omega⟩) fun nb hnb => ?_
 have hN : ∀ lo, callR En lo Id.cells_New [I (wordsI c), I c.A] h = some (ptrC (newC h), newH h nw nb) := fun lo => by
  rw [hnw.1, hnb.1]; exact new_spec lo h hnw.2.1 hnw.2.2 hnb.2
 have hnh := newH_is h nw nb
 have hl : (newH h nw nb).length = h.length + 3 := by simp [newH]
 refine Exists.elim (start_spec (lo := lo) hm hnh.1 ⟨by simp [newC]; omega, by simp [newC]; omega⟩ (by rw [List.length_replicate, hnw.1]; simp) (by rw [List.length_replicate, hnb.1])) fun H' hq => ?_
 have hS := hq.1
 have hC := hq.2.1
 have ho := hq.2.2
 clear hq
 refine ⟨H', ?_, by rw [hnb.1]; exact hC, ⟨by rw [ho.len, hl]; omega, fun i hi => ?_⟩, by rw [ho.len, hl]⟩
 ·refine call_of rfl Fn.sidingslaw21_start rfl rfl ?_
  repeat' (first | (show ER _ _ _ _ _ _ _; first | refine .seq ?_ | refine .reg ?_ | refine .no rfl ?_ | refine .skip ?_ | refine .ret rfl ?_) | (show EG _ _ _ _ _ _ _ _ _; first | refine .mov rfl rfl ?_ | refine .lload rfl rfl rfl rfl ?_ | refine .laddr rfl rfl rfl ?_ | refine .neqF rfl rfl rfl (by omega) ?_ | (show EG _ _ (⟨_, .call _ _, _, _⟩ :: _) _ _ _ _ _ _; first | refine .call rfl rfl (hW _) ?_ | refine .call rfl rfl (hN _) ?_ | refine .call rfl rfl (hS) ?_) | refine .fin ?_ | refine .go rfl rfl rfl ?_))
  rfl
 ·rw [ho.same i (by simp [newC]; omega)]
  exact hnh.2.2 i hi

theorem start_not (lo : Nat) (h : Heap) {c : Cfg} (hm : ¬ c.may) : callR En lo Id.sidingslaw21_start [.agg c.cs.toArray] h = some (.pointer none, h) := by
 have hW := fun lo => words_spec lo h c
 rw [if_neg hm] at hW
 have hc := fun lo => cmay_spec lo h 0 c.A
 rw [show (inB 0 1 4096 && inB c.A 0 4096) = false by simp [inB]] at hc
 have hN : ∀ lo, callR En lo Id.cells_New [I 0, I c.A] h = some (.pointer none, h) := fun lo => by
  refine call_of rfl Fn.cells_New rfl rfl ?_
  repeat' (first | (show ER _ _ _ _ _ _ _; first | refine .seq ?_ | refine .reg ?_ | refine .yes rfl ?_ | refine .ret rfl ?_) | (show EG _ _ _ _ _ _ _ _ _; first | refine .mov rfl rfl ?_ | refine .call rfl rfl (hc _) ?_ | refine .fin ?_ | refine .go rfl rfl rfl ?_))
  rfl
 refine call_of rfl Fn.sidingslaw21_start rfl rfl ?_
 repeat' (first | (show ER _ _ _ _ _ _ _; first | refine .seq ?_ | refine .reg ?_ | refine .yes rfl ?_ | refine .ret rfl ?_) | (show EG _ _ _ _ _ _ _ _ _; first | refine .mov rfl rfl ?_ | refine .lload rfl rfl rfl rfl ?_ | refine .laddr rfl rfl rfl ?_ | (show EG _ _ (⟨_, .call _ _, _, _⟩ :: _) _ _ _ _ _ _; first | refine .call rfl rfl (hW _) ?_ | refine .call rfl rfl (hN _) ?_) | refine .skip rfl ?_ | refine .fin ?_ | refine .go rfl rfl rfl ?_))
 rfl

end Go.Proofs.YtgnkcpkdlkabkaaGreat

/- Cells that have too few words: the law by the program. -/
set_option linter.unusedVariables false
set_option linter.unusedSimpArgs false
namespace Go.Proofs.YtgnkcpkdlkabkaaGreat
open Go Go.Ir

end Go.Proofs.YtgnkcpkdlkabkaaGreat

/- Rows of objects copied, and held against each other; the document's cells at first. -/
set_option linter.unusedVariables false
set_option linter.unusedSimpArgs false
namespace Go.Proofs.YtgnkcpkdlkabkaaGreat
open Go Go.Ir

section
variable {lo : Nat} {h : Heap}
theorem css_four {h : Heap} {v : Value} {l : List Obj} (hv : Sl h 4 v (css l)) (h0 : l ≠ []) :
  ∃ ad cap, v = .slice (some ad) l.length cap ∧ ∀ (i : Nat) (x : Obj), l[i]? = some x → loadV h (some 4) ⟨ad.block, ad.off + i * 4, none⟩ = some (.agg x.cs.toArray) := by
 obtain ⟨ad, cap, h1, h2⟩ := hv.row (show css l ≠ [] from fun e => h0 (List.map_eq_nil_iff.1 e))
 rw [css_length] at h1
 exact ⟨ad, cap, h1, fun i x hi => (h2 i _ (css_get hi)).2⟩

set_option maxHeartbeats 1600000 in
theorem own_spec (lo : Nat) {v : Value} {l : List Obj} (hv : Sl h 4 v (css l)) (hl : l.length ≤ 100) : callR En lo Id.sidingslaw21_own [v] h = some (made h 4 (css l)) := by
 refine Exists.elim hv.len fun base hq => Exists.elim hq fun cap hve => ?_
 rw [css_length] at hve
 subst hve
 refine call_scr rfl Fn.sidingslaw21_own rfl rfl ?_
 repeat' (first | (show ER _ _ _ _ _ _ _; first | refine .seq ?_ | refine .reg ?_ | refine .block ?_) | (show EG _ _ _ _ _ _ _ _ _; first | refine .mov rfl rfl ?_ | refine .fin ?_))
 refine .loop (fun n f H => ∃ (i : Nat) (o : Value), n + i = l.length ∧ f = [(0, .slice base l.length cap), (3, o), (4, N i)] ∧ Ext h H ∧ Out H h.length 4 o (css (l.take i))) (n := l.length)
  ⟨0, _, rfl, rfl, .refl _, Out.nil _ _ _⟩ ?_
 rintro n f H ⟨i, o, hn, rfl, hx, ho⟩ next
 by_cases hi : i < l.length
 ·have hgi : l[i]? = some l[i] := List.getElem?_eq_getElem hi
  have htk := List.take_succ_eq_append_getElem hi
  generalize l[i] = c at hgi htk
  refine Exists.elim (css_row (hv.ext hx) hgi) fun a hq => Exists.elim hq fun cap' hq => ?_
  have hva := hq.1
  injection hva with e1 e2 e3
  subst e1
  have I0 := hq.2.2.1
  have I1 := hq.2.2.2.1
  have I2 := hq.2.2.2.2.1
  have I3 := hq.2.2.2.2.2
  refine Exists.elim (ho.push2 (l0 := h.length) (bytes := 32) (e := c.cs) rfl (Nat.le_refl _) hx.1 (by rw [css_length, List.length_take]; omega) (by decide)) fun o' hq1 => Exists.elim hq1 fun H' hq2 => ?_
  have hap := hq2.1
  have ho' := hq2.2.1
  have hx' := hq2.2.2 h (Nat.le_refl _) hx
  rw [css_app, ← htk] at ho'
  repeat' (first | (show ER _ _ _ _ _ _ _; first | refine .seq ?_ | refine .reg ?_ | refine .yes rfl ?_ | refine .skip ?_ | refine .block ?_ | refine .endB ?_) | (show EG _ _ _ _ _ _ _ _ _; first | refine .mov rfl rfl ?_ | (show EG _ _ (⟨_, .bin _ _ _, _, _⟩ :: _) _ _ _ _ _ _; first | refine .lssT rfl rfl rfl (by omega) ?_ | refine .addN (b := 1) rfl rfl rfl (by omega) ?_) | (show EG _ _ (⟨_, .load _ _, _, _⟩ :: _) _ _ _ _ _ _; first | refine .load rfl rfl (I0) ?_ | refine .load rfl rfl (I1) ?_ | refine .load rfl rfl (I2) ?_ | refine .load rfl rfl (I3) ?_) | refine .iaddr rfl rfl rfl (hi) ?_ | refine .app rfl rfl rfl (hap) ?_ | refine .fin ?_ | refine .go rfl rfl rfl ?_))
  exact next (n - 1) _ _ (by omega) ⟨i + 1, o', by omega, rfl, hx', ho'⟩
 ·rw [List.take_of_length_le (by omega)] at ho
  repeat' (first | (show ER _ _ _ _ _ _ _; first | refine .seq ?_ | refine .reg ?_ | refine .no rfl ?_ | refine .exit rfl ?_ | refine .ret rfl ?_) | (show EG _ _ _ _ _ _ _ _ _; first | refine .mov rfl rfl ?_ | refine .lssF rfl rfl rfl (by omega) ?_ | refine .fin ?_ | refine .go rfl rfl rfl ?_))
  exact ho.tidy (css_flat l)
set_option maxHeartbeats 1600000 in
theorem told_spec (lo : Nat) {v : Value} {l : List Obj} (hv : Sl h 4 v (css l)) (hl : l.length ≤ 100) : callR En lo Id.sidingslaw21_told [v] h = some (made h 4 (css l)) := by
 refine Exists.elim hv.len fun base hq => Exists.elim hq fun cap hve => ?_
 rw [css_length] at hve
 subst hve
 refine call_scr rfl Fn.sidingslaw21_told rfl rfl ?_
 repeat' (first | (show ER _ _ _ _ _ _ _; first | refine .seq ?_ | refine .reg ?_ | refine .block ?_) | (show EG _ _ _ _ _ _ _ _ _; first | refine .mov rfl rfl ?_ | refine .fin ?_))
 refine .loop (fun n f H => ∃ (i : Nat) (o : Value), n + i = l.length ∧ f = [(0, .slice base l.length cap), (3, o), (4, N i)] ∧ Ext h H ∧ Out H h.length 4 o (css (l.take i))) (n := l.length)
  ⟨0, _, rfl, rfl, .refl _, Out.nil _ _ _⟩ ?_
 rintro n f H ⟨i, o, hn, rfl, hx, ho⟩ next
 by_cases hi : i < l.length
 ·have hgi : l[i]? = some l[i] := List.getElem?_eq_getElem hi
  have htk := List.take_succ_eq_append_getElem hi
  generalize l[i] = c at hgi htk
  refine Exists.elim (css_row (hv.ext hx) hgi) fun a hq => Exists.elim hq fun cap' hq => ?_
  have hva := hq.1
  injection hva with e1 e2 e3
  subst e1
  have I0 := hq.2.2.1
  have I1 := hq.2.2.2.1
  have I2 := hq.2.2.2.2.1
  have I3 := hq.2.2.2.2.2
  refine Exists.elim (ho.push2 (l0 := h.length) (bytes := 32) (e := c.cs) rfl (Nat.le_refl _) hx.1 (by rw [css_length, List.length_take]; omega) (by decide)) fun o' hq1 => Exists.elim hq1 fun H' hq2 => ?_
  have hap := hq2.1
  have ho' := hq2.2.1
  have hx' := hq2.2.2 h (Nat.le_refl _) hx
  rw [css_app, ← htk] at ho'
  repeat' (first | (show ER _ _ _ _ _ _ _; first | refine .seq ?_ | refine .reg ?_ | refine .yes rfl ?_ | refine .skip ?_ | refine .block ?_ | refine .endB ?_) | (show EG _ _ _ _ _ _ _ _ _; first | refine .mov rfl rfl ?_ | (show EG _ _ (⟨_, .bin _ _ _, _, _⟩ :: _) _ _ _ _ _ _; first | refine .lssT rfl rfl rfl (by omega) ?_ | refine .addN (b := 1) rfl rfl rfl (by omega) ?_) | (show EG _ _ (⟨_, .load _ _, _, _⟩ :: _) _ _ _ _ _ _; first | refine .load rfl rfl (I0) ?_ | refine .load rfl rfl (I1) ?_ | refine .load rfl rfl (I2) ?_ | refine .load rfl rfl (I3) ?_) | refine .iaddr rfl rfl rfl (hi) ?_ | refine .app rfl rfl rfl (hap) ?_ | refine .fin ?_ | refine .go rfl rfl rfl ?_))
  exact next (n - 1) _ _ (by omega) ⟨i + 1, o', by omega, rfl, hx', ho'⟩
 ·rw [List.take_of_length_le (by omega)] at ho
  repeat' (first | (show ER _ _ _ _ _ _ _; first | refine .seq ?_ | refine .reg ?_ | refine .no rfl ?_ | refine .exit rfl ?_ | refine .ret rfl ?_) | (show EG _ _ _ _ _ _ _ _ _; first | refine .mov rfl rfl ?_ | refine .lssF rfl rfl rfl (by omega) ?_ | refine .fin ?_ | refine .go rfl rfl rfl ?_))
  exact ho.tidy (css_flat l)

theorem same17_spec (lo : Nat) {v w : Value} {l : List Obj} (hv : Sl h 4 v (css l)) (hw : Sl h 4 w (css l)) (hl : l.length ≤ 1000) : callR En lo Id.sidingsref17_Same [v, w] h = some (.bool true, h) := by
 refine Exists.elim hv.len fun base hq => Exists.elim hq fun cap hve => ?_
 refine Exists.elim hw.len fun bw hq => Exists.elim hq fun cw hwe => ?_
 rw [css_length] at hve hwe
 subst hve hwe
 refine call_scr rfl Fn.sidingsref17_Same rfl rfl ?_
 repeat' (first | (show ER _ _ _ _ _ _ _; first | refine .seq ?_ | refine .reg ?_ | refine .no rfl ?_ | refine .skip ?_ | refine .block ?_) | (show EG _ _ _ _ _ _ _ _ _; first | refine .mov rfl rfl ?_ | refine .neqF rfl rfl rfl (by omega) ?_ | refine .fin ?_ | refine .go rfl rfl rfl ?_))
 refine .loop (fun n f H => H = h ∧ ∃ (i : Nat), n + i = l.length ∧ f = [(0, .slice base l.length cap), (1, .slice bw l.length cw), (5, N i)]) (n := l.length) ⟨rfl, 0, rfl, rfl⟩ ?_
 rintro n f H ⟨rfl, i, hn, rfl⟩ next
 by_cases hi : i < l.length
 ·have hgi : l[i]? = some l[i] := List.getElem?_eq_getElem hi
  have h0 : l ≠ [] := fun e => by rw [e] at hi; simp at hi
  generalize l[i] = c at hgi
  refine Exists.elim (css_four hv h0) fun a hq => Exists.elim hq fun cap' hq => ?_
  have hva := hq.1
  injection hva with e1 e2 e3
  subst e1
  have IA := hq.2 i c hgi
  refine Exists.elim (css_four hw h0) fun b hq => Exists.elim hq fun cap2 hq => ?_
  have hvb := hq.1
  injection hvb with e4 e5 e6
  subst e4
  have IB := hq.2 i c hgi
  repeat' (first | (show ER _ _ _ _ _ _ _; first | refine .seq ?_ | refine .reg ?_ | refine .yes rfl ?_ | refine .no rfl ?_ | refine .skip ?_ | refine .block ?_ | refine .endB ?_ | refine .ret rfl ?_) | (show EG _ _ _ _ _ _ _ _ _; first | refine .mov rfl rfl ?_ | (show EG _ _ (⟨_, .bin _ _ _, _, _⟩ :: _) _ _ _ _ _ _; first | refine .lssT rfl rfl rfl (by omega) ?_ | refine .addN (b := 1) rfl rfl rfl (by omega) ?_) | (show EG _ _ (⟨_, .load _ _, _, _⟩ :: _) _ _ _ _ _ _; first | refine .load rfl rfl (IA) ?_ | refine .load rfl rfl (IB) ?_) | refine .iaddr rfl rfl rfl (hi) ?_ | refine .eqc rfl rfl rfl rfl (fun hc => ?_) (fun hc => ?_) | refine .fin ?_ | refine .go rfl rfl rfl ?_))
  ·simp at hc
  ·exact next (n - 1) _ _ (by omega) ⟨rfl, i + 1, by omega, rfl⟩
 ·repeat' (first | (show ER _ _ _ _ _ _ _; first | refine .seq ?_ | refine .reg ?_ | refine .no rfl ?_ | refine .exit rfl ?_ | refine .ret rfl ?_) | (show EG _ _ _ _ _ _ _ _ _; first | refine .mov rfl rfl ?_ | refine .lssF rfl rfl rfl (by omega) ?_ | refine .fin ?_ | refine .go rfl rfl rfl ?_))
  rfl
theorem same01_spec (lo : Nat) {v w : Value} {l : List Int} (hv : Sl h 1 v (ics l)) (hw : Sl h 1 w (ics l)) (hl : l.length ≤ 100000) : callR En lo Id.sidingsref01_Same [v, w] h = some (.bool true, h) := by
 refine Exists.elim hv.len fun base hq => Exists.elim hq fun cap hve => ?_
 refine Exists.elim hw.len fun bw hq => Exists.elim hq fun cw hwe => ?_
 rw [ics_length] at hve hwe
 subst hve hwe
 refine call_scr rfl Fn.sidingsref01_Same rfl rfl ?_
 repeat' (first | (show ER _ _ _ _ _ _ _; first | refine .seq ?_ | refine .reg ?_ | refine .no rfl ?_ | refine .skip ?_ | refine .block ?_) | (show EG _ _ _ _ _ _ _ _ _; first | refine .mov rfl rfl ?_ | refine .neqF rfl rfl rfl (by omega) ?_ | refine .fin ?_ | refine .go rfl rfl rfl ?_))
 refine .loop (fun n f H => H = h ∧ ∃ (i : Nat), n + i = l.length ∧ f = [(0, .slice base l.length cap), (1, .slice bw l.length cw), (5, N i)]) (n := l.length) ⟨rfl, 0, rfl, rfl⟩ ?_
 rintro n f H ⟨rfl, i, hn, rfl⟩ next
 by_cases hi : i < l.length
 ·have hgi : l[i]? = some l[i] := List.getElem?_eq_getElem hi
  have h0 : l ≠ [] := fun e => by rw [e] at hi; simp at hi
  generalize l[i] = c at hgi
  refine Exists.elim (ics_rows hv h0) fun a hq => Exists.elim hq fun cap' hq => ?_
  have hva := hq.1
  injection hva with e1 e2 e3
  subst e1
  have IA := hq.2 i c hgi
  refine Exists.elim (ics_rows hw h0) fun b hq => Exists.elim hq fun cap2 hq => ?_
  have hvb := hq.1
  injection hvb with e4 e5 e6
  subst e4
  have IB := hq.2 i c hgi
  repeat' (first | (show ER _ _ _ _ _ _ _; first | refine .seq ?_ | refine .reg ?_ | refine .yes rfl ?_ | refine .no rfl ?_ | refine .skip ?_ | refine .block ?_ | refine .endB ?_) | (show EG _ _ _ _ _ _ _ _ _; first | refine .mov rfl rfl ?_ | (show EG _ _ (⟨_, .bin _ _ _, _, _⟩ :: _) _ _ _ _ _ _; first | refine .lssT rfl rfl rfl (by omega) ?_ | refine .neqF rfl rfl rfl (by omega) ?_ | refine .addN (b := 1) rfl rfl rfl (by omega) ?_) | (show EG _ _ (⟨_, .load _ _, _, _⟩ :: _) _ _ _ _ _ _; first | refine .load rfl rfl (IA) ?_ | refine .load rfl rfl (IB) ?_) | refine .iaddr rfl rfl rfl (hi) ?_ | refine .fin ?_ | refine .go rfl rfl rfl ?_))
  exact next (n - 1) _ _ (by omega) ⟨rfl, i + 1, by omega, rfl⟩
 ·repeat' (first | (show ER _ _ _ _ _ _ _; first | refine .seq ?_ | refine .reg ?_ | refine .no rfl ?_ | refine .exit rfl ?_ | refine .ret rfl ?_) | (show EG _ _ _ _ _ _ _ _ _; first | refine .mov rfl rfl ?_ | refine .lssF rfl rfl rfl (by omega) ?_ | refine .fin ?_ | refine .go rfl rfl rfl ?_))
  rfl
end
end Go.Proofs.YtgnkcpkdlkabkaaGreat

/- The document's cells: bytes set, and cells as they are at first. -/
set_option linter.unusedVariables false
set_option linter.unusedSimpArgs false
namespace Go.Ir
open Go
theorem EG.remE {E : Env} {lo : Nat} {os : List IOper} {f : Fr} {h : Heap} {hs : List Heap} {k : List Item} {rs : List IRes} {Q : Value → Heap → Prop} {d : Nat} {g : Option (Nat × Bool)} {x y : Operand} {a b r : Nat} (hr : a % b = r)
  (hw : want g f = some true) (hx : ev f x = some (.int .i64 (a : Nat))) (hy : ev f y = some (.int .i64 (b : Nat))) (hb : b ≠ 0) (c : EG E lo os hs k ((d, .int .i64 ((r : Nat) : Int)) :: f) h rs Q) :
  EG E lo (⟨some d, .bin .rem x y, g, 0⟩ :: os) hs k f h rs Q := by
 subst hr
 exact .remN hw hx hy hb c
end Go.Ir
namespace Go.Proofs.YtgnkcpkdlkabkaaGreat
open Go Go.Ir

theorem byteI_nat (i : Nat) : byteI (i : Nat) = (((i % 256 + 256) % 256 : Nat) : Int) := by
 unfold byteI IntKind.wrap
 simp only [IntKind.bits, IntKind.signed, Bool.false_and]
 rw [if_neg (by decide)]
 omega

section
variable {lo : Nat} {H : Heap} {c : CB} {ws bs : List Int}
theorem rsetByte_spec (hC : IsR H c ws bs) (hlo : lo ≤ c.P) (hly : lo ≤ c.Y) {i : Nat} (hi : i < 5000) : ∃ H', callR En lo Id.sidingsref05_Plain_SetByte [ptrC c, N i, N i] H = some (noneV, H') ∧ IsR H' c ws (setI bs (i : Nat) (byteI (i : Nat))) ∧ Only [c.P, c.Y] H H' := by
 refine Exists.elim (hC.tick hlo) fun st hq => ?_
 have l2 := hq.1
 refine Exists.elim hq.2 fun H1 hq => ?_
 have hs := hq.1
 have hC1 := hq.2.1
 have ho := hq.2.2
 clear hq
 have l1 := hC1.p1
 unfold setI
 by_cases h1 : i < bs.length
 ·rw [if_pos ⟨by omega, by omega⟩, Int.toNat_natCast, byteI_nat]
  refine Exists.elim (show ∃ r, i % 256 = r ∧ r < 256 from ⟨_, rfl, by omega⟩) fun r hr => ?_
  rw [hr.1]
  refine Exists.elim (show ∃ q, (r + 256) % 256 = q ∧ q < 256 from ⟨_, rfl, by omega⟩) fun q hq => ?_
  rw [hq.1]
  have hr1 := hr.1
  have hq1 := hq.1
  have hr2 := hr.2
  have hw := hC1.set_y (lo := lo) h1 ((q : Nat) : Int) (by omega) hly
  have hw1 := hw.1
  refine ⟨_, ?_, hw.2.1, (ho.mono (by simp)).trans (hw.2.2.mono (by simp))⟩
  refine call_of rfl Fn.sidingsref05_Plain_SetByte rfl rfl ?_
  repeat' (first | (show ER _ _ _ _ _ _ _; first | refine .seq ?_ | refine .reg ?_ | refine .yes rfl ?_ | refine .nil rfl ?_) | (show EG _ _ _ _ _ _ _ _ _; first | refine .mov rfl rfl ?_ | (show EG _ _ (⟨_, .bin _ _ _, _, _⟩ :: _) _ _ _ _ _ _; first | refine .lssT rfl rfl rfl (by omega) ?_ | refine .geqT rfl rfl rfl (by omega) ?_) | (show EG _ _ (⟨_, .load _ _, _, _⟩ :: _) _ _ _ _ _ _; first | refine .load rfl rfl (l2) ?_ | refine .load rfl rfl (l1) ?_) | refine .iaddr rfl rfl rfl (h1) ?_ | refine .store rfl rfl rfl rfl rfl hs ?_ | refine .store rfl rfl rfl rfl rfl hw1 ?_ | refine .remE (a := i) (b := 256) hr1 rfl rfl rfl (by decide) ?_ | refine .remE (a := r + 256) (b := 256) hq1 rfl rfl rfl (by decide) ?_ | refine .addN (b := 256) rfl rfl rfl (by omega) ?_ | refine .fin ?_ | refine .go rfl rfl rfl ?_))
  rfl
 ·rw [if_neg (by omega)]
  refine ⟨H1, ?_, hC1, ho.mono (by simp)⟩
  refine call_of rfl Fn.sidingsref05_Plain_SetByte rfl rfl ?_
  repeat' (first | (show ER _ _ _ _ _ _ _; first | refine .seq ?_ | refine .reg ?_ | refine .no rfl ?_ | refine .skip ?_ | refine .nil rfl ?_) | (show EG _ _ _ _ _ _ _ _ _; first | refine .mov rfl rfl ?_ | (show EG _ _ (⟨_, .bin _ _ _, _, _⟩ :: _) _ _ _ _ _ _; first | refine .lssF rfl rfl rfl (by omega) ?_ | refine .geqT rfl rfl rfl (by omega) ?_) | (show EG _ _ (⟨_, .load _ _, _, _⟩ :: _) _ _ _ _ _ _; first | refine .load rfl rfl (l2) ?_ | refine .load rfl rfl (l1) ?_) | refine .store rfl rfl rfl rfl rfl hs ?_ | refine .fin ?_ | refine .go rfl rfl rfl ?_))
  rfl
end

def rnewH (h : Heap) (nw nb : Nat) : Heap := h ++ [.row (ints (List.replicate nw 0)) false] ++ [.row (ints (List.replicate nb 0)) false] ++ [.row (prow ⟨h.length + 2, h.length, h.length + 1⟩ nw nb 0) false]
theorem rnewH_is (h : Heap) (nw nb : Nat) : IsR (rnewH h nw nb) (newC h) (List.replicate nw 0) (List.replicate nb 0) ∧ Ext h (rnewH h nw nb) := by
 refine ⟨⟨⟨0, ?_⟩, ?_, ?_, ?_, ?_, ?_, ?_⟩, ?_⟩
 ·unfold rnewH newC
  simp only [List.length_replicate]
  rw [List.getElem?_append_right (by simp)]
  simp
 ·unfold rnewH newC
  rw [List.getElem?_append_left (by simp), List.getElem?_append_left (by simp), List.getElem?_append_right (by simp)]
  simp
 ·unfold rnewH newC
  rw [List.getElem?_append_left (by simp), List.getElem?_append_right (by simp)]
  simp
 ·simp [newC]
 ·simp [newC]
 ·simp [newC]
 ·intro b hb
  rw [List.eq_of_mem_replicate hb]; omega
 ·exact (((Ext.refl h).app _).app _).app _
theorem rnew_spec (lo : Nat) (h : Heap) {nw nb : Nat} (h1 : 1 ≤ nw) (h2 : nw ≤ 4096) (h3 : nb ≤ 4096) : callR En lo Id.sidingsref05_New [N nw, N nb] h = some (ptrC (newC h), rnewH h nw nb) := by
 refine call_of rfl Fn.sidingsref05_New rfl rfl ?_
 repeat' (first | (show ER _ _ _ _ _ _ _; first | refine .seq ?_ | refine .reg ?_ | refine .no rfl ?_ | refine .skip ?_ | refine .ret rfl ?_) | (show EG _ _ _ _ _ _ _ _ _; first | refine .mov rfl rfl ?_ | (show EG _ _ (⟨_, .bin _ _ _, _, _⟩ :: _) _ _ _ _ _ _; first | refine .lssF rfl rfl rfl (by omega) ?_ | refine .gtrF rfl rfl rfl (by omega) ?_) | refine .mks rfl rfl rfl ⟨Nat.le_refl _, by omega, by decide⟩ ?_ | refine .fin ?_ | refine .go rfl rfl rfl ?_))
 unfold rnewH newC
 rw [rep_ints, rep_ints]
 simp only [List.length_append, List.length_singleton]
 rfl

def upW (c : Cfg) (m : Int) (k : Nat) : Int := if 4 + c.T ≤ k ∧ ((k : Int) - 4 - c.T) % 3 = 2 ∧ ((k : Int) - 4 - c.T) / 3 < m ∧ ((k : Int) - 4 - c.T) / 3 + 1 < c.S then ((k : Int) - 4 - c.T) / 3 + 2 else 0
def upL (c : Cfg) (m : Int) : List Int := (List.range (wordsI c).toNat).map (upW c m)
theorem upL_len (c : Cfg) (m : Int) : (upL c m).length = (wordsI c).toNat := by simp [upL]
theorem upL_get (c : Cfg) (m : Int) {k : Nat} (h : k < (wordsI c).toNat) : (upL c m)[k]? = some (upW c m k) := by simp [upL, h]
theorem upL_zero (c : Cfg) : upL c 0 = List.replicate (wordsI c).toNat 0 := by
 refine List.ext_getElem? fun k => ?_
 by_cases hk : k < (wordsI c).toNat
 ·rw [upL_get c _ hk, List.getElem?_replicate, if_pos hk]
  unfold upW
  rw [if_neg (by omega)]
 ·rw [List.getElem?_eq_none (by rw [upL_len]; omega), List.getElem?_eq_none (by simp; omega)]
theorem upL_step {c : Cfg} (hm : c.may) {m : Int} (h0 : 0 ≤ m) (h1 : m + 1 < c.S) {k : Nat} (hk : slotI c m 2 = k) : (upL c m).set k (m + 2) = upL c (m + 1) := by
 unfold Cfg.may at hm
 unfold slotI at hk
 rw [if_pos ⟨h0, by omega⟩] at hk
 refine List.ext_getElem? fun j => ?_
 rw [List.getElem?_set]
 by_cases hj : j < (wordsI c).toNat
 ·rw [upL_get c _ hj, upL_get c _ hj]
  by_cases he : k = j
  ·rw [if_pos he, if_pos (by rw [upL_len]; omega)]
   congr 1
   unfold upW
   have e1 : ((j : Int) - 4 - c.T) = 3 * m + 2 := by omega
   rw [e1, if_pos (by omega)]
   omega
  ·rw [if_neg he]
   congr 1
   unfold upW
   split <;> split <;> omega
 ·rw [List.getElem?_eq_none (by rw [upL_len]; omega), List.getElem?_eq_none (by rw [upL_len]; omega)]
  split
  ·rw [if_neg (by rw [upL_len]; omega)]
  ·rfl
theorem upL_last {c : Cfg} {m : Int} (h1 : ¬ m + 1 < c.S) : upL c (m + 1) = upL c m := by
 refine List.ext_getElem? fun j => ?_
 by_cases hj : j < (wordsI c).toNat
 ·rw [upL_get c _ hj, upL_get c _ hj]
  congr 1
  unfold upW
  split <;> split <;> omega
 ·rw [List.getElem?_eq_none (by rw [upL_len]; omega), List.getElem?_eq_none (by rw [upL_len]; omega)]
theorem upL_top {c : Cfg} (hm : c.may) : upL c c.S = partL c 0 := by
 refine List.ext_getElem? fun j => ?_
 by_cases hj : j < (wordsI c).toNat
 ·rw [upL_get c _ hj, partL_get c _ hj]
  congr 1
  unfold upW partW
  split <;> split <;> omega
 ·rw [List.getElem?_eq_none (by rw [upL_len]; omega), List.getElem?_eq_none (by rw [partL_len]; omega)]

theorem end_st {lo : Nat} {h : Heap} {l : List Int} {k : Nat} (hlo : lo ≤ h.length) (hk : k < l.length) (n : Int) :
  stN lo (h ++ [.row (ints l) false]) ⟨h.length, 0 + k * 1, none⟩ (vcells (I n)) = some (h ++ [.row (ints (l.set k n)) false]) := by
 rw [Nat.zero_add, Nat.mul_one]
 exact (st_row (w := ints (l.set k n)) List.getElem?_concat_length hlo (by show k + 1 ≤ _; simp [ints]; omega) (splice_one hk)).trans (by rw [set_end])

set_option maxHeartbeats 1600000 in
theorem ups_spec (lo : Nat) (h : Heap) {c : Cfg} (hm : c.may) (hlo : lo ≤ h.length) {nw : Nat} (hnw : wordsI c = nw) :
  callR En lo Id.sidingsref06_Start [.agg c.cs.toArray] h = some (.slice (some ⟨h.length, 0, none⟩) nw nw, h ++ [.row (ints (startL c)) false]) := by
 refine call_of rfl Fn.sidingsref06_Start rfl rfl ?_
 have hW := fun lo h => words_spec lo h c
 rw [if_pos hm, hnw] at hW
 have hm' := hm
 unfold Cfg.may at hm'
 have hw' : (nw : Int) = 4 + c.T + 3 * c.S := hnw.symm.trans rfl
 have hul : ∀ m, (upL c m).length = nw := fun m => by rw [upL_len, hnw]; rfl
 have hcs : Value.agg c.cs.toArray = .agg #[I c.A, I c.S, I c.T] := rfl
 have hA := fun lo H (i : Nat) => atS_spec lo H hm (i : Nat) (j := 2) (by omega)
 rw [hcs] at hW hA ⊢
 repeat' (first | (show ER _ _ _ _ _ _ _; first | refine .seq ?_ | refine .reg ?_ | refine .block ?_) | (show EG _ _ _ _ _ _ _ _ _; first | refine .mov rfl rfl ?_ | refine .lload rfl rfl rfl rfl ?_ | refine .call rfl rfl (hW _ _) ?_ | refine .mks rfl rfl rfl ⟨Nat.le_refl _, by omega, by decide⟩ ?_ | refine .fin ?_ | refine .go rfl rfl rfl ?_))
 rw [rep_ints, show (List.replicate nw (0 : Int)) = upL c 0 by rw [upL_zero, hnw]; rfl]
 refine .loop (fun n f H => ∃ i : Nat, (n : Int) + i = c.S ∧ f = [(1, .agg #[I c.A, I c.S, I c.T]), (3, .slice (some ⟨h.length, 0, none⟩) nw nw), (4, N i)] ∧ H = h ++ [.row (ints (upL c i)) false]) (n := c.S.toNat)
  ⟨0, by omega, rfl, rfl⟩ ?_
 rintro n f H ⟨i, hn, rfl, rfl⟩ next
 by_cases hi : (i : Int) < c.S
 ·by_cases hi2 : (i : Int) + 1 < c.S
  ·refine Exists.elim (slot_nat hm (s := (i : Nat)) (by omega) hi (j := 2) (by omega) (n := nw) (by omega)) fun k hq => ?_
   have hk := hq.1
   have hb := hq.2
   clear hq
   have hA1 : ∀ lo, callR En lo Id.sidingsref06_At [.agg #[I c.A, I c.S, I c.T], I 7, N i] (h ++ [.row (ints (upL c i)) false]) = some (N k, h ++ [.row (ints (upL c i)) false]) := fun lo => (hA lo _ i).trans (by rw [hk])
   have hst : stN lo (h ++ [.row (ints (upL c i)) false]) ⟨h.length, 0 + k * 1, none⟩ (vcells (N (i + 2))) = _ := end_st (lo := lo) hlo (by rw [hul]; exact hb) ((i + 2 : Nat) : Int)
   have hstep := upL_step hm (m := (i : Nat)) (by omega) hi2 hk
   rw [show ((i + 2 : Nat) : Int) = (i : Int) + 2 from rfl, hstep] at hst
   repeat' (first | (show ER _ _ _ _ _ _ _; first | refine .seq ?_ | refine .reg ?_ | refine .yes rfl ?_ | refine .skip ?_ | refine .block ?_ | refine .endB ?_) | (show EG _ _ _ _ _ _ _ _ _; first | refine .mov rfl rfl ?_ | refine .lload rfl rfl rfl rfl ?_ | refine .laddr rfl rfl rfl ?_ | (show EG _ _ (⟨_, .bin _ _ _, _, _⟩ :: _) _ _ _ _ _ _; first | refine .lssT rfl rfl rfl (by omega) ?_ | refine .addN (b := 1) rfl rfl rfl (by omega) ?_) | refine .call rfl rfl (hA1 _) ?_ | refine .iaddr rfl rfl rfl (hb) ?_ | refine .store rfl rfl rfl rfl rfl hst ?_ | refine .addN (b := 2) rfl rfl rfl (by omega) ?_ | refine .fin ?_))
   exact next (n - 1) _ _ (by omega) ⟨i + 1, by omega, rfl, rfl⟩
  ·have hl := upL_last (c := c) hi2
   repeat' (first | (show ER _ _ _ _ _ _ _; first | refine .seq ?_ | refine .reg ?_ | refine .yes rfl ?_ | refine .no rfl ?_ | refine .skip ?_ | refine .block ?_ | refine .endB ?_) | (show EG _ _ _ _ _ _ _ _ _; first | refine .mov rfl rfl ?_ | refine .lload rfl rfl rfl rfl ?_ | refine .laddr rfl rfl rfl ?_ | (show EG _ _ (⟨_, .bin _ _ _, _, _⟩ :: _) _ _ _ _ _ _; first | refine .lssT rfl rfl rfl (by omega) ?_ | refine .lssF rfl rfl rfl (by omega) ?_ | refine .addN (b := 1) rfl rfl rfl (by omega) ?_) | refine .fin ?_))
   exact next (n - 1) _ _ (by omega) ⟨i + 1, by omega, rfl, by rw [← hl]; rfl⟩
 ·have hiS : (i : Int) = c.S := by omega
  rw [hiS, upL_top hm]
  have hb1 : 1 < nw := by omega
  have hst : stN lo (h ++ [.row (ints (partL c 0)) false]) ⟨h.length, 0 + 1 * 1, none⟩ (vcells (I 1)) = _ := end_st (lo := lo) hlo (by rw [partL_len, hnw]; exact hb1) 1
  repeat' (first | (show ER _ _ _ _ _ _ _; first | refine .seq ?_ | refine .reg ?_ | refine .no rfl ?_ | refine .exit rfl ?_ | refine .ret rfl ?_) | (show EG _ _ _ _ _ _ _ _ _; first | refine .mov rfl rfl ?_ | refine .lload rfl rfl rfl rfl ?_ | refine .laddr rfl rfl rfl ?_ | refine .lssF rfl rfl rfl (by omega) ?_ | refine .iaddr rfl rfl rfl (hb1) ?_ | refine .store rfl rfl rfl rfl rfl hst ?_ | refine .fin ?_))
  rfl

def docC (h : Heap) : CB := ⟨h.length + 2, h.length + 3, h.length + 1⟩
theorem rstart_spec (lo : Nat) (h : Heap) {c : Cfg} (hm : c.may) (hlo : lo ≤ h.length) :
  ∃ H', callR En lo Id.sidingsref10_Start [.agg c.cs.toArray] h = some (ptrC (docC h), H') ∧ IsR H' (docC h) (startL c) (List.replicate c.A.toNat 0) ∧ Ext h H' ∧ H'.length = h.length + 4 := by
 have hm' := hm
 unfold Cfg.may at hm'
 have hW := fun lo => words_spec lo h c
 rw [if_pos hm] at hW
 refine Exists.elim (show ∃ nw : Nat, wordsI c = nw ∧ 1 ≤ nw ∧ nw ≤ 4096 from ⟨(wordsI c).toNat, by unfold wordsI; omega, by unfold wordsI; omega, by unfold wordsI; omega⟩) fun nw hnw => ?_
 refine Exists.elim (show ∃ nb : Nat, c.A = nb ∧ nb ≤ 4096 from ⟨c.A.toNat, by omega, by omega⟩) fun nb hnb => ?_
 have hN : ∀ lo, callR En lo Id.sidingsref05_New [I (wordsI c), I c.A] h = some (ptrC (newC h), rnewH h nw nb) := fun lo => by
  rw [hnw.1, hnb.1]; exact rnew_spec lo h hnw.2.1 hnw.2.2 hnb.2
 have hnh := rnewH_is h nw nb
 have hl : (rnewH h nw nb).length = h.length + 3 := by simp [rnewH]
 have hS := ups_spec lo (rnewH h nw nb) hm (by omega) hnw.1
 rw [hl] at hS
 have hsl : (startL c).length = nw := by rw [startL_len, hnw.1]; rfl
 refine Exists.elim hnh.1.p fun st hp => ?_
 rw [List.length_replicate, List.length_replicate] at hp
 have hp2 : (rnewH h nw nb ++ [Blk.row (ints (startL c)) false])[h.length + 2]? = some (.row (prow (newC h) nw nb st) false) := by
  rw [List.getElem?_append_left (by omega)]; exact hp
 have hst : stN lo (rnewH h nw nb ++ [Blk.row (ints (startL c)) false]) ⟨h.length + 2, 0 + 0, none⟩ (vcells (.slice (some ⟨h.length + 3, 0, none⟩) nw nw)) = some ((rnewH h nw nb ++ [Blk.row (ints (startL c)) false]).set (h.length + 2) (.row (prow (docC h) nw nb st) false)) :=
  st_row hp2 (by omega) (Nat.le_of_ble_eq_true rfl) rfl
 have hC : IsR ((rnewH h nw nb ++ [Blk.row (ints (startL c)) false]).set (h.length + 2) (.row (prow (docC h) nw nb st) false)) (docC h) (startL c) (List.replicate c.A.toNat 0) := by
  refine ⟨⟨st, ?_⟩, ?_, ?_, ?_, ?_, ?_, ?_⟩
  ·rw [hsl, List.length_replicate, hnb.1]
   exact hs_same (by rw [List.length_append, hl]; omega)
  ·refine hs_ne (by simp [docC]) ?_
   show (rnewH h nw nb ++ [Blk.row (ints (startL c)) false])[h.length + 3]? = _
   rw [← hl]
   exact List.getElem?_concat_length
  ·refine hs_ne (by simp [docC]) ?_
   show (rnewH h nw nb ++ [Blk.row (ints (startL c)) false])[h.length + 1]? = _
   rw [List.getElem?_append_left (by omega), hnb.1]
   exact hnh.1.y
  ·simp [docC]
  ·simp [docC]
  ·simp [docC]
  ·intro b hb
   rw [List.eq_of_mem_replicate hb]; omega
 refine ⟨_, ?_, hC, ⟨by rw [List.length_set, List.length_append, hl]; omega, fun i hi => ?_⟩, by rw [List.length_set, List.length_append, hl]; rfl⟩
 ·refine call_of rfl Fn.sidingsref10_Start rfl rfl ?_
  have hcs : Value.agg c.cs.toArray = .agg #[I c.A, I c.S, I c.T] := rfl
  rw [hcs] at hW hS ⊢
  repeat' (first | (show ER _ _ _ _ _ _ _; first | refine .seq ?_ | refine .reg ?_ | refine .yes rfl ?_ | refine .ret rfl ?_) | (show EG _ _ _ _ _ _ _ _ _; first | refine .mov rfl rfl ?_ | refine .lload rfl rfl rfl rfl ?_ | refine .laddr rfl rfl rfl ?_ | (show EG _ _ (⟨_, .call _ _, _, _⟩ :: _) _ _ _ _ _ _; first | refine .call rfl rfl (hW _) ?_ | refine .call rfl rfl (hN _) ?_ | refine .call rfl rfl (hS) ?_) | refine .store rfl rfl rfl rfl rfl hst ?_ | refine .fin ?_ | refine .go rfl rfl rfl ?_))
  rfl
 ·rw [List.getElem?_set_ne (by omega), List.getElem?_append_left (by omega)]
  exact hnh.2.2 i hi
end Go.Proofs.YtgnkcpkdlkabkaaGreat

/- What objects any cells have: the law by the program. -/
set_option linter.unusedVariables false
set_option linter.unusedSimpArgs false
namespace Go.Proofs.YtgnkcpkdlkabkaaGreat
open Go Go.Ir

structure Wd where
 i : Int
 t : Int
 ht : -9223372036854775808 ≤ t ∧ t < 9223372036854775808
def Wd.cs (x : Wd) : List Value := [I x.i, I x.t]
instance : Inhabited Wd := ⟨⟨0, 0, by omega⟩⟩
def wcs (l : List Wd) : List (List Value) := l.map Wd.cs
theorem wcs_length (l : List Wd) : (wcs l).length = l.length := by simp [wcs]
theorem wcs_rows {h : Heap} {v : Value} {l : List Wd} (hv : Sl h 2 v (wcs l)) (h0 : l ≠ []) :
  ∃ ad cap, v = .slice (some ad) l.length cap ∧ ∀ (i : Nat) (x : Wd), l[i]? = some x → loadV h none ⟨ad.block, ad.off + i * 2 + 0, none⟩ = some (I x.i) ∧ loadV h none ⟨ad.block, ad.off + i * 2 + 1, none⟩ = some (I x.t) := by
 obtain ⟨ad, cap, h1, h2⟩ := hv.row (show wcs l ≠ [] from fun e => h0 (List.map_eq_nil_iff.1 e))
 rw [wcs_length] at h1
 refine ⟨ad, cap, h1, fun i x hi => ?_⟩
 have hg : (wcs l)[i]? = some x.cs := by simp [wcs, hi]
 exact ⟨(h2 i _ hg).1 0 _ rfl, (h2 i _ hg).1 1 _ rfl⟩

def setW (ws : List Int) (l : List Wd) : List Int := l.foldl (fun a w => setI a w.i w.t) ws
theorem setW_succ (ws : List Int) {l : List Wd} {i : Nat} (hi : i < l.length) : setW ws (l.take (i + 1)) = setI (setW ws (l.take i)) l[i].i l[i].t := by
 unfold setW
 rw [List.take_succ_eq_append_getElem hi, List.foldl_append]
 rfl
theorem setI_rng {ws : List Int} (h : Rng ws) (i : Int) {n : Int} (hn : -9223372036854775808 ≤ n ∧ n < 9223372036854775808) : Rng (setI ws i n) := by
 intro w hw
 unfold setI at hw
 split at hw
 ·rcases List.mem_or_eq_of_mem_set hw with h1 | h1
  ·exact h w h1
  ·rw [h1]; exact hn
 ·exact h w hw
theorem setW_rng : ∀ {l : List Wd} {ws : List Int}, Rng ws → Rng (setW ws l)
 | [], ws, h => h
 | a :: l, ws, h => setW_rng (l := l) (setI_rng h a.i a.ht)
theorem start_rng {c : Cfg} (hm : c.may) : Rng (startL c) := by
 intro w hw
 unfold Cfg.may at hm
 unfold startL at hw
 rcases List.mem_or_eq_of_mem_set hw with h1 | h1
 ·unfold partL at h1
  obtain ⟨k, hk, rfl⟩ := List.mem_map.1 h1
  rw [List.mem_range] at hk
  unfold wordsI at hk
  unfold partW
  split <;> omega
 ·omega
def upB (bs : List Int) : Nat → List Int
 | 0 => bs
 | i + 1 => setI (upB bs i) (i : Nat) (byteI (i : Nat))
theorem bytesL_len (ws bs : List Int) (c : Cfg) (slot : Int) : (bytesL ws bs c slot).length ≤ 16384 := by
 have hll := allL_len ws c
 have h := flat_bound (byG bs slot (getI ws (slotI c slot 1))) 256 (allL ws c) fun a ha => by
  unfold byG
  split
  ·rename_i hs
   obtain ⟨hp, s, h1, y, h2, h3⟩ := allL_fd ha
   have h4 := fdS_mem h2 h3
   rw [h4.1] at hs
   rw [hs] at h4
   have := h4.2.2.2.2.1
   simp [byF]; omega
  ·simp
 unfold bytesL
 exact Nat.le_trans h (Nat.le_trans (Nat.mul_le_mul_right 256 hll) (by decide))

theorem extC {h H H' : Heap} {S : List Nat} (e : Ext h H) (o : Chg S H H') (hS : ∀ j ∈ S, h.length ≤ j) : Ext h H' :=
 ⟨Nat.le_trans e.1 o.len, fun i hi => by
   rw [o.same i (Nat.lt_of_lt_of_le hi e.1) fun hs => by have := hS i hs; omega]
   exact e.2 i hi⟩
structure Two (L : Nat) (cb db : CB) : Prop where
 a : L ≤ cb.P ∧ L ≤ cb.W ∧ L ≤ cb.Y
 b : L ≤ db.P ∧ L ≤ db.W ∧ L ≤ db.Y
 p : cb.P ≠ db.P ∧ cb.P ≠ db.W ∧ cb.P ≠ db.Y
 w : cb.W ≠ db.P ∧ cb.W ≠ db.W ∧ cb.W ≠ db.Y
 y : cb.Y ≠ db.P ∧ cb.Y ≠ db.W ∧ cb.Y ≠ db.Y

section
variable {L : Nat} {cb db : CB} {h H : Heap} {ws bs ws' bs' : List Int}
theorem both_store (t : Two h.length cb db) (hC : IsC H cb ws bs) (hR : IsR H db ws' bs') (e : Ext h H) (i n : Int) :
  ∃ H1 H2, callR En 0 Id.cells_Plain_Store [ptrC cb, I i, I n] H = some (noneV, H1) ∧ callR En 0 Id.sidingsref05_Plain_Store [ptrC db, I i, I n] H1 = some (noneV, H2) ∧ IsC H2 cb (setI ws i n) bs ∧ IsR H2 db (setI ws' i n) bs' ∧ Ext h H1 ∧ Ext h H2 := by
 obtain ⟨H1, h1, h2, h3⟩ := store_spec hC (Nat.zero_le _) (Nat.zero_le _) i n
 have hR1 := hR.chg (.of h3) (by simp [t.p.1.symm, t.p.2.1.symm, t.p.2.2.symm, t.w.1.symm, t.w.2.1.symm, t.w.2.2.symm])
 obtain ⟨H2, g1, g2, g3⟩ := rstore_spec hR1 (Nat.zero_le _) (Nat.zero_le _) i n
 have hC2 := h2.chg (.of g3) (by simp [t.p.1, t.p.2.1, t.p.2.2, t.w.1, t.w.2.1, t.w.2.2, t.y.1, t.y.2.1, t.y.2.2])
 have e1 := extC e (.of h3) (by simp [t.a.1, t.a.2.1, t.a.2.2])
 exact ⟨H1, H2, h1, g1, hC2, g2, e1, extC e1 (.of g3) (by simp [t.b.1, t.b.2.1, t.b.2.2])⟩
theorem both_byte (t : Two h.length cb db) (hC : IsC H cb ws bs) (hR : IsR H db ws' bs') (e : Ext h H) {i : Nat} (hi : i < 5000) :
  ∃ H1 H2, callR En 0 Id.cells_Plain_SetByte [ptrC cb, N i, N i] H = some (noneV, H1) ∧ callR En 0 Id.sidingsref05_Plain_SetByte [ptrC db, N i, N i] H1 = some (noneV, H2) ∧ IsC H2 cb ws (setI bs (i : Nat) (byteI (i : Nat))) ∧ IsR H2 db ws' (setI bs' (i : Nat) (byteI (i : Nat))) ∧ Ext h H1 ∧ Ext h H2 := by
 obtain ⟨H1, h1, h2, h3⟩ := setByte_spec hC (Nat.zero_le _) (Nat.zero_le _) (i : Nat) (i : Nat)
 have hR1 := hR.chg (.of h3) (by simp [t.p.1.symm, t.p.2.1.symm, t.p.2.2.symm, t.y.1.symm, t.y.2.1.symm, t.y.2.2.symm])
 obtain ⟨H2, g1, g2, g3⟩ := rsetByte_spec hR1 (Nat.zero_le _) (Nat.zero_le _) hi
 have hC2 := h2.chg (.of g3) (by simp [t.p.1, t.p.2.1, t.p.2.2, t.w.1, t.w.2.1, t.w.2.2, t.y.1, t.y.2.1, t.y.2.2])
 have e1 := extC e (.of h3) (by simp [t.a.1, t.a.2.1, t.a.2.2])
 exact ⟨H1, H2, h1, g1, hC2, g2, e1, extC e1 (.of g3) (by simp [t.b.1, t.b.2.1, t.b.2.2])⟩

structure Ends (H : Heap) (cb db : CB) (c : Cfg) (mv : Mv) (is : Bool) (slot : Int) (hv : Value) (ea ck : Int) where
 v1 : Value
 H1 : Heap
 v2 : Value
 H2 : Heap
 b3 : Option Addr
 n3 : Nat
 k3 : Nat
 H3 : Heap
 v4 : Value
 H4 : Heap
 H5 : Heap
 v6 : Value
 H6 : Heap
 v7 : Value
 H7 : Heap
 c1 : callR En 0 Id.audit_Objects [ifC cb, .agg c.cs.toArray] H = some (.tuple #[v1, I ea], H1)
 c2 : callR En 0 Id.sidingsref21_Objects [ptrC db, .agg c.cs.toArray] H1 = some (.tuple #[v2, I ea], H2)
 c3 : callR En 0 Id.sidingslaw21_own [hv] H2 = some (.slice b3 n3 k3, H3)
 c4 : callR En 0 Id.sidingslaw21_told [v1] H3 = some (v4, H4)
 c5 : callR En 0 Id.sidingsref17_Same [v4, v2] H4 = some (.bool true, H4)
 c6 : callR En 0 Id.audit_Check [staV (ifC cb) c ⟨.slice b3 n3 k3, mv, is⟩] H4 = some (I ck, H5)
 c7 : callR En 0 Id.sidingsref21_Check [ptrC db, .agg c.cs.toArray, hv, .agg mv.cs.toArray, .bool is] H5 = some (I ck, H5)
 c8 : callR En 0 Id.audit_Bytes [ifC cb, .agg c.cs.toArray, I slot] H5 = some (v6, H6)
 c9 : callR En 0 Id.sidingsref21_Bytes [ptrC db, .agg c.cs.toArray, I slot] H6 = some (v7, H7)
 c10 : callR En 0 Id.sidingsref01_Same [v6, v7] H7 = some (.bool true, H7)

theorem ends_all (t : Two h.length cb db) (hC : IsC H cb ws bs) (hR : IsR H db ws bs) (e : Ext h H) (hr : Rng ws) (c : Cfg) (mv : Mv) (is : Bool) (slot : Int) {hv : Value} {hl : List Obj} (hh : Sl h 4 hv (css hl)) (hll : hl.length ≤ 10) :
  ∃ ea ck, Nonempty (Ends H cb db c mv is slot hv ea ck) := by
 have lC := hC.lts
 have lR := hR.lts
 have dn : ∀ {S : List Nat}, S = [cb.P] → db.P ∉ S ∧ db.W ∉ S ∧ db.Y ∉ S := fun {S} hS => by subst hS; simp [t.p.1.symm, t.p.2.1.symm, t.p.2.2.symm]
 have cn : ∀ {S : List Nat}, S = [db.P] → cb.P ∉ S ∧ cb.W ∉ S ∧ cb.Y ∉ S := fun {S} hS => by subst hS; simp [t.p.1, t.w.1, t.y.1]
 have hPa : ∀ j ∈ [cb.P], h.length ≤ j := by simp [t.a.1]
 have hPb : ∀ j ∈ [db.P], h.length ≤ j := by simp [t.b.1]
 obtain ⟨v1, H1, c1, hC1, x1, o1⟩ := objects_spec (lo := 0) hC (Nat.zero_le _) c
 have hR1 := hR.chg x1 (dn rfl)
 have e1 := extC e x1 hPa
 have c2 := robjects_spec (lo := 0) hR1 c
 have hm2 := made_sl (h := H1) (n := 4) (css_len (objL ws c))
 generalize made H1 4 (css (objL ws c)) = m2 at c2 hm2
 obtain ⟨v2, H2⟩ := m2
 have x2 : Ext H1 H2 := hm2.2
 have e2 := e1.trans x2
 have hle : (objL ws c).length ≤ 64 := by rw [objL, List.length_map]; exact allL_len ws c
 have c3 := own_spec 0 (hh.ext e2) (by omega)
 have hm3 := (made_sl (h := H2) (n := 4) (css_len hl)).2
 have ho3 := made_out (h := H2) (n := 4) (css_len hl)
 generalize made H2 4 (css hl) = m3 at c3 hm3 ho3
 obtain ⟨v3, H3⟩ := m3
 have x3 : Ext H2 H3 := hm3
 have ho3 : Out H3 H2.length 4 v3 (css hl) := ho3
 obtain ⟨b3, k3, rfl⟩ := ho3.sl.len
 have c4 := told_spec 0 ((o1.sl.ext x2).ext x3) (by omega)
 have hm4 := made_sl (h := H3) (n := 4) (css_len (objL ws c))
 generalize made H3 4 (css (objL ws c)) = m4 at c4 hm4
 obtain ⟨v4, H4⟩ := m4
 have x4 : Ext H3 H4 := hm4.2
 have s2 : Sl H4 4 v2 (css (objL ws c)) := (hm2.1.ext x3).ext x4
 have c5 := same17_spec 0 hm4.1 s2 (by omega)
 have x14 := (x2.trans x3).trans x4
 have hC4 := hC1.ext x14
 have hR4 := hR1.ext x14
 have e4 := e1.trans x14
 have l12 := x1.len
 have l1 := x2.1
 have l3 := x3.1
 have l4 := x4.1
 obtain ⟨H5, c6, hC5, x5⟩ := check_spec (lo := 0) hC4 (Nat.zero_le _) hr c ⟨.slice b3 _ k3, mv, is⟩ hll (fun H' hH => (ho3.keep (H' := H') fun i h1 h2 => by rw [hH i (by omega) (by omega)]; exact x4.2 i h2).sl)
 have hR5 := hR4.chg x5 (dn rfl)
 have e5 := extC e4 x5 hPa
 have c7 := rcheck_spec hR5 hr c mv is hll (hh.ext e5) 0
 obtain ⟨v6, H6, c8, hC6, x6, o6⟩ := bytes_spec (lo := 0) hC5 (Nat.zero_le _) c slot
 have hR6 := hR5.chg x6 (dn rfl)
 obtain ⟨v7, H7, c9, hR7, x7, o7⟩ := rbytes_spec (lo := 0) hR6 (Nat.zero_le _) c slot
 have l5 := x5.len
 have o67 := o6.keep (H' := H7) fun i h1 h2 => x7.same i h2 (by simp; omega)
 have c10 := same01_spec 0 o67.sl o7.sl (by have := bytesL_len ws bs c slot; omega)
 exact ⟨_, _, ⟨v1, H1, v2, H2, b3, _, k3, H3, v4, H4, H5, v6, H6, v7, H7, c1, c2, c3, c4, c5, c6, c7, c8, c9, c10⟩⟩
end
end Go.Proofs.YtgnkcpkdlkabkaaGreat

/- What objects any cells have: the law's run. -/
set_option linter.unusedVariables false
set_option linter.unusedSimpArgs false
namespace Go.Proofs.YtgnkcpkdlkabkaaGreat
open Go Go.Ir

set_option maxHeartbeats 8000000 in
theorem tells_run (c : Cfg) (mv : Mv) (is : Bool) (slot : Int) {h : Heap} {wv hv : Value} {l : List Wd} {hl : List Obj} (hw : Sl h 2 wv (wcs l)) (hh : Sl h 4 hv (css hl)) :
  ∃ h', callR En 0 Id.sidingslaw21_AuditTells [.agg #[I c.A, I c.S, I c.T, wv, hv, I mv.s, I mv.f, I mv.t, I mv.n, .bool is, I slot]] h = some (.bool true, h') := by
 have key : ∃ u h', callR En 0 Id.sidingslaw21_AuditTells [.agg #[I c.A, I c.S, I c.T, wv, hv, I mv.s, I mv.f, I mv.t, I mv.n, .bool is, I slot]] h = some (u, h') ∧ u = .bool true := by
  refine call_ex rfl Fn.sidingslaw21_AuditTells rfl rfl ?_
  refine Exists.elim hw.len fun wb hq => Exists.elim hq fun wc hve => ?_
  rw [wcs_length] at hve
  subst hve
  refine Exists.elim hh.len fun hb hq => Exists.elim hq fun hc0 hve => ?_
  rw [css_length] at hve
  subst hve
  have hcs : Value.agg c.cs.toArray = .agg #[I c.A, I c.S, I c.T] := rfl
  have hmcs : Value.agg mv.cs.toArray = .agg #[I mv.s, I mv.f, I mv.t, I mv.n] := rfl
  by_cases hl1 : 100 < l.length
  ·repeat' (first | (show ER _ _ _ _ _ _ _; first | refine .seq ?_ | refine .reg ?_ | refine .yes rfl ?_ | refine .ret rfl ?_) | (show EG _ _ _ _ _ _ _ _ _; first | refine .mov rfl rfl ?_ | refine .lload rfl rfl rfl rfl ?_ | refine .laddr rfl rfl rfl ?_ | refine .gtrT rfl rfl rfl (by omega) ?_ | refine .call rfl rfl (live_c _ _) ?_ | refine .skip rfl ?_ | refine .fin ?_ | refine .go rfl rfl rfl ?_))
   rfl
  by_cases hl2 : 10 < hl.length
  ·repeat' (first | (show ER _ _ _ _ _ _ _; first | refine .seq ?_ | refine .reg ?_ | refine .yes rfl ?_ | refine .ret rfl ?_) | (show EG _ _ _ _ _ _ _ _ _; first | refine .mov rfl rfl ?_ | refine .lload rfl rfl rfl rfl ?_ | refine .laddr rfl rfl rfl ?_ | (show EG _ _ (⟨_, .bin _ _ _, _, _⟩ :: _) _ _ _ _ _ _; first | refine .gtrT rfl rfl rfl (by omega) ?_ | refine .gtrF rfl rfl rfl (by omega) ?_) | refine .call rfl rfl (live_c _ _) ?_ | refine .fin ?_ | refine .go rfl rfl rfl ?_))
   rfl
  by_cases hm : c.may
  ·have hm' := hm
   unfold Cfg.may at hm'
   refine Exists.elim (start_may 0 h hm (Nat.zero_le _)) fun H1 hq => ?_
   have hS := hq.1
   have hC1 := hq.2.1
   have e1 := hq.2.2.1
   have hl1' := hq.2.2.2
   clear hq
   refine Exists.elim (rstart_spec 0 H1 hm (Nat.zero_le _)) fun H2 hq => ?_
   have hS2 := hq.1
   have hR2 := hq.2.1
   have e2 := hq.2.2.1
   clear hq
   have hC2 := hC1.ext e2
   have e02 := e1.trans e2
   have two : Two h.length (newC h) (docC H1) := by
    refine ⟨?_, ?_, ?_, ?_, ?_⟩ <;> simp only [newC, docC] <;> omega
   generalize newC h = cb at *
   generalize docC H1 = db at *
   rw [hcs] at hS hS2
   repeat' (first | (show ER _ _ _ _ _ _ _; first | refine .seq ?_ | refine .reg ?_ | refine .no rfl ?_ | refine .skip ?_ | refine .block ?_) | (show EG _ _ _ _ _ _ _ _ _; first | refine .mov rfl rfl ?_ | refine .lload rfl rfl rfl rfl ?_ | refine .laddr rfl rfl rfl ?_ | refine .gtrF rfl rfl rfl (by omega) ?_ | (show EG _ _ (⟨_, .call _ _, _, _⟩ :: _) _ _ _ _ _ _; first | refine .call rfl rfl (hS) ?_ | refine .call rfl rfl (hS2) ?_) | refine .fin ?_ | refine .go rfl rfl rfl ?_))
   refine .loop (fun n f H => ∃ i : Nat, n + i = l.length ∧ f = [(1, .agg #[I c.A, I c.S, I c.T, .slice wb l.length wc, .slice hb hl.length hc0, I mv.s, I mv.f, I mv.t, I mv.n, .bool is, I slot]), (3, ptrC cb), (4, ptrC db), (5, N i)] ∧ IsC H cb (setW (startL c) (l.take i)) (List.replicate c.A.toNat 0) ∧ IsR H db (setW (startL c) (l.take i)) (List.replicate c.A.toNat 0) ∧ Ext h H) (n := l.length)
    ⟨0, rfl, rfl, hC2, hR2, e02⟩ ?_
   clear hC1 hC2 hR2 e1 e2 e02 hl1'
   rintro n f H ⟨i, hn, rfl, hC, hR, e⟩ next
   by_cases hi : i < l.length
   ·have hgi : l[i]? = some l[i] := List.getElem?_eq_getElem hi
    have hsu := setW_succ (startL c) hi
    have h0 : l ≠ [] := fun e => by rw [e] at hi; simp at hi
    generalize l[i] = x at hgi hsu
    refine Exists.elim (both_store two hC hR e x.i x.t) fun H3 hq => Exists.elim hq fun H4 hq => ?_
    have hs3 := hq.1
    have hs4 := hq.2.1
    have hC4 := hq.2.2.1
    have hR4 := hq.2.2.2.1
    have e3 := hq.2.2.2.2.1
    have e4 := hq.2.2.2.2.2
    clear hq
    refine Exists.elim (wcs_rows (hw.ext e) h0) fun ad hq => Exists.elim hq fun cap' hq => ?_
    have hva := hq.1
    injection hva with g1 g2 g3
    subst g1
    have I0 := (hq.2 i x hgi).1
    have I1 := (hq.2 i x hgi).2
    clear hq
    refine Exists.elim (wcs_rows (hw.ext e3) h0) fun ad2 hq => Exists.elim hq fun cap2 hq => ?_
    have hvb := hq.1
    injection hvb with g4 g5 g6
    injection g4 with g4
    subst g4
    have J0 := (hq.2 i x hgi).1
    have J1 := (hq.2 i x hgi).2
    clear hq
    rw [← hsu] at hC4 hR4
    repeat' (first | (show ER _ _ _ _ _ _ _; first | refine .seq ?_ | refine .reg ?_ | refine .yes rfl ?_ | refine .skip ?_ | refine .block ?_ | refine .endB ?_) | (show EG _ _ _ _ _ _ _ _ _; first | refine .mov rfl rfl ?_ | refine .lload rfl rfl rfl rfl ?_ | refine .laddr rfl rfl rfl ?_ | (show EG _ _ (⟨_, .bin _ _ _, _, _⟩ :: _) _ _ _ _ _ _; first | refine .lssT rfl rfl rfl (by omega) ?_ | refine .addN (b := 1) rfl rfl rfl (by omega) ?_) | (show EG _ _ (⟨_, .load _ _, _, _⟩ :: _) _ _ _ _ _ _; first | refine .load rfl rfl (I0) ?_ | refine .load rfl rfl (I1) ?_ | refine .load rfl rfl (J0) ?_ | refine .load rfl rfl (J1) ?_) | (show EG _ _ (⟨_, .call _ _, _, _⟩ :: _) _ _ _ _ _ _; first | refine .call rfl rfl (hs3) ?_ | refine .call rfl rfl (hs4) ?_) | refine .iaddr rfl rfl rfl (hi) ?_ | refine .fin ?_ | refine .go rfl rfl rfl ?_))
    exact next (n - 1) _ _ (by omega) ⟨i + 1, by omega, rfl, hC4, hR4, e4⟩
   ·rw [List.take_of_length_le (by omega)] at hC hR
    have hr := setW_rng (l := l) (start_rng hm)
    generalize setW (startL c) l = ws at hC hR hr
    clear next
    repeat' (first | (show ER _ _ _ _ _ _ _; first | refine .seq ?_ | refine .reg ?_ | refine .no rfl ?_ | refine .block ?_ | refine .exit rfl ?_) | (show EG _ _ _ _ _ _ _ _ _; first | refine .mov rfl rfl ?_ | refine .lload rfl rfl rfl rfl ?_ | refine .laddr rfl rfl rfl ?_ | refine .lssF rfl rfl rfl (by omega) ?_ | refine .fin ?_ | refine .go rfl rfl rfl ?_))
    refine .loop (fun n f H => ∃ i : Nat, (n : Int) + i = c.A ∧ f = [(1, .agg #[I c.A, I c.S, I c.T, .slice wb l.length wc, .slice hb hl.length hc0, I mv.s, I mv.f, I mv.t, I mv.n, .bool is, I slot]), (3, ptrC cb), (4, ptrC db), (6, N i)] ∧ IsC H cb ws (upB (List.replicate c.A.toNat 0) i) ∧ IsR H db ws (upB (List.replicate c.A.toNat 0) i) ∧ Ext h H) (n := c.A.toNat)
     ⟨0, by omega, rfl, hC, hR, e⟩ ?_
    clear hC hR e
    rintro n f H ⟨i, hn, rfl, hC, hR, e⟩ next
    by_cases hi : (i : Int) < c.A
    ·refine Exists.elim (both_byte two hC hR e (i := i) (by omega)) fun H3 hq => Exists.elim hq fun H4 hq => ?_
     have hs3 := hq.1
     have hs4 := hq.2.1
     have hC4 := hq.2.2.1
     have hR4 := hq.2.2.2.1
     have e4 := hq.2.2.2.2.2
     clear hq
     repeat' (first | (show ER _ _ _ _ _ _ _; first | refine .seq ?_ | refine .reg ?_ | refine .yes rfl ?_ | refine .skip ?_ | refine .block ?_ | refine .endB ?_) | (show EG _ _ _ _ _ _ _ _ _; first | refine .mov rfl rfl ?_ | refine .lload rfl rfl rfl rfl ?_ | refine .laddr rfl rfl rfl ?_ | (show EG _ _ (⟨_, .bin _ _ _, _, _⟩ :: _) _ _ _ _ _ _; first | refine .lssT rfl rfl rfl (by omega) ?_ | refine .addN (b := 1) rfl rfl rfl (by omega) ?_) | (show EG _ _ (⟨_, .call _ _, _, _⟩ :: _) _ _ _ _ _ _; first | refine .call rfl rfl (hs3) ?_ | refine .call rfl rfl (hs4) ?_) | refine .fin ?_))
     exact next (n - 1) _ _ (by omega) ⟨i + 1, by omega, rfl, hC4, hR4, e4⟩
    ·clear next
     refine Exists.elim (ends_all two hC hR e hr c mv is slot hh (by omega)) fun ea hq => Exists.elim hq fun ck hq => Nonempty.elim hq fun E => ?_
     have c1 := E.c1
     have c2 := E.c2
     have c3 := E.c3
     have c4 := E.c4
     have c5 := E.c5
     have c6 := E.c6
     have c7 := E.c7
     have c8 := E.c8
     have c9 := E.c9
     have c10 := E.c10
     rw [hcs] at c1 c2 c7 c8 c9
     rw [hmcs] at c7
     simp only [staV] at c6
     repeat' (first | (show ER _ _ _ _ _ _ _; first | refine .seq ?_ | refine .reg ?_ | refine .no rfl ?_ | refine .exit rfl ?_ | refine .ret rfl ?_) | (show EG _ _ _ _ _ _ _ _ _; first | refine .mov rfl rfl ?_ | refine .lload rfl rfl rfl rfl ?_ | refine .laddr rfl rfl rfl ?_ | (show EG _ _ (⟨_, .bin _ _ _, _, _⟩ :: _) _ _ _ _ _ _; first | refine .lssF rfl rfl rfl (by omega) ?_ | refine .eqlT rfl rfl rfl (by omega) ?_) | (show EG _ _ (⟨_, .call _ _, _, _⟩ :: _) _ _ _ _ _ _; first | refine .call rfl rfl (c1) ?_ | refine .call rfl rfl (c2) ?_ | refine .call rfl rfl (c3) ?_ | refine .call rfl rfl (c4) ?_ | refine .call rfl rfl (c5) ?_ | refine .call rfl rfl (c6) ?_ | refine .call rfl rfl (c7) ?_ | refine .call rfl rfl (c8) ?_ | refine .call rfl rfl (c9) ?_ | refine .call rfl rfl (c10) ?_ | refine .call rfl rfl (live_c _ _) ?_) | refine .fin ?_ | refine .go rfl rfl rfl ?_))
     rfl
  ·have hS := fun lo => start_not lo h hm
   have hM := fun lo => may_spec lo h c
   rw [decide_eq_false hm] at hM
   rw [hcs] at hS hM
   repeat' (first | (show ER _ _ _ _ _ _ _; first | refine .seq ?_ | refine .reg ?_ | refine .yes rfl ?_ | refine .no rfl ?_ | refine .skip ?_ | refine .ret rfl ?_) | (show EG _ _ _ _ _ _ _ _ _; first | refine .mov rfl rfl ?_ | refine .lload rfl rfl rfl rfl ?_ | refine .laddr rfl rfl rfl ?_ | refine .gtrF rfl rfl rfl (by omega) ?_ | (show EG _ _ (⟨_, .call _ _, _, _⟩ :: _) _ _ _ _ _ _; first | refine .call rfl rfl (hS _) ?_ | refine .call rfl rfl (hM _) ?_ | refine .call rfl rfl (live_c _ _) ?_) | refine .fin ?_ | refine .go rfl rfl rfl ?_))
   rfl
 obtain ⟨u, h', h1, rfl⟩ := key
 exact ⟨h', h1⟩
end Go.Proofs.YtgnkcpkdlkabkaaGreat

/- A case as an argument: a config, words that are spoilt, what is held, a move, whether it is, a slot. -/
set_option linter.unusedVariables false
set_option linter.unusedSimpArgs false
set_option linter.constructorNameAsVariable false
namespace Go.Ir
open Go Go.ChangeShapes Go.WideShapes
theorem open_rowC {P : Program} {S T n : Nat} {α : Type} [Inhabited α] (f : α → List Value) (hu : P.underlying S = some (.slice T)) (hcl : P.cellsOf T = n) (hn : 0 < n) (hf : ∀ a, (f a).length = n ∧ (f a).all flat1 = true ∧ (f a).all oneA = true)
  {H : Type} {enc : TypeId × Value → H} {W : World} {spare : Nat → Bool} {held : Bool}
  (op : ∀ {base k : Nat} {cs : List Value} {x : DataW H × List MemPlace}, DataW.trod enc P W base spare held k T cs = some x → ∃ a, cs = f a)
  {E : Emb} {h : Heap} (s : Sim W.heap.size W E h W) (hro : RoH h) {base k : Nat} {cs : List Value} {x : DataW H × List MemPlace} (hk : DataW.trod enc P W base spare held k S cs = some x) :
  ∃ v0, cs = [v0] ∧ ∃ E' h' v l, Sim W.heap.size W E' h' W ∧ E.le E' ∧ RoH h' ∧ Ext h h' ∧ VR E' v v0 ∧ Sl h' n v (List.map f l) ∧ TightV v l.length := by
 rcases Deep.open_slice hu hk with ⟨hc, _⟩ | ⟨a, len, cap, m, k', D, Pl, hc, _, hlc, _, hm, _, hX⟩
 ·exact ⟨_, hc, E, h, .slice none 0 0, [], s, Emb.le_refl E, hro, .refl _, .slice0, ⟨fun e he => (by cases he), .inl ⟨rfl, none, 0, rfl⟩⟩, .inl ⟨rfl, rfl⟩⟩
 ·refine ⟨_, hc, ?_⟩
  simp only [hcl] at hX
  have hlm : len ≤ m := by
   rw [hm]; split <;> omega
  obtain ⟨X, hXX⟩ := Deep.choose_lt (α := List Value) (n := len) (p := fun i cs => (∃ o : α, cs = f o) ∧ ∀ j, j < n → W.cell? (a.add (i * n + j)) = cs[j]?) (fun i hi => by
   obtain ⟨cs', g1, g2⟩ := hX i (by omega)
   obtain ⟨_, _, g3⟩ := World.cells?_some g1
   refine ⟨cs', op g2, fun j hj => ?_⟩
   have := g3 j hj
   rw [Deep.add_add] at this
   exact this)
  obtain ⟨O, hO⟩ := Deep.choose_lt (α := α) (n := len) (p := fun i o => X i = f o) (fun i hi => (hXX i hi).1)
  obtain ⟨E', h', v, s1, s2, s3, s4, s5, s6, s7⟩ := arg_push (a := a) (len := len) (cap := cap) (n := n) s hro hlc X hn (fun i hi => by rw [hO i hi]; exact ⟨(hf _).1, (hf _).2.2⟩) (fun i j x hi hj => by
   have hjn : j < n := by
    have := (List.getElem?_eq_some_iff.1 hj).1
    rw [hO i hi, (hf _).1] at this
    exact this
   refine ⟨x, by rw [(hXX i hi).2 j hjn, hj], VR.flat ?_⟩
   rw [hO i hi] at hj
   have := List.all_eq_true.1 (hf (O i)).2.1 x (List.mem_of_getElem? hj)
   unfold flatV
   split <;> simp_all [flat1])
  refine ⟨E', h', v, (List.range len).map O, s1, s2, s3, s4, s5, ?_, by simpa using s7⟩
  have : List.map f ((List.range len).map O) = (List.range len).map X := by
   rw [List.map_map]
   exact List.map_congr_left fun i hi => (hO i (by simpa using hi)).symm
  rw [this]
  exact s6
theorem drop_at {α : Type} (l : List α) {o k i : Nat} {s : List α} (h : (l.drop o).take k = s) (hi : i < k) : l[o + i]? = s[i]? := by
 rw [← h, List.getElem?_take, if_pos hi, List.getElem?_drop]
end Go.Ir
namespace Go.Proofs.YtgnkcpkdlkabkaaGreat
open Go Go.Ir Go.ChangeShapes Go.WideShapes

theorem cellsOf23 : Tryz.prog.cellsOf 23 = 3 := by kernel_rfl
theorem cellsOf3 : Tryz.prog.cellsOf 3 = 1 := by kernel_rfl
theorem open_T23 {H : Type} {enc : TypeId × Value → H} {W : World} {base : Nat} {spare : Nat → Bool} {held : Bool} {n : Nat} {cs : List Value} {x : DataW H × List MemPlace} (h : DataW.trod enc Tryz.prog W base spare held n 23 cs = some x) :
  ∃ (a0 : Int) (a1 : Int) (a2 : Int), cs = [.int .i64 a0, .int .i64 a1, .int .i64 a2] := by
 obtain ⟨xs, m, _, _, hlen, hxl, hf⟩ := DataW.trod_struct Tryz.underlying23 h
 rw [cellsOf23] at hlen
 have hx : xs.length = 3 := hxl
 have g0 : DataW.trod enc Tryz.prog W base spare held m 3 ((cs.drop 0).take (Tryz.prog.cellsOf 3)) = xs[0]? := hf 0 _ rfl
 rw [cellsOf3, List.getElem?_eq_getElem (by omega)] at g0
 have g1 : DataW.trod enc Tryz.prog W base spare held m 3 ((cs.drop 1).take (Tryz.prog.cellsOf 3)) = xs[1]? := hf 1 _ rfl
 rw [cellsOf3, List.getElem?_eq_getElem (by omega)] at g1
 have g2 : DataW.trod enc Tryz.prog W base spare held m 3 ((cs.drop 2).take (Tryz.prog.cellsOf 3)) = xs[2]? := hf 2 _ rfl
 rw [cellsOf3, List.getElem?_eq_getElem (by omega)] at g2
 obtain ⟨b0, e0, _, _⟩ := DataW.trod_int Tryz.underlying3 g0
 obtain ⟨b1, e1, _, _⟩ := DataW.trod_int Tryz.underlying3 g1
 obtain ⟨b2, e2, _, _⟩ := DataW.trod_int Tryz.underlying3 g2
 refine ⟨b0, b1, b2, List.ext_getElem? fun i => ?_⟩
 match i with
 | 0 => exact take1 cs e0
 | 1 => exact take1 cs e1
 | 2 => exact take1 cs e2
 | i + 3 => rw [List.getElem?_eq_none (by omega)]; rfl


theorem cellsOf38 : Tryz.prog.cellsOf 38 = 2 := by kernel_rfl
theorem i64_rng {n : Int} (h : (Lit.int .i64 n).wf = true) : -9223372036854775808 ≤ n ∧ n < 9223372036854775808 := by
 simp only [Lit.wf, Bool.and_eq_true, decide_eq_true_eq] at h
 have h1 : IntKind.min .i64 = -9223372036854775808 := by decide
 have h2 : IntKind.max .i64 = 9223372036854775807 := by decide
 omega
theorem open_T38 {H : Type} {enc : TypeId × Value → H} {W : World} {base : Nat} {spare : Nat → Bool} {held : Bool} {n : Nat} {cs : List Value} {x : DataW H × List MemPlace} (h : DataW.trod enc Tryz.prog W base spare held n 38 cs = some x) :
  ∃ (a0 : Int) (a1 : Int), (-9223372036854775808 ≤ a1 ∧ a1 < 9223372036854775808) ∧ cs = [.int .i64 a0, .int .i64 a1] := by
 obtain ⟨xs, m, _, _, hlen, hxl, hf⟩ := DataW.trod_struct Tryz.underlying38 h
 rw [cellsOf38] at hlen
 have hx : xs.length = 2 := hxl
 have g0 : DataW.trod enc Tryz.prog W base spare held m 3 ((cs.drop 0).take (Tryz.prog.cellsOf 3)) = xs[0]? := hf 0 _ rfl
 rw [cellsOf3, List.getElem?_eq_getElem (by omega)] at g0
 have g1 : DataW.trod enc Tryz.prog W base spare held m 3 ((cs.drop 1).take (Tryz.prog.cellsOf 3)) = xs[1]? := hf 1 _ rfl
 rw [cellsOf3, List.getElem?_eq_getElem (by omega)] at g1
 obtain ⟨b0, e0, _, _⟩ := DataW.trod_int Tryz.underlying3 g0
 obtain ⟨b1, e1, _, w1⟩ := DataW.trod_int Tryz.underlying3 g1
 refine ⟨b0, b1, i64_rng w1, List.ext_getElem? fun i => ?_⟩
 match i with
 | 0 => exact take1 cs e0
 | 1 => exact take1 cs e1
 | i + 2 => rw [List.getElem?_eq_none (by omega)]; rfl


theorem cellsOf90 : Tryz.prog.cellsOf 90 = 4 := by kernel_rfl
theorem cellsOf4 : Tryz.prog.cellsOf 4 = 1 := by kernel_rfl
theorem open_T90 {H : Type} {enc : TypeId × Value → H} {W : World} {base : Nat} {spare : Nat → Bool} {held : Bool} {n : Nat} {cs : List Value} {x : DataW H × List MemPlace} (h : DataW.trod enc Tryz.prog W base spare held n 90 cs = some x) :
  ∃ (a0 : Int) (a1 : Int) (a2 : Int) (a3 : Bool), cs = [.int .i64 a0, .int .i64 a1, .int .i64 a2, .bool a3] := by
 obtain ⟨xs, m, _, _, hlen, hxl, hf⟩ := DataW.trod_struct Tryz.underlying90 h
 rw [cellsOf90] at hlen
 have hx : xs.length = 4 := hxl
 have g0 : DataW.trod enc Tryz.prog W base spare held m 3 ((cs.drop 0).take (Tryz.prog.cellsOf 3)) = xs[0]? := hf 0 _ rfl
 rw [cellsOf3, List.getElem?_eq_getElem (by omega)] at g0
 have g1 : DataW.trod enc Tryz.prog W base spare held m 3 ((cs.drop 1).take (Tryz.prog.cellsOf 3)) = xs[1]? := hf 1 _ rfl
 rw [cellsOf3, List.getElem?_eq_getElem (by omega)] at g1
 have g2 : DataW.trod enc Tryz.prog W base spare held m 3 ((cs.drop 2).take (Tryz.prog.cellsOf 3)) = xs[2]? := hf 2 _ rfl
 rw [cellsOf3, List.getElem?_eq_getElem (by omega)] at g2
 have g3 : DataW.trod enc Tryz.prog W base spare held m 4 ((cs.drop 3).take (Tryz.prog.cellsOf 4)) = xs[3]? := hf 3 _ rfl
 rw [cellsOf4, List.getElem?_eq_getElem (by omega)] at g3
 obtain ⟨b0, e0, _, _⟩ := DataW.trod_int Tryz.underlying3 g0
 obtain ⟨b1, e1, _, _⟩ := DataW.trod_int Tryz.underlying3 g1
 obtain ⟨b2, e2, _, _⟩ := DataW.trod_int Tryz.underlying3 g2
 obtain ⟨b3, e3, _⟩ := DataW.trod_bool Tryz.underlying4 g3
 refine ⟨b0, b1, b2, b3, List.ext_getElem? fun i => ?_⟩
 match i with
 | 0 => exact take1 cs e0
 | 1 => exact take1 cs e1
 | 2 => exact take1 cs e2
 | 3 => exact take1 cs e3
 | i + 4 => rw [List.getElem?_eq_none (by omega)]; rfl


theorem cellsOf27 : Tryz.prog.cellsOf 27 = 4 := by kernel_rfl
theorem open_T27 {H : Type} {enc : TypeId × Value → H} {W : World} {base : Nat} {spare : Nat → Bool} {held : Bool} {n : Nat} {cs : List Value} {x : DataW H × List MemPlace} (h : DataW.trod enc Tryz.prog W base spare held n 27 cs = some x) :
  ∃ (a0 : Int) (a1 : Int) (a2 : Int) (a3 : Int), cs = [.int .i64 a0, .int .i64 a1, .int .i64 a2, .int .i64 a3] := by
 obtain ⟨xs, m, _, _, hlen, hxl, hf⟩ := DataW.trod_struct Tryz.underlying27 h
 rw [cellsOf27] at hlen
 have hx : xs.length = 4 := hxl
 have g0 : DataW.trod enc Tryz.prog W base spare held m 3 ((cs.drop 0).take (Tryz.prog.cellsOf 3)) = xs[0]? := hf 0 _ rfl
 rw [cellsOf3, List.getElem?_eq_getElem (by omega)] at g0
 have g1 : DataW.trod enc Tryz.prog W base spare held m 3 ((cs.drop 1).take (Tryz.prog.cellsOf 3)) = xs[1]? := hf 1 _ rfl
 rw [cellsOf3, List.getElem?_eq_getElem (by omega)] at g1
 have g2 : DataW.trod enc Tryz.prog W base spare held m 3 ((cs.drop 2).take (Tryz.prog.cellsOf 3)) = xs[2]? := hf 2 _ rfl
 rw [cellsOf3, List.getElem?_eq_getElem (by omega)] at g2
 have g3 : DataW.trod enc Tryz.prog W base spare held m 3 ((cs.drop 3).take (Tryz.prog.cellsOf 3)) = xs[3]? := hf 3 _ rfl
 rw [cellsOf3, List.getElem?_eq_getElem (by omega)] at g3
 obtain ⟨b0, e0, _, _⟩ := DataW.trod_int Tryz.underlying3 g0
 obtain ⟨b1, e1, _, _⟩ := DataW.trod_int Tryz.underlying3 g1
 obtain ⟨b2, e2, _, _⟩ := DataW.trod_int Tryz.underlying3 g2
 obtain ⟨b3, e3, _, _⟩ := DataW.trod_int Tryz.underlying3 g3
 refine ⟨b0, b1, b2, b3, List.ext_getElem? fun i => ?_⟩
 match i with
 | 0 => exact take1 cs e0
 | 1 => exact take1 cs e1
 | 2 => exact take1 cs e2
 | 3 => exact take1 cs e3
 | i + 4 => rw [List.getElem?_eq_none (by omega)]; rfl



instance : Inhabited Obj := ⟨⟨0, 0, 0, false⟩⟩
theorem cellsOf29 : Tryz.prog.cellsOf 29 = 11 := by kernel_rfl
theorem cellsOf24 : Tryz.prog.cellsOf 24 = 1 := by kernel_rfl
theorem cellsOf25 : Tryz.prog.cellsOf 25 = 1 := by kernel_rfl
section
variable {H : Type} {enc : TypeId × Value → H} {W : World} {base : Nat} {spare : Nat → Bool} {held : Bool} {n : Nat} {cs : List Value} {x : DataW H × List MemPlace}
theorem open_wd (h : DataW.trod enc Tryz.prog W base spare held n 38 cs = some x) : ∃ t : Wd, cs = t.cs := by
 obtain ⟨a0, a1, hr, rfl⟩ := open_T38 h
 exact ⟨⟨a0, a1, hr⟩, rfl⟩
theorem open_ob (h : DataW.trod enc Tryz.prog W base spare held n 90 cs = some x) : ∃ t : Obj, cs = t.cs := by
 obtain ⟨a0, a1, a2, a3, rfl⟩ := open_T90 h
 exact ⟨⟨a0, a1, a2, a3⟩, rfl⟩
set_option maxRecDepth 8000 in
theorem open_case {v0 : Value} {d0 : DataW H} {p0 : List MemPlace} {r : Reach} {b : Nat} (hval : Value.okWide Tryz.prog W r b 29 v0) (h : DataW.Trod enc Tryz.prog W base spare held 29 v0 d0 p0) :
  ∃ (c : Cfg) (mv : Mv) (is : Bool) (slot : Int) (E : Emb) (h : Heap) (wv hv : Value) (l : List Wd) (hl : List Obj), Sim W.heap.size W E h W ∧ VR E (.agg #[I c.A, I c.S, I c.T, wv, hv, I mv.s, I mv.f, I mv.t, I mv.n, .bool is, I slot]) v0 ∧ Sl h 2 wv (wcs l) ∧ Sl h 4 hv (css hl) := by
 simp only [Value.okWide, Tryz.underlying29] at hval
 obtain ⟨cs, rfl, _, _⟩ := hval
 obtain ⟨n, hn⟩ := h
 have hn : DataW.trod enc Tryz.prog W base spare held n 29 cs.toList = some (d0, p0) := by simpa [Value.cells] using hn
 obtain ⟨xs, m, _, _, hlen, hxl, hf⟩ := DataW.trod_struct Tryz.underlying29 hn
 rw [cellsOf29] at hlen
 have hx : xs.length = 6 := hxl
 have g0 : DataW.trod enc Tryz.prog W base spare held m 23 ((cs.toList.drop 0).take (Tryz.prog.cellsOf 23)) = xs[0]? := hf 0 _ rfl
 rw [cellsOf23, List.getElem?_eq_getElem (by omega)] at g0
 have g1 : DataW.trod enc Tryz.prog W base spare held m 24 ((cs.toList.drop 3).take (Tryz.prog.cellsOf 24)) = xs[1]? := hf 1 _ rfl
 rw [cellsOf24, List.getElem?_eq_getElem (by omega)] at g1
 have g2 : DataW.trod enc Tryz.prog W base spare held m 25 ((cs.toList.drop 4).take (Tryz.prog.cellsOf 25)) = xs[2]? := hf 2 _ rfl
 rw [cellsOf25, List.getElem?_eq_getElem (by omega)] at g2
 have g3 : DataW.trod enc Tryz.prog W base spare held m 27 ((cs.toList.drop 5).take (Tryz.prog.cellsOf 27)) = xs[3]? := hf 3 _ rfl
 rw [cellsOf27, List.getElem?_eq_getElem (by omega)] at g3
 have g4 : DataW.trod enc Tryz.prog W base spare held m 4 ((cs.toList.drop 9).take (Tryz.prog.cellsOf 4)) = xs[4]? := hf 4 _ rfl
 rw [cellsOf4, List.getElem?_eq_getElem (by omega)] at g4
 have g5 : DataW.trod enc Tryz.prog W base spare held m 3 ((cs.toList.drop 10).take (Tryz.prog.cellsOf 3)) = xs[5]? := hf 5 _ rfl
 rw [cellsOf3, List.getElem?_eq_getElem (by omega)] at g5
 obtain ⟨a0, a1, a2, e0⟩ := open_T23 g0
 obtain ⟨w0, e1, E1, h1, wv, l, s1, le1, ro1, ex1, vr1, sl1, ti1⟩ := open_rowC Wd.cs Tryz.underlying24 cellsOf38 (by decide) (fun a => ⟨rfl, rfl, rfl⟩) open_wd (sim_nil W) roH_nil g1
 obtain ⟨o0, e2, E2, h2, hv, hl, s2, le2, ro2, ex2, vr2, sl2, ti2⟩ := open_rowC Obj.cs Tryz.underlying25 cellsOf90 (by decide) (fun a => ⟨rfl, rfl, rfl⟩) open_ob s1 ro1 g2
 obtain ⟨m0, m1, m2, m3, e3⟩ := open_T27 g3
 obtain ⟨b4, e4, _⟩ := DataW.trod_bool Tryz.underlying4 g4
 obtain ⟨b5, e5, _, _⟩ := DataW.trod_int Tryz.underlying3 g5
 refine ⟨⟨a0, a1, a2⟩, ⟨m0, m1, m2, m3⟩, b4, b5, E2, h2, wv, hv, l, hl, s2, ?_, sl1.ext ex2, sl2⟩
 have hcs : cs.toList = [I a0, I a1, I a2, w0, o0, I m0, I m1, I m2, I m3, .bool b4, I b5] := List.ext_getElem? fun i => by
  match i with
  | 0 => have q := drop_at _ e0 (i := 0) (by decide); exact q
  | 1 => have q := drop_at _ e0 (i := 1) (by decide); exact q
  | 2 => have q := drop_at _ e0 (i := 2) (by decide); exact q
  | 3 => have q := drop_at _ e1 (i := 0) (by decide); exact q
  | 4 => have q := drop_at _ e2 (i := 0) (by decide); exact q
  | 5 => have q := drop_at _ e3 (i := 0) (by decide); exact q
  | 6 => have q := drop_at _ e3 (i := 1) (by decide); exact q
  | 7 => have q := drop_at _ e3 (i := 2) (by decide); exact q
  | 8 => have q := drop_at _ e3 (i := 3) (by decide); exact q
  | 9 => have q := drop_at _ e4 (i := 0) (by decide); exact q
  | 10 => have q := drop_at _ e5 (i := 0) (by decide); exact q
  | i + 11 => rw [List.getElem?_eq_none (by omega)]; rfl
 refine .agg _ _ ?_
 rw [hcs]
 exact .cons _ _ _ _ (.int _ _) (.cons _ _ _ _ (.int _ _) (.cons _ _ _ _ (.int _ _) (.cons _ _ _ _ (vr1.mono le2) (.cons _ _ _ _ vr2 (.cons _ _ _ _ (.int _ _) (.cons _ _ _ _ (.int _ _) (.cons _ _ _ _ (.int _ _) (.cons _ _ _ _ (.int _ _) (.cons _ _ _ _ (.bool _) (.cons _ _ _ _ (.int _ _) .nil))))))))))
end
end Go.Proofs.YtgnkcpkdlkabkaaGreat

