/- Cells as they are at first; of the thread seat. -/
import Derived.Test.YtnfcohmbcgfhbaaGreatThreadP1
import Derived.Test.YtnfcohmbcgfhbaaGreatHistQ
import Derived.Test.YtnfcohmbcgfhbaaGreatHistS
import Derived.Test.YtnfcohmbcgfhbaaGreatThreadQ3
set_option linter.unusedVariables false
set_option linter.unusedSimpArgs false

namespace Go.Proofs.YtnfcohmbcgfhbaaGreat
open Go Go.Ir

theorem start_may (lo : Nat) (h : Heap) {c : Cfg} (hm : c.may) (hlo : lo ≤ h.length) :
  ∃ H', callR En lo Id.zbU [.agg c.cs.toArray] h = some (ptrC (newC h), H') ∧ IsC H' (newC h) (startL c) (List.replicate c.A.toNat 0) ∧ Ext h H' ∧ H'.length = h.length + 3 := by
 have hm' := hm
 unfold Cfg.may at hm'
 have hW := fun lo => words_spec lo h c
 rw [if_pos hm] at hW
 refine Exists.elim (show ∃ nw : Nat, wordsI c = nw ∧ 1 ≤ nw ∧ nw ≤ 4096 from ⟨(wordsI c).toNat, by unfold wordsI; omega, by unfold wordsI; omega, by unfold wordsI; omega⟩) fun nw hnw => ?_
 refine Exists.elim (show ∃ nb : Nat, c.A = nb ∧ nb ≤ 4096 from ⟨c.A.toNat, by omega, by omega⟩) fun nb hnb => ?_
 have hN : ∀ lo, callR En lo Id.zak [I (wordsI c), I c.A] h = some (ptrC (newC h), newH h nw nb) := fun lo => by
  rw [hnw.1, hnb.1]; exact new_spec lo h hnw.2.1 hnw.2.2 hnb.2
 have hnh := newH_is h nw nb
 have hl : (newH h nw nb).length = h.length + 3 := by simp [newH]
 refine Exists.elim (start_spec (lo := lo) hm hnh.1 ⟨by simp [newC]; omega, by simp [newC]; omega⟩ (by rw [List.length_replicate, hnw.1]; simp) (by rw [List.length_replicate, hnb.1])) fun H' hq => ?_
 have hS := hq.1
 have hC := hq.2.1
 have ho := hq.2.2
 clear hq
 refine ⟨H', ?_, by rw [hnb.1]; exact hC, ⟨by rw [ho.len, hl]; omega, fun i hi => ?_⟩, by rw [ho.len, hl]⟩
 ·refine call_of rfl Fn.zbU rfl rfl ?_
  repeat' first | refine .A ?_ | refine .B ?_ | refine .D ?_ | refine .F ?_ | refine .J ?_ | refine .C ?_ | refine .f6 ?_ | refine .P (hW _) ?_ | refine .P (hN _) ?_ | refine .P hS ?_ | refine .Y ?_ | fail
  rfl
 ·rw [ho.same i (by simp [newC]; omega)]
  exact hnh.2.2 i hi

theorem start_not (lo : Nat) (h : Heap) {c : Cfg} (hm : ¬ c.may) : callR En lo Id.zbU [.agg c.cs.toArray] h = some (.pointer none, h) := by
 have hW := fun lo => words_spec lo h c
 rw [if_neg hm] at hW
 have hc := fun lo => cmay_spec lo h 0 c.A
 rw [show (inB 0 1 4096 && inB c.A 0 4096) = false by simp [inB]] at hc
 have hN : ∀ lo, callR En lo Id.zak [I 0, I c.A] h = some (.pointer none, h) := fun lo => by
  refine call_of rfl Fn.zak rfl rfl ?_
  repeat' first | refine .A ?_ | refine .B ?_ | refine .C ?_ | refine .J ?_ | refine .P (hc _) ?_ | refine .F ?_ | refine .Y ?_ | fail
  rfl
 refine call_of rfl Fn.zbU rfl rfl ?_
 repeat' first | refine .A ?_ | refine .B ?_ | refine .C ?_ | refine .J ?_ | refine .P (hW _) ?_ | refine .P (hN _) ?_ | refine .D ?_ | refine .F ?_ | refine .Y ?_ | fail
 rfl

end Go.Proofs.YtnfcohmbcgfhbaaGreat

/- ThreadHistories, as the program runs it. -/
namespace Go.Proofs.YtnfcohmbcgfhbaaGreat
open Go Go.Ir

theorem hbusy_spec {H : Heap} {own : List Nat} {ob b : Nat} {cb : CB} {c : Cfg} {t : Th} (hP : ThP H own ob cb c t b) : callR En 0 Id.zcz [ptrB b] H = some (.bool (decide (t.nx ≠ 0)), H) := by
 obtain ⟨ov, ev, mv, av, hr, _⟩ := hP.row
 have l5 : loadV H none ⟨b, 0 + 5, none⟩ = some (I t.nx) := ld_row hr rfl
 by_cases h : t.nx = 0
 ·rw [decide_eq_false (by simpa using h)]
  refine call_of rfl Fn.zcz rfl rfl ?_
  repeat' (first | (show ER _ _ _ _ _ _ _; first | refine .seq ?_ | refine .reg ?_ | refine .yes rfl ?_ | refine .no rfl ?_ | refine .skip ?_ | refine .block ?_ | refine .endB ?_ | refine .exit rfl ?_ | refine .br rfl (fun hc => ?_) (fun hc => ?_) | refine .scope ?_ | refine .inScope ?_ | refine .label ?_ | refine .ret rfl ?_ | refine .nil rfl ?_) | (show EG _ _ _ _ _ _ _ _ _; first | refine .mov rfl rfl ?_ | refine .lload rfl rfl rfl rfl ?_ | refine .laddr rfl rfl rfl ?_ | (show EG _ _ (⟨_, .bin _ _ _, _, _⟩ :: _) _ _ _ _ _ _; first | refine .lss rfl rfl rfl (fun hc => ?_) (fun hc => ?_) | refine .leq rfl rfl rfl (fun hc => ?_) (fun hc => ?_) | refine .gtr rfl rfl rfl (fun hc => ?_) (fun hc => ?_) | refine .geq rfl rfl rfl (fun hc => ?_) (fun hc => ?_) | refine .eql rfl rfl rfl (fun hc => ?_) (fun hc => ?_) | refine .neqT rfl rfl rfl (by omega) ?_ | refine .neqF rfl rfl rfl (by omega) ?_) | refine .load rfl rfl (l5) ?_ | refine .skip rfl ?_ | refine .fin ?_ | refine .go rfl rfl rfl ?_ | refine .gono rfl rfl rfl ?_ | refine .skipn rfl ?_))
  rfl
 ·rw [decide_eq_true h]
  refine call_of rfl Fn.zcz rfl rfl ?_
  repeat' (first | (show ER _ _ _ _ _ _ _; first | refine .seq ?_ | refine .reg ?_ | refine .yes rfl ?_ | refine .no rfl ?_ | refine .skip ?_ | refine .block ?_ | refine .endB ?_ | refine .exit rfl ?_ | refine .br rfl (fun hc => ?_) (fun hc => ?_) | refine .scope ?_ | refine .inScope ?_ | refine .label ?_ | refine .ret rfl ?_ | refine .nil rfl ?_) | (show EG _ _ _ _ _ _ _ _ _; first | refine .mov rfl rfl ?_ | refine .lload rfl rfl rfl rfl ?_ | refine .laddr rfl rfl rfl ?_ | (show EG _ _ (⟨_, .bin _ _ _, _, _⟩ :: _) _ _ _ _ _ _; first | refine .lss rfl rfl rfl (fun hc => ?_) (fun hc => ?_) | refine .leq rfl rfl rfl (fun hc => ?_) (fun hc => ?_) | refine .gtr rfl rfl rfl (fun hc => ?_) (fun hc => ?_) | refine .geq rfl rfl rfl (fun hc => ?_) (fun hc => ?_) | refine .eql rfl rfl rfl (fun hc => ?_) (fun hc => ?_) | refine .neqT rfl rfl rfl (by omega) ?_ | refine .neqF rfl rfl rfl (by omega) ?_) | refine .load rfl rfl (l5) ?_ | refine .skip rfl ?_ | refine .fin ?_ | refine .go rfl rfl rfl ?_ | refine .gono rfl rfl rfl ?_ | refine .skipn rfl ?_))
  rfl

set_option maxHeartbeats 1600000 in
theorem hsmall_spec (lo : Nat) {h : Heap} {v : Value} {l : List (Value × List Op4)} (hv : Pgs h v l) (hl : l.length < 4611686018427387904) :
  ∃ r, callR En lo Id.zbT [v, I 20] h = some (.bool r, h) ∧ (r = true → l.length ≤ 4 ∧ ∀ p ∈ l, p.2.length ≤ 20) := by
 have key : ∃ u H', callR En lo Id.zbT [v, I 20] h = some (u, H') ∧ H' = h ∧ ∃ r, u = .bool r ∧ (r = true → l.length ≤ 4 ∧ ∀ p ∈ l, p.2.length ≤ 20) := by
  have hb4 : ∀ p ∈ l, p.2.length ≤ 4398046511104 := fun p hp => by
   have := (hv.each p hp).2.2
   omega
  refine Exists.elim hv.sl.len fun base hq => Exists.elim hq fun cap hve => ?_
  rw [List.length_map] at hve
  have hpv := hv
  subst hve
  refine call_ex rfl Fn.zbT rfl rfl ?_
  repeat' (first | (show ER _ _ _ _ _ _ _; first | refine .seq ?_ | refine .reg ?_ | refine .yes rfl ?_ | refine .no rfl ?_ | refine .skip ?_ | refine .block ?_ | refine .endB ?_ | refine .exit rfl ?_ | refine .br rfl (fun hc => ?_) (fun hc => ?_) | refine .scope ?_ | refine .inScope ?_ | refine .label ?_ | refine .ret rfl ?_ | refine .nil rfl ?_) | (show EG _ _ _ _ _ _ _ _ _; first | refine .mov rfl rfl ?_ | refine .lload rfl rfl rfl rfl ?_ | refine .laddr rfl rfl rfl ?_ | (show EG _ _ (⟨_, .bin _ _ _, _, _⟩ :: _) _ _ _ _ _ _; first | refine .lss rfl rfl rfl (fun hc => ?_) (fun hc => ?_) | refine .leq rfl rfl rfl (fun hc => ?_) (fun hc => ?_) | refine .gtr rfl rfl rfl (fun hc => ?_) (fun hc => ?_) | refine .geq rfl rfl rfl (fun hc => ?_) (fun hc => ?_) | refine .eql rfl rfl rfl (fun hc => ?_) (fun hc => ?_) | refine .neq rfl rfl rfl (fun hc => ?_) (fun hc => ?_)) | refine .skip rfl ?_ | refine .fin ?_ | refine .go rfl rfl rfl ?_ | refine .gono rfl rfl rfl ?_ | refine .skipn rfl ?_))
  refine .loop (fun n f H => ∃ (i : Nat) (s : Int), n + i = l.length ∧ f = [(0, .slice base l.length cap), (1, I 20), (5, I s), (6, N i)] ∧ H = h ∧ (i ≤ 4 → s = lens (l.take i))) (n := l.length) ⟨0, 0, rfl, rfl, rfl, fun _ => rfl⟩ ?_
  rintro n f H ⟨i, s, hn, rfl, rfl, hs⟩ next
  by_cases hi : i < l.length
  ·have hgi : l[i]? = some l[i] := List.getElem?_eq_getElem hi
   generalize l[i] = q at hgi
   have hqm := List.mem_of_getElem? hgi
   have hq4 := hb4 q hqm
   have hlt := lens_take hgi
   have hbt : lens (l.take i) ≤ (l.take i).length * 4398046511104 := lens_bd fun p hp => hb4 p (List.mem_of_mem_take hp)
   have hbl : (l.take i).length = i := by rw [List.length_take]; omega
   rw [hbl] at hbt
   refine Exists.elim (hpv.at hgi) fun a hq => Exists.elim hq fun cap' hq => ?_
   have hva := hq.1
   have I0 := hq.2
   clear hq
   injection hva with e1 e2 e3
   subst e1
   refine Exists.elim (hv.each q hqm).1.len fun qb hq => Exists.elim hq fun qc hqe => ?_
   rw [ocs_length] at hqe
   rw [hqe] at I0
   repeat' (first | (show ER _ _ _ _ _ _ _; first | refine .seq ?_ | refine .reg ?_ | refine .yes rfl ?_ | refine .no rfl ?_ | refine .skip ?_ | refine .block ?_ | refine .endB ?_ | refine .exit rfl ?_ | refine .br rfl (fun hc => ?_) (fun hc => ?_) | refine .scope ?_ | refine .inScope ?_ | refine .label ?_ | refine .ret rfl ?_ | refine .nil rfl ?_) | (show EG _ _ _ _ _ _ _ _ _; first | refine .mov rfl rfl ?_ | refine .lload rfl rfl rfl rfl ?_ | refine .laddr rfl rfl rfl ?_ | (show EG _ _ (⟨_, .bin _ _ _, _, _⟩ :: _) _ _ _ _ _ _; first | refine .lssT rfl rfl rfl (by omega) ?_ | refine .lssF rfl rfl rfl (by omega) ?_ | refine .leq rfl rfl rfl (fun hc => ?_) (fun hc => ?_) | refine .gtr rfl rfl rfl (fun hc => ?_) (fun hc => ?_) | refine .geq rfl rfl rfl (fun hc => ?_) (fun hc => ?_) | refine .eql rfl rfl rfl (fun hc => ?_) (fun hc => ?_) | refine .neq rfl rfl rfl (fun hc => ?_) (fun hc => ?_) | refine .addN rfl rfl rfl (by omega) ?_ | refine .addN (b := 1) rfl rfl rfl (by omega) ?_ | refine .subN rfl rfl rfl (by omega) ?_ | refine .subN (b := 1) rfl rfl rfl (by omega) ?_) | refine .load rfl rfl (I0) ?_ | refine .iaddr rfl rfl rfl (hi) ?_ | refine .skip rfl ?_ | refine .fin ?_ | refine .go rfl rfl rfl ?_ | refine .gono rfl rfl rfl ?_ | refine .skipn rfl ?_))
   refine next (n - 1) _ _ (by omega) ⟨i + 1, _, by omega, rfl, rfl, fun h4 => ?_⟩
   rw [hs (by omega), hlt]
   have : i ≤ 3 := by omega
   rw [wrap_id (by omega) (by have : i * 4398046511104 ≤ 3 * 4398046511104 := Nat.mul_le_mul_right _ this; omega)]
   simp
  ·have hil : i = l.length := by omega
   subst hil
   rw [List.take_length] at hs
   by_cases h4 : l.length ≤ 4
   ·have hs4 := hs h4
    by_cases h20 : s ≤ 20
    ·repeat' (first | (show ER _ _ _ _ _ _ _; first | refine .seq ?_ | refine .reg ?_ | refine .yes rfl ?_ | refine .no rfl ?_ | refine .skip ?_ | refine .block ?_ | refine .endB ?_ | refine .exit rfl ?_ | refine .br rfl (fun hc => ?_) (fun hc => ?_) | refine .scope ?_ | refine .inScope ?_ | refine .label ?_ | refine .ret rfl ?_ | refine .nil rfl ?_) | (show EG _ _ _ _ _ _ _ _ _; first | refine .mov rfl rfl ?_ | refine .lload rfl rfl rfl rfl ?_ | refine .laddr rfl rfl rfl ?_ | (show EG _ _ (⟨_, .bin _ _ _, _, _⟩ :: _) _ _ _ _ _ _; first | refine .lssT rfl rfl rfl (by omega) ?_ | refine .lssF rfl rfl rfl (by omega) ?_ | refine .leqT rfl rfl rfl (by omega) ?_ | refine .leqF rfl rfl rfl (by omega) ?_ | refine .gtr rfl rfl rfl (fun hc => ?_) (fun hc => ?_) | refine .geq rfl rfl rfl (fun hc => ?_) (fun hc => ?_) | refine .eql rfl rfl rfl (fun hc => ?_) (fun hc => ?_) | refine .neq rfl rfl rfl (fun hc => ?_) (fun hc => ?_)) | refine .skip rfl ?_ | refine .fin ?_ | refine .go rfl rfl rfl ?_ | refine .gono rfl rfl rfl ?_ | refine .skipn rfl ?_))
     exact ⟨rfl, true, rfl, fun _ => ⟨h4, fun p hp => by have := lens_le hp; omega⟩⟩
    ·repeat' (first | (show ER _ _ _ _ _ _ _; first | refine .seq ?_ | refine .reg ?_ | refine .yes rfl ?_ | refine .no rfl ?_ | refine .skip ?_ | refine .block ?_ | refine .endB ?_ | refine .exit rfl ?_ | refine .br rfl (fun hc => ?_) (fun hc => ?_) | refine .scope ?_ | refine .inScope ?_ | refine .label ?_ | refine .ret rfl ?_ | refine .nil rfl ?_) | (show EG _ _ _ _ _ _ _ _ _; first | refine .mov rfl rfl ?_ | refine .lload rfl rfl rfl rfl ?_ | refine .laddr rfl rfl rfl ?_ | (show EG _ _ (⟨_, .bin _ _ _, _, _⟩ :: _) _ _ _ _ _ _; first | refine .lssT rfl rfl rfl (by omega) ?_ | refine .lssF rfl rfl rfl (by omega) ?_ | refine .leqT rfl rfl rfl (by omega) ?_ | refine .leqF rfl rfl rfl (by omega) ?_ | refine .gtr rfl rfl rfl (fun hc => ?_) (fun hc => ?_) | refine .geq rfl rfl rfl (fun hc => ?_) (fun hc => ?_) | refine .eql rfl rfl rfl (fun hc => ?_) (fun hc => ?_) | refine .neq rfl rfl rfl (fun hc => ?_) (fun hc => ?_)) | refine .skip rfl ?_ | refine .fin ?_ | refine .go rfl rfl rfl ?_ | refine .gono rfl rfl rfl ?_ | refine .skipn rfl ?_))
     exact ⟨rfl, false, rfl, fun h => by cases h⟩
   ·by_cases h20 : s ≤ 20
    ·repeat' (first | (show ER _ _ _ _ _ _ _; first | refine .seq ?_ | refine .reg ?_ | refine .yes rfl ?_ | refine .no rfl ?_ | refine .skip ?_ | refine .block ?_ | refine .endB ?_ | refine .exit rfl ?_ | refine .br rfl (fun hc => ?_) (fun hc => ?_) | refine .scope ?_ | refine .inScope ?_ | refine .label ?_ | refine .ret rfl ?_ | refine .nil rfl ?_) | (show EG _ _ _ _ _ _ _ _ _; first | refine .mov rfl rfl ?_ | refine .lload rfl rfl rfl rfl ?_ | refine .laddr rfl rfl rfl ?_ | (show EG _ _ (⟨_, .bin _ _ _, _, _⟩ :: _) _ _ _ _ _ _; first | refine .lssT rfl rfl rfl (by omega) ?_ | refine .lssF rfl rfl rfl (by omega) ?_ | refine .leqT rfl rfl rfl (by omega) ?_ | refine .leqF rfl rfl rfl (by omega) ?_ | refine .gtr rfl rfl rfl (fun hc => ?_) (fun hc => ?_) | refine .geq rfl rfl rfl (fun hc => ?_) (fun hc => ?_) | refine .eql rfl rfl rfl (fun hc => ?_) (fun hc => ?_) | refine .neq rfl rfl rfl (fun hc => ?_) (fun hc => ?_)) | refine .skip rfl ?_ | refine .fin ?_ | refine .go rfl rfl rfl ?_ | refine .gono rfl rfl rfl ?_ | refine .skipn rfl ?_))
     exact ⟨rfl, false, rfl, fun h => by cases h⟩
    ·repeat' (first | (show ER _ _ _ _ _ _ _; first | refine .seq ?_ | refine .reg ?_ | refine .yes rfl ?_ | refine .no rfl ?_ | refine .skip ?_ | refine .block ?_ | refine .endB ?_ | refine .exit rfl ?_ | refine .br rfl (fun hc => ?_) (fun hc => ?_) | refine .scope ?_ | refine .inScope ?_ | refine .label ?_ | refine .ret rfl ?_ | refine .nil rfl ?_) | (show EG _ _ _ _ _ _ _ _ _; first | refine .mov rfl rfl ?_ | refine .lload rfl rfl rfl rfl ?_ | refine .laddr rfl rfl rfl ?_ | (show EG _ _ (⟨_, .bin _ _ _, _, _⟩ :: _) _ _ _ _ _ _; first | refine .lssT rfl rfl rfl (by omega) ?_ | refine .lssF rfl rfl rfl (by omega) ?_ | refine .leqT rfl rfl rfl (by omega) ?_ | refine .leqF rfl rfl rfl (by omega) ?_ | refine .gtr rfl rfl rfl (fun hc => ?_) (fun hc => ?_) | refine .geq rfl rfl rfl (fun hc => ?_) (fun hc => ?_) | refine .eql rfl rfl rfl (fun hc => ?_) (fun hc => ?_) | refine .neq rfl rfl rfl (fun hc => ?_) (fun hc => ?_)) | refine .skip rfl ?_ | refine .fin ?_ | refine .go rfl rfl rfl ?_ | refine .gono rfl rfl rfl ?_ | refine .skipn rfl ?_))
     exact ⟨rfl, false, rfl, fun h => by cases h⟩
 obtain ⟨u, _, h1, rfl, r, rfl, h2⟩ := key
 exact ⟨r, h1, h2⟩

theorem start_note {c : Cfg} (hm : c.may) {i : Nat} (hj : (i : Int) < c.T) : getI (startL c) (4 + i) = 0 := by
 unfold Cfg.may at hm
 have hl : ((startL c).length : Int) = wordsI c := by rw [startL_len]; unfold wordsI; omega
 unfold wordsI at hl
 unfold getI
 rw [if_pos ⟨by omega, by omega⟩, show ((4 : Int) + (i : Int)).toNat = 4 + i by omega, List.getD_eq_getElem?_getD]
 unfold startL
 rw [List.getElem?_set_ne (by omega), partL_get c 0 (by unfold wordsI; omega)]
 unfold partW
 rw [if_neg (by omega)]
 rfl
def cntW (C : List Kall) : List Nat := [C.countP (thC 0), C.countP (thC 1), C.countP (thC 2), C.countP (thC 3)]
theorem cntW_at (C : List Kall) {t : Nat} (ht : t < 4) : (cntW C)[t]? = some (C.countP (thC t)) := by
 match t, ht with
 | 0, _ => rfl
 | 1, _ => rfl
 | 2, _ => rfl
 | 3, _ => rfl
theorem cntW_app (C : List Kall) {a : Kall} {t : Nat} (ht : t < 4) (ha : a.th = t) : (cntW C).set t (C.countP (thC t) + 1) = cntW (C ++ [a]) := by
 match t, ht, ha with
 | 0, _, ha => have ha : a.th = 0 := ha
               simp [cntW, thC, ha, List.countP_append, List.countP_singleton]
 | 1, _, ha => have ha : a.th = 1 := ha
               simp [cntW, thC, ha, List.countP_append, List.countP_singleton]
 | 2, _, ha => have ha : a.th = 2 := ha
               simp [cntW, thC, ha, List.countP_append, List.countP_singleton]
 | 3, _, ha => have ha : a.th = 3 := ha
               simp [cntW, thC, ha, List.countP_append, List.countP_singleton]
abbrev nrow (W : List Nat) : Blk := wrow W
theorem nrow_st {H : Heap} {b t n : Nat} {W : List Nat} (hb : H[b]? = some (nrow W)) (ht : t < W.length) : stN 0 H ⟨b, 0 + t * 1, none⟩ (vcells (N n)) = some (H.set b (nrow (W.set t n))) := w_store hb (Nat.zero_le _) ht

theorem vcs_of {l : List Evt} {es : List Evt} : vcs l ++ vcs es = vcs (l ++ es) := by simp [vcs]

set_option maxHeartbeats 8000000 in
theorem hist_run (c : Cfg) {h : Heap} {v w : Value} {l : List (Value × List Op4)} {ks : List Int} (hv : Pgs h v l) (hw : Sl h 1 w (kcs ks)) (hl : l.length < 4611686018427387904) : ∃ h', callR En 0 Id.zbQ [.agg c.cs.toArray, v, w] h = some (.bool true, h') := by
 have key : ∃ u h', callR En 0 Id.zbQ [.agg #[I c.A, I c.S, I c.T], v, w] h = some (u, h') ∧ u = .bool true := by
  refine Exists.elim hv.sl.len fun vb hq => Exists.elim hq fun vc hve => ?_
  refine Exists.elim hw.len fun wb hq => Exists.elim hq fun wc hwe => ?_
  rw [List.length_map] at hve
  rw [kcs_length] at hwe
  refine Exists.elim (hsmall_spec 0 hv hl) fun sm hq => ?_
  have hSm := hq.1
  have hsm := hq.2
  clear hq
  subst hve hwe
  refine call_ex rfl Fn.zbQ rfl rfl ?_
  by_cases h3 : 300 < ks.length
  ·repeat' (first | (show ER _ _ _ _ _ _ _; first | refine .seq ?_ | refine .reg ?_ | refine .yes rfl ?_ | refine .no rfl ?_ | refine .skip ?_ | refine .block ?_ | refine .endB ?_ | refine .exit rfl ?_ | refine .br rfl (fun hc => ?_) (fun hc => ?_) | refine .scope ?_ | refine .inScope ?_ | refine .label ?_ | refine .ret rfl ?_ | refine .nil rfl ?_) | (show EG _ _ _ _ _ _ _ _ _; first | refine .mov rfl rfl ?_ | refine .lload rfl rfl rfl rfl ?_ | refine .laddr rfl rfl rfl ?_ | (show EG _ _ (⟨_, .bin _ _ _, _, _⟩ :: _) _ _ _ _ _ _; first | refine .lss rfl rfl rfl (fun hc => ?_) (fun hc => ?_) | refine .leq rfl rfl rfl (fun hc => ?_) (fun hc => ?_) | refine .gtrT rfl rfl rfl (by omega) ?_ | refine .gtrF rfl rfl rfl (by omega) ?_ | refine .geq rfl rfl rfl (fun hc => ?_) (fun hc => ?_) | refine .eql rfl rfl rfl (fun hc => ?_) (fun hc => ?_) | refine .neq rfl rfl rfl (fun hc => ?_) (fun hc => ?_)) | refine .call rfl rfl (live_c _ _) ?_ | refine .skip rfl ?_ | refine .fin ?_ | refine .go rfl rfl rfl ?_ | refine .gono rfl rfl rfl ?_ | refine .skipn rfl ?_))
   rfl
  cases sm with
  | false =>
    repeat' (first | (show ER _ _ _ _ _ _ _; first | refine .seq ?_ | refine .reg ?_ | refine .yes rfl ?_ | refine .no rfl ?_ | refine .skip ?_ | refine .block ?_ | refine .endB ?_ | refine .exit rfl ?_ | refine .br rfl (fun hc => ?_) (fun hc => ?_) | refine .scope ?_ | refine .inScope ?_ | refine .label ?_ | refine .ret rfl ?_ | refine .nil rfl ?_) | (show EG _ _ _ _ _ _ _ _ _; first | refine .mov rfl rfl ?_ | refine .lload rfl rfl rfl rfl ?_ | refine .laddr rfl rfl rfl ?_ | (show EG _ _ (⟨_, .bin _ _ _, _, _⟩ :: _) _ _ _ _ _ _; first | refine .lss rfl rfl rfl (fun hc => ?_) (fun hc => ?_) | refine .leq rfl rfl rfl (fun hc => ?_) (fun hc => ?_) | refine .gtrT rfl rfl rfl (by omega) ?_ | refine .gtrF rfl rfl rfl (by omega) ?_ | refine .geq rfl rfl rfl (fun hc => ?_) (fun hc => ?_) | refine .eql rfl rfl rfl (fun hc => ?_) (fun hc => ?_) | refine .neq rfl rfl rfl (fun hc => ?_) (fun hc => ?_)) | (show EG _ _ (⟨_, .call _ _, _, _⟩ :: _) _ _ _ _ _ _; first | refine .call rfl rfl (live_c _ _) ?_ | refine .call rfl rfl (hSm) ?_) | refine .skip rfl ?_ | refine .fin ?_ | refine .go rfl rfl rfl ?_ | refine .gono rfl rfl rfl ?_ | refine .skipn rfl ?_))
    rfl
  | true =>
    have hs4 := (hsm rfl).1
    have hs20 := (hsm rfl).2
    clear hsm
    by_cases hm : c.may
    ·have hm' := hm
     unfold Cfg.may at hm'
     refine Exists.elim (start_may 0 h hm (Nat.zero_le _)) fun H1 hq => ?_
     have hS1 := hq.1
     have hC1 := hq.2.1
     have e1 := hq.2.2.1
     have l1 := hq.2.2.2
     clear hq
     rw [Cfg.cs] at hS1
     have hP1 : PInv H1 (newG h (fun _ => 0) 2) c (newC h) (startL c) (List.replicate c.A.toNat 0) [] [] := by
      refine ⟨hC1, ⟨newG_ge (Nat.le_add_right _ _), newG_ge (Nat.le_refl _), newG_ge (Nat.le_add_right _ _)⟩, rfl, fun i t b ht => by simp at ht⟩
     have hO1 : Old h H1 (newG h (fun _ => 0) 2) := ⟨by omega, fun x hx => ⟨newG_lt hx, e1.2 x hx⟩⟩
     generalize newC h = cb at hS1 hP1
     repeat' (first | (show ER _ _ _ _ _ _ _; first | refine .seq ?_ | refine .reg ?_ | refine .yes rfl ?_ | refine .no rfl ?_ | refine .skip ?_ | refine .block ?_ | refine .endB ?_ | refine .exit rfl ?_ | refine .br rfl (fun hc => ?_) (fun hc => ?_) | refine .scope ?_ | refine .inScope ?_ | refine .label ?_ | refine .ret rfl ?_ | refine .nil rfl ?_) | (show EG _ _ _ _ _ _ _ _ _; first | refine .mov rfl rfl ?_ | refine .lload rfl rfl rfl rfl ?_ | refine .laddr rfl rfl rfl ?_ | (show EG _ _ (⟨_, .bin _ _ _, _, _⟩ :: _) _ _ _ _ _ _; first | refine .lss rfl rfl rfl (fun hc => ?_) (fun hc => ?_) | refine .leq rfl rfl rfl (fun hc => ?_) (fun hc => ?_) | refine .gtrT rfl rfl rfl (by omega) ?_ | refine .gtrF rfl rfl rfl (by omega) ?_ | refine .geq rfl rfl rfl (fun hc => ?_) (fun hc => ?_) | refine .eql rfl rfl rfl (fun hc => ?_) (fun hc => ?_) | refine .neq rfl rfl rfl (fun hc => ?_) (fun hc => ?_)) | (show EG _ _ (⟨_, .call _ _, _, _⟩ :: _) _ _ _ _ _ _; first | refine .call rfl rfl (hSm) ?_ | refine .call rfl rfl (hS1) ?_) | refine .skip rfl ?_ | refine .fin ?_ | refine .go rfl rfl rfl ?_ | refine .gono rfl rfl rfl ?_ | refine .skipn rfl ?_))
     refine .loop (fun n f H => ∃ (i : Nat) (a : Value) (pb : List Nat) (g : Nat → Nat) (ka : Nat), n + i = l.length ∧
      f = [(1, .slice vb l.length vc), (2, .slice wb ks.length wc), (3, .agg #[I c.A, I c.S, I c.T]), (7, ptrC cb), (8, a), (9, N i)] ∧
      PInv H g c cb (startL c) (List.replicate c.A.toNat 0) (tsW c l i) pb ∧ Arr H a pb ka ∧ (pb ≠ [] → g ka = 1) ∧ pb.length = i ∧ Old h H g) (n := l.length)
      ⟨0, _, [], _, 0, rfl, rfl, hP1, .inl ⟨rfl, rfl⟩, fun q => absurd rfl q, rfl, hO1⟩ ?_
     clear hP1 hO1 hC1 e1 l1 hS1 hSm
     rintro n f H ⟨i, a, pb, g, ka, hn, rfl, hP, hA, hga, hpi, hO⟩ next
     by_cases hi : i < l.length
     ·have hgi : l[i]? = some l[i] := List.getElem?_eq_getElem hi
      have hop : opsAt l i = l[i].2 := by unfold opsAt; rw [hgi]
      generalize l[i] = q at hgi hop
      have hqm := List.mem_of_getElem? hgi
      have hq4 := hv.each q hqm
      refine Exists.elim ((hv.ext hO.ext).at hgi) fun ad hq => Exists.elim hq fun cap' hq => ?_
      have hva := hq.1
      have I0 := hq.2
      clear hq
      injection hva with e1 e2 e3
      refine Exists.elim (new_p' hm hP (hq4.1.ext hO.ext) hq4.2.1 hq4.2.2 hA hga (by omega)) fun H4 hq => Exists.elim hq fun a' hq => Exists.elim hq fun H5 hq => Exists.elim hq fun k' hq => Exists.elim hq fun g' hq => ?_
      have n1 := hq.1
      have ap := hq.2.1
      have p5 := hq.2.2.1
      have ar5 := hq.2.2.2.1
      have t5 := hq.2.2.2.2.1
      have l5 := hq.2.2.2.2.2.2.1
      have tg5 := hq.2.2.2.2.2.2.2.1
      have s5 := hq.2.2.2.2.2.2.2.2.1
      clear hq
      have st5 : Stp (fun n => n ≠ 1) H H5 g g' := ⟨l5, tg5, fun x hx ht => s5 x hx (Decidable.byContradiction fun hn => ht (by
       have q1 : pb ≠ [] := fun e => hn (.inl e)
       have q2 : x = ka := Decidable.byContradiction fun e => hn (.inr e)
       rw [q2]; exact hga q1))⟩
      rw [hpi] at n1 p5
      rw [Cfg.cs] at n1
      rw [← hop, ← tsW_succ] at p5
      refine Exists.elim hq4.1.len fun qb hq => Exists.elim hq fun qc hqe => ?_
      rw [hqe] at I0 n1
      have cont : ∀ va : Value, va = .slice vb l.length vc → ∃ (i' : Nat) (a : Value) (pb : List Nat) (g : Nat → Nat) (ka : Nat), n - 1 + i' = l.length ∧
       [(1, va), (2, Value.slice wb ks.length wc), (3, .agg #[I c.A, I c.S, I c.T]), (7, ptrC cb), (8, a'), (9, N (i + 1))] = [(1, .slice vb l.length vc), (2, .slice wb ks.length wc), (3, .agg #[I c.A, I c.S, I c.T]), (7, ptrC cb), (8, a), (9, N i')] ∧
       PInv H5 g c cb (startL c) (List.replicate c.A.toNat 0) (tsW c l i') pb ∧ Arr H5 a pb ka ∧ (pb ≠ [] → g ka = 1) ∧ pb.length = i' ∧ Old h H5 g := fun va hva => by
       subst hva
       exact ⟨i + 1, a', pb ++ [H.length], g', k', by omega, rfl, p5, ar5, fun _ => t5, by simp [hpi], hO.calm (st5.calm0 (by decide) (by decide))⟩
      have cont := cont _ rfl
      subst e1
      repeat' (first | (show ER _ _ _ _ _ _ _; first | refine .seq ?_ | refine .reg ?_ | refine .yes rfl ?_ | refine .no rfl ?_ | refine .skip ?_ | refine .block ?_ | refine .endB ?_ | refine .exit rfl ?_ | refine .br rfl (fun hc => ?_) (fun hc => ?_) | refine .scope ?_ | refine .inScope ?_ | refine .label ?_ | refine .ret rfl ?_ | refine .nil rfl ?_) | (show EG _ _ _ _ _ _ _ _ _; first | refine .mov rfl rfl ?_ | refine .lload rfl rfl rfl rfl ?_ | refine .laddr rfl rfl rfl ?_ | (show EG _ _ (⟨_, .bin _ _ _, _, _⟩ :: _) _ _ _ _ _ _; first | refine .lssT rfl rfl rfl (by omega) ?_ | refine .lssF rfl rfl rfl (by omega) ?_ | refine .leq rfl rfl rfl (fun hc => ?_) (fun hc => ?_) | refine .gtr rfl rfl rfl (fun hc => ?_) (fun hc => ?_) | refine .geq rfl rfl rfl (fun hc => ?_) (fun hc => ?_) | refine .eql rfl rfl rfl (fun hc => ?_) (fun hc => ?_) | refine .neq rfl rfl rfl (fun hc => ?_) (fun hc => ?_) | refine .addN rfl rfl rfl (by omega) ?_ | refine .addN (b := 1) rfl rfl rfl (by omega) ?_ | refine .subN rfl rfl rfl (by omega) ?_ | refine .subN (b := 1) rfl rfl rfl (by omega) ?_) | refine .load rfl rfl (I0) ?_ | refine .call rfl rfl (n1) ?_ | refine .iaddr rfl rfl rfl (hi) ?_ | refine .app rfl rfl rfl (ap) ?_ | refine .skip rfl ?_ | refine .fin ?_ | refine .go rfl rfl rfl ?_ | refine .gono rfl rfl rfl ?_ | refine .skipn rfl ?_))
      exact next (n - 1) _ _ (by omega) cont
     ·have hil : i = l.length := by omega
      rw [hil] at hP
      refine Exists.elim hA.len fun ab hq => Exists.elim hq fun ac hae => ?_
      subst hae
      repeat' (first | (show ER _ _ _ _ _ _ _; first | refine .seq ?_ | refine .reg ?_ | refine .yes rfl ?_ | refine .no rfl ?_ | refine .skip ?_ | refine .block ?_ | refine .endB ?_ | refine .exit rfl ?_ | refine .br rfl (fun hc => ?_) (fun hc => ?_) | refine .scope ?_ | refine .inScope ?_ | refine .label ?_ | refine .ret rfl ?_ | refine .nil rfl ?_) | (show EG _ _ _ _ _ _ _ _ _; first | refine .mov rfl rfl ?_ | refine .lload rfl rfl rfl rfl ?_ | refine .laddr rfl rfl rfl ?_ | (show EG _ _ (⟨_, .bin _ _ _, _, _⟩ :: _) _ _ _ _ _ _; first | refine .lssT rfl rfl rfl (by omega) ?_ | refine .lssF rfl rfl rfl (by omega) ?_ | refine .leq rfl rfl rfl (fun hc => ?_) (fun hc => ?_) | refine .gtr rfl rfl rfl (fun hc => ?_) (fun hc => ?_) | refine .geq rfl rfl rfl (fun hc => ?_) (fun hc => ?_) | refine .eql rfl rfl rfl (fun hc => ?_) (fun hc => ?_) | refine .neq rfl rfl rfl (fun hc => ?_) (fun hc => ?_)) | refine .skip rfl ?_ | refine .fin ?_ | refine .go rfl rfl rfl ?_ | refine .gono rfl rfl rfl ?_ | refine .skipn rfl ?_))
      have h0 : HI c (startL c) [] (fun i => opsOf c i (opsAt l i)) (tsW c l l.length) := by
       refine ⟨fun i e he => by simp at he, by simp [tsW]; omega, by simp, fun i t ht => ?_⟩
       unfold tsW at ht
       rw [List.getElem?_map] at ht
       by_cases hil : i < l.length
       ·rw [List.getElem?_range hil] at ht
        injection ht with ht
        subst ht
        refine ⟨rfl, rfl, ⟨0, rfl, rfl, fun q => absurd rfl q⟩, fun hj hn => absurd ?_ hn⟩
        exact start_note hm hj
       ·rw [List.getElem?_eq_none (by simp; omega)] at ht
        cases ht
      have hN : ∀ i : Nat, opsOf c i (opsAt l i) ≠ [] → (i : Int) < c.T := fun i q => by
       unfold opsOf at q
       by_cases hg : 0 ≤ noteI c i
       ·unfold noteI at hg
        split at hg <;> omega
       ·rw [if_neg hg] at q; exact absurd rfl q
      have hTT : 0 ≤ c.T := by omega
      refine .loop (fun n f H => ∃ (i : Nat) (ts : List Th) (ws bs : List Int) (g : Nat → Nat) (o : Value) (evs : List Evt) (kh : Nat), n + i = ks.length ∧
       f = [(1, .slice vb l.length vc), (2, .slice wb ks.length wc), (3, .agg #[I c.A, I c.S, I c.T]), (7, ptrC cb), (8, .slice ab pb.length ac), (10, o), (11, N i)] ∧
       PInv H g c cb ws bs ts pb ∧ Arr H (.slice ab pb.length ac) pb ka ∧ (pb ≠ [] → g ka = 1) ∧ OutB H o (vcs evs) kh ∧ (vcs evs ≠ [] → g kh = 1 ∧ (pb ≠ [] → kh ≠ ka)) ∧ HI c ws evs (fun i => opsOf c i (opsAt l i)) ts ∧ Old h H g ∧ evs.length ≤ i ∧ ts.length = l.length) (n := ks.length)
       ⟨0, _, _, _, g, _, [], 0, rfl, rfl, hP, hA, hga, ⟨by simp [vcs], .inl ⟨rfl, rfl⟩⟩, fun q => absurd rfl q, h0, hO, Nat.le_refl _, by simp [tsW]⟩ ?_
      clear hP hA hga hO h0 next hn hi
      rintro n f H ⟨i, ts, ws, bs, g, o, evs, kh, hn, rfl, hP, hA, hga, hU, hgk, hH, hO, hel, htl⟩ next
      by_cases hi : i < ks.length
      ·have hgi : ks[i]? = some ks[i] := List.getElem?_eq_getElem hi
       generalize ks[i] = q at hgi
       refine Exists.elim (kcs_at (hw.ext hO.ext) hgi) fun ad hq => Exists.elim hq fun cap' hq => ?_
       have hva := hq.1
       have I0 := hq.2
       clear hq
       injection hva with e1 e2 e3
       subst e1
       have cont : ∃ (i' : Nat) (ts : List Th) (ws bs : List Int) (g : Nat → Nat) (o' : Value) (evs : List Evt) (kh : Nat), n - 1 + i' = ks.length ∧
        [(1, Value.slice vb l.length vc), (2, .slice (some ad) ks.length wc), (3, .agg #[I c.A, I c.S, I c.T]), (7, ptrC cb), (8, .slice ab pb.length ac), (10, o), (11, N (i + 1))] = [(1, .slice vb l.length vc), (2, .slice (some ad) ks.length wc), (3, .agg #[I c.A, I c.S, I c.T]), (7, ptrC cb), (8, .slice ab pb.length ac), (10, o'), (11, N i')] ∧
        PInv H g c cb ws bs ts pb ∧ Arr H (.slice ab pb.length ac) pb ka ∧ (pb ≠ [] → g ka = 1) ∧ OutB H o' (vcs evs) kh ∧ (vcs evs ≠ [] → g kh = 1 ∧ (pb ≠ [] → kh ≠ ka)) ∧ HI c ws evs (fun i => opsOf c i (opsAt l i)) ts ∧ Old h H g ∧ evs.length ≤ i' ∧ ts.length = l.length := ⟨i + 1, ts, ws, bs, g, o, evs, kh, by omega, rfl, hP, hA, hga, hU, hgk, hH, hO, by omega, htl⟩
       by_cases hq0 : q < 0
       ·repeat' (first | (show ER _ _ _ _ _ _ _; first | refine .seq ?_ | refine .reg ?_ | refine .yes rfl ?_ | refine .no rfl ?_ | refine .skip ?_ | refine .block ?_ | refine .endB ?_ | refine .exit rfl ?_ | refine .br rfl (fun hc => ?_) (fun hc => ?_) | refine .scope ?_ | refine .inScope ?_ | refine .label ?_ | refine .ret rfl ?_ | refine .nil rfl ?_) | (show EG _ _ _ _ _ _ _ _ _; first | refine .mov rfl rfl ?_ | refine .lload rfl rfl rfl rfl ?_ | refine .laddr rfl rfl rfl ?_ | (show EG _ _ (⟨_, .bin _ _ _, _, _⟩ :: _) _ _ _ _ _ _; first | refine .lssT rfl rfl rfl (by omega) ?_ | refine .lssF rfl rfl rfl (by omega) ?_ | refine .leq rfl rfl rfl (fun hc => ?_) (fun hc => ?_) | refine .gtr rfl rfl rfl (fun hc => ?_) (fun hc => ?_) | refine .geq rfl rfl rfl (fun hc => ?_) (fun hc => ?_) | refine .eql rfl rfl rfl (fun hc => ?_) (fun hc => ?_) | refine .neq rfl rfl rfl (fun hc => ?_) (fun hc => ?_) | refine .addN rfl rfl rfl (by omega) ?_ | refine .addN (b := 1) rfl rfl rfl (by omega) ?_ | refine .subN rfl rfl rfl (by omega) ?_ | refine .subN (b := 1) rfl rfl rfl (by omega) ?_) | refine .load rfl rfl (I0) ?_ | refine .iaddr rfl rfl rfl (hi) ?_ | refine .skip rfl ?_ | refine .fin ?_ | refine .go rfl rfl rfl ?_ | refine .gono rfl rfl rfl ?_ | refine .skipn rfl ?_))
        exact next (n - 1) _ _ (by omega) cont
       by_cases hqp : (pb.length : Int) ≤ q
       ·repeat' (first | (show ER _ _ _ _ _ _ _; first | refine .seq ?_ | refine .reg ?_ | refine .yes rfl ?_ | refine .no rfl ?_ | refine .skip ?_ | refine .block ?_ | refine .endB ?_ | refine .exit rfl ?_ | refine .br rfl (fun hc => ?_) (fun hc => ?_) | refine .scope ?_ | refine .inScope ?_ | refine .label ?_ | refine .ret rfl ?_ | refine .nil rfl ?_) | (show EG _ _ _ _ _ _ _ _ _; first | refine .mov rfl rfl ?_ | refine .lload rfl rfl rfl rfl ?_ | refine .laddr rfl rfl rfl ?_ | (show EG _ _ (⟨_, .bin _ _ _, _, _⟩ :: _) _ _ _ _ _ _; first | refine .lssT rfl rfl rfl (by omega) ?_ | refine .lssF rfl rfl rfl (by omega) ?_ | refine .leq rfl rfl rfl (fun hc => ?_) (fun hc => ?_) | refine .gtr rfl rfl rfl (fun hc => ?_) (fun hc => ?_) | refine .geqT rfl rfl rfl (by omega) ?_ | refine .geqF rfl rfl rfl (by omega) ?_ | refine .eql rfl rfl rfl (fun hc => ?_) (fun hc => ?_) | refine .neq rfl rfl rfl (fun hc => ?_) (fun hc => ?_) | refine .addN rfl rfl rfl (by omega) ?_ | refine .addN (b := 1) rfl rfl rfl (by omega) ?_ | refine .subN rfl rfl rfl (by omega) ?_ | refine .subN (b := 1) rfl rfl rfl (by omega) ?_) | refine .load rfl rfl (I0) ?_ | refine .iaddr rfl rfl rfl (hi) ?_ | refine .skip rfl ?_ | refine .fin ?_ | refine .go rfl rfl rfl ?_ | refine .gono rfl rfl rfl ?_ | refine .skipn rfl ?_))
        exact next (n - 1) _ _ (by omega) cont
       clear cont
       refine Exists.elim (show ∃ k : Nat, q = k from ⟨q.toNat, by omega⟩) fun k hk => ?_
       subst hk
       have hkp : k < pb.length := by omega
       have hkt : k < ts.length := by rw [← hP.len]; exact hkp
       have hgp : pb[k]? = some pb[k] := List.getElem?_eq_getElem hkp
       have hgt : ts[k]? = some ts[k] := List.getElem?_eq_getElem hkt
       generalize pb[k] = b at hgp
       generalize ts[k] = t at hgt
       have hpe : pb ≠ [] := fun e => by rw [e] at hkp; simp at hkp
       have hAt := hA.at hgp
       have ea := hAt.1
       injection ea with ea1 _ ea3
       subst ea1 ea3
       refine Exists.elim (p_step hm hP hgt hgp) fun x hq => Exists.elim hq fun H2 hq => Exists.elim hq fun g2 hq => ?_
       have hS := hq.1
       have hx := hq.2.1
       have p2 := hq.2.2.1
       have st := hq.2.2.2.1
       clear hq
       refine Exists.elim (step_hi (bs := bs) hTT hN hH hgt) fun es hq => ?_
       have he := hq.1
       have hes := hq.2.1
       have hH2 := hq.2.2
       clear hq
       rw [he] at hx
       have hU2 : OutB H2 o (vcs evs) kh := hU.keep fun q => st.same kh (hU.lt q) (by rw [(hgk q).1]; exact .inl rfl)
       refine Exists.elim (outb_more hU2 hx.1 (by rw [vcs_length, vcs_length]; omega)) fun o' hq => Exists.elim hq fun k' hq => Exists.elim hq fun H3 hq => ?_
       have hap := hq.1
       have hU3 := hq.2.1
       have hk3 := hq.2.2.1
       have hl3 := hq.2.2.2.1
       have hs3 := hq.2.2.2.2
       clear hq
       rw [vcs_of] at hU3
       have hl2 := st.len
       have st3 : Stp (fun n => n ≠ 1) H2 H3 g2 (newG H2 g2 1) := ⟨hl3, fun y hy => newG_lt hy, fun y hy ht => hs3 y hy (Decidable.byContradiction fun hn => ht (by
        have h1 : vcs evs ≠ [] := fun e => hn (.inl e)
        have h2 : y = kh := Decidable.byContradiction fun e => hn (.inr e)
        rw [h2, st.tag kh (hU.lt h1)]; exact (hgk h1).1))⟩
       have p3 := p2.keep st3 (by decide) (by decide) (fun i => by omega)
       refine Exists.elim (load_spec (lo := 0) p3.cells (Nat.zero_le _) ((4 + k : Nat) : Int)) fun H4 hq => ?_
       have hL := hq.1
       have hC4 := hq.2.1
       have ho4 := hq.2.2
       clear hq
       have st4 : Stp (fun n => n ≠ 2) H3 H4 (newG H2 g2 1) (newG H2 g2 1) := ⟨Nat.le_of_eq ho4.len.symm, fun x _ => rfl, fun x hx ht => ho4.same x fun q => by
        rw [List.mem_singleton] at q
        exact ht (by rw [q]; exact p3.tc.1)⟩
       have p4 := p3.cells' hC4 st4 (by decide) (fun i => by omega)
       have hla := hA.lt hpe
       have hka2 : H2[ka]? = H[ka]? := st.same ka hla (by rw [hga hpe]; exact .inl rfl)
       have hka3 : H3[ka]? = H[ka]? := (hs3 ka (by omega) (by
        by_cases e : vcs evs = []
        ·exact .inl e
        ·exact .inr fun q => (hgk e).2 hpe q.symm)).trans hka2
       have gka : newG H2 g2 1 ka = 1 := (newG_lt (by omega)).trans ((st.tag ka hla).trans (hga hpe))
       have hka4 : H4[ka]? = H[ka]? := (st4.same ka (by omega) (by rw [gka]; decide)).trans hka3
       have hA4 : Arr H4 (.slice (some (loose ka 0)) pb.length 1) pb ka := hA.keep fun _ => hka4
       have A0 := hAt.2 H rfl
       have A4 := hAt.2 H4 hka4
       have hU4 : OutB H4 o' (vcs (evs ++ es)) k' := hU3.keep fun q => st4.same k' (hU3.lt q) (by
        rcases hk3 with ⟨h1, rfl⟩ | h1
        ·rw [newG_lt (Nat.lt_of_lt_of_le (hU.lt h1) hl2), st.tag k' (hU.lt h1), (hgk h1).1]; decide
        ·rw [newG_ge h1]; decide)
       have hgk4 : vcs (evs ++ es) ≠ [] → newG H2 g2 1 k' = 1 ∧ (pb ≠ [] → k' ≠ ka) := fun _ => by
        rcases hk3 with ⟨h1, rfl⟩ | h1
        ·exact ⟨by rw [newG_lt (Nat.lt_of_lt_of_le (hU.lt h1) hl2), st.tag k' (hU.lt h1)]; exact (hgk h1).1, (hgk h1).2⟩
        ·exact ⟨newG_ge h1, fun _ => by omega⟩
       have hO4 := ((hO.calm (st.calm0 (.inr rfl) (.inl rfl))).calm (st3.calm0 (by decide) (by decide))).calm (st4.calm0 (by decide) (by decide))
       have hti : (ts.set k (thS c t ws bs).1)[k]? = some (thS c t ws bs).1 := List.getElem?_set_self hkt
       have hTI := hH2.th k _ hti
       refine Exists.elim (p4.th k _ b hti hgp) fun own hq => Exists.elim hq fun ob hq => ?_
       have hBz := hbusy_spec hq.1
       clear hq
       have hnote := hTI.note
       rw [show (4 : Int) + (k : Int) = ((4 + k : Nat) : Int) by omega] at hnote
       have cont : ∃ (i' : Nat) (ts : List Th) (ws bs : List Int) (g : Nat → Nat) (o : Value) (evs : List Evt) (kh : Nat), n - 1 + i' = ks.length ∧
        [(1, Value.slice vb l.length vc), (2, .slice (some ad) ks.length wc), (3, .agg #[I c.A, I c.S, I c.T]), (7, ptrC cb), (8, .slice (some (loose ka 0)) pb.length 1), (10, o'), (11, N (i + 1))] = [(1, .slice vb l.length vc), (2, .slice (some ad) ks.length wc), (3, .agg #[I c.A, I c.S, I c.T]), (7, ptrC cb), (8, .slice (some (loose ka 0)) pb.length 1), (10, o), (11, N i')] ∧
        PInv H4 g c cb ws bs ts pb ∧ Arr H4 (.slice (some (loose ka 0)) pb.length 1) pb ka ∧ (pb ≠ [] → g ka = 1) ∧ OutB H4 o (vcs evs) kh ∧ (vcs evs ≠ [] → g kh = 1 ∧ (pb ≠ [] → kh ≠ ka)) ∧ HI c ws evs (fun i => opsOf c i (opsAt l i)) ts ∧ Old h H4 g ∧ evs.length ≤ i' ∧ ts.length = l.length :=
        ⟨i + 1, _, _, _, _, o', evs ++ es, k', by omega, rfl, p4, hA4, fun _ => gka, hU4, hgk4, hH2, hO4, by rw [List.length_append]; omega, by rw [List.length_set]; exact htl⟩
       generalize getI (thS c t ws bs).2.1 ((4 + k : Nat) : Int) = wv at hL hnote
       generalize (thS c t ws bs).1.nx = nx at hBz hnote
       by_cases hz : wv = 0
       ·repeat' (first | (show ER _ _ _ _ _ _ _; first | refine .seq ?_ | refine .reg ?_ | refine .yes rfl ?_ | refine .no rfl ?_ | refine .skip ?_ | refine .block ?_ | refine .endB ?_ | refine .exit rfl ?_ | refine .br rfl (fun hc => ?_) (fun hc => ?_) | refine .scope ?_ | refine .inScope ?_ | refine .label ?_ | refine .ret rfl ?_ | refine .nil rfl ?_) | (show EG _ _ _ _ _ _ _ _ _; first | refine .mov rfl rfl ?_ | refine .lload rfl rfl rfl rfl ?_ | refine .laddr rfl rfl rfl ?_ | (show EG _ _ (⟨_, .bin _ _ _, _, _⟩ :: _) _ _ _ _ _ _; first | refine .lssT rfl rfl rfl (by omega) ?_ | refine .lssF rfl rfl rfl (by omega) ?_ | refine .leq rfl rfl rfl (fun hc => ?_) (fun hc => ?_) | refine .gtr rfl rfl rfl (fun hc => ?_) (fun hc => ?_) | refine .geqT rfl rfl rfl (by omega) ?_ | refine .geqF rfl rfl rfl (by omega) ?_ | refine .eql rfl rfl rfl (fun hc => ?_) (fun hc => ?_) | refine .neqT rfl rfl rfl (by omega) ?_ | refine .neqF rfl rfl rfl (by omega) ?_ | refine .addN rfl rfl rfl (by omega) ?_ | refine .addN (b := 1) rfl rfl rfl (by omega) ?_ | refine .subN rfl rfl rfl (by omega) ?_ | refine .subN (b := 1) rfl rfl rfl (by omega) ?_) | (show EG _ _ (⟨_, .load _ _, _, _⟩ :: _) _ _ _ _ _ _; first | refine .load rfl rfl (I0) ?_ | refine .load rfl rfl (A0) ?_) | (show EG _ _ (⟨_, .call _ _, _, _⟩ :: _) _ _ _ _ _ _; first | refine .call rfl rfl (hS) ?_ | refine .call rfl rfl (hL) ?_) | (show EG _ _ (⟨_, .iaddr _ _ _ _, _, _⟩ :: _) _ _ _ _ _ _; first | refine .iaddr rfl rfl rfl (hi) ?_ | refine .iaddr rfl rfl rfl (hkp) ?_) | refine .app rfl rfl rfl (hap) ?_ | refine .addN (a := 4) rfl rfl rfl (by omega) ?_ | refine .skip rfl ?_ | refine .fin ?_ | refine .go rfl rfl rfl ?_ | refine .gono rfl rfl rfl ?_ | refine .skipn rfl ?_))
        exact next (n - 1) _ _ (by omega) cont
       ·by_cases hkT : (k : Int) < c.T
        ·have hnz := hnote hkT hz
         rw [decide_eq_true hnz] at hBz
         repeat' (first | (show ER _ _ _ _ _ _ _; first | refine .seq ?_ | refine .reg ?_ | refine .yes rfl ?_ | refine .no rfl ?_ | refine .skip ?_ | refine .block ?_ | refine .endB ?_ | refine .exit rfl ?_ | refine .br rfl (fun hc => ?_) (fun hc => ?_) | refine .scope ?_ | refine .inScope ?_ | refine .label ?_ | refine .ret rfl ?_ | refine .nil rfl ?_) | (show EG _ _ _ _ _ _ _ _ _; first | refine .mov rfl rfl ?_ | refine .lload rfl rfl rfl rfl ?_ | refine .laddr rfl rfl rfl ?_ | (show EG _ _ (⟨_, .bin _ _ _, _, _⟩ :: _) _ _ _ _ _ _; first | refine .lssT rfl rfl rfl (by omega) ?_ | refine .lssF rfl rfl rfl (by omega) ?_ | refine .leq rfl rfl rfl (fun hc => ?_) (fun hc => ?_) | refine .gtr rfl rfl rfl (fun hc => ?_) (fun hc => ?_) | refine .geqT rfl rfl rfl (by omega) ?_ | refine .geqF rfl rfl rfl (by omega) ?_ | refine .eql rfl rfl rfl (fun hc => ?_) (fun hc => ?_) | refine .neqT rfl rfl rfl (by omega) ?_ | refine .neqF rfl rfl rfl (by omega) ?_ | refine .addN rfl rfl rfl (by omega) ?_ | refine .addN (b := 1) rfl rfl rfl (by omega) ?_ | refine .subN rfl rfl rfl (by omega) ?_ | refine .subN (b := 1) rfl rfl rfl (by omega) ?_) | (show EG _ _ (⟨_, .load _ _, _, _⟩ :: _) _ _ _ _ _ _; first | refine .load rfl rfl (I0) ?_ | refine .load rfl rfl (A0) ?_ | refine .load rfl rfl (A4) ?_) | (show EG _ _ (⟨_, .call _ _, _, _⟩ :: _) _ _ _ _ _ _; first | refine .call rfl rfl (hS) ?_ | refine .call rfl rfl (hL) ?_ | refine .call rfl rfl (hBz) ?_) | (show EG _ _ (⟨_, .iaddr _ _ _ _, _, _⟩ :: _) _ _ _ _ _ _; first | refine .iaddr rfl rfl rfl (hi) ?_ | refine .iaddr rfl rfl rfl (hkp) ?_) | refine .app rfl rfl rfl (hap) ?_ | refine .addN (a := 4) rfl rfl rfl (by omega) ?_ | refine .skip rfl ?_ | refine .fin ?_ | refine .go rfl rfl rfl ?_ | refine .gono rfl rfl rfl ?_ | refine .skipn rfl ?_))
         exact next (n - 1) _ _ (by omega) cont
        ·repeat' (first | (show ER _ _ _ _ _ _ _; first | refine .seq ?_ | refine .reg ?_ | refine .yes rfl ?_ | refine .no rfl ?_ | refine .skip ?_ | refine .block ?_ | refine .endB ?_ | refine .exit rfl ?_ | refine .br rfl (fun hc => ?_) (fun hc => ?_) | refine .scope ?_ | refine .inScope ?_ | refine .label ?_ | refine .ret rfl ?_ | refine .nil rfl ?_) | (show EG _ _ _ _ _ _ _ _ _; first | refine .mov rfl rfl ?_ | refine .lload rfl rfl rfl rfl ?_ | refine .laddr rfl rfl rfl ?_ | (show EG _ _ (⟨_, .bin _ _ _, _, _⟩ :: _) _ _ _ _ _ _; first | refine .lssT rfl rfl rfl (by omega) ?_ | refine .lssF rfl rfl rfl (by omega) ?_ | refine .leq rfl rfl rfl (fun hc => ?_) (fun hc => ?_) | refine .gtr rfl rfl rfl (fun hc => ?_) (fun hc => ?_) | refine .geqT rfl rfl rfl (by omega) ?_ | refine .geqF rfl rfl rfl (by omega) ?_ | refine .eql rfl rfl rfl (fun hc => ?_) (fun hc => ?_) | refine .neqT rfl rfl rfl (by omega) ?_ | refine .neqF rfl rfl rfl (by omega) ?_ | refine .addN rfl rfl rfl (by omega) ?_ | refine .addN (b := 1) rfl rfl rfl (by omega) ?_ | refine .subN rfl rfl rfl (by omega) ?_ | refine .subN (b := 1) rfl rfl rfl (by omega) ?_) | (show EG _ _ (⟨_, .load _ _, _, _⟩ :: _) _ _ _ _ _ _; first | refine .load rfl rfl (I0) ?_ | refine .load rfl rfl (A0) ?_) | (show EG _ _ (⟨_, .call _ _, _, _⟩ :: _) _ _ _ _ _ _; first | refine .call rfl rfl (hS) ?_ | refine .call rfl rfl (hL) ?_) | (show EG _ _ (⟨_, .iaddr _ _ _ _, _, _⟩ :: _) _ _ _ _ _ _; first | refine .iaddr rfl rfl rfl (hi) ?_ | refine .iaddr rfl rfl rfl (hkp) ?_) | refine .app rfl rfl rfl (hap) ?_ | refine .addN (a := 4) rfl rfl rfl (by omega) ?_ | refine .skip rfl ?_ | refine .fin ?_ | refine .go rfl rfl rfl ?_ | refine .gono rfl rfl rfl ?_ | refine .skipn rfl ?_))
         exact next (n - 1) _ _ (by omega) cont
      ·have hev : evs.length ≤ 1000 := by omega
       have hCl := rcalls_spec 0 hU.sl hev hH.ok
       have hth := call_th hH.ok
       have hop := fun (k : Nat) (a : Kall) (hk : (callsD evs.length evs evs.length)[k]? = some a) => call_op hk
       have hCn := callsD_le evs.length evs evs.length
       generalize callsD evs.length evs evs.length = C at hCl hth hop hCn
       have hmd := made_sl (h := H) (n := 10) (lcs_len C)
       have hCl : callR En 0 Id.zcd [o] H = some (.tuple #[(made H 10 (lcs C)).1, I 0], (made H 10 (lcs C)).2) := hCl
       generalize made H 10 (lcs C) = mm at hCl hmd
       obtain ⟨cv, H2⟩ := mm
       have hCs : Sl H2 10 cv (lcs C) := hmd.1
       have hx2 : Ext H H2 := hmd.2
       refine Exists.elim hCs.len fun cbb hq => Exists.elim hq fun ccc hce => ?_
       rw [lcs_length] at hce
       have hv2 := (hv.ext hO.ext).ext hx2
       have hb2 : (H2 ++ [Blk.row (repeatL [.int .i64 0] 4) false])[H2.length]? = some (nrow (cntW [])) := List.getElem?_concat_length
       have hx3 : Ext H2 (H2 ++ [Blk.row (repeatL [.int .i64 0] 4) false]) := (Ext.refl H2).app _
       subst hce
       have hasks : ∀ (k : Nat) (a : Kall), C[k]? = some a → ∃ (t : Nat) (q : Value × List Op4) (o : Op4), a.th = t ∧ t < 4 ∧ t < l.length ∧ l[t]? = some q ∧ (C.take k).countP (thC t) < q.2.length ∧ q.2[(C.take k).countP (thC t)]? = some o ∧ opT o = (a.od, a.oh, a.oo, a.on) := fun k a hk => by
        obtain ⟨h1, h2, e, h3, h4, h5⟩ := hth a (List.mem_of_getElem? hk)
        obtain ⟨t, ht⟩ : ∃ t : Nat, a.th = t := ⟨a.th.toNat, by omega⟩
        have h6 := hH.thr e h3
        have htt : t < ts.length := by omega
        have hgt : ts[t]? = some ts[t] := List.getElem?_eq_getElem htt
        obtain ⟨kk, _, k2, _⟩ := (hH.th t _ hgt).ops
        have hp := hop k a hk
        rw [ht, k2, List.getElem?_map] at hp
        have htl2 : t < l.length := by omega
        have hgl : l[t]? = some l[t] := List.getElem?_eq_getElem htl2
        cases hz : ((opsOf c t (opsAt l t)).take (kk + if (ts[t]).nx = 0 then 0 else 1))[(C.take k).countP (thC t)]? with
        | none => rw [hz] at hp; cases hp
        | some o =>
          rw [hz] at hp
          injection hp with hp
          have hlt := (List.getElem?_eq_some_iff.1 hz).1
          rw [List.length_take] at hlt
          rw [List.getElem?_take, if_pos (by omega)] at hz
          ·have hne : opsOf c t (opsAt l t) = l[t].2 := by
            have : opsAt l t = l[t].2 := by unfold opsAt; rw [hgl]
            rw [← this]
            unfold opsOf
            by_cases hg : 0 ≤ noteI c t
            ·rw [if_pos hg]
            ·unfold opsOf at hz
             rw [if_neg hg] at hz
             simp at hz
           rw [hne] at hz
           exact ⟨t, l[t], o, ht, by omega, htl2, hgl, (List.getElem?_eq_some_iff.1 hz).1, hz, hp⟩
       repeat' (first | (show ER _ _ _ _ _ _ _; first | refine .seq ?_ | refine .reg ?_ | refine .yes rfl ?_ | refine .no rfl ?_ | refine .skip ?_ | refine .block ?_ | refine .endB ?_ | refine .exit rfl ?_ | refine .br rfl (fun hc => ?_) (fun hc => ?_) | refine .scope ?_ | refine .inScope ?_ | refine .label ?_ | refine .ret rfl ?_ | refine .nil rfl ?_) | (show EG _ _ _ _ _ _ _ _ _; first | refine .mov rfl rfl ?_ | refine .lload rfl rfl rfl rfl ?_ | refine .laddr rfl rfl rfl ?_ | (show EG _ _ (⟨_, .bin _ _ _, _, _⟩ :: _) _ _ _ _ _ _; first | refine .lssT rfl rfl rfl (by omega) ?_ | refine .lssF rfl rfl rfl (by omega) ?_ | refine .leq rfl rfl rfl (fun hc => ?_) (fun hc => ?_) | refine .gtr rfl rfl rfl (fun hc => ?_) (fun hc => ?_) | refine .geq rfl rfl rfl (fun hc => ?_) (fun hc => ?_) | refine .eql rfl rfl rfl (fun hc => ?_) (fun hc => ?_) | refine .neqT rfl rfl rfl (by omega) ?_ | refine .neqF rfl rfl rfl (by omega) ?_) | refine .call rfl rfl (hCl) ?_ | refine .mks rfl rfl rfl ⟨Nat.le_refl _, by omega, by decide⟩ ?_ | refine .skip rfl ?_ | refine .fin ?_ | refine .go rfl rfl rfl ?_ | refine .gono rfl rfl rfl ?_ | refine .skipn rfl ?_))
       refine .loop (fun n f H => ∃ (k : Nat), n + k = C.length ∧ f = [(1, .slice vb l.length vc), (13, .slice cbb C.length ccc), (15, .slice (some ⟨H2.length, 0, none⟩) 4 4), (16, N k)] ∧ Ext H2 H ∧ H[H2.length]? = some (nrow (cntW (C.take k)))) (n := C.length)
        ⟨0, rfl, rfl, hx3, hb2⟩ ?_
       clear hx3 hb2 next hn hi hP hA hga hU hgk hH hCl hth hop
       rintro n f H5 ⟨k, hn, rfl, hx, hb⟩ next
       by_cases hk : k < C.length
       ·have hgk : C[k]? = some C[k] := List.getElem?_eq_getElem hk
        have htk : C.take (k + 1) = C.take k ++ [C[k]] := List.take_succ_eq_append_getElem hk
        generalize C[k] = a at hgk htk
        refine Exists.elim (hasks k a hgk) fun t hq => Exists.elim hq fun q hq => Exists.elim hq fun o4 hq => ?_
        have ht := hq.1
        have ht4 := hq.2.1
        have htl4 := hq.2.2.1
        have hgl := hq.2.2.2.1
        have hcl := hq.2.2.2.2.1
        have hco := hq.2.2.2.2.2.1
        have hoo := hq.2.2.2.2.2.2
        clear hq
        have hset := cntW_app (C.take k) ht4 ht
        have hWa := cntW_at (C.take k) ht4
        have hWl : (cntW (C.take k)).length = 4 := rfl
        generalize (C.take k).countP (thC t) = cnt at hcl hco hset hWa
        rw [← htk] at hset
        refine Exists.elim (lcs_cells (hCs.ext hx) (by omega)) fun ca hq => Exists.elim hq fun cc' hq => ?_
        have hva := hq.1
        have hld := hq.2 k a hgk
        clear hq
        injection hva with e1 e2 e3
        subst e1
        have C0 := hld.1
        have C1 : loadV H5 (some 4) ⟨ca.block, ca.off + k * 10 + 1, none⟩ = some (.agg #[I a.od, I a.oh, I a.oo, I a.on]) := (hCs.ext hx).part (lcs_get hgk) (by decide) rfl
        rw [ht] at C0
        have W0 : loadV H5 none ⟨H2.length, 0 + t * 1, none⟩ = some (N cnt) := ld_row (cs := (cntW (C.take k)).map N) hb (by rw [Nat.zero_add, Nat.mul_one, List.getElem?_map, hWa]; rfl)
        have hst := nrow_st (n := cnt + 1) hb (show t < (cntW (C.take k)).length by rw [hWl]; exact ht4)
        rw [hset] at hst
        have hb' : (H5.set H2.length (nrow (cntW (C.take (k + 1)))))[H2.length]? = some (nrow (cntW (C.take (k + 1)))) := hs_same (hlt_of hb)
        have hx' : Ext H2 (H5.set H2.length (nrow (cntW (C.take (k + 1))))) := ⟨by rw [List.length_set]; exact hx.1, fun x hx1 => by rw [List.getElem?_set_ne (by omega)]; exact hx.2 x hx1⟩
        generalize H5.set H2.length (nrow (cntW (C.take (k + 1)))) = H6 at hst hb' hx'
        refine Exists.elim ((hv2.ext hx).at hgl) fun pa hq => Exists.elim hq fun pc hq => ?_
        have hvp := hq.1
        have P0 := hq.2
        clear hq
        injection hvp with p1 p2 p3
        have hq4 := (hv2.ext hx).each q (List.mem_of_getElem? hgl)
        refine Exists.elim (hq4.1.row (show ocs q.2 ≠ [] from fun e => by have := congrArg List.length e; rw [ocs_length] at this; simp at this; rw [this] at hcl; simp at hcl)) fun qa hq => Exists.elim hq fun qc hq => ?_
        have hqe := hq.1
        have hqr := (hq.2 cnt o4.cs (by unfold ocs; rw [List.getElem?_map, hco]; rfl)).2
        clear hq
        rw [ocs_length] at hqe
        rw [hqe] at P0
        have hagg : Value.agg o4.cs.toArray = .agg #[I a.od, I a.oh, I a.oo, I a.on] := by
         unfold opT at hoo
         injection hoo with o1 hoo
         injection hoo with o2 hoo
         injection hoo with o3 o5
         show Value.agg #[I o4.d, I o4.h, I o4.f, I o4.n] = _
         rw [o1, o2, o3, o5]
        rw [hagg] at hqr
        have hcb : cnt < 20 := by
         have := hs20 q (List.mem_of_getElem? hgl)
         omega
        have cont : ∀ va : Value, va = .slice vb l.length vc → ∃ (k' : Nat), n - 1 + k' = C.length ∧ [(1, va), (13, Value.slice (some ca) C.length ccc), (15, .slice (some ⟨H2.length, 0, none⟩) 4 4), (16, N (k + 1))] = [(1, .slice vb l.length vc), (13, .slice (some ca) C.length ccc), (15, .slice (some ⟨H2.length, 0, none⟩) 4 4), (16, N k')] ∧ Ext H2 H6 ∧ H6[H2.length]? = some (nrow (cntW (C.take k'))) := fun va hva => by
         subst hva
         exact ⟨k + 1, by omega, rfl, hx', hb'⟩
        have cont := cont _ rfl
        subst p1
        repeat' (first | (show ER _ _ _ _ _ _ _; first | refine .seq ?_ | refine .reg ?_ | refine .yes rfl ?_ | refine .no rfl ?_ | refine .skip ?_ | refine .block ?_ | refine .endB ?_ | refine .exit rfl ?_ | refine .br rfl (fun hc => ?_) (fun hc => ?_) | refine .scope ?_ | refine .inScope ?_ | refine .label ?_ | refine .ret rfl ?_ | refine .nil rfl ?_) | (show EG _ _ _ _ _ _ _ _ _; first | refine .mov rfl rfl ?_ | refine .lload rfl rfl rfl rfl ?_ | refine .laddr rfl rfl rfl ?_ | (show EG _ _ (⟨_, .bin _ _ _, _, _⟩ :: _) _ _ _ _ _ _; first | refine .lssT rfl rfl rfl (by omega) ?_ | refine .lssF rfl rfl rfl (by omega) ?_ | refine .leq rfl rfl rfl (fun hc => ?_) (fun hc => ?_) | refine .gtr rfl rfl rfl (fun hc => ?_) (fun hc => ?_) | refine .geqT rfl rfl rfl (by omega) ?_ | refine .geqF rfl rfl rfl (by omega) ?_ | refine .eql rfl rfl rfl (fun hc => ?_) (fun hc => ?_) | refine .neq rfl rfl rfl (fun hc => ?_) (fun hc => ?_) | refine .addN rfl rfl rfl (by omega) ?_ | refine .addN (b := 1) rfl rfl rfl (by omega) ?_ | refine .subN rfl rfl rfl (by omega) ?_ | refine .subN (b := 1) rfl rfl rfl (by omega) ?_) | (show EG _ _ (⟨_, .load _ _, _, _⟩ :: _) _ _ _ _ _ _; first | refine .load rfl rfl (C0) ?_ | refine .load rfl rfl (C1) ?_ | refine .load rfl rfl (W0) ?_ | refine .load rfl rfl (P0) ?_ | refine .load rfl rfl (hqr) ?_) | (show EG _ _ (⟨_, .iaddr _ _ _ _, _, _⟩ :: _) _ _ _ _ _ _; first | refine .iaddr rfl rfl rfl (hk) ?_ | refine .iaddr rfl rfl rfl (ht4) ?_ | refine .iaddr rfl rfl rfl (htl4) ?_ | refine .iaddr rfl rfl rfl (hcl) ?_) | refine .eqc rfl rfl rfl rfl (fun hc => ?_) (fun hc => ?_) | refine .store rfl rfl rfl rfl rfl hst ?_ | refine .skip rfl ?_ | refine .fin ?_ | refine .go rfl rfl rfl ?_ | refine .gono rfl rfl rfl ?_ | refine .skipn rfl ?_))
        ·simp at hc
        ·exact next (n - 1) _ _ (by omega) cont
       ·repeat' (first | (show ER _ _ _ _ _ _ _; first | refine .seq ?_ | refine .reg ?_ | refine .yes rfl ?_ | refine .no rfl ?_ | refine .skip ?_ | refine .block ?_ | refine .endB ?_ | refine .exit rfl ?_ | refine .br rfl (fun hc => ?_) (fun hc => ?_) | refine .scope ?_ | refine .inScope ?_ | refine .label ?_ | refine .ret rfl ?_ | refine .nil rfl ?_) | (show EG _ _ _ _ _ _ _ _ _; first | refine .mov rfl rfl ?_ | refine .lload rfl rfl rfl rfl ?_ | refine .laddr rfl rfl rfl ?_ | (show EG _ _ (⟨_, .bin _ _ _, _, _⟩ :: _) _ _ _ _ _ _; first | refine .lssT rfl rfl rfl (by omega) ?_ | refine .lssF rfl rfl rfl (by omega) ?_ | refine .leq rfl rfl rfl (fun hc => ?_) (fun hc => ?_) | refine .gtr rfl rfl rfl (fun hc => ?_) (fun hc => ?_) | refine .geq rfl rfl rfl (fun hc => ?_) (fun hc => ?_) | refine .eql rfl rfl rfl (fun hc => ?_) (fun hc => ?_) | refine .neq rfl rfl rfl (fun hc => ?_) (fun hc => ?_)) | refine .call rfl rfl (live_c _ _) ?_ | refine .skip rfl ?_ | refine .fin ?_ | refine .go rfl rfl rfl ?_ | refine .gono rfl rfl rfl ?_ | refine .skipn rfl ?_))
        rfl
    ·have hS1 := start_not 0 h hm
     have hM := fun lo => may_spec lo h c
     rw [decide_eq_false hm] at hM
     rw [Cfg.cs] at hS1 hM
     repeat' (first | (show ER _ _ _ _ _ _ _; first | refine .seq ?_ | refine .reg ?_ | refine .yes rfl ?_ | refine .no rfl ?_ | refine .skip ?_ | refine .block ?_ | refine .endB ?_ | refine .exit rfl ?_ | refine .br rfl (fun hc => ?_) (fun hc => ?_) | refine .scope ?_ | refine .inScope ?_ | refine .label ?_ | refine .ret rfl ?_ | refine .nil rfl ?_) | (show EG _ _ _ _ _ _ _ _ _; first | refine .mov rfl rfl ?_ | refine .lload rfl rfl rfl rfl ?_ | refine .laddr rfl rfl rfl ?_ | (show EG _ _ (⟨_, .bin _ _ _, _, _⟩ :: _) _ _ _ _ _ _; first | refine .lss rfl rfl rfl (fun hc => ?_) (fun hc => ?_) | refine .leq rfl rfl rfl (fun hc => ?_) (fun hc => ?_) | refine .gtrT rfl rfl rfl (by omega) ?_ | refine .gtrF rfl rfl rfl (by omega) ?_ | refine .geq rfl rfl rfl (fun hc => ?_) (fun hc => ?_) | refine .eql rfl rfl rfl (fun hc => ?_) (fun hc => ?_) | refine .neq rfl rfl rfl (fun hc => ?_) (fun hc => ?_)) | (show EG _ _ (⟨_, .call _ _, _, _⟩ :: _) _ _ _ _ _ _; first | refine .call rfl rfl (live_c _ _) ?_ | refine .call rfl rfl (hSm) ?_ | refine .call rfl rfl (hS1) ?_ | refine .call rfl rfl (hM _) ?_) | refine .skip rfl ?_ | refine .fin ?_ | refine .go rfl rfl rfl ?_ | refine .gono rfl rfl rfl ?_ | refine .skipn rfl ?_))
     rfl
 obtain ⟨u, h', h1, rfl⟩ := key
 exact ⟨h', h1⟩
end Go.Proofs.YtnfcohmbcgfhbaaGreat

