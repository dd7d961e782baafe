/- What the steps of a pass alone leave as it was. Plain. -/
import Derived.Test.YtfpfknafcgkcjaaCompactW
import Derived.Test.YtfpfknafcgkcjaaCompactX

set_option linter.unusedVariables false
set_option linter.unusedSimpArgs false
namespace Go.Proofs.Ytfpfknafcgkcjaa
open Go Go.Ir

def Tame (m : Mc) (r : Mc × Option Int) : Prop := r.1.low = m.low ∧ r.1.c = m.c ∧ r.1.next ≠ 11 ∧ (r.1.next = 10 → r.1.turn = some ⟨1, 0, 0⟩)

section
variable {m m' : Mc} {ws bs : List Int}
theorem tame_on {n : Int} (e1 : m'.low = m.low) (e2 : m'.c = m.c) (h0 : n ≠ 10) (h1 : n ≠ 11) : Tame m (onM m' n) := ⟨e1, e2, h1, fun h => absurd h h0⟩
theorem tame_end (e1 : m'.low = m.low) (e2 : m'.c = m.c) : Tame m (endM m') := ⟨e1, e2, by show (0 : Int) ≠ 11; omega, fun h => by have h : (0 : Int) = 10 := h; omega⟩
theorem tame_beh (e1 : m'.low = m.low) (e2 : m'.c = m.c) : Tame m (behM m') := by
 unfold behM
 split
 ·exact tame_on e1 e2 (by omega) (by omega)
 ·split
  ·exact tame_end e1 e2
  ·exact ⟨e1, e2, by show (10 : Int) ≠ 11; omega, fun _ => rfl⟩
theorem tame_scanned (e1 : m'.low = m.low) (e2 : m'.c = m.c) : Tame m (scannedM m') := by
 unfold scannedM
 split
 ·exact tame_on e1 e2 (by omega) (by omega)
 ·exact tame_beh e1 e2
theorem tame_scan : Tame m (scanM m ws) := by
 unfold scanM
 split
 ·split
  ·exact tame_on rfl rfl (by omega) (by omega)
  ·exact tame_scanned rfl rfl
 ·exact tame_scanned rfl rfl
theorem tame_measure : Tame m (measureM m ws) := by
 unfold measureM
 split
 ·exact tame_scanned rfl rfl
 ·exact tame_scanned rfl rfl
theorem tame_passed (e1 : m'.low = m.low) (e2 : m'.c = m.c) : Tame m (passedM m') := tame_beh e1 e2
theorem tame_look (o : Obj) : Tame m (lookM m ws o) := by
 unfold lookM
 split
 ·exact tame_passed rfl rfl
 ·split
  ·exact tame_passed rfl rfl
  ·split
   ·exact tame_passed rfl rfl
   ·exact tame_on rfl rfl (by omega) (by omega)

theorem step_tame (h : Al ws m) (h0 : m.next ≠ 0) (h9 : m.next ≤ 9) : Tame m (stepM m ws bs).1 ∧ ∀ i : Int, 0 ≤ i → i < 5 → getI (stepM m ws bs).2.1 i = getI ws i := by
 have hn := h.wf.next
 unfold stepM
 by_cases h1 : m.next = 1
 ·rw [if_pos h1]; exact ⟨tame_on rfl rfl (by omega) (by omega), fun _ _ _ => rfl⟩
 by_cases h2 : m.next = 2
 ·rw [if_neg h1, if_pos h2]
  refine ⟨?_, fun _ _ _ => rfl⟩
  show Tame m (if getI ws 2 ≠ 0 then endM m else onM m 3)
  split
  ·exact tame_end rfl rfl
  ·exact tame_on rfl rfl (by omega) (by omega)
 by_cases h3 : m.next = 3
 ·rw [if_neg h1, if_neg h2, if_pos h3]; exact ⟨tame_scan, fun _ _ _ => rfl⟩
 by_cases h4 : m.next = 4
 ·rw [if_neg h1, if_neg h2, if_neg h3, if_pos h4]; exact ⟨tame_measure, fun _ _ _ => rfl⟩
 by_cases h5 : m.next = 5
 ·rw [if_neg h1, if_neg h2, if_neg h3, if_neg h4, if_pos h5]; exact ⟨tame_look _, fun _ _ _ => rfl⟩
 by_cases h6 : m.next = 6
 ·rw [if_neg h1, if_neg h2, if_neg h3, if_neg h4, if_neg h5, if_pos h6]
  obtain ⟨hc, n0, n1, s0, s1⟩ := cur_size h (by omega) (by omega)
  have hsl := slotI_lt h.wf.may s0 s1 (k := 0) (by omega)
  unfold lockM
  split
  ·exact ⟨tame_on rfl rfl (by omega) (by omega), fun i _ _ => getI_ne (by omega)⟩
  ·exact ⟨tame_on rfl rfl (by omega) (by omega), fun _ _ _ => rfl⟩
 by_cases h7 : m.next = 7
 ·rw [if_neg h1, if_neg h2, if_neg h3, if_neg h4, if_neg h5, if_neg h6, if_pos h7]; exact ⟨tame_on rfl rfl (by omega) (by omega), fun _ _ _ => rfl⟩
 by_cases h8 : m.next = 8
 ·rw [if_neg h1, if_neg h2, if_neg h3, if_neg h4, if_neg h5, if_neg h6, if_neg h7, if_pos h8]
  refine ⟨?_, fun _ _ _ => rfl⟩
  show Tame m (layM m bs (curO m)).1
  unfold layM
  refine tame_on rfl rfl ?_ ?_
  ·split <;> omega
  ·split <;> omega
 ·have h9' : m.next = 9 := by omega
  rw [if_neg h1, if_neg h2, if_neg h3, if_neg h4, if_neg h5, if_neg h6, if_neg h7, if_neg h8, if_pos h9']
  obtain ⟨hc, n0, n1, s0, s1⟩ := cur_size h (by omega) (by omega)
  have hsl := slotI_lt h.wf.may s0 s1 (k := 0) (by omega)
  unfold storeM
  exact ⟨tame_passed rfl rfl, fun i _ _ => getI_ne (by omega)⟩
end

theorem run_fin {Inv : Mc → List Int → List Int → Prop} {Fin : Mc → List Int → List Int → Int → Prop}
  (h : ∀ m ws bs, Inv m ws bs → ((stepM m ws bs).1.2 = none → Inv (stepM m ws bs).1.1 (stepM m ws bs).2.1 (stepM m ws bs).2.2) ∧ ∀ n, (stepM m ws bs).1.2 = some n → Fin (stepM m ws bs).1.1 (stepM m ws bs).2.1 (stepM m ws bs).2.2 n) :
  ∀ k m ws bs n, Inv m ws bs → (runM k m ws bs).1 = some n → Fin (runM k m ws bs).2.2.1 (runM k m ws bs).2.2.2.1 (runM k m ws bs).2.2.2.2 n
 | 0, m, ws, bs, n, hi, hr => by rw [runM] at hr; cases hr
 | k + 1, m, ws, bs, n, hi, hr => by
   have g := h m ws bs hi
   rw [runM] at hr ⊢
   cases e : (stepM m ws bs).1.2 with
   | some j =>
     rw [e] at hr
     simp only at hr ⊢
     injection hr with hr
     subst hr
     exact g.2 _ e
   | none =>
     rw [e] at hr
     simp only at hr ⊢
     exact run_fin h k _ _ _ n (g.1 e) hr

structure Held (f : Int) (m : Mc) (ws bs : List Int) : Prop where
 al : Al ws m
 n0 : m.next ≠ 0
 n11 : m.next ≠ 11
 low : m.low = false
 front : getI ws 0 = f
 note : getI ws 4 = 1
 turn : m.next = 10 → ∃ t, m.turn = some t ∧ ((t.nx = 1 ∧ getI ws 3 = 0) ∨ (t.nx = 2 ∧ t.ep = 0) ∨ (t.nx = 3 ∧ t.ep = 0 ∧ t.ak = 0))
 ep : m.next ≠ 10 → getI ws 3 = 0

theorem held_step {f : Int} (m : Mc) (ws bs : List Int) (h : Held f m ws bs) : ((stepM m ws bs).1.2 = none → Held f (stepM m ws bs).1.1 (stepM m ws bs).2.1 (stepM m ws bs).2.2) ∧ ∀ n, (stepM m ws bs).1.2 = some n → (stepM m ws bs).1.1.low = false ∧ getI (stepM m ws bs).2.1 0 = f := by
 have hn := h.al.wf.next
 have h0 := h.n0
 have h11 := h.n11
 obtain ⟨b, _, hg⟩ := step_good bs h.al h.n0
 by_cases h9 : m.next ≤ 9
 ·obtain ⟨⟨t1, t2, t3, t4⟩, t5⟩ := step_tame (bs := bs) h.al h.n0 h9
  have e3 : getI (stepM m ws bs).2.1 3 = 0 := by rw [t5 3 (by omega) (by omega)]; exact h.ep (by omega)
  refine ⟨fun hr => ?_, fun n _ => ⟨by rw [t1]; exact h.low, by rw [t5 0 (by omega) (by omega)]; exact h.front⟩⟩
  exact ⟨(hg.1 hr).1, (hg.1 hr).2.1, t3, by rw [t1]; exact h.low, by rw [t5 0 (by omega) (by omega)]; exact h.front, by rw [t5 4 (by omega) (by omega)]; exact h.note, fun he => ⟨_, t4 he, .inl ⟨rfl, e3⟩⟩, fun _ => e3⟩
 ·have h10 : m.next = 10 := by omega
  obtain ⟨t, ht, hq⟩ := h.turn h10
  have hw3 : (3 : Int) < ws.length := by
   have := h.al.wl
   have hm := h.al.wf.may
   unfold Cfg.may at hm
   rw [this]; unfold wordsI; omega
  have hst : stepM m ws bs = ((turnM m t ws).1, (turnM m t ws).2, bs) := by
   unfold stepM
   rw [if_neg (by omega), if_neg (by omega), if_neg (by omega), if_neg (by omega), if_neg (by omega), if_neg (by omega), if_neg (by omega), if_neg (by omega), if_neg (by omega), if_pos h10, ht]
   rfl
  have hl := h.low
  rw [hst] at hg ⊢
  rcases hq with ⟨q, q3⟩ | ⟨q, q3⟩ | ⟨q, q3, q4⟩
  ·have e : tnStep m.c t ws = (({ t with ep := getI ws 3, nx := 2 }, false, false), ws) := by unfold tnStep; rw [if_neg (by omega), if_pos q]
   unfold turnM at hg ⊢
   rw [e] at hg ⊢
   refine ⟨fun hr => ?_, fun n hr => by cases hr⟩
   exact ⟨(hg.1 rfl).1, (hg.1 rfl).2.1, by show (10 : Int) ≠ 11; omega, hl, h.front, h.note, fun _ => ⟨_, rfl, .inr (.inl ⟨rfl, q3⟩)⟩, fun hh => absurd rfl hh⟩
  ·have hq' := h.al.turn h10
   rw [ht] at hq'
   obtain ⟨t', e', hq'⟩ := hq'
   injection e' with e'
   subst e'
   have hep : getI ws 3 = t.ep ∧ t.ak = 0 := by
    rcases hq' with g | g | g
    ·omega
    ·exact ⟨g.2.2, g.2.1⟩
    ·omega
   have hcas : casB ws 3 t.ep = true := casB_at (by omega) (by omega) hep.1
   have e : tnStep m.c t ws = (({ t with nx := 3 }, false, false), setI ws 3 (w64 (t.ep + 1))) := by unfold tnStep; rw [if_neg (by omega), if_neg (by omega), if_pos q, hcas]; rfl
   unfold turnM at hg ⊢
   rw [e] at hg ⊢
   refine ⟨fun hr => ?_, fun n hr => by cases hr⟩
   exact ⟨(hg.1 rfl).1, (hg.1 rfl).2.1, by show (10 : Int) ≠ 11; omega, hl, by rw [← h.front]; exact getI_ne (by omega), by rw [← h.note]; exact getI_ne (by omega), fun _ => ⟨_, rfl, .inr (.inr ⟨rfl, q3, hep.2⟩)⟩, fun hh => absurd rfl hh⟩
  ·have hm := h.al.wf.may
   unfold Cfg.may at hm
   have ho : olderB (getI ws (noteI m.c t.ak)) (w64 (t.ep + 1)) = true := by
    rw [q3, q4, show noteI m.c 0 = 4 by unfold noteI; rw [if_pos (by omega)]; rfl, h.note]; decide
   have e : tnStep m.c t ws = (({ t with ak := w64 (t.ak + 1), nx := 0 }, false, true), ws) := by unfold tnStep; rw [if_neg (by omega), if_neg (by omega), if_neg (by omega), if_pos q, if_pos (.inl ho), ho]; rfl
   unfold turnM at hg ⊢
   rw [e] at hg ⊢
   exact ⟨fun hr => (by cases hr), fun n _ => ⟨hl, h.front⟩⟩

theorem run_pending {c : Cfg} {ws bs : List Int} (h : getI ws 2 ≠ 0) (k : Nat) : runM (k + 2) (mc0 c) ws bs = (some 0, 2, { mc0 c with top := getI ws 0, next := 0 }, ws, bs) := by
 have e1 : stepM (mc0 c) ws bs = (onM { mc0 c with top := getI ws 0 } 2, ws, bs) := by unfold stepM; rw [if_pos (show (mc0 c).next = 1 from rfl)]
 have e2 : stepM { mc0 c with top := getI ws 0, next := 2 } ws bs = (endM { mc0 c with top := getI ws 0, next := 2 }, ws, bs) := by
  unfold stepM
  rw [if_neg (by show (2 : Int) ≠ 1; omega), if_pos rfl, if_pos h]
 rw [runM, e1]
 show ((runM (k + 1) { mc0 c with top := getI ws 0, next := 2 } ws bs).1, (runM (k + 1) { mc0 c with top := getI ws 0, next := 2 } ws bs).2.1 + 1, (runM (k + 1) { mc0 c with top := getI ws 0, next := 2 } ws bs).2.2) = _
 rw [runM, e2]
 rfl
end Go.Proofs.Ytfpfknafcgkcjaa

/- A pass while something is pending, or a thread came in ahead: the law's run. -/
set_option linter.unusedVariables false
set_option linter.unusedSimpArgs false
namespace Go.Proofs.Ytfpfknafcgkcjaa
open Go Go.Ir

theorem lowered_spec {lo : Nat} {H : Heap} {own : List Nat} {M : Nat} {m : Mc} {ov tv : Value} (h : McAt H own M m ov tv) : callR En lo Id.compact_Machine_Lowered [ptrB M] H = some (.bool m.low, H) := by
 have l86 : loadV H none ⟨M, 0 + 86, none⟩ = some (.bool m.low) := ld_row h.row rfl
 refine call_of rfl Fn.compact_Machine_Lowered rfl rfl ?_
 repeat' (first | (show ER _ _ _ _ _ _ _; first | refine ER.seq ?_ | refine ER.reg ?_ | refine ER.yes rfl ?_ | refine ER.no rfl ?_ | refine ER.skip ?_ | refine ER.block ?_ | refine ER.endB ?_ | refine ER.exit rfl ?_ | refine ER.br rfl (fun hc => ?_) (fun hc => ?_) | refine ER.scope ?_ | refine ER.inScope ?_ | refine ER.label ?_ | refine ER.ret rfl ?_ | refine ER.nil rfl ?_) | (show EG _ _ _ _ _ _ _ _ _; first | refine EG.mov rfl rfl ?_ | refine EG.lload rfl rfl rfl rfl ?_ | refine EG.laddr rfl rfl rfl ?_ | (show EG _ _ (⟨_, .bin _ _ _, _, _⟩ :: _) _ _ _ _ _ _; first | refine EG.lss rfl rfl rfl (fun hc => ?_) (fun hc => ?_) | refine EG.leq rfl rfl rfl (fun hc => ?_) (fun hc => ?_) | refine EG.gtr rfl rfl rfl (fun hc => ?_) (fun hc => ?_) | refine EG.geq rfl rfl rfl (fun hc => ?_) (fun hc => ?_) | refine EG.eql rfl rfl rfl (fun hc => ?_) (fun hc => ?_) | refine EG.neq rfl rfl rfl (fun hc => ?_) (fun hc => ?_)) | refine EG.load rfl rfl (l86) ?_ | refine EG.skip rfl ?_ | refine EG.fin ?_ | refine EG.go rfl rfl rfl ?_ | refine EG.gono rfl rfl rfl ?_ | refine EG.skipn rfl ?_))
 rfl

set_option maxHeartbeats 3200000 in
theorem busy_run (c : Cfg) {h : Heap} {v : Value} {l : List Th} (pd nt : Int) (hv : Sl h 4 v (tcs l)) : ∃ h', callR En 0 Id.sidingslaw18_CompactBusy [.agg #[I c.A, I c.S, I c.T, v, I pd, I nt]] h = some (.bool true, h') := by
 have key : ∃ u h', callR En 0 Id.sidingslaw18_CompactBusy [.agg #[I c.A, I c.S, I c.T, v, I pd, I nt]] h = some (u, h') ∧ u = .bool true := by
  refine call_ex rfl Fn.sidingslaw18_CompactBusy rfl rfl ?_
  refine Exists.elim hv.len fun base hq => Exists.elim hq fun cap hve => ?_
  rw [tcs_length] at hve
  by_cases hm : c.may
  ·have hM := fun lo h => may_spec lo h c
   rw [decide_eq_true hm] at hM
   rcases c with ⟨A, S, T⟩
   have hm' := hm
   unfold Cfg.may at hm'
   simp only at hm'
   refine Exists.elim (show ∃ a : Nat, A = a from ⟨A.toNat, by omega⟩) fun a ha => ?_
   refine Exists.elim (show ∃ a : Nat, S = a from ⟨S.toNat, by omega⟩) fun s hs => ?_
   refine Exists.elim (show ∃ a : Nat, T = a from ⟨T.toNat, by omega⟩) fun t ht => ?_
   subst ha hs ht
   refine Exists.elim (start_may 0 h hm (Nat.zero_le _)) fun H1 hq => ?_
   have hS := hq.1
   have hC1 := hq.2.1
   have hx1 := hq.2.2.1
   clear hq
   rw [Cfg.cs] at hS hM
   simp only at hS hM ⊢
   by_cases hl : l.length ≤ 20
   ·by_cases hn0 : nt < 0
    ·subst hve
     repeat' (first | (show ER _ _ _ _ _ _ _; first | refine ER.seq ?_ | refine ER.reg ?_ | refine ER.yes rfl ?_ | refine ER.no rfl ?_ | refine ER.skip ?_ | refine ER.block ?_ | refine ER.endB ?_ | refine ER.exit rfl ?_ | refine ER.br rfl (fun hc => ?_) (fun hc => ?_) | refine ER.scope ?_ | refine ER.inScope ?_ | refine ER.label ?_ | refine ER.ret rfl ?_ | refine ER.nil rfl ?_) | (show EG _ _ _ _ _ _ _ _ _; first | refine EG.mov rfl rfl ?_ | refine EG.lload rfl rfl rfl rfl ?_ | refine EG.laddr rfl rfl rfl ?_ | (show EG _ _ (⟨_, .bin _ _ _, _, _⟩ :: _) _ _ _ _ _ _; first | refine EG.lssT rfl rfl rfl (by omega) ?_ | refine EG.lssF rfl rfl rfl (by omega) ?_ | refine EG.leq rfl rfl rfl (fun hc => ?_) (fun hc => ?_) | refine EG.gtrT rfl rfl rfl (by omega) ?_ | refine EG.gtrF rfl rfl rfl (by omega) ?_ | refine EG.geq rfl rfl rfl (fun hc => ?_) (fun hc => ?_) | refine EG.eql rfl rfl rfl (fun hc => ?_) (fun hc => ?_) | refine EG.neq rfl rfl rfl (fun hc => ?_) (fun hc => ?_)) | (show EG _ _ (⟨_, .call _ _, _, _⟩ :: _) _ _ _ _ _ _; first | refine EG.call rfl rfl (hS) ?_ | refine EG.call rfl rfl (hM _ _) ?_ | refine EG.call rfl rfl (live_c _ _) ?_) | refine EG.skip rfl ?_ | refine EG.fin ?_ | refine EG.go rfl rfl rfl ?_ | refine EG.gono rfl rfl rfl ?_ | refine EG.skipn rfl ?_))
     rfl
    by_cases hn1 : 1 < nt
    ·subst hve
     repeat' (first | (show ER _ _ _ _ _ _ _; first | refine ER.seq ?_ | refine ER.reg ?_ | refine ER.yes rfl ?_ | refine ER.no rfl ?_ | refine ER.skip ?_ | refine ER.block ?_ | refine ER.endB ?_ | refine ER.exit rfl ?_ | refine ER.br rfl (fun hc => ?_) (fun hc => ?_) | refine ER.scope ?_ | refine ER.inScope ?_ | refine ER.label ?_ | refine ER.ret rfl ?_ | refine ER.nil rfl ?_) | (show EG _ _ _ _ _ _ _ _ _; first | refine EG.mov rfl rfl ?_ | refine EG.lload rfl rfl rfl rfl ?_ | refine EG.laddr rfl rfl rfl ?_ | (show EG _ _ (⟨_, .bin _ _ _, _, _⟩ :: _) _ _ _ _ _ _; first | refine EG.lssT rfl rfl rfl (by omega) ?_ | refine EG.lssF rfl rfl rfl (by omega) ?_ | refine EG.leq rfl rfl rfl (fun hc => ?_) (fun hc => ?_) | refine EG.gtrT rfl rfl rfl (by omega) ?_ | refine EG.gtrF rfl rfl rfl (by omega) ?_ | refine EG.geq rfl rfl rfl (fun hc => ?_) (fun hc => ?_) | refine EG.eql rfl rfl rfl (fun hc => ?_) (fun hc => ?_) | refine EG.neq rfl rfl rfl (fun hc => ?_) (fun hc => ?_)) | (show EG _ _ (⟨_, .call _ _, _, _⟩ :: _) _ _ _ _ _ _; first | refine EG.call rfl rfl (hS) ?_ | refine EG.call rfl rfl (hM _ _) ?_ | refine EG.call rfl rfl (live_c _ _) ?_) | refine EG.skip rfl ?_ | refine EG.fin ?_ | refine EG.go rfl rfl rfl ?_ | refine EG.gono rfl rfl rfl ?_ | refine EG.skipn rfl ?_))
     rfl
    refine Exists.elim (lay_spec' (tail := 1) hm hC1 (hv.ext hx1) (fun h0 a' len' cap' e => by
     have := th_block hv h0 a' len' cap' e
     simp only [newC, List.mem_cons, List.not_mem_nil, or_false]
     omega) hl) fun u hq => Exists.elim hq fun H2 hq => ?_
    have hL := hq.1
    have hQ := hq.2
    clear hq
    cases hr : layR a s t l 1 (startL ⟨a, s, t⟩) (List.replicate ((a : Int)).toNat 0) with
    | none =>
      rw [hr] at hQ
      unfold LayQ at hQ
      simp only at hQ
      subst hQ
      subst hve
      repeat' (first | (show ER _ _ _ _ _ _ _; first | refine ER.seq ?_ | refine ER.reg ?_ | refine ER.yes rfl ?_ | refine ER.no rfl ?_ | refine ER.skip ?_ | refine ER.block ?_ | refine ER.endB ?_ | refine ER.exit rfl ?_ | refine ER.br rfl (fun hc => ?_) (fun hc => ?_) | refine ER.scope ?_ | refine ER.inScope ?_ | refine ER.label ?_ | refine ER.ret rfl ?_ | refine ER.nil rfl ?_) | (show EG _ _ _ _ _ _ _ _ _; first | refine EG.mov rfl rfl ?_ | refine EG.lload rfl rfl rfl rfl ?_ | refine EG.laddr rfl rfl rfl ?_ | (show EG _ _ (⟨_, .bin _ _ _, _, _⟩ :: _) _ _ _ _ _ _; first | refine EG.lssT rfl rfl rfl (by omega) ?_ | refine EG.lssF rfl rfl rfl (by omega) ?_ | refine EG.leq rfl rfl rfl (fun hc => ?_) (fun hc => ?_) | refine EG.gtrT rfl rfl rfl (by omega) ?_ | refine EG.gtrF rfl rfl rfl (by omega) ?_ | refine EG.geq rfl rfl rfl (fun hc => ?_) (fun hc => ?_) | refine EG.eql rfl rfl rfl (fun hc => ?_) (fun hc => ?_) | refine EG.neq rfl rfl rfl (fun hc => ?_) (fun hc => ?_)) | (show EG _ _ (⟨_, .call _ _, _, _⟩ :: _) _ _ _ _ _ _; first | refine EG.call rfl rfl (hS) ?_ | refine EG.call rfl rfl (hL) ?_ | refine EG.call rfl rfl (live_c _ _) ?_) | refine EG.skip rfl ?_ | refine EG.fin ?_ | refine EG.go rfl rfl rfl ?_ | refine EG.gono rfl rfl rfl ?_ | refine EG.skipn rfl ?_))
      rfl
    | some r =>
      rw [hr] at hQ
      unfold LayQ at hQ
      simp only at hQ
      obtain ⟨ov, hu, hC2, hov, hk2⟩ := hQ
      subst hu
      obtain ⟨q1, q2, q3, q5, q4⟩ := lay_cost hm hr
      have hle := oS_le q2
      by_cases hz : pd = 0 ∧ nt = 0
      ·obtain ⟨rfl, rfl⟩ := hz
       subst hve
       repeat' (first | (show ER _ _ _ _ _ _ _; first | refine ER.seq ?_ | refine ER.reg ?_ | refine ER.yes rfl ?_ | refine ER.no rfl ?_ | refine ER.skip ?_ | refine ER.block ?_ | refine ER.endB ?_ | refine ER.exit rfl ?_ | refine ER.br rfl (fun hc => ?_) (fun hc => ?_) | refine ER.scope ?_ | refine ER.inScope ?_ | refine ER.label ?_ | refine ER.ret rfl ?_ | refine ER.nil rfl ?_) | (show EG _ _ _ _ _ _ _ _ _; first | refine EG.mov rfl rfl ?_ | refine EG.lload rfl rfl rfl rfl ?_ | refine EG.laddr rfl rfl rfl ?_ | (show EG _ _ (⟨_, .bin _ _ _, _, _⟩ :: _) _ _ _ _ _ _; first | refine EG.lssT rfl rfl rfl (by omega) ?_ | refine EG.lssF rfl rfl rfl (by omega) ?_ | refine EG.leq rfl rfl rfl (fun hc => ?_) (fun hc => ?_) | refine EG.gtrT rfl rfl rfl (by omega) ?_ | refine EG.gtrF rfl rfl rfl (by omega) ?_ | refine EG.geq rfl rfl rfl (fun hc => ?_) (fun hc => ?_) | refine EG.eqlT rfl rfl rfl (by omega) ?_ | refine EG.eqlF rfl rfl rfl (by omega) ?_ | refine EG.neq rfl rfl rfl (fun hc => ?_) (fun hc => ?_)) | (show EG _ _ (⟨_, .call _ _, _, _⟩ :: _) _ _ _ _ _ _; first | refine EG.call rfl rfl (hS) ?_ | refine EG.call rfl rfl (hL) ?_ | refine EG.call rfl rfl (live_c _ _) ?_) | refine EG.skip rfl ?_ | refine EG.fin ?_ | refine EG.go rfl rfl rfl ?_ | refine EG.gono rfl rfl rfl ?_ | refine EG.skipn rfl ?_))
       rfl
      have hw5 : (5 : Int) ≤ r.ws.length := by rw [q1]; unfold wordsI; simp only; omega
      refine Exists.elim (load_spec (lo := 0) hC2 (Nat.zero_le _) 0) fun H3 hq => ?_
      have hL0 := hq.1
      have hC3 := hq.2.1
      clear hq
      refine Exists.elim (store_spec (lo := 0) hC3 (Nat.zero_le _) (Nat.zero_le _) 2 pd) fun H4 hq => ?_
      have hS2 := hq.1
      have hC4 := hq.2.1
      clear hq
      refine Exists.elim (store_spec (lo := 0) hC4 (Nat.zero_le _) (Nat.zero_le _) 4 nt) fun H5 hq => ?_
      have hS4 := hq.1
      have hC5 := hq.2.1
      clear hq
      have g0 : getI (setI (setI r.ws 2 pd) 4 nt) 0 = getI r.ws 0 := by rw [getI_ne (by omega), getI_ne (by omega)]
      have g2 : getI (setI (setI r.ws 2 pd) 4 nt) 2 = pd := by rw [getI_ne (by omega), getI_same (by omega) (by omega)]
      have g3 : getI (setI (setI r.ws 2 pd) 4 nt) 3 = 0 := by rw [getI_ne (by omega), getI_ne (by omega), q5]
      have g4 : getI (setI (setI r.ws 2 pd) 4 nt) 4 = nt := by rw [getI_same (by omega) (by rw [setI_len]; omega)]
      have gl : (setI (setI r.ws 2 pd) 4 nt).length = (wordsI ⟨a, s, t⟩).toNat := by rw [setI_len, setI_len, q1]
      have gp := phi_same (ws := r.ws) (ws' := setI (setI r.ws 2 pd) 4 nt) hm (fun i hi => by rw [getI_ne (by omega), getI_ne (by omega)])
      generalize setI (setI r.ws 2 pd) 4 nt = ws5 at hC5 g0 g2 g3 g4 gl gp
      have hN := fun lo => newM_spec lo H5 hm
      rw [Cfg.cs] at hN
      simp only at hN
      have hal := mc0_al hm gl
      refine Exists.elim (run_spec (Inv := fun m ws _ => Al ws m ∧ m.next ≠ 0) (fun m ws bs hi => mc_inv m ws bs hi) (mc0_at H5 ⟨a, s, t⟩) (hC5.app _) (mc0_disj hC5) ⟨hal, by show (1 : Int) ≠ 0; omega⟩ 20000 (by omega)) fun u hq => Exists.elim hq fun H6 hq => ?_
      have hR := hq.1
      have hv6 := hq.2.1
      have hM6 := hq.2.2.1
      have hC6 := hq.2.2.2.1
      clear hq
      have he := run_ends 20000 _ _ r.bs hal (by show (1 : Int) ≠ 0; omega) (by rw [gp, q4]; omega)
      obtain ⟨k, hk⟩ := he.1
      clear he
      rw [hk, if_neg (by simp)] at hv6
      unfold runV at hv6
      simp only at hv6
      subst hve
      by_cases hp : pd = 0
      ·have hn : nt = 1 := by omega
       have hF := run_fin (Inv := Held (getI r.ws 0)) (Fin := fun m ws _ _ => m.low = false ∧ getI ws 0 = getI r.ws 0) (fun m ws bs hi => held_step m ws bs hi) 20000 (mc0 ⟨a, s, t⟩) ws5 r.bs k
        ⟨hal, by show (1 : Int) ≠ 0; omega, by show (1 : Int) ≠ 11; omega, rfl, g0, by rw [g4, hn], fun h => by have h : (1 : Int) = 10 := h; omega, fun _ => g3⟩ hk
       generalize runM 20000 (mc0 ⟨a, s, t⟩) ws5 r.bs = q at hv6 hM6 hC6 hF
       obtain ⟨own6, ov6, tv6, hM6, hb6⟩ := hM6
       have d6 := (mc0_disj hC5).grow (hC5.app _) hb6
       refine Exists.elim (load_spec (lo := 0) hC6 (Nat.zero_le _) 0) fun H7 hq => ?_
       have hL7 := hq.1
       have ho7 := hq.2.2
       clear hq
       rw [hF.2] at hL7
       have hW := fun lo => lowered_spec (lo := lo) (hM6.chg (Chg.of ho7) d6.notP)
       rw [hF.1] at hW
       subst hp hn hv6
       repeat' (first | (show ER _ _ _ _ _ _ _; first | refine ER.seq ?_ | refine ER.reg ?_ | refine ER.yes rfl ?_ | refine ER.no rfl ?_ | refine ER.skip ?_ | refine ER.block ?_ | refine ER.endB ?_ | refine ER.exit rfl ?_ | refine ER.br rfl (fun hc => ?_) (fun hc => ?_) | refine ER.scope ?_ | refine ER.inScope ?_ | refine ER.label ?_ | refine ER.ret rfl ?_ | refine ER.nil rfl ?_) | (show EG _ _ _ _ _ _ _ _ _; first | refine EG.mov rfl rfl ?_ | refine EG.lload rfl rfl rfl rfl ?_ | refine EG.laddr rfl rfl rfl ?_ | (show EG _ _ (⟨_, .bin _ _ _, _, _⟩ :: _) _ _ _ _ _ _; first | refine EG.lssT rfl rfl rfl (by omega) ?_ | refine EG.lssF rfl rfl rfl (by omega) ?_ | refine EG.leq rfl rfl rfl (fun hc => ?_) (fun hc => ?_) | refine EG.gtrT rfl rfl rfl (by omega) ?_ | refine EG.gtrF rfl rfl rfl (by omega) ?_ | refine EG.geq rfl rfl rfl (fun hc => ?_) (fun hc => ?_) | refine EG.eqlT rfl rfl rfl (by omega) ?_ | refine EG.eqlF rfl rfl rfl (by omega) ?_ | refine EG.neqT rfl rfl rfl (by omega) ?_ | refine EG.neqF rfl rfl rfl (by omega) ?_) | (show EG _ _ (⟨_, .call _ _, _, _⟩ :: _) _ _ _ _ _ _; first | refine EG.call rfl rfl (hS) ?_ | refine EG.call rfl rfl (hL) ?_ | refine EG.call rfl rfl (hL0) ?_ | refine EG.call rfl rfl (hS2) ?_ | refine EG.call rfl rfl (hS4) ?_ | refine EG.call rfl rfl (hN _) ?_ | refine EG.call rfl rfl (hR) ?_ | refine EG.call rfl rfl (hL7) ?_ | refine EG.call rfl rfl (hW _) ?_ | refine EG.call rfl rfl (live_c _ _) ?_) | refine EG.skip rfl ?_ | refine EG.fin ?_ | refine EG.go rfl rfl rfl ?_ | refine EG.gono rfl rfl rfl ?_ | refine EG.skipn rfl ?_))
       rfl
      ·have e := run_pending (c := ⟨a, s, t⟩) (ws := ws5) (bs := r.bs) (by rw [g2]; exact hp) 19998
       have e : runM 20000 (mc0 ⟨a, s, t⟩) ws5 r.bs = _ := e
       rw [e] at hv6 hM6 hC6 hk
       injection hk with hk
       subst hk
       obtain ⟨own6, ov6, tv6, hM6, hb6⟩ := hM6
       have d6 := (mc0_disj hC5).grow (hC5.app _) hb6
       refine Exists.elim (load_spec (lo := 0) hC6 (Nat.zero_le _) 0) fun H7 hq => ?_
       have hL7 := hq.1
       have ho7 := hq.2.2
       clear hq
       rw [g0] at hL7
       have hW := fun lo => lowered_spec (lo := lo) (hM6.chg (Chg.of ho7) d6.notP)
       subst hv6
       by_cases hnz : nt = 0
       all_goals
        repeat' (first | (show ER _ _ _ _ _ _ _; first | refine ER.seq ?_ | refine ER.reg ?_ | refine ER.yes rfl ?_ | refine ER.no rfl ?_ | refine ER.skip ?_ | refine ER.block ?_ | refine ER.endB ?_ | refine ER.exit rfl ?_ | refine ER.br rfl (fun hc => ?_) (fun hc => ?_) | refine ER.scope ?_ | refine ER.inScope ?_ | refine ER.label ?_ | refine ER.ret rfl ?_ | refine ER.nil rfl ?_) | (show EG _ _ _ _ _ _ _ _ _; first | refine EG.mov rfl rfl ?_ | refine EG.lload rfl rfl rfl rfl ?_ | refine EG.laddr rfl rfl rfl ?_ | (show EG _ _ (⟨_, .bin _ _ _, _, _⟩ :: _) _ _ _ _ _ _; first | refine EG.lssT rfl rfl rfl (by omega) ?_ | refine EG.lssF rfl rfl rfl (by omega) ?_ | refine EG.leq rfl rfl rfl (fun hc => ?_) (fun hc => ?_) | refine EG.gtrT rfl rfl rfl (by omega) ?_ | refine EG.gtrF rfl rfl rfl (by omega) ?_ | refine EG.geq rfl rfl rfl (fun hc => ?_) (fun hc => ?_) | refine EG.eqlT rfl rfl rfl (by omega) ?_ | refine EG.eqlF rfl rfl rfl (by omega) ?_ | refine EG.neqT rfl rfl rfl (by omega) ?_ | refine EG.neqF rfl rfl rfl (by omega) ?_) | (show EG _ _ (⟨_, .call _ _, _, _⟩ :: _) _ _ _ _ _ _; first | refine EG.call rfl rfl (hS) ?_ | refine EG.call rfl rfl (hL) ?_ | refine EG.call rfl rfl (hL0) ?_ | refine EG.call rfl rfl (hS2) ?_ | refine EG.call rfl rfl (hS4) ?_ | refine EG.call rfl rfl (hN _) ?_ | refine EG.call rfl rfl (hR) ?_ | refine EG.call rfl rfl (hL7) ?_ | refine EG.call rfl rfl (hW _) ?_ | refine EG.call rfl rfl (live_c _ _) ?_) | refine EG.skip rfl ?_ | refine EG.fin ?_ | refine EG.go rfl rfl rfl ?_ | refine EG.gono rfl rfl rfl ?_ | refine EG.skipn rfl ?_))
        rfl
   ·subst hve
    repeat' (first | (show ER _ _ _ _ _ _ _; first | refine ER.seq ?_ | refine ER.reg ?_ | refine ER.yes rfl ?_ | refine ER.no rfl ?_ | refine ER.skip ?_ | refine ER.block ?_ | refine ER.endB ?_ | refine ER.exit rfl ?_ | refine ER.br rfl (fun hc => ?_) (fun hc => ?_) | refine ER.scope ?_ | refine ER.inScope ?_ | refine ER.label ?_ | refine ER.ret rfl ?_ | refine ER.nil rfl ?_) | (show EG _ _ _ _ _ _ _ _ _; first | refine EG.mov rfl rfl ?_ | refine EG.lload rfl rfl rfl rfl ?_ | refine EG.laddr rfl rfl rfl ?_ | (show EG _ _ (⟨_, .bin _ _ _, _, _⟩ :: _) _ _ _ _ _ _; first | refine EG.lss rfl rfl rfl (fun hc => ?_) (fun hc => ?_) | refine EG.leq rfl rfl rfl (fun hc => ?_) (fun hc => ?_) | refine EG.gtrT rfl rfl rfl (by omega) ?_ | refine EG.gtrF rfl rfl rfl (by omega) ?_ | refine EG.geq rfl rfl rfl (fun hc => ?_) (fun hc => ?_) | refine EG.eql rfl rfl rfl (fun hc => ?_) (fun hc => ?_) | refine EG.neq rfl rfl rfl (fun hc => ?_) (fun hc => ?_)) | (show EG _ _ (⟨_, .call _ _, _, _⟩ :: _) _ _ _ _ _ _; first | refine EG.call rfl rfl (hS) ?_ | refine EG.call rfl rfl (hM _ _) ?_ | refine EG.call rfl rfl (live_c _ _) ?_) | refine EG.skip rfl ?_ | refine EG.fin ?_ | refine EG.go rfl rfl rfl ?_ | refine EG.gono rfl rfl rfl ?_ | refine EG.skipn rfl ?_))
    rfl
  ·have hM := fun lo h => may_spec lo h c
   rw [decide_eq_false hm] at hM
   have hS := start_not 0 h hm
   rw [Cfg.cs] at hS hM
   subst hve
   repeat' (first | (show ER _ _ _ _ _ _ _; first | refine ER.seq ?_ | refine ER.reg ?_ | refine ER.yes rfl ?_ | refine ER.no rfl ?_ | refine ER.skip ?_ | refine ER.block ?_ | refine ER.endB ?_ | refine ER.exit rfl ?_ | refine ER.br rfl (fun hc => ?_) (fun hc => ?_) | refine ER.scope ?_ | refine ER.inScope ?_ | refine ER.label ?_ | refine ER.ret rfl ?_ | refine ER.nil rfl ?_) | (show EG _ _ _ _ _ _ _ _ _; first | refine EG.mov rfl rfl ?_ | refine EG.lload rfl rfl rfl rfl ?_ | refine EG.laddr rfl rfl rfl ?_ | (show EG _ _ (⟨_, .bin _ _ _, _, _⟩ :: _) _ _ _ _ _ _; first | refine EG.lss rfl rfl rfl (fun hc => ?_) (fun hc => ?_) | refine EG.leq rfl rfl rfl (fun hc => ?_) (fun hc => ?_) | refine EG.gtr rfl rfl rfl (fun hc => ?_) (fun hc => ?_) | refine EG.geq rfl rfl rfl (fun hc => ?_) (fun hc => ?_) | refine EG.eql rfl rfl rfl (fun hc => ?_) (fun hc => ?_) | refine EG.neq rfl rfl rfl (fun hc => ?_) (fun hc => ?_)) | (show EG _ _ (⟨_, .call _ _, _, _⟩ :: _) _ _ _ _ _ _; first | refine EG.call rfl rfl (hS) ?_ | refine EG.call rfl rfl (hM _ _) ?_ | refine EG.call rfl rfl (live_c _ _) ?_) | refine EG.skip rfl ?_ | refine EG.fin ?_ | refine EG.go rfl rfl rfl ?_ | refine EG.gono rfl rfl rfl ?_ | refine EG.skipn rfl ?_))
   rfl
 obtain ⟨u, h', h1, rfl⟩ := key
 exact ⟨h', h1⟩
end Go.Proofs.Ytfpfknafcgkcjaa

/- A config, things and two numbers as an argument. -/
set_option linter.unusedVariables false
set_option linter.unusedSimpArgs false
set_option linter.constructorNameAsVariable false
namespace Go.Proofs.Ytfpfknafcgkcjaa
open Go Go.Ir Go.ChangeShapes Go.WideShapes

theorem open_rowT {P : Program} {S T n : Nat} {α : Type} [Inhabited α] (f : α → List Value) (hu : P.underlying S = some (.slice T)) (hcl : P.cellsOf T = n) (hn : 0 < n) (hf : ∀ a, (f a).length = n ∧ (f a).all flat1 = true ∧ (f a).all oneA = true)
  {H : Type} {enc : TypeId × Value → H} {W : World} {spare : Nat → Bool} {held : Bool}
  (op : ∀ {base k : Nat} {cs : List Value} {x : DataW H × List MemPlace}, DataW.trod enc P W base spare held k T cs = some x → ∃ a, cs = f a)
  {E : Emb} {h : Heap} (s : Sim W.heap.size W E h W) (hro : RoH h) {base k : Nat} {v0 : Value} {x : DataW H × List MemPlace} (hk : DataW.trod enc P W base spare held k S [v0] = some x) :
  ∃ E' h' v l, Sim W.heap.size W E' h' W ∧ E.le E' ∧ RoH h' ∧ Ext h h' ∧ VR E' v v0 ∧ Sl h' n v (List.map f l) ∧ TightV v l.length := by
 rcases Deep.open_slice hu hk with ⟨hc, _⟩ | ⟨a, len, cap, m, k', D, Pl, hc, _, hlc, _, hm, _, hX⟩
 ·have hc : v0 = .slice none 0 0 := by simpa using hc
  subst hc
  exact ⟨E, h, .slice none 0 0, [], s, Emb.le_refl E, hro, .refl _, .slice0, ⟨fun e he => (by cases he), .inl ⟨rfl, none, 0, rfl⟩⟩, .inl ⟨rfl, rfl⟩⟩
 ·have hc : v0 = .slice (some a) len cap := by simpa using hc
  subst hc
  simp only [hcl] at hX
  have hlm : len ≤ m := by
   rw [hm]; split <;> omega
  obtain ⟨X, hXX⟩ := Deep.choose_lt (α := List Value) (n := len) (p := fun i cs => (∃ o : α, cs = f o) ∧ ∀ j, j < n → W.cell? (a.add (i * n + j)) = cs[j]?) (fun i hi => by
   obtain ⟨cs', g1, g2⟩ := hX i (by omega)
   obtain ⟨_, _, g3⟩ := World.cells?_some g1
   refine ⟨cs', op g2, fun j hj => ?_⟩
   have := g3 j hj
   rw [Deep.add_add] at this
   exact this)
  obtain ⟨O, hO⟩ := Deep.choose_lt (α := α) (n := len) (p := fun i o => X i = f o) (fun i hi => (hXX i hi).1)
  obtain ⟨E', h', v, s1, s2, s3, s4, s5, s6, s7⟩ := arg_push (a := a) (len := len) (cap := cap) (n := n) s hro hlc X hn (fun i hi => by rw [hO i hi]; exact ⟨(hf _).1, (hf _).2.2⟩) (fun i j x hi hj => by
   have hjn : j < n := by
    have := (List.getElem?_eq_some_iff.1 hj).1
    rw [hO i hi, (hf _).1] at this
    exact this
   refine ⟨x, by rw [(hXX i hi).2 j hjn, hj], VR.flat ?_⟩
   rw [hO i hi] at hj
   have := List.all_eq_true.1 (hf (O i)).2.1 x (List.mem_of_getElem? hj)
   unfold flatV
   split <;> simp_all [flat1])
  refine ⟨E', h', v, (List.range len).map O, s1, s2, s3, s4, s5, ?_, by simpa using s7⟩
  have : List.map f ((List.range len).map O) = (List.range len).map X := by
   rw [List.map_map]
   exact List.map_congr_left fun i hi => (hO i (by simpa using hi)).symm
  rw [this]
  exact s6

theorem cellsOf43 : Try.prog.cellsOf 43 = 6 := by kernel_rfl
theorem cellsOf24 : Try.prog.cellsOf 24 = 1 := by kernel_rfl
theorem cellsOf23' : Try.prog.cellsOf 23 = 3 := by kernel_rfl

section
variable {H : Type} {enc : TypeId × Value → H} {W : World} {base : Nat} {spare : Nat → Bool} {held : Bool}
set_option maxRecDepth 8000 in
theorem open_busy {E : Emb} {h : Heap} (s : Sim W.heap.size W E h W) (hro : RoH h) {b0 : Nat} {r : Reach} {v0 : Value} {d0 : DataW H} {p0 : List MemPlace} (hval : Value.okWide Try.prog W r b0 43 v0) (hd : DataW.Trod enc Try.prog W base spare held 43 v0 d0 p0) :
  ∃ E' h' v w l, ∃ c : Cfg, ∃ pd nt : Int, Sim W.heap.size W E' h' W ∧ E.le E' ∧ RoH h' ∧ Ext h h' ∧ VR E' v w ∧ Sl h' 4 v (tcs l) ∧ TightV v l.length ∧ v0 = .agg #[.int .i64 c.A, .int .i64 c.S, .int .i64 c.T, w, .int .i64 pd, .int .i64 nt] := by
 simp only [Value.okWide, Try.underlying43] at hval
 obtain ⟨cs, rfl, _, _⟩ := hval
 obtain ⟨n, hn⟩ := hd
 have hn : DataW.trod enc Try.prog W base spare held n 43 cs.toList = some (d0, p0) := by simpa [Value.cells] using hn
 obtain ⟨xs, m, _, _, hlen, hxl, hf⟩ := DataW.trod_struct Try.underlying43 hn
 rw [cellsOf43] at hlen
 have hx : xs.length = 4 := hxl
 have g0 : DataW.trod enc Try.prog W base spare held m 23 ((cs.toList.drop 0).take (Try.prog.cellsOf 23)) = xs[0]? := hf 0 _ rfl
 rw [cellsOf23', List.getElem?_eq_getElem (by omega)] at g0
 have g1 : DataW.trod enc Try.prog W base spare held m 24 ((cs.toList.drop 3).take (Try.prog.cellsOf 24)) = xs[1]? := hf 1 _ rfl
 rw [cellsOf24, List.getElem?_eq_getElem (by omega)] at g1
 have g2 : DataW.trod enc Try.prog W base spare held m 3 ((cs.toList.drop 4).take (Try.prog.cellsOf 3)) = xs[2]? := hf 2 _ rfl
 rw [cellsOf3, List.getElem?_eq_getElem (by omega)] at g2
 have g3 : DataW.trod enc Try.prog W base spare held m 3 ((cs.toList.drop 5).take (Try.prog.cellsOf 3)) = xs[3]? := hf 3 _ rfl
 rw [cellsOf3, List.getElem?_eq_getElem (by omega)] at g3
 obtain ⟨b0, b1, b2, e0⟩ := open_T23 g0
 obtain ⟨b3, e2, _, _⟩ := DataW.trod_int Try.underlying3 g2
 obtain ⟨b4, e3, _, _⟩ := DataW.trod_int Try.underlying3 g3
 obtain ⟨w, e1⟩ : ∃ w, cs.toList[3]? = some w := ⟨_, List.getElem?_eq_getElem (by omega)⟩
 have e1' : (cs.toList.drop 3).take 1 = [w] := by
  rw [List.drop_eq_getElem_cons (by omega)]
  simp only [List.take_succ_cons, List.take_zero]
  rw [List.getElem?_eq_getElem (by omega)] at e1
  injection e1 with e1
  rw [e1]
 rw [e1'] at g1
 obtain ⟨E', h', v, l, s1, s2, s3, s4, s5, s6, s7⟩ := open_rowT Th.cs Try.underlying24 cellsOf65 (by decide) (fun a => ⟨rfl, rfl, rfl⟩) open_th s hro g1
 refine ⟨E', h', v, w, l, ⟨b0, b1, b2⟩, b3, b4, s1, s2, s3, s4, s5, s6, s7, ?_⟩
 refine congrArg Value.agg (Array.toList_inj.1 (List.ext_getElem? fun i => ?_))
 match i with
 | 0 => exact drop_get (i := 0) e0 (by decide)
 | 1 => exact drop_get (i := 1) e0 (by decide)
 | 2 => exact drop_get (i := 2) e0 (by decide)
 | 3 => exact e1
 | 4 => exact take1 cs.toList e2
 | 5 => exact take1 cs.toList e3
 | i + 6 => rw [List.getElem?_eq_none (by omega)]; rfl
end
end Go.Proofs.Ytfpfknafcgkcjaa
