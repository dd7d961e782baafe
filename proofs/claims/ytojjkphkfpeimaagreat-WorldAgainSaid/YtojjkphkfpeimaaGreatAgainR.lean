/- WorldAgain, as the program runs it. -/
import Derived.Test.YtojjkphkfpeimaaGreatAgainQ
set_option linter.unusedVariables false
set_option linter.unusedSimpArgs false

namespace Go.Proofs.YtojjkphkfpeimaaGreat
open Go Go.Ir

theorem qru {c : Cfg} {w : Wst} {n : Int} (h : n < 0 ∨ c.T < n) : qqR c w n = (w, false) := by unfold qqR; rw [if_pos h]
theorem qrv {c : Cfg} (l : List (Value × List Op4)) (ks : List Int) : ∃ es : List Ev, (qqX c (w0 c l) ks).evs = ecs es ∧ es.length ≤ ks.length := by
 have key : ∀ (w : Wst) (es : List Ev), w.evs = ecs es → ∃ fs : List Ev, (qqX c w ks).evs = ecs fs ∧ fs.length ≤ es.length + ks.length := by
  unfold qqX
  induction ks with
  | nil => exact fun w es h => ⟨es, h, Nat.le_refl _⟩
  | cons k r ih =>
    intro w es h
    rw [List.foldl_cons]
    have h1 : ∃ gs : List Ev, (qqR c w k).1.evs = ecs gs ∧ gs.length ≤ es.length + 1 := by
     unfold qqR
     split
     ·exact ⟨es, h, by omega⟩
     ·split
      ·refine ⟨es, ?_, by omega⟩
       show (qqP c w).evs = ecs es
       unfold qqP
       split <;> exact h
      ·split
       ·exact ⟨es, h, by omega⟩
       ·rename_i t _
        split
        ·exact ⟨es, h, by omega⟩
        ·obtain ⟨fs, e1, e2⟩ := qqg c t w.ws w.bs
         refine ⟨es ++ fs, ?_, by rw [List.length_append]; omega⟩
         show w.evs ++ (thS c t w.ws w.bs).2.2.2 = _
         rw [h, e1]
         simp [ecs]
    obtain ⟨gs, g1, g2⟩ := h1
    obtain ⟨fs, f1, f2⟩ := ih _ gs g1
    exact ⟨fs, f1, by rw [List.length_cons]; omega⟩
 obtain ⟨fs, f1, f2⟩ := key (w0 c l) [] rfl
 exact ⟨fs, f1, by simpa using f2⟩

set_option maxHeartbeats 8000000 in
theorem qrw (c : Cfg) {h : qab} {v w : Value} {l : List (Value × List Op4)} {ks : List Int} (hv : Pgs h v l) (hw : Sl h 1 w (kcs ks)) (hl : l.length < 4611686018427387904) : ∃ h', qfV En 0 Id.zcs [.agg c.cs.toArray, v, w] h = some (.bool true, h') := by
 have key : ∃ u h', qfV En 0 Id.zcs [.agg #[I c.A, I c.S, I c.T], v, w] h = some (u, h') ∧ u = .bool true := by
  refine Exists.elim hv.sl.len fun vb hq => Exists.elim hq fun vc hve => ?_
  refine Exists.elim hw.len fun wb hq => Exists.elim hq fun wc hwe => ?_
  rw [List.length_map] at hve
  rw [qqH] at hwe
  refine Exists.elim (qqV (n0 := 20) (most := 300) 0 (by omega) (by omega) hv hw hl) fun sm hq => ?_
  have hSm := hq.1
  have hsm := hq.2
  clear hq
  cases sm with
  | false =>
    subst hve hwe
    refine qii rfl Fn.zcs rfl rfl ?_
    repeat' (first | (show ER _ _ _ _ _ _ _; first | refine .seq ?_ | refine .reg ?_ | refine .yes rfl ?_ | refine .no rfl ?_ | refine .skip ?_ | refine .block ?_ | refine .endB ?_ | refine .exit rfl ?_ | refine .br rfl (fun hc => ?_) (fun hc => ?_) | refine .scope ?_ | refine .inScope ?_ | refine .label ?_ | refine .ret rfl ?_ | refine .nil rfl ?_) | (show EG _ _ _ _ _ _ _ _ _; first | refine .mov rfl rfl ?_ | refine .lload rfl rfl rfl rfl ?_ | refine .laddr rfl rfl rfl ?_ | (show EG _ _ (⟨_, .bin _ _ _, _, _⟩ :: _) _ _ _ _ _ _; first | refine .lss rfl rfl rfl (fun hc => ?_) (fun hc => ?_) | refine .leq rfl rfl rfl (fun hc => ?_) (fun hc => ?_) | refine .gtr rfl rfl rfl (fun hc => ?_) (fun hc => ?_) | refine .geq rfl rfl rfl (fun hc => ?_) (fun hc => ?_) | refine .eql rfl rfl rfl (fun hc => ?_) (fun hc => ?_) | refine .neq rfl rfl rfl (fun hc => ?_) (fun hc => ?_)) | (show EG _ _ (⟨_, .call _ _, _, _⟩ :: _) _ _ _ _ _ _; first | refine .call rfl rfl (qiI _ _) ?_ | refine .call rfl rfl (hSm) ?_) | refine .skip rfl ?_ | refine .fin ?_ | refine .go rfl rfl rfl ?_ | refine .gono rfl rfl rfl ?_ | refine .skipn rfl ?_))
    rfl
  | true =>
    have hs := hsm rfl
    clear hsm
    by_cases hok : c.may ∧ (l.length : Int) ≤ c.T
    ·have hm := hok.1
     have hm' := hm
     unfold Cfg.may at hm'
     refine Exists.elim (qro hm hv hok.2 hw (by omega)) fun Ha hq => Exists.elim hq fun ga hq => Exists.elim hq fun A hq => Exists.elim hq fun ca hq => Exists.elim hq fun pa hq => Exists.elim hq fun Ma hq => Exists.elim hq fun aka hq => Exists.elim hq fun akh hq => Exists.elim hq fun atv hq => Exists.elim hq fun ahv hq => ?_
     have hRa := hq.1
     have hWa := hq.2.1
     have hOa := hq.2.2.1
     clear hq
     refine Exists.elim (qqU hm (hv.ext hOa.ext) hok.2) fun H1 hq => Exists.elim hq fun g1 hq => Exists.elim hq fun B hq => Exists.elim hq fun cb hq => Exists.elim hq fun pb hq => Exists.elim hq fun M hq => Exists.elim hq fun ka hq => Exists.elim hq fun tv hq => ?_
     have hN := hq.1
     have hW1 := hq.2.1
     have hO1 := hq.2.2.1
     have hB0 := hq.2.2.2
     clear hq
     have hT1 : w64 (c.T + 1) = c.T + 1 := qiL (by omega) (by omega)
     have hwa := hw.ext hOa.ext
     subst hve hwe
     refine qii rfl Fn.zcs rfl rfl ?_
     repeat' (first | (show ER _ _ _ _ _ _ _; first | refine .seq ?_ | refine .reg ?_ | refine .yes rfl ?_ | refine .no rfl ?_ | refine .skip ?_ | refine .block ?_ | refine .endB ?_ | refine .exit rfl ?_ | refine .br rfl (fun hc => ?_) (fun hc => ?_) | refine .scope ?_ | refine .inScope ?_ | refine .label ?_ | refine .ret rfl ?_ | refine .nil rfl ?_) | (show EG _ _ _ _ _ _ _ _ _; first | refine .mov rfl rfl ?_ | refine .lload rfl rfl rfl rfl ?_ | refine .laddr rfl rfl rfl ?_ | (show EG _ _ (⟨_, .bin _ _ _, _, _⟩ :: _) _ _ _ _ _ _; first | refine .lss rfl rfl rfl (fun hc => ?_) (fun hc => ?_) | refine .leq rfl rfl rfl (fun hc => ?_) (fun hc => ?_) | refine .gtr rfl rfl rfl (fun hc => ?_) (fun hc => ?_) | refine .geq rfl rfl rfl (fun hc => ?_) (fun hc => ?_) | refine .eql rfl rfl rfl (fun hc => ?_) (fun hc => ?_) | refine .neqT rfl rfl rfl (by omega) ?_ | refine .neqF rfl rfl rfl (by omega) ?_) | (show EG _ _ (⟨_, .call _ _, _, _⟩ :: _) _ _ _ _ _ _; first | refine .call rfl rfl (hSm) ?_ | refine .call rfl rfl (hRa) ?_ | refine .call rfl rfl (hN) ?_) | refine .skip rfl ?_ | refine .fin ?_ | refine .go rfl rfl rfl ?_ | refine .gono rfl rfl rfl ?_ | refine .skipn rfl ?_))
     refine .loop (fun n f H => ∃ (i : Nat) (g : Nat → Nat) (M kh : Nat) (hv : Value), n + i = ks.length ∧ f = [(2, .slice wb ks.length wc), (3, .agg #[I c.A, I c.S, I c.T]), (7, qke A), (8, qke B), (10, N i)] ∧
      WInv H g c cb B (qqX c (w0 c l) (ks.take i)) pb M ka kh tv hv ∧ Old Ha H g) (n := ks.length)
      ⟨0, g1, M, 0, _, rfl, rfl, hW1, hO1⟩ ?_
     clear hW1 hO1 hN hSm hRa
     rintro n f H ⟨i, g, M, kh, hv, hn, rfl, hW, hO⟩ next
     by_cases hi : i < ks.length
     ·have hgi : ks[i]? = some ks[i] := List.getElem?_eq_getElem hi
      generalize ks[i] = q at hgi
      have hev := qq0 c (w0 c l) (ks.take i)
      have h30 : (ks.take i).length ≤ 1000 := by rw [List.length_take]; omega
      have h00 : (w0 c l).evs.length = 0 := rfl
      refine Exists.elim (qqT hm hW (w64 (c.T + 1)) (by omega)) fun H2 hq => Exists.elim hq fun g2 hq => Exists.elim hq fun M2 hq => Exists.elim hq fun kh2 hq => Exists.elim hq fun hv2 hq => ?_
      have hP2 := hq.1
      have hW2 := hq.2.1
      have hO2 := hO.calm hq.2.2
      clear hq
      rw [qru (.inr (by rw [hT1]; omega))] at hP2 hW2
      refine Exists.elim (qqT hm hW2 q (by show (qqX c (w0 c l) (ks.take i)).evs.length ≤ _; omega)) fun H3 hq => Exists.elim hq fun g3 hq => Exists.elim hq fun M3 hq => Exists.elim hq fun kh3 hq => Exists.elim hq fun hv3 hq => ?_
      have hP3 := hq.1
      have hW3 := hq.2.1
      have hO3 := hO2.calm hq.2.2
      clear hq
      have hW3 : WInv H3 g3 c cb B (qqR c (qqX c (w0 c l) (ks.take i)) q).1 pb M3 ka kh3 tv hv3 := hW3
      rw [← qqY hgi] at hW3
      have hev3 := qq0 c (w0 c l) (ks.take (i + 1))
      have h31 : (ks.take (i + 1)).length ≤ 1000 := by rw [List.length_take]; omega
      refine Exists.elim (qqT hm hW3 (-1) (by omega)) fun H4 hq => Exists.elim hq fun g4 hq => Exists.elim hq fun M4 hq => Exists.elim hq fun kh4 hq => Exists.elim hq fun hv4 hq => ?_
      have hP4 := hq.1
      have hW4 := hq.2.1
      have hO4 := hO3.calm hq.2.2
      clear hq
      rw [qru (.inl (by omega))] at hP4 hW4
      refine Exists.elim (qqI (hwa.ext hO2.ext) hgi) fun ad hq => Exists.elim hq fun cap' hq => ?_
      have hva := hq.1
      have I0 := hq.2
      clear hq
      injection hva with e1 e2 e3
      subst e1
      generalize (qqR c (qqX c (w0 c l) (ks.take i), false).1 q).2 = pr at hP3
      repeat' (first | (show ER _ _ _ _ _ _ _; first | refine .seq ?_ | refine .reg ?_ | refine .yes rfl ?_ | refine .no rfl ?_ | refine .skip ?_ | refine .block ?_ | refine .endB ?_ | refine .exit rfl ?_ | refine .br rfl (fun hc => ?_) (fun hc => ?_) | refine .scope ?_ | refine .inScope ?_ | refine .label ?_ | refine .ret rfl ?_ | refine .nil rfl ?_) | (show EG _ _ _ _ _ _ _ _ _; first | refine .mov rfl rfl ?_ | refine .lload rfl rfl rfl rfl ?_ | refine .laddr rfl rfl rfl ?_ | (show EG _ _ (⟨_, .bin _ _ _, _, _⟩ :: _) _ _ _ _ _ _; first | refine .lssT rfl rfl rfl (by omega) ?_ | refine .lssF rfl rfl rfl (by omega) ?_ | refine .leq rfl rfl rfl (fun hc => ?_) (fun hc => ?_) | refine .gtr rfl rfl rfl (fun hc => ?_) (fun hc => ?_) | refine .geq rfl rfl rfl (fun hc => ?_) (fun hc => ?_) | refine .eql rfl rfl rfl (fun hc => ?_) (fun hc => ?_) | refine .neq rfl rfl rfl (fun hc => ?_) (fun hc => ?_) | refine .addN rfl rfl rfl (by omega) ?_ | refine .addN (b := 1) rfl rfl rfl (by omega) ?_ | refine .subN rfl rfl rfl (by omega) ?_ | refine .subN (b := 1) rfl rfl rfl (by omega) ?_) | refine .load rfl rfl (I0) ?_ | (show EG _ _ (⟨_, .call _ _, _, _⟩ :: _) _ _ _ _ _ _; first | refine .call rfl rfl (hP2) ?_ | refine .call rfl rfl (hP3) ?_ | refine .call rfl rfl (hP4) ?_) | refine .iaddr rfl rfl rfl (hi) ?_ | refine .skip rfl ?_ | refine .fin ?_ | refine .go rfl rfl rfl ?_ | refine .gono rfl rfl rfl ?_ | refine .skipn rfl ?_))
      exact next (n - 1) _ _ (by omega) ⟨i + 1, g4, M4, kh4, hv4, by omega, rfl, hW4, hO4⟩
     ·have hil : i = ks.length := by omega
      rw [hil, List.take_length] at hW
      have la := ltC hWa.p.cells
      have lb := ltC hW.p.cells
      have hst : Stp (fun _ => True) Ha H ga (qqq Ha ga 7) := ⟨hO.1, fun x hx => qqr hx, fun x hx _ => (hO.2 x hx).2⟩
      have hWa2 := hWa.keep hst trivial trivial trivial trivial (fun _ => trivial)
      have hge : Ha.length ≤ cb.P ∧ Ha.length ≤ cb.W ∧ Ha.length ≤ cb.Y := by
       refine ⟨Nat.le_of_not_lt fun q => ?_, Nat.le_of_not_lt fun q => ?_, Nat.le_of_not_lt fun q => ?_⟩
       ·have := (hO.2 _ q).1; rw [hW.p.tc.1] at this; omega
       ·have := (hO.2 _ q).1; rw [hW.p.tc.2.1] at this; omega
       ·have := (hO.2 _ q).1; rw [hW.p.tc.2.2] at this; omega
      have Va : WView H [ca.P] c ca A (qqX c (w0 c l) ks) pa Ma aka akh atv ahv := hWa2.view fun p hp => by
       rw [List.mem_singleton] at hp
       subst hp
       exact .inr (.inr ((qqr la.1).trans hWa.p.tc.1))
      have Va' : WView H [ca.P, cb.P] c ca A (qqX c (w0 c l) ks) pa Ma aka akh atv ahv := by
       have no : ∀ {x : Nat}, x < Ha.length → x ∉ [ca.P] → x ∉ [ca.P, cb.P] := fun {x} hx hn hm => by
        simp only [List.mem_cons, List.not_mem_nil, or_false] at hm hn
        omega
       refine ⟨Va.row, Va.arr, Va.out, Va.len, fun i t b ht hb => ?_, no (qip hWa.row) Va.nB, fun q => no (hWa.arr.lt q) (Va.na q), fun q => no (hWa.out.lt q) (Va.nh q)⟩
       obtain ⟨own, ob, hT, ho, _⟩ := hWa.p.th i t b ht hb
       obtain ⟨a1, a2⟩ := Va.th i t b ht hb
       exact ⟨no (ho b hT.mem).1 a1, a2⟩
      have Vb : WView H [ca.P, cb.P] c cb B (qqX c (w0 c l) ks) pb M ka kh tv hv := hW.view fun p hp => by
       simp only [List.mem_cons, List.not_mem_nil, or_false] at hp
       rcases hp with rfl | rfl
       ·exact .inr (.inl (hO.2 _ la.1).1)
       ·exact .inr (.inr hW.p.tc.1)
      have Ca := hWa2.p.cells
      have Cb := hW.p.cells
      have hlens := qrc hm l ks
      have hpa : pa.length ≤ 1000 := by have := hWa.len; omega
      have hpb : pb.length ≤ 1000 := by have := hW.len; omega
      have nab : cb.P ∉ [ca.P] ∧ cb.W ∉ [ca.P] ∧ cb.Y ∉ [ca.P] := by simp only [List.mem_cons, List.not_mem_nil, or_false]; omega
      have nba : ca.P ∉ [cb.P] ∧ ca.W ∉ [cb.P] ∧ ca.Y ∉ [cb.P] := by simp only [List.mem_cons, List.not_mem_nil, or_false]; omega
      clear Va hst hWa2 hge la lb hWa hW hO hOa hB0 hwa
      refine Exists.elim (qrv (c := c) l ks) fun es hq => ?_
      have hes := hq.1
      have hel := hq.2
      clear hq
      generalize qqX c (w0 c l) ks = W at *
      have hWl : (W.ws.length : Int) ≤ 100000 := by rw [hlens.1]; unfold qiP; omega
      repeat' (first | (show ER _ _ _ _ _ _ _; first | refine .seq ?_ | refine .reg ?_ | refine .yes rfl ?_ | refine .no rfl ?_ | refine .skip ?_ | refine .block ?_ | refine .endB ?_ | refine .exit rfl ?_ | refine .br rfl (fun hc => ?_) (fun hc => ?_) | refine .scope ?_ | refine .inScope ?_ | refine .label ?_ | refine .ret rfl ?_ | refine .nil rfl ?_) | (show EG _ _ _ _ _ _ _ _ _; first | refine .mov rfl rfl ?_ | refine .lload rfl rfl rfl rfl ?_ | refine .laddr rfl rfl rfl ?_ | (show EG _ _ (⟨_, .bin _ _ _, _, _⟩ :: _) _ _ _ _ _ _; first | refine .lssT rfl rfl rfl (by omega) ?_ | refine .lssF rfl rfl rfl (by omega) ?_ | refine .leq rfl rfl rfl (fun hc => ?_) (fun hc => ?_) | refine .gtr rfl rfl rfl (fun hc => ?_) (fun hc => ?_) | refine .geq rfl rfl rfl (fun hc => ?_) (fun hc => ?_) | refine .eql rfl rfl rfl (fun hc => ?_) (fun hc => ?_) | refine .neq rfl rfl rfl (fun hc => ?_) (fun hc => ?_)) | refine .skip rfl ?_ | refine .fin ?_ | refine .go rfl rfl rfl ?_ | refine .gono rfl rfl rfl ?_ | refine .skipn rfl ?_))
      refine .loop (fun n f H => ∃ (i : Nat), n + i = W.ws.length ∧ f = [(7, qke A), (8, qke B), (11, N i)] ∧ WView H [ca.P, cb.P] c ca A W pa Ma aka akh atv ahv ∧ WView H [ca.P, cb.P] c cb B W pb M ka kh tv hv ∧ IsC H ca W.ws W.bs ∧ IsC H cb W.ws W.bs) (n := W.ws.length)
       ⟨0, rfl, rfl, Va', Vb, Ca, Cb⟩ ?_
      clear Va' Vb Ca Cb hn hi hil
      rintro n f H ⟨i, hn, rfl, Va, Vb, Ca, Cb⟩ next
      have a1 := Va.cells
      have a2 := qi8 (lo := 0) Ca
      by_cases hi : i < W.ws.length
      ·refine Exists.elim (qi2 (lo := 0) Ca (Nat.zero_le _) (i : Nat)) fun H2 hq => ?_
       have hL2 := hq.1
       have Ca2 := hq.2.1
       have o2 := hq.2.2
       clear hq
       have Cb2 := Cb.chg (Chg.of o2) nab
       have Va2 := Va.keep (H' := H2) fun x _ hx => o2.same x fun q => hx (by simp only [List.mem_cons, List.not_mem_nil, or_false] at q ⊢; exact .inl q)
       have Vb2 := Vb.keep (H' := H2) fun x _ hx => o2.same x fun q => hx (by simp only [List.mem_cons, List.not_mem_nil, or_false] at q ⊢; exact .inl q)
       have b1 := Vb2.cells
       refine Exists.elim (qi2 (lo := 0) Cb2 (Nat.zero_le _) (i : Nat)) fun H3 hq => ?_
       have hL3 := hq.1
       have Cb3 := hq.2.1
       have o3 := hq.2.2
       clear hq
       have Ca3 := Ca2.chg (Chg.of o3) nba
       have Va3 := Va2.keep (H' := H3) fun x _ hx => o3.same x fun q => hx (by simp only [List.mem_cons, List.not_mem_nil, or_false] at q ⊢; exact .inr q)
       have Vb3 := Vb2.keep (H' := H3) fun x _ hx => o3.same x fun q => hx (by simp only [List.mem_cons, List.not_mem_nil, or_false] at q ⊢; exact .inr q)
       generalize qiS W.ws (i : Nat) = wi at hL2 hL3
       repeat' (first | (show ER _ _ _ _ _ _ _; first | refine .seq ?_ | refine .reg ?_ | refine .yes rfl ?_ | refine .no rfl ?_ | refine .skip ?_ | refine .block ?_ | refine .endB ?_ | refine .exit rfl ?_ | refine .br rfl (fun hc => ?_) (fun hc => ?_) | refine .scope ?_ | refine .inScope ?_ | refine .label ?_ | refine .ret rfl ?_ | refine .nil rfl ?_) | (show EG _ _ _ _ _ _ _ _ _; first | refine .mov rfl rfl ?_ | refine .lload rfl rfl rfl rfl ?_ | refine .laddr rfl rfl rfl ?_ | (show EG _ _ (⟨_, .bin _ _ _, _, _⟩ :: _) _ _ _ _ _ _; first | refine .lssT rfl rfl rfl (by omega) ?_ | refine .lssF rfl rfl rfl (by omega) ?_ | refine .leq rfl rfl rfl (fun hc => ?_) (fun hc => ?_) | refine .gtr rfl rfl rfl (fun hc => ?_) (fun hc => ?_) | refine .geq rfl rfl rfl (fun hc => ?_) (fun hc => ?_) | refine .eql rfl rfl rfl (fun hc => ?_) (fun hc => ?_) | refine .neqT rfl rfl rfl (by omega) ?_ | refine .neqF rfl rfl rfl (by omega) ?_ | refine .addN rfl rfl rfl (by omega) ?_ | refine .addN (b := 1) rfl rfl rfl (by omega) ?_ | refine .subN rfl rfl rfl (by omega) ?_ | refine .subN (b := 1) rfl rfl rfl (by omega) ?_) | (show EG _ _ (⟨_, .call _ _, _, _⟩ :: _) _ _ _ _ _ _; first | refine .call rfl rfl (a1) ?_ | refine .call rfl rfl (a2) ?_ | refine .call rfl rfl (hL2) ?_ | refine .call rfl rfl (b1) ?_ | refine .call rfl rfl (hL3) ?_) | refine .skip rfl ?_ | refine .fin ?_ | refine .go rfl rfl rfl ?_ | refine .gono rfl rfl rfl ?_ | refine .skipn rfl ?_))
       exact next (n - 1) _ _ (by omega) ⟨i + 1, by omega, rfl, Va3, Vb3, Ca3, Cb3⟩
      ·have hevl : W.evs.length ≤ 100000 := by rw [hes, qqe]; omega
       refine Exists.elim (Va.history hevl) fun x hq => Exists.elim hq fun H2 hq => ?_
       have h1 := hq.1
       have e1 := hq.2.1
       have s1 := hq.2.2
       clear hq
       have Va2 := Va.keep (H' := H2) fun x hx _ => e1.2 x hx
       have Vb2 := Vb.keep (H' := H2) fun x hx _ => e1.2 x hx
       refine Exists.elim (Vb2.history hevl) fun y hq => Exists.elim hq fun H3 hq => ?_
       have h2 := hq.1
       have e2 := hq.2.1
       have s2 := hq.2.2
       clear hq
       have s1 := s1.ext e2
       rw [hes] at s1 s2
       have hE := qqi 0 s1 s2 (by omega)
       have Va3 := Va2.keep (H' := H3) fun x hx _ => e2.2 x hx
       have Vb3 := Vb2.keep (H' := H3) fun x hx _ => e2.2 x hx
       have d1 := Va3.done hpa
       have d2 := Vb3.done hpb
       generalize doneW W = dn at d1 d2
       cases dn
       all_goals
        repeat' (first | (show ER _ _ _ _ _ _ _; first | refine .seq ?_ | refine .reg ?_ | refine .yes rfl ?_ | refine .no rfl ?_ | refine .skip ?_ | refine .block ?_ | refine .endB ?_ | refine .exit rfl ?_ | refine .br rfl (fun hc => ?_) (fun hc => ?_) | refine .scope ?_ | refine .inScope ?_ | refine .label ?_ | refine .ret rfl ?_ | refine .nil rfl ?_) | (show EG _ _ _ _ _ _ _ _ _; first | refine .mov rfl rfl ?_ | refine .lload rfl rfl rfl rfl ?_ | refine .laddr rfl rfl rfl ?_ | (show EG _ _ (⟨_, .bin _ _ _, _, _⟩ :: _) _ _ _ _ _ _; first | refine .lssT rfl rfl rfl (by omega) ?_ | refine .lssF rfl rfl rfl (by omega) ?_ | refine .leq rfl rfl rfl (fun hc => ?_) (fun hc => ?_) | refine .gtr rfl rfl rfl (fun hc => ?_) (fun hc => ?_) | refine .geq rfl rfl rfl (fun hc => ?_) (fun hc => ?_) | refine .eql rfl rfl rfl (fun hc => ?_) (fun hc => ?_) | refine .neq rfl rfl rfl (fun hc => ?_) (fun hc => ?_)) | (show EG _ _ (⟨_, .call _ _, _, _⟩ :: _) _ _ _ _ _ _; first | refine .call rfl rfl (a1) ?_ | refine .call rfl rfl (a2) ?_ | refine .call rfl rfl (h1) ?_ | refine .call rfl rfl (h2) ?_ | refine .call rfl rfl (hE) ?_ | refine .call rfl rfl (d1) ?_ | refine .call rfl rfl (d2) ?_ | refine .call rfl rfl (qiI _ _) ?_) | refine .eqbb rfl rfl rfl ?_ | refine .skip rfl ?_ | refine .fin ?_ | refine .go rfl rfl rfl ?_ | refine .gono rfl rfl rfl ?_ | refine .skipn rfl ?_))
        rfl
    ·have hno : ¬ c.may ∨ c.T < (l.length : Int) := by
      by_cases hm : c.may
      ·exact .inr (by have : ¬ (l.length : Int) ≤ c.T := fun q => hok ⟨hm, q⟩; omega)
      ·exact .inl hm
     have hR := qrp (w := w) hv hno
     have hN := qqW hv hno
     subst hve hwe
     refine qii rfl Fn.zcs rfl rfl ?_
     repeat' (first | (show ER _ _ _ _ _ _ _; first | refine .seq ?_ | refine .reg ?_ | refine .yes rfl ?_ | refine .no rfl ?_ | refine .skip ?_ | refine .block ?_ | refine .endB ?_ | refine .exit rfl ?_ | refine .br rfl (fun hc => ?_) (fun hc => ?_) | refine .scope ?_ | refine .inScope ?_ | refine .label ?_ | refine .ret rfl ?_ | refine .nil rfl ?_) | (show EG _ _ _ _ _ _ _ _ _; first | refine .mov rfl rfl ?_ | refine .lload rfl rfl rfl rfl ?_ | refine .laddr rfl rfl rfl ?_ | (show EG _ _ (⟨_, .bin _ _ _, _, _⟩ :: _) _ _ _ _ _ _; first | refine .lss rfl rfl rfl (fun hc => ?_) (fun hc => ?_) | refine .leq rfl rfl rfl (fun hc => ?_) (fun hc => ?_) | refine .gtr rfl rfl rfl (fun hc => ?_) (fun hc => ?_) | refine .geq rfl rfl rfl (fun hc => ?_) (fun hc => ?_) | refine .eql rfl rfl rfl (fun hc => ?_) (fun hc => ?_) | refine .neqT rfl rfl rfl (by omega) ?_ | refine .neqF rfl rfl rfl (by omega) ?_) | (show EG _ _ (⟨_, .call _ _, _, _⟩ :: _) _ _ _ _ _ _; first | refine .call rfl rfl (qiI _ _) ?_ | refine .call rfl rfl (hSm) ?_ | refine .call rfl rfl (hR) ?_ | refine .call rfl rfl (hN) ?_) | refine .skip rfl ?_ | refine .fin ?_ | refine .go rfl rfl rfl ?_ | refine .gono rfl rfl rfl ?_ | refine .skipn rfl ?_))
     rfl
 obtain ⟨u, h', h1, rfl⟩ := key
 exact ⟨h', h1⟩
end Go.Proofs.YtojjkphkfpeimaaGreat

