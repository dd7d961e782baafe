/- WorldPinned, as the program runs it: the run. -/
import Derived.Test.YtojjkphkfpeimaaGreatPinnedQ
set_option linter.unusedVariables false
set_option linter.unusedSimpArgs false

namespace Go.Proofs.YtojjkphkfpeimaaGreat
open Go Go.Ir

theorem WInv.tick {H H' : qab} {g : Nat → Nat} {c : Cfg} {cb : CB} {B : Nat} {w : Wst} {pb : List Nat} {M ka kh : Nat} {tv hv : Value} (h : WInv H g c cb B w pb M ka kh tv hv) (hC : IsC H' cb w.ws w.bs) (o : Only [cb.P] H H') : WInv H' g c cb B w pb M ka kh tv hv ∧ Stp (fun n => n ≠ 2) H H' g g := by
 have st : Stp (fun n => n ≠ 2) H H' g g := ⟨Nat.le_of_eq o.len.symm, fun x _ => rfl, fun x hx ht => o.same x fun q => by
  rw [List.mem_singleton] at q
  exact ht (by rw [q]; exact h.p.tc.1)⟩
 have hB := qip h.row
 exact ⟨⟨(st.same B hB (by rw [h.gB]; decide)).trans h.row, h.gB, h.p.cells' hC st (by decide) (fun i => by omega), h.ps.keep st (by decide), h.arr.keep fun q => st.same ka (h.arr.lt q) (by rw [(h.ga q).1]; decide), h.ga, h.out.keep fun q => st.same kh (h.out.lt q) (by rw [(h.gh q).1]; decide), h.gh, h.len⟩, st⟩

set_option maxHeartbeats 8000000 in
theorem qrA (c : Cfg) {h : qab} {v w : Value} {l : List (Value × List Op4)} {ks : List Int} (hv : Pgs h v l) (hw : Sl h 1 w (kcs ks)) (hl : l.length < 4611686018427387904) : ∃ h', qfV En 0 Id.zcs [.agg c.cs.toArray, v, w] h = some (.bool true, h') := by
 have key : ∃ u h', qfV En 0 Id.zcs [.agg #[I c.A, I c.S, I c.T], v, w] h = some (u, h') ∧ u = .bool true := by
  refine Exists.elim hv.sl.len fun vb hq => Exists.elim hq fun vc hve => ?_
  refine Exists.elim hw.len fun wb hq => Exists.elim hq fun wc hwe => ?_
  rw [List.length_map] at hve
  rw [qqd] at hwe
  refine Exists.elim (qqr (n0 := 20) (most := 400) 0 (by omega) (by omega) hv hw hl) fun sm hq => ?_
  have hSm := hq.1
  have hsm := hq.2
  clear hq
  cases sm with
  | false =>
    subst hve hwe
    refine qii rfl Fn.zcs rfl rfl ?_
    repeat' (first | (show ER _ _ _ _ _ _ _; first | refine .seq ?_ | refine .reg ?_ | refine .yes rfl ?_ | refine .no rfl ?_ | refine .skip ?_ | refine .block ?_ | refine .endB ?_ | refine .exit rfl ?_ | refine .br rfl (fun hc => ?_) (fun hc => ?_) | refine .scope ?_ | refine .inScope ?_ | refine .label ?_ | refine .ret rfl ?_ | refine .nil rfl ?_) | (show EG _ _ _ _ _ _ _ _ _; first | refine .mov rfl rfl ?_ | refine .lload rfl rfl rfl rfl ?_ | refine .laddr rfl rfl rfl ?_ | (show EG _ _ (⟨_, .bin _ _ _, _, _⟩ :: _) _ _ _ _ _ _; first | refine .lss rfl rfl rfl (fun hc => ?_) (fun hc => ?_) | refine .leq rfl rfl rfl (fun hc => ?_) (fun hc => ?_) | refine .gtr rfl rfl rfl (fun hc => ?_) (fun hc => ?_) | refine .geq rfl rfl rfl (fun hc => ?_) (fun hc => ?_) | refine .eql rfl rfl rfl (fun hc => ?_) (fun hc => ?_) | refine .neq rfl rfl rfl (fun hc => ?_) (fun hc => ?_)) | (show EG _ _ (⟨_, .call _ _, _, _⟩ :: _) _ _ _ _ _ _; first | refine .call rfl rfl (qiK _ _) ?_ | refine .call rfl rfl (hSm) ?_) | refine .skip rfl ?_ | refine .fin ?_ | refine .go rfl rfl rfl ?_ | refine .gono rfl rfl rfl ?_ | refine .skipn rfl ?_))
    rfl
  | true =>
    have hs := hsm rfl
    clear hsm
    by_cases hok : c.may ∧ (l.length : Int) ≤ c.T
    ·have hm := hok.1
     have hm' := hm
     unfold Cfg.may at hm'
     refine Exists.elim (show ∃ a : Nat, c.S = a from ⟨c.S.toNat, by omega⟩) fun sn hS => ?_
     refine Exists.elim (show ∃ a : Nat, c.T = a from ⟨c.T.toNat, by omega⟩) fun tn hT => ?_
     refine Exists.elim (qqq hm hv hok.2) fun H1 hq => Exists.elim hq fun g1 hq => Exists.elim hq fun B hq => Exists.elim hq fun cb hq => Exists.elim hq fun pb hq => Exists.elim hq fun M hq => Exists.elim hq fun ka hq => Exists.elim hq fun tv hq => ?_
     have hN := hq.1
     have hW1 := hq.2.1
     have hO1 := hq.2.2.1
     clear hq
     -- the row of entries that is made behind it
     have hx2 : Ext H1 (H1 ++ [Blk.row (qaM Ent.zero.cs sn) false]) := (Ext.refl H1).app _
     have hb2 : (H1 ++ [Blk.row (qaM Ent.zero.cs sn) false])[H1.length]? = some (qrw (List.replicate sn Ent.zero)) := by
      rw [List.getElem?_concat_length, qrz]; rfl
     have st2 : Stp (fun _ => True) H1 (H1 ++ [Blk.row (qaM Ent.zero.cs sn) false]) g1 (qpW H1 g1 3) := ⟨hx2.1, fun x hx => qpX hx, fun x hx _ => hx2.2 x hx⟩
     have hW2 := hW1.keep st2 trivial trivial trivial trivial (fun _ => trivial)
     have hO2 := hO1.calm (st2.calm0 trivial trivial)
     have g2 : qpW H1 g1 3 H1.length = 3 := qpY (Nat.le_refl _)
     have hpk : (qqu c (w0 c l) (ks.take 0)).pk c := qrq c l
     have hvl : Valid c (qqu c (w0 c l) (ks.take 0)).ws := qrt hm
     have hkp : qrr c (qqu c (w0 c l) (ks.take 0)).ws (List.replicate sn Ent.zero) := fun s e he => .inl (by
      rw [List.getElem?_replicate] at he
      split at he
      ·injection he with he; subst he; rfl
      ·cases he)
     have hW2 : WInv (H1 ++ [Blk.row (qaM Ent.zero.cs sn) false]) (qpW H1 g1 3) c cb B (qqu c (w0 c l) (ks.take 0)) pb M ka 0 tv (.slice none 0 0) := hW2
     have hlr : (List.replicate sn Ent.zero).length = sn := List.length_replicate
     generalize List.replicate sn Ent.zero = L0 at hb2 hkp hlr
     generalize qpW H1 g1 3 = g3 at hW2 hO2 g2
     rw [hS, hT] at hN
     subst hve hwe
     rw [hS, hT]
     refine qii rfl Fn.zcs rfl rfl ?_
     repeat' (first | (show ER _ _ _ _ _ _ _; first | refine .seq ?_ | refine .reg ?_ | refine .yes rfl ?_ | refine .no rfl ?_ | refine .skip ?_ | refine .block ?_ | refine .endB ?_ | refine .exit rfl ?_ | refine .br rfl (fun hc => ?_) (fun hc => ?_) | refine .scope ?_ | refine .inScope ?_ | refine .label ?_ | refine .ret rfl ?_ | refine .nil rfl ?_) | (show EG _ _ _ _ _ _ _ _ _; first | refine .mov rfl rfl ?_ | refine .lload rfl rfl rfl rfl ?_ | refine .laddr rfl rfl rfl ?_ | (show EG _ _ (⟨_, .bin _ _ _, _, _⟩ :: _) _ _ _ _ _ _; first | refine .lss rfl rfl rfl (fun hc => ?_) (fun hc => ?_) | refine .leq rfl rfl rfl (fun hc => ?_) (fun hc => ?_) | refine .gtr rfl rfl rfl (fun hc => ?_) (fun hc => ?_) | refine .geq rfl rfl rfl (fun hc => ?_) (fun hc => ?_) | refine .eql rfl rfl rfl (fun hc => ?_) (fun hc => ?_) | refine .neqT rfl rfl rfl (by omega) ?_ | refine .neqF rfl rfl rfl (by omega) ?_) | (show EG _ _ (⟨_, .call _ _, _, _⟩ :: _) _ _ _ _ _ _; first | refine .call rfl rfl (hSm) ?_ | refine .call rfl rfl (hN) ?_) | refine .mks rfl rfl rfl ⟨Nat.le_refl _, by omega, by decide⟩ ?_ | refine .skip rfl ?_ | refine .fin ?_ | refine .go rfl rfl rfl ?_ | refine .gono rfl rfl rfl ?_ | refine .skipn rfl ?_))
     refine .loop (fun n f H => ∃ (i : Nat) (g : Nat → Nat) (M kh : Nat) (hv : Value) (L : List Ent), n + i = ks.length ∧ f = [(2, .slice wb ks.length wc), (3, .agg #[I c.A, N sn, N tn]), (7, qki B), (9, .slice (some ⟨H1.length, 0, none⟩) sn sn), (10, N i)] ∧
      WInv H g c cb B (qqu c (w0 c l) (ks.take i)) pb M ka kh tv hv ∧ Old h H g ∧ g H1.length = 3 ∧ H[H1.length]? = some (qrw L) ∧ L.length = sn ∧ (qqu c (w0 c l) (ks.take i)).pk c ∧ Valid c (qqu c (w0 c l) (ks.take i)).ws ∧ qrr c (qqu c (w0 c l) (ks.take i)).ws L) (n := ks.length)
      ⟨0, g3, M, 0, _, L0, rfl, rfl, hW2, hO2, g2, hb2, hlr, hpk, hvl, hkp⟩ ?_
     clear hW1 hO1 hN hSm hW2 hO2 g2 hb2 hlr hpk hvl hkp hx2 st2
     rintro n f H ⟨i, g, M, kh, hv, L, hn, rfl, hW, hO, hg, hb, hL, hpk, hvl, hkp⟩ next
     by_cases hi : i < ks.length
     ·have hgi : ks[i]? = some ks[i] := List.getElem?_eq_getElem hi
      generalize ks[i] = q at hgi
      refine Exists.elim (qqe (hw.ext hO.ext) hgi) fun ad hq => Exists.elim hq fun cap' hq => ?_
      have hva := hq.1
      have I0 := hq.2
      clear hq
      injection hva with e1 e2 e3
      subst e1
      have hev := qqx c (w0 c l) (ks.take i)
      have h30 : (ks.take i).length ≤ 1000 := by rw [List.length_take]; omega
      have h00 : (w0 c l).evs.length = 0 := rfl
      refine Exists.elim (qqp hm hW q (by omega)) fun H2 hq => Exists.elim hq fun g2 hq => Exists.elim hq fun M2 hq => Exists.elim hq fun kh2 hq => Exists.elim hq fun hv2 hq => ?_
      have hP := hq.1
      have hW2 := hq.2.1
      have hc2 := hq.2.2
      clear hq
      have htr := qrp (by omega) hpk q
      rw [← qqv hgi] at hW2 htr
      have hvl2 := hvl.tr htr.1
      have hbl := qip hb
      have hb2 : H2[H1.length]? = some (qrw L) := ((hc2.2 _ hbl).2 (.inr hg)).trans hb
      have hg2 : g2 H1.length = 3 := (hc2.2 _ hbl).1.trans hg
      have hO2 := hO.calm hc2
      generalize (qqn c (qqu c (w0 c l) (ks.take i)) q).2 = pr at hP
      generalize qqu c (w0 c l) (ks.take i) = W1 at *
      generalize hWe : qqu c (w0 c l) (ks.take (i + 1)) = W2 at hW2 htr hvl2
      repeat' (first | (show ER _ _ _ _ _ _ _; first | refine .seq ?_ | refine .reg ?_ | refine .yes rfl ?_ | refine .no rfl ?_ | refine .skip ?_ | refine .block ?_ | refine .endB ?_ | refine .exit rfl ?_ | refine .br rfl (fun hc => ?_) (fun hc => ?_) | refine .scope ?_ | refine .inScope ?_ | refine .label ?_ | refine .ret rfl ?_ | refine .nil rfl ?_) | (show EG _ _ _ _ _ _ _ _ _; first | refine .mov rfl rfl ?_ | refine .lload rfl rfl rfl rfl ?_ | refine .laddr rfl rfl rfl ?_ | (show EG _ _ (⟨_, .bin _ _ _, _, _⟩ :: _) _ _ _ _ _ _; first | refine .lssT rfl rfl rfl (by omega) ?_ | refine .lssF rfl rfl rfl (by omega) ?_ | refine .leq rfl rfl rfl (fun hc => ?_) (fun hc => ?_) | refine .gtr rfl rfl rfl (fun hc => ?_) (fun hc => ?_) | refine .geq rfl rfl rfl (fun hc => ?_) (fun hc => ?_) | refine .eql rfl rfl rfl (fun hc => ?_) (fun hc => ?_) | refine .neq rfl rfl rfl (fun hc => ?_) (fun hc => ?_)) | refine .load rfl rfl (I0) ?_ | refine .call rfl rfl (hP) ?_ | refine .iaddr rfl rfl rfl (hi) ?_ | refine .skip rfl ?_ | refine .fin ?_ | refine .go rfl rfl rfl ?_ | refine .gono rfl rfl rfl ?_ | refine .skipn rfl ?_))
      refine .loop (fun m f H => ∃ (s : Nat) (g : Nat → Nat) (L : List Ent), m + s = sn ∧ f = [(2, .slice (some ad) ks.length wc), (3, .agg #[I c.A, N sn, N tn]), (7, qki B), (9, .slice (some ⟨H1.length, 0, none⟩) sn sn), (10, N i), (11, N s)] ∧
       WInv H g c cb B W2 pb M2 ka kh2 tv hv2 ∧ Old h H g ∧ g H1.length = 3 ∧ H[H1.length]? = some (qrw L) ∧ L.length = sn ∧
       (∀ (t : Nat) e, t < s → L[t]? = some e → qj0 (qiV W2.ws (qjm c t 0)) = some e) ∧ (∀ (t : Nat) e, s ≤ t → L[t]? = some e → e.p = 0 ∨ qj0 (qiV W1.ws (qjm c t 0)) = some e)) (n := sn)
       ⟨0, g2, L, rfl, rfl, hW2, hO2, hg2, hb2, hL, fun t e ht => absurd ht (Nat.not_lt_zero _), fun t e _ he => hkp t e he⟩ ?_
      clear hW2 hO2 hg2 hb2 hP I0 hc2 hbl hb hg hL hO hW hkp
      rintro m f H ⟨s, g, L, hms, rfl, hW, hO, hg, hb, hL, hlo, hhi⟩ nexts
      by_cases hss : s < sn
      ·have hgs : L[s]? = some L[s] := List.getElem?_eq_getElem (by omega)
       generalize L[s] = e at hgs
       have hsS : (s : Int) < c.S := by omega
       refine Exists.elim (hvl2 s hsS) fun x hx => ?_
       have hCl := qqt hW 0
       refine Exists.elim (qi4 (lo := 0) hW.p.cells (Nat.zero_le _) (qjm c s 0)) fun H3 hq => ?_
       have hLd := hq.1
       have hC3 := hq.2.1
       have ho3 := hq.2.2
       clear hq
       have hti := hW.tick hC3 ho3
       have hW3 := hti.1
       have hbl := qip hb
       have hb3 : H3[H1.length]? = some (qrw L) := (hti.2.same _ hbl (by rw [hg]; decide)).trans hb
       have hO3 := hO.calm (hti.2.calm0 (by decide) (by decide))
       have hUn := fun lo h => qlF lo h (qiV W2.ws (qjm c s 0))
       rw [hx] at hUn
       have hUn : ∀ lo h, qfV En lo Id.zcv [I (qiV W2.ws (qjm c s 0))] h = some (.tuple #[.agg x.cs.toArray, I 0], h) := hUn
       have hld := qrx hb3 hgs
       have hst := qry hb3 hgs (x := x)
       have hl2 : ∀ (t : Nat), t < sn → t ≠ s → (L.set s x)[t]? = L[t]? := fun t _ ht => List.getElem?_set_ne (Ne.symm ht)
       have hs2 : (L.set s x)[s]? = some x := List.getElem?_set_self (by omega)
       have hsl : (L.set s x).length = sn := by rw [List.length_set]; exact hL
       have st4 : Stp (fun n => n ≠ 3) H3 (H3.set H1.length (qrw (L.set s x))) g g := ⟨by simp, fun x _ => rfl, fun x hx ht => List.getElem?_set_ne fun e => ht (by rw [← e]; exact hg)⟩
       have hW4 := hW3.keep st4 (by decide) (by decide) (by decide) (by decide) (fun i => by omega)
       have hO4 : Old h (H3.set H1.length (qrw (L.set s x))) g := ⟨by rw [List.length_set]; exact hO3.1, fun y hy => ⟨(hO3.2 y hy).1, by
        rw [List.getElem?_set_ne fun e => by have := (hO3.2 y hy).1; rw [← e, hg] at this; omega]
        exact (hO3.2 y hy).2⟩⟩
       have hb4 : (H3.set H1.length (qrw (L.set s x)))[H1.length]? = some (qrw (L.set s x)) := qim (qip hb3)
       generalize H3.set H1.length (qrw (L.set s x)) = HX at hst hW4 hO4 hb4 st4
       have hcont : ∃ (s' : Nat) (g : Nat → Nat) (L : List Ent), m - 1 + s' = sn ∧ [(2, Value.slice (some ad) ks.length wc), (3, .agg #[I c.A, N sn, N tn]), (7, qki B), (9, .slice (some ⟨H1.length, 0, none⟩) sn sn), (10, N i), (11, N (s + 1))] = [(2, Value.slice (some ad) ks.length wc), (3, .agg #[I c.A, N sn, N tn]), (7, qki B), (9, .slice (some ⟨H1.length, 0, none⟩) sn sn), (10, N i), (11, N s')] ∧
        WInv HX g c cb B W2 pb M2 ka kh2 tv hv2 ∧ Old h HX g ∧ g H1.length = 3 ∧ HX[H1.length]? = some (qrw L) ∧ L.length = sn ∧
        (∀ (t : Nat) e, t < s' → L[t]? = some e → qj0 (qiV W2.ws (qjm c t 0)) = some e) ∧ (∀ (t : Nat) e, s' ≤ t → L[t]? = some e → e.p = 0 ∨ qj0 (qiV W1.ws (qjm c t 0)) = some e) := by
        refine ⟨s + 1, g, L.set s x, by omega, rfl, hW4, hO4, hg, hb4, hsl, fun t y ht hy => ?_, fun t y ht hy => ?_⟩
        ·by_cases hts : t = s
         ·subst hts
          rw [hs2] at hy
          injection hy with hy
          subst hy
          exact hx
         ·rw [hl2 t (by omega) hts] at hy
          exact hlo t y (by omega) hy
        ·have := (List.getElem?_eq_some_iff.1 hy).1
         rw [hl2 t (by omega) (by omega)] at hy
         exact hhi t y (by omega) hy
       have hpl : 0 < x.p → 0 < e.p → x.o = e.o ∧ x.g = e.g := fun h1 h2 => by
        have hw1 : qj0 (qiV W1.ws (qjm c s 0)) = some e := (hhi s e (Nat.le_refl _) hgs).resolve_left (by omega)
        have hk1 : qrr c W1.ws (List.replicate s Ent.zero ++ [e]) := fun t y hy => by
         by_cases hts : t < s
         ·rw [List.getElem?_append_left (by rw [List.length_replicate]; exact hts), List.getElem?_replicate, if_pos hts] at hy
          injection hy with hy
          subst hy
          exact .inl rfl
         ·have h3 := (List.getElem?_eq_some_iff.1 hy).1
          rw [List.length_append, List.length_replicate, List.length_singleton] at h3
          have h4 : t = s := by omega
          subst h4
          rw [List.getElem?_append_right (by rw [List.length_replicate]; exact Nat.le_refl _), List.length_replicate, Nat.sub_self] at hy
          injection hy with hy
          subst hy
          exact .inr hw1
        exact qru hk1 htr.1 hsS (by rw [List.getElem?_append_right (by rw [List.length_replicate]; exact Nat.le_refl _), List.length_replicate, Nat.sub_self]; rfl) hx h1 h2
       have hlk := fun h => qrv hx h
       have hix : ((4 + tn + 3 * s : Nat) : Int) = qjm c s 0 := by
        unfold qjm
        rw [if_pos ⟨by omega, hsS⟩]
        omega
       rw [← hix] at hLd hUn
       clear hW4 hO4 hb4 st4 hl2 hs2 hsl hti hW3 hO3 hC3 ho3 hx hvl hlo hhi htr hWe
       obtain ⟨xo, xg, xp, xu, xk, xv⟩ := x
       simp only at hpl hlk
       have L0 := hld.1
       have L1 := hld.2.1
       have L2 := hld.2.2
       generalize qiV W2.ws ((4 + tn + 3 * s : Nat) : Int) = wd at hLd hUn
       by_cases hp : 0 < xp
       ·have hk := hlk hp
        subst hk
        by_cases he : 0 < e.p
        ·have ho := (hpl hp he).1
         have hgn := (hpl hp he).2
         repeat' (first | (show ER _ _ _ _ _ _ _; first | refine .seq ?_ | refine .reg ?_ | refine .yes rfl ?_ | refine .no rfl ?_ | refine .skip ?_ | refine .block ?_ | refine .endB ?_ | refine .exit rfl ?_ | refine .br rfl (fun hc => ?_) (fun hc => ?_) | refine .scope ?_ | refine .inScope ?_ | refine .label ?_ | refine .ret rfl ?_ | refine .nil rfl ?_) | (show EG _ _ _ _ _ _ _ _ _; first | refine .mov rfl rfl ?_ | refine .lload rfl rfl rfl rfl ?_ | refine .laddr rfl rfl rfl ?_ | (show EG _ _ (⟨_, .bin _ _ _, _, _⟩ :: _) _ _ _ _ _ _; first | refine .lssT rfl rfl rfl (by omega) ?_ | refine .lssF rfl rfl rfl (by omega) ?_ | refine .leq rfl rfl rfl (fun hc => ?_) (fun hc => ?_) | refine .gtrT rfl rfl rfl (by omega) ?_ | refine .gtrF rfl rfl rfl (by omega) ?_ | refine .geq rfl rfl rfl (fun hc => ?_) (fun hc => ?_) | refine .eql rfl rfl rfl (fun hc => ?_) (fun hc => ?_) | refine .neqT rfl rfl rfl (by omega) ?_ | refine .neqF rfl rfl rfl (by omega) ?_ | refine .addN rfl rfl rfl (by omega) ?_ | refine .addN (b := 1) rfl rfl rfl (by omega) ?_ | refine .subN rfl rfl rfl (by omega) ?_ | refine .subN (b := 1) rfl rfl rfl (by omega) ?_) | (show EG _ _ (⟨_, .load _ _, _, _⟩ :: _) _ _ _ _ _ _; first | refine .load rfl rfl (L0) ?_ | refine .load rfl rfl (L1) ?_ | refine .load rfl rfl (L2) ?_) | (show EG _ _ (⟨_, .call _ _, _, _⟩ :: _) _ _ _ _ _ _; first | refine .call rfl rfl (hCl) ?_ | refine .call rfl rfl (hLd) ?_ | refine .call rfl rfl (hUn _ _) ?_) | refine .iaddr rfl rfl rfl (hss) ?_ | refine .mulN (a := 3) rfl rfl rfl (by omega) ?_ | refine .addN (a := 4) rfl rfl rfl (by omega) ?_ | refine .store rfl rfl rfl rfl rfl hst ?_ | refine .skip rfl ?_ | refine .fin ?_ | refine .go rfl rfl rfl ?_ | refine .gono rfl rfl rfl ?_ | refine .skipn rfl ?_))
         exact nexts (m - 1) _ _ (by omega) hcont
        ·repeat' (first | (show ER _ _ _ _ _ _ _; first | refine .seq ?_ | refine .reg ?_ | refine .yes rfl ?_ | refine .no rfl ?_ | refine .skip ?_ | refine .block ?_ | refine .endB ?_ | refine .exit rfl ?_ | refine .br rfl (fun hc => ?_) (fun hc => ?_) | refine .scope ?_ | refine .inScope ?_ | refine .label ?_ | refine .ret rfl ?_ | refine .nil rfl ?_) | (show EG _ _ _ _ _ _ _ _ _; first | refine .mov rfl rfl ?_ | refine .lload rfl rfl rfl rfl ?_ | refine .laddr rfl rfl rfl ?_ | (show EG _ _ (⟨_, .bin _ _ _, _, _⟩ :: _) _ _ _ _ _ _; first | refine .lssT rfl rfl rfl (by omega) ?_ | refine .lssF rfl rfl rfl (by omega) ?_ | refine .leq rfl rfl rfl (fun hc => ?_) (fun hc => ?_) | refine .gtrT rfl rfl rfl (by omega) ?_ | refine .gtrF rfl rfl rfl (by omega) ?_ | refine .geq rfl rfl rfl (fun hc => ?_) (fun hc => ?_) | refine .eql rfl rfl rfl (fun hc => ?_) (fun hc => ?_) | refine .neqT rfl rfl rfl (by omega) ?_ | refine .neqF rfl rfl rfl (by omega) ?_ | refine .addN rfl rfl rfl (by omega) ?_ | refine .addN (b := 1) rfl rfl rfl (by omega) ?_ | refine .subN rfl rfl rfl (by omega) ?_ | refine .subN (b := 1) rfl rfl rfl (by omega) ?_) | (show EG _ _ (⟨_, .load _ _, _, _⟩ :: _) _ _ _ _ _ _; first | refine .load rfl rfl (L0) ?_ | refine .load rfl rfl (L1) ?_ | refine .load rfl rfl (L2) ?_) | (show EG _ _ (⟨_, .call _ _, _, _⟩ :: _) _ _ _ _ _ _; first | refine .call rfl rfl (hCl) ?_ | refine .call rfl rfl (hLd) ?_ | refine .call rfl rfl (hUn _ _) ?_) | refine .iaddr rfl rfl rfl (hss) ?_ | refine .mulN (a := 3) rfl rfl rfl (by omega) ?_ | refine .addN (a := 4) rfl rfl rfl (by omega) ?_ | refine .store rfl rfl rfl rfl rfl hst ?_ | refine .skip rfl ?_ | refine .fin ?_ | refine .go rfl rfl rfl ?_ | refine .gono rfl rfl rfl ?_ | refine .skipn rfl ?_))
         exact nexts (m - 1) _ _ (by omega) hcont
       ·repeat' (first | (show ER _ _ _ _ _ _ _; first | refine .seq ?_ | refine .reg ?_ | refine .yes rfl ?_ | refine .no rfl ?_ | refine .skip ?_ | refine .block ?_ | refine .endB ?_ | refine .exit rfl ?_ | refine .br rfl (fun hc => ?_) (fun hc => ?_) | refine .scope ?_ | refine .inScope ?_ | refine .label ?_ | refine .ret rfl ?_ | refine .nil rfl ?_) | (show EG _ _ _ _ _ _ _ _ _; first | refine .mov rfl rfl ?_ | refine .lload rfl rfl rfl rfl ?_ | refine .laddr rfl rfl rfl ?_ | (show EG _ _ (⟨_, .bin _ _ _, _, _⟩ :: _) _ _ _ _ _ _; first | refine .lssT rfl rfl rfl (by omega) ?_ | refine .lssF rfl rfl rfl (by omega) ?_ | refine .leq rfl rfl rfl (fun hc => ?_) (fun hc => ?_) | refine .gtrT rfl rfl rfl (by omega) ?_ | refine .gtrF rfl rfl rfl (by omega) ?_ | refine .geq rfl rfl rfl (fun hc => ?_) (fun hc => ?_) | refine .eql rfl rfl rfl (fun hc => ?_) (fun hc => ?_) | refine .neqT rfl rfl rfl (by omega) ?_ | refine .neqF rfl rfl rfl (by omega) ?_ | refine .addN rfl rfl rfl (by omega) ?_ | refine .addN (b := 1) rfl rfl rfl (by omega) ?_ | refine .subN rfl rfl rfl (by omega) ?_ | refine .subN (b := 1) rfl rfl rfl (by omega) ?_) | (show EG _ _ (⟨_, .load _ _, _, _⟩ :: _) _ _ _ _ _ _; first | refine .load rfl rfl (L0) ?_ | refine .load rfl rfl (L1) ?_ | refine .load rfl rfl (L2) ?_) | (show EG _ _ (⟨_, .call _ _, _, _⟩ :: _) _ _ _ _ _ _; first | refine .call rfl rfl (hCl) ?_ | refine .call rfl rfl (hLd) ?_ | refine .call rfl rfl (hUn _ _) ?_) | refine .iaddr rfl rfl rfl (hss) ?_ | refine .mulN (a := 3) rfl rfl rfl (by omega) ?_ | refine .addN (a := 4) rfl rfl rfl (by omega) ?_ | refine .store rfl rfl rfl rfl rfl hst ?_ | refine .skip rfl ?_ | refine .fin ?_ | refine .go rfl rfl rfl ?_ | refine .gono rfl rfl rfl ?_ | refine .skipn rfl ?_))
        exact nexts (m - 1) _ _ (by omega) hcont
      ·repeat' (first | (show ER _ _ _ _ _ _ _; first | refine .seq ?_ | refine .reg ?_ | refine .yes rfl ?_ | refine .no rfl ?_ | refine .skip ?_ | refine .block ?_ | refine .endB ?_ | refine .exit rfl ?_ | refine .br rfl (fun hc => ?_) (fun hc => ?_) | refine .scope ?_ | refine .inScope ?_ | refine .label ?_ | refine .ret rfl ?_ | refine .nil rfl ?_) | (show EG _ _ _ _ _ _ _ _ _; first | refine .mov rfl rfl ?_ | refine .lload rfl rfl rfl rfl ?_ | refine .laddr rfl rfl rfl ?_ | (show EG _ _ (⟨_, .bin _ _ _, _, _⟩ :: _) _ _ _ _ _ _; first | refine .lssT rfl rfl rfl (by omega) ?_ | refine .lssF rfl rfl rfl (by omega) ?_ | refine .leq rfl rfl rfl (fun hc => ?_) (fun hc => ?_) | refine .gtr rfl rfl rfl (fun hc => ?_) (fun hc => ?_) | refine .geq rfl rfl rfl (fun hc => ?_) (fun hc => ?_) | refine .eql rfl rfl rfl (fun hc => ?_) (fun hc => ?_) | refine .neq rfl rfl rfl (fun hc => ?_) (fun hc => ?_) | refine .addN rfl rfl rfl (by omega) ?_ | refine .addN (b := 1) rfl rfl rfl (by omega) ?_ | refine .subN rfl rfl rfl (by omega) ?_ | refine .subN (b := 1) rfl rfl rfl (by omega) ?_) | refine .skip rfl ?_ | refine .fin ?_ | refine .go rfl rfl rfl ?_ | refine .gono rfl rfl rfl ?_ | refine .skipn rfl ?_))
       refine next (n - 1) _ _ (by omega) ⟨i + 1, g, M2, kh2, hv2, L, by omega, rfl, by rw [hWe]; exact hW, hO, hg, hb, hL, by rw [hWe]; exact htr.2, by rw [hWe]; exact hvl2, fun t e he => ?_⟩
       rw [hWe]
       have := (List.getElem?_eq_some_iff.1 he).1
       exact .inr (hlo t e (by omega) he)
     ·repeat' (first | (show ER _ _ _ _ _ _ _; first | refine .seq ?_ | refine .reg ?_ | refine .yes rfl ?_ | refine .no rfl ?_ | refine .skip ?_ | refine .block ?_ | refine .endB ?_ | refine .exit rfl ?_ | refine .br rfl (fun hc => ?_) (fun hc => ?_) | refine .scope ?_ | refine .inScope ?_ | refine .label ?_ | refine .ret rfl ?_ | refine .nil rfl ?_) | (show EG _ _ _ _ _ _ _ _ _; first | refine .mov rfl rfl ?_ | refine .lload rfl rfl rfl rfl ?_ | refine .laddr rfl rfl rfl ?_ | (show EG _ _ (⟨_, .bin _ _ _, _, _⟩ :: _) _ _ _ _ _ _; first | refine .lssT rfl rfl rfl (by omega) ?_ | refine .lssF rfl rfl rfl (by omega) ?_ | refine .leq rfl rfl rfl (fun hc => ?_) (fun hc => ?_) | refine .gtr rfl rfl rfl (fun hc => ?_) (fun hc => ?_) | refine .geq rfl rfl rfl (fun hc => ?_) (fun hc => ?_) | refine .eql rfl rfl rfl (fun hc => ?_) (fun hc => ?_) | refine .neq rfl rfl rfl (fun hc => ?_) (fun hc => ?_)) | refine .call rfl rfl (qiK _ _) ?_ | refine .skip rfl ?_ | refine .fin ?_ | refine .go rfl rfl rfl ?_ | refine .gono rfl rfl rfl ?_ | refine .skipn rfl ?_))
      rfl
    ·have hno : ¬ c.may ∨ c.T < (l.length : Int) := by
      by_cases hm : c.may
      ·exact .inr (by have : ¬ (l.length : Int) ≤ c.T := fun q => hok ⟨hm, q⟩; omega)
      ·exact .inl hm
     have hN := qqs hv hno
     have hM := fun lo => qiR lo h c
     rw [Cfg.cs] at hM
     subst hve hwe
     refine qii rfl Fn.zcs rfl rfl ?_
     by_cases hm : c.may
     ·rw [decide_eq_true hm] at hM
      have hT : c.T < (l.length : Int) := hno.resolve_left (fun q => q hm)
      repeat' (first | (show ER _ _ _ _ _ _ _; first | refine .seq ?_ | refine .reg ?_ | refine .yes rfl ?_ | refine .no rfl ?_ | refine .skip ?_ | refine .block ?_ | refine .endB ?_ | refine .exit rfl ?_ | refine .br rfl (fun hc => ?_) (fun hc => ?_) | refine .scope ?_ | refine .inScope ?_ | refine .label ?_ | refine .ret rfl ?_ | refine .nil rfl ?_) | (show EG _ _ _ _ _ _ _ _ _; first | refine .mov rfl rfl ?_ | refine .lload rfl rfl rfl rfl ?_ | refine .laddr rfl rfl rfl ?_ | (show EG _ _ (⟨_, .bin _ _ _, _, _⟩ :: _) _ _ _ _ _ _; first | refine .lss rfl rfl rfl (fun hc => ?_) (fun hc => ?_) | refine .leq rfl rfl rfl (fun hc => ?_) (fun hc => ?_) | refine .gtrT rfl rfl rfl (by omega) ?_ | refine .gtrF rfl rfl rfl (by omega) ?_ | refine .geq rfl rfl rfl (fun hc => ?_) (fun hc => ?_) | refine .eql rfl rfl rfl (fun hc => ?_) (fun hc => ?_) | refine .neqT rfl rfl rfl (by omega) ?_ | refine .neqF rfl rfl rfl (by omega) ?_) | (show EG _ _ (⟨_, .call _ _, _, _⟩ :: _) _ _ _ _ _ _; first | refine .call rfl rfl (qiK _ _) ?_ | refine .call rfl rfl (hSm) ?_ | refine .call rfl rfl (hN) ?_ | refine .call rfl rfl (hM _) ?_) | refine .skip rfl ?_ | refine .fin ?_ | refine .go rfl rfl rfl ?_ | refine .gono rfl rfl rfl ?_ | refine .skipn rfl ?_))
      rfl
     ·rw [decide_eq_false hm] at hM
      repeat' (first | (show ER _ _ _ _ _ _ _; first | refine .seq ?_ | refine .reg ?_ | refine .yes rfl ?_ | refine .no rfl ?_ | refine .skip ?_ | refine .block ?_ | refine .endB ?_ | refine .exit rfl ?_ | refine .br rfl (fun hc => ?_) (fun hc => ?_) | refine .scope ?_ | refine .inScope ?_ | refine .label ?_ | refine .ret rfl ?_ | refine .nil rfl ?_) | (show EG _ _ _ _ _ _ _ _ _; first | refine .mov rfl rfl ?_ | refine .lload rfl rfl rfl rfl ?_ | refine .laddr rfl rfl rfl ?_ | (show EG _ _ (⟨_, .bin _ _ _, _, _⟩ :: _) _ _ _ _ _ _; first | refine .lss rfl rfl rfl (fun hc => ?_) (fun hc => ?_) | refine .leq rfl rfl rfl (fun hc => ?_) (fun hc => ?_) | refine .gtrT rfl rfl rfl (by omega) ?_ | refine .gtrF rfl rfl rfl (by omega) ?_ | refine .geq rfl rfl rfl (fun hc => ?_) (fun hc => ?_) | refine .eql rfl rfl rfl (fun hc => ?_) (fun hc => ?_) | refine .neqT rfl rfl rfl (by omega) ?_ | refine .neqF rfl rfl rfl (by omega) ?_) | (show EG _ _ (⟨_, .call _ _, _, _⟩ :: _) _ _ _ _ _ _; first | refine .call rfl rfl (qiK _ _) ?_ | refine .call rfl rfl (hSm) ?_ | refine .call rfl rfl (hN) ?_ | refine .call rfl rfl (hM _) ?_) | refine .skip rfl ?_ | refine .fin ?_ | refine .go rfl rfl rfl ?_ | refine .gono rfl rfl rfl ?_ | refine .skipn rfl ?_))
      rfl
 obtain ⟨u, h', h1, rfl⟩ := key
 exact ⟨h', h1⟩
end Go.Proofs.YtojjkphkfpeimaaGreat

