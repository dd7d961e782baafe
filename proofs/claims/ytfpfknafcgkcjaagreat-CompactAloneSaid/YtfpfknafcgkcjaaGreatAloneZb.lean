/- Alone, objects lie where the plan says: the law's run. -/
import Derived.Test.YtfpfknafcgkcjaaGreatAloneZa
import Derived.Test.YtfpfknafcgkcjaaGreatAloneX

set_option linter.unusedVariables false
set_option linter.unusedSimpArgs false
namespace Go.Ir
open Go
section
variable {E : Env} {lo : Nat} {os : List IOper} {f : Fr} {h : Heap} {hs : List Heap} {k : List Item} {rs : List IRes} {Q : Value → Heap → Prop} {d : Nat} {g : Option (Nat × Bool)} {x y : Operand}
theorem EG.remI {a b r : Int} (hr : a.tmod b = r) (hw : want g f = some true) (hx : ev f x = some (.int .i64 a)) (hy : ev f y = some (.int .i64 b)) (hb : b ≠ 0) (c : EG E lo os hs k ((d, .int .i64 r) :: f) h rs Q) :
  EG E lo (⟨some d, .bin .rem x y, g, 0⟩ :: os) hs k f h rs Q := .go hw (by
   subst hr
   simp only [iop, hx, hy, ibin, isShift, ibinI, if_true, if_neg hb]
   rfl) rfl c
theorem EG.addI {a b r : Int} (hr : IntKind.i64.wrap (a + b) = r) (hw : want g f = some true) (hx : ev f x = some (.int .i64 a)) (hy : ev f y = some (.int .i64 b)) (c : EG E lo os hs k ((d, .int .i64 r) :: f) h rs Q) :
  EG E lo (⟨some d, .bin .add x y, g, 0⟩ :: os) hs k f h rs Q := .go hw (by
   subst hr
   simp only [iop, hx, hy, ibin, isShift, ibinI, if_true]
   rfl) rfl c
end
end Go.Ir
namespace Go.Proofs.YtfpfknafcgkcjaaGreat
open Go Go.Ir

theorem tmod_byte (a : Int) : ((a.tmod 256) + 256).tmod 256 = byteI a := by
 have h1 : a.tmod 256 = if 0 ≤ a then a % 256 else -((-a) % 256) := by
  split
  ·exact Int.tmod_eq_emod_of_nonneg ‹_›
  ·have := Int.neg_tmod (-a) 256
   rw [Int.neg_neg] at this
   rw [this, Int.tmod_eq_emod_of_nonneg (by omega)]
 have h2 : 0 ≤ a.tmod 256 + 256 := by rw [h1]; split <;> omega
 rw [Int.tmod_eq_emod_of_nonneg h2, h1]
 unfold byteI
 rw [IntKind.wrap_u8]
 split <;> omega

theorem sl_ld {h : Heap} {n len cap : Nat} {base : Option Addr} {es : List (List Value)} (s : Sl h n (.slice base len cap) es) {i : Nat} {e : List Value} (hi : es[i]? = some e) : ∃ a, base = some a ∧ ∀ (o : Nat) x, e[o]? = some x → loadV h none ⟨a.block, a.off + i * n + o, none⟩ = some x := by
 obtain ⟨a, cap', h1, h2⟩ := s.row (fun e => by rw [e] at hi; simp at hi)
 injection h1 with h1 _ _
 exact ⟨a, h1, (h2 i e hi).1⟩
theorem res_eq (n : Int) : ieq (.cells [(0, 0), (1, 0)]) (.agg #[I 0, I n]) (.agg #[I 0, I n]) = some true := by
 simp [ieq, eqCells, eqLeaf]

def Far (cb : CB) (v : Value) : Prop := ∀ a len cap, v = .slice (some a) len cap → a.block ∉ [cb.P, cb.W, cb.Y]
theorem far_made {cb : CB} {h : Heap} {n : Nat} {es : List (List Value)} (hl : cb.P < h.length ∧ cb.W < h.length ∧ cb.Y < h.length) : Far cb (made h n es).1 := by
 intro a len cap e
 unfold made at e
 split at e
 ·cases e
 ·injection e with e
  injection e with e
  rw [← e]
  show h.length ∉ _
  simp only [List.mem_cons, List.not_mem_nil, or_false]
  omega
theorem sl_keep {cb : CB} {H H' : Heap} {n : Nat} {v : Value} {es : List (List Value)} (k : Kept cb H H') (s : Sl H n v es) (f : es ≠ [] → Far cb v) : Sl H' n v es := by
 by_cases he : es = []
 ·rcases s.2 with g | ⟨a, cap, h1, _⟩
  ·exact ⟨s.1, .inl g⟩
  ·subst he
   exact ⟨s.1, .inl ⟨rfl, some a, cap, h1⟩⟩
 ·exact k.sl s (f he)
theorem kept_only {cb : CB} {H H' : Heap} (o : Only [cb.P] H H') : Kept cb H H' := (Kept.refl cb H).only o (by simp)
theorem kept_run {cb : CB} {H H' : Heap} {k : Blk} (c : Chg (cellsS [H.length] cb) (H ++ [k]) H') : Kept cb H H' := by
 have hl := c.len
 rw [List.length_append, List.length_singleton] at hl
 refine ⟨by omega, fun i hi hn => ?_⟩
 rw [c.same i (by rw [List.length_append, List.length_singleton]; omega) (by
  unfold cellsS
  simp only [List.mem_append, List.mem_singleton]
  rintro (g | g)
  ·omega
  ·exact hn g), List.getElem?_append_left hi]

structure Seen (P : List Pl) (l : List Th) (ws bs : List Int) (c : Cfg) (i : Nat) (q q' : Pl) (t : Th) : Prop where
 p : P[i]? = some q
 th : l[i]? = some t
 g : q.g = (i : Nat)
 pp : q.p = t.p
 z : q.z = t.z
 at_ : atF i (movesOf 0 0 P) q.o = q'.o
 o0 : 0 ≤ q'.o ∧ q'.o ≤ 4096
 n0 : 8 ≤ q.n ∧ q.n ≤ 256
 may : (Ent.mk q'.o (i : Nat) t.p 0 false true).may
 word : getI ws (slotI c i 0) = (packN ⟨q'.o, (i : Nat), t.p, 0, false, true⟩ : Nat)
 size : getI ws (slotI c i 1) = t.z
 byte : ∀ k : Int, 0 ≤ k → k < q.n → getI bs (q'.o + k) = byteI (w64 (t.f + k))

theorem seen_of {c : Cfg} {P : List Pl} {l : List Th} {f : Int} {s : LaySt} {m : Mc} {ws bs : List Int} {n : Int} (su : Su c P f) (hp : Placed c l P s) (hc : m.c = c) (hF : Fin P f s.bs m ws bs n) {i : Nat} (hi : i < P.length) : ∃ q q' t, Seen P l ws bs c i q q' t := by
 have hw := hF.wds
 rw [hc] at hw
 have hq : P[i]? = some P[i] := List.getElem?_eq_getElem hi
 have hsl : i < (slide 0 P).length := by rw [slide_len]; exact hi
 have hq' : (slide 0 P)[i]? = some (slide 0 P)[i] := List.getElem?_eq_getElem hsl
 generalize P[i] = q at hq
 generalize (slide 0 P)[i] = q' at hq'
 obtain ⟨t, ht, g1, g2, g3, g4⟩ := hp.ths i q hq
 obtain ⟨x, hx, e1, e2, e3, e4⟩ := slide_get _ _ _ _ hq'
 rw [hq] at hx
 have hx := Option.some.inj hx
 subst hx
 have hA := su_A (m := mc0 c) su
 have hok' := cur_ok (a := P.length) su q' (by rw [cur_top]; exact List.mem_of_getElem? hq')
 have hok := su.ok q (List.mem_of_getElem? hq)
 have hn := hok.n0
 have hn' := hok'.n0
 have ho' := hok'.o0
 have hof' := hok'.of
 have eE : q'.ent false = ⟨q'.o, (i : Nat), t.p, 0, false, true⟩ := by
  unfold Pl.ent
  rw [e2, g1, e3, g2]
 refine ⟨q, q', t, hq, ht, g1, g2, g3, ?_, ⟨ho', by omega⟩, hn, ?_, ?_, ?_, fun k k0 k1 => ?_⟩
 ·have := atF_some P i 0 0 q q' hq hq'
  rw [show 0 + i = i by omega] at this
  exact this
 ·rw [← eE]
  exact hok'.may (by omega) fun h => by cases h
 ·rw [← eE]
  exact hw.ent i q' hq'
 ·rw [hw.siz i q' hq', e4, g3]
 ·have h1 := hF.byt.at_ i q q' hq (by rw [cur_top]; exact hq') k k0 k1
  rw [h1]
  exact g4 k k0 k1
end Go.Proofs.YtfpfknafcgkcjaaGreat

/- Alone, objects lie where the plan says: the law's run. -/
set_option linter.unusedVariables false
set_option linter.unusedSimpArgs false
namespace Go.Proofs.YtfpfknafcgkcjaaGreat
open Go Go.Ir

set_option maxHeartbeats 25600000 in
theorem alone_run (c : Cfg) {h : Heap} {v : Value} {l : List Th} (tail : Int) (hv : Sl h 4 v (tcs l)) : ∃ h', callR En 0 Id.sidingslaw18_CompactAlone [.agg c.cs.toArray, v, I tail] h = some (.bool true, h') := by
 have key : ∃ u h', callR En 0 Id.sidingslaw18_CompactAlone [.agg c.cs.toArray, v, I tail] h = some (u, h') ∧ u = .bool true := by
  refine call_ex rfl Fn.sidingslaw18_CompactAlone rfl rfl ?_
  refine Exists.elim hv.len fun base hq => Exists.elim hq fun cap hve => ?_
  rw [tcs_length] at hve
  by_cases hm : c.may
  ·have hM := fun lo h => may_spec lo h c
   rw [decide_eq_true hm] at hM
   rcases c with ⟨A, S, T⟩
   have hm' := hm
   unfold Cfg.may at hm'
   simp only at hm'
   refine Exists.elim (show ∃ a : Nat, A = a from ⟨A.toNat, by omega⟩) fun a ha => ?_
   refine Exists.elim (show ∃ a : Nat, S = a from ⟨S.toNat, by omega⟩) fun s hs => ?_
   refine Exists.elim (show ∃ a : Nat, T = a from ⟨T.toNat, by omega⟩) fun t ht => ?_
   subst ha hs ht
   refine Exists.elim (start_may 0 h hm (Nat.zero_le _)) fun H1 hq => ?_
   have hS := hq.1
   have hC1 := hq.2.1
   have hx1 := hq.2.2.1
   clear hq
   rw [Cfg.cs] at hS hM ⊢
   simp only at hS hM ⊢
   by_cases hl : l.length ≤ 20
   ·refine Exists.elim (lay_spec' (tail := tail) hm hC1 (hv.ext hx1) (fun h0 a' len' cap' e => by
     have := th_block hv h0 a' len' cap' e
     simp only [newC, List.mem_cons, List.not_mem_nil, or_false]
     omega) hl) fun u hq => Exists.elim hq fun H2 hq => ?_
    have hL := hq.1
    have hQ := hq.2
    clear hq
    cases hr : layR a s t l tail (startL ⟨a, s, t⟩) (List.replicate ((a : Int)).toNat 0) with
    | none =>
      rw [hr] at hQ
      unfold LayQ at hQ
      simp only at hQ
      subst hQ
      subst hve
      repeat' (first | (show ER _ _ _ _ _ _ _; first | refine .seq ?_ | refine .reg ?_ | refine .yes rfl ?_ | refine .no rfl ?_ | refine .skip ?_ | refine .block ?_ | refine .endB ?_ | refine .exit rfl ?_ | refine .br rfl (fun hc => ?_) (fun hc => ?_) | refine .scope ?_ | refine .inScope ?_ | refine .label ?_ | refine .ret rfl ?_ | refine .nil rfl ?_) | (show EG _ _ _ _ _ _ _ _ _; first | refine .mov rfl rfl ?_ | refine .lload rfl rfl rfl rfl ?_ | refine .laddr rfl rfl rfl ?_ | (show EG _ _ (⟨_, .bin _ _ _, _, _⟩ :: _) _ _ _ _ _ _; first | refine .lss rfl rfl rfl (fun hc => ?_) (fun hc => ?_) | refine .leq rfl rfl rfl (fun hc => ?_) (fun hc => ?_) | refine .gtrT rfl rfl rfl (by omega) ?_ | refine .gtrF rfl rfl rfl (by omega) ?_ | refine .geq rfl rfl rfl (fun hc => ?_) (fun hc => ?_) | refine .eql rfl rfl rfl (fun hc => ?_) (fun hc => ?_) | refine .neq rfl rfl rfl (fun hc => ?_) (fun hc => ?_)) | (show EG _ _ (⟨_, .call _ _, _, _⟩ :: _) _ _ _ _ _ _; first | refine .call rfl rfl (hS) ?_ | refine .call rfl rfl (hL) ?_ | refine .call rfl rfl (live_c _ _) ?_) | refine .skip rfl ?_ | refine .fin ?_ | refine .go rfl rfl rfl ?_ | refine .gono rfl rfl rfl ?_ | refine .skipn rfl ?_))
      rfl
    | some r =>
      rw [hr] at hQ
      unfold LayQ at hQ
      simp only at hQ
      obtain ⟨ov, hu, hC2, hov, hk2, hov0, hovb⟩ := hQ
      subst hu
      refine Exists.elim (lay_placed hm hr) fun P hq => ?_
      have hPl := hq.1
      have hPd := hq.2.1
      have hSu := hq.2.2
      clear hq
      have hobj := objsX_is hPd.obj.1 hPd.obj.2
      have hlb : r.ob.length = l.length := by rw [hPd.obj.1, hPl]
      have hfa := hSu.fa
      have hf0 := hSu.f0
      simp only at hfa
      have hn1 : ∀ q ∈ P, 1 ≤ q.n := fun q hq => by have := (hSu.ok q hq).n0; omega
      have hfb : ∀ q ∈ P, 0 ≤ q.n ∧ 0 ≤ q.o := fun q hq => ⟨by have := hn1 q hq; omega, (hSu.ok q hq).o0⟩
      have hbnd : ∀ q ∈ P, 0 ≤ q.o ∧ 0 ≤ q.n ∧ q.o + q.n ≤ 4096 := fun q hq => ⟨(hSu.ok q hq).o0, by have := hn1 q hq; omega, by have := (hSu.ok q hq).of; omega⟩
      have hD0 : 0 ≤ slD 0 P := slD_ge fun q hq => (hfb q hq).1
      have hDf : slD 0 P ≤ getI r.ws 0 := slD_top hf0 (fun q hq => ⟨(hSu.ok q hq).of, (hSu.ok q hq).o0⟩) hSu.apart
      have hG : slideL (sortR r.ob) = (movesOf 0 0 P, slD 0 P) := by
       rw [hobj, objsX_sort hSu.apart hn1, slideL_G]
       exact slideG_pl P 0 0 hSu.apart (Int.le_refl _) hbnd
      have hok : okN a r.ob = 0 := by rw [hobj]; exact objsX_ok (c := ⟨a, s, t⟩) hSu hfa
      have hml := movesOf_len P 0 0
      refine Exists.elim (load_spec (lo := 0) hC2 (Nat.zero_le _) 0) fun H3 hq => ?_
      have hL0 := hq.1
      have hC3 := hq.2.1
      have ho3 := hq.2.2
      clear hq
      -- slices that stay
      have hP1 := hlt_of hC1.p.choose_spec
      have hW1 := hlt_of hC1.w
      have hY1 := hlt_of hC1.y
      have hP3 := hlt_of hC3.p.choose_spec
      have hW3 := hlt_of hC3.w
      have hY3 := hlt_of hC3.y
      have fv : tcs l ≠ [] → Far (newC h) v := fun h0 a' len' cap' e => by
       have h0 : 0 < l.length := by
        cases l with
        | nil => exact absurd rfl h0
        | cons _ _ => simp
       have := th_block hv h0 a' len' cap' e
       simp only [newC, List.mem_cons, List.not_mem_nil, or_false]
       omega
      have fo : css r.ob ≠ [] → Far (newC h) ov := fun _ a' len' cap' e => by
       have := hovb a' len' cap' e
       simp only [List.mem_cons, List.not_mem_nil, or_false]
       omega
      have hv2 := sl_keep hk2 (hv.ext hx1) fv
      have hv3 := sl_keep (kept_only ho3) hv2 fv
      have hov3 := sl_keep (kept_only ho3) hov fo
      have hPS := fun lo => planSlide_spec lo (arena := a) hov3 hov0 (by omega)
      rw [hok] at hPS
      unfold slideR at hPS
      rw [if_pos rfl, hG] at hPS
      simp only at hPS
      have hmd := made_sl (h := H3) (mcs_len (movesOf 0 0 P))
      have fm : mcs (movesOf 0 0 P) ≠ [] → Far (newC h) (made H3 4 (mcs (movesOf 0 0 P))).1 := fun _ => far_made ⟨hP3, hW3, hY3⟩
      generalize hmk : made H3 4 (mcs (movesOf 0 0 P)) = mk at hPS hmd fm
      obtain ⟨mv, H4⟩ := mk
      simp only at hPS hmd fm
      have hv4 := hv3.ext hmd.2
      have hov4 := hov3.ext hmd.2
      have hm4 := hmd.1
      have hC4 := hC3.chg (S := []) ⟨hmd.2.1, fun j hj _ => hmd.2.2 j hj⟩ (by simp)
      have hal := mc0_al hm hPd.wds.len
      have hN := fun lo => newM_spec lo H4 hm
      refine Exists.elim (run_spec (Inv := fun m ws _ => Al ws m ∧ m.next ≠ 0) (fun m ws bs hi => mc_inv m ws bs hi) (mc0_at H4 ⟨a, s, t⟩) (hC4.app _) (mc0_disj hC4) ⟨hal, by show (1 : Int) ≠ 0; omega⟩ 20000 (by omega)) fun u1 hq => Exists.elim hq fun H5 hq => ?_
      have hR := hq.1
      have hv5' := hq.2.1
      have hM5 := hq.2.2.1
      have hC5 := hq.2.2.2.1
      have hg5 := kept_run hq.2.2.2.2
      clear hq
      refine Exists.elim (pass_fin (k := 20000) hSu hPd.wds rfl hPd.bl hPd.rng (Nat.le_trans (hPd.wds.phi_le hm) (by omega))) fun n hq => ?_
      have hn := hq.1
      have hmc := hq.2.1
      have hF := hq.2.2
      clear hq
      have hseen := fun i hi => seen_of hSu hPd hmc hF (i := i) hi
      have hlow := hF.low
      have hfr := hF.front
      have hnn := hF.n
      rw [← hml] at hnn
      rw [hn, if_neg (by simp)] at hv5'
      generalize (runM 20000 (mc0 ⟨a, s, t⟩) r.ws r.bs).2.1 = cnt at hv5'
      generalize (runM 20000 (mc0 ⟨a, s, t⟩) r.ws r.bs).2.2.1 = m5 at hM5 hlow hseen
      generalize (runM 20000 (mc0 ⟨a, s, t⟩) r.ws r.bs).2.2.2.1 = ws5 at hC5 hfr hseen
      generalize (runM 20000 (mc0 ⟨a, s, t⟩) r.ws r.bs).2.2.2.2 = bs5 at hC5 hseen
      unfold runV at hv5'
      simp only at hv5'
      subst hv5'
      refine Exists.elim hM5 fun own5 hq => Exists.elim hq fun ov5 hq => Exists.elim hq fun tv5 hq => ?_
      have hM5 := hq.1
      have hb5 := hq.2
      clear hq
      have d5 := (mc0_disj hC4).grow (hC4.app _) hb5
      have hfr : getI ws5 0 = slD 0 P := by rw [hfr]; split <;> omega
      clear hF hn
      generalize hms : movesOf 0 0 P = ms at hPS hmd fm hm4 hml hnn hmk
      have hml2 : ms.length ≤ P.length := by
       have := (slN_le P 0).2
       omega
      subst hnn
      have hv5 := sl_keep hg5 hv4 fv
      have hov5 := sl_keep hg5 hov4 fo
      have hm5 := sl_keep hg5 hm4 fm
      refine Exists.elim (load_spec (lo := 0) hC5 (Nat.zero_le _) 0) fun H6 hq => ?_
      have hL6 := hq.1
      have hC6 := hq.2.1
      have ho6 := hq.2.2
      clear hq
      rw [hfr] at hL6
      have hW := fun lo => lowered_spec (lo := lo) (hM5.chg (Chg.of ho6) d5.notP)
      rw [hlow] at hW
      have hv6 := sl_keep (kept_only ho6) hv5 fv
      have hov6 := sl_keep (kept_only ho6) hov5 fo
      have hm6 := sl_keep (kept_only ho6) hm5 fm
      refine Exists.elim hov.len fun ob hq => Exists.elim hq fun oc hoe => ?_
      rw [css_length, hlb] at hoe
      refine Exists.elim hm4.len fun mb hq => Exists.elim hq fun mc hme => ?_
      rw [mcs_length] at hme
      subst hve hoe hme
      rw [Cfg.cs] at hN
      simp only at hN
      have hRE := res_eq (ms.length : Nat)
      refine Exists.elim (show ∃ x : Nat, getI r.ws 0 = x from ⟨(getI r.ws 0).toNat, by omega⟩) fun fn hfn => ?_
      refine Exists.elim (show ∃ x : Nat, slD 0 P = x from ⟨(slD 0 P).toNat, by omega⟩) fun dn hdn => ?_
      rw [hfn] at hL0 hW
      rw [hdn] at hPS hL6 hW
      by_cases hlt : dn < fn
      all_goals
       first
       | (rw [decide_eq_true (show (dn : Int) < fn by omega)] at hW)
       | (rw [decide_eq_false (show ¬ (dn : Int) < fn by omega)] at hW)
       repeat' (first | (show ER _ _ _ _ _ _ _; first | refine .seq ?_ | refine .reg ?_ | refine .yes rfl ?_ | refine .no rfl ?_ | refine .skip ?_ | refine .block ?_ | refine .endB ?_ | refine .exit rfl ?_ | refine .br rfl (fun hc => ?_) (fun hc => ?_) | refine .scope ?_ | refine .inScope ?_ | refine .label ?_ | refine .ret rfl ?_ | refine .nil rfl ?_) | (show EG _ _ _ _ _ _ _ _ _; first | refine .mov rfl rfl ?_ | refine .lload rfl rfl rfl rfl ?_ | refine .laddr rfl rfl rfl ?_ | (show EG _ _ (⟨_, .bin _ _ _, _, _⟩ :: _) _ _ _ _ _ _; first | refine .lssT rfl rfl rfl (by omega) ?_ | refine .lssF rfl rfl rfl (by omega) ?_ | refine .leq rfl rfl rfl (fun hc => ?_) (fun hc => ?_) | refine .gtrT rfl rfl rfl (by omega) ?_ | refine .gtrF rfl rfl rfl (by omega) ?_ | refine .geq rfl rfl rfl (fun hc => ?_) (fun hc => ?_) | refine .eql rfl rfl rfl (fun hc => ?_) (fun hc => ?_) | refine .neqT rfl rfl rfl (by omega) ?_ | refine .neqF rfl rfl rfl (by omega) ?_) | (show EG _ _ (⟨_, .call _ _, _, _⟩ :: _) _ _ _ _ _ _; first | refine .call rfl rfl (hS) ?_ | refine .call rfl rfl (hL) ?_ | refine .call rfl rfl (hL0) ?_ | refine .call rfl rfl (hPS _) ?_ | refine .call rfl rfl (hN _) ?_ | refine .call rfl rfl (hR) ?_ | refine .call rfl rfl (hL6) ?_ | refine .call rfl rfl (hW _) ?_) | refine .eqc rfl rfl rfl hRE (fun t => by cases t) (fun _ => ?_) | refine .skip rfl ?_ | refine .fin ?_ | refine .go rfl rfl rfl ?_ | refine .gono rfl rfl rfl ?_ | refine .skipn rfl ?_))
       refine .loop (fun n f H => ∃ (i : Nat), n + i = l.length ∧ f = [(1, .slice base l.length cap), (3, .agg #[N a, N s, N t]), (7, ptrC (newC h)), (8, .slice ob l.length oc), (11, .slice mb ms.length mc), (17, N i)] ∧ IsC H (newC h) ws5 bs5 ∧ Sl H 4 (.slice base l.length cap) (tcs l) ∧ Sl H 4 (.slice ob l.length oc) (css r.ob) ∧ Sl H 4 (.slice mb ms.length mc) (mcs ms)) (n := l.length)
        (by refine ⟨0, rfl, rfl, hC6, hv6, hov6, hm6⟩) ?_
       rintro n f H ⟨i, hn, rfl, hCa, hva, hoa, hma⟩ next
       by_cases hi : i < l.length
       ·refine Exists.elim (hseen i (by omega)) fun q hq => Exists.elim hq fun q' hq => Exists.elim hq fun th sn => ?_
        have hgo : r.ob[i]? = some ⟨(i : Nat), q.o, q.n, decide (0 < q.p)⟩ := hPd.obj.2 i q sn.p
        refine Exists.elim (show ∃ x : Nat, q'.o = x from ⟨q'.o.toNat, by have := sn.o0; omega⟩) fun qn hqn => ?_
        refine Exists.elim (show ∃ x : Nat, q.n = x from ⟨q.n.toNat, by have := sn.n0; omega⟩) fun nn hnn => ?_
        have LO : ∀ {H : Heap}, Sl H 4 (.slice ob l.length oc) (css r.ob) → ∃ x, ob = some x ∧ loadV H none ⟨x.block, x.off + i * 4 + 1, none⟩ = some (I q.o) ∧ loadV H none ⟨x.block, x.off + i * 4 + 2, none⟩ = some (N nn) := fun hs => by
         obtain ⟨x, e, h⟩ := sl_ld hs (css_get hgo)
         have h2 := h 2 _ rfl
         rw [hnn] at h2
         exact ⟨x, e, h 1 _ rfl, h2⟩
        have LT : ∀ {H : Heap}, Sl H 4 (.slice base l.length cap) (tcs l) → ∃ x, base = some x ∧ loadV H none ⟨x.block, x.off + i * 4 + 0, none⟩ = some (I th.z) ∧ loadV H none ⟨x.block, x.off + i * 4 + 1, none⟩ = some (I th.f) ∧ loadV H none ⟨x.block, x.off + i * 4 + 3, none⟩ = some (I th.p) := fun hs => by
         obtain ⟨x, e, h⟩ := sl_ld hs (tcs_get sn.th)
         exact ⟨x, e, h 0 _ rfl, h 1 _ rfl, h 3 _ rfl⟩
        refine Exists.elim (LO hoa) fun oa hq => ?_
        have eo := hq.1
        have lo1 := hq.2.1
        clear hq
        subst eo
        refine Exists.elim (LT hva) fun ta hq => ?_
        have et := hq.1
        have lt0 := hq.2.1
        have lt3 := hq.2.2.2
        clear hq
        subst et
        have hat := sn.at_
        rw [hms, hqn] at hat
        have hword := sn.word
        have hsize := sn.size
        have hmay := sn.may
        have hbyte := sn.byte
        rw [hqn] at hword hmay hbyte
        have hsf := hSu.fit
        simp only at hsf
        rw [(slotI_lt hm (s := (i : Nat)) (k := 0) (by omega) (by show (i : Int) < s; omega) (by omega)).1] at hword
        rw [(slotI_lt hm (s := (i : Nat)) (k := 1) (by omega) (by show (i : Int) < s; omega) (by omega)).1] at hsize
        simp only at hword hsize
        rw [show 4 + (t : Int) + 3 * i + 0 = ((4 + t + 3 * i : Nat) : Int) by omega] at hword
        rw [show 4 + (t : Int) + 3 * i + 1 = ((5 + t + 3 * i : Nat) : Int) by omega] at hsize
        have hnn2 : q.n = nn := hnn
        have hn8 := sn.n0
        rw [hnn2] at hbyte hn8
        have hqo := sn.o0
        rw [hqn] at hqo
        clear sn
        repeat' (first | (show ER _ _ _ _ _ _ _; first | refine .seq ?_ | refine .reg ?_ | refine .yes rfl ?_ | refine .no rfl ?_ | refine .skip ?_ | refine .block ?_ | refine .endB ?_ | refine .exit rfl ?_ | refine .br rfl (fun hc => ?_) (fun hc => ?_) | refine .scope ?_ | refine .inScope ?_ | refine .label ?_ | refine .ret rfl ?_ | refine .nil rfl ?_) | (show EG _ _ _ _ _ _ _ _ _; first | refine .mov rfl rfl ?_ | refine .lload rfl rfl rfl rfl ?_ | refine .laddr rfl rfl rfl ?_ | (show EG _ _ (⟨_, .bin _ _ _, _, _⟩ :: _) _ _ _ _ _ _; first | refine .lssT rfl rfl rfl (by omega) ?_ | refine .lssF rfl rfl rfl (by omega) ?_ | refine .leq rfl rfl rfl (fun hc => ?_) (fun hc => ?_) | refine .gtr rfl rfl rfl (fun hc => ?_) (fun hc => ?_) | refine .geq rfl rfl rfl (fun hc => ?_) (fun hc => ?_) | refine .eql rfl rfl rfl (fun hc => ?_) (fun hc => ?_) | refine .neq rfl rfl rfl (fun hc => ?_) (fun hc => ?_)) | refine .load rfl rfl (lo1) ?_ | refine .iaddr rfl rfl rfl (hi) ?_ | refine .skip rfl ?_ | refine .fin ?_ | refine .go rfl rfl rfl ?_ | refine .gono rfl rfl rfl ?_ | refine .skipn rfl ?_))
        refine .loop (fun n2 f H2 => H2 = H ∧ ∃ (k : Nat), n2 + k = ms.length ∧ f = [(1, .slice (some ta) l.length cap), (3, .agg #[N a, N s, N t]), (7, ptrC (newC h)), (8, .slice (some oa) l.length oc), (11, .slice mb ms.length mc), (17, N i), (18, I (atF i (ms.take k) q.o)), (19, N k)]) (n := ms.length)
         (by refine ⟨rfl, 0, rfl, rfl⟩) ?_
        rintro n2 f H2 ⟨rfl, k, hn2, rfl⟩ next2
        by_cases hk : k < ms.length
        ·have hgk : ms[k]? = some ms[k] := List.getElem?_eq_getElem hk
         have htk : ms.take (k + 1) = ms.take k ++ [ms[k]] := List.take_succ_eq_append_getElem hk
         generalize ms[k] = mo at hgk htk
         have hstep : atF i (ms.take (k + 1)) q.o = if mo.s = (i : Nat) then mo.t else atF i (ms.take k) q.o := by
          unfold atF
          rw [htk, List.foldl_append]; rfl
         refine Exists.elim (sl_ld hma (show (mcs ms)[k]? = some mo.cs by simp [mcs, hgk])) fun ma hq => ?_
         have em := hq.1
         have lm0 : loadV H2 none ⟨ma.block, ma.off + k * 4 + 0, none⟩ = some (I mo.s) := hq.2 0 _ rfl
         have lm2 : loadV H2 none ⟨ma.block, ma.off + k * 4 + 2, none⟩ = some (I mo.t) := hq.2 2 _ rfl
         clear hq
         subst em
         by_cases hsi : mo.s = (i : Nat)
         ·rw [if_pos hsi] at hstep
          repeat' (first | (show ER _ _ _ _ _ _ _; first | refine .seq ?_ | refine .reg ?_ | refine .yes rfl ?_ | refine .no rfl ?_ | refine .skip ?_ | refine .block ?_ | refine .endB ?_ | refine .exit rfl ?_ | refine .br rfl (fun hc => ?_) (fun hc => ?_) | refine .scope ?_ | refine .inScope ?_ | refine .label ?_ | refine .ret rfl ?_ | refine .nil rfl ?_) | (show EG _ _ _ _ _ _ _ _ _; first | refine .mov rfl rfl ?_ | refine .lload rfl rfl rfl rfl ?_ | refine .laddr rfl rfl rfl ?_ | (show EG _ _ (⟨_, .bin _ _ _, _, _⟩ :: _) _ _ _ _ _ _; first | refine .lssT rfl rfl rfl (by omega) ?_ | refine .lssF rfl rfl rfl (by omega) ?_ | refine .leq rfl rfl rfl (fun hc => ?_) (fun hc => ?_) | refine .gtr rfl rfl rfl (fun hc => ?_) (fun hc => ?_) | refine .geq rfl rfl rfl (fun hc => ?_) (fun hc => ?_) | refine .eqlT rfl rfl rfl (by omega) ?_ | refine .eqlF rfl rfl rfl (by omega) ?_ | refine .neq rfl rfl rfl (fun hc => ?_) (fun hc => ?_) | refine .addN rfl rfl rfl (by omega) ?_ | refine .addN (b := 1) rfl rfl rfl (by omega) ?_ | refine .subN rfl rfl rfl (by omega) ?_ | refine .subN (b := 1) rfl rfl rfl (by omega) ?_) | (show EG _ _ (⟨_, .load _ _, _, _⟩ :: _) _ _ _ _ _ _; first | refine .load rfl rfl (lm0) ?_ | refine .load rfl rfl (lm2) ?_) | refine .iaddr rfl rfl rfl (hk) ?_ | refine .skip rfl ?_ | refine .fin ?_ | refine .go rfl rfl rfl ?_ | refine .gono rfl rfl rfl ?_ | refine .skipn rfl ?_))
          exact next2 (n2 - 1) _ _ (by omega) ⟨rfl, k + 1, by omega, by rw [hstep]; rfl⟩
         ·rw [if_neg hsi] at hstep
          repeat' (first | (show ER _ _ _ _ _ _ _; first | refine .seq ?_ | refine .reg ?_ | refine .yes rfl ?_ | refine .no rfl ?_ | refine .skip ?_ | refine .block ?_ | refine .endB ?_ | refine .exit rfl ?_ | refine .br rfl (fun hc => ?_) (fun hc => ?_) | refine .scope ?_ | refine .inScope ?_ | refine .label ?_ | refine .ret rfl ?_ | refine .nil rfl ?_) | (show EG _ _ _ _ _ _ _ _ _; first | refine .mov rfl rfl ?_ | refine .lload rfl rfl rfl rfl ?_ | refine .laddr rfl rfl rfl ?_ | (show EG _ _ (⟨_, .bin _ _ _, _, _⟩ :: _) _ _ _ _ _ _; first | refine .lssT rfl rfl rfl (by omega) ?_ | refine .lssF rfl rfl rfl (by omega) ?_ | refine .leq rfl rfl rfl (fun hc => ?_) (fun hc => ?_) | refine .gtr rfl rfl rfl (fun hc => ?_) (fun hc => ?_) | refine .geq rfl rfl rfl (fun hc => ?_) (fun hc => ?_) | refine .eqlT rfl rfl rfl (by omega) ?_ | refine .eqlF rfl rfl rfl (by omega) ?_ | refine .neq rfl rfl rfl (fun hc => ?_) (fun hc => ?_) | refine .addN rfl rfl rfl (by omega) ?_ | refine .addN (b := 1) rfl rfl rfl (by omega) ?_ | refine .subN rfl rfl rfl (by omega) ?_ | refine .subN (b := 1) rfl rfl rfl (by omega) ?_) | (show EG _ _ (⟨_, .load _ _, _, _⟩ :: _) _ _ _ _ _ _; first | refine .load rfl rfl (lm0) ?_ | refine .load rfl rfl (lm2) ?_) | refine .iaddr rfl rfl rfl (hk) ?_ | refine .skip rfl ?_ | refine .fin ?_ | refine .go rfl rfl rfl ?_ | refine .gono rfl rfl rfl ?_ | refine .skipn rfl ?_))
          exact next2 (n2 - 1) _ _ (by omega) ⟨rfl, k + 1, by omega, by rw [hstep]; rfl⟩
        ·rw [List.take_of_length_le (show ms.length ≤ k by omega), hat]
         have hPk := fun lo => rpack_spec lo H2 ⟨(qn : Nat), (i : Nat), th.p, 0, false, true⟩
         unfold pkV at hPk
         rw [if_pos hmay, Ent.cs] at hPk
         simp only at hPk
         generalize packN ⟨(qn : Nat), (i : Nat), th.p, 0, false, true⟩ = pk at hPk hword
         refine Exists.elim (load_spec (lo := 0) hCa (Nat.zero_le _) ((4 + t + 3 * i : Nat) : Int)) fun H7 hq => ?_
         have hL7 := hq.1
         have hC7 := hq.2.1
         have ho7 := hq.2.2
         clear hq
         refine Exists.elim (load_spec (lo := 0) hC7 (Nat.zero_le _) ((5 + t + 3 * i : Nat) : Int)) fun H8 hq => ?_
         have hL8 := hq.1
         have hC8 := hq.2.1
         have ho8 := hq.2.2
         clear hq
         rw [hword] at hL7
         rw [hsize] at hL8
         have hv7 := sl_keep (kept_only ho7) hva fv
         have hov7 := sl_keep (kept_only ho7) hoa fo
         have hm7 := sl_keep (kept_only ho7) hma fm
         have hv8 := sl_keep (kept_only ho8) hv7 fv
         have hov8 := sl_keep (kept_only ho8) hov7 fo
         have hm8 := sl_keep (kept_only ho8) hm7 fm
         refine Exists.elim (LT hv7) fun ta7 hq => ?_
         have et7 := hq.1
         have lt07 := hq.2.1
         clear hq
         injection et7 with et7
         subst et7
         refine Exists.elim (LT hv8) fun ta8 hq => ?_
         have et8 := hq.1
         have lt08 := hq.2.1
         clear hq
         injection et8 with et8
         subst et8
         repeat' (first | (show ER _ _ _ _ _ _ _; first | refine .seq ?_ | refine .reg ?_ | refine .yes rfl ?_ | refine .no rfl ?_ | refine .skip ?_ | refine .block ?_ | refine .endB ?_ | refine .exit rfl ?_ | refine .br rfl (fun hc => ?_) (fun hc => ?_) | refine .scope ?_ | refine .inScope ?_ | refine .label ?_ | refine .ret rfl ?_ | refine .nil rfl ?_) | (show EG _ _ _ _ _ _ _ _ _; first | refine .mov rfl rfl ?_ | refine .lload rfl rfl rfl rfl ?_ | refine .laddr rfl rfl rfl ?_ | (show EG _ _ (⟨_, .bin _ _ _, _, _⟩ :: _) _ _ _ _ _ _; first | refine .lssT rfl rfl rfl (by omega) ?_ | refine .lssF rfl rfl rfl (by omega) ?_ | refine .leq rfl rfl rfl (fun hc => ?_) (fun hc => ?_) | refine .gtr rfl rfl rfl (fun hc => ?_) (fun hc => ?_) | refine .geq rfl rfl rfl (fun hc => ?_) (fun hc => ?_) | refine .eql rfl rfl rfl (fun hc => ?_) (fun hc => ?_) | refine .neqT rfl rfl rfl (by omega) ?_ | refine .neqF rfl rfl rfl (by omega) ?_ | refine .addN rfl rfl rfl (by omega) ?_ | refine .addN (b := 1) rfl rfl rfl (by omega) ?_ | refine .subN rfl rfl rfl (by omega) ?_ | refine .subN (b := 1) rfl rfl rfl (by omega) ?_) | refine .load rfl rfl (lt3) ?_ | (show EG _ _ (⟨_, .call _ _, _, _⟩ :: _) _ _ _ _ _ _; first | refine .call rfl rfl (hPk _) ?_ | refine .call rfl rfl (hL7) ?_ | refine .call rfl rfl (hL8) ?_) | refine .iaddr rfl rfl rfl (hi) ?_ | refine .mulN (a := 3) rfl rfl rfl (by omega) ?_ | refine .addN (a := 4) rfl rfl rfl (by omega) ?_ | refine .addN (a := 5) rfl rfl rfl (by omega) ?_ | refine .loadc rfl rfl lt08 (one_take lt07) (same_i _) ?_ | refine .skip rfl ?_ | refine .fin ?_ | refine .go rfl rfl rfl ?_ | refine .gono rfl rfl rfl ?_ | refine .skipn rfl ?_))
         refine .loop (fun n3 f H9 => ∃ (k : Nat), n3 + k = nn ∧ f = [(1, .slice (some ta) l.length cap), (3, .agg #[N a, N s, N t]), (7, ptrC (newC h)), (8, .slice (some oa) l.length oc), (11, .slice mb ms.length mc), (17, N i), (18, N qn), (22, N k)] ∧ IsC H9 (newC h) ws5 bs5 ∧ Sl H9 4 (.slice (some ta) l.length cap) (tcs l) ∧ Sl H9 4 (.slice (some oa) l.length oc) (css r.ob) ∧ Sl H9 4 (.slice mb ms.length mc) (mcs ms)) (n := nn)
          (by refine ⟨0, by omega, rfl, hC8, hv8, hov8, hm8⟩) ?_
         rintro n3 f H9 ⟨k, hn3, rfl, hC9, hv9, hov9, hm9⟩ next3
         refine Exists.elim (LO hov9) fun oa9 hq => ?_
         have eo9 := hq.1
         have lo29 := hq.2.2
         clear hq
         injection eo9 with eo9
         subst eo9
         by_cases hkn : k < nn
         ·refine Exists.elim (byte_spec (lo := 0) hC9 (Nat.zero_le _) ((qn + k : Nat) : Int)) fun H10 hq => ?_
          have hB := hq.1
          have hC10 := hq.2.1
          have ho10 := hq.2.2
          clear hq
          have hbk := hbyte (k : Nat) (by omega) (by omega)
          rw [show (qn : Int) + (k : Nat) = ((qn + k : Nat) : Int) by omega] at hbk
          rw [hbk] at hB
          have hv10 := sl_keep (kept_only ho10) hv9 fv
          have hov10 := sl_keep (kept_only ho10) hov9 fo
          have hm10 := sl_keep (kept_only ho10) hm9 fm
          refine Exists.elim (LT hv9) fun ta9 hq => ?_
          have et9 := hq.1
          have lt19 := hq.2.2.1
          clear hq
          injection et9 with et9
          subst et9
          refine Exists.elim (LT hv10) fun ta10 hq => ?_
          have et10 := hq.1
          have lt110 := hq.2.2.1
          clear hq
          injection et10 with et10
          subst et10
          have htm := tmod_byte (IntKind.i64.wrap (th.f + (k : Nat)))
          have hbr := byteI_range (w64 (th.f + (k : Nat)))
          generalize byteI (w64 (th.f + (k : Nat))) = bb at htm hB hbr
          generalize hx1 : IntKind.i64.wrap (th.f + (k : Nat)) = x1 at htm
          have hx1' : IntKind.i64.wrap (th.f + (k : Nat)) = x1 := hx1
          generalize hx2 : x1.tmod 256 = x2 at htm
          have hx2b : -256 < x2 ∧ x2 < 256 := by
           rw [← hx2]
           exact ⟨Int.lt_tmod_of_pos _ (by decide), Int.tmod_lt_of_pos _ (by decide)⟩
          have hx3 : IntKind.i64.wrap (x2 + 256) = x2 + 256 := wrap_id (by omega) (by omega)
          repeat' (first | (show ER _ _ _ _ _ _ _; first | refine .seq ?_ | refine .reg ?_ | refine .yes rfl ?_ | refine .no rfl ?_ | refine .skip ?_ | refine .block ?_ | refine .endB ?_ | refine .exit rfl ?_ | refine .br rfl (fun hc => ?_) (fun hc => ?_) | refine .scope ?_ | refine .inScope ?_ | refine .label ?_ | refine .ret rfl ?_ | refine .nil rfl ?_) | (show EG _ _ _ _ _ _ _ _ _; first | refine .mov rfl rfl ?_ | refine .lload rfl rfl rfl rfl ?_ | refine .laddr rfl rfl rfl ?_ | (show EG _ _ (⟨_, .bin _ _ _, _, _⟩ :: _) _ _ _ _ _ _; first | refine .addI hx1' rfl rfl rfl ?_ | refine .addI hx3 rfl rfl rfl ?_ | refine .remI hx2 rfl rfl rfl (by decide) ?_ | refine .remI htm rfl rfl rfl (by decide) ?_ | refine .lssT rfl rfl rfl (by omega) ?_ | refine .lssF rfl rfl rfl (by omega) ?_ | refine .leq rfl rfl rfl (fun hc => ?_) (fun hc => ?_) | refine .gtr rfl rfl rfl (fun hc => ?_) (fun hc => ?_) | refine .geq rfl rfl rfl (fun hc => ?_) (fun hc => ?_) | refine .eql rfl rfl rfl (fun hc => ?_) (fun hc => ?_) | refine .neqT rfl rfl rfl (by omega) ?_ | refine .neqF rfl rfl rfl (by omega) ?_ | refine .addN rfl rfl rfl (by omega) ?_ | refine .addN (b := 1) rfl rfl rfl (by omega) ?_ | refine .subN rfl rfl rfl (by omega) ?_ | refine .subN (b := 1) rfl rfl rfl (by omega) ?_) | refine .load rfl rfl (lo29) ?_ | refine .call rfl rfl (hB) ?_ | refine .iaddr rfl rfl rfl (hi) ?_ | refine .loadc rfl rfl lt110 (one_take lt19) (same_i _) ?_ | refine .skip rfl ?_ | refine .fin ?_ | refine .go rfl rfl rfl ?_ | refine .gono rfl rfl rfl ?_ | refine .skipn rfl ?_))
          exact next3 (n3 - 1) _ _ (by omega) ⟨k + 1, by omega, rfl, hC10, hv10, hov10, hm10⟩
         ·repeat' (first | (show ER _ _ _ _ _ _ _; first | refine .seq ?_ | refine .reg ?_ | refine .yes rfl ?_ | refine .no rfl ?_ | refine .skip ?_ | refine .block ?_ | refine .endB ?_ | refine .exit rfl ?_ | refine .br rfl (fun hc => ?_) (fun hc => ?_) | refine .scope ?_ | refine .inScope ?_ | refine .label ?_ | refine .ret rfl ?_ | refine .nil rfl ?_) | (show EG _ _ _ _ _ _ _ _ _; first | refine .mov rfl rfl ?_ | refine .lload rfl rfl rfl rfl ?_ | refine .laddr rfl rfl rfl ?_ | (show EG _ _ (⟨_, .bin _ _ _, _, _⟩ :: _) _ _ _ _ _ _; first | refine .lssT rfl rfl rfl (by omega) ?_ | refine .lssF rfl rfl rfl (by omega) ?_ | refine .leq rfl rfl rfl (fun hc => ?_) (fun hc => ?_) | refine .gtr rfl rfl rfl (fun hc => ?_) (fun hc => ?_) | refine .geq rfl rfl rfl (fun hc => ?_) (fun hc => ?_) | refine .eql rfl rfl rfl (fun hc => ?_) (fun hc => ?_) | refine .neq rfl rfl rfl (fun hc => ?_) (fun hc => ?_) | refine .addN rfl rfl rfl (by omega) ?_ | refine .addN (b := 1) rfl rfl rfl (by omega) ?_ | refine .subN rfl rfl rfl (by omega) ?_ | refine .subN (b := 1) rfl rfl rfl (by omega) ?_) | refine .load rfl rfl (lo29) ?_ | refine .iaddr rfl rfl rfl (hi) ?_ | refine .skip rfl ?_ | refine .fin ?_ | refine .go rfl rfl rfl ?_ | refine .gono rfl rfl rfl ?_ | refine .skipn rfl ?_))
          exact next (n - 1) _ _ (by omega) ⟨i + 1, by omega, rfl, hC9, hv9, hov9, hm9⟩
       ·repeat' (first | (show ER _ _ _ _ _ _ _; first | refine .seq ?_ | refine .reg ?_ | refine .yes rfl ?_ | refine .no rfl ?_ | refine .skip ?_ | refine .block ?_ | refine .endB ?_ | refine .exit rfl ?_ | refine .br rfl (fun hc => ?_) (fun hc => ?_) | refine .scope ?_ | refine .inScope ?_ | refine .label ?_ | refine .ret rfl ?_ | refine .nil rfl ?_) | (show EG _ _ _ _ _ _ _ _ _; first | refine .mov rfl rfl ?_ | refine .lload rfl rfl rfl rfl ?_ | refine .laddr rfl rfl rfl ?_ | (show EG _ _ (⟨_, .bin _ _ _, _, _⟩ :: _) _ _ _ _ _ _; first | refine .lssT rfl rfl rfl (by omega) ?_ | refine .lssF rfl rfl rfl (by omega) ?_ | refine .leq rfl rfl rfl (fun hc => ?_) (fun hc => ?_) | refine .gtr rfl rfl rfl (fun hc => ?_) (fun hc => ?_) | refine .geq rfl rfl rfl (fun hc => ?_) (fun hc => ?_) | refine .eql rfl rfl rfl (fun hc => ?_) (fun hc => ?_) | refine .neq rfl rfl rfl (fun hc => ?_) (fun hc => ?_)) | refine .call rfl rfl (live_c _ _) ?_ | refine .skip rfl ?_ | refine .fin ?_ | refine .go rfl rfl rfl ?_ | refine .gono rfl rfl rfl ?_ | refine .skipn rfl ?_))
        rfl
   ·subst hve
    repeat' (first | (show ER _ _ _ _ _ _ _; first | refine .seq ?_ | refine .reg ?_ | refine .yes rfl ?_ | refine .no rfl ?_ | refine .skip ?_ | refine .block ?_ | refine .endB ?_ | refine .exit rfl ?_ | refine .br rfl (fun hc => ?_) (fun hc => ?_) | refine .scope ?_ | refine .inScope ?_ | refine .label ?_ | refine .ret rfl ?_ | refine .nil rfl ?_) | (show EG _ _ _ _ _ _ _ _ _; first | refine .mov rfl rfl ?_ | refine .lload rfl rfl rfl rfl ?_ | refine .laddr rfl rfl rfl ?_ | (show EG _ _ (⟨_, .bin _ _ _, _, _⟩ :: _) _ _ _ _ _ _; first | refine .lss rfl rfl rfl (fun hc => ?_) (fun hc => ?_) | refine .leq rfl rfl rfl (fun hc => ?_) (fun hc => ?_) | refine .gtrT rfl rfl rfl (by omega) ?_ | refine .gtrF rfl rfl rfl (by omega) ?_ | refine .geq rfl rfl rfl (fun hc => ?_) (fun hc => ?_) | refine .eql rfl rfl rfl (fun hc => ?_) (fun hc => ?_) | refine .neq rfl rfl rfl (fun hc => ?_) (fun hc => ?_)) | (show EG _ _ (⟨_, .call _ _, _, _⟩ :: _) _ _ _ _ _ _; first | refine .call rfl rfl (hS) ?_ | refine .call rfl rfl (hM _ _) ?_ | refine .call rfl rfl (live_c _ _) ?_) | refine .skip rfl ?_ | refine .fin ?_ | refine .go rfl rfl rfl ?_ | refine .gono rfl rfl rfl ?_ | refine .skipn rfl ?_))
    rfl
  ·have hM := fun lo h => may_spec lo h c
   rw [decide_eq_false hm] at hM
   have hS := start_not 0 h hm
   subst hve
   repeat' (first | (show ER _ _ _ _ _ _ _; first | refine .seq ?_ | refine .reg ?_ | refine .yes rfl ?_ | refine .no rfl ?_ | refine .skip ?_ | refine .block ?_ | refine .endB ?_ | refine .exit rfl ?_ | refine .br rfl (fun hc => ?_) (fun hc => ?_) | refine .scope ?_ | refine .inScope ?_ | refine .label ?_ | refine .ret rfl ?_ | refine .nil rfl ?_) | (show EG _ _ _ _ _ _ _ _ _; first | refine .mov rfl rfl ?_ | refine .lload rfl rfl rfl rfl ?_ | refine .laddr rfl rfl rfl ?_ | (show EG _ _ (⟨_, .bin _ _ _, _, _⟩ :: _) _ _ _ _ _ _; first | refine .lss rfl rfl rfl (fun hc => ?_) (fun hc => ?_) | refine .leq rfl rfl rfl (fun hc => ?_) (fun hc => ?_) | refine .gtr rfl rfl rfl (fun hc => ?_) (fun hc => ?_) | refine .geq rfl rfl rfl (fun hc => ?_) (fun hc => ?_) | refine .eql rfl rfl rfl (fun hc => ?_) (fun hc => ?_) | refine .neq rfl rfl rfl (fun hc => ?_) (fun hc => ?_)) | (show EG _ _ (⟨_, .call _ _, _, _⟩ :: _) _ _ _ _ _ _; first | refine .call rfl rfl (hS) ?_ | refine .call rfl rfl (hM _ _) ?_ | refine .call rfl rfl (live_c _ _) ?_) | refine .skip rfl ?_ | refine .fin ?_ | refine .go rfl rfl rfl ?_ | refine .gono rfl rfl rfl ?_ | refine .skipn rfl ?_))
   rfl
 obtain ⟨u, h', h1, rfl⟩ := key
 exact ⟨h', h1⟩
end Go.Proofs.YtfpfknafcgkcjaaGreat

