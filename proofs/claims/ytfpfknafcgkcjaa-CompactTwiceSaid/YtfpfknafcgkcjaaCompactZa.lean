/- Laid objects are placed ones. Plain. -/
import Derived.Test.YtfpfknafcgkcjaaCompactX
import Derived.Test.YtfpfknafcgkcjaaCompactZ
import Derived.Test.YtfpfknafcgkcjaaCompactY
import Derived.Test.YtfpfknafcgkcjaaCompactV

set_option linter.unusedVariables false
set_option linter.unusedSimpArgs false
namespace Go.Proofs.Ytfpfknafcgkcjaa
open Go Go.Ir

def plOf (a i : Nat) (t : Th) : Pl := ⟨(a : Int) + 8 * t.g, i, t.p, roundI t.z, t.z⟩

theorem fillB_get {bs : List Int} {a : Nat} {f : Int} : ∀ {n : Nat} (i : Int), a + n ≤ bs.length → getI (fillB bs a f n) i = if (a : Int) ≤ i ∧ i < a + n then byteI (w64 (f + (i - a))) else getI bs i
 | 0, i, _ => by rw [if_neg (by omega)]; rfl
 | n + 1, i, h => by
   have ih := fillB_get (bs := bs) (a := a) (f := f) (n := n) i (by omega)
   unfold fillB
   by_cases he : i = ((a + n : Nat) : Int)
   ·rw [he, getI_same (by omega) (by rw [fillB_len]; omega), if_pos (by omega), show (((a + n : Nat) : Int) - a) = (n : Nat) by omega]
   ·rw [getI_ne (fun h => he h.symm), ih]
    by_cases hc : (a : Int) ≤ i ∧ i < a + n
    ·rw [if_pos hc, if_pos (by omega)]
    ·rw [if_neg hc, if_neg (by omega)]

structure Placed (c : Cfg) (l : List Th) (P : List Pl) (s : LaySt) : Prop where
 wds : Wds c P none s.ws
 ok : ∀ q ∈ P, q.Ok s.a
 apart : Apart P
 aA : (s.a : Int) ≤ c.A
 bl : s.bs.length = c.A.toNat
 rng : ∀ i : Int, 0 ≤ getI s.bs i ∧ getI s.bs i < 256
 cost : oS s.ob ≤ 3 * P.length + 2 * s.a
 ths : ∀ (j : Nat) (q : Pl), P[j]? = some q → ∃ t, l[j]? = some t ∧ q.g = j ∧ q.p = t.p ∧ q.z = t.z ∧ ∀ k : Int, 0 ≤ k → k < q.n → getI s.bs (q.o + k) = byteI (w64 (t.f + k))
 obj : s.ob.length = P.length ∧ ∀ (j : Nat) (q : Pl), P[j]? = some q → s.ob[j]? = some ⟨(j : Nat), q.o, q.n, decide (0 < q.p)⟩

theorem placed_one {A S T : Nat} {l : List Th} {P : List Pl} {t : Th} {s : LaySt} (hm : Cfg.may ⟨A, S, T⟩) (h : Placed ⟨A, S, T⟩ l P s) (hi : P.length < S) (hl : l[P.length]? = some t) (ht : okTh A s.a t) :
  Placed ⟨A, S, T⟩ l (P ++ [plOf s.a P.length t]) (layOne A T P.length t s) := by
 have hm' := hm
 unfold Cfg.may at hm'
 simp only at hm'
 unfold okTh at ht
 have hr : 8 ≤ roundI t.z ∧ roundI t.z ≤ 256 := by unfold roundI; omega
 have ha := h.aA
 simp only at ha
 have hbl := h.bl
 simp only at hbl
 have ea : ((layOne A T P.length t s).a : Int) = s.a + 8 * t.g + roundI t.z := by
  unfold layOne
  simp only
  omega
 have s0 : slotI ⟨A, S, T⟩ P.length 0 = ((4 + T + 3 * P.length : Nat) : Int) := by
  rw [(slotI_lt hm (s := (P.length : Nat)) (k := 0) (by omega) (by show (P.length : Int) < S; omega) (by omega)).1]
  show 4 + (T : Int) + 3 * P.length + 0 = _
  omega
 have s1 : slotI ⟨A, S, T⟩ P.length 1 = ((5 + T + 3 * P.length : Nat) : Int) := by
  rw [(slotI_lt hm (s := (P.length : Nat)) (k := 1) (by omega) (by show (P.length : Int) < S; omega) (by omega)).1]
  show 4 + (T : Int) + 3 * P.length + 1 = _
  omega
 have hok : (plOf s.a P.length t).Ok (layOne A T P.length t s).a := by
  unfold plOf
  refine ⟨?_, ?_, ?_, ?_, ?_, rfl⟩
  ·show 0 ≤ (s.a : Int) + 8 * t.g; omega
  ·show (s.a : Int) + 8 * t.g + roundI t.z ≤ _; omega
  ·show (0 : Int) ≤ (P.length : Nat) ∧ ((P.length : Nat) : Int) ≤ 1000; omega
  ·show 0 ≤ t.p ∧ t.p ≤ 7; omega
  ·show 1 ≤ t.z ∧ t.z ≤ 256; omega
 have eb : ∀ i : Int, getI (layOne A T P.length t s).bs i = if ((s.a + 8 * t.g.toNat : Nat) : Int) ≤ i ∧ i < ((s.a + 8 * t.g.toNat : Nat) : Int) + (roundI t.z).toNat then byteI (w64 (t.f + (i - ((s.a + 8 * t.g.toNat : Nat) : Int)))) else getI s.bs i := fun i => by
  unfold layOne
  simp only
  exact fillB_get i (by omega)
 refine ⟨?_, fun q hq => ?_, ?_, ?_, ?_, fun i => ?_, ?_, fun j q hq => ?_, ?_, fun j q hq => ?_⟩
 ·have := h.wds.add hm (by show (P.length : Int) < S; omega) (plOf s.a P.length t)
  rw [s0, s1] at this
  exact this
 ·rcases List.mem_append.1 hq with g | g
  ·exact (h.ok q g).mono (by omega)
  ·simp at g; subst g; exact hok
 ·refine List.pairwise_append.2 ⟨h.apart, List.pairwise_singleton _ _, fun x hx y hy => ?_⟩
  simp at hy
  subst hy
  have := (h.ok x hx).of
  show x.o + x.n ≤ (s.a : Int) + 8 * t.g
  omega
 ·show ((layOne A T P.length t s).a : Int) ≤ A
  omega
 ·unfold layOne
  simp only
  rw [fillB_len]; exact hbl
 ·rw [eb]
  split
  ·exact byteI_range _
  ·exact h.rng i
 ·have hc := h.cost
  unfold layOne
  simp only
  rw [oS_app, List.length_append]
  show oS s.ob + ((3 + 2 * (roundI t.z).toNat) + 0) ≤ 3 * (P.length + 1) + 2 * (s.a + 8 * t.g.toNat + (roundI t.z).toNat)
  omega
 ·by_cases he : j < P.length
  ·rw [List.getElem?_append_left he] at hq
   obtain ⟨t', g1, g2, g3, g4, g5⟩ := h.ths j q hq
   refine ⟨t', g1, g2, g3, g4, fun k k0 k1 => ?_⟩
   have := (h.ok q (List.mem_of_getElem? hq)).of
   rw [eb, if_neg (by omega)]
   exact g5 k k0 k1
  ·have hj := (List.getElem?_eq_some_iff.1 hq).1
   rw [List.length_append] at hj
   have hj : j < P.length + 1 := hj
   have he : j = P.length := by omega
   subst he
   rw [List.getElem?_append_right (by omega), Nat.sub_self, List.getElem?_cons_zero] at hq
   have hq := Option.some.inj hq
   subst hq
   refine ⟨t, hl, rfl, rfl, rfl, fun k k0 k1 => ?_⟩
   have k1 : k < roundI t.z := k1
   show getI _ ((s.a : Int) + 8 * t.g + k) = _
   rw [eb, if_pos (by omega), show (s.a : Int) + 8 * t.g + k - ((s.a + 8 * t.g.toNat : Nat) : Int) = k by omega]
 ·unfold layOne
  simp only
  rw [List.length_append, List.length_append, h.obj.1]; rfl
 ·show (s.ob ++ [_])[j]? = _
  by_cases he : j < P.length
  ·rw [List.getElem?_append_left he] at hq
   rw [List.getElem?_append_left (by rw [h.obj.1]; exact he)]
   exact h.obj.2 j q hq
  ·have hj := (List.getElem?_eq_some_iff.1 hq).1
   rw [List.length_append] at hj
   have hj : j < P.length + 1 := hj
   have he : j = P.length := by omega
   subst he
   rw [List.getElem?_append_right (by omega), Nat.sub_self, List.getElem?_cons_zero] at hq
   have hq := Option.some.inj hq
   subst hq
   rw [List.getElem?_append_right (by rw [h.obj.1]; omega), h.obj.1, Nat.sub_self]
   rfl

theorem placed_all {A S T : Nat} {l : List Th} (hm : Cfg.may ⟨A, S, T⟩) : ∀ (r : List Th) (P : List Pl) (s z : LaySt), l.drop P.length = r → Placed ⟨A, S, T⟩ l P s → P.length + r.length ≤ S → layAll A T r P.length s = some z → ∃ P', P'.length = P.length + r.length ∧ Placed ⟨A, S, T⟩ l P' z
 | [], P, s, z, _, h, _, e => by
   unfold layAll at e
   injection e with e
   subst e
   exact ⟨P, rfl, h⟩
 | t :: r, P, s, z, hd, h, hl, e => by
   unfold layAll at e
   rw [List.length_cons] at hl ⊢
   by_cases ht : okTh A s.a t
   ·rw [if_pos ht] at e
    have hg : l[P.length]? = some t := by rw [← List.head?_drop, hd]; rfl
    have h1 := placed_one hm h (by omega) hg ht
    have hd' : l.drop (P ++ [plOf s.a P.length t]).length = r := by
     rw [List.length_append, List.length_singleton, ← List.drop_drop, hd]; rfl
    obtain ⟨P', g1, g2⟩ := placed_all hm r _ _ z hd' h1 (by rw [List.length_append, List.length_singleton]; omega) (by rw [List.length_append, List.length_singleton]; exact e)
    refine ⟨P', ?_, g2⟩
    rw [g1, List.length_append, List.length_singleton]; omega
   ·rw [if_neg ht] at e; cases e

theorem lay_placed {A S T : Nat} {l : List Th} {tail : Int} {r : LaySt} (hm : Cfg.may ⟨A, S, T⟩) (h : layR A S T l tail (startL ⟨A, S, T⟩) (List.replicate ((A : Int)).toNat 0) = some r) :
  ∃ P, P.length = l.length ∧ Placed ⟨A, S, T⟩ l P r ∧ Su ⟨A, S, T⟩ P (getI r.ws 0) := by
 have hm' := hm
 unfold Cfg.may at hm'
 simp only at hm'
 unfold layR at h
 by_cases hg : l.length ≤ S ∧ 0 ≤ tail ∧ tail ≤ 100
 ·rw [if_pos hg] at h
  have h0 : Placed ⟨A, S, T⟩ l [] ⟨0, startL ⟨A, S, T⟩, List.replicate ((A : Int)).toNat 0, []⟩ := by
   refine ⟨.start hm, fun q hq => (by cases hq), .nil, by show ((0 : Nat) : Int) ≤ A; omega, List.length_replicate, fun i => ?_, Nat.zero_le _, fun j q hq => (by cases hq), rfl, fun j q hq => (by cases hq)⟩
   show 0 ≤ getI (List.replicate ((A : Int)).toNat 0) i ∧ getI (List.replicate ((A : Int)).toNat 0) i < 256
   have : getI (List.replicate ((A : Int)).toNat 0) i = 0 := by
    unfold getI
    split
    ·rw [List.getD_eq_getElem?_getD, List.getElem?_replicate]
     split <;> rfl
    ·rfl
   omega
  cases hr : layAll A T l 0 ⟨0, startL ⟨A, S, T⟩, List.replicate ((A : Int)).toNat 0, []⟩ with
  | none => rw [hr] at h; cases h
  | some s =>
    rw [hr, Option.map_some] at h
    injection h with h
    subst h
    obtain ⟨P, g1, g2⟩ := placed_all hm l [] _ s rfl h0 (by show 0 + l.length ≤ S; omega) hr
    have g1 : P.length = l.length := by rw [g1]; show 0 + l.length = _; omega
    have hw0 : getI (setI s.ws 0 (min ((s.a : Int) + 8 * tail) A)) 0 = min ((s.a : Int) + 8 * tail) A := getI_same (by omega) (by rw [g2.wds.len]; unfold wordsI; simp only; omega)
    have ha := g2.aA
    simp only at ha
    refine ⟨P, g1, ⟨g2.wds.low hm (.inl rfl) _, g2.ok, g2.apart, g2.aA, g2.bl, g2.rng, g2.cost, g2.ths, g2.obj⟩, hm, ?_, ?_, fun q hq => ?_, g2.apart, by rw [g1]; show (l.length : Int) ≤ S; omega⟩
    ·simp only; rw [hw0]; omega
    ·simp only; rw [hw0]; omega
    ·simp only; rw [hw0]; exact (g2.ok q hq).mono (by omega)
 ·rw [if_neg hg] at h; cases h
end Go.Proofs.Ytfpfknafcgkcjaa

/- A pass alone behind a pass alone: the law's run. -/
set_option linter.unusedVariables false
set_option linter.unusedSimpArgs false
namespace Go.Proofs.Ytfpfknafcgkcjaa
open Go Go.Ir

theorem newC_ne {h H : Heap} (hl : (newC h).P < H.length) : (newC H).P ≠ (newC h).P ∧ (newC H).P ≠ (newC h).W ∧ (newC H).P ≠ (newC h).Y ∧ (newC H).W ≠ (newC h).P ∧ (newC H).W ≠ (newC h).W ∧ (newC H).W ≠ (newC h).Y ∧ (newC H).Y ≠ (newC h).P ∧ (newC H).Y ≠ (newC h).W ∧ (newC H).Y ≠ (newC h).Y := by
 unfold newC at hl ⊢
 simp only at hl ⊢
 omega

set_option maxHeartbeats 6400000 in
theorem twice_run (c : Cfg) {h : Heap} {v : Value} {l : List Th} (tail : Int) (hv : Sl h 4 v (tcs l)) : ∃ h', callR En 0 Id.sidingslaw18_CompactTwice [.agg c.cs.toArray, v, I tail] h = some (.bool true, h') := by
 have key : ∃ u h', callR En 0 Id.sidingslaw18_CompactTwice [.agg c.cs.toArray, v, I tail] h = some (u, h') ∧ u = .bool true := by
  refine call_ex rfl Fn.sidingslaw18_CompactTwice rfl rfl ?_
  refine Exists.elim hv.len fun base hq => Exists.elim hq fun cap hve => ?_
  rw [tcs_length] at hve
  by_cases hm : c.may
  ·have hM := fun lo h => may_spec lo h c
   rw [decide_eq_true hm] at hM
   rcases c with ⟨A, S, T⟩
   have hm' := hm
   unfold Cfg.may at hm'
   simp only at hm'
   refine Exists.elim (show ∃ a : Nat, A = a from ⟨A.toNat, by omega⟩) fun a ha => ?_
   refine Exists.elim (show ∃ a : Nat, S = a from ⟨S.toNat, by omega⟩) fun s hs => ?_
   refine Exists.elim (show ∃ a : Nat, T = a from ⟨T.toNat, by omega⟩) fun t ht => ?_
   subst ha hs ht
   refine Exists.elim (start_may 0 h hm (Nat.zero_le _)) fun H1 hq => ?_
   have hS := hq.1
   have hC1 := hq.2.1
   have hx1 := hq.2.2.1
   clear hq
   rw [Cfg.cs] at hS hM ⊢
   simp only at hS hM ⊢
   by_cases hl : l.length ≤ 20
   ·refine Exists.elim (lay_spec' (tail := tail) hm hC1 (hv.ext hx1) (fun h0 a' len' cap' e => by
     have := th_block hv h0 a' len' cap' e
     simp only [newC, List.mem_cons, List.not_mem_nil, or_false]
     omega) hl) fun u hq => Exists.elim hq fun H2 hq => ?_
    have hL := hq.1
    have hQ := hq.2
    clear hq
    cases hr : layR a s t l tail (startL ⟨a, s, t⟩) (List.replicate ((a : Int)).toNat 0) with
    | none =>
      rw [hr] at hQ
      unfold LayQ at hQ
      simp only at hQ
      subst hQ
      subst hve
      repeat' (first | (show ER _ _ _ _ _ _ _; first | refine ER.seq ?_ | refine ER.reg ?_ | refine ER.yes rfl ?_ | refine ER.no rfl ?_ | refine ER.skip ?_ | refine ER.block ?_ | refine ER.endB ?_ | refine ER.exit rfl ?_ | refine ER.br rfl (fun hc => ?_) (fun hc => ?_) | refine ER.scope ?_ | refine ER.inScope ?_ | refine ER.label ?_ | refine ER.ret rfl ?_ | refine ER.nil rfl ?_) | (show EG _ _ _ _ _ _ _ _ _; first | refine EG.mov rfl rfl ?_ | refine EG.lload rfl rfl rfl rfl ?_ | refine EG.laddr rfl rfl rfl ?_ | (show EG _ _ (⟨_, .bin _ _ _, _, _⟩ :: _) _ _ _ _ _ _; first | refine EG.lss rfl rfl rfl (fun hc => ?_) (fun hc => ?_) | refine EG.leq rfl rfl rfl (fun hc => ?_) (fun hc => ?_) | refine EG.gtrT rfl rfl rfl (by omega) ?_ | refine EG.gtrF rfl rfl rfl (by omega) ?_ | refine EG.geq rfl rfl rfl (fun hc => ?_) (fun hc => ?_) | refine EG.eql rfl rfl rfl (fun hc => ?_) (fun hc => ?_) | refine EG.neq rfl rfl rfl (fun hc => ?_) (fun hc => ?_)) | (show EG _ _ (⟨_, .call _ _, _, _⟩ :: _) _ _ _ _ _ _; first | refine EG.call rfl rfl (hS) ?_ | refine EG.call rfl rfl (hL) ?_ | refine EG.call rfl rfl (live_c _ _) ?_) | refine EG.skip rfl ?_ | refine EG.fin ?_ | refine EG.go rfl rfl rfl ?_ | refine EG.gono rfl rfl rfl ?_ | refine EG.skipn rfl ?_))
      rfl
    | some r =>
      rw [hr] at hQ
      unfold LayQ at hQ
      simp only at hQ
      obtain ⟨ov, hu, hC2, hov, hk2⟩ := hQ
      subst hu
      refine Exists.elim (lay_placed hm hr) fun P hq => ?_
      have hPl := hq.1
      have hPd := hq.2.1
      have hSu := hq.2.2
      clear hq
      have hbl : r.bs.length = a := by rw [hPd.bl]; show ((a : Int)).toNat = a; omega
      have hwl := hPd.wds.len
      have hwl : r.ws.length = 4 + t + 3 * s := by rw [hwl]; unfold wordsI; simp only; omega
      have hal := mc0_al hm hPd.wds.len
      refine Exists.elim (pass_twice hSu hPd.wds rfl hPd.bl hPd.rng (k := 20000) (by omega)) fun n hq => Exists.elim hq fun m1 hq => Exists.elim hq fun ws1 hq => Exists.elim hq fun bs1 hq => Exists.elim hq fun j1 hq => ?_
      have hE1 := hq.1
      have hl1 := And.intro hq.2.1 hq.2.2.1
      refine Exists.elim hq.2.2.2 fun j2 hq => Exists.elim hq fun m2 hq => Exists.elim hq fun ws2 hq => ?_
      have hE2 := hq.1
      have hlow := hq.2.1
      have hfr := hq.2.2
      clear hq
      have hN := fun lo => newM_spec lo H2 hm
      refine Exists.elim (run_spec (Inv := fun m ws _ => Al ws m ∧ m.next ≠ 0) (fun m ws bs hi => mc_inv m ws bs hi) (mc0_at H2 ⟨a, s, t⟩) (hC2.app _) (mc0_disj hC2) ⟨hal, by show (1 : Int) ≠ 0; omega⟩ 20000 (by omega)) fun u1 hq => Exists.elim hq fun H3 hq => ?_
      have hR := hq.1
      have hC3 := hq.2.2.2.1
      clear hq
      rw [hE1] at hC3
      simp only at hC3
      have hP3 := hlt_of hC3.p.choose_spec
      refine Exists.elim (copy_spec (lo := 0) hC3 (by omega) (by omega) (by omega) (by omega) (Nat.zero_le _)) fun H4 hq => ?_
      have hCp := hq.1
      have hD4 := hq.2.1
      have hx4 := hq.2.2
      clear hq
      have hC4 := hC3.chg (S := []) ⟨hx4.1, fun j hj _ => hx4.2 j hj⟩ (by simp)
      have hal2 : Al ws1 (mc0 ⟨a, s, t⟩) := mc0_al hm (by rw [hl1.1]; exact hPd.wds.len)
      have hN2 := fun lo => newM_spec lo H4 hm
      refine Exists.elim (run_spec (Inv := fun m ws _ => Al ws m ∧ m.next ≠ 0) (fun m ws bs hi => mc_inv m ws bs hi) (mc0_at H4 ⟨a, s, t⟩) (hC4.app _) (mc0_disj hC4) ⟨hal2, by show (1 : Int) ≠ 0; omega⟩ 20000 (by omega)) fun u2 hq => Exists.elim hq fun H6 hq => ?_
      have hR2 := hq.1
      have hv2 := hq.2.1
      have hM6 := hq.2.2.1
      have hC6 := hq.2.2.2.1
      have hg6 := hq.2.2.2.2
      clear hq
      rw [hE2] at hv2 hM6 hC6
      simp only at hM6 hC6
      rw [if_neg (by simp)] at hv2
      unfold runV at hv2
      simp only at hv2
      subst hv2
      refine Exists.elim hM6 fun own6 hq => Exists.elim hq fun ov6 hq => Exists.elim hq fun tv6 hq => ?_
      have hM6 := hq.1
      have hb6 := hq.2
      clear hq
      have hne := newC_ne (h := h) (H := H3) hP3
      have hPD := hlt_of hD4.p.choose_spec
      have hWD := hlt_of hD4.w
      have hYD := hlt_of hD4.y
      have d6 := (mc0_disj hC4).grow (hC4.app _) hb6
      have d6' := (mc0_disj hD4).grow (hD4.app _) hb6
      have hD6 := (hD4.app _).chg hg6 (by
       unfold cellsS
       simp only [List.mem_append, List.mem_cons, List.not_mem_nil, or_false]
       omega)
      rw [Cfg.cs] at hN hN2
      simp only at hN hN2
      subst hve
      repeat' (first | (show ER _ _ _ _ _ _ _; first | refine ER.seq ?_ | refine ER.reg ?_ | refine ER.yes rfl ?_ | refine ER.no rfl ?_ | refine ER.skip ?_ | refine ER.block ?_ | refine ER.endB ?_ | refine ER.exit rfl ?_ | refine ER.br rfl (fun hc => ?_) (fun hc => ?_) | refine ER.scope ?_ | refine ER.inScope ?_ | refine ER.label ?_ | refine ER.ret rfl ?_ | refine ER.nil rfl ?_) | (show EG _ _ _ _ _ _ _ _ _; first | refine EG.mov rfl rfl ?_ | refine EG.lload rfl rfl rfl rfl ?_ | refine EG.laddr rfl rfl rfl ?_ | (show EG _ _ (⟨_, .bin _ _ _, _, _⟩ :: _) _ _ _ _ _ _; first | refine EG.lss rfl rfl rfl (fun hc => ?_) (fun hc => ?_) | refine EG.leq rfl rfl rfl (fun hc => ?_) (fun hc => ?_) | refine EG.gtrT rfl rfl rfl (by omega) ?_ | refine EG.gtrF rfl rfl rfl (by omega) ?_ | refine EG.geq rfl rfl rfl (fun hc => ?_) (fun hc => ?_) | refine EG.eql rfl rfl rfl (fun hc => ?_) (fun hc => ?_) | refine EG.neq rfl rfl rfl (fun hc => ?_) (fun hc => ?_)) | (show EG _ _ (⟨_, .call _ _, _, _⟩ :: _) _ _ _ _ _ _; first | refine EG.call rfl rfl (hS) ?_ | refine EG.call rfl rfl (hL) ?_ | refine EG.call rfl rfl (hN _) ?_ | refine EG.call rfl rfl (hR) ?_ | refine EG.call rfl rfl (hCp) ?_ | refine EG.call rfl rfl (hN2 _) ?_ | refine EG.call rfl rfl (hR2) ?_) | refine EG.skip rfl ?_ | refine EG.fin ?_ | refine EG.go rfl rfl rfl ?_ | refine EG.gono rfl rfl rfl ?_ | refine EG.skipn rfl ?_))
      refine .loop (fun n f H => ∃ (i : Nat), n + i = a ∧ f = [(3, .agg #[N a, N s, N t]), (7, ptrC (newC h)), (10, ptrC (newC H3)), (11, ptrB H4.length), (12, .agg #[I 0, I 0]), (14, N i)] ∧ IsC H (newC h) ws2 bs1 ∧ IsC H (newC H3) ws1 bs1 ∧ McAt H own6 H4.length m2 ov6 tv6) (n := a)
       (by refine ⟨0, rfl, rfl, hC6, hD6, hM6⟩) ?_
      rintro n f H ⟨i, hn, rfl, hCa, hCb, hMa⟩ next
      by_cases hi : i < a
      ·refine Exists.elim (byte_spec (lo := 0) hCa (Nat.zero_le _) ((i : Nat) : Int)) fun H7 hq => ?_
       have hB1 := hq.1
       have hC7 := hq.2.1
       have ho7 := hq.2.2
       clear hq
       have hD7 := hCb.chg (Chg.of ho7) (by simp only [List.mem_singleton]; omega)
       have hM7 := hMa.chg (Chg.of ho7) d6.notP
       refine Exists.elim (byte_spec (lo := 0) hD7 (Nat.zero_le _) ((i : Nat) : Int)) fun H8 hq => ?_
       have hB2 := hq.1
       have hD8 := hq.2.1
       have ho8 := hq.2.2
       clear hq
       have hC8 := hC7.chg (Chg.of ho8) (by simp only [List.mem_singleton]; omega)
       have hM8 := hM7.chg (Chg.of ho8) d6'.notP
       repeat' (first | (show ER _ _ _ _ _ _ _; first | refine ER.seq ?_ | refine ER.reg ?_ | refine ER.yes rfl ?_ | refine ER.no rfl ?_ | refine ER.skip ?_ | refine ER.block ?_ | refine ER.endB ?_ | refine ER.exit rfl ?_ | refine ER.br rfl (fun hc => ?_) (fun hc => ?_) | refine ER.scope ?_ | refine ER.inScope ?_ | refine ER.label ?_ | refine ER.ret rfl ?_ | refine ER.nil rfl ?_) | (show EG _ _ _ _ _ _ _ _ _; first | refine EG.mov rfl rfl ?_ | refine EG.lload rfl rfl rfl rfl ?_ | refine EG.laddr rfl rfl rfl ?_ | (show EG _ _ (⟨_, .bin _ _ _, _, _⟩ :: _) _ _ _ _ _ _; first | refine EG.lssT rfl rfl rfl (by omega) ?_ | refine EG.lssF rfl rfl rfl (by omega) ?_ | refine EG.leq rfl rfl rfl (fun hc => ?_) (fun hc => ?_) | refine EG.gtr rfl rfl rfl (fun hc => ?_) (fun hc => ?_) | refine EG.geq rfl rfl rfl (fun hc => ?_) (fun hc => ?_) | refine EG.eql rfl rfl rfl (fun hc => ?_) (fun hc => ?_) | refine EG.neqT rfl rfl rfl (by omega) ?_ | refine EG.neqF rfl rfl rfl (by omega) ?_ | refine EG.addN rfl rfl rfl (by omega) ?_ | refine EG.addN (b := 1) rfl rfl rfl (by omega) ?_ | refine EG.subN rfl rfl rfl (by omega) ?_ | refine EG.subN (b := 1) rfl rfl rfl (by omega) ?_) | (show EG _ _ (⟨_, .call _ _, _, _⟩ :: _) _ _ _ _ _ _; first | refine EG.call rfl rfl (hB1) ?_ | refine EG.call rfl rfl (hB2) ?_) | refine EG.skip rfl ?_ | refine EG.fin ?_ | refine EG.go rfl rfl rfl ?_ | refine EG.gono rfl rfl rfl ?_ | refine EG.skipn rfl ?_))
       exact next (n - 1) _ _ (by omega) ⟨i + 1, by omega, rfl, hC8, hD8, hM8⟩
      ·have hW := fun lo => lowered_spec (lo := lo) hMa
       rw [hlow] at hW
       refine Exists.elim (load_spec (lo := 0) hCa (Nat.zero_le _) 0) fun H7 hq => ?_
       have hL1 := hq.1
       have ho7 := hq.2.2
       clear hq
       have hD7 := hCb.chg (Chg.of ho7) (by simp only [List.mem_singleton]; omega)
       refine Exists.elim (load_spec (lo := 0) hD7 (Nat.zero_le _) 0) fun H8 hq => ?_
       have hL2 := hq.1
       clear hq
       rw [hfr] at hL1
       repeat' (first | (show ER _ _ _ _ _ _ _; first | refine ER.seq ?_ | refine ER.reg ?_ | refine ER.yes rfl ?_ | refine ER.no rfl ?_ | refine ER.skip ?_ | refine ER.block ?_ | refine ER.endB ?_ | refine ER.exit rfl ?_ | refine ER.br rfl (fun hc => ?_) (fun hc => ?_) | refine ER.scope ?_ | refine ER.inScope ?_ | refine ER.label ?_ | refine ER.ret rfl ?_ | refine ER.nil rfl ?_) | (show EG _ _ _ _ _ _ _ _ _; first | refine EG.mov rfl rfl ?_ | refine EG.lload rfl rfl rfl rfl ?_ | refine EG.laddr rfl rfl rfl ?_ | (show EG _ _ (⟨_, .bin _ _ _, _, _⟩ :: _) _ _ _ _ _ _; first | refine EG.lssT rfl rfl rfl (by omega) ?_ | refine EG.lssF rfl rfl rfl (by omega) ?_ | refine EG.leq rfl rfl rfl (fun hc => ?_) (fun hc => ?_) | refine EG.gtr rfl rfl rfl (fun hc => ?_) (fun hc => ?_) | refine EG.geq rfl rfl rfl (fun hc => ?_) (fun hc => ?_) | refine EG.eqlT rfl rfl rfl (by omega) ?_ | refine EG.eqlF rfl rfl rfl (by omega) ?_ | refine EG.neq rfl rfl rfl (fun hc => ?_) (fun hc => ?_)) | (show EG _ _ (⟨_, .call _ _, _, _⟩ :: _) _ _ _ _ _ _; first | refine EG.call rfl rfl (hW _) ?_ | refine EG.call rfl rfl (hL1) ?_ | refine EG.call rfl rfl (hL2) ?_ | refine EG.call rfl rfl (live_c _ _) ?_) | refine EG.skip rfl ?_ | refine EG.fin ?_ | refine EG.go rfl rfl rfl ?_ | refine EG.gono rfl rfl rfl ?_ | refine EG.skipn rfl ?_))
       rfl
   ·subst hve
    repeat' (first | (show ER _ _ _ _ _ _ _; first | refine ER.seq ?_ | refine ER.reg ?_ | refine ER.yes rfl ?_ | refine ER.no rfl ?_ | refine ER.skip ?_ | refine ER.block ?_ | refine ER.endB ?_ | refine ER.exit rfl ?_ | refine ER.br rfl (fun hc => ?_) (fun hc => ?_) | refine ER.scope ?_ | refine ER.inScope ?_ | refine ER.label ?_ | refine ER.ret rfl ?_ | refine ER.nil rfl ?_) | (show EG _ _ _ _ _ _ _ _ _; first | refine EG.mov rfl rfl ?_ | refine EG.lload rfl rfl rfl rfl ?_ | refine EG.laddr rfl rfl rfl ?_ | (show EG _ _ (⟨_, .bin _ _ _, _, _⟩ :: _) _ _ _ _ _ _; first | refine EG.lss rfl rfl rfl (fun hc => ?_) (fun hc => ?_) | refine EG.leq rfl rfl rfl (fun hc => ?_) (fun hc => ?_) | refine EG.gtrT rfl rfl rfl (by omega) ?_ | refine EG.gtrF rfl rfl rfl (by omega) ?_ | refine EG.geq rfl rfl rfl (fun hc => ?_) (fun hc => ?_) | refine EG.eql rfl rfl rfl (fun hc => ?_) (fun hc => ?_) | refine EG.neq rfl rfl rfl (fun hc => ?_) (fun hc => ?_)) | (show EG _ _ (⟨_, .call _ _, _, _⟩ :: _) _ _ _ _ _ _; first | refine EG.call rfl rfl (hS) ?_ | refine EG.call rfl rfl (hM _ _) ?_ | refine EG.call rfl rfl (live_c _ _) ?_) | refine EG.skip rfl ?_ | refine EG.fin ?_ | refine EG.go rfl rfl rfl ?_ | refine EG.gono rfl rfl rfl ?_ | refine EG.skipn rfl ?_))
    rfl
  ·have hM := fun lo h => may_spec lo h c
   rw [decide_eq_false hm] at hM
   have hS := start_not 0 h hm
   subst hve
   repeat' (first | (show ER _ _ _ _ _ _ _; first | refine ER.seq ?_ | refine ER.reg ?_ | refine ER.yes rfl ?_ | refine ER.no rfl ?_ | refine ER.skip ?_ | refine ER.block ?_ | refine ER.endB ?_ | refine ER.exit rfl ?_ | refine ER.br rfl (fun hc => ?_) (fun hc => ?_) | refine ER.scope ?_ | refine ER.inScope ?_ | refine ER.label ?_ | refine ER.ret rfl ?_ | refine ER.nil rfl ?_) | (show EG _ _ _ _ _ _ _ _ _; first | refine EG.mov rfl rfl ?_ | refine EG.lload rfl rfl rfl rfl ?_ | refine EG.laddr rfl rfl rfl ?_ | (show EG _ _ (⟨_, .bin _ _ _, _, _⟩ :: _) _ _ _ _ _ _; first | refine EG.lss rfl rfl rfl (fun hc => ?_) (fun hc => ?_) | refine EG.leq rfl rfl rfl (fun hc => ?_) (fun hc => ?_) | refine EG.gtr rfl rfl rfl (fun hc => ?_) (fun hc => ?_) | refine EG.geq rfl rfl rfl (fun hc => ?_) (fun hc => ?_) | refine EG.eql rfl rfl rfl (fun hc => ?_) (fun hc => ?_) | refine EG.neq rfl rfl rfl (fun hc => ?_) (fun hc => ?_)) | (show EG _ _ (⟨_, .call _ _, _, _⟩ :: _) _ _ _ _ _ _; first | refine EG.call rfl rfl (hS) ?_ | refine EG.call rfl rfl (hM _ _) ?_ | refine EG.call rfl rfl (live_c _ _) ?_) | refine EG.skip rfl ?_ | refine EG.fin ?_ | refine EG.go rfl rfl rfl ?_ | refine EG.gono rfl rfl rfl ?_ | refine EG.skipn rfl ?_))
   rfl
 obtain ⟨u, h', h1, rfl⟩ := key
 exact ⟨h', h1⟩
end Go.Proofs.Ytfpfknafcgkcjaa

/- The document's entries, unpacked. -/
set_option linter.unusedVariables false
set_option linter.unusedSimpArgs false
namespace Go.Proofs.Ytfpfknafcgkcjaa
open Go Go.Ir

section
variable {E : Env} {lo : Nat} {os : List IOper} {f : Fr} {h : Heap} {hs : List Heap} {k : List Ir.Item} {rs : List IRes} {Q : Value → Heap → Prop} {d : Nat} {g : Option (Nat × Bool)} {x y : Operand}
end

end Go.Proofs.Ytfpfknafcgkcjaa

/- A pass alone over placed objects: locks. Plain. -/
set_option linter.unusedVariables false
set_option linter.unusedSimpArgs false
namespace Go.Proofs.Ytfpfknafcgkcjaa
open Go Go.Ir

section
variable {c : Cfg} {P : List Pl} {f : Int} {bs0 bs ws : List Int} {m : Mc}
structure On (c : Cfg) (P : List Pl) (f : Int) (bs0 : List Int) (m : Mc) (ws bs : List Int) : Prop where
 al : Al ws m
 n0 : m.next ≠ 0
 c : m.c = c
 ph : Ph P f bs0 m ws bs

end
end Go.Proofs.Ytfpfknafcgkcjaa

/- While an object is moved its entry has its lock: the law's run. -/
set_option linter.unusedVariables false
set_option linter.unusedSimpArgs false
namespace Go.Proofs.Ytfpfknafcgkcjaa
open Go Go.Ir

end Go.Proofs.Ytfpfknafcgkcjaa

