/- What laid objects cost a pass alone. Plain. -/
import Derived.Test.YtfpfknafcgkcjaaCompactW
import Derived.Test.YtfpfknafcgkcjaaCompactE
import Derived.Test.YtfpfknafcgkcjaaCompactV

set_option linter.unusedVariables false
set_option linter.unusedSimpArgs false
namespace Go.Proofs.Ytfpfknafcgkcjaa
open Go Go.Ir

theorem fillB_len (bs : List Int) (a : Nat) (f : Int) : ∀ k, (fillB bs a f k).length = bs.length
 | 0 => rfl
 | k + 1 => by rw [fillB, setI_len, fillB_len]

structure Laid (c : Cfg) (i : Nat) (s : LaySt) : Prop where
 wl : s.ws.length = (wordsI c).toNat
 zero : ∀ k : Int, (i : Int) ≤ k → k < c.S → getI s.ws (slotI c k 0) = 0
 cost : pS c s.ws c.S.toNat = oS s.ob
 size : ∀ o ∈ s.ob, 8 ≤ o.n ∧ o.n ≤ 256
 len : s.ob.length = i
 ep : getI s.ws 3 = 0

theorem laid_one {A S T i : Nat} {t : Th} {s : LaySt} (hm : Cfg.may ⟨A, S, T⟩) (h : Laid ⟨A, S, T⟩ i s) (hi : i < S) (ht : okTh A s.a t) : Laid ⟨A, S, T⟩ (i + 1) (layOne A T i t s) := by
 have hm' := hm
 unfold Cfg.may at hm'
 simp only at hm'
 have hsl : ∀ k : Int, 0 ≤ k → k < S → ∀ j : Int, 0 ≤ j ∧ j ≤ 2 → slotI ⟨A, S, T⟩ k j = 4 + T + 3 * k + j := fun k h0 h1 j hj => (slotI_lt hm h0 h1 hj).1
 have hwl : (s.ws.length : Int) = 4 + T + 3 * S := by rw [h.wl]; unfold wordsI; simp only; omega
 have he := entTh_may (i := i) ht (by omega) (by omega)
 have e0 : getI (layOne A T i t s).ws (slotI ⟨A, S, T⟩ i 0) = (packN (entTh s.a i t) : Nat) := by
  rw [hsl _ (by omega) (by omega) _ (by omega)]
  unfold layOne
  simp only
  rw [getI_ne (by omega), show (4 + (T : Int) + 3 * i + 0) = ((4 + T + 3 * i : Nat) : Int) by omega, getI_same (by omega) (by omega)]
 have e1 : getI (layOne A T i t s).ws (slotI ⟨A, S, T⟩ i 1) = t.z := by
  rw [hsl _ (by omega) (by omega) _ (by omega)]
  unfold layOne
  simp only
  rw [show (4 + (T : Int) + 3 * i + 1) = ((5 + T + 3 * i : Nat) : Int) by omega, getI_same (by omega) (by rw [setI_len]; omega)]
 have en : ∀ k : Int, 0 ≤ k → k < S → k ≠ i → ∀ j : Int, 0 ≤ j ∧ j ≤ 1 → getI (layOne A T i t s).ws (slotI ⟨A, S, T⟩ k j) = getI s.ws (slotI ⟨A, S, T⟩ k j) := fun k h0 h1 hk j hj => by
  rw [hsl _ (by omega) (by omega) _ (by omega)]
  unfold layOne
  simp only
  rw [getI_ne (by omega), getI_ne (by omega)]
 unfold okTh at ht
 have hr : 8 ≤ roundI t.z ∧ roundI t.z ≤ 256 := by unfold roundI; omega
 have hpi : pot ⟨A, S, T⟩ (layOne A T i t s).ws i = 3 + 2 * (roundI t.z).toNat := by
  unfold pot
  rw [e0, e1, unpack_pack he]
  simp only
  rw [if_pos ⟨rfl, by omega, by omega⟩]
 have hp0 : pot ⟨A, S, T⟩ s.ws i = 0 := pot_zero (h.zero i (by omega) (by show (i : Int) < S; omega))
 refine ⟨?_, fun k h0 h1 => ?_, ?_, fun o ho => ?_, ?_, ?_⟩
 ·unfold layOne; simp only; rw [setI_len, setI_len]; exact h.wl
 ·have h1 : k < S := h1
  rw [en k (by omega) h1 (by omega) 0 (by omega)]
  exact h.zero k (by omega) h1
 ·have hu := pS_upd (c := ⟨A, S, T⟩) (ws := s.ws) (ws' := (layOne A T i t s).ws) (i := i) (fun k h0 h1 hk => by
   unfold pot
   rw [en k h0 h1 hk 0 (by omega), en k h0 h1 hk 1 (by omega)]) S (by show (S : Int) ≤ S; omega) (by show (i : Int) < S; omega)
  simp only at hu
  rw [if_pos (by omega), if_pos (by omega), hp0, hpi] at hu
  have hc := h.cost
  show pS _ _ ((S : Int)).toNat = _
  have hc : pS ⟨A, S, T⟩ s.ws ((S : Int)).toNat = oS s.ob := hc
  rw [Int.toNat_natCast] at hc ⊢
  show _ = oS (s.ob ++ [⟨i, (s.a : Int) + 8 * t.g, roundI t.z, decide (0 < t.p)⟩])
  rw [oS_app]
  show _ = oS s.ob + ((3 + 2 * (roundI t.z).toNat) + 0)
  omega
 ·have ho : o ∈ s.ob ++ [⟨i, (s.a : Int) + 8 * t.g, roundI t.z, decide (0 < t.p)⟩] := ho
  rcases List.mem_append.1 ho with g | g
  ·exact h.size o g
  ·simp at g; subst g; exact hr
 ·show (s.ob ++ [_]).length = i + 1
  rw [List.length_append, h.len]; rfl
 ·unfold layOne
  simp only
  rw [getI_ne (by omega), getI_ne (by omega)]
  exact h.ep

theorem laid_all {A S T : Nat} (hm : Cfg.may ⟨A, S, T⟩) : ∀ (l : List Th) (i : Nat) (s r : LaySt), Laid ⟨A, S, T⟩ i s → i + l.length ≤ S → layAll A T l i s = some r → Laid ⟨A, S, T⟩ (i + l.length) r
 | [], i, s, r, h, _, e => by
   unfold layAll at e
   injection e with e
   subst e; exact h
 | t :: l, i, s, r, h, hl, e => by
   unfold layAll at e
   rw [List.length_cons] at hl ⊢
   by_cases ht : okTh A s.a t
   ·rw [if_pos ht] at e
    have := laid_all hm l (i + 1) _ r (laid_one hm h (by omega) ht) (by omega) e
    rw [show i + (l.length + 1) = i + 1 + l.length by omega]; exact this
   ·rw [if_neg ht] at e; cases e

theorem laid_start {A S T : Nat} (hm : Cfg.may ⟨A, S, T⟩) (bs : List Int) : Laid ⟨A, S, T⟩ 0 ⟨0, startL ⟨A, S, T⟩, bs, []⟩ := by
 have hm' := hm
 unfold Cfg.may at hm'
 simp only at hm'
 refine ⟨startL_len _, fun k h0 h1 => start_slot hm (by omega) h1, ?_, fun o ho => (by cases ho), rfl, ?_⟩
 rotate_left
 ·refine getI_nat (k := 3) ?_
  unfold startL
  rw [List.getElem?_set_ne (by omega), partL_get _ _ (by unfold wordsI; simp only; omega)]
  unfold partW
  simp only
  rw [if_neg (by omega)]
 exact pS_zero _ (by show (((S : Int)).toNat : Int) ≤ S; omega) fun s h0 h1 => start_slot hm h0 h1

theorem lay_cost {A S T : Nat} {l : List Th} {tail : Int} {bs : List Int} {r : LaySt} (hm : Cfg.may ⟨A, S, T⟩) (h : layR A S T l tail (startL ⟨A, S, T⟩) bs = some r) :
  r.ws.length = (wordsI ⟨A, S, T⟩).toNat ∧ (∀ o ∈ r.ob, 8 ≤ o.n ∧ o.n ≤ 256) ∧ r.ob.length = l.length ∧ getI r.ws 3 = 0 ∧ phi (mc0 ⟨A, S, T⟩) r.ws = 2 * S + T + 5 + oS r.ob := by
 have hm' := hm
 unfold Cfg.may at hm'
 simp only at hm'
 unfold layR at h
 by_cases hg : l.length ≤ S ∧ 0 ≤ tail ∧ tail ≤ 100
 ·rw [if_pos hg] at h
  cases hr : layAll A T l 0 ⟨0, startL ⟨A, S, T⟩, bs, []⟩ with
  | none => rw [hr] at h; cases h
  | some s =>
    rw [hr] at h
    have hL := laid_all hm l 0 _ s (laid_start hm bs) (by omega) hr
    rw [Option.map_some] at h
    injection h with h
    subst h
    refine ⟨by simp only [setI_len]; exact hL.wl, hL.size, by have := hL.len; simp only; omega, by simp only; rw [getI_ne (by omega)]; exact hL.ep, ?_⟩
    have hc : pS ⟨A, S, T⟩ s.ws ((S : Int)).toNat = oS s.ob := hL.cost
    have hu := pS_upd (c := ⟨A, S, T⟩) (ws := s.ws) (ws' := setI s.ws 0 (min ((s.a : Int) + 8 * tail) A)) (i := -1) (fun k h0 h1 hk => by
     have h2 := slotI_lt hm h0 h1 (k := 0) (by omega)
     have h3 := slotI_lt hm h0 h1 (k := 1) (by omega)
     unfold pot
     rw [getI_ne (by omega), getI_ne (by omega)]) S (by show (S : Int) ≤ S; omega) (by show (-1 : Int) < S; omega)
    simp only at hu
    rw [if_neg (by omega), if_neg (by omega)] at hu
    unfold phi
    show (if (1 : Int) = 1 then 2 + 2 * ((S : Int)).toNat + pS ⟨A, S, T⟩ (setI s.ws 0 (min ((s.a : Int) + 8 * tail) A)) ((S : Int)).toNat + ((T : Int)).toNat + 3 else _) = _
    rw [if_pos rfl]
    rw [Int.toNat_natCast] at hc ⊢
    rw [Int.toNat_natCast]
    simp only
    omega
 ·rw [if_neg hg] at h; cases h

theorem pS_same {c : Cfg} {ws ws' : List Int} (hm : c.may) (h : ∀ i : Int, 5 ≤ i → getI ws' i = getI ws i) {k : Nat} (hk : (k : Int) ≤ c.S) : pS c ws' k = pS c ws k := by
 have hm' := hm
 unfold Cfg.may at hm'
 have hu := pS_upd (c := c) (ws := ws) (ws' := ws') (i := -1) (fun s h0 h1 _ => by
  have h2 := slotI_lt hm h0 h1 (k := 0) (by omega)
  have h3 := slotI_lt hm h0 h1 (k := 1) (by omega)
  unfold pot
  rw [h _ (by omega), h _ (by omega)]) k hk (by omega)
 rw [if_neg (by omega), if_neg (by omega)] at hu
 exact hu
theorem phi_same {c : Cfg} {ws ws' : List Int} (hm : c.may) (h : ∀ i : Int, 5 ≤ i → getI ws' i = getI ws i) : phi (mc0 c) ws' = phi (mc0 c) ws := by
 unfold phi
 rw [if_pos (show (mc0 c).next = 1 from rfl), if_pos (show (mc0 c).next = 1 from rfl)]
 show 2 + 2 * c.S.toNat + pS c ws' c.S.toNat + _ + 3 = 2 + 2 * c.S.toNat + pS c ws c.S.toNat + _ + 3
 rw [pS_same hm h (by unfold Cfg.may at hm; omega)]
end Go.Proofs.Ytfpfknafcgkcjaa

/- A pass alone ends: the law's run. -/
set_option linter.unusedVariables false
set_option linter.unusedSimpArgs false
namespace Go.Proofs.Ytfpfknafcgkcjaa
open Go Go.Ir

theorem th_block {h : Heap} {v : Value} {l : List Th} (hv : Sl h 4 v (tcs l)) (h0 : 0 < l.length) : ∀ a len cap, v = .slice (some a) len cap → a.block < h.length := by
 intro a len cap e
 obtain ⟨a', cap', e', hld⟩ := th_cells hv h0
 rw [e] at e'
 injection e' with e1 e2 e3
 injection e1 with e1
 subst e1
 have := (hld 0 _ (List.getElem?_eq_getElem h0)).1
 simp only [loadV, ld1, hrow] at this
 exact Decidable.byContradiction fun hn => by
  rw [List.getElem?_eq_none (by omega)] at this
  cases this

theorem obj_cells {h : Heap} {v : Value} {l : List Obj} (hv : Sl h 4 v (css l)) (h0 : 0 < l.length) : ∃ a cap, v = .slice (some a) l.length cap ∧ ∀ (i : Nat) (o : Obj), l[i]? = some o → loadV h none ⟨a.block, a.off + i * 4 + 2, none⟩ = some (I o.n) := by
 obtain ⟨a, cap, h1, h2⟩ := hv.row (fun e => by have := congrArg List.length e; simp [css] at this; subst this; simp at h0)
 rw [show (css l).length = l.length by simp [css]] at h1
 refine ⟨a, cap, h1, fun i o ho => ?_⟩
 have g := (h2 i o.cs (by simp [css, ho])).1
 exact g 2 _ rfl

theorem oS_le {l : List Obj} (h : ∀ o ∈ l, 8 ≤ o.n ∧ o.n ≤ 256) : oS l ≤ 515 * l.length := by
 induction l with
 | nil => simp [oS]
 | cons o l ih =>
   have h1 := h o (by simp)
   have h2 := ih fun x hx => h x (by simp [hx])
   unfold oS
   rw [List.length_cons]
   omega

theorem mc_inv (m : Mc) (ws bs : List Int) (h : Al ws m ∧ m.next ≠ 0) : m.wf ∧ m.next ≠ 0 ∧ ((stepM m ws bs).1.2 = none → Al (stepM m ws bs).2.1 (stepM m ws bs).1.1 ∧ (stepM m ws bs).1.1.next ≠ 0) :=
 ⟨h.1.wf, h.2, fun hr => by
   obtain ⟨b, _, hg⟩ := step_good bs h.1 h.2
   exact ⟨(hg.1 hr).1, (hg.1 hr).2.1⟩⟩

set_option maxHeartbeats 3200000 in
theorem ends_run (c : Cfg) {h : Heap} {v : Value} {l : List Th} (tail : Int) (hv : Sl h 4 v (tcs l)) : ∃ h', callR En 0 Id.sidingslaw18_CompactEnds [.agg c.cs.toArray, v, I tail] h = some (.bool true, h') := by
 have key : ∃ u h', callR En 0 Id.sidingslaw18_CompactEnds [.agg c.cs.toArray, v, I tail] h = some (u, h') ∧ u = .bool true := by
  refine call_ex rfl Fn.sidingslaw18_CompactEnds rfl rfl ?_
  refine Exists.elim hv.len fun base hq => Exists.elim hq fun cap hve => ?_
  rw [tcs_length] at hve
  by_cases hm : c.may
  ·have hM := fun lo h => may_spec lo h c
   rw [decide_eq_true hm] at hM
   rcases c with ⟨A, S, T⟩
   have hm' := hm
   unfold Cfg.may at hm'
   simp only at hm'
   refine Exists.elim (show ∃ a : Nat, A = a from ⟨A.toNat, by omega⟩) fun a ha => ?_
   refine Exists.elim (show ∃ a : Nat, S = a from ⟨S.toNat, by omega⟩) fun s hs => ?_
   refine Exists.elim (show ∃ a : Nat, T = a from ⟨T.toNat, by omega⟩) fun t ht => ?_
   subst ha hs ht
   refine Exists.elim (start_may 0 h hm (Nat.zero_le _)) fun H1 hq => ?_
   have hS := hq.1
   have hC1 := hq.2.1
   have hx1 := hq.2.2.1
   clear hq
   rw [Cfg.cs] at hS ⊢
   simp only at hS ⊢
   by_cases hl : l.length ≤ 20
   ·refine Exists.elim (lay_spec' (tail := tail) hm hC1 (hv.ext hx1) (fun h0 a' len' cap' e => by
     have := th_block hv h0 a' len' cap' e
     simp only [newC, List.mem_cons, List.not_mem_nil, or_false]
     omega) hl) fun u hq => Exists.elim hq fun H2 hq => ?_
    have hL := hq.1
    have hQ := hq.2
    clear hq
    cases hr : layR a s t l tail (startL ⟨a, s, t⟩) (List.replicate ((a : Int)).toNat 0) with
    | none =>
      rw [hr] at hQ
      unfold LayQ at hQ
      simp only at hQ
      subst hQ
      subst hve
      repeat' (first | (show ER _ _ _ _ _ _ _; first | refine ER.seq ?_ | refine ER.reg ?_ | refine ER.yes rfl ?_ | refine ER.no rfl ?_ | refine ER.skip ?_ | refine ER.block ?_ | refine ER.endB ?_ | refine ER.exit rfl ?_ | refine ER.br rfl (fun hc => ?_) (fun hc => ?_) | refine ER.scope ?_ | refine ER.inScope ?_ | refine ER.label ?_ | refine ER.ret rfl ?_ | refine ER.nil rfl ?_) | (show EG _ _ _ _ _ _ _ _ _; first | refine EG.mov rfl rfl ?_ | refine EG.lload rfl rfl rfl rfl ?_ | refine EG.laddr rfl rfl rfl ?_ | (show EG _ _ (⟨_, .bin _ _ _, _, _⟩ :: _) _ _ _ _ _ _; first | refine EG.lss rfl rfl rfl (fun hc => ?_) (fun hc => ?_) | refine EG.leq rfl rfl rfl (fun hc => ?_) (fun hc => ?_) | refine EG.gtrT rfl rfl rfl (by omega) ?_ | refine EG.gtrF rfl rfl rfl (by omega) ?_ | refine EG.geq rfl rfl rfl (fun hc => ?_) (fun hc => ?_) | refine EG.eql rfl rfl rfl (fun hc => ?_) (fun hc => ?_) | refine EG.neq rfl rfl rfl (fun hc => ?_) (fun hc => ?_)) | (show EG _ _ (⟨_, .call _ _, _, _⟩ :: _) _ _ _ _ _ _; first | refine EG.call rfl rfl (hS) ?_ | refine EG.call rfl rfl (hL) ?_ | refine EG.call rfl rfl (live_c _ _) ?_) | refine EG.skip rfl ?_ | refine EG.fin ?_ | refine EG.go rfl rfl rfl ?_ | refine EG.gono rfl rfl rfl ?_ | refine EG.skipn rfl ?_))
      rfl
    | some r =>
      rw [hr] at hQ
      unfold LayQ at hQ
      simp only at hQ
      obtain ⟨ov, hu, hC2, hov, hk2⟩ := hQ
      subst hu
      obtain ⟨q1, q2, q3, _, q4⟩ := lay_cost hm hr
      have hle := oS_le q2
      refine Exists.elim hov.len fun ob hq => Exists.elim hq fun oc hoe => ?_
      rw [show (css r.ob).length = l.length by rw [← q3]; simp [css]] at hoe
      have hoc : 0 < r.ob.length → _ := fun h0 => obj_cells hov h0
      subst hve
      subst hoe
      repeat' (first | (show ER _ _ _ _ _ _ _; first | refine ER.seq ?_ | refine ER.reg ?_ | refine ER.yes rfl ?_ | refine ER.no rfl ?_ | refine ER.skip ?_ | refine ER.block ?_ | refine ER.endB ?_ | refine ER.exit rfl ?_ | refine ER.br rfl (fun hc => ?_) (fun hc => ?_) | refine ER.scope ?_ | refine ER.inScope ?_ | refine ER.label ?_ | refine ER.ret rfl ?_ | refine ER.nil rfl ?_) | (show EG _ _ _ _ _ _ _ _ _; first | refine EG.mov rfl rfl ?_ | refine EG.lload rfl rfl rfl rfl ?_ | refine EG.laddr rfl rfl rfl ?_ | (show EG _ _ (⟨_, .bin _ _ _, _, _⟩ :: _) _ _ _ _ _ _; first | refine EG.lss rfl rfl rfl (fun hc => ?_) (fun hc => ?_) | refine EG.leq rfl rfl rfl (fun hc => ?_) (fun hc => ?_) | refine EG.gtrT rfl rfl rfl (by omega) ?_ | refine EG.gtrF rfl rfl rfl (by omega) ?_ | refine EG.geq rfl rfl rfl (fun hc => ?_) (fun hc => ?_) | refine EG.eql rfl rfl rfl (fun hc => ?_) (fun hc => ?_) | refine EG.neq rfl rfl rfl (fun hc => ?_) (fun hc => ?_) | refine EG.addN rfl rfl rfl (by omega) ?_ | refine EG.addN (b := 1) rfl rfl rfl (by omega) ?_ | refine EG.subN rfl rfl rfl (by omega) ?_ | refine EG.subN (b := 1) rfl rfl rfl (by omega) ?_ | refine EG.mulN (b := 2) rfl rfl rfl (by omega) ?_ | refine EG.mulN (a := 2) rfl rfl rfl (by omega) ?_ | refine EG.addN (a := 2) rfl rfl rfl (by omega) ?_ | refine EG.addN (b := 2) rfl rfl rfl (by omega) ?_) | (show EG _ _ (⟨_, .call _ _, _, _⟩ :: _) _ _ _ _ _ _; first | refine EG.call rfl rfl (hS) ?_ | refine EG.call rfl rfl (hL) ?_) | refine EG.skip rfl ?_ | refine EG.fin ?_ | refine EG.go rfl rfl rfl ?_ | refine EG.gono rfl rfl rfl ?_ | refine EG.skipn rfl ?_))
      refine .loop (fun n f H => ∃ (i b : Nat), n + i = l.length ∧ f = [(3, .agg #[N a, N s, N t]), (7, ptrC (newC h)), (8, .slice ob l.length oc), (10, N b), (11, N i)] ∧ H = H2 ∧ b + oS (r.ob.drop i) = phi (mc0 ⟨a, s, t⟩) r.ws) (n := l.length)
       (by refine ⟨0, _, rfl, rfl, rfl, ?_⟩; rw [q4, List.drop_zero]; omega) ?_
      rintro n f H ⟨i, b, hn, rfl, rfl, hb⟩ next
      by_cases hi : i < l.length
      ·have hi' : i < r.ob.length := by omega
       have hgi : r.ob[i]? = some r.ob[i] := List.getElem?_eq_getElem hi'
       have hd := oS_drop hgi
       have hz := q2 _ (List.getElem_mem hi')
       generalize r.ob[i] = o at hgi hd hz
       refine Exists.elim (hoc (by omega)) fun ao hq => Exists.elim hq fun co hq => ?_
       have hab := hq.1
       have hld := hq.2 i o hgi
       clear hoc hq
       injection hab with e1 e2 e3
       subst e1 e3
       refine Exists.elim (show ∃ z : Nat, o.n = z from ⟨o.n.toNat, by omega⟩) fun z hz' => ?_
       rw [hz'] at hld hz hd
       repeat' (first | (show ER _ _ _ _ _ _ _; first | refine ER.seq ?_ | refine ER.reg ?_ | refine ER.yes rfl ?_ | refine ER.no rfl ?_ | refine ER.skip ?_ | refine ER.block ?_ | refine ER.endB ?_ | refine ER.exit rfl ?_ | refine ER.br rfl (fun hc => ?_) (fun hc => ?_) | refine ER.scope ?_ | refine ER.inScope ?_ | refine ER.label ?_ | refine ER.ret rfl ?_ | refine ER.nil rfl ?_) | (show EG _ _ _ _ _ _ _ _ _; first | refine EG.mov rfl rfl ?_ | refine EG.lload rfl rfl rfl rfl ?_ | refine EG.laddr rfl rfl rfl ?_ | (show EG _ _ (⟨_, .bin _ _ _, _, _⟩ :: _) _ _ _ _ _ _; first | refine EG.lssT rfl rfl rfl (by omega) ?_ | refine EG.lssF rfl rfl rfl (by omega) ?_ | refine EG.leq rfl rfl rfl (fun hc => ?_) (fun hc => ?_) | refine EG.gtr rfl rfl rfl (fun hc => ?_) (fun hc => ?_) | refine EG.geq rfl rfl rfl (fun hc => ?_) (fun hc => ?_) | refine EG.eql rfl rfl rfl (fun hc => ?_) (fun hc => ?_) | refine EG.neq rfl rfl rfl (fun hc => ?_) (fun hc => ?_) | refine EG.addN rfl rfl rfl (by omega) ?_ | refine EG.addN (b := 1) rfl rfl rfl (by omega) ?_ | refine EG.subN rfl rfl rfl (by omega) ?_ | refine EG.subN (b := 1) rfl rfl rfl (by omega) ?_ | refine EG.mulN (b := 2) rfl rfl rfl (by omega) ?_ | refine EG.mulN (a := 2) rfl rfl rfl (by omega) ?_ | refine EG.addN (b := 3) rfl rfl rfl (by omega) ?_) | refine EG.load rfl rfl (hld) ?_ | refine EG.iaddr rfl rfl rfl (hi) ?_ | refine EG.skip rfl ?_ | refine EG.fin ?_ | refine EG.go rfl rfl rfl ?_ | refine EG.gono rfl rfl rfl ?_ | refine EG.skipn rfl ?_))
       exact next (n - 1) _ _ (by omega) ⟨i + 1, _, by omega, rfl, rfl, by rw [← hb, hd]; omega⟩
      ·rw [List.drop_of_length_le (by omega)] at hb
       have hb : b = phi (mc0 ⟨a, s, t⟩) r.ws := hb
       have hN := fun lo => newM_spec lo H hm
       have hal := mc0_al hm q1
       refine Exists.elim (run_spec (Inv := fun m ws _ => Al ws m ∧ m.next ≠ 0) (fun m ws bs hi => mc_inv m ws bs hi) (mc0_at H ⟨a, s, t⟩) (hC2.app _) (mc0_disj hC2) ⟨hal, by show (1 : Int) ≠ 0; omega⟩ b (by omega)) fun u hq => Exists.elim hq fun H3 hq => ?_
       have hR := hq.1
       have hv3 := hq.2.1
       clear hq
       have he := run_ends b _ _ r.bs hal (by show (1 : Int) ≠ 0; omega) (by omega)
       obtain ⟨k, hk⟩ := he.1
       have he2 := he.2
       rw [hk, if_neg (by simp)] at hv3
       generalize (runM b (mc0 ⟨a, s, t⟩) r.ws r.bs).2.1 = cnt at hv3 he2
       unfold runV at hv3
       simp only at hv3
       subst hv3
       rw [Cfg.cs] at hN
       simp only at hN
       repeat' (first | (show ER _ _ _ _ _ _ _; first | refine ER.seq ?_ | refine ER.reg ?_ | refine ER.yes rfl ?_ | refine ER.no rfl ?_ | refine ER.skip ?_ | refine ER.block ?_ | refine ER.endB ?_ | refine ER.exit rfl ?_ | refine ER.br rfl (fun hc => ?_) (fun hc => ?_) | refine ER.scope ?_ | refine ER.inScope ?_ | refine ER.label ?_ | refine ER.ret rfl ?_ | refine ER.nil rfl ?_) | (show EG _ _ _ _ _ _ _ _ _; first | refine EG.mov rfl rfl ?_ | refine EG.lload rfl rfl rfl rfl ?_ | refine EG.laddr rfl rfl rfl ?_ | (show EG _ _ (⟨_, .bin _ _ _, _, _⟩ :: _) _ _ _ _ _ _; first | refine EG.lssT rfl rfl rfl (by omega) ?_ | refine EG.lssF rfl rfl rfl (by omega) ?_ | refine EG.leqT rfl rfl rfl (by omega) ?_ | refine EG.leqF rfl rfl rfl (by omega) ?_ | refine EG.gtr rfl rfl rfl (fun hc => ?_) (fun hc => ?_) | refine EG.geq rfl rfl rfl (fun hc => ?_) (fun hc => ?_) | refine EG.eqlT rfl rfl rfl (by omega) ?_ | refine EG.eqlF rfl rfl rfl (by omega) ?_ | refine EG.neq rfl rfl rfl (fun hc => ?_) (fun hc => ?_)) | (show EG _ _ (⟨_, .call _ _, _, _⟩ :: _) _ _ _ _ _ _; first | refine EG.call rfl rfl (hN _) ?_ | refine EG.call rfl rfl (hR) ?_ | refine EG.call rfl rfl (live_c _ _) ?_) | refine EG.skip rfl ?_ | refine EG.fin ?_ | refine EG.go rfl rfl rfl ?_ | refine EG.gono rfl rfl rfl ?_ | refine EG.skipn rfl ?_))
       rfl
   ·subst hve
    repeat' (first | (show ER _ _ _ _ _ _ _; first | refine ER.seq ?_ | refine ER.reg ?_ | refine ER.yes rfl ?_ | refine ER.no rfl ?_ | refine ER.skip ?_ | refine ER.block ?_ | refine ER.endB ?_ | refine ER.exit rfl ?_ | refine ER.br rfl (fun hc => ?_) (fun hc => ?_) | refine ER.scope ?_ | refine ER.inScope ?_ | refine ER.label ?_ | refine ER.ret rfl ?_ | refine ER.nil rfl ?_) | (show EG _ _ _ _ _ _ _ _ _; first | refine EG.mov rfl rfl ?_ | refine EG.lload rfl rfl rfl rfl ?_ | refine EG.laddr rfl rfl rfl ?_ | (show EG _ _ (⟨_, .bin _ _ _, _, _⟩ :: _) _ _ _ _ _ _; first | refine EG.lss rfl rfl rfl (fun hc => ?_) (fun hc => ?_) | refine EG.leq rfl rfl rfl (fun hc => ?_) (fun hc => ?_) | refine EG.gtrT rfl rfl rfl (by omega) ?_ | refine EG.gtrF rfl rfl rfl (by omega) ?_ | refine EG.geq rfl rfl rfl (fun hc => ?_) (fun hc => ?_) | refine EG.eql rfl rfl rfl (fun hc => ?_) (fun hc => ?_) | refine EG.neq rfl rfl rfl (fun hc => ?_) (fun hc => ?_)) | (show EG _ _ (⟨_, .call _ _, _, _⟩ :: _) _ _ _ _ _ _; first | refine EG.call rfl rfl (hS) ?_ | refine EG.call rfl rfl (hM _ _) ?_ | refine EG.call rfl rfl (live_c _ _) ?_) | refine EG.skip rfl ?_ | refine EG.fin ?_ | refine EG.go rfl rfl rfl ?_ | refine EG.gono rfl rfl rfl ?_ | refine EG.skipn rfl ?_))
    rfl
  ·have hM := fun lo h => may_spec lo h c
   rw [decide_eq_false hm] at hM
   have hS := start_not 0 h hm
   subst hve
   repeat' (first | (show ER _ _ _ _ _ _ _; first | refine ER.seq ?_ | refine ER.reg ?_ | refine ER.yes rfl ?_ | refine ER.no rfl ?_ | refine ER.skip ?_ | refine ER.block ?_ | refine ER.endB ?_ | refine ER.exit rfl ?_ | refine ER.br rfl (fun hc => ?_) (fun hc => ?_) | refine ER.scope ?_ | refine ER.inScope ?_ | refine ER.label ?_ | refine ER.ret rfl ?_ | refine ER.nil rfl ?_) | (show EG _ _ _ _ _ _ _ _ _; first | refine EG.mov rfl rfl ?_ | refine EG.lload rfl rfl rfl rfl ?_ | refine EG.laddr rfl rfl rfl ?_ | (show EG _ _ (⟨_, .bin _ _ _, _, _⟩ :: _) _ _ _ _ _ _; first | refine EG.lss rfl rfl rfl (fun hc => ?_) (fun hc => ?_) | refine EG.leq rfl rfl rfl (fun hc => ?_) (fun hc => ?_) | refine EG.gtr rfl rfl rfl (fun hc => ?_) (fun hc => ?_) | refine EG.geq rfl rfl rfl (fun hc => ?_) (fun hc => ?_) | refine EG.eql rfl rfl rfl (fun hc => ?_) (fun hc => ?_) | refine EG.neq rfl rfl rfl (fun hc => ?_) (fun hc => ?_)) | (show EG _ _ (⟨_, .call _ _, _, _⟩ :: _) _ _ _ _ _ _; first | refine EG.call rfl rfl (hS) ?_ | refine EG.call rfl rfl (hM _ _) ?_ | refine EG.call rfl rfl (live_c _ _) ?_) | refine EG.skip rfl ?_ | refine EG.fin ?_ | refine EG.go rfl rfl rfl ?_ | refine EG.gono rfl rfl rfl ?_ | refine EG.skipn rfl ?_))
   rfl
 obtain ⟨u, h', h1, rfl⟩ := key
 exact ⟨h', h1⟩
end Go.Proofs.Ytfpfknafcgkcjaa

/- Things as an argument. -/
set_option linter.unusedVariables false
set_option linter.unusedSimpArgs false
set_option linter.constructorNameAsVariable false
namespace Go.Proofs.Ytfpfknafcgkcjaa
open Go Go.Ir Go.ChangeShapes Go.WideShapes

theorem cellsOf65 : Try.prog.cellsOf 65 = 4 := by kernel_rfl
theorem open_T65 {H : Type} {enc : TypeId × Value → H} {W : World} {base : Nat} {spare : Nat → Bool} {held : Bool} {n : Nat} {cs : List Value} {x : DataW H × List MemPlace} (h : DataW.trod enc Try.prog W base spare held n 65 cs = some x) :
  ∃ (a0 : Int) (a1 : Int) (a2 : Int) (a3 : Int), cs = [.int .i64 a0, .int .i64 a1, .int .i64 a2, .int .i64 a3] := by
 obtain ⟨xs, m, _, _, hlen, hxl, hf⟩ := DataW.trod_struct Try.underlying65 h
 rw [cellsOf65] at hlen
 have hx : xs.length = 4 := hxl
 have g0 : DataW.trod enc Try.prog W base spare held m 3 ((cs.drop 0).take (Try.prog.cellsOf 3)) = xs[0]? := hf 0 _ rfl
 rw [cellsOf3, List.getElem?_eq_getElem (by omega)] at g0
 have g1 : DataW.trod enc Try.prog W base spare held m 3 ((cs.drop 1).take (Try.prog.cellsOf 3)) = xs[1]? := hf 1 _ rfl
 rw [cellsOf3, List.getElem?_eq_getElem (by omega)] at g1
 have g2 : DataW.trod enc Try.prog W base spare held m 3 ((cs.drop 2).take (Try.prog.cellsOf 3)) = xs[2]? := hf 2 _ rfl
 rw [cellsOf3, List.getElem?_eq_getElem (by omega)] at g2
 have g3 : DataW.trod enc Try.prog W base spare held m 3 ((cs.drop 3).take (Try.prog.cellsOf 3)) = xs[3]? := hf 3 _ rfl
 rw [cellsOf3, List.getElem?_eq_getElem (by omega)] at g3
 obtain ⟨b0, e0, _, _⟩ := DataW.trod_int Try.underlying3 g0
 obtain ⟨b1, e1, _, _⟩ := DataW.trod_int Try.underlying3 g1
 obtain ⟨b2, e2, _, _⟩ := DataW.trod_int Try.underlying3 g2
 obtain ⟨b3, e3, _, _⟩ := DataW.trod_int Try.underlying3 g3
 refine ⟨b0, b1, b2, b3, List.ext_getElem? fun i => ?_⟩
 match i with
 | 0 => exact take1 cs e0
 | 1 => exact take1 cs e1
 | 2 => exact take1 cs e2
 | 3 => exact take1 cs e3
 | i + 4 => rw [List.getElem?_eq_none (by omega)]; rfl



section
variable {H : Type} {enc : TypeId × Value → H} {W : World} {base : Nat} {spare : Nat → Bool} {held : Bool} {n : Nat} {cs : List Value} {x : DataW H × List MemPlace}
theorem open_th (h : DataW.trod enc Try.prog W base spare held n 65 cs = some x) : ∃ t : Th, cs = t.cs := by
 obtain ⟨a0, a1, a2, a3, rfl⟩ := open_T65 h
 exact ⟨⟨a0, a1, a2, a3⟩, rfl⟩
instance : Inhabited Th := ⟨⟨0, 0, 0, 0⟩⟩
set_option maxRecDepth 8000 in
theorem open_ths {E : Emb} {h : Heap} (s : Sim W.heap.size W E h W) (hro : RoH h) {b0 : Nat} {r : Reach} {v0 : Value} {d0 : DataW H} {p0 : List MemPlace} (hval : Value.okWide Try.prog W r b0 24 v0) (hd : DataW.Trod enc Try.prog W base spare held 24 v0 d0 p0) :
  ∃ E' h' v l, Sim W.heap.size W E' h' W ∧ E.le E' ∧ RoH h' ∧ Ext h h' ∧ VR E' v v0 ∧ Sl h' 4 v (tcs l) ∧ TightV v l.length :=
 open_row Th.cs Try.underlying24 cellsOf65 (by decide) (fun a => ⟨rfl, rfl, rfl⟩) open_th s hro hval hd
end
end Go.Proofs.Ytfpfknafcgkcjaa
