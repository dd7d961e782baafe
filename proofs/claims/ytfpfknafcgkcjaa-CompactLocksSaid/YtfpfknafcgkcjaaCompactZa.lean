/- Laid objects are placed ones. Plain. -/
import Derived.Test.YtfpfknafcgkcjaaCompactX
import Derived.Test.YtfpfknafcgkcjaaCompactZ
import Derived.Test.YtfpfknafcgkcjaaCompactV

set_option linter.unusedVariables false
set_option linter.unusedSimpArgs false
namespace Go.Proofs.Ytfpfknafcgkcjaa
open Go Go.Ir

def plOf (a i : Nat) (t : Th) : Pl := ⟨(a : Int) + 8 * t.g, i, t.p, roundI t.z, t.z⟩

theorem fillB_get {bs : List Int} {a : Nat} {f : Int} : ∀ {n : Nat} (i : Int), a + n ≤ bs.length → getI (fillB bs a f n) i = if (a : Int) ≤ i ∧ i < a + n then byteI (w64 (f + (i - a))) else getI bs i
 | 0, i, _ => by rw [if_neg (by omega)]; rfl
 | n + 1, i, h => by
   have ih := fillB_get (bs := bs) (a := a) (f := f) (n := n) i (by omega)
   unfold fillB
   by_cases he : i = ((a + n : Nat) : Int)
   ·rw [he, getI_same (by omega) (by rw [fillB_len]; omega), if_pos (by omega), show (((a + n : Nat) : Int) - a) = (n : Nat) by omega]
   ·rw [getI_ne (fun h => he h.symm), ih]
    by_cases hc : (a : Int) ≤ i ∧ i < a + n
    ·rw [if_pos hc, if_pos (by omega)]
    ·rw [if_neg hc, if_neg (by omega)]

structure Placed (c : Cfg) (l : List Th) (P : List Pl) (s : LaySt) : Prop where
 wds : Wds c P none s.ws
 ok : ∀ q ∈ P, q.Ok s.a
 apart : Apart P
 aA : (s.a : Int) ≤ c.A
 bl : s.bs.length = c.A.toNat
 rng : ∀ i : Int, 0 ≤ getI s.bs i ∧ getI s.bs i < 256
 cost : oS s.ob ≤ 3 * P.length + 2 * s.a
 ths : ∀ (j : Nat) (q : Pl), P[j]? = some q → ∃ t, l[j]? = some t ∧ q.g = j ∧ q.p = t.p ∧ q.z = t.z ∧ ∀ k : Int, 0 ≤ k → k < q.n → getI s.bs (q.o + k) = byteI (w64 (t.f + k))
 obj : s.ob.length = P.length ∧ ∀ (j : Nat) (q : Pl), P[j]? = some q → s.ob[j]? = some ⟨(j : Nat), q.o, q.n, decide (0 < q.p)⟩

theorem placed_one {A S T : Nat} {l : List Th} {P : List Pl} {t : Th} {s : LaySt} (hm : Cfg.may ⟨A, S, T⟩) (h : Placed ⟨A, S, T⟩ l P s) (hi : P.length < S) (hl : l[P.length]? = some t) (ht : okTh A s.a t) :
  Placed ⟨A, S, T⟩ l (P ++ [plOf s.a P.length t]) (layOne A T P.length t s) := by
 have hm' := hm
 unfold Cfg.may at hm'
 simp only at hm'
 unfold okTh at ht
 have hr : 8 ≤ roundI t.z ∧ roundI t.z ≤ 256 := by unfold roundI; omega
 have ha := h.aA
 simp only at ha
 have hbl := h.bl
 simp only at hbl
 have ea : ((layOne A T P.length t s).a : Int) = s.a + 8 * t.g + roundI t.z := by
  unfold layOne
  simp only
  omega
 have s0 : slotI ⟨A, S, T⟩ P.length 0 = ((4 + T + 3 * P.length : Nat) : Int) := by
  rw [(slotI_lt hm (s := (P.length : Nat)) (k := 0) (by omega) (by show (P.length : Int) < S; omega) (by omega)).1]
  show 4 + (T : Int) + 3 * P.length + 0 = _
  omega
 have s1 : slotI ⟨A, S, T⟩ P.length 1 = ((5 + T + 3 * P.length : Nat) : Int) := by
  rw [(slotI_lt hm (s := (P.length : Nat)) (k := 1) (by omega) (by show (P.length : Int) < S; omega) (by omega)).1]
  show 4 + (T : Int) + 3 * P.length + 1 = _
  omega
 have hok : (plOf s.a P.length t).Ok (layOne A T P.length t s).a := by
  unfold plOf
  refine ⟨?_, ?_, ?_, ?_, ?_, rfl⟩
  ·show 0 ≤ (s.a : Int) + 8 * t.g; omega
  ·show (s.a : Int) + 8 * t.g + roundI t.z ≤ _; omega
  ·show (0 : Int) ≤ (P.length : Nat) ∧ ((P.length : Nat) : Int) ≤ 1000; omega
  ·show 0 ≤ t.p ∧ t.p ≤ 7; omega
  ·show 1 ≤ t.z ∧ t.z ≤ 256; omega
 have eb : ∀ i : Int, getI (layOne A T P.length t s).bs i = if ((s.a + 8 * t.g.toNat : Nat) : Int) ≤ i ∧ i < ((s.a + 8 * t.g.toNat : Nat) : Int) + (roundI t.z).toNat then byteI (w64 (t.f + (i - ((s.a + 8 * t.g.toNat : Nat) : Int)))) else getI s.bs i := fun i => by
  unfold layOne
  simp only
  exact fillB_get i (by omega)
 refine ⟨?_, fun q hq => ?_, ?_, ?_, ?_, fun i => ?_, ?_, fun j q hq => ?_, ?_, fun j q hq => ?_⟩
 ·have := h.wds.add hm (by show (P.length : Int) < S; omega) (plOf s.a P.length t)
  rw [s0, s1] at this
  exact this
 ·rcases List.mem_append.1 hq with g | g
  ·exact (h.ok q g).mono (by omega)
  ·simp at g; subst g; exact hok
 ·refine List.pairwise_append.2 ⟨h.apart, List.pairwise_singleton _ _, fun x hx y hy => ?_⟩
  simp at hy
  subst hy
  have := (h.ok x hx).of
  show x.o + x.n ≤ (s.a : Int) + 8 * t.g
  omega
 ·show ((layOne A T P.length t s).a : Int) ≤ A
  omega
 ·unfold layOne
  simp only
  rw [fillB_len]; exact hbl
 ·rw [eb]
  split
  ·exact byteI_range _
  ·exact h.rng i
 ·have hc := h.cost
  unfold layOne
  simp only
  rw [oS_app, List.length_append]
  show oS s.ob + ((3 + 2 * (roundI t.z).toNat) + 0) ≤ 3 * (P.length + 1) + 2 * (s.a + 8 * t.g.toNat + (roundI t.z).toNat)
  omega
 ·by_cases he : j < P.length
  ·rw [List.getElem?_append_left he] at hq
   obtain ⟨t', g1, g2, g3, g4, g5⟩ := h.ths j q hq
   refine ⟨t', g1, g2, g3, g4, fun k k0 k1 => ?_⟩
   have := (h.ok q (List.mem_of_getElem? hq)).of
   rw [eb, if_neg (by omega)]
   exact g5 k k0 k1
  ·have hj := (List.getElem?_eq_some_iff.1 hq).1
   rw [List.length_append] at hj
   have hj : j < P.length + 1 := hj
   have he : j = P.length := by omega
   subst he
   rw [List.getElem?_append_right (by omega), Nat.sub_self, List.getElem?_cons_zero] at hq
   have hq := Option.some.inj hq
   subst hq
   refine ⟨t, hl, rfl, rfl, rfl, fun k k0 k1 => ?_⟩
   have k1 : k < roundI t.z := k1
   show getI _ ((s.a : Int) + 8 * t.g + k) = _
   rw [eb, if_pos (by omega), show (s.a : Int) + 8 * t.g + k - ((s.a + 8 * t.g.toNat : Nat) : Int) = k by omega]
 ·unfold layOne
  simp only
  rw [List.length_append, List.length_append, h.obj.1]; rfl
 ·show (s.ob ++ [_])[j]? = _
  by_cases he : j < P.length
  ·rw [List.getElem?_append_left he] at hq
   rw [List.getElem?_append_left (by rw [h.obj.1]; exact he)]
   exact h.obj.2 j q hq
  ·have hj := (List.getElem?_eq_some_iff.1 hq).1
   rw [List.length_append] at hj
   have hj : j < P.length + 1 := hj
   have he : j = P.length := by omega
   subst he
   rw [List.getElem?_append_right (by omega), Nat.sub_self, List.getElem?_cons_zero] at hq
   have hq := Option.some.inj hq
   subst hq
   rw [List.getElem?_append_right (by rw [h.obj.1]; omega), h.obj.1, Nat.sub_self]
   rfl

theorem placed_all {A S T : Nat} {l : List Th} (hm : Cfg.may ⟨A, S, T⟩) : ∀ (r : List Th) (P : List Pl) (s z : LaySt), l.drop P.length = r → Placed ⟨A, S, T⟩ l P s → P.length + r.length ≤ S → layAll A T r P.length s = some z → ∃ P', P'.length = P.length + r.length ∧ Placed ⟨A, S, T⟩ l P' z
 | [], P, s, z, _, h, _, e => by
   unfold layAll at e
   injection e with e
   subst e
   exact ⟨P, rfl, h⟩
 | t :: r, P, s, z, hd, h, hl, e => by
   unfold layAll at e
   rw [List.length_cons] at hl ⊢
   by_cases ht : okTh A s.a t
   ·rw [if_pos ht] at e
    have hg : l[P.length]? = some t := by rw [← List.head?_drop, hd]; rfl
    have h1 := placed_one hm h (by omega) hg ht
    have hd' : l.drop (P ++ [plOf s.a P.length t]).length = r := by
     rw [List.length_append, List.length_singleton, ← List.drop_drop, hd]; rfl
    obtain ⟨P', g1, g2⟩ := placed_all hm r _ _ z hd' h1 (by rw [List.length_append, List.length_singleton]; omega) (by rw [List.length_append, List.length_singleton]; exact e)
    refine ⟨P', ?_, g2⟩
    rw [g1, List.length_append, List.length_singleton]; omega
   ·rw [if_neg ht] at e; cases e

theorem lay_placed {A S T : Nat} {l : List Th} {tail : Int} {r : LaySt} (hm : Cfg.may ⟨A, S, T⟩) (h : layR A S T l tail (startL ⟨A, S, T⟩) (List.replicate ((A : Int)).toNat 0) = some r) :
  ∃ P, P.length = l.length ∧ Placed ⟨A, S, T⟩ l P r ∧ Su ⟨A, S, T⟩ P (getI r.ws 0) := by
 have hm' := hm
 unfold Cfg.may at hm'
 simp only at hm'
 unfold layR at h
 by_cases hg : l.length ≤ S ∧ 0 ≤ tail ∧ tail ≤ 100
 ·rw [if_pos hg] at h
  have h0 : Placed ⟨A, S, T⟩ l [] ⟨0, startL ⟨A, S, T⟩, List.replicate ((A : Int)).toNat 0, []⟩ := by
   refine ⟨.start hm, fun q hq => (by cases hq), .nil, by show ((0 : Nat) : Int) ≤ A; omega, List.length_replicate, fun i => ?_, Nat.zero_le _, fun j q hq => (by cases hq), rfl, fun j q hq => (by cases hq)⟩
   show 0 ≤ getI (List.replicate ((A : Int)).toNat 0) i ∧ getI (List.replicate ((A : Int)).toNat 0) i < 256
   have : getI (List.replicate ((A : Int)).toNat 0) i = 0 := by
    unfold getI
    split
    ·rw [List.getD_eq_getElem?_getD, List.getElem?_replicate]
     split <;> rfl
    ·rfl
   omega
  cases hr : layAll A T l 0 ⟨0, startL ⟨A, S, T⟩, List.replicate ((A : Int)).toNat 0, []⟩ with
  | none => rw [hr] at h; cases h
  | some s =>
    rw [hr, Option.map_some] at h
    injection h with h
    subst h
    obtain ⟨P, g1, g2⟩ := placed_all hm l [] _ s rfl h0 (by show 0 + l.length ≤ S; omega) hr
    have g1 : P.length = l.length := by rw [g1]; show 0 + l.length = _; omega
    have hw0 : getI (setI s.ws 0 (min ((s.a : Int) + 8 * tail) A)) 0 = min ((s.a : Int) + 8 * tail) A := getI_same (by omega) (by rw [g2.wds.len]; unfold wordsI; simp only; omega)
    have ha := g2.aA
    simp only at ha
    refine ⟨P, g1, ⟨g2.wds.low hm (.inl rfl) _, g2.ok, g2.apart, g2.aA, g2.bl, g2.rng, g2.cost, g2.ths, g2.obj⟩, hm, ?_, ?_, fun q hq => ?_, g2.apart, by rw [g1]; show (l.length : Int) ≤ S; omega⟩
    ·simp only; rw [hw0]; omega
    ·simp only; rw [hw0]; omega
    ·simp only; rw [hw0]; exact (g2.ok q hq).mono (by omega)
 ·rw [if_neg hg] at h; cases h
end Go.Proofs.Ytfpfknafcgkcjaa

/- A pass alone behind a pass alone: the law's run. -/
set_option linter.unusedVariables false
set_option linter.unusedSimpArgs false
namespace Go.Proofs.Ytfpfknafcgkcjaa
open Go Go.Ir

theorem newC_ne {h H : Heap} (hl : (newC h).P < H.length) : (newC H).P ≠ (newC h).P ∧ (newC H).P ≠ (newC h).W ∧ (newC H).P ≠ (newC h).Y ∧ (newC H).W ≠ (newC h).P ∧ (newC H).W ≠ (newC h).W ∧ (newC H).W ≠ (newC h).Y ∧ (newC H).Y ≠ (newC h).P ∧ (newC H).Y ≠ (newC h).W ∧ (newC H).Y ≠ (newC h).Y := by
 unfold newC at hl ⊢
 simp only at hl ⊢
 omega

end Go.Proofs.Ytfpfknafcgkcjaa

/- The document's entries, unpacked. -/
set_option linter.unusedVariables false
set_option linter.unusedSimpArgs false
namespace Go.Proofs.Ytfpfknafcgkcjaa
open Go Go.Ir

theorem shr_e {f : Fr} {call : CallF} {lo : Nat} {h : Heap} {x y : Operand} {n k q : Nat} {j : IntKind} (hx : ev f x = some (N n)) (hy : ev f y = some (.int j (k : Nat))) (hk : k ≤ 62) (hq : n / 2 ^ k = q) : iop call lo (.bin .shr x y) f h = some (N q, h) := by
 subst hq
 simp only [iop, hx, hy, ibin, isShift, if_true, ishift]
 rw [if_neg (by omega)]
 have : min ((k : Int).toNat) IntKind.i64.bits = k := by show min _ 64 = _; omega
 rw [this, Int.fdiv_eq_ediv_of_nonneg _ (Int.le_of_lt (Int.pow_pos (by decide)))]
 simp
theorem rem_e {f : Fr} {call : CallF} {lo : Nat} {h : Heap} {x y : Operand} {a b r : Nat} (hx : ev f x = some (N a)) (hy : ev f y = some (N b)) (hb : b ≠ 0) (hr : a % b = r) : iop call lo (.bin .rem x y) f h = some (N r, h) := by
 subst hr
 have hb' : ¬ ((b : Int) = 0) := by omega
 have e1 : (a : Int).tmod (b : Int) = ((a % b : Nat) : Int) := by rw [Int.tmod_eq_emod_of_nonneg (by omega)]; rfl
 simp only [iop, hx, hy, ibin, isShift, ibinI, if_true, if_neg hb', e1]
 rfl

section
variable {E : Env} {lo : Nat} {os : List IOper} {f : Fr} {h : Heap} {hs : List Heap} {k : List Ir.Item} {rs : List IRes} {Q : Value → Heap → Prop} {d : Nat} {g : Option (Nat × Bool)} {x y : Operand}
theorem g_shr {n k' q : Nat} {j : IntKind} (hq : n / 2 ^ k' = q) (hw : want g f = some true) (hx : ev f x = some (N n)) (hy : ev f y = some (.int j (k' : Nat))) (hk : k' ≤ 62) (c : EG E lo os hs k ((d, N q) :: f) h rs Q) :
  EG E lo (⟨some d, .bin .shr x y, g, 0⟩ :: os) hs k f h rs Q := .go hw (shr_e hx hy hk hq) rfl c
theorem g_rem {a b r : Nat} (hr : a % b = r) (hw : want g f = some true) (hx : ev f x = some (N a)) (hy : ev f y = some (N b)) (hb : b ≠ 0) (c : EG E lo os hs k ((d, N r) :: f) h rs Q) :
  EG E lo (⟨some d, .bin .rem x y, g, 0⟩ :: os) hs k f h rs Q := .go hw (rem_e hx hy hb hr) rfl c
theorem g_eql {p q : Int} {j : IntKind} {b : Bool} (hb : decide (p = q) = b) (hw : want g f = some true) (hx : ev f x = some (.int j p)) (hy : ev f y = some (.int j q)) (c : EG E lo os hs k ((d, .bool b) :: f) h rs Q) :
  EG E lo (⟨some d, .bin .eql x y, g, 0⟩ :: os) hs k f h rs Q := .eql hw hx hy (fun t => by rw [decide_eq_true t] at hb; rw [hb]; exact c) (fun t => by rw [decide_eq_false t] at hb; rw [hb]; exact c)
end

set_option maxHeartbeats 1600000 in
theorem runpack_spec (lo : Nat) (h : Heap) {e : Ent} (hm : e.may) : callR En lo Id.sidingsref02_Unpack [N (packN e)] h = some (.tuple #[.agg e.cs.toArray, I 0], h) := by
 have hE := fun lo => rmay_spec lo h e
 rw [decide_eq_true hm] at hE
 have hlt := packN_lt hm
 have hr := raw_pack hm
 have h49 : packN e / 2 ^ 49 % 2 ^ 1 = packN e / 2 ^ 49 := by omega
 generalize packN e = n at hr hlt h49 ⊢
 have hcs : e.cs = [N (n % 2 ^ 20), N (n / 2 ^ 20 % 2 ^ 20), N (n / 2 ^ 40 % 2 ^ 4), N (n / 2 ^ 44 % 2 ^ 4), .bool (decide (n / 2 ^ 48 % 2 ^ 1 = 1)), .bool (decide (n / 2 ^ 49 = 1))] := by
  rw [← hr]
  unfold rawE Ent.cs
  simp only
  rw [h49, show n / 2 ^ 0 % 2 ^ 20 = n % 2 ^ 20 by omega]
 rw [hcs] at hE ⊢
 clear hcs hr h49
 generalize q20 : n / 2 ^ 20 = n20 at *
 generalize q40 : n / 2 ^ 40 = n40 at *
 generalize q44 : n / 2 ^ 44 = n44 at *
 generalize q48 : n / 2 ^ 48 = n48 at *
 generalize q49 : n / 2 ^ 49 = n49 at *
 generalize r0 : n % 2 ^ 20 = a0 at *
 generalize r1 : n20 % 2 ^ 20 = a1 at *
 generalize r2 : n40 % 2 ^ 4 = a2 at *
 generalize r3 : n44 % 2 ^ 4 = a3 at *
 generalize r4 : n48 % 2 ^ 1 = a4 at *
 have b4 : decide (((a4 : Nat) : Int) = 1) = decide (a4 = 1) := decide_eq_decide.2 (by omega)
 have b9 : decide (((n49 : Nat) : Int) = 1) = decide (n49 = 1) := decide_eq_decide.2 (by omega)
 generalize decide (a4 = 1) = lk at *
 generalize decide (n49 = 1) = lv at *
 refine call_scr rfl Fn.sidingsref02_Unpack rfl rfl ?_
 repeat' (first | (show ER _ _ _ _ _ _ _; first | refine ER.seq ?_ | refine ER.reg ?_ | refine ER.yes rfl ?_ | refine ER.no rfl ?_ | refine ER.skip ?_ | refine ER.block ?_ | refine ER.endB ?_ | refine ER.exit rfl ?_ | refine ER.br rfl (fun hc => ?_) (fun hc => ?_) | refine ER.scope ?_ | refine ER.inScope ?_ | refine ER.label ?_ | refine ER.ret rfl ?_ | refine ER.nil rfl ?_) | (show EG _ _ _ _ _ _ _ _ _; first | refine EG.mov rfl rfl ?_ | refine EG.lload rfl rfl rfl rfl ?_ | refine EG.laddr rfl rfl rfl ?_ | (show EG _ _ (⟨_, .bin _ _ _, _, _⟩ :: _) _ _ _ _ _ _; first | refine g_eql b4 rfl rfl rfl ?_ | refine g_eql b9 rfl rfl rfl ?_ | refine g_rem (b := 1048576) r0 rfl rfl rfl (by decide) ?_ | refine g_rem (b := 1048576) r1 rfl rfl rfl (by decide) ?_ | refine g_rem (b := 16) r2 rfl rfl rfl (by decide) ?_ | refine g_rem (b := 16) r3 rfl rfl rfl (by decide) ?_ | refine g_rem (b := 2) r4 rfl rfl rfl (by decide) ?_ | refine g_shr (k' := 20) q20 rfl rfl rfl (by decide) ?_ | refine g_shr (k' := 40) q40 rfl rfl rfl (by decide) ?_ | refine g_shr (k' := 44) q44 rfl rfl rfl (by decide) ?_ | refine g_shr (k' := 48) q48 rfl rfl rfl (by decide) ?_ | refine g_shr (k' := 49) q49 rfl rfl rfl (by decide) ?_ | refine EG.lssT rfl rfl rfl (by omega) ?_ | refine EG.lssF rfl rfl rfl (by omega) ?_ | refine EG.leq rfl rfl rfl (fun hc => ?_) (fun hc => ?_) | refine EG.gtr rfl rfl rfl (fun hc => ?_) (fun hc => ?_) | refine EG.geqT rfl rfl rfl (by omega) ?_ | refine EG.geqF rfl rfl rfl (by omega) ?_ | refine EG.eql rfl rfl rfl (fun hc => ?_) (fun hc => ?_) | refine EG.neq rfl rfl rfl (fun hc => ?_) (fun hc => ?_)) | refine EG.call rfl rfl (hE _) ?_ | refine EG.skip rfl ?_ | refine EG.fin ?_ | refine EG.go rfl rfl rfl ?_ | refine EG.gono rfl rfl rfl ?_ | refine EG.skipn rfl ?_))
 rfl
end Go.Proofs.Ytfpfknafcgkcjaa

/- A pass alone over placed objects: locks. Plain. -/
set_option linter.unusedVariables false
set_option linter.unusedSimpArgs false
namespace Go.Proofs.Ytfpfknafcgkcjaa
open Go Go.Ir

def under (m : Mc) : Bool := decide (7 ≤ m.next ∧ m.next ≤ 9)
def Locks (c : Cfg) (k : Nat) (m : Mc) (ws : List Int) : Prop := ∀ s : Nat, s < k → ∃ e : Ent, e.may ∧ getI ws (slotI c s 0) = (packN e : Nat) ∧ e.lk = (under m && decide ((curO m).s = s)) ∧ (under m = true → (curO m).s = s → e.o = (curO m).o)

section
variable {c : Cfg} {P : List Pl} {f : Int} {bs0 bs ws : List Int} {m : Mc}
theorem locks_of {cur : List Pl} {lk : Option Nat} (hf : f ≤ 4096) (w : Wds c cur lk ws) (hok : ∀ q ∈ cur, q.Ok f) (hl : ∀ j q, lk = some j → cur[j]? = some q → q.p = 0) {k : Nat} (hk : cur.length = k)
  (h1 : ∀ s : Nat, s < k → decide (lk = some s) = (under m && decide ((curO m).s = s))) (h2 : ∀ s q, cur[s]? = some q → under m = true → (curO m).s = (s : Nat) → q.o = (curO m).o) : Locks c k m ws := fun s hs => by
 have hq : cur[s]? = some cur[s] := List.getElem?_eq_getElem (by omega)
 generalize cur[s] = q at hq
 refine ⟨q.ent (decide (lk = some s)), (hok q (List.mem_of_getElem? hq)).may hf (fun h => hl s q (of_decide_eq_true h) hq), w.ent s q hq, h1 s hs, fun hu he => h2 s q hq hu he⟩
theorem under_no (h : ¬ (7 ≤ m.next ∧ m.next ≤ 9)) : under m = false := decide_eq_false h
theorem under_yes (h : 7 ≤ m.next ∧ m.next ≤ 9) : under m = true := decide_eq_true h

theorem cur_ok (su : Su c P f) {a : Nat} : ∀ q ∈ cur P a, q.Ok f := fun q hq => by
 unfold cur at hq
 rcases List.mem_append.1 hq with h | h
 ·obtain ⟨x, hx, e1, e2, e3, e4, e5⟩ := slide_get' _ _ _ h
  have hok := su.ok x (List.mem_of_mem_take hx)
  have hof := hok.of
  have hg := slide_ge (d := 0) (l := P.take a) (fun y hy => ⟨by have := (su.ok y (List.mem_of_mem_take hy)).n0; omega, (su.ok y (List.mem_of_mem_take hy)).o0⟩) (su.apart.sublist (List.take_sublist _ _)) q h
  exact ⟨hg, by omega, by rw [e3]; exact hok.g0, by rw [e4]; exact hok.p0, by rw [e5]; exact hok.z0, by rw [e2, e5]; exact hok.nz⟩
 ·exact su.ok q (List.mem_of_mem_drop h)

theorem locks_no {cur : List Pl} (hf : f ≤ 4096) (w : Wds c cur none ws) (hok : ∀ q ∈ cur, q.Ok f) {k : Nat} (hk : cur.length = k) (h : ¬ (7 ≤ m.next ∧ m.next ≤ 9)) : Locks c k m ws :=
 locks_of hf w hok (fun j q e => (by cases e)) hk (fun s hs => by rw [under_no h]; rfl) (fun s q hq hu => by rw [under_no h] at hu; cases hu)

theorem locks_way {a : Nat} {q : Pl} (hf : f ≤ 4096) (su : Su c P f) (hc : m.c = c) (s : Mid P f a (some a) m ws) (w : Way P f a q m) (h : 7 ≤ m.next ∧ m.next ≤ 9) : Locks c P.length m ws := by
 have hw := s.wds
 rw [hc] at hw
 have ho := curO_is s w.this
 have hthis := cur_this w.this
 refine locks_of hf hw (cur_ok su) (fun j x e hx => ?_) (cur_len s.al) (fun j hj => ?_) (fun j x hx _ he => ?_)
 ·injection e with e
  subst e
  rw [hthis] at hx
  have hx := Option.some.inj hx
  subst hx
  exact w.p0
 ·rw [under_yes h, ho, Bool.true_and]
  refine decide_eq_decide.2 ⟨fun e => ?_, fun e => ?_⟩
  ·injection e with e
   subst e; rfl
  ·have e : ((a : Nat) : Int) = (j : Nat) := e
   rw [show a = j by omega]
 ·rw [ho] at he ⊢
  have he : ((a : Nat) : Int) = (j : Nat) := he
  have he : a = j := by omega
  subst he
  rw [hthis] at hx
  have hx := Option.some.inj hx
  subst hx
  rfl

theorem ph_locks (su : Su c P f) (hc : m.c = c) (h : Ph P f bs0 m ws bs) : Locks c P.length m ws := by
 have hA : f ≤ 4096 := (su_A (m := mc0 c) su).1
 have no : ∀ {k : Nat}, Sc P f k m ws → ¬ (7 ≤ m.next ∧ m.next ≤ 9) → Locks c P.length m ws := fun s hn => by
  have w := s.wds
  rw [hc] at w
  exact locks_no hA w su.ok rfl hn
 have no' : ∀ {a : Nat}, Mid P f a none m ws → ¬ (7 ≤ m.next ∧ m.next ≤ 9) → Locks c P.length m ws := fun s hn => by
  have w := s.wds
  rw [hc] at w
  exact locks_no hA w (cur_ok su) (cur_len s.al) hn
 cases h with
 | front h s hb => exact no s (by omega)
 | pend h ht s hb => exact no s (by omega)
 | scan h ht k s hb => exact no s (by omega)
 | meas h ht k s hb q hq he => exact no s (by omega)
 | look h a s y => exact no' s (by omega)
 | lock h a s y q w hw => exact no' s (by omega)
 | take h a s q w hw i hi il y => exact locks_way hA su hc s w (by omega)
 | lay h a s q w hw i hi il y hb => exact locks_way hA su hc s w (by omega)
 | store h a s q w hw y => exact locks_way hA su hc s w (by omega)
 | turn h s y lt => exact no' s (by omega)

theorem fin_locks {n : Int} (su : Su c P f) (hc : m.c = c) (h : Fin P f bs0 m ws bs n) (h0 : m.next = 0) : Locks c P.length m ws := by
 have w := h.wds
 rw [hc] at w
 have hA : f ≤ 4096 := (su_A (m := mc0 c) su).1
 have hok := cur_ok (a := P.length) su
 rw [cur_top] at hok
 exact locks_no hA w hok (slide_len _ _) (by omega)

structure On (c : Cfg) (P : List Pl) (f : Int) (bs0 : List Int) (m : Mc) (ws bs : List Int) : Prop where
 al : Al ws m
 n0 : m.next ≠ 0
 c : m.c = c
 ph : Ph P f bs0 m ws bs

theorem on_start (su : Su c P f) (wds : Wds c P none ws) (front : getI ws 0 = f) : On c P f bs0 (mc0 c) ws bs0 :=
 ⟨mc0_al su.may wds.len, by show (1 : Int) ≠ 0; omega, rfl, .front rfl ⟨rfl, fun j q hj => by omega, rfl, rfl, rfl, rfl, front, wds⟩ rfl⟩

theorem under_obj (al : Al ws m) (hu : under m = true) : ∃ k : Nat, m.att = k ∧ m.objs[k]? = some (curO m) := by
 have hu := of_decide_eq_true hu
 have hl := al.wf.look (by omega) (by omega)
 have h0 := al.wf.at_
 refine ⟨m.att.toNat, by omega, ?_⟩
 unfold curO
 rw [List.getD_eq_getElem?_getD, List.getElem?_eq_getElem (by omega)]; rfl

theorem on_step (su : Su c P f) (bl : bs0.length = c.A.toNat) (rng : ∀ i : Int, 0 ≤ getI bs0 i ∧ getI bs0 i < 256) (h : On c P f bs0 m ws bs) :
  1 ≤ phi m ws ∧ (under (stepM m ws bs).1.1 = true → ∃ k : Nat, (stepM m ws bs).1.1.att = k ∧ (stepM m ws bs).1.1.objs[k]? = some (curO (stepM m ws bs).1.1)) ∧ Locks c P.length (stepM m ws bs).1.1 (stepM m ws bs).2.1 ∧ ((stepM m ws bs).1.2 = none → On c P f bs0 (stepM m ws bs).1.1 (stepM m ws bs).2.1 (stepM m ws bs).2.2 ∧ phi (stepM m ws bs).1.1 (stepM m ws bs).2.1 + 1 ≤ phi m ws) ∧
   ∀ n, (stepM m ws bs).1.2 = some n → Fin P f bs0 (stepM m ws bs).1.1 (stepM m ws bs).2.1 (stepM m ws bs).2.2 n := by
 have hs := ph_step (by rw [h.c]; exact su) (by rw [bl, h.c]) rng h.al h.ph
 have hc := step_c (bs := bs) h.al h.n0
 rw [h.c] at hc
 obtain ⟨b, hb, hg⟩ := step_good bs h.al h.n0
 refine ⟨by omega, fun hu => ?_, ?_, fun hr => ⟨⟨(hg.1 hr).1, (hg.1 hr).2.1, hc, hs.1 hr⟩, by have := (hg.1 hr).2.2; omega⟩, hs.2⟩
 ·cases hr : (stepM m ws bs).1.2 with
  | none => exact under_obj (hg.1 hr).1 hu
  | some n => rw [under_no (by rw [hg.2 n hr]; omega)] at hu; cases hu
 cases hr : (stepM m ws bs).1.2 with
 | none => exact ph_locks su hc (hs.1 hr)
 | some n => exact fin_locks su hc (hs.2 n hr) (hg.2 n hr)
end
end Go.Proofs.Ytfpfknafcgkcjaa

/- While an object is moved its entry has its lock: the law's run. -/
set_option linter.unusedVariables false
set_option linter.unusedSimpArgs false
namespace Go.Proofs.Ytfpfknafcgkcjaa
open Go Go.Ir

def mvV (u : Bool) (s o d n : Int) : Value := .tuple #[.agg #[I s, I o, I d, I n], .bool u]
def mvO (m : Mc) : Obj := if under m then curO m else ⟨0, 0, 0, false⟩
def mvD (m : Mc) : Int := if under m then m.dest else 0

theorem moving_spec {lo : Nat} {H : Heap} {own : List Nat} {M : Nat} {m : Mc} {ov tv : Value} (h : McAt H own M m ov tv) (hk : under m = true → ∃ k : Nat, m.att = k ∧ m.objs[k]? = some (curO m)) :
  callR En lo Id.compact_Machine_Moving [ptrB M] H = some (mvV (under m) (mvO m).s (mvO m).o (mvD m) (mvO m).n, H) := by
 have l5 : loadV H none ⟨M, 0 + 5, none⟩ = some (I m.next) := ld_row h.row rfl
 have l80 : loadV H none ⟨M, 0 + 80, none⟩ = some (I m.dest) := ld_row h.row rfl
 refine call_of rfl Fn.compact_Machine_Moving rfl rfl ?_
 unfold mvO mvD
 by_cases hu : 7 ≤ m.next ∧ m.next ≤ 9
 ·have hu' := under_yes hu
  obtain ⟨k, k1, k2⟩ := hk hu'
  rw [hu', if_pos rfl, if_pos rfl]
  have hO := fun lo => object_spec (lo := lo) h k1 k2
  generalize curO m = o at hO
  rw [Obj.cs] at hO
  unfold mvV
  by_cases h7 : m.next = 7
  ·repeat' (first | (show ER _ _ _ _ _ _ _; first | refine ER.seq ?_ | refine ER.reg ?_ | refine ER.yes rfl ?_ | refine ER.no rfl ?_ | refine ER.skip ?_ | refine ER.block ?_ | refine ER.endB ?_ | refine ER.exit rfl ?_ | refine ER.br rfl (fun hc => ?_) (fun hc => ?_) | refine ER.scope ?_ | refine ER.inScope ?_ | refine ER.label ?_ | refine ER.ret rfl ?_ | refine ER.nil rfl ?_) | (show EG _ _ _ _ _ _ _ _ _; first | refine EG.mov rfl rfl ?_ | refine EG.lload rfl rfl rfl rfl ?_ | refine EG.laddr rfl rfl rfl ?_ | (show EG _ _ (⟨_, .bin _ _ _, _, _⟩ :: _) _ _ _ _ _ _; first | refine EG.lss rfl rfl rfl (fun hc => ?_) (fun hc => ?_) | refine EG.leq rfl rfl rfl (fun hc => ?_) (fun hc => ?_) | refine EG.gtr rfl rfl rfl (fun hc => ?_) (fun hc => ?_) | refine EG.geq rfl rfl rfl (fun hc => ?_) (fun hc => ?_) | refine EG.eqlT rfl rfl rfl (by omega) ?_ | refine EG.eqlF rfl rfl rfl (by omega) ?_ | refine EG.neq rfl rfl rfl (fun hc => ?_) (fun hc => ?_)) | (show EG _ _ (⟨_, .load _ _, _, _⟩ :: _) _ _ _ _ _ _; first | refine EG.load rfl rfl (l5) ?_ | refine EG.load rfl rfl (l80) ?_) | refine EG.call rfl rfl (hO _) ?_ | refine EG.skip rfl ?_ | refine EG.fin ?_ | refine EG.go rfl rfl rfl ?_ | refine EG.gono rfl rfl rfl ?_ | refine EG.skipn rfl ?_))
   rfl
  ·by_cases h8 : m.next = 8
   ·repeat' (first | (show ER _ _ _ _ _ _ _; first | refine ER.seq ?_ | refine ER.reg ?_ | refine ER.yes rfl ?_ | refine ER.no rfl ?_ | refine ER.skip ?_ | refine ER.block ?_ | refine ER.endB ?_ | refine ER.exit rfl ?_ | refine ER.br rfl (fun hc => ?_) (fun hc => ?_) | refine ER.scope ?_ | refine ER.inScope ?_ | refine ER.label ?_ | refine ER.ret rfl ?_ | refine ER.nil rfl ?_) | (show EG _ _ _ _ _ _ _ _ _; first | refine EG.mov rfl rfl ?_ | refine EG.lload rfl rfl rfl rfl ?_ | refine EG.laddr rfl rfl rfl ?_ | (show EG _ _ (⟨_, .bin _ _ _, _, _⟩ :: _) _ _ _ _ _ _; first | refine EG.lss rfl rfl rfl (fun hc => ?_) (fun hc => ?_) | refine EG.leq rfl rfl rfl (fun hc => ?_) (fun hc => ?_) | refine EG.gtr rfl rfl rfl (fun hc => ?_) (fun hc => ?_) | refine EG.geq rfl rfl rfl (fun hc => ?_) (fun hc => ?_) | refine EG.eqlT rfl rfl rfl (by omega) ?_ | refine EG.eqlF rfl rfl rfl (by omega) ?_ | refine EG.neq rfl rfl rfl (fun hc => ?_) (fun hc => ?_)) | (show EG _ _ (⟨_, .load _ _, _, _⟩ :: _) _ _ _ _ _ _; first | refine EG.load rfl rfl (l5) ?_ | refine EG.load rfl rfl (l80) ?_) | refine EG.call rfl rfl (hO _) ?_ | refine EG.skip rfl ?_ | refine EG.fin ?_ | refine EG.go rfl rfl rfl ?_ | refine EG.gono rfl rfl rfl ?_ | refine EG.skipn rfl ?_))
    rfl
   ·repeat' (first | (show ER _ _ _ _ _ _ _; first | refine ER.seq ?_ | refine ER.reg ?_ | refine ER.yes rfl ?_ | refine ER.no rfl ?_ | refine ER.skip ?_ | refine ER.block ?_ | refine ER.endB ?_ | refine ER.exit rfl ?_ | refine ER.br rfl (fun hc => ?_) (fun hc => ?_) | refine ER.scope ?_ | refine ER.inScope ?_ | refine ER.label ?_ | refine ER.ret rfl ?_ | refine ER.nil rfl ?_) | (show EG _ _ _ _ _ _ _ _ _; first | refine EG.mov rfl rfl ?_ | refine EG.lload rfl rfl rfl rfl ?_ | refine EG.laddr rfl rfl rfl ?_ | (show EG _ _ (⟨_, .bin _ _ _, _, _⟩ :: _) _ _ _ _ _ _; first | refine EG.lss rfl rfl rfl (fun hc => ?_) (fun hc => ?_) | refine EG.leq rfl rfl rfl (fun hc => ?_) (fun hc => ?_) | refine EG.gtr rfl rfl rfl (fun hc => ?_) (fun hc => ?_) | refine EG.geq rfl rfl rfl (fun hc => ?_) (fun hc => ?_) | refine EG.eqlT rfl rfl rfl (by omega) ?_ | refine EG.eqlF rfl rfl rfl (by omega) ?_ | refine EG.neq rfl rfl rfl (fun hc => ?_) (fun hc => ?_)) | (show EG _ _ (⟨_, .load _ _, _, _⟩ :: _) _ _ _ _ _ _; first | refine EG.load rfl rfl (l5) ?_ | refine EG.load rfl rfl (l80) ?_) | refine EG.call rfl rfl (hO _) ?_ | refine EG.skip rfl ?_ | refine EG.fin ?_ | refine EG.go rfl rfl rfl ?_ | refine EG.gono rfl rfl rfl ?_ | refine EG.skipn rfl ?_))
    rfl
 ·have hu' := under_no hu
  rw [hu', if_neg (by simp), if_neg (by simp)]
  unfold mvV
  repeat' (first | (show ER _ _ _ _ _ _ _; first | refine ER.seq ?_ | refine ER.reg ?_ | refine ER.yes rfl ?_ | refine ER.no rfl ?_ | refine ER.skip ?_ | refine ER.block ?_ | refine ER.endB ?_ | refine ER.exit rfl ?_ | refine ER.br rfl (fun hc => ?_) (fun hc => ?_) | refine ER.scope ?_ | refine ER.inScope ?_ | refine ER.label ?_ | refine ER.ret rfl ?_ | refine ER.nil rfl ?_) | (show EG _ _ _ _ _ _ _ _ _; first | refine EG.mov rfl rfl ?_ | refine EG.lload rfl rfl rfl rfl ?_ | refine EG.laddr rfl rfl rfl ?_ | (show EG _ _ (⟨_, .bin _ _ _, _, _⟩ :: _) _ _ _ _ _ _; first | refine EG.lss rfl rfl rfl (fun hc => ?_) (fun hc => ?_) | refine EG.leq rfl rfl rfl (fun hc => ?_) (fun hc => ?_) | refine EG.gtr rfl rfl rfl (fun hc => ?_) (fun hc => ?_) | refine EG.geq rfl rfl rfl (fun hc => ?_) (fun hc => ?_) | refine EG.eqlT rfl rfl rfl (by omega) ?_ | refine EG.eqlF rfl rfl rfl (by omega) ?_ | refine EG.neq rfl rfl rfl (fun hc => ?_) (fun hc => ?_)) | refine EG.load rfl rfl (l5) ?_ | refine EG.skip rfl ?_ | refine EG.fin ?_ | refine EG.go rfl rfl rfl ?_ | refine EG.gono rfl rfl rfl ?_ | refine EG.skipn rfl ?_))
  rfl

theorem mv_locks {c : Cfg} {k : Nat} {m : Mc} {ws : List Int} (h : Locks c k m ws) {s : Nat} (hs : s < k) : ∃ e : Ent, e.may ∧ getI ws (slotI c s 0) = (packN e : Nat) ∧ e.lk = (under m && decide ((mvO m).s = s)) ∧ (under m = true → (mvO m).s = s → e.o = (mvO m).o) := by
 obtain ⟨e, h1, h2, h3, h4⟩ := h s hs
 refine ⟨e, h1, h2, ?_, fun hu => ?_⟩
 ·rw [h3]
  unfold mvO
  cases hu : under m with
  | true => rfl
  | false => rfl
 ·unfold mvO
  rw [if_pos hu]
  exact h4 hu

theorem resV_is (r : Option Int) : resV r = .tuple #[.agg #[I 0, I (r.getD 0)], .bool r.isSome] := by cases r <;> rfl

set_option maxHeartbeats 12800000 in
theorem locks_run (c : Cfg) {h : Heap} {v : Value} {l : List Th} (tail : Int) (hv : Sl h 4 v (tcs l)) : ∃ h', callR En 0 Id.sidingslaw18_CompactLocks [.agg c.cs.toArray, v, I tail] h = some (.bool true, h') := by
 have key : ∃ u h', callR En 0 Id.sidingslaw18_CompactLocks [.agg c.cs.toArray, v, I tail] h = some (u, h') ∧ u = .bool true := by
  refine call_ex rfl Fn.sidingslaw18_CompactLocks rfl rfl ?_
  refine Exists.elim hv.len fun base hq => Exists.elim hq fun cap hve => ?_
  rw [tcs_length] at hve
  by_cases hm : c.may
  ·have hM := fun lo h => may_spec lo h c
   rw [decide_eq_true hm] at hM
   rcases c with ⟨A, S, T⟩
   have hm' := hm
   unfold Cfg.may at hm'
   simp only at hm'
   refine Exists.elim (show ∃ a : Nat, A = a from ⟨A.toNat, by omega⟩) fun a ha => ?_
   refine Exists.elim (show ∃ a : Nat, S = a from ⟨S.toNat, by omega⟩) fun s hs => ?_
   refine Exists.elim (show ∃ a : Nat, T = a from ⟨T.toNat, by omega⟩) fun t ht => ?_
   subst ha hs ht
   refine Exists.elim (start_may 0 h hm (Nat.zero_le _)) fun H1 hq => ?_
   have hS := hq.1
   have hC1 := hq.2.1
   have hx1 := hq.2.2.1
   clear hq
   rw [Cfg.cs] at hS hM ⊢
   simp only at hS hM ⊢
   by_cases hl : l.length ≤ 20
   ·by_cases ha : 200 < a
    ·subst hve
     repeat' (first | (show ER _ _ _ _ _ _ _; first | refine ER.seq ?_ | refine ER.reg ?_ | refine ER.yes rfl ?_ | refine ER.no rfl ?_ | refine ER.skip ?_ | refine ER.block ?_ | refine ER.endB ?_ | refine ER.exit rfl ?_ | refine ER.br rfl (fun hc => ?_) (fun hc => ?_) | refine ER.scope ?_ | refine ER.inScope ?_ | refine ER.label ?_ | refine ER.ret rfl ?_ | refine ER.nil rfl ?_) | (show EG _ _ _ _ _ _ _ _ _; first | refine EG.mov rfl rfl ?_ | refine EG.lload rfl rfl rfl rfl ?_ | refine EG.laddr rfl rfl rfl ?_ | (show EG _ _ (⟨_, .bin _ _ _, _, _⟩ :: _) _ _ _ _ _ _; first | refine EG.lss rfl rfl rfl (fun hc => ?_) (fun hc => ?_) | refine EG.leq rfl rfl rfl (fun hc => ?_) (fun hc => ?_) | refine EG.gtrT rfl rfl rfl (by omega) ?_ | refine EG.gtrF rfl rfl rfl (by omega) ?_ | refine EG.geq rfl rfl rfl (fun hc => ?_) (fun hc => ?_) | refine EG.eql rfl rfl rfl (fun hc => ?_) (fun hc => ?_) | refine EG.neq rfl rfl rfl (fun hc => ?_) (fun hc => ?_)) | (show EG _ _ (⟨_, .call _ _, _, _⟩ :: _) _ _ _ _ _ _; first | refine EG.call rfl rfl (hS) ?_ | refine EG.call rfl rfl (hM _ _) ?_ | refine EG.call rfl rfl (live_c _ _) ?_) | refine EG.skip rfl ?_ | refine EG.fin ?_ | refine EG.go rfl rfl rfl ?_ | refine EG.gono rfl rfl rfl ?_ | refine EG.skipn rfl ?_))
     rfl
    refine Exists.elim (lay_spec' (tail := tail) hm hC1 (hv.ext hx1) (fun h0 a' len' cap' e => by
     have := th_block hv h0 a' len' cap' e
     simp only [newC, List.mem_cons, List.not_mem_nil, or_false]
     omega) hl) fun u hq => Exists.elim hq fun H2 hq => ?_
    have hL := hq.1
    have hQ := hq.2
    clear hq
    cases hr : layR a s t l tail (startL ⟨a, s, t⟩) (List.replicate ((a : Int)).toNat 0) with
    | none =>
      rw [hr] at hQ
      unfold LayQ at hQ
      simp only at hQ
      subst hQ
      subst hve
      repeat' (first | (show ER _ _ _ _ _ _ _; first | refine ER.seq ?_ | refine ER.reg ?_ | refine ER.yes rfl ?_ | refine ER.no rfl ?_ | refine ER.skip ?_ | refine ER.block ?_ | refine ER.endB ?_ | refine ER.exit rfl ?_ | refine ER.br rfl (fun hc => ?_) (fun hc => ?_) | refine ER.scope ?_ | refine ER.inScope ?_ | refine ER.label ?_ | refine ER.ret rfl ?_ | refine ER.nil rfl ?_) | (show EG _ _ _ _ _ _ _ _ _; first | refine EG.mov rfl rfl ?_ | refine EG.lload rfl rfl rfl rfl ?_ | refine EG.laddr rfl rfl rfl ?_ | (show EG _ _ (⟨_, .bin _ _ _, _, _⟩ :: _) _ _ _ _ _ _; first | refine EG.lss rfl rfl rfl (fun hc => ?_) (fun hc => ?_) | refine EG.leq rfl rfl rfl (fun hc => ?_) (fun hc => ?_) | refine EG.gtrT rfl rfl rfl (by omega) ?_ | refine EG.gtrF rfl rfl rfl (by omega) ?_ | refine EG.geq rfl rfl rfl (fun hc => ?_) (fun hc => ?_) | refine EG.eql rfl rfl rfl (fun hc => ?_) (fun hc => ?_) | refine EG.neq rfl rfl rfl (fun hc => ?_) (fun hc => ?_)) | (show EG _ _ (⟨_, .call _ _, _, _⟩ :: _) _ _ _ _ _ _; first | refine EG.call rfl rfl (hS) ?_ | refine EG.call rfl rfl (hL) ?_ | refine EG.call rfl rfl (live_c _ _) ?_) | refine EG.skip rfl ?_ | refine EG.fin ?_ | refine EG.go rfl rfl rfl ?_ | refine EG.gono rfl rfl rfl ?_ | refine EG.skipn rfl ?_))
      rfl
    | some r =>
      rw [hr] at hQ
      unfold LayQ at hQ
      simp only at hQ
      obtain ⟨ov, hu, hC2, hov, hk2⟩ := hQ
      subst hu
      refine Exists.elim (lay_placed hm hr) fun P hq => ?_
      have hPl := hq.1
      have hPd := hq.2.1
      have hSu := hq.2.2
      clear hq
      have hbl : r.bs.length = a := by rw [hPd.bl]; show ((a : Int)).toNat = a; omega
      have hwl := hPd.wds.len
      have hwl : r.ws.length = 4 + t + 3 * s := by rw [hwl]; unfold wordsI; simp only; omega
      have hphi := (lay_cost hm hr).2.2.2.2
      have hcost := hPd.cost
      have hsa := hPd.aA
      simp only at hsa
      have hfa := hSu.fa
      have hf0 := hSu.f0
      simp only at hfa
      have hOn := on_start (bs0 := r.bs) hSu hPd.wds rfl
      have hrng := hPd.rng
      have hbla := hPd.bl
      clear hPd
      refine Exists.elim (load_spec (lo := 0) hC2 (Nat.zero_le _) 0) fun H3 hq => ?_
      have hL0 := hq.1
      have hC3 := hq.2.1
      clear hq
      refine Exists.elim (show ∃ x : Nat, getI r.ws 0 = x from ⟨(getI r.ws 0).toNat, by omega⟩) fun fn hfn => ?_
      rw [hfn] at hL0 hSu hOn hfa
      have hP3 := hlt_of hC3.p.choose_spec
      refine Exists.elim (copy_spec (lo := 0) hC3 (by omega) (by omega) (by omega) (by omega) (Nat.zero_le _)) fun H4 hq => ?_
      have hCp := hq.1
      have hD4 := hq.2.1
      have hx4 := hq.2.2
      clear hq
      have hC4 := hC3.chg (S := []) ⟨hx4.1, fun j hj _ => hx4.2 j hj⟩ (by simp)
      have hN := fun lo => newM_spec lo H4 hm
      have hne := newC_ne (h := h) (H := H3) hP3
      have hPD := hlt_of hD4.p.choose_spec
      have hWD := hlt_of hD4.w
      have hYD := hlt_of hD4.y
      have hPC := hlt_of hC4.p.choose_spec
      have hWC := hlt_of hC4.w
      have hYC := hlt_of hC4.y
      rw [Cfg.cs] at hN
      simp only at hN
      subst hve
      repeat' (first | (show ER _ _ _ _ _ _ _; first | refine ER.seq ?_ | refine ER.reg ?_ | refine ER.yes rfl ?_ | refine ER.no rfl ?_ | refine ER.skip ?_ | refine ER.block ?_ | refine ER.endB ?_ | refine ER.exit rfl ?_ | refine ER.br rfl (fun hc => ?_) (fun hc => ?_) | refine ER.scope ?_ | refine ER.inScope ?_ | refine ER.label ?_ | refine ER.ret rfl ?_ | refine ER.nil rfl ?_) | (show EG _ _ _ _ _ _ _ _ _; first | refine EG.mov rfl rfl ?_ | refine EG.lload rfl rfl rfl rfl ?_ | refine EG.laddr rfl rfl rfl ?_ | (show EG _ _ (⟨_, .bin _ _ _, _, _⟩ :: _) _ _ _ _ _ _; first | refine EG.lss rfl rfl rfl (fun hc => ?_) (fun hc => ?_) | refine EG.leq rfl rfl rfl (fun hc => ?_) (fun hc => ?_) | refine EG.gtrT rfl rfl rfl (by omega) ?_ | refine EG.gtrF rfl rfl rfl (by omega) ?_ | refine EG.geq rfl rfl rfl (fun hc => ?_) (fun hc => ?_) | refine EG.eql rfl rfl rfl (fun hc => ?_) (fun hc => ?_) | refine EG.neq rfl rfl rfl (fun hc => ?_) (fun hc => ?_)) | (show EG _ _ (⟨_, .call _ _, _, _⟩ :: _) _ _ _ _ _ _; first | refine EG.call rfl rfl (hS) ?_ | refine EG.call rfl rfl (hL) ?_ | refine EG.call rfl rfl (hL0) ?_ | refine EG.call rfl rfl (hN _) ?_ | refine EG.call rfl rfl (hCp) ?_) | refine EG.skip rfl ?_ | refine EG.fin ?_ | refine EG.go rfl rfl rfl ?_ | refine EG.gono rfl rfl rfl ?_ | refine EG.skipn rfl ?_))
      refine .loop (fun n F H => ∃ (i : Nat) (m : Mc) (ws bs : List Int) (own : List Nat) (ov tv : Value), n + i = 3000 ∧ F = [(1, .slice base l.length cap), (3, .agg #[N a, N s, N t]), (7, ptrC (newC h)), (10, N fn), (11, ptrC (newC H3)), (12, ptrB H4.length), (13, N i)] ∧ McAt H own H4.length m ov tv ∧ IsC H (newC h) ws bs ∧ IsC H (newC H3) r.ws r.bs ∧ (∀ b ∈ own, H4.length ≤ b) ∧ H4.length ≤ H.length ∧ On ⟨a, s, t⟩ P fn r.bs m ws bs ∧ phi m ws + i ≤ 3000) (n := 3000)
       (by refine ⟨0, _, _, _, _, _, _, rfl, rfl, mc0_at H4 ⟨a, s, t⟩, hC4.app _, hD4.app _, ?_, ?_, hOn, ?_⟩
           ·intro b hb
            simp at hb
            omega
           ·simp
           ·omega) ?_
      rintro n F H ⟨i, m, ws, bs, own, ov, tv, hn, rfl, hMa, hCa, hDa, hown, hHl, hon, hph⟩ next
      have hst := on_step hSu hbla hrng hon
      cases n with
      | zero => exfalso; have := hst.1; omega
      | succ n =>
        have d1 : Disj own (newC h) := fun b hb => by have := hown b hb; omega
        refine Exists.elim (step_spec (lo := 0) hMa hon.al.wf hCa d1 (fun _ _ => Nat.zero_le _) ⟨Nat.zero_le _, Nat.zero_le _, Nat.zero_le _⟩ hon.n0) fun u hq => Exists.elim hq fun H5 hq => ?_
        have hSt := hq.1
        have hC5 := hq.2.2
        have hu := hq.2.1.1
        refine Exists.elim hq.2.1.2 fun own5 hq => Exists.elim hq fun ov5 hq => Exists.elim hq fun tv5 hq => ?_
        have hM5 := hq.1
        have hg5 := hq.2.1
        have hb5 := hq.2.2
        clear hq
        have hl5 := hg5.len
        have hown5 : ∀ b ∈ own5, H4.length ≤ b := fun b hb => by
         rcases hb5 b hb with g | g
         ·exact hown b g
         ·omega
        have hD5 := hDa.chg hg5 (by
         unfold cellsS
         simp only [List.mem_append, List.mem_cons, List.not_mem_nil, or_false]
         refine ⟨?_, ?_, ?_⟩
         ·rintro (g | g)
          ·have := hown _ g; omega
          ·omega
         ·rintro (g | g)
          ·have := hown _ g; omega
          ·omega
         ·rintro (g | g)
          ·have := hown _ g; omega
          ·omega)
        rw [resV_is] at hu
        subst hu
        have hmv := fun lo => moving_spec (lo := lo) hM5 hst.2.1
        have hlk := fun s hs => mv_locks hst.2.2.1 (s := s) hs
        have hnx := hst.2.2.2.1
        have hfi := hst.2.2.2.2
        clear hst
        generalize hr' : (stepM m ws bs).1.2 = rr at hSt hnx hfi
        generalize (stepM m ws bs).1.1 = m' at hM5 hmv hlk hnx hfi
        generalize (stepM m ws bs).2.1 = ws' at hC5 hlk hnx hfi
        generalize (stepM m ws bs).2.2 = bs' at hC5 hnx hfi
        generalize (mvO m').s = ms at hmv hlk
        generalize (mvO m').o = mf at hmv hlk
        generalize (mvO m').n = mz at hmv
        generalize mvD m' = mt at hmv
        generalize under m' = uu at hmv hlk
        generalize rr.getD 0 = rz at hSt
        unfold mvV at hmv
        repeat' (first | (show ER _ _ _ _ _ _ _; first | refine ER.seq ?_ | refine ER.reg ?_ | refine ER.yes rfl ?_ | refine ER.no rfl ?_ | refine ER.skip ?_ | refine ER.block ?_ | refine ER.endB ?_ | refine ER.exit rfl ?_ | refine ER.br rfl (fun hc => ?_) (fun hc => ?_) | refine ER.scope ?_ | refine ER.inScope ?_ | refine ER.label ?_ | refine ER.ret rfl ?_ | refine ER.nil rfl ?_) | (show EG _ _ _ _ _ _ _ _ _; first | refine EG.mov rfl rfl ?_ | refine EG.lload rfl rfl rfl rfl ?_ | refine EG.laddr rfl rfl rfl ?_ | (show EG _ _ (⟨_, .bin _ _ _, _, _⟩ :: _) _ _ _ _ _ _; first | refine EG.lssT rfl rfl rfl (by omega) ?_ | refine EG.lssF rfl rfl rfl (by omega) ?_ | refine EG.leq rfl rfl rfl (fun hc => ?_) (fun hc => ?_) | refine EG.gtr rfl rfl rfl (fun hc => ?_) (fun hc => ?_) | refine EG.geq rfl rfl rfl (fun hc => ?_) (fun hc => ?_) | refine EG.eql rfl rfl rfl (fun hc => ?_) (fun hc => ?_) | refine EG.neq rfl rfl rfl (fun hc => ?_) (fun hc => ?_)) | (show EG _ _ (⟨_, .call _ _, _, _⟩ :: _) _ _ _ _ _ _; first | refine EG.call rfl rfl (hSt) ?_ | refine EG.call rfl rfl (hmv _) ?_) | refine EG.skip rfl ?_ | refine EG.fin ?_ | refine EG.go rfl rfl rfl ?_ | refine EG.gono rfl rfl rfl ?_ | refine EG.skipn rfl ?_))
        refine .loop (fun n2 F H6 => ∃ (j : Nat), n2 + j = l.length ∧ F = [(1, .slice base l.length cap), (3, .agg #[N a, N s, N t]), (7, ptrC (newC h)), (10, N fn), (11, ptrC (newC H3)), (12, ptrB H4.length), (13, N i), (15, .bool rr.isSome), (16, .agg #[I ms, I mf, I mt, I mz]), (17, .bool uu), (18, N j)] ∧ McAt H6 own5 H4.length m' ov5 tv5 ∧ IsC H6 (newC h) ws' bs' ∧ IsC H6 (newC H3) r.ws r.bs ∧ H4.length ≤ H6.length) (n := l.length)
         (by refine ⟨0, rfl, rfl, hM5, hC5, hD5, ?_⟩; omega) ?_
        rintro n2 F H6 ⟨j, hn2, rfl, hM6, hC6, hD6, hl6⟩ next2
        by_cases hj : j < l.length
        ·refine Exists.elim (hlk j (by omega)) fun e hq => ?_
         have hem := hq.1
         have hew := hq.2.1
         have hel := hq.2.2.1
         have heo := hq.2.2.2
         clear hq
         rw [show slotI ⟨a, s, t⟩ j 0 = ((4 + t + 3 * j : Nat) : Int) by
          have hfit := hSu.fit
          simp only at hfit
          rw [(slotI_lt hm (s := (j : Nat)) (k := 0) (by omega) (by show (j : Int) < s; omega) (by omega)).1]
          show 4 + (t : Int) + 3 * j + 0 = _
          omega] at hew
         refine Exists.elim (load_spec (lo := 0) hC6 (Nat.zero_le _) ((4 + t + 3 * j : Nat) : Int)) fun H7 hq => ?_
         have hL7 := hq.1
         have hC7 := hq.2.1
         have ho7 := hq.2.2
         clear hq
         rw [hew] at hL7
         have hD7 := hD6.chg (Chg.of ho7) (by simp only [List.mem_singleton]; omega)
         have hM7 := hM6.chg (Chg.of ho7) (fun b hb => by have := hown5 b hb; simp only [List.mem_singleton]; omega)
         have hl7 := ho7.len
         have hU := fun lo => runpack_spec lo H7 hem
         rw [Ent.cs] at hU
         have fin : ∃ jj : Nat, n2 - 1 + jj = l.length ∧ jj = j + 1 := ⟨j + 1, by omega, rfl⟩
         cases uu with
         | false =>
           have hel : e.lk = false := hel
           rw [hel] at hU
           repeat' (first | (show ER _ _ _ _ _ _ _; first | refine ER.seq ?_ | refine ER.reg ?_ | refine ER.yes rfl ?_ | refine ER.no rfl ?_ | refine ER.skip ?_ | refine ER.block ?_ | refine ER.endB ?_ | refine ER.exit rfl ?_ | refine ER.br rfl (fun hc => ?_) (fun hc => ?_) | refine ER.scope ?_ | refine ER.inScope ?_ | refine ER.label ?_ | refine ER.ret rfl ?_ | refine ER.nil rfl ?_) | (show EG _ _ _ _ _ _ _ _ _; first | refine EG.mov rfl rfl ?_ | refine EG.lload rfl rfl rfl rfl ?_ | refine EG.laddr rfl rfl rfl ?_ | (show EG _ _ (⟨_, .bin _ _ _, _, _⟩ :: _) _ _ _ _ _ _; first | refine EG.lssT rfl rfl rfl (by omega) ?_ | refine EG.lssF rfl rfl rfl (by omega) ?_ | refine EG.leq rfl rfl rfl (fun hc => ?_) (fun hc => ?_) | refine EG.gtr rfl rfl rfl (fun hc => ?_) (fun hc => ?_) | refine EG.geq rfl rfl rfl (fun hc => ?_) (fun hc => ?_) | refine EG.eqlT rfl rfl rfl (by omega) ?_ | refine EG.eqlF rfl rfl rfl (by omega) ?_ | refine EG.neqT rfl rfl rfl (by omega) ?_ | refine EG.neqF rfl rfl rfl (by omega) ?_ | refine EG.addN rfl rfl rfl (by omega) ?_ | refine EG.addN (b := 1) rfl rfl rfl (by omega) ?_ | refine EG.subN rfl rfl rfl (by omega) ?_ | refine EG.subN (b := 1) rfl rfl rfl (by omega) ?_ | refine EG.mulN (b := 2) rfl rfl rfl (by omega) ?_ | refine EG.mulN (a := 2) rfl rfl rfl (by omega) ?_ | refine EG.addN (a := 4) rfl rfl rfl (by omega) ?_) | (show EG _ _ (⟨_, .call _ _, _, _⟩ :: _) _ _ _ _ _ _; first | refine EG.call rfl rfl (hL7) ?_ | refine EG.call rfl rfl (hU _) ?_) | refine EG.mulN (a := 3) rfl rfl rfl (by omega) ?_ | refine EG.skip rfl ?_ | refine EG.fin ?_ | refine EG.go rfl rfl rfl ?_ | refine EG.gono rfl rfl rfl ?_ | refine EG.skipn rfl ?_))
           exact next2 (n2 - 1) _ _ (by omega) ⟨j + 1, by omega, rfl, hM7, hC7, hD7, by omega⟩
         | true =>
           by_cases hms : ms = j
           ·have hel : e.lk = true := by rw [hel, decide_eq_true hms]; rfl
            have heo := heo rfl hms
            rw [hel] at hU
            repeat' (first | (show ER _ _ _ _ _ _ _; first | refine ER.seq ?_ | refine ER.reg ?_ | refine ER.yes rfl ?_ | refine ER.no rfl ?_ | refine ER.skip ?_ | refine ER.block ?_ | refine ER.endB ?_ | refine ER.exit rfl ?_ | refine ER.br rfl (fun hc => ?_) (fun hc => ?_) | refine ER.scope ?_ | refine ER.inScope ?_ | refine ER.label ?_ | refine ER.ret rfl ?_ | refine ER.nil rfl ?_) | (show EG _ _ _ _ _ _ _ _ _; first | refine EG.mov rfl rfl ?_ | refine EG.lload rfl rfl rfl rfl ?_ | refine EG.laddr rfl rfl rfl ?_ | (show EG _ _ (⟨_, .bin _ _ _, _, _⟩ :: _) _ _ _ _ _ _; first | refine EG.lssT rfl rfl rfl (by omega) ?_ | refine EG.lssF rfl rfl rfl (by omega) ?_ | refine EG.leq rfl rfl rfl (fun hc => ?_) (fun hc => ?_) | refine EG.gtr rfl rfl rfl (fun hc => ?_) (fun hc => ?_) | refine EG.geq rfl rfl rfl (fun hc => ?_) (fun hc => ?_) | refine EG.eqlT rfl rfl rfl (by omega) ?_ | refine EG.eqlF rfl rfl rfl (by omega) ?_ | refine EG.neqT rfl rfl rfl (by omega) ?_ | refine EG.neqF rfl rfl rfl (by omega) ?_ | refine EG.addN rfl rfl rfl (by omega) ?_ | refine EG.addN (b := 1) rfl rfl rfl (by omega) ?_ | refine EG.subN rfl rfl rfl (by omega) ?_ | refine EG.subN (b := 1) rfl rfl rfl (by omega) ?_ | refine EG.mulN (b := 2) rfl rfl rfl (by omega) ?_ | refine EG.mulN (a := 2) rfl rfl rfl (by omega) ?_ | refine EG.addN (a := 4) rfl rfl rfl (by omega) ?_) | (show EG _ _ (⟨_, .call _ _, _, _⟩ :: _) _ _ _ _ _ _; first | refine EG.call rfl rfl (hL7) ?_ | refine EG.call rfl rfl (hU _) ?_) | refine EG.mulN (a := 3) rfl rfl rfl (by omega) ?_ | refine EG.skip rfl ?_ | refine EG.fin ?_ | refine EG.go rfl rfl rfl ?_ | refine EG.gono rfl rfl rfl ?_ | refine EG.skipn rfl ?_))
            exact next2 (n2 - 1) _ _ (by omega) ⟨j + 1, by omega, rfl, hM7, hC7, hD7, by omega⟩
           ·have hel : e.lk = false := by rw [hel, decide_eq_false hms]; rfl
            rw [hel] at hU
            repeat' (first | (show ER _ _ _ _ _ _ _; first | refine ER.seq ?_ | refine ER.reg ?_ | refine ER.yes rfl ?_ | refine ER.no rfl ?_ | refine ER.skip ?_ | refine ER.block ?_ | refine ER.endB ?_ | refine ER.exit rfl ?_ | refine ER.br rfl (fun hc => ?_) (fun hc => ?_) | refine ER.scope ?_ | refine ER.inScope ?_ | refine ER.label ?_ | refine ER.ret rfl ?_ | refine ER.nil rfl ?_) | (show EG _ _ _ _ _ _ _ _ _; first | refine EG.mov rfl rfl ?_ | refine EG.lload rfl rfl rfl rfl ?_ | refine EG.laddr rfl rfl rfl ?_ | (show EG _ _ (⟨_, .bin _ _ _, _, _⟩ :: _) _ _ _ _ _ _; first | refine EG.lssT rfl rfl rfl (by omega) ?_ | refine EG.lssF rfl rfl rfl (by omega) ?_ | refine EG.leq rfl rfl rfl (fun hc => ?_) (fun hc => ?_) | refine EG.gtr rfl rfl rfl (fun hc => ?_) (fun hc => ?_) | refine EG.geq rfl rfl rfl (fun hc => ?_) (fun hc => ?_) | refine EG.eqlT rfl rfl rfl (by omega) ?_ | refine EG.eqlF rfl rfl rfl (by omega) ?_ | refine EG.neqT rfl rfl rfl (by omega) ?_ | refine EG.neqF rfl rfl rfl (by omega) ?_ | refine EG.addN rfl rfl rfl (by omega) ?_ | refine EG.addN (b := 1) rfl rfl rfl (by omega) ?_ | refine EG.subN rfl rfl rfl (by omega) ?_ | refine EG.subN (b := 1) rfl rfl rfl (by omega) ?_ | refine EG.mulN (b := 2) rfl rfl rfl (by omega) ?_ | refine EG.mulN (a := 2) rfl rfl rfl (by omega) ?_ | refine EG.addN (a := 4) rfl rfl rfl (by omega) ?_) | (show EG _ _ (⟨_, .call _ _, _, _⟩ :: _) _ _ _ _ _ _; first | refine EG.call rfl rfl (hL7) ?_ | refine EG.call rfl rfl (hU _) ?_) | refine EG.mulN (a := 3) rfl rfl rfl (by omega) ?_ | refine EG.skip rfl ?_ | refine EG.fin ?_ | refine EG.go rfl rfl rfl ?_ | refine EG.gono rfl rfl rfl ?_ | refine EG.skipn rfl ?_))
            exact next2 (n2 - 1) _ _ (by omega) ⟨j + 1, by omega, rfl, hM7, hC7, hD7, by omega⟩
        ·cases rr with
         | none =>
           have hnx := hnx rfl
           repeat' (first | (show ER _ _ _ _ _ _ _; first | refine ER.seq ?_ | refine ER.reg ?_ | refine ER.yes rfl ?_ | refine ER.no rfl ?_ | refine ER.skip ?_ | refine ER.block ?_ | refine ER.endB ?_ | refine ER.exit rfl ?_ | refine ER.br rfl (fun hc => ?_) (fun hc => ?_) | refine ER.scope ?_ | refine ER.inScope ?_ | refine ER.label ?_ | refine ER.ret rfl ?_ | refine ER.nil rfl ?_) | (show EG _ _ _ _ _ _ _ _ _; first | refine EG.mov rfl rfl ?_ | refine EG.lload rfl rfl rfl rfl ?_ | refine EG.laddr rfl rfl rfl ?_ | (show EG _ _ (⟨_, .bin _ _ _, _, _⟩ :: _) _ _ _ _ _ _; first | refine EG.lssT rfl rfl rfl (by omega) ?_ | refine EG.lssF rfl rfl rfl (by omega) ?_ | refine EG.leq rfl rfl rfl (fun hc => ?_) (fun hc => ?_) | refine EG.gtr rfl rfl rfl (fun hc => ?_) (fun hc => ?_) | refine EG.geq rfl rfl rfl (fun hc => ?_) (fun hc => ?_) | refine EG.eql rfl rfl rfl (fun hc => ?_) (fun hc => ?_) | refine EG.neq rfl rfl rfl (fun hc => ?_) (fun hc => ?_) | refine EG.addN rfl rfl rfl (by omega) ?_ | refine EG.addN (b := 1) rfl rfl rfl (by omega) ?_ | refine EG.subN rfl rfl rfl (by omega) ?_ | refine EG.subN (b := 1) rfl rfl rfl (by omega) ?_) | refine EG.skip rfl ?_ | refine EG.fin ?_ | refine EG.go rfl rfl rfl ?_ | refine EG.gono rfl rfl rfl ?_ | refine EG.skipn rfl ?_))
           exact next n _ _ (by omega) ⟨i + 1, m', ws', bs', own5, ov5, tv5, by omega, rfl, hM6, hC6, hD6, hown5, hl6, hnx.1, by omega⟩
         | some z =>
           have hbe := (hfi z rfl).byt.behind
           repeat' (first | (show ER _ _ _ _ _ _ _; first | refine ER.seq ?_ | refine ER.reg ?_ | refine ER.yes rfl ?_ | refine ER.no rfl ?_ | refine ER.skip ?_ | refine ER.block ?_ | refine ER.endB ?_ | refine ER.exit rfl ?_ | refine ER.br rfl (fun hc => ?_) (fun hc => ?_) | refine ER.scope ?_ | refine ER.inScope ?_ | refine ER.label ?_ | refine ER.ret rfl ?_ | refine ER.nil rfl ?_) | (show EG _ _ _ _ _ _ _ _ _; first | refine EG.mov rfl rfl ?_ | refine EG.lload rfl rfl rfl rfl ?_ | refine EG.laddr rfl rfl rfl ?_ | (show EG _ _ (⟨_, .bin _ _ _, _, _⟩ :: _) _ _ _ _ _ _; first | refine EG.lssT rfl rfl rfl (by omega) ?_ | refine EG.lssF rfl rfl rfl (by omega) ?_ | refine EG.leq rfl rfl rfl (fun hc => ?_) (fun hc => ?_) | refine EG.gtr rfl rfl rfl (fun hc => ?_) (fun hc => ?_) | refine EG.geq rfl rfl rfl (fun hc => ?_) (fun hc => ?_) | refine EG.eql rfl rfl rfl (fun hc => ?_) (fun hc => ?_) | refine EG.neq rfl rfl rfl (fun hc => ?_) (fun hc => ?_)) | refine EG.skip rfl ?_ | refine EG.fin ?_ | refine EG.go rfl rfl rfl ?_ | refine EG.gono rfl rfl rfl ?_ | refine EG.skipn rfl ?_))
           refine .loop (fun n3 F H8 => ∃ (k : Nat), n3 + k = a ∧ fn ≤ k ∧ F = [(3, .agg #[N a, N s, N t]), (7, ptrC (newC h)), (11, ptrC (newC H3)), (22, N k)] ∧ IsC H8 (newC h) ws' bs' ∧ IsC H8 (newC H3) r.ws r.bs) (n := a - fn)
            (by refine ⟨fn, ?_, Nat.le_refl _, rfl, hC6, hD6⟩; omega) ?_
           rintro n3 F H8 ⟨k, hn3, hk3, rfl, hC8, hD8⟩ next3
           by_cases hk : k < a
           ·refine Exists.elim (byte_spec (lo := 0) hC8 (Nat.zero_le _) ((k : Nat) : Int)) fun H9 hq => ?_
            have hB1 := hq.1
            have hC9 := hq.2.1
            have ho9 := hq.2.2
            clear hq
            have hD9 := hD8.chg (Chg.of ho9) (by simp only [List.mem_singleton]; omega)
            refine Exists.elim (byte_spec (lo := 0) hD9 (Nat.zero_le _) ((k : Nat) : Int)) fun H10 hq => ?_
            have hB2 := hq.1
            have hD10 := hq.2.1
            have ho10 := hq.2.2
            clear hq
            have hC10 := hC9.chg (Chg.of ho10) (by simp only [List.mem_singleton]; omega)
            rw [hbe (k : Nat) (by omega)] at hB1
            repeat' (first | (show ER _ _ _ _ _ _ _; first | refine ER.seq ?_ | refine ER.reg ?_ | refine ER.yes rfl ?_ | refine ER.no rfl ?_ | refine ER.skip ?_ | refine ER.block ?_ | refine ER.endB ?_ | refine ER.exit rfl ?_ | refine ER.br rfl (fun hc => ?_) (fun hc => ?_) | refine ER.scope ?_ | refine ER.inScope ?_ | refine ER.label ?_ | refine ER.ret rfl ?_ | refine ER.nil rfl ?_) | (show EG _ _ _ _ _ _ _ _ _; first | refine EG.mov rfl rfl ?_ | refine EG.lload rfl rfl rfl rfl ?_ | refine EG.laddr rfl rfl rfl ?_ | (show EG _ _ (⟨_, .bin _ _ _, _, _⟩ :: _) _ _ _ _ _ _; first | refine EG.lssT rfl rfl rfl (by omega) ?_ | refine EG.lssF rfl rfl rfl (by omega) ?_ | refine EG.leq rfl rfl rfl (fun hc => ?_) (fun hc => ?_) | refine EG.gtr rfl rfl rfl (fun hc => ?_) (fun hc => ?_) | refine EG.geq rfl rfl rfl (fun hc => ?_) (fun hc => ?_) | refine EG.eql rfl rfl rfl (fun hc => ?_) (fun hc => ?_) | refine EG.neqT rfl rfl rfl (by omega) ?_ | refine EG.neqF rfl rfl rfl (by omega) ?_ | refine EG.addN rfl rfl rfl (by omega) ?_ | refine EG.addN (b := 1) rfl rfl rfl (by omega) ?_ | refine EG.subN rfl rfl rfl (by omega) ?_ | refine EG.subN (b := 1) rfl rfl rfl (by omega) ?_) | (show EG _ _ (⟨_, .call _ _, _, _⟩ :: _) _ _ _ _ _ _; first | refine EG.call rfl rfl (hB1) ?_ | refine EG.call rfl rfl (hB2) ?_) | refine EG.skip rfl ?_ | refine EG.fin ?_ | refine EG.go rfl rfl rfl ?_ | refine EG.gono rfl rfl rfl ?_ | refine EG.skipn rfl ?_))
            exact next3 (n3 - 1) _ _ (by omega) ⟨k + 1, by omega, by omega, rfl, hC10, hD10⟩
           ·repeat' (first | (show ER _ _ _ _ _ _ _; first | refine ER.seq ?_ | refine ER.reg ?_ | refine ER.yes rfl ?_ | refine ER.no rfl ?_ | refine ER.skip ?_ | refine ER.block ?_ | refine ER.endB ?_ | refine ER.exit rfl ?_ | refine ER.br rfl (fun hc => ?_) (fun hc => ?_) | refine ER.scope ?_ | refine ER.inScope ?_ | refine ER.label ?_ | refine ER.ret rfl ?_ | refine ER.nil rfl ?_) | (show EG _ _ _ _ _ _ _ _ _; first | refine EG.mov rfl rfl ?_ | refine EG.lload rfl rfl rfl rfl ?_ | refine EG.laddr rfl rfl rfl ?_ | (show EG _ _ (⟨_, .bin _ _ _, _, _⟩ :: _) _ _ _ _ _ _; first | refine EG.lssT rfl rfl rfl (by omega) ?_ | refine EG.lssF rfl rfl rfl (by omega) ?_ | refine EG.leq rfl rfl rfl (fun hc => ?_) (fun hc => ?_) | refine EG.gtr rfl rfl rfl (fun hc => ?_) (fun hc => ?_) | refine EG.geq rfl rfl rfl (fun hc => ?_) (fun hc => ?_) | refine EG.eql rfl rfl rfl (fun hc => ?_) (fun hc => ?_) | refine EG.neq rfl rfl rfl (fun hc => ?_) (fun hc => ?_)) | refine EG.call rfl rfl (live_c _ _) ?_ | refine EG.skip rfl ?_ | refine EG.fin ?_ | refine EG.go rfl rfl rfl ?_ | refine EG.gono rfl rfl rfl ?_ | refine EG.skipn rfl ?_))
            rfl
   ·subst hve
    repeat' (first | (show ER _ _ _ _ _ _ _; first | refine ER.seq ?_ | refine ER.reg ?_ | refine ER.yes rfl ?_ | refine ER.no rfl ?_ | refine ER.skip ?_ | refine ER.block ?_ | refine ER.endB ?_ | refine ER.exit rfl ?_ | refine ER.br rfl (fun hc => ?_) (fun hc => ?_) | refine ER.scope ?_ | refine ER.inScope ?_ | refine ER.label ?_ | refine ER.ret rfl ?_ | refine ER.nil rfl ?_) | (show EG _ _ _ _ _ _ _ _ _; first | refine EG.mov rfl rfl ?_ | refine EG.lload rfl rfl rfl rfl ?_ | refine EG.laddr rfl rfl rfl ?_ | (show EG _ _ (⟨_, .bin _ _ _, _, _⟩ :: _) _ _ _ _ _ _; first | refine EG.lss rfl rfl rfl (fun hc => ?_) (fun hc => ?_) | refine EG.leq rfl rfl rfl (fun hc => ?_) (fun hc => ?_) | refine EG.gtrT rfl rfl rfl (by omega) ?_ | refine EG.gtrF rfl rfl rfl (by omega) ?_ | refine EG.geq rfl rfl rfl (fun hc => ?_) (fun hc => ?_) | refine EG.eql rfl rfl rfl (fun hc => ?_) (fun hc => ?_) | refine EG.neq rfl rfl rfl (fun hc => ?_) (fun hc => ?_)) | (show EG _ _ (⟨_, .call _ _, _, _⟩ :: _) _ _ _ _ _ _; first | refine EG.call rfl rfl (hS) ?_ | refine EG.call rfl rfl (hM _ _) ?_ | refine EG.call rfl rfl (live_c _ _) ?_) | refine EG.skip rfl ?_ | refine EG.fin ?_ | refine EG.go rfl rfl rfl ?_ | refine EG.gono rfl rfl rfl ?_ | refine EG.skipn rfl ?_))
    rfl
  ·have hM := fun lo h => may_spec lo h c
   rw [decide_eq_false hm] at hM
   have hS := start_not 0 h hm
   subst hve
   repeat' (first | (show ER _ _ _ _ _ _ _; first | refine ER.seq ?_ | refine ER.reg ?_ | refine ER.yes rfl ?_ | refine ER.no rfl ?_ | refine ER.skip ?_ | refine ER.block ?_ | refine ER.endB ?_ | refine ER.exit rfl ?_ | refine ER.br rfl (fun hc => ?_) (fun hc => ?_) | refine ER.scope ?_ | refine ER.inScope ?_ | refine ER.label ?_ | refine ER.ret rfl ?_ | refine ER.nil rfl ?_) | (show EG _ _ _ _ _ _ _ _ _; first | refine EG.mov rfl rfl ?_ | refine EG.lload rfl rfl rfl rfl ?_ | refine EG.laddr rfl rfl rfl ?_ | (show EG _ _ (⟨_, .bin _ _ _, _, _⟩ :: _) _ _ _ _ _ _; first | refine EG.lss rfl rfl rfl (fun hc => ?_) (fun hc => ?_) | refine EG.leq rfl rfl rfl (fun hc => ?_) (fun hc => ?_) | refine EG.gtr rfl rfl rfl (fun hc => ?_) (fun hc => ?_) | refine EG.geq rfl rfl rfl (fun hc => ?_) (fun hc => ?_) | refine EG.eql rfl rfl rfl (fun hc => ?_) (fun hc => ?_) | refine EG.neq rfl rfl rfl (fun hc => ?_) (fun hc => ?_)) | (show EG _ _ (⟨_, .call _ _, _, _⟩ :: _) _ _ _ _ _ _; first | refine EG.call rfl rfl (hS) ?_ | refine EG.call rfl rfl (hM _ _) ?_ | refine EG.call rfl rfl (live_c _ _) ?_) | refine EG.skip rfl ?_ | refine EG.fin ?_ | refine EG.go rfl rfl rfl ?_ | refine EG.gono rfl rfl rfl ?_ | refine EG.skipn rfl ?_))
   rfl
 obtain ⟨u, h', h1, rfl⟩ := key
 exact ⟨h', h1⟩
end Go.Proofs.Ytfpfknafcgkcjaa

