/- Laid objects are placed ones. Plain. -/
import Derived.Test.YtfpfknafcgkcjaaGreatAloneX
import Derived.Test.YtfpfknafcgkcjaaGreatAloneZ
import Derived.Test.YtfpfknafcgkcjaaGreatAloneSb

set_option linter.unusedVariables false
set_option linter.unusedSimpArgs false
namespace Go.Proofs.YtfpfknafcgkcjaaGreat
open Go Go.Ir

def plOf (a i : Nat) (t : Th) : Pl := ⟨(a : Int) + 8 * t.g, i, t.p, roundI t.z, t.z⟩

theorem fillB_get {bs : List Int} {a : Nat} {f : Int} : ∀ {n : Nat} (i : Int), a + n ≤ bs.length → getI (fillB bs a f n) i = if (a : Int) ≤ i ∧ i < a + n then byteI (w64 (f + (i - a))) else getI bs i
 | 0, i, _ => by rw [if_neg (by omega)]; rfl
 | n + 1, i, h => by
   have ih := fillB_get (bs := bs) (a := a) (f := f) (n := n) i (by omega)
   unfold fillB
   by_cases he : i = ((a + n : Nat) : Int)
   ·rw [he, getI_same (by omega) (by rw [fillB_len]; omega), if_pos (by omega), show (((a + n : Nat) : Int) - a) = (n : Nat) by omega]
   ·rw [getI_ne (fun h => he h.symm), ih]
    by_cases hc : (a : Int) ≤ i ∧ i < a + n
    ·rw [if_pos hc, if_pos (by omega)]
    ·rw [if_neg hc, if_neg (by omega)]

structure Placed (c : Cfg) (l : List Th) (P : List Pl) (s : LaySt) : Prop where
 wds : Wds c P none s.ws
 ok : ∀ q ∈ P, q.Ok s.a
 apart : Apart P
 aA : (s.a : Int) ≤ c.A
 bl : s.bs.length = c.A.toNat
 rng : ∀ i : Int, 0 ≤ getI s.bs i ∧ getI s.bs i < 256
 cost : oS s.ob ≤ 3 * P.length + 2 * s.a
 ths : ∀ (j : Nat) (q : Pl), P[j]? = some q → ∃ t, l[j]? = some t ∧ q.g = j ∧ q.p = t.p ∧ q.z = t.z ∧ ∀ k : Int, 0 ≤ k → k < q.n → getI s.bs (q.o + k) = byteI (w64 (t.f + k))
 obj : s.ob.length = P.length ∧ ∀ (j : Nat) (q : Pl), P[j]? = some q → s.ob[j]? = some ⟨(j : Nat), q.o, q.n, decide (0 < q.p)⟩

theorem placed_one {A S T : Nat} {l : List Th} {P : List Pl} {t : Th} {s : LaySt} (hm : Cfg.may ⟨A, S, T⟩) (h : Placed ⟨A, S, T⟩ l P s) (hi : P.length < S) (hl : l[P.length]? = some t) (ht : okTh A s.a t) :
  Placed ⟨A, S, T⟩ l (P ++ [plOf s.a P.length t]) (layOne A T P.length t s) := by
 have hm' := hm
 unfold Cfg.may at hm'
 simp only at hm'
 unfold okTh at ht
 have hr : 8 ≤ roundI t.z ∧ roundI t.z ≤ 256 := by unfold roundI; omega
 have ha := h.aA
 simp only at ha
 have hbl := h.bl
 simp only at hbl
 have ea : ((layOne A T P.length t s).a : Int) = s.a + 8 * t.g + roundI t.z := by
  unfold layOne
  simp only
  omega
 have s0 : slotI ⟨A, S, T⟩ P.length 0 = ((4 + T + 3 * P.length : Nat) : Int) := by
  rw [(slotI_lt hm (s := (P.length : Nat)) (k := 0) (by omega) (by show (P.length : Int) < S; omega) (by omega)).1]
  show 4 + (T : Int) + 3 * P.length + 0 = _
  omega
 have s1 : slotI ⟨A, S, T⟩ P.length 1 = ((5 + T + 3 * P.length : Nat) : Int) := by
  rw [(slotI_lt hm (s := (P.length : Nat)) (k := 1) (by omega) (by show (P.length : Int) < S; omega) (by omega)).1]
  show 4 + (T : Int) + 3 * P.length + 1 = _
  omega
 have hok : (plOf s.a P.length t).Ok (layOne A T P.length t s).a := by
  unfold plOf
  refine ⟨?_, ?_, ?_, ?_, ?_, rfl⟩
  ·show 0 ≤ (s.a : Int) + 8 * t.g; omega
  ·show (s.a : Int) + 8 * t.g + roundI t.z ≤ _; omega
  ·show (0 : Int) ≤ (P.length : Nat) ∧ ((P.length : Nat) : Int) ≤ 1000; omega
  ·show 0 ≤ t.p ∧ t.p ≤ 7; omega
  ·show 1 ≤ t.z ∧ t.z ≤ 256; omega
 have eb : ∀ i : Int, getI (layOne A T P.length t s).bs i = if ((s.a + 8 * t.g.toNat : Nat) : Int) ≤ i ∧ i < ((s.a + 8 * t.g.toNat : Nat) : Int) + (roundI t.z).toNat then byteI (w64 (t.f + (i - ((s.a + 8 * t.g.toNat : Nat) : Int)))) else getI s.bs i := fun i => by
  unfold layOne
  simp only
  exact fillB_get i (by omega)
 refine ⟨?_, fun q hq => ?_, ?_, ?_, ?_, fun i => ?_, ?_, fun j q hq => ?_, ?_, fun j q hq => ?_⟩
 ·have := h.wds.add hm (by show (P.length : Int) < S; omega) (plOf s.a P.length t)
  rw [s0, s1] at this
  exact this
 ·rcases List.mem_append.1 hq with g | g
  ·exact (h.ok q g).mono (by omega)
  ·simp at g; subst g; exact hok
 ·refine List.pairwise_append.2 ⟨h.apart, List.pairwise_singleton _ _, fun x hx y hy => ?_⟩
  simp at hy
  subst hy
  have := (h.ok x hx).of
  show x.o + x.n ≤ (s.a : Int) + 8 * t.g
  omega
 ·show ((layOne A T P.length t s).a : Int) ≤ A
  omega
 ·unfold layOne
  simp only
  rw [fillB_len]; exact hbl
 ·rw [eb]
  split
  ·exact byteI_range _
  ·exact h.rng i
 ·have hc := h.cost
  unfold layOne
  simp only
  rw [oS_app, List.length_append]
  show oS s.ob + ((3 + 2 * (roundI t.z).toNat) + 0) ≤ 3 * (P.length + 1) + 2 * (s.a + 8 * t.g.toNat + (roundI t.z).toNat)
  omega
 ·by_cases he : j < P.length
  ·rw [List.getElem?_append_left he] at hq
   obtain ⟨t', g1, g2, g3, g4, g5⟩ := h.ths j q hq
   refine ⟨t', g1, g2, g3, g4, fun k k0 k1 => ?_⟩
   have := (h.ok q (List.mem_of_getElem? hq)).of
   rw [eb, if_neg (by omega)]
   exact g5 k k0 k1
  ·have hj := (List.getElem?_eq_some_iff.1 hq).1
   rw [List.length_append] at hj
   have hj : j < P.length + 1 := hj
   have he : j = P.length := by omega
   subst he
   rw [List.getElem?_append_right (by omega), Nat.sub_self, List.getElem?_cons_zero] at hq
   have hq := Option.some.inj hq
   subst hq
   refine ⟨t, hl, rfl, rfl, rfl, fun k k0 k1 => ?_⟩
   have k1 : k < roundI t.z := k1
   show getI _ ((s.a : Int) + 8 * t.g + k) = _
   rw [eb, if_pos (by omega), show (s.a : Int) + 8 * t.g + k - ((s.a + 8 * t.g.toNat : Nat) : Int) = k by omega]
 ·unfold layOne
  simp only
  rw [List.length_append, List.length_append, h.obj.1]; rfl
 ·show (s.ob ++ [_])[j]? = _
  by_cases he : j < P.length
  ·rw [List.getElem?_append_left he] at hq
   rw [List.getElem?_append_left (by rw [h.obj.1]; exact he)]
   exact h.obj.2 j q hq
  ·have hj := (List.getElem?_eq_some_iff.1 hq).1
   rw [List.length_append] at hj
   have hj : j < P.length + 1 := hj
   have he : j = P.length := by omega
   subst he
   rw [List.getElem?_append_right (by omega), Nat.sub_self, List.getElem?_cons_zero] at hq
   have hq := Option.some.inj hq
   subst hq
   rw [List.getElem?_append_right (by rw [h.obj.1]; omega), h.obj.1, Nat.sub_self]
   rfl

theorem placed_all {A S T : Nat} {l : List Th} (hm : Cfg.may ⟨A, S, T⟩) : ∀ (r : List Th) (P : List Pl) (s z : LaySt), l.drop P.length = r → Placed ⟨A, S, T⟩ l P s → P.length + r.length ≤ S → layAll A T r P.length s = some z → ∃ P', P'.length = P.length + r.length ∧ Placed ⟨A, S, T⟩ l P' z
 | [], P, s, z, _, h, _, e => by
   unfold layAll at e
   injection e with e
   subst e
   exact ⟨P, rfl, h⟩
 | t :: r, P, s, z, hd, h, hl, e => by
   unfold layAll at e
   rw [List.length_cons] at hl ⊢
   by_cases ht : okTh A s.a t
   ·rw [if_pos ht] at e
    have hg : l[P.length]? = some t := by rw [← List.head?_drop, hd]; rfl
    have h1 := placed_one hm h (by omega) hg ht
    have hd' : l.drop (P ++ [plOf s.a P.length t]).length = r := by
     rw [List.length_append, List.length_singleton, ← List.drop_drop, hd]; rfl
    obtain ⟨P', g1, g2⟩ := placed_all hm r _ _ z hd' h1 (by rw [List.length_append, List.length_singleton]; omega) (by rw [List.length_append, List.length_singleton]; exact e)
    refine ⟨P', ?_, g2⟩
    rw [g1, List.length_append, List.length_singleton]; omega
   ·rw [if_neg ht] at e; cases e

theorem lay_placed {A S T : Nat} {l : List Th} {tail : Int} {r : LaySt} (hm : Cfg.may ⟨A, S, T⟩) (h : layR A S T l tail (startL ⟨A, S, T⟩) (List.replicate ((A : Int)).toNat 0) = some r) :
  ∃ P, P.length = l.length ∧ Placed ⟨A, S, T⟩ l P r ∧ Su ⟨A, S, T⟩ P (getI r.ws 0) := by
 have hm' := hm
 unfold Cfg.may at hm'
 simp only at hm'
 unfold layR at h
 by_cases hg : l.length ≤ S ∧ 0 ≤ tail ∧ tail ≤ 100
 ·rw [if_pos hg] at h
  have h0 : Placed ⟨A, S, T⟩ l [] ⟨0, startL ⟨A, S, T⟩, List.replicate ((A : Int)).toNat 0, []⟩ := by
   refine ⟨.start hm, fun q hq => (by cases hq), .nil, by show ((0 : Nat) : Int) ≤ A; omega, List.length_replicate, fun i => ?_, Nat.zero_le _, fun j q hq => (by cases hq), rfl, fun j q hq => (by cases hq)⟩
   show 0 ≤ getI (List.replicate ((A : Int)).toNat 0) i ∧ getI (List.replicate ((A : Int)).toNat 0) i < 256
   have : getI (List.replicate ((A : Int)).toNat 0) i = 0 := by
    unfold getI
    split
    ·rw [List.getD_eq_getElem?_getD, List.getElem?_replicate]
     split <;> rfl
    ·rfl
   omega
  cases hr : layAll A T l 0 ⟨0, startL ⟨A, S, T⟩, List.replicate ((A : Int)).toNat 0, []⟩ with
  | none => rw [hr] at h; cases h
  | some s =>
    rw [hr, Option.map_some] at h
    injection h with h
    subst h
    obtain ⟨P, g1, g2⟩ := placed_all hm l [] _ s rfl h0 (by show 0 + l.length ≤ S; omega) hr
    have g1 : P.length = l.length := by rw [g1]; show 0 + l.length = _; omega
    have hw0 : getI (setI s.ws 0 (min ((s.a : Int) + 8 * tail) A)) 0 = min ((s.a : Int) + 8 * tail) A := getI_same (by omega) (by rw [g2.wds.len]; unfold wordsI; simp only; omega)
    have ha := g2.aA
    simp only at ha
    refine ⟨P, g1, ⟨g2.wds.low hm (.inl rfl) _, g2.ok, g2.apart, g2.aA, g2.bl, g2.rng, g2.cost, g2.ths, g2.obj⟩, hm, ?_, ?_, fun q hq => ?_, g2.apart, by rw [g1]; show (l.length : Int) ≤ S; omega⟩
    ·simp only; rw [hw0]; omega
    ·simp only; rw [hw0]; omega
    ·simp only; rw [hw0]; exact (g2.ok q hq).mono (by omega)
 ·rw [if_neg hg] at h; cases h
end Go.Proofs.YtfpfknafcgkcjaaGreat

/- Where the plan says that placed objects go. Plain. -/
set_option linter.unusedVariables false
set_option linter.unusedSimpArgs false
namespace Go.Proofs.YtfpfknafcgkcjaaGreat
open Go Go.Ir

def objsX : Nat → List Pl → List Obj
 | _, [] => []
 | j, q :: r => ⟨(j : Nat), q.o, q.n, decide (0 < q.p)⟩ :: objsX (j + 1) r
theorem objsX_get : ∀ (l : List Pl) (j i : Nat), (objsX j l)[i]? = (l[i]?).map fun q => ⟨((j + i : Nat) : Int), q.o, q.n, decide (0 < q.p)⟩
 | [], _, _ => rfl
 | q :: r, j, 0 => rfl
 | q :: r, j, i + 1 => by
   simp only [objsX, List.getElem?_cons_succ, objsX_get r]
   rw [show j + 1 + i = j + (i + 1) by omega]
theorem objsX_mem {l : List Pl} {j : Nat} {o : Obj} (h : o ∈ objsX j l) : ∃ q ∈ l, o.o = q.o ∧ o.n = q.n := by
 obtain ⟨i, hi⟩ := List.getElem?_of_mem h
 rw [objsX_get] at hi
 cases hq : l[i]? with
 | none => rw [hq] at hi; cases hi
 | some q =>
   rw [hq] at hi
   injection hi with hi
   exact ⟨q, List.mem_of_getElem? hq, by rw [← hi], by rw [← hi]⟩
theorem objsX_is {l : List Pl} {ob : List Obj} (hl : ob.length = l.length) (h : ∀ (j : Nat) (q : Pl), l[j]? = some q → ob[j]? = some ⟨(j : Nat), q.o, q.n, decide (0 < q.p)⟩) : ob = objsX 0 l := by
 refine List.ext_getElem? fun j => ?_
 rw [objsX_get]
 cases hq : l[j]? with
 | none => rw [List.getElem?_eq_none (by rw [hl]; exact List.getElem?_eq_none_iff.1 hq)]; rfl
 | some q => rw [h j q hq, Option.map_some, show 0 + j = j by omega]
theorem objsX_sorted : ∀ {l : List Pl} (j : Nat), Apart l → (∀ q ∈ l, 1 ≤ q.n) → (objsX j l).Pairwise Le
 | [], _, _, _ => .nil
 | q :: r, j, h, hn => by
   have hp := List.pairwise_cons.1 h
   refine List.pairwise_cons.2 ⟨fun o ho => ?_, objsX_sorted (j + 1) hp.2 fun q hq => hn q (List.mem_cons_of_mem _ hq)⟩
   obtain ⟨x, hx, e, _⟩ := objsX_mem ho
   have h1 := hp.1 x hx
   have h2 := hn q (by simp)
   exact .of_lt (.inl (by show q.o < o.o; omega))
theorem objsX_sort {l : List Pl} (h : Apart l) (hn : ∀ q ∈ l, 1 ≤ q.n) : sortR (objsX 0 l) = objsX 0 l := sorted_unique (sortR_perm _) (sortR_sorted _) (objsX_sorted 0 h hn)

theorem objsX_ok {c : Cfg} {P : List Pl} {f : Int} (su : Su c P f) (hf : f ≤ c.A) : okN c.A (objsX 0 P) = 0 := by
 have hm := su.may
 unfold Cfg.may at hm
 refine okN_0 ⟨by omega, by omega, ?_, fun i x hx => ?_⟩
 ·rw [apartP_pairs]
  have : ∀ (l : List Pl) (j : Nat), Apart l → (∀ q ∈ l, 0 ≤ q.o ∧ 1 ≤ q.n ∧ q.o + q.n ≤ 4096) → (objsX j l).Pairwise fun y x => shareB x y = false := by
   intro l
   induction l with
   | nil => intro j _ _; exact .nil
   | cons q r ih =>
     intro j h hn
     have hp := List.pairwise_cons.1 h
     refine List.pairwise_cons.2 ⟨fun o ho => ?_, ih (j + 1) hp.2 fun q hq => hn q (List.mem_cons_of_mem _ hq)⟩
     obtain ⟨x, hx, e1, e2⟩ := objsX_mem ho
     have h1 := hp.1 x hx
     have h2 := hn q (by simp)
     have h3 := hn x (List.mem_cons_of_mem _ hx)
     unfold shareB hasB
     have w1 : IntKind.i64.wrap (q.o - o.o) = q.o - o.o := wrap_id (by omega) (by omega)
     have w2 : IntKind.i64.wrap (o.o - q.o) = o.o - q.o := wrap_id (by omega) (by omega)
     simp only [w1, w2]
     have a1 : ¬ o.o ≤ q.o := by omega
     have a2 : ¬ o.o - q.o < q.n := by omega
     simp [a1, a2]
  exact this P 0 su.apart fun q hq => by
   have hok := su.ok q hq
   have := hok.n0
   have := hok.o0
   have := hok.of
   omega
 ·rw [objsX_get] at hx
  cases hq : P[i]? with
  | none => rw [hq] at hx; cases hx
  | some q =>
    rw [hq, Option.map_some] at hx
    have hx := Option.some.inj hx
    have hok := su.ok q (List.mem_of_getElem? hq)
    have h1 := hok.n0
    have h2 := hok.o0
    have h3 := hok.of
    subst hx
    unfold fineP
    simp only
    have w1 : IntKind.i64.wrap (c.A - q.n) = c.A - q.n := wrap_id (by omega) (by omega)
    rw [w1]
    omega

def movesOf : Nat → Int → List Pl → List Mv
 | _, _, [] => []
 | j, d, q :: r => if newO d q = q.o then movesOf (j + 1) (newD d q) r else ⟨(j : Nat), q.o, newO d q, q.n⟩ :: movesOf (j + 1) (newD d q) r

theorem movesOf_len : ∀ (l : List Pl) (j : Nat) (d : Int), ((movesOf j d l).length : Int) = slN d l
 | [], _, _ => rfl
 | q :: r, j, d => by
   have ih := movesOf_len r (j + 1) (newD d q)
   rw [movesOf, slN]
   by_cases hc : 0 < q.p ∨ q.o ≤ d
   ·rw [if_pos (by unfold newO; rw [if_pos hc]), ih]
    unfold newN
    rw [if_pos hc]; omega
   ·rw [if_neg (by unfold newO; rw [if_neg hc]; omega), List.length_cons]
    unfold newN
    rw [if_neg hc]
    omega

theorem slideG_pl : ∀ (l : List Pl) (j : Nat) (d : Int), Apart l → 0 ≤ d → (∀ q ∈ l, d ≤ q.o ∧ 0 ≤ q.n ∧ q.o + q.n ≤ 4096) → slideG (objsX j l) d = (movesOf j d l, slD d l)
 | [], _, _, _, _, _ => rfl
 | q :: r, j, d, ha, h0, h => by
   have hp := List.pairwise_cons.1 ha
   have hq := h q (by simp)
   have eT : slideT d ⟨(j : Nat), q.o, q.n, decide (0 < q.p)⟩ = newO d q := by
    unfold slideT newO
    simp only
    by_cases hc : 0 < q.p
    ·rw [decide_eq_true hc, if_pos rfl, if_pos (.inl hc)]
    ·rw [decide_eq_false hc, if_neg (by simp)]
     split <;> omega
   have eD : newO d q + q.n = newD d q := by
    unfold newO newD maxI
    split
    ·split <;> omega
    ·rfl
   have hge : d ≤ newO d q ∧ newO d q ≤ q.o := by unfold newO; split <;> omega
   have eW : IntKind.i64.wrap (newO d q + q.n) = newD d q := by rw [eD]; exact wrap_id (by omega) (by omega)
   have ih := slideG_pl r (j + 1) (newD d q) hp.2 (by omega) fun x hx => by
    have h1 := h x (List.mem_cons_of_mem _ hx)
    have h2 := hp.1 x hx
    omega
   show slideG (⟨(j : Nat), q.o, q.n, decide (0 < q.p)⟩ :: objsX (j + 1) r) d = _
   rw [slideG_cons, eT, eW, ih]
   show _ = (movesOf j d (q :: r), slD (newD d q) r)
   rw [movesOf]

def atF (i : Nat) (l : List Mv) (o : Int) : Int := l.foldl (fun a m => if m.s = (i : Int) then m.t else a) o
theorem atF_none (i : Nat) : ∀ (l : List Pl) (j : Nat) (d o : Int), i < j → atF i (movesOf j d l) o = o
 | [], _, _, _, _ => rfl
 | q :: r, j, d, o, h => by
   rw [movesOf]
   split
   ·exact atF_none i r (j + 1) _ o (by omega)
   ·unfold atF
    rw [List.foldl_cons, if_neg (by show ((j : Nat) : Int) ≠ (i : Nat); omega)]
    exact atF_none i r (j + 1) _ o (by omega)
theorem atF_some : ∀ (l : List Pl) (k j : Nat) (d : Int) (q q' : Pl), l[k]? = some q → (slide d l)[k]? = some q' → atF (j + k) (movesOf j d l) q.o = q'.o
 | [], _, _, _, _, _, h, _ => by simp at h
 | x :: r, 0, j, d, q, q', h, h' => by
   simp only [slide, List.getElem?_cons_zero] at h h'
   have h := Option.some.inj h
   have h' := Option.some.inj h'
   subst h h'
   rw [movesOf]
   split
   ·rename_i hc
    rw [atF_none _ _ _ _ _ (by omega)]
    exact hc.symm
   ·unfold atF
    rw [List.foldl_cons, if_pos (by show ((j : Nat) : Int) = ((j + 0 : Nat) : Int); omega)]
    exact atF_none _ r (j + 1) _ _ (by omega)
 | x :: r, k + 1, j, d, q, q', h, h' => by
   simp only [slide, List.getElem?_cons_succ] at h h'
   have ih := atF_some r k (j + 1) (newD d x) q q' h h'
   rw [show j + 1 + k = j + (k + 1) by omega] at ih
   rw [movesOf]
   split
   ·exact ih
   ·unfold atF
    rw [List.foldl_cons, if_neg (by show ((j : Nat) : Int) ≠ ((j + (k + 1) : Nat) : Int); omega)]
    exact ih

theorem slD_top {d f : Int} : ∀ {l : List Pl}, d ≤ f → (∀ q ∈ l, q.o + q.n ≤ f ∧ d ≤ q.o) → Apart l → slD d l ≤ f
 | [], h, _, _ => h
 | q :: r, h, hq, ha => by
   have hp := List.pairwise_cons.1 ha
   have h1 := hq q (by simp)
   have : newD d q ≤ q.o + q.n ∨ newD d q = d := by
    unfold newD maxI
    split
    ·split
     ·exact .inl (Int.le_refl _)
     ·exact .inr rfl
    ·exact .inl (by omega)
   refine slD_top (d := newD d q) (l := r) (by omega) (fun x hx => ⟨(hq x (List.mem_cons_of_mem _ hx)).1, ?_⟩) hp.2
   have h2 := hp.1 x hx
   have h3 := (hq x (List.mem_cons_of_mem _ hx)).2
   omega
end Go.Proofs.YtfpfknafcgkcjaaGreat

