/- Placed objects: where a pass lays them; the words that hold them. Plain. -/
import Derived.Test.YtfpfknafcgkcjaaGreatAloneY

set_option linter.unusedVariables false
set_option linter.unusedSimpArgs false
namespace Go.Proofs.YtfpfknafcgkcjaaGreat
open Go Go.Ir

structure Pl where
 o : Int
 g : Int
 p : Int
 n : Int
 z : Int
def Pl.ent (q : Pl) (lk : Bool) : Ent := ⟨q.o, q.g, q.p, 0, lk, true⟩
def Pl.w (q : Pl) (lk : Bool) : Int := (packN (q.ent lk) : Nat)
structure Pl.Ok (f : Int) (q : Pl) : Prop where
 o0 : 0 ≤ q.o
 of : q.o + q.n ≤ f
 g0 : 0 ≤ q.g ∧ q.g ≤ 1000
 p0 : 0 ≤ q.p ∧ q.p ≤ 7
 z0 : 1 ≤ q.z ∧ q.z ≤ 256
 nz : q.n = roundI q.z
theorem Pl.Ok.n0 {f : Int} {q : Pl} (h : q.Ok f) : 8 ≤ q.n ∧ q.n ≤ 256 := by
 have h1 := h.z0
 rw [h.nz]; unfold roundI; omega
theorem Pl.Ok.may {f : Int} {q : Pl} (h : q.Ok f) (hf : f ≤ 4096) {lk : Bool} (hl : lk = true → q.p = 0) : (q.ent lk).may := by
 have h1 := h.n0
 have h2 := h.o0
 have h3 := h.of
 have h4 := h.g0
 have h5 := h.p0
 unfold Pl.ent Ent.may
 simp only
 exact ⟨h2, by omega, h4.1, h4.2, h5.1, h5.2, by omega, by omega, fun g => by have := hl g; omega, fun g => by cases g⟩

theorem Pl.w_unpack {q : Pl} {lk : Bool} (h : (q.ent lk).may) : unpackE (q.w lk) = some (q.ent lk) := by
 unfold Pl.w
 exact unpack_pack h
theorem chA_some {w : Int} {e : Ent} {g : Ent → Ent} (hu : unpackE w = some e) (hl : e.lv = true) (hm : (g e).may) : chA w g = (packN (g e) : Nat) := by
 unfold chA
 rw [hu]
 simp only
 rw [if_pos hl, if_pos hm]
theorem Pl.w_lock {f : Int} {q : Pl} (hok : q.Ok f) (hf : f ≤ 4096) (p0 : q.p = 0) : chA (q.w false) lockF = q.w true := by
 have hm : (q.ent true).may := hok.may hf fun _ => p0
 have e : lockF (q.ent false) = q.ent true := rfl
 have h := chA_some (g := lockF) (Pl.w_unpack (q := q) (lk := false) (hok.may hf fun h => (by cases h))) rfl (by rw [e]; exact hm)
 rw [e] at h
 exact h
theorem Pl.w_move {f : Int} {q : Pl} (hok : q.Ok f) (hf : f ≤ 4096) (p0 : q.p = 0) {d : Int} (hd : 0 ≤ d ∧ d ≤ 4096) : chA (q.w true) (moveF d) = ({ q with o := d } : Pl).w false := by
 have e : moveF d (q.ent true) = ({ q with o := d } : Pl).ent false := rfl
 have hm : (({ q with o := d } : Pl).ent false).may := by
  have h4 := hok.g0
  have h5 := hok.p0
  unfold Pl.ent Ent.may
  simp only
  exact ⟨hd.1, hd.2, h4.1, h4.2, h5.1, h5.2, by omega, by omega, fun g => (by cases g), fun g => (by cases g)⟩
 have h := chA_some (g := moveF d) (Pl.w_unpack (q := q) (lk := true) (hok.may hf fun _ => p0)) rfl (by rw [e]; exact hm)
 rw [e] at h
 exact h

def newO (d : Int) (q : Pl) : Int := if 0 < q.p ∨ q.o ≤ d then q.o else d
def newD (d : Int) (q : Pl) : Int := if 0 < q.p ∨ q.o ≤ d then maxI d (q.o + q.n) else d + q.n
def newN (d : Int) (q : Pl) : Int := if 0 < q.p ∨ q.o ≤ d then 0 else 1
def slide : Int → List Pl → List Pl
 | _, [] => []
 | d, q :: r => { q with o := newO d q } :: slide (newD d q) r
def slD : Int → List Pl → Int
 | d, [] => d
 | d, q :: r => slD (newD d q) r
def slN : Int → List Pl → Int
 | _, [] => 0
 | d, q :: r => newN d q + slN (newD d q) r

theorem slide_app (b : List Pl) : ∀ (a : List Pl) (d : Int), slide d (a ++ b) = slide d a ++ slide (slD d a) b
 | [], d => rfl
 | q :: a, d => by simp only [List.cons_append, slide, slD, slide_app b a]
theorem slD_app (b : List Pl) : ∀ (a : List Pl) (d : Int), slD d (a ++ b) = slD (slD d a) b
 | [], d => rfl
 | q :: a, d => by simp only [List.cons_append, slD, slD_app b a]
theorem slN_app (b : List Pl) : ∀ (a : List Pl) (d : Int), slN d (a ++ b) = slN d a + slN (slD d a) b
 | [], d => by simp [slN, slD]
 | q :: a, d => by simp only [List.cons_append, slN, slD, slN_app b a]; omega
theorem slide_len : ∀ (a : List Pl) (d : Int), (slide d a).length = a.length
 | [], d => rfl
 | q :: a, d => by simp only [slide, List.length_cons, slide_len a]
theorem slN_le : ∀ (a : List Pl) (d : Int), 0 ≤ slN d a ∧ slN d a ≤ a.length
 | [], d => by simp [slN]
 | q :: a, d => by
   have := slN_le a (newD d q)
   simp only [slN, List.length_cons]
   unfold newN
   split <;> omega

def Apart (l : List Pl) : Prop := l.Pairwise fun x y => x.o + x.n ≤ y.o

theorem slD_ge {d : Int} : ∀ {l : List Pl}, (∀ q ∈ l, 0 ≤ q.n) → d ≤ slD d l
 | [], _ => Int.le_refl _
 | x :: l, h => by
   have h0 := h x (by simp)
   have := slD_ge (d := newD d x) (l := l) fun q hq => h q (by simp [hq])
   have : d ≤ newD d x := by
    unfold newD maxI
    split
    ·split <;> omega
    ·omega
   simp only [slD]
   omega
theorem slide_end {d : Int} : ∀ {l : List Pl}, (∀ q ∈ l, 0 ≤ q.n) → ∀ q ∈ slide d l, q.o + q.n ≤ slD d l
 | [], _, q, hq => by cases hq
 | x :: l, h, q, hq => by
   have h0 := h x (by simp)
   have hl : ∀ q ∈ l, 0 ≤ q.n := fun q hq => h q (by simp [hq])
   simp only [slide, List.mem_cons] at hq
   rcases hq with rfl | hq
   ·have := slD_ge (d := newD d x) hl
    show newO d x + x.n ≤ slD (newD d x) l
    have : newO d x + x.n ≤ newD d x := by
     unfold newO newD maxI
     split
     ·split <;> omega
     ·omega
    omega
   ·exact slide_end hl q hq
theorem slide_ge {d : Int} : ∀ {l : List Pl}, (∀ q ∈ l, 0 ≤ q.n ∧ d ≤ q.o) → Apart l → ∀ q ∈ slide d l, d ≤ q.o
 | [], _, _, q, hq => by cases hq
 | x :: l, h, ha, q, hq => by
   have h0 := h x (by simp)
   have hp := List.pairwise_cons.1 ha
   have hd : d ≤ newD d x := by
    unfold newD maxI
    split
    ·split <;> omega
    ·omega
   simp only [slide, List.mem_cons] at hq
   rcases hq with rfl | hq
   ·show d ≤ newO d x
    unfold newO
    split <;> omega
   ·have := slide_ge (d := newD d x) (l := l) (fun y hy => by
     have g1 := h y (by simp [hy])
     have g2 := hp.1 y hy
     refine ⟨g1.1, ?_⟩
     unfold newD maxI
     split
     ·split <;> omega
     ·omega) hp.2 q hq
    omega
structure Wds (c : Cfg) (cur : List Pl) (lk : Option Nat) (ws : List Int) : Prop where
 len : ws.length = (wordsI c).toNat
 fit : (cur.length : Int) ≤ c.S
 ent : ∀ (j : Nat) (q : Pl), cur[j]? = some q → getI ws (slotI c j 0) = q.w (decide (lk = some j))
 siz : ∀ (j : Nat) (q : Pl), cur[j]? = some q → getI ws (slotI c j 1) = q.z
 free : ∀ j : Int, (cur.length : Int) ≤ j → j < c.S → getI ws (slotI c j 0) = 0
 pend : getI ws 2 = 0
 note : ∀ t : Int, 0 ≤ t → t < c.T → getI ws (4 + t) = 0

theorem Wds.low {c : Cfg} {cur : List Pl} {lk : Option Nat} {ws : List Int} (h : Wds c cur lk ws) (hm : c.may) {i : Int} (hi : i = 0 ∨ i = 3) (n : Int) : Wds c cur lk (setI ws i n) := by
 have hs : ∀ j : Int, 0 ≤ j → j < c.S → ∀ k : Int, 0 ≤ k ∧ k ≤ 1 → getI (setI ws i n) (slotI c j k) = getI ws (slotI c j k) := fun j h0 h1 k hk => by
  have := slotI_lt hm h0 h1 (k := k) (by omega)
  exact getI_ne (by omega)
 have hf := h.fit
 refine ⟨by rw [setI_len]; exact h.len, h.fit, fun j q hq => ?_, fun j q hq => ?_, fun j h0 h1 => ?_, by rw [getI_ne (by omega)]; exact h.pend, fun t h0 h1 => by rw [getI_ne (by omega)]; exact h.note t h0 h1⟩
 ·have hj := (List.getElem?_eq_some_iff.1 hq).1
  rw [hs j (by omega) (by omega) 0 (by omega)]; exact h.ent j q hq
 ·have hj := (List.getElem?_eq_some_iff.1 hq).1
  rw [hs j (by omega) (by omega) 1 (by omega)]; exact h.siz j q hq
 ·rw [hs j (by omega) h1 0 (by omega)]; exact h.free j h0 h1

theorem Wds.set {c : Cfg} {cur : List Pl} {lk lk' : Option Nat} {ws : List Int} (h : Wds c cur lk ws) (hm : c.may) {j : Nat} {q q' : Pl} (hj : cur[j]? = some q) (hz : q'.z = q.z) (hl : ∀ k : Nat, k ≠ j → (lk' = some k ↔ lk = some k)) :
  Wds c (cur.set j q') lk' (setI ws (slotI c j 0) (q'.w (decide (lk' = some j)))) := by
 have hjl := (List.getElem?_eq_some_iff.1 hj).1
 have hf := h.fit
 have hsj := slotI_lt hm (s := j) (k := 0) (by omega) (by omega) (by omega)
 have hm' := hm
 unfold Cfg.may at hm'
 have hwl : (ws.length : Int) = wordsI c := by rw [h.len]; unfold wordsI; omega
 have hs : ∀ k : Int, 0 ≤ k → k < c.S → ∀ i : Int, 0 ≤ i ∧ i ≤ 1 → (k ≠ j ∨ i = 1) → getI (setI ws (slotI c j 0) (q'.w (decide (lk' = some j)))) (slotI c k i) = getI ws (slotI c k i) := fun k h0 h1 i hi hk => by
  have := slotI_lt hm h0 h1 (k := i) (by omega)
  exact getI_ne (by omega)
 refine ⟨by rw [setI_len]; exact h.len, by rw [List.length_set]; exact h.fit, fun k x hx => ?_, fun k x hx => ?_, fun k h0 h1 => ?_, by rw [getI_ne (by omega)]; exact h.pend, fun t h0 h1 => by rw [getI_ne (by omega)]; exact h.note t h0 h1⟩
 ·have hk := (List.getElem?_eq_some_iff.1 hx).1
  rw [List.length_set] at hk
  by_cases he : k = j
  ·subst he
   rw [List.getElem?_set_self hk] at hx
   injection hx with hx
   subst hx
   exact getI_same (by omega) (by omega)
  ·rw [List.getElem?_set_ne (fun g => he g.symm)] at hx
   rw [hs k (by omega) (by omega) 0 (by omega) (.inl (by omega)), h.ent k x hx]
   have : decide (lk' = some k) = decide (lk = some k) := decide_eq_decide.2 (hl k he)
   rw [this]
 ·have hk := (List.getElem?_eq_some_iff.1 hx).1
  rw [List.length_set] at hk
  rw [hs k (by omega) (by omega) 1 (by omega) (.inr rfl)]
  by_cases he : k = j
  ·subst he
   rw [List.getElem?_set_self hk] at hx
   injection hx with hx
   subst hx
   rw [hz]; exact h.siz k q hj
  ·rw [List.getElem?_set_ne (fun g => he g.symm)] at hx
   exact h.siz k x hx
 ·rw [List.length_set] at h0
  rw [hs k (by omega) h1 0 (by omega) (.inl (by omega))]
  exact h.free k h0 h1
end Go.Proofs.YtfpfknafcgkcjaaGreat

/- A pass alone over placed objects: what holds on the way. Plain. -/
set_option linter.unusedVariables false
set_option linter.unusedSimpArgs false
namespace Go.Proofs.YtfpfknafcgkcjaaGreat
open Go Go.Ir

def objsOf : Nat → List Pl → List Obj
 | _, [] => []
 | j, q :: r => ⟨j, q.o, q.n, false⟩ :: objsOf (j + 1) r
theorem objsOf_len : ∀ (l : List Pl) (j : Nat), (objsOf j l).length = l.length
 | [], _ => rfl
 | q :: r, j => by simp only [objsOf, List.length_cons, objsOf_len r]
theorem objsOf_get : ∀ (l : List Pl) (j i : Nat), (objsOf j l)[i]? = (l[i]?).map fun q => ⟨((j + i : Nat) : Int), q.o, q.n, false⟩
 | [], _, _ => rfl
 | q :: r, j, 0 => rfl
 | q :: r, j, i + 1 => by
   simp only [objsOf, List.getElem?_cons_succ, objsOf_get r]
   rw [show j + 1 + i = j + (i + 1) by omega]
theorem objsOf_app : ∀ (a b : List Pl) (j : Nat), objsOf j (a ++ b) = objsOf j a ++ objsOf (j + a.length) b
 | [], b, j => rfl
 | q :: a, b, j => by
   simp only [List.cons_append, objsOf, objsOf_app a, List.length_cons]
   rw [show j + 1 + a.length = j + (a.length + 1) by omega]
theorem objsOf_mem {l : List Pl} {j : Nat} {o : Obj} (h : o ∈ objsOf j l) : ∃ q ∈ l, o.o = q.o := by
 obtain ⟨i, hi⟩ := List.getElem?_of_mem h
 rw [objsOf_get] at hi
 cases hq : l[i]? with
 | none => rw [hq] at hi; cases hi
 | some q =>
   rw [hq] at hi
   injection hi with hi
   exact ⟨q, List.mem_of_getElem? hq, by rw [← hi]⟩
theorem objsOf_sorted : ∀ {l : List Pl} (j : Nat), Apart l → (∀ q ∈ l, 1 ≤ q.n) → (objsOf j l).Pairwise Le
 | [], _, _, _ => .nil
 | q :: r, j, h, hn => by
   have hp := List.pairwise_cons.1 h
   refine List.pairwise_cons.2 ⟨fun o ho => ?_, objsOf_sorted (j + 1) hp.2 fun q hq => hn q (List.mem_cons_of_mem _ hq)⟩
   obtain ⟨x, hx, e⟩ := objsOf_mem ho
   have h1 := hp.1 x hx
   have h2 := hn q (by simp)
   exact .of_lt (.inl (by show q.o < o.o; omega))
theorem objsOf_sort {l : List Pl} (h : Apart l) (hn : ∀ q ∈ l, 1 ≤ q.n) : sortR (objsOf 0 l) = objsOf 0 l := sorted_unique (sortR_perm _) (sortR_sorted _) (objsOf_sorted 0 h hn)

def cur (P : List Pl) (a : Nat) : List Pl := slide 0 (P.take a) ++ P.drop a
def dst (P : List Pl) (a : Nat) : Int := slD 0 (P.take a)
def cnt (P : List Pl) (a : Nat) : Int := slN 0 (P.take a)

section
variable {P : List Pl} {a : Nat} {q : Pl}
theorem cur_len (ha : a ≤ P.length) : (cur P a).length = P.length := by
 unfold cur
 rw [List.length_append, slide_len, List.length_take, List.length_drop]; omega
theorem cur_zero : cur P 0 = P := rfl
theorem cur_top : cur P P.length = slide 0 P := by unfold cur; rw [List.take_length, List.drop_length, List.append_nil]
theorem dst_top : dst P P.length = slD 0 P := by unfold dst; rw [List.take_length]
theorem cnt_top : cnt P P.length = slN 0 P := by unfold cnt; rw [List.take_length]
theorem cur_this (h : P[a]? = some q) : (cur P a)[a]? = some q := by
 have ha := (List.getElem?_eq_some_iff.1 h).1
 unfold cur
 rw [List.getElem?_append_right (by rw [slide_len, List.length_take]; omega), slide_len, List.length_take, List.getElem?_drop]
 rw [show a + (a - min a P.length) = a by omega, h]
theorem take_one (h : P[a]? = some q) : P.take (a + 1) = P.take a ++ [q] := by
 obtain ⟨h1, h2⟩ := List.getElem?_eq_some_iff.1 h
 rw [List.take_succ_eq_append_getElem h1, h2]
theorem dst_succ (h : P[a]? = some q) : dst P (a + 1) = newD (dst P a) q := by
 unfold dst
 rw [take_one h, slD_app]; rfl
theorem cnt_succ (h : P[a]? = some q) : cnt P (a + 1) = cnt P a + newN (dst P a) q := by
 unfold cnt dst
 rw [take_one h, slN_app]
 simp [slN]
theorem cur_succ (h : P[a]? = some q) : cur P (a + 1) = (cur P a).set a { q with o := newO (dst P a) q } := by
 obtain ⟨h1, h2⟩ := List.getElem?_eq_some_iff.1 h
 unfold cur dst
 rw [take_one h, slide_app, List.drop_eq_getElem_cons h1, h2]
 rw [List.set_append_right _ _ (by rw [slide_len, List.length_take]; omega), slide_len, List.length_take]
 rw [show a - min a P.length = 0 by omega, List.set_cons_zero, List.append_assoc]
 rfl
theorem cur_stay (h : P[a]? = some q) (hs : 0 < q.p ∨ q.o ≤ dst P a) : cur P (a + 1) = cur P a := by
 rw [cur_succ h]
 have : ({ q with o := newO (dst P a) q } : Pl) = q := by unfold newO; rw [if_pos hs]
 rw [this]
 have h2 := cur_this h
 obtain ⟨h3, h4⟩ := List.getElem?_eq_some_iff.1 h2
 refine List.ext_getElem? fun k => ?_
 rw [List.getElem?_set]
 by_cases hk : a = k
 ·subst hk
  rw [if_pos rfl, if_pos h3, h2]
 ·rw [if_neg hk]
theorem cur_rest {j : Nat} (h : P[a]? = some q) (hj : j ≠ a) : (cur P (a + 1))[j]? = (cur P a)[j]? := by
 rw [cur_succ h, List.getElem?_set_ne (fun e => hj e.symm)]
theorem cur_behind {j : Nat} (hj : a ≤ j) (ha : a ≤ P.length) : (cur P a)[j]? = P[j]? := by
 unfold cur
 rw [List.getElem?_append_right (by rw [slide_len, List.length_take]; omega), slide_len, List.length_take, List.getElem?_drop, show a + (j - min a P.length) = j by omega]
end

structure Su (c : Cfg) (P : List Pl) (f : Int) : Prop where
 may : c.may
 fa : f ≤ c.A
 f0 : 0 ≤ f
 ok : ∀ q ∈ P, q.Ok f
 apart : Apart P
 fit : (P.length : Int) ≤ c.S

structure Byt (P : List Pl) (f : Int) (bs0 : List Int) (a : Nat) (bs : List Int) : Prop where
 len : bs.length = bs0.length
 at_ : ∀ (j : Nat) (q q' : Pl), P[j]? = some q → (cur P a)[j]? = some q' → ∀ k : Int, 0 ≤ k → k < q.n → getI bs (q'.o + k) = getI bs0 (q.o + k)
 behind : ∀ i : Int, f ≤ i → getI bs i = getI bs0 i
 same : cnt P a = 0 → bs = bs0
 rng : ∀ i : Int, 0 ≤ getI bs i ∧ getI bs i < 256

structure BytM (P : List Pl) (f : Int) (bs0 : List Int) (a : Nat) (q : Pl) (i : Nat) (bs : List Int) : Prop where
 len : bs.length = bs0.length
 at_ : ∀ (j : Nat) (q q' : Pl), j ≠ a → P[j]? = some q → (cur P a)[j]? = some q' → ∀ k : Int, 0 ≤ k → k < q.n → getI bs (q'.o + k) = getI bs0 (q.o + k)
 done : ∀ k : Int, 0 ≤ k → k < i → getI bs (dst P a + k) = getI bs0 (q.o + k)
 rest : ∀ k : Int, i ≤ k → k < q.n → getI bs (q.o + k) = getI bs0 (q.o + k)
 behind : ∀ i : Int, f ≤ i → getI bs i = getI bs0 i
 rng : ∀ i : Int, 0 ≤ getI bs i ∧ getI bs i < 256

structure Sc (P : List Pl) (f : Int) (k : Nat) (m : Mc) (ws : List Int) : Prop where
 objs : m.objs = objsOf 0 (P.take k)
 gens : ∀ (j : Nat) (q : Pl), j < k → P[j]? = some q → m.g j = q.g
 slot : m.slot = k
 dest : m.dest = 0
 moved : m.moved = 0
 low : m.low = false
 front : getI ws 0 = f
 wds : Wds m.c P none ws

structure Mid (P : List Pl) (f : Int) (a : Nat) (lk : Option Nat) (m : Mc) (ws : List Int) : Prop where
 objs : m.objs = objsOf 0 P
 gens : ∀ (j : Nat) (q : Pl), P[j]? = some q → m.g j = q.g
 att : m.att = a
 al : a ≤ P.length
 dest : m.dest = dst P a
 moved : m.moved = cnt P a
 top : m.top = f
 low : m.low = false
 front : getI ws 0 = f
 wds : Wds m.c (cur P a) lk ws

structure Way (P : List Pl) (f : Int) (a : Nat) (q : Pl) (m : Mc) : Prop where
 this : P[a]? = some q
 p0 : q.p = 0
 lt : dst P a < q.o

inductive Ph (P : List Pl) (f : Int) (bs0 : List Int) (m : Mc) (ws bs : List Int) : Prop
 | front (h : m.next = 1) (s : Sc P f 0 m ws) (hb : bs = bs0)
 | pend (h : m.next = 2) (ht : m.top = f) (s : Sc P f 0 m ws) (hb : bs = bs0)
 | scan (h : m.next = 3) (ht : m.top = f) (k : Nat) (s : Sc P f k m ws) (hb : bs = bs0)
 | meas (h : m.next = 4) (ht : m.top = f) (k : Nat) (s : Sc P f k m ws) (hb : bs = bs0) (q : Pl) (hq : P[k]? = some q) (he : m.e = q.ent false)
 | look (h : m.next = 5) (a : Nat) (s : Mid P f a none m ws) (y : Byt P f bs0 a bs)
 | lock (h : m.next = 6) (a : Nat) (s : Mid P f a none m ws) (y : Byt P f bs0 a bs) (q : Pl) (w : Way P f a q m) (hw : m.word = q.w false)
 | take (h : m.next = 7) (a : Nat) (s : Mid P f a (some a) m ws) (q : Pl) (w : Way P f a q m) (hw : m.word = q.w true) (i : Nat) (hi : m.i = i) (il : (i : Int) < q.n) (y : BytM P f bs0 a q i bs)
 | lay (h : m.next = 8) (a : Nat) (s : Mid P f a (some a) m ws) (q : Pl) (w : Way P f a q m) (hw : m.word = q.w true) (i : Nat) (hi : m.i = i) (il : (i : Int) < q.n) (y : BytM P f bs0 a q i bs) (hb : m.b = getI bs (q.o + i))
 | store (h : m.next = 9) (a : Nat) (s : Mid P f a (some a) m ws) (q : Pl) (w : Way P f a q m) (hw : m.word = q.w true) (y : BytM P f bs0 a q q.n.toNat bs)
 | turn (h : m.next = 10 ∨ m.next = 11) (s : Mid P f P.length none m ws) (y : Byt P f bs0 P.length bs) (lt : dst P P.length < f)

structure Fin (P : List Pl) (f : Int) (bs0 : List Int) (m : Mc) (ws bs : List Int) (n : Int) : Prop where
 n : n = slN 0 P
 low : m.low = decide (slD 0 P < f)
 front : getI ws 0 = if slD 0 P < f then slD 0 P else f
 wds : Wds m.c (slide 0 P) none ws
 byt : Byt P f bs0 P.length bs

def Res (P : List Pl) (f : Int) (bs0 : List Int) (r : Mc × Option Int) (ws bs : List Int) : Prop := (r.2 = none → Ph P f bs0 r.1 ws bs) ∧ ∀ n, r.2 = some n → Fin P f bs0 r.1 ws bs n

section
variable {P : List Pl} {f : Int} {bs0 bs ws : List Int} {m : Mc}
theorem res_on {n : Int} (h : Ph P f bs0 { m with next := n } ws bs) : Res P f bs0 (onM m n) ws bs := ⟨fun _ => h, fun _ e => by cases e⟩
theorem res_end (h : Fin P f bs0 { m with next := 0 } ws bs m.moved) : Res P f bs0 (endM m) ws bs := ⟨fun e => (by cases e), fun _ e => by injection e with e; subst e; exact h⟩

theorem Mid.mk' {a : Nat} {lk : Option Nat} {m m' : Mc} {ws : List Int} (h : Mid P f a lk m ws) (e : m' = { m with next := m'.next, word := m'.word, i := m'.i, b := m'.b, turn := m'.turn }) : Mid P f a lk m' ws := by
 rw [e]
 exact ⟨h.objs, h.gens, h.att, h.al, h.dest, h.moved, h.top, h.low, h.front, h.wds⟩

theorem ph_beh {a : Nat} (s : Mid P f a none m ws) (y : Byt P f bs0 a bs) : Res P f bs0 (behM m) ws bs := by
 unfold behM
 by_cases h1 : m.att < (m.objs.length : Int)
 ·rw [if_pos h1]
  exact res_on (.look rfl a (s.mk' rfl) y)
 ·rw [if_neg h1]
  have hl : a = P.length := by
   have h2 := s.al
   rw [s.att, s.objs, objsOf_len] at h1
   omega
  subst hl
  by_cases h2 : m.top ≤ m.dest
  ·rw [if_pos h2]
   rw [s.top, s.dest, dst_top] at h2
   refine res_end ⟨by rw [s.moved, cnt_top], ?_, ?_, ?_, y⟩
   ·show m.low = _
    rw [s.low, decide_eq_false (by omega)]
   ·rw [if_neg (by omega)]; exact s.front
   ·rw [← cur_top]; exact s.wds
  ·rw [if_neg h2]
   rw [s.top, s.dest] at h2
   exact res_on (.turn (.inl rfl) (s.mk' rfl) y (by omega))

theorem Byt.start (rng : ∀ i : Int, 0 ≤ getI bs i ∧ getI bs i < 256) : Byt P f bs 0 bs := ⟨rfl, fun j q q' h1 h2 k _ _ => by rw [cur_zero, h1] at h2; injection h2 with h2; subst h2; rfl, fun _ _ => rfl, fun _ => rfl, rng⟩

theorem ph_scanned (su : Su m.c P f) {k : Nat} (rng : ∀ i : Int, 0 ≤ getI bs0 i ∧ getI bs0 i < 256) (ht : m.top = f) (hatt : m.att = 0) (objs : m.objs = objsOf 0 (P.take (k + 1))) (gens : ∀ (j : Nat) (q : Pl), j < k + 1 → P[j]? = some q → m.g j = q.g) (slot : m.slot = k) (dest : m.dest = 0) (moved : m.moved = 0) (low : m.low = false)
  (front : getI ws 0 = f) (wds : Wds m.c P none ws) (h1 : m.slot < m.c.S) : Res P f bs0 (scannedM m) ws bs0 := by
 have hm := su.may
 unfold Cfg.may at hm
 have hw : w64 (m.slot + 1) = m.slot + 1 := wrap_id (by omega) (by omega)
 unfold scannedM
 rw [hw]
 by_cases hc : m.slot + 1 < m.c.S
 ·rw [if_pos hc]
  exact res_on (.scan rfl ht (k + 1) ⟨objs, gens, by show m.slot + 1 = _; omega, dest, moved, low, front, wds⟩ rfl)
 ·rw [if_neg hc]
  have hfit := su.fit
  have htk : P.take (k + 1) = P := List.take_of_length_le (by omega)
  rw [htk] at objs
  refine ph_beh (a := 0) ⟨?_, fun j q hq => gens j q (by have := (List.getElem?_eq_some_iff.1 hq).1; omega) hq, hatt, Nat.zero_le _, dest, moved, ht, low, front, wds⟩ (.start rng)
  show sortR m.objs = _
  rw [objs, objsOf_sort su.apart fun q hq => by have := (su.ok q hq).n0; omega]
end
end Go.Proofs.YtfpfknafcgkcjaaGreat

/- Words and bytes of one object more. Plain. -/
set_option linter.unusedVariables false
set_option linter.unusedSimpArgs false
namespace Go.Proofs.YtfpfknafcgkcjaaGreat
open Go Go.Ir

theorem Wds.add {c : Cfg} {P : List Pl} {ws : List Int} (h : Wds c P none ws) (hm : c.may) (hl : (P.length : Int) < c.S) (q : Pl) :
  Wds c (P ++ [q]) none (setI (setI ws (slotI c P.length 0) (q.w false)) (slotI c P.length 1) q.z) := by
 have hs0 := slotI_lt hm (s := (P.length : Nat)) (k := 0) (by omega) hl (by omega)
 have hs1 := slotI_lt hm (s := (P.length : Nat)) (k := 1) (by omega) hl (by omega)
 have hm' := hm
 unfold Cfg.may at hm'
 have hwl : (ws.length : Int) = wordsI c := by rw [h.len]; unfold wordsI; omega
 have hs : ∀ k : Int, 0 ≤ k → k < c.S → k ≠ P.length → ∀ i : Int, 0 ≤ i ∧ i ≤ 1 → getI (setI (setI ws (slotI c P.length 0) (q.w false)) (slotI c P.length 1) q.z) (slotI c k i) = getI ws (slotI c k i) := fun k h0 h1 hk i hi => by
  have := slotI_lt hm h0 h1 (k := i) (by omega)
  rw [getI_ne (by omega), getI_ne (by omega)]
 have e0 : getI (setI (setI ws (slotI c P.length 0) (q.w false)) (slotI c P.length 1) q.z) (slotI c P.length 0) = q.w false := by rw [getI_ne (by omega), getI_same (by omega) (by omega)]
 have e1 : getI (setI (setI ws (slotI c P.length 0) (q.w false)) (slotI c P.length 1) q.z) (slotI c P.length 1) = q.z := getI_same (by omega) (by rw [setI_len]; omega)
 refine ⟨by rw [setI_len, setI_len]; exact h.len, by rw [List.length_append]; show ((P.length + 1 : Nat) : Int) ≤ _; omega, fun j x hx => ?_, fun j x hx => ?_, fun j h0 h1 => ?_, by rw [getI_ne (by omega), getI_ne (by omega)]; exact h.pend, fun t h0 h1 => by rw [getI_ne (by omega), getI_ne (by omega)]; exact h.note t h0 h1⟩
 ·have hj := (List.getElem?_eq_some_iff.1 hx).1
  rw [List.length_append] at hj
  have hj : j < P.length + 1 := hj
  by_cases he : j < P.length
  ·rw [List.getElem?_append_left he] at hx
   rw [hs j (by omega) (by omega) (by omega) 0 (by omega)]
   exact h.ent j x hx
  ·have he : j = P.length := by omega
   subst he
   rw [List.getElem?_append_right (by omega), Nat.sub_self, List.getElem?_cons_zero] at hx
   have hx := Option.some.inj hx
   subst hx
   exact e0
 ·have hj := (List.getElem?_eq_some_iff.1 hx).1
  rw [List.length_append] at hj
  have hj : j < P.length + 1 := hj
  by_cases he : j < P.length
  ·rw [List.getElem?_append_left he] at hx
   rw [hs j (by omega) (by omega) (by omega) 1 (by omega)]
   exact h.siz j x hx
  ·have he : j = P.length := by omega
   subst he
   rw [List.getElem?_append_right (by omega), Nat.sub_self, List.getElem?_cons_zero] at hx
   have hx := Option.some.inj hx
   subst hx
   exact e1
 ·rw [List.length_append] at h0
  have h0 : ((P.length + 1 : Nat) : Int) ≤ j := h0
  rw [hs j (by omega) h1 (by omega) 0 (by omega)]
  exact h.free j (by omega) h1

theorem startL_at {c : Cfg} (hm : c.may) {k : Nat} (h0 : 2 ≤ k) (h1 : (k : Int) < 4 + c.T) : getI (startL c) k = 0 := by
 unfold Cfg.may at hm
 refine getI_nat (k := k) ?_
 unfold startL
 rw [List.getElem?_set_ne (by omega), partL_get _ _ (by unfold wordsI; omega)]
 unfold partW
 rw [if_neg (by omega)]

theorem Wds.start {c : Cfg} (hm : c.may) : Wds c [] none (startL c) := by
 have hm' := hm
 unfold Cfg.may at hm'
 refine ⟨startL_len c, by show (0 : Int) ≤ c.S; omega, fun j q h => (by cases h), fun j q h => (by cases h), fun j h0 h1 => start_slot hm h0 h1, startL_at hm (k := 2) (by omega) (by omega), fun t h0 h1 => ?_⟩
 rw [show 4 + t = ((4 + t.toNat : Nat) : Int) by omega]
 exact startL_at hm (by omega) (by omega)

theorem Pl.Ok.mono {f f' : Int} {q : Pl} (h : q.Ok f) (hf : f ≤ f') : q.Ok f' := ⟨h.o0, by have := h.of; omega, h.g0, h.p0, h.z0, h.nz⟩

theorem pot_le (c : Cfg) (ws : List Int) (s : Int) : pot c ws s ≤ 515 := by
 unfold pot
 split
 ·split
  ·rename_i h
   obtain ⟨h1, h2, h3⟩ := h
   unfold roundI
   omega
  ·omega
 ·omega
theorem Wds.pS_le {c : Cfg} {P : List Pl} {lk : Option Nat} {ws : List Int} (h : Wds c P lk ws) : ∀ k : Nat, (k : Int) ≤ c.S → pS c ws k ≤ 515 * (P.length - (c.S - k).toNat)
 | 0, _ => Nat.zero_le _
 | k + 1, hk => by
   have ih := h.pS_le k (by omega)
   unfold pS
   by_cases hc : (P.length : Int) ≤ c.S - ((k + 1 : Nat) : Int)
   ·rw [pot_zero (h.free _ hc (by omega))]
    omega
   ·have := pot_le c ws (c.S - ((k + 1 : Nat) : Int))
    omega
theorem Wds.phi_le {c : Cfg} {P : List Pl} {ws : List Int} (h : Wds c P none ws) (hm : c.may) : phi (mc0 c) ws ≤ 515 * P.length + 200 := by
 have hm' := hm
 unfold Cfg.may at hm'
 have := h.pS_le c.S.toNat (by omega)
 unfold phi
 rw [if_pos (show (mc0 c).next = 1 from rfl)]
 show 2 + 2 * c.S.toNat + pS c ws c.S.toNat + c.T.toNat + 3 ≤ _
 omega
end Go.Proofs.YtfpfknafcgkcjaaGreat

/- A pass alone over placed objects: each step. Plain. -/
set_option linter.unusedVariables false
set_option linter.unusedSimpArgs false
namespace Go.Proofs.YtfpfknafcgkcjaaGreat
open Go Go.Ir

theorem slide_get : ∀ (l : List Pl) (d : Int) (j : Nat) (q' : Pl), (slide d l)[j]? = some q' → ∃ q, l[j]? = some q ∧ q'.n = q.n ∧ q'.g = q.g ∧ q'.p = q.p ∧ q'.z = q.z
 | [], d, j, q', h => by simp [slide] at h
 | x :: l, d, 0, q', h => by
   simp only [slide, List.getElem?_cons_zero] at h
   injection h with h
   subst h
   exact ⟨x, rfl, rfl, rfl, rfl, rfl⟩
 | x :: l, d, j + 1, q', h => by
   simp only [slide, List.getElem?_cons_succ] at h
   exact slide_get l (newD d x) j q' h

theorem Wds.set' {c : Cfg} {cur : List Pl} {lk lk' : Option Nat} {ws : List Int} (h : Wds c cur lk ws) (hm : c.may) {j : Nat} {q q' : Pl} {b : Bool} (hj : cur[j]? = some q) (hz : q'.z = q.z) (hb : decide (lk' = some j) = b) (hl : ∀ k : Nat, k ≠ j → (lk' = some k ↔ lk = some k)) :
  Wds c (cur.set j q') lk' (setI ws (slotI c j 0) (q'.w b)) := by
 subst hb
 exact h.set hm hj hz hl

section
variable {P : List Pl} {f : Int} {bs0 bs ws : List Int} {m : Mc} {a : Nat} {q : Pl}

theorem cur_ahead {j : Nat} {q' : Pl} (hj : j < a) (ha : a ≤ P.length) (h : (cur P a)[j]? = some q') : q' ∈ slide 0 (P.take a) ∧ ∃ x, P[j]? = some x ∧ q'.n = x.n := by
 unfold cur at h
 rw [List.getElem?_append_left (by rw [slide_len, List.length_take]; omega)] at h
 obtain ⟨x, hx, hn, _⟩ := slide_get _ _ _ _ h
 rw [List.getElem?_take, if_pos hj] at hx
 exact ⟨List.mem_of_getElem? h, x, hx, hn⟩
theorem dst_ge (su : Su m.c P f) : 0 ≤ dst P a := slD_ge fun q hq => by have := (su.ok q (List.mem_of_mem_take hq)).n0; omega
theorem su_A (su : Su m.c P f) : f ≤ 4096 ∧ m.c.A ≤ 4096 ∧ P.length ≤ 64 ∧ 0 ≤ f := by
 have h1 := su.may
 have h2 := su.fa
 have h3 := su.fit
 have h4 := su.f0
 unfold Cfg.may at h1
 omega
theorem cnt_le : 0 ≤ cnt P a ∧ cnt P a ≤ P.length := by
 have h := slN_le (P.take a) 0
 rw [List.length_take] at h
 unfold cnt
 omega

theorem ph_scan (su : Su m.c P f) (rng : ∀ i : Int, 0 ≤ getI bs0 i ∧ getI bs0 i < 256) (al : Al ws m) (hn : m.next = 3) (ht : m.top = f) {k : Nat} (s : Sc P f k m ws) : Res P f bs0 (scanM m ws) ws bs0 := by
 have hs := al.wf.scan (by omega)
 have ha := al.scan (by omega)
 have hA := su_A su
 unfold scanM
 cases hq : P[k]? with
 | none =>
   have hk := List.getElem?_eq_none_iff.1 hq
   have h0 := s.wds.free m.slot (by rw [s.slot]; omega) hs.2.2.1
   rw [h0, show unpackE 0 = some Ent.zero from by decide]
   simp only
   rw [if_neg (fun h => by simp [Ent.zero] at h)]
   refine ph_scanned (m := { m with e := Ent.zero }) (k := k) su rng ht ha ?_ ?_ s.slot s.dest s.moved s.low s.front s.wds hs.2.2.1
   ·show m.objs = _
    rw [s.objs, List.take_of_length_le (by omega), List.take_of_length_le (by omega)]
   ·exact fun j x hj hx => s.gens j x (by have := (List.getElem?_eq_some_iff.1 hx).1; omega) hx
 | some q =>
   have hok := su.ok q (List.mem_of_getElem? hq)
   have he : getI ws (slotI m.c k 0) = q.w false := s.wds.ent k q hq
   have hmay : (q.ent false).may := hok.may (by omega) fun h => by cases h
   have hu : unpackE (getI ws (slotI m.c m.slot 0)) = some (q.ent false) := by rw [s.slot, he, Pl.w_unpack hmay]
   rw [hu]
   simp only
   rw [if_pos ⟨rfl, by show q.o < m.top; have := hok.of; have := hok.n0; omega⟩]
   exact res_on (.meas rfl ht k ⟨s.objs, s.gens, s.slot, s.dest, s.moved, s.low, s.front, s.wds⟩ rfl q hq rfl)

theorem ph_measure (su : Su m.c P f) (rng : ∀ i : Int, 0 ≤ getI bs0 i ∧ getI bs0 i < 256) (al : Al ws m) (hn : m.next = 4) (ht : m.top = f) {k : Nat} (s : Sc P f k m ws) (hq : P[k]? = some q) (he : m.e = q.ent false) : Res P f bs0 (measureM m ws) ws bs0 := by
 have hs := al.wf.scan (by omega)
 have ha := al.scan (by omega)
 have hok := su.ok q (List.mem_of_getElem? hq)
 have hkl := (List.getElem?_eq_some_iff.1 hq).1
 have hz := s.wds.siz k q hq
 unfold measureM
 have hz' : getI ws (slotI m.c m.slot 1) = q.z := by rw [s.slot]; exact hz
 rw [hz', if_pos hok.z0]
 refine ph_scanned (m := { m with objs := m.objs ++ [⟨m.slot, m.e.o, roundI q.z, false⟩], g := fun j => if j = m.slot.toNat then m.e.g else m.g j }) (k := k) su rng ht ha ?_ ?_ s.slot s.dest s.moved s.low s.front s.wds hs.2.2.1
 ·show m.objs ++ [⟨m.slot, m.e.o, roundI q.z, false⟩] = _
  rw [s.slot, take_one hq, objsOf_app, s.objs, he, List.length_take, show 0 + min k P.length = k by omega, ← hok.nz]
  rfl
 ·intro j x hj hx
  show (if j = m.slot.toNat then m.e.g else m.g j) = x.g
  rw [s.slot, Int.toNat_natCast]
  by_cases hjk : j = k
  ·subst hjk
   rw [if_pos rfl, he]
   rw [hq] at hx
   injection hx with hx
   subst hx; rfl
  ·rw [if_neg hjk]
   exact s.gens j x (by omega) hx

theorem curO_is {lk : Option Nat} (s : Mid P f a lk m ws) (hq : P[a]? = some q) : curO m = ⟨(a : Nat), q.o, q.n, false⟩ := by
 unfold curO
 rw [s.att, s.objs, List.getD_eq_getElem?_getD, Int.toNat_natCast, objsOf_get, hq, Option.map_some, Option.getD_some, show 0 + a = a by omega]

theorem ph_passed (hatt : m.att = a) (ha : a < 100000) (s : Mid P f (a + 1) none { m with att := ((a + 1 : Nat) : Int) } ws) (y : Byt P f bs0 (a + 1) bs) : Res P f bs0 (passedM m) ws bs := by
 unfold passedM
 rw [hatt, show w64 ((a : Int) + 1) = ((a + 1 : Nat) : Int) from wrap_id (by omega) (by omega)]
 exact ph_beh s y

theorem ph_look (su : Su m.c P f) (al : Al ws m) (hn : m.next = 5) (s : Mid P f a none m ws) (y : Byt P f bs0 a bs) : Res P f bs0 (lookM m ws (curO m)) ws bs := by
 have hl := al.wf.look (by omega) (by omega)
 have hA := su_A su
 rw [s.att, s.objs, objsOf_len] at hl
 obtain ⟨q, hq⟩ : ∃ q, P[a]? = some q := ⟨_, List.getElem?_eq_getElem (by omega)⟩
 have hok := su.ok q (List.mem_of_getElem? hq)
 have hn0 := hok.n0
 have ho0 := hok.o0
 have hof := hok.of
 have hmay : (q.ent false).may := hok.may (by omega) fun h => by cases h
 have he : getI ws (slotI m.c a 0) = q.w false := s.wds.ent a q (cur_this hq)
 rw [curO_is s hq]
 unfold lookM
 simp only
 rw [he, Pl.w_unpack hmay]
 simp only
 have hg := s.gens a q hq
 rw [Int.toNat_natCast, if_neg (by
  rintro (h | h | h)
  ·cases h
  ·exact h hg.symm
  ·exact h rfl)]
 by_cases hst : 0 < q.p ∨ q.o ≤ dst P a
 ·rw [if_pos (by
   rcases hst with h | h
   ·exact .inl (by show 0 < q.p + 0; omega)
   ·exact .inr (.inr (by rw [s.dest]; exact h)))]
  have hw : w64 (q.o + q.n) = q.o + q.n := wrap_id (by omega) (by omega)
  rw [hw]
  refine ph_passed (m := { m with word := q.w false, dest := maxI m.dest (q.o + q.n) }) s.att (by omega) ⟨s.objs, s.gens, rfl, by omega, ?_, ?_, s.top, s.low, s.front, ?_⟩ ?_
  ·show maxI m.dest (q.o + q.n) = _
   rw [dst_succ hq, s.dest]
   unfold newD
   rw [if_pos hst]
  ·show m.moved = _
   rw [cnt_succ hq, s.moved]
   unfold newN
   rw [if_pos hst]; omega
  ·rw [cur_stay hq hst]; exact s.wds
  ·refine ⟨y.len, ?_, y.behind, fun h => y.same ?_, y.rng⟩
   ·rw [cur_stay hq hst]; exact y.at_
   ·rw [cnt_succ hq] at h
    unfold newN at h
    rw [if_pos hst] at h
    omega
 ·rw [if_neg (by
   rintro (h | h | h)
   ·exact hst (.inl (by have h : 0 < q.p + 0 := h; omega))
   ·cases h
   ·exact hst (.inr (by rw [← s.dest]; exact h)))]
  have hp := hok.p0
  exact res_on (.lock rfl a (s.mk' rfl) y q ⟨hq, by omega, by omega⟩ rfl)

theorem set_same (hq : P[a]? = some q) : (cur P a).set a q = cur P a := by
 have h2 := cur_this hq
 obtain ⟨h3, h4⟩ := List.getElem?_eq_some_iff.1 h2
 refine List.ext_getElem? fun k => ?_
 rw [List.getElem?_set]
 by_cases hk : a = k
 ·subst hk
  rw [if_pos rfl, if_pos h3, h2]
 ·rw [if_neg hk]

theorem ph_lock (su : Su m.c P f) (al : Al ws m) (hn : m.next = 6) (s : Mid P f a none m ws) (y : Byt P f bs0 a bs) (w : Way P f a q m) (hw : m.word = q.w false) : Res P f bs0 (lockM m ws (curO m)).1 (lockM m ws (curO m)).2 bs := by
 have hA := su_A su
 have hq := w.this
 have hok := su.ok q (List.mem_of_getElem? hq)
 have hal := (List.getElem?_eq_some_iff.1 hq).1
 have hfit := su.fit
 have hsl := slotI_lt su.may (s := (a : Nat)) (k := 0) (by omega) (by omega) (by omega)
 have hm := su.may
 unfold Cfg.may at hm
 have hwl : (ws.length : Int) = wordsI m.c := by rw [s.wds.len]; unfold wordsI; omega
 have he : getI ws (slotI m.c a 0) = q.w false := s.wds.ent a q (cur_this hq)
 rw [curO_is s hq]
 unfold lockM
 simp only
 rw [hw, casB_at (by omega) (by omega) he, Pl.w_lock hok (by omega) w.p0]
 rw [if_pos rfl]
 have hset := s.wds.set' su.may (lk' := some a) (q' := q) (b := true) (cur_this hq) rfl (decide_eq_true rfl) (fun k hk => by
  constructor
  ·intro h; injection h with h; exact absurd h.symm hk
  ·intro h; cases h)
 rw [set_same hq] at hset
 refine res_on (.take rfl a ⟨s.objs, s.gens, s.att, s.al, s.dest, s.moved, s.top, s.low, ?_, hset⟩ q ⟨hq, w.p0, w.lt⟩ rfl 0 rfl (by have := hok.n0; omega) ?_)
 ·rw [getI_ne (by omega)]; exact s.front
 ·exact ⟨y.len, fun j x x' _ h1 h2 => y.at_ j x x' h1 h2, fun k h0 h1 => by omega, fun k h0 h1 => y.at_ a q q hq (cur_this hq) k (by omega) h1, y.behind, y.rng⟩

theorem ph_take (su : Su m.c P f) (s : Mid P f a (some a) m ws) (w : Way P f a q m) (hw : m.word = q.w true) {i : Nat} (hi : m.i = i) (il : (i : Int) < q.n) (y : BytM P f bs0 a q i bs) : Res P f bs0 (onM { m with b := getI bs (w64 ((curO m).o + m.i)) } 8) ws bs := by
 have hA := su_A su
 have hok := su.ok q (List.mem_of_getElem? w.this)
 have h1 := hok.o0
 have h2 := hok.of
 have e : w64 ((curO m).o + m.i) = q.o + i := by
  rw [curO_is s w.this, hi]
  exact wrap_id (by show _ ≤ q.o + (i : Int); omega) (by show q.o + (i : Int) ≤ _; omega)
 rw [e]
 exact res_on (.lay rfl a (s.mk' rfl) q ⟨w.this, w.p0, w.lt⟩ hw i hi il y rfl)

theorem byt_lay (su : Su m.c P f) (hb0 : bs0.length = m.c.A.toNat) (w : Way P f a q m) {i : Nat} (il : (i : Int) < q.n) (y : BytM P f bs0 a q i bs) {b : Int} (hb : b = getI bs (q.o + i)) : BytM P f bs0 a q (i + 1) (setI bs (dst P a + i) b) := by
 have hA := su_A su
 have hal := (List.getElem?_eq_some_iff.1 w.this).1
 have hok := su.ok q (List.mem_of_getElem? w.this)
 have h1 := hok.o0
 have h2 := hok.of
 have hlt := w.lt
 have hd := dst_ge (a := a) su
 have hfa := su.fa
 have hlen : (bs.length : Int) = m.c.A := by rw [y.len, hb0]; omega
 refine ⟨by rw [setI_len]; exact y.len, fun j x x' hj hx hx' k k0 k1 => ?_, fun k k0 k1 => ?_, fun k k0 k1 => ?_, fun k k0 => ?_, fun k => ?_⟩
 ·have hne : dst P a + i ≠ x'.o + k := by
   by_cases hja : j < a
   ·obtain ⟨hmem, x2, hx2, hn2⟩ := cur_ahead hja (by omega) hx'
    rw [hx] at hx2
    injection hx2 with hx2
    subst hx2
    have : x'.o + x'.n ≤ dst P a := slide_end (fun z hz => by have := (su.ok z (List.mem_of_mem_take hz)).n0; omega) x' hmem
    omega
   ·rw [cur_behind (by omega) (by omega), hx] at hx'
    injection hx' with hx'
    subst hx'
    have hp := List.pairwise_iff_getElem.1 su.apart a j hal (List.getElem?_eq_some_iff.1 hx).1 (by omega)
    rw [(List.getElem?_eq_some_iff.1 hx).2, (List.getElem?_eq_some_iff.1 w.this).2] at hp
    omega
  rw [getI_ne hne]
  exact y.at_ j x x' hj hx hx' k k0 k1
 ·by_cases hk : k = i
  ·subst hk
   rw [getI_same (by omega) (by omega), hb]
   exact y.rest i (Int.le_refl _) il
  ·rw [getI_ne (by omega)]
   exact y.done k k0 (by omega)
 ·rw [getI_ne (by omega)]
  exact y.rest k (by omega) k1
 ·rw [getI_ne (by omega)]
  exact y.behind k k0
 ·by_cases hk : dst P a + i = k
  ·subst hk
   rw [getI_same (by omega) (by omega), hb]
   exact y.rng _
  ·rw [getI_ne hk]
   exact y.rng k

theorem ph_lay (su : Su m.c P f) (hb0 : bs0.length = m.c.A.toNat) (s : Mid P f a (some a) m ws) (w : Way P f a q m) (hw : m.word = q.w true) {i : Nat} (hi : m.i = i) (il : (i : Int) < q.n) (y : BytM P f bs0 a q i bs) (hb : m.b = getI bs (q.o + i)) :
  Res P f bs0 (layM m bs (curO m)).1 ws (layM m bs (curO m)).2 := by
 have hA := su_A su
 have hok := su.ok q (List.mem_of_getElem? w.this)
 have h1 := hok.o0
 have h2 := hok.of
 have h3 := hok.n0
 have hlt := w.lt
 have hd := dst_ge (a := a) su
 rw [curO_is s w.this]
 unfold layM
 simp only
 have hbb : byteI m.b = m.b := by
  have := y.rng (q.o + i)
  rw [← hb] at this
  unfold byteI
  rw [IntKind.wrap_u8]; omega
 rw [hi, s.dest, hbb, show w64 (dst P a + (i : Int)) = dst P a + i from wrap_id (by omega) (by omega), show w64 ((i : Int) + 1) = ((i + 1 : Nat) : Int) from wrap_id (by omega) (by omega)]
 have y' := byt_lay su hb0 w il y hb
 by_cases hc : ((i + 1 : Nat) : Int) < q.n
 ·rw [if_pos hc]
  exact res_on (.take rfl a ⟨s.objs, s.gens, s.att, s.al, rfl, s.moved, s.top, s.low, s.front, s.wds⟩ q ⟨w.this, w.p0, w.lt⟩ hw (i + 1) rfl hc y')
 ·rw [if_neg hc]
  rw [show i + 1 = q.n.toNat by omega] at y'
  exact res_on (.store rfl a ⟨s.objs, s.gens, s.att, s.al, rfl, s.moved, s.top, s.low, s.front, s.wds⟩ q ⟨w.this, w.p0, w.lt⟩ hw y')

theorem ph_store (su : Su m.c P f) (s : Mid P f a (some a) m ws) (w : Way P f a q m) (hw : m.word = q.w true) (y : BytM P f bs0 a q q.n.toNat bs) : Res P f bs0 (storeM m ws (curO m)).1 (storeM m ws (curO m)).2 bs := by
 have hA := su_A su
 have hq := w.this
 have hok := su.ok q (List.mem_of_getElem? hq)
 have hal := (List.getElem?_eq_some_iff.1 hq).1
 have hfit := su.fit
 have hsl := slotI_lt su.may (s := (a : Nat)) (k := 0) (by omega) (by omega) (by omega)
 have h1 := hok.o0
 have h2 := hok.of
 have h3 := hok.n0
 have hlt := w.lt
 have hp0 := w.p0
 have hd := dst_ge (a := a) su
 have hcn := cnt_le (P := P) (a := a)
 have hst : ¬ (0 < q.p ∨ q.o ≤ dst P a) := by omega
 rw [curO_is s hq]
 unfold storeM
 simp only
 rw [hw, s.dest, Pl.w_move hok (by omega) w.p0 (by omega), s.moved, show w64 (dst P a + q.n) = dst P a + q.n from wrap_id (by omega) (by omega), show w64 (cnt P a + 1) = cnt P a + 1 from wrap_id (by omega) (by omega)]
 have hset := s.wds.set' su.may (lk' := none) (q' := { q with o := dst P a }) (b := false) (cur_this hq) rfl rfl (fun k hk => by
  constructor
  ·intro h; cases h
  ·intro h; injection h with h; exact absurd h.symm hk)
 have hcur : (cur P a).set a { q with o := dst P a } = cur P (a + 1) := by
  rw [cur_succ hq]
  unfold newO
  rw [if_neg hst]
 rw [hcur] at hset
 refine ph_passed (m := { m with dest := dst P a + q.n, moved := cnt P a + 1, word := q.w true }) s.att (by omega) ⟨s.objs, s.gens, rfl, by omega, ?_, ?_, s.top, s.low, ?_, hset⟩ ?_
 ·show dst P a + q.n = _
  rw [dst_succ hq]
  unfold newD
  rw [if_neg hst]
 ·show cnt P a + 1 = _
  rw [cnt_succ hq]
  unfold newN
  rw [if_neg hst]
 ·rw [getI_ne (by omega)]; exact s.front
 ·refine ⟨y.len, fun j x x' hx hx' k k0 k1 => ?_, y.behind, fun h => ?_, y.rng⟩
  ·by_cases hj : j = a
   ·subst hj
    rw [hq] at hx
    injection hx with hx
    subst hx
    rw [← hcur, List.getElem?_set_self (by rw [cur_len (by omega)]; exact hal)] at hx'
    injection hx' with hx'
    subst hx'
    exact y.done k k0 (by omega)
   ·rw [cur_rest hq hj] at hx'
    exact y.at_ j x x' hj hx hx' k k0 k1
  ·rw [cnt_succ hq] at h
   unfold newN at h
   rw [if_neg hst] at h
   omega

theorem ph_turn (su : Su m.c P f) (al : Al ws m) (hn : m.next = 10) (s : Mid P f P.length none m ws) (y : Byt P f bs0 P.length bs) (lt : dst P P.length < f) : Res P f bs0 (turnM m (m.turn.getD ⟨0, 0, 0⟩) ws).1 (turnM m (m.turn.getD ⟨0, 0, 0⟩) ws).2 bs := by
 obtain ⟨t, ht, hq⟩ := al.turn hn
 have hm := su.may
 unfold Cfg.may at hm
 have hwl : (ws.length : Int) = wordsI m.c := by rw [s.wds.len]; unfold wordsI; omega
 have hw0 : 5 ≤ wordsI m.c := by unfold wordsI; omega
 rw [ht]
 show Res P f bs0 (turnM m t ws).1 (turnM m t ws).2 bs
 rcases hq with ⟨q, qa⟩ | ⟨q, qa, qe⟩ | ⟨q, qa, qb⟩
 ·have e : tnStep m.c t ws = (({ t with ep := getI ws 3, nx := 2 }, false, false), ws) := by unfold tnStep; rw [if_neg (by omega), if_pos q]
  unfold turnM
  rw [e]
  exact res_on (.turn (.inl rfl) (s.mk' rfl) y lt)
 ·have hcas : casB ws 3 t.ep = true := casB_at (by omega) (by omega) qe
  have e : tnStep m.c t ws = (({ t with nx := 3 }, false, false), setI ws 3 (w64 (t.ep + 1))) := by unfold tnStep; rw [if_neg (by omega), if_neg (by omega), if_pos q, hcas]; rfl
  unfold turnM
  rw [e]
  exact res_on (.turn (.inl rfl) ⟨s.objs, s.gens, s.att, s.al, s.dest, s.moved, s.top, s.low, by rw [getI_ne (by omega)]; exact s.front, s.wds.low su.may (.inr rfl) _⟩ y lt)
 ·have hnote : olderB (getI ws (noteI m.c t.ak)) (w64 (t.ep + 1)) = false := by
   rw [show noteI m.c t.ak = 4 + t.ak by unfold noteI; rw [if_pos (by omega)], s.wds.note _ qa qb]
   rfl
  by_cases hc : w64 (t.ak + 1) = m.c.T
  ·have e : tnStep m.c t ws = (({ t with ak := w64 (t.ak + 1), nx := 0 }, true, true), ws) := by unfold tnStep; rw [if_neg (by omega), if_neg (by omega), if_neg (by omega), if_pos q, if_pos (.inr hc), hnote]; rfl
   unfold turnM
   rw [e]
   exact res_on (.turn (.inr rfl) (s.mk' rfl) y lt)
  ·have e : tnStep m.c t ws = (({ t with ak := w64 (t.ak + 1) }, false, false), ws) := by unfold tnStep; rw [if_neg (by omega), if_neg (by omega), if_neg (by omega), if_pos q, if_neg (by rw [hnote]; rintro (h | h); cases h; exact hc h)]
   unfold turnM
   rw [e]
   exact res_on (.turn (.inl rfl) (s.mk' rfl) y lt)

theorem ph_step (su : Su m.c P f) (hb0 : bs0.length = m.c.A.toNat) (rng : ∀ i : Int, 0 ≤ getI bs0 i ∧ getI bs0 i < 256) (al : Al ws m) (h : Ph P f bs0 m ws bs) : Res P f bs0 (stepM m ws bs).1 (stepM m ws bs).2.1 (stepM m ws bs).2.2 := by
 unfold stepM
 cases h with
 | front h s hb =>
   subst hb
   rw [if_pos h]
   exact res_on (.pend rfl s.front ⟨s.objs, s.gens, s.slot, s.dest, s.moved, s.low, s.front, s.wds⟩ rfl)
 | pend h ht s hb =>
   subst hb
   rw [if_neg (by omega), if_pos h]
   show Res P f bs (if getI ws 2 ≠ 0 then endM m else onM m 3) ws bs
   rw [if_neg (by rw [s.wds.pend]; simp)]
   exact res_on (.scan rfl ht 0 ⟨s.objs, s.gens, s.slot, s.dest, s.moved, s.low, s.front, s.wds⟩ rfl)
 | scan h ht k s hb =>
   subst hb
   rw [if_neg (by omega), if_neg (by omega), if_pos h]
   exact ph_scan su rng al h ht s
 | meas h ht k s hb q hq he =>
   subst hb
   rw [if_neg (by omega), if_neg (by omega), if_neg (by omega), if_pos h]
   exact ph_measure su rng al h ht s hq he
 | look h a s y =>
   rw [if_neg (by omega), if_neg (by omega), if_neg (by omega), if_neg (by omega), if_pos h]
   exact ph_look su al h s y
 | lock h a s y q w hw =>
   rw [if_neg (by omega), if_neg (by omega), if_neg (by omega), if_neg (by omega), if_neg (by omega), if_pos h]
   exact ph_lock su al h s y w hw
 | take h a s q w hw i hi il y =>
   rw [if_neg (by omega), if_neg (by omega), if_neg (by omega), if_neg (by omega), if_neg (by omega), if_neg (by omega), if_pos h]
   exact ph_take su s w hw hi il y
 | lay h a s q w hw i hi il y hb =>
   rw [if_neg (by omega), if_neg (by omega), if_neg (by omega), if_neg (by omega), if_neg (by omega), if_neg (by omega), if_neg (by omega), if_pos h]
   exact ph_lay su hb0 s w hw hi il y hb
 | store h a s q w hw y =>
   rw [if_neg (by omega), if_neg (by omega), if_neg (by omega), if_neg (by omega), if_neg (by omega), if_neg (by omega), if_neg (by omega), if_neg (by omega), if_pos h]
   exact ph_store su s w hw y
 | turn h s y lt =>
   rw [if_neg (by omega), if_neg (by omega), if_neg (by omega), if_neg (by omega), if_neg (by omega), if_neg (by omega), if_neg (by omega), if_neg (by omega), if_neg (by omega)]
   by_cases h10 : m.next = 10
   ·rw [if_pos h10]
    exact ph_turn su al h10 s y lt
   ·rw [if_neg h10]
    have hm := su.may
    unfold Cfg.may at hm
    have hwl : (ws.length : Int) = wordsI m.c := by rw [s.wds.len]; unfold wordsI; omega
    have hw0 : 5 ≤ wordsI m.c := by unfold wordsI; omega
    have hcas : casB ws 0 m.top = true := casB_at (by omega) (by omega) (by rw [s.front, s.top])
    rw [hcas]
    rw [dst_top] at lt
    refine res_end (m := { m with low := true }) ⟨by show m.moved = _; rw [s.moved, cnt_top], ?_, ?_, ?_, y⟩
    ·show true = _
     rw [decide_eq_true lt]
    ·show getI (setI ws 0 m.dest) 0 = _
     rw [getI_same (by omega) (by omega), if_pos lt, s.dest, dst_top]
    ·have := s.wds.low su.may (.inl rfl) m.dest
     rw [cur_top] at this
     exact this
end
end Go.Proofs.YtfpfknafcgkcjaaGreat

/- A pass alone over placed objects, and one behind it. Plain. -/
set_option linter.unusedVariables false
set_option linter.unusedSimpArgs false
namespace Go.Proofs.YtfpfknafcgkcjaaGreat
open Go Go.Ir

theorem step_c {m : Mc} {ws bs : List Int} (h : Al ws m) (h0 : m.next ≠ 0) : (stepM m ws bs).1.1.c = m.c := by
 have hn := h.wf.next
 by_cases h9 : m.next ≤ 9
 ·exact (step_tame h h0 h9).1.2.1
 ·unfold stepM
  rw [if_neg (by omega), if_neg (by omega), if_neg (by omega), if_neg (by omega), if_neg (by omega), if_neg (by omega), if_neg (by omega), if_neg (by omega), if_neg (by omega)]
  by_cases h10 : m.next = 10
  ·rw [if_pos h10]
   show (turnM m _ ws).1.1.c = m.c
   unfold turnM
   simp only
   split
   ·rfl
   ·split <;> rfl
  ·rw [if_neg h10]; rfl

theorem pass_fin {c : Cfg} {P : List Pl} {f : Int} {ws bs : List Int} (su : Su c P f) (wds : Wds c P none ws) (front : getI ws 0 = f) (bl : bs.length = c.A.toNat) (rng : ∀ i : Int, 0 ≤ getI bs i ∧ getI bs i < 256) {k : Nat} (hk : phi (mc0 c) ws ≤ k) :
  ∃ n, (runM k (mc0 c) ws bs).1 = some n ∧ (runM k (mc0 c) ws bs).2.2.1.c = c ∧ Fin P f bs (runM k (mc0 c) ws bs).2.2.1 (runM k (mc0 c) ws bs).2.2.2.1 (runM k (mc0 c) ws bs).2.2.2.2 n := by
 have hal := mc0_al su.may wds.len
 obtain ⟨n, hn⟩ := (run_ends k _ _ bs hal (by show (1 : Int) ≠ 0; omega) hk).1
 refine ⟨n, hn, ?_⟩
 refine run_fin (Inv := fun m w b => Al w m ∧ m.next ≠ 0 ∧ m.c = c ∧ Ph P f bs m w b) (Fin := fun m w b n => m.c = c ∧ Fin P f bs m w b n) (fun m w b hi => ?_) k (mc0 c) ws bs n ⟨hal, by show (1 : Int) ≠ 0; omega, rfl, .front rfl ⟨?_, ?_, rfl, rfl, rfl, rfl, front, wds⟩ rfl⟩ hn
 ·obtain ⟨i1, i2, i3, i4⟩ := hi
  have hs := ph_step (by rw [i3]; exact su) (by rw [bl, i3]) rng i1 i4
  have hc := step_c (bs := b) i1 i2
  rw [i3] at hc
  obtain ⟨_, _, hg⟩ := step_good b i1 i2
  exact ⟨fun hr => ⟨(hg.1 hr).1, (hg.1 hr).2.1, hc, hs.1 hr⟩, fun n hr => ⟨hc, hs.2 n hr⟩⟩
 ·rfl
 ·intro j q hj
  omega

theorem slide_get' : ∀ (l : List Pl) (d : Int) (q' : Pl), q' ∈ slide d l → ∃ q ∈ l, q'.o ≤ q.o ∧ q'.n = q.n ∧ q'.g = q.g ∧ q'.p = q.p ∧ q'.z = q.z
 | [], d, q', h => by cases h
 | x :: l, d, q', h => by
   simp only [slide, List.mem_cons] at h
   rcases h with rfl | h
   ·refine ⟨x, by simp, ?_, rfl, rfl, rfl, rfl⟩
    show newO d x ≤ x.o
    unfold newO
    split <;> omega
   ·obtain ⟨q, hq, g⟩ := slide_get' l (newD d x) q' h
    exact ⟨q, List.mem_cons_of_mem _ hq, g⟩

theorem cur_ok {c : Cfg} {P : List Pl} {f : Int} (su : Su c P f) {a : Nat} : ∀ q ∈ cur P a, q.Ok f := fun q hq => by
 unfold cur at hq
 rcases List.mem_append.1 hq with h | h
 ·obtain ⟨x, hx, e1, e2, e3, e4, e5⟩ := slide_get' _ _ _ h
  have hok := su.ok x (List.mem_of_mem_take hx)
  have hof := hok.of
  have hg := slide_ge (d := 0) (l := P.take a) (fun y hy => ⟨by have := (su.ok y (List.mem_of_mem_take hy)).n0; omega, (su.ok y (List.mem_of_mem_take hy)).o0⟩) (su.apart.sublist (List.take_sublist _ _)) q h
  exact ⟨hg, by omega, by rw [e3]; exact hok.g0, by rw [e4]; exact hok.p0, by rw [e5]; exact hok.z0, by rw [e2, e5]; exact hok.nz⟩
 ·exact su.ok q (List.mem_of_mem_drop h)

end Go.Proofs.YtfpfknafcgkcjaaGreat

