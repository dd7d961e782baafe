/- What threads tell is a history, and each op is asked in its order: plain. -/
import Derived.Test.YtnfcohmbcgfhbaaGreatHistQ
import Derived.Test.YtnfcohmbcgfhbaaGreatHistR
import Derived.Test.YtnfcohmbcgfhbaaGreatThreadQ3
set_option linter.unusedVariables false
set_option linter.unusedSimpArgs false

namespace Go.Proofs.YtnfcohmbcgfhbaaGreat
open Go Go.Ir

def Low (c : Cfg) (ws ws' : List Int) : Prop := ∀ j, 4 ≤ j → j < 4 + c.T → getI ws' j = getI ws j
section
variable {c : Cfg} {ws bs : List Int}
theorem Low.refl : Low c ws ws := fun _ _ _ => rfl
theorem low_idx {i v : Int} (h : i < 4) : Low c ws (setI ws i v) := fun j h1 h2 => getI_set (by omega)
theorem low_slot (hT : 0 ≤ c.T) {t k v : Int} (hk : 0 ≤ k) : Low c ws (setI ws (slotI c t k) v) := fun j h1 h2 => getI_set (by
 unfold slotI
 split <;> omega)
theorem popS_lo (hT : 0 ≤ c.T) (s : Sk) : Low c ws (popS c s ws).2.1 := by
 unfold popS
 repeat' split
 all_goals first | exact Low.refl | exact low_idx (by omega)
theorem pushS_lo (hT : 0 ≤ c.T) (s : Sk) : Low c ws (pushS c s ws).2.1 := by
 unfold pushS
 repeat' split
 all_goals first | exact Low.refl | exact low_idx (by omega) | exact low_slot hT (by omega)
theorem alS_lo (hT : 0 ≤ c.T) (s : Al) : Low c ws (alS c s ws bs).2.1 := by
 unfold alS
 by_cases h0 : s.nx = 0
 ·rw [if_pos h0]; exact Low.refl
 rw [if_neg h0]
 by_cases h1 : s.nx = 1
 ·rw [if_pos h1]; split <;> exact Low.refl
 rw [if_neg h1]
 by_cases h2 : s.nx = 2
 ·rw [if_pos h2]; split
  ·exact low_idx (by omega)
  ·exact Low.refl
 rw [if_neg h2]
 by_cases h3 : s.nx = 3
 ·rw [if_pos h3]
  have := popS_lo (c := c) (ws := ws) hT s.p
  show Low c ws (alTake s (popS c s.p ws)).2
  unfold alTake
  repeat' split
  all_goals exact this
 rw [if_neg h3]
 by_cases h4 : s.nx = 4
 ·rw [if_pos h4]; split <;> exact Low.refl
 rw [if_neg h4]
 by_cases h5 : s.nx = 5
 ·rw [if_pos h5]; split
  ·exact low_idx (by omega)
  ·exact Low.refl
 rw [if_neg h5]
 by_cases h6 : s.nx = 6
 ·rw [if_pos h6]
  have := pushS_lo (c := c) (ws := ws) hT s.q
  show Low c ws (alGive s (pushS c s.q ws)).2
  unfold alGive
  repeat' split
  all_goals exact this
 rw [if_neg h6]
 by_cases h7 : s.nx = 7
 ·rw [if_pos h7]; split <;> exact Low.refl
 rw [if_neg h7]
 by_cases h8 : s.nx = 8
 ·rw [if_pos h8]; exact low_slot hT (by omega)
 rw [if_neg h8]
 by_cases h9 : s.nx = 9
 ·rw [if_pos h9]; exact Low.refl
 rw [if_neg h9]
 by_cases ha : s.nx = 10
 ·rw [if_pos ha]
  show Low c ws (if s.kept = 0 then setI ws (slotI c s.slot 0) s.word else ws)
  split
  ·exact low_slot hT (by omega)
  ·exact Low.refl
 rw [if_neg ha]
 by_cases hb : s.nx = 11
 ·rw [if_pos hb]; exact Low.refl
 rw [if_neg hb]
 split
 ·exact low_idx (by omega)
 ·exact Low.refl
theorem feS_lo (hT : 0 ≤ c.T) (s : Fe) : Low c ws (feS c s ws).2.1 := by
 unfold feS
 split
 ·exact Low.refl
 split
 ·split <;> exact Low.refl
 split
 ·split
  ·split <;> exact low_slot hT (by omega)
  ·exact Low.refl
 ·have := pushS_lo (c := c) (ws := ws) hT s.p
  unfold feGive
  split <;> exact this
theorem wrS_lo (hT : 0 ≤ c.T) (s : Wr) : Low c ws (wrS c s ws bs).2.1 := by
 unfold wrS wrG
 repeat' split
 all_goals first | exact Low.refl | exact low_slot hT (by omega)
theorem pnS_lo (hT : 0 ≤ c.T) (s : Pn) : Low c ws (pnS c s ws).2.1 := by
 unfold pnS pnG
 repeat' split
 all_goals first | exact Low.refl | exact low_slot hT (by omega)
theorem mxS_lo (hT : 0 ≤ c.T) (m : Mx) : Low c ws (mxS c m ws bs).2.1 := by
 cases m with
 | al s => exact alS_lo hT s
 | fe s => exact feS_lo hT s
 | rd s => exact Low.refl
 | wr s => exact wrS_lo hT s
 | pn s => exact pnS_lo hT s
 | no => exact Low.refl
end

abbrev Op := Int × Int × Int × Int
def opT (o : Op4) : Op := (o.d, o.h, o.f, o.n)
def evO (e : Evt) : Op := (e.d, e.h, e.o, e.n)
def mine (t : Int) (e : Evt) : Bool := e.th == t && !e.bk
def asks (t : Int) (l : List Evt) : List Op := (l.filter (mine t)).map evO
theorem asks_app (t : Int) (l k : List Evt) : asks t (l ++ k) = asks t l ++ asks t k := by unfold asks; rw [List.filter_append, List.map_append]
theorem cnt_app (t : Int) (l k : List Evt) : cntE t (l ++ k) = cntE t l + cntE t k := by unfold cntE; exact List.countP_append

structure TI (c : Cfg) (ws : List Int) (l : List Evt) (p : List Op4) (i : Nat) (t : Th) : Prop where
 num : t.num = i
 cnt : cntE i l % 2 = if t.nx = 0 then 0 else 1
 ops : ∃ k, t.ops = p.drop k ∧ asks i l = (p.take (k + (if t.nx = 0 then 0 else 1))).map opT ∧ (t.nx ≠ 0 → k < p.length)
 note : (i : Int) < c.T → getI ws (4 + i) ≠ 0 → t.nx ≠ 0
structure HI (c : Cfg) (ws : List Int) (l : List Evt) (ps : Nat → List Op4) (ts : List Th) : Prop where
 ok : okAll l
 four : ts.length ≤ 4
 thr : ∀ e ∈ l, 0 ≤ e.th ∧ e.th < ts.length
 th : ∀ (i : Nat) t, ts[i]? = some t → TI c ws l (ps i) i t

def evtA (n : Int) (o : Op4) : Evt := ⟨n, false, o.d, o.h, o.f, o.n, 0, 0⟩
def evtB (n cd nn : Int) : Evt := ⟨n, true, 0, 0, 0, 0, cd, nn⟩

theorem TI.other {c : Cfg} {ws ws' : List Int} {l es : List Evt} {p : List Op4} {j : Nat} {u : Th} (h : TI c ws l p j u) (he : ∀ e ∈ es, e.th ≠ j) (hw : (j : Int) < c.T → getI ws' (4 + j) = getI ws (4 + j)) : TI c ws' (l ++ es) p j u := by
 have h0 : cntE j es = 0 := by
  unfold cntE
  rw [List.countP_eq_zero]
  intro e hm
  simp [he e hm]
 have h1 : asks j es = [] := by
  unfold asks
  rw [List.map_eq_nil_iff, List.filter_eq_nil_iff]
  intro e hm
  simp [mine, he e hm]
 refine ⟨h.num, by rw [cnt_app, h0]; exact h.cnt, ?_, fun hj hn => h.note hj (by rw [← hw hj]; exact hn)⟩
 rw [asks_app, h1, List.append_nil]
 exact h.ops

theorem step_hi {c : Cfg} {ws bs : List Int} {l : List Evt} {ps : Nat → List Op4} {ts : List Th} {i : Nat} {t : Th} (hT : 0 ≤ c.T) (hN : ∀ i : Nat, ps i ≠ [] → (i : Int) < c.T) (h : HI c ws l ps ts) (ht : ts[i]? = some t) :
  ∃ es, (thS c t ws bs).2.2.2 = vcs es ∧ es.length ≤ 1 ∧ HI c (thS c t ws bs).2.1 (l ++ es) ps (ts.set i (thS c t ws bs).1) := by
 have hi := (List.getElem?_eq_some_iff.1 ht).1
 have h4 := h.four
 have T := h.th i t ht
 -- joins: the thread's own part, then the others'
 have join : ∀ (t' : Th) (ws' : List Int) (es : List Evt), (∀ e ∈ es, e.th = i) → okAll (l ++ es) → TI c ws' (l ++ es) (ps i) i t' → (∀ j : Nat, j ≠ i → (j : Int) < c.T → getI ws' (4 + j) = getI ws (4 + j)) → HI c ws' (l ++ es) ps (ts.set i t') := fun t' ws' es e1 e2 e3 e4 => by
  refine ⟨e2, by rw [List.length_set]; exact h4, fun e he => ?_, fun j u hu => ?_⟩
  ·rw [List.length_set]
   rcases List.mem_append.1 he with q | q
   ·exact h.thr e q
   ·rw [e1 e q]; omega
  by_cases hj : i = j
  ·subst hj
   rw [List.getElem?_set_self hi] at hu
   injection hu with hu
   subst hu
   exact e3
  ·rw [List.getElem?_set_ne hj] at hu
   exact (h.th j u hu).other (fun e he q => hj (by have := e1 e he; omega)) (e4 j (Ne.symm hj))
 have okN : okAll (l ++ []) := by rw [List.append_nil]; exact h.ok
 have lo : ∀ ws', Low c ws ws' → ∀ j : Nat, j ≠ i → (j : Int) < c.T → getI ws' (4 + j) = getI ws (4 + j) := fun ws' hl j _ hj => hl (4 + j) (by omega) (by omega)
 obtain ⟨k, k1, k2, k3⟩ := T.ops
 cases ho : t.ops with
 | nil =>
   have e : thS c t ws bs = (t, ws, bs, []) := by unfold thS; rw [ho]
   rw [e]
   refine ⟨[], rfl, Nat.zero_le _, join t ws [] (fun e he => by cases he) okN ?_ (fun j _ _ => rfl)⟩
   rw [List.append_nil]
   exact T
 | cons o r =>
   have hkl : k < (ps i).length := by
    rw [ho] at k1
    have := congrArg List.length k1
    rw [List.length_cons, List.length_drop] at this
    omega
   have hko : (ps i)[k]? = some o := by
    have : ((ps i).drop k)[0]? = some o := by rw [← k1, ho]; rfl
    rwa [List.getElem?_drop, Nat.add_zero] at this
   have hkr : (ps i).drop (k + 1) = r := by
    rw [ho] at k1
    rw [← List.drop_drop, ← k1]; rfl
   have hiT : (i : Int) < c.T := hN i fun q => by rw [q] at hkl; simp at hkl
   have htk : ((ps i).take (k + 1)).map opT = ((ps i).take k).map opT ++ [opT o] := by
    obtain ⟨_, he⟩ := List.getElem?_eq_some_iff.1 hko
    rw [List.take_succ_eq_append_getElem hkl, List.map_append, he]; rfl
   by_cases n0 : t.nx = 0
   ·have e : thS c t ws bs = ({ t with ep := getI ws 3, nx := 1 }, ws, bs, [evA t.num o]) := by unfold thS; rw [ho]; simp only; rw [if_pos n0]
    rw [e]
    have hc := T.cnt
    rw [if_pos n0] at hc k2
    refine ⟨[evtA i o], by show [evA t.num o] = [Evt.cs _]; rw [T.num]; rfl, Nat.le_refl _, join _ _ _ (fun e he => by rw [List.mem_singleton] at he; rw [he]; rfl) ?_ ⟨T.num, ?_, ⟨k, ?_, ?_, fun _ => hkl⟩, fun _ _ => by show (1 : Int) ≠ 0; decide⟩ (fun j _ _ => rfl)⟩
    ·rw [okAll_app]
     refine ⟨h.ok, ?_⟩
     unfold okR
     rw [Bool.and_eq_true, Bool.and_eq_true, Bool.and_eq_true]
     refine ⟨⟨⟨decide_eq_true (by show (0 : Int) ≤ (i : Int); omega), decide_eq_true (by show (i : Int) < 4; omega)⟩, ?_⟩, rfl⟩
     show (false == decide (cntE (i : Int) l % 2 = 1)) = true
     rw [hc]; rfl
    ·rw [cnt_app]
     have : cntE i [evtA i o] = 1 := by simp [cntE, evtA]
     rw [this, if_neg (show ¬ (1 : Int) = 0 by decide)]
     omega
    ·exact k1
    ·rw [asks_app, k2, if_neg (show ¬ (1 : Int) = 0 by decide), htk]
     have : asks i [evtA i o] = [opT o] := by simp [asks, mine, evtA, evO, opT]
     rw [this, Nat.add_zero]
   have hc := T.cnt
   rw [if_neg n0] at hc k2
   by_cases n1 : t.nx = 1
   ·have e : thS c t ws bs = ({ t with m := mkM o, nx := 2 }, setI ws (noteI c t.num) (w64 (t.ep + 1)), bs, []) := by unfold thS; rw [ho]; simp only; rw [if_neg n0, if_pos n1]
    rw [e]
    refine ⟨[], rfl, Nat.zero_le _, join _ _ _ (fun e he => by cases he) okN ⟨T.num, ?_, ⟨k, ?_, ?_, fun _ => hkl⟩, fun _ _ => by show (2 : Int) ≠ 0; decide⟩ (fun j hj hjT => ?_)⟩
    ·rw [List.append_nil, if_neg (show ¬ (2 : Int) = 0 by decide)]; exact hc
    ·exact k1
    ·rw [List.append_nil, if_neg (show ¬ (2 : Int) = 0 by decide)]; exact k2
    ·refine getI_set ?_
     rw [T.num]
     unfold noteI
     split <;> omega
   by_cases n2 : t.nx = 2
   ·have e : thS c t ws bs = thW t (mxS c t.m ws bs) := by unfold thS; rw [ho]; simp only; rw [if_neg n0, if_neg n1, if_pos n2]
    have hlo := mxS_lo (c := c) (ws := ws) (bs := bs) hT t.m
    rw [e]
    unfold thW
    split
    ·refine ⟨[], rfl, Nat.zero_le _, join _ _ _ (fun e he => by cases he) okN ⟨T.num, ?_, ⟨k, k1, ?_, fun _ => hkl⟩, fun _ _ => n0⟩ (lo _ hlo)⟩
     ·rw [List.append_nil]; show _ = if t.nx = 0 then 0 else 1; rw [if_neg n0]; exact hc
     ·rw [List.append_nil]; show _ = ((ps i).take (k + if t.nx = 0 then 0 else 1)).map opT; rw [if_neg n0]; exact k2
    ·refine ⟨[], rfl, Nat.zero_le _, join _ _ _ (fun e he => by cases he) okN ⟨T.num, ?_, ⟨k, k1, ?_, fun _ => hkl⟩, fun _ _ => by show (3 : Int) ≠ 0; decide⟩ (lo _ hlo)⟩
     ·rw [List.append_nil, if_neg (show ¬ (3 : Int) = 0 by decide)]; exact hc
     ·rw [List.append_nil, if_neg (show ¬ (3 : Int) = 0 by decide)]; exact k2
   ·have e : thS c t ws bs = ({ t with ops := r, nx := 0 }, setI ws (noteI c t.num) 0, bs, [evB t.num t.cd t.nn]) := by unfold thS; rw [ho]; simp only; rw [if_neg n0, if_neg n1, if_neg n2]
    rw [e]
    refine ⟨[evtB i t.cd t.nn], by show [evB t.num t.cd t.nn] = [Evt.cs _]; rw [T.num]; rfl, Nat.le_refl _, join _ _ _ (fun e he => by rw [List.mem_singleton] at he; rw [he]; rfl) ?_ ⟨T.num, ?_, ⟨k + 1, ?_, ?_, fun q => absurd rfl q⟩, fun hj hn => absurd ?_ hn⟩ (fun j hj hjT => ?_)⟩
    ·rw [okAll_app]
     refine ⟨h.ok, ?_⟩
     unfold okR
     rw [Bool.and_eq_true, Bool.and_eq_true, Bool.and_eq_true]
     refine ⟨⟨⟨decide_eq_true (by show (0 : Int) ≤ (i : Int); omega), decide_eq_true (by show (i : Int) < 4; omega)⟩, ?_⟩, rfl⟩
     show (true == decide (cntE (i : Int) l % 2 = 1)) = true
     rw [hc]; rfl
    ·rw [cnt_app]
     have : cntE i [evtB i t.cd t.nn] = 1 := by simp [cntE, evtB]
     rw [this, if_pos rfl]
     omega
    ·exact hkr.symm
    ·rw [asks_app, k2, if_pos rfl, Nat.add_zero]
     have : asks i [evtB i t.cd t.nn] = [] := by simp [asks, mine, evtB]
     rw [this, List.append_nil]
    ·show getI (setI ws (noteI c t.num) 0) (4 + (i : Int)) = 0
     have e1 : noteI c i = 4 + (i : Int) := by unfold noteI; rw [if_pos ⟨by omega, hiT⟩]
     rw [T.num, e1]
     by_cases hr : (4 : Int) + (i : Int) < ws.length
     ·exact getI_set_same (by omega) hr
     ·have hs : setI ws (4 + (i : Int)) 0 = ws := if_neg (by omega)
      rw [hs]
      exact if_neg (by omega)
    ·refine getI_set ?_
     rw [T.num]
     unfold noteI
     split <;> omega

theorem calls_asks (l : List Evt) : ∀ i, i ≤ l.length → (callsD l.length l i).map (fun c => (c.th, (c.od, c.oh, c.oo, c.on))) = ((l.take i).filter (fun e => !e.bk)).map (fun e => (e.th, evO e))
 | 0, _ => by simp [callsD]
 | i + 1, h => by
   have hi : i < l.length := h
   rw [callsD_succ, List.map_append, calls_asks l i (by omega), List.take_succ_eq_append_getElem hi, List.filter_append, List.map_append]
   congr 1
   unfold pickC
   rw [List.getElem?_eq_getElem hi]
   simp only
   cases hb : (l[i]).bk with
   | true => simp [hb]
   | false =>
     rw [if_neg (by decide)]
     have : (List.filter (fun e => !e.bk) [l[i]]) = [l[i]] := by simp [hb]
     rw [this]
     unfold mkC
     split <;> rfl
theorem filter_nth {α : Type} (q : α → Bool) : ∀ {l : List α} {k : Nat} {a : α}, l[k]? = some a → q a = true → (l.filter q)[(l.take k).countP q]? = some a
 | [], k, a, h, _ => by simp at h
 | x :: r, 0, a, h, hq => by
   simp at h
   subst h
   simp [hq]
 | x :: r, k + 1, a, h, hq => by
   have ih := filter_nth q (l := r) (k := k) (by simpa using h) hq
   by_cases hx : q x = true
   ·rw [List.filter_cons_of_pos hx, List.take_succ_cons, List.countP_cons_of_pos hx]
    exact ih
   ·rw [List.filter_cons_of_neg hx, List.take_succ_cons, List.countP_cons_of_neg hx]
    exact ih
def thC (t : Int) (c : Kall) : Bool := c.th == t
theorem call_op {l : List Evt} {k : Nat} {a : Kall} (h : (callsD l.length l l.length)[k]? = some a) : (asks a.th l)[((callsD l.length l l.length).take k).countP (thC a.th)]? = some (a.od, a.oh, a.oo, a.on) := by
 have e := calls_asks l l.length (Nat.le_refl _)
 rw [List.take_length] at e
 have e2 : asks a.th l = ((callsD l.length l l.length).filter (thC a.th)).map (fun c => (c.od, c.oh, c.oo, c.on)) := by
  have e3 : ((callsD l.length l l.length).map (fun c => (c.th, (c.od, c.oh, c.oo, c.on)))).filter (fun x => x.1 == a.th) = ((((l.filter (fun e => !e.bk)).map (fun e => (e.th, evO e)))).filter (fun x => x.1 == a.th)) := by rw [e]
  rw [List.filter_map, List.filter_map, List.filter_filter] at e3
  have e4 := congrArg (List.map (fun x : Int × Op => x.2)) e3
  rw [List.map_map, List.map_map] at e4
  exact e4.symm
 rw [e2, List.getElem?_map, filter_nth (thC a.th) h (by simp [thC])]
 rfl
theorem call_th {l : List Evt} (h : okAll l) : ∀ a ∈ callsD l.length l l.length, 0 ≤ a.th ∧ a.th < 4 ∧ ∃ e ∈ l, e.th = a.th ∧ e.bk = false := by
 intro a ha
 unfold callsD at ha
 obtain ⟨i, hi, hp⟩ := List.mem_flatMap.1 ha
 have hi : i < l.length := by simpa using hi
 unfold pickC at hp
 rw [List.getElem?_eq_getElem hi] at hp
 simp only at hp
 split at hp
 ·cases hp
 ·rename_i hb
  rw [List.mem_singleton] at hp
  have hth : a.th = (l[i]).th := by rw [hp]; unfold mkC; split <;> rfl
  have hr := h i _ (List.getElem?_eq_getElem hi)
  unfold okR at hr
  simp only [Bool.and_eq_true, decide_eq_true_eq] at hr
  exact ⟨by rw [hth]; exact hr.1.1.1, by rw [hth]; exact hr.1.1.2, _, List.getElem_mem hi, hth.symm, by simpa using hb⟩
end Go.Proofs.YtnfcohmbcgfhbaaGreat

