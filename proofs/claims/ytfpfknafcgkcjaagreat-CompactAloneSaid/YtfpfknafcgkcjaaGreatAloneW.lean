/- A pass alone ends. Plain. -/
import Derived.Test.YtfpfknafcgkcjaaGreatAloneU
import Derived.Test.YtfpfknafcgkcjaaGreatAloneV

set_option linter.unusedVariables false
set_option linter.unusedSimpArgs false
namespace Go.Proofs.YtfpfknafcgkcjaaGreat
open Go Go.Ir

def oS : List Obj → Nat
 | [] => 0
 | o :: r => (3 + 2 * o.n.toNat) + oS r
theorem oS_perm {a b : List Obj} (h : a.Perm b) : oS a = oS b := by
 induction h with
 | nil => rfl
 | cons x _ ih => simp only [oS, ih]
 | swap x y l => simp only [oS]; omega
 | trans _ _ h1 h2 => exact h1.trans h2
theorem oS_app (a b : List Obj) : oS (a ++ b) = oS a + oS b := by
 induction a with
 | nil => simp [oS]
 | cons x a ih => simp only [List.cons_append, oS, ih]; omega
theorem oS_drop {l : List Obj} {k : Nat} {o : Obj} (h : l[k]? = some o) : oS (l.drop k) = (3 + 2 * o.n.toNat) + oS (l.drop (k + 1)) := by
 obtain ⟨hk, he⟩ := List.getElem?_eq_some_iff.1 h
 rw [List.drop_eq_getElem_cons hk, he]; rfl

def pot (c : Cfg) (ws : List Int) (s : Int) : Nat :=
 match unpackE (getI ws (slotI c s 0)) with
 | some e => if e.lv = true ∧ 1 ≤ getI ws (slotI c s 1) ∧ getI ws (slotI c s 1) ≤ 256 then 3 + 2 * (roundI (getI ws (slotI c s 1))).toNat else 0
 | none => 0
def pS (c : Cfg) (ws : List Int) : Nat → Nat
 | 0 => 0
 | k + 1 => pot c ws (c.S - ((k + 1 : Nat) : Int)) + pS c ws k

def phi (m : Mc) (ws : List Int) : Nat :=
 if m.next = 1 then 2 + 2 * m.c.S.toNat + pS m.c ws m.c.S.toNat + m.c.T.toNat + 3
 else if m.next = 2 then 1 + 2 * m.c.S.toNat + pS m.c ws m.c.S.toNat + m.c.T.toNat + 3
 else if m.next = 3 then 2 * (m.c.S - m.slot).toNat + pS m.c ws (m.c.S - m.slot).toNat + oS m.objs + m.c.T.toNat + 3
 else if m.next = 4 then 2 * (m.c.S - m.slot).toNat - 1 + pS m.c ws (m.c.S - m.slot).toNat + oS m.objs + m.c.T.toNat + 3
 else if m.next = 5 then oS (m.objs.drop m.att.toNat) + m.c.T.toNat + 3
 else if m.next = 6 then oS (m.objs.drop m.att.toNat) - 1 + m.c.T.toNat + 3
 else if m.next = 7 then 2 * ((curO m).n - m.i).toNat + 1 + oS (m.objs.drop (m.att.toNat + 1)) + m.c.T.toNat + 3
 else if m.next = 8 then 2 * ((curO m).n - m.i).toNat + oS (m.objs.drop (m.att.toNat + 1)) + m.c.T.toNat + 3
 else if m.next = 9 then 1 + oS (m.objs.drop (m.att.toNat + 1)) + m.c.T.toNat + 3
 else if m.next = 10 then
  match m.turn with
  | some t => if t.nx = 1 then m.c.T.toNat + 3 else if t.nx = 2 then m.c.T.toNat + 2 else (m.c.T - t.ak).toNat + 1
  | none => 0
 else if m.next = 11 then 1 else 0

structure Al (ws : List Int) (m : Mc) : Prop where
 wf : m.wf
 wl : ws.length = (wordsI m.c).toNat
 size : ∀ o ∈ m.objs, 8 ≤ o.n ∧ o.n ≤ 256
 first : m.next ≤ 2 → m.slot = 0 ∧ m.objs = []
 scan : m.next ≤ 4 → m.att = 0
 meas : m.next = 4 → unpackE (getI ws (slotI m.c m.slot 0)) = some m.e ∧ m.e.lv = true
 lock : m.next = 6 → getI ws (slotI m.c (curO m).s 0) = m.word
 lay : 7 ≤ m.next → m.next ≤ 8 → 0 ≤ m.i ∧ m.i < (curO m).n
 few : m.objs.length ≤ 64
 turn : m.next = 10 → ∃ t, m.turn = some t ∧ ((t.nx = 1 ∧ t.ak = 0) ∨ (t.nx = 2 ∧ t.ak = 0 ∧ getI ws 3 = t.ep) ∨ (t.nx = 3 ∧ 0 ≤ t.ak ∧ t.ak < m.c.T))

def Good (ws' : List Int) (r : Mc × Option Int) (b : Nat) : Prop := (r.2 = none → Al ws' r.1 ∧ r.1.next ≠ 0 ∧ phi r.1 ws' ≤ b) ∧ (∀ n, r.2 = some n → r.1.next = 0)

theorem slotI_lt {c : Cfg} (hm : c.may) {s k : Int} (h0 : 0 ≤ s) (h1 : s < c.S) (hk : 0 ≤ k ∧ k ≤ 2) : slotI c s k = 4 + c.T + 3 * s + k ∧ 5 ≤ slotI c s k ∧ slotI c s k < wordsI c := by
 unfold Cfg.may at hm
 unfold slotI wordsI
 rw [if_pos ⟨h0, h1⟩]
 omega

theorem beh_good {m : Mc} {ws : List Int} {b : Nat} (hm : m.c.may) (wl : ws.length = (wordsI m.c).toNat) (hs : ∀ o ∈ m.objs, 8 ≤ o.n ∧ o.n ≤ 256) (ho : ∀ o ∈ m.objs, 0 ≤ o.s ∧ o.s < m.c.S) (few : m.objs.length ≤ 64)
  (ha : 0 ≤ m.att) (hb : oS (m.objs.drop m.att.toNat) + m.c.T.toNat + 3 ≤ b) : Good ws (behM m) b := by
 have hm' := hm
 unfold Cfg.may at hm'
 unfold behM
 by_cases h1 : m.att < (m.objs.length : Int)
 ·rw [if_pos h1]
  refine ⟨fun _ => ⟨⟨⟨hm, by show (0 : Int) ≤ 5 ∧ (5 : Int) ≤ 11; omega, fun h => by have h : (5 : Int) ≤ 4 := h; omega, ho, ha, fun _ _ => h1, fun h => by have h : (5 : Int) = 10 := h; omega⟩, wl, hs, fun h => by have h : (5 : Int) ≤ 2 := h; omega, fun h => by have h : (5 : Int) ≤ 4 := h; omega, fun h => by have h : (5 : Int) = 4 := h; omega,
   fun h => by have h : (5 : Int) = 6 := h; omega, fun h => by have h : (7 : Int) ≤ 5 := h; omega, few, fun h => by have h : (5 : Int) = 10 := h; omega⟩, by show (5 : Int) ≠ 0; omega, ?_⟩, fun n h => by cases h⟩
  unfold phi onM
  simp
  omega
 ·rw [if_neg h1]
  by_cases h2 : m.top ≤ m.dest
  ·rw [if_pos h2]
   exact ⟨fun h => (by cases h), fun n _ => rfl⟩
  ·rw [if_neg h2]
   refine ⟨fun _ => ⟨⟨⟨hm, by show (0 : Int) ≤ 10 ∧ (10 : Int) ≤ 11; omega, fun h => by have h : (10 : Int) ≤ 4 := h; omega, ho, ha, fun _ h => by have h : (10 : Int) ≤ 9 := h; omega, fun _ h => by cases h⟩, wl, hs, fun h => by have h : (10 : Int) ≤ 2 := h; omega, fun h => by have h : (10 : Int) ≤ 4 := h; omega, fun h => by have h : (10 : Int) = 4 := h; omega,
    fun h => by have h : (10 : Int) = 6 := h; omega, fun _ h => by have h : (10 : Int) ≤ 8 := h; omega, few, fun _ => ⟨⟨1, 0, 0⟩, rfl, .inl ⟨rfl, rfl⟩⟩⟩, by show (10 : Int) ≠ 0; omega, ?_⟩, fun n h => by cases h⟩
   unfold phi onM
   simp
   omega
end Go.Proofs.YtfpfknafcgkcjaaGreat

/- A pass alone ends: each step. Plain. -/
set_option linter.unusedVariables false
set_option linter.unusedSimpArgs false
namespace Go.Proofs.YtfpfknafcgkcjaaGreat
open Go Go.Ir

theorem good_on {m : Mc} {n : Int} {ws : List Int} {b : Nat} (al : Al ws { m with next := n }) (hn : n ≠ 0) (hp : phi { m with next := n } ws ≤ b) : Good ws (onM m n) b := ⟨fun _ => ⟨al, hn, hp⟩, fun _ h => (by cases h)⟩
theorem good_end {m : Mc} {ws : List Int} {b : Nat} : Good ws (endM m) b := ⟨fun h => (by cases h), fun _ _ => rfl⟩
theorem Good.mono {ws : List Int} {r : Mc × Option Int} {a b : Nat} (g : Good ws r a) (h : a ≤ b) : Good ws r b := ⟨fun e => ⟨(g.1 e).1, (g.1 e).2.1, Nat.le_trans (g.1 e).2.2 h⟩, g.2⟩

theorem sortR_mem {l : List Obj} {P : Obj → Prop} (h : ∀ o ∈ l, P o) : ∀ o ∈ sortR l, P o := fun o ho => h o ((sortR_perm l).mem_iff.1 ho)

theorem scanned_good {m : Mc} {ws : List Int} {b : Nat} (hm : m.c.may) (wl : ws.length = (wordsI m.c).toNat) (hs : ∀ o ∈ m.objs, 8 ≤ o.n ∧ o.n ≤ 256) (ho : ∀ o ∈ m.objs, 0 ≤ o.s ∧ o.s < m.c.S) (hl : (m.objs.length : Int) ≤ m.slot + 1)
  (h0 : 0 ≤ m.slot) (h1 : m.slot < m.c.S) (ht : m.turn = none) (ha : m.att = 0) (hb : 2 * (m.c.S - (m.slot + 1)).toNat + pS m.c ws (m.c.S - (m.slot + 1)).toNat + oS m.objs + m.c.T.toNat + 3 ≤ b) : Good ws (scannedM m) b := by
 have hm' := hm
 unfold Cfg.may at hm'
 have hw : w64 (m.slot + 1) = m.slot + 1 := wrap_id (by omega) (by omega)
 unfold scannedM
 rw [hw]
 by_cases hc : m.slot + 1 < m.c.S
 ·rw [if_pos hc]
  refine good_on ?_ (by decide) ?_
  ·exact ⟨⟨hm, by simp, fun _ => ⟨ht, by simp; omega, hc, hl⟩, ho, by show 0 ≤ m.att; omega, fun hh => by simp at hh, fun hh => by simp at hh⟩, wl, hs, fun hh => by simp at hh, fun _ => ha, fun hh => by simp at hh, fun hh => by simp at hh, fun hh => by simp at hh, by show m.objs.length ≤ 64; omega, fun hh => by simp at hh⟩
  ·unfold phi
   simp
   omega
 ·rw [if_neg hc]
  refine beh_good (m := { m with slot := m.slot + 1, objs := sortR m.objs }) hm wl (sortR_mem hs) (sortR_mem ho) (by show (sortR m.objs).length ≤ 64; rw [sortR_len]; omega) (by show 0 ≤ m.att; omega) ?_
  show oS ((sortR m.objs).drop m.att.toNat) + _ + _ ≤ b
  rw [ha]
  show oS ((sortR m.objs).drop 0) + _ + _ ≤ b
  rw [List.drop_zero, oS_perm (sortR_perm m.objs)]
  show oS m.objs + m.c.T.toNat + 3 ≤ b
  omega

theorem pS_at {c : Cfg} {ws : List Int} {s : Int} (h0 : 0 ≤ s) (h1 : s < c.S) : pS c ws (c.S - s).toNat = pot c ws s + pS c ws (c.S - (s + 1)).toNat := by
 obtain ⟨k, hk⟩ : ∃ k : Nat, (c.S - s).toNat = k + 1 := ⟨(c.S - s).toNat - 1, by omega⟩
 rw [hk, show (c.S - (s + 1)).toNat = k by omega]
 show pot c ws (c.S - ((k + 1 : Nat) : Int)) + _ = _
 rw [show c.S - ((k + 1 : Nat) : Int) = s by omega]

theorem step_scan {m : Mc} {ws : List Int} (h : Al ws m) (hn : m.next = 3) : ∃ b, phi m ws = b + 1 ∧ Good ws (scanM m ws) b := by
 have hs := h.wf.scan (by omega)
 have ha := h.scan (by omega)
 have hp := pS_at (ws := ws) hs.2.1 hs.2.2.1
 have hphi : phi m ws = 2 * (m.c.S - m.slot).toNat + pS m.c ws (m.c.S - m.slot).toNat + oS m.objs + m.c.T.toNat + 3 := by unfold phi; simp [hn]
 refine ⟨2 * (m.c.S - m.slot).toNat - 1 + pS m.c ws (m.c.S - m.slot).toNat + oS m.objs + m.c.T.toNat + 3, by rw [hphi]; omega, ?_⟩
 unfold scanM
 cases hu : unpackE (getI ws (slotI m.c m.slot 0)) with
 | none => exact scanned_good (m := { m with e := Ent.zero }) h.wf.may h.wl h.size h.wf.objs (by show (m.objs.length : Int) ≤ m.slot + 1; omega) hs.2.1 hs.2.2.1 hs.1 ha (by show 2 * (m.c.S - (m.slot + 1)).toNat + pS m.c ws (m.c.S - (m.slot + 1)).toNat + oS m.objs + m.c.T.toNat + 3 ≤ _; omega)
 | some e =>
   simp only
   by_cases hc : e.lv = true ∧ e.o < m.top
   ·rw [if_pos hc]
    refine good_on ?_ (by decide) ?_
    ·exact ⟨⟨h.wf.may, by simp, fun _ => hs, h.wf.objs, h.wf.at_, fun hh => by simp at hh, fun hh => by simp at hh⟩, h.wl, h.size, fun hh => by simp at hh, fun _ => ha, fun _ => ⟨hu, hc.1⟩, fun hh => by simp at hh, fun hh => by simp at hh, h.few, fun hh => by simp at hh⟩
    ·unfold phi
     simp
   ·rw [if_neg hc]
    exact scanned_good (m := { m with e := e }) h.wf.may h.wl h.size h.wf.objs (by show (m.objs.length : Int) ≤ m.slot + 1; omega) hs.2.1 hs.2.2.1 hs.1 ha (by show 2 * (m.c.S - (m.slot + 1)).toNat + pS m.c ws (m.c.S - (m.slot + 1)).toNat + oS m.objs + m.c.T.toNat + 3 ≤ _; omega)

theorem step_measure {m : Mc} {ws : List Int} (h : Al ws m) (hn : m.next = 4) : ∃ b, phi m ws = b + 1 ∧ Good ws (measureM m ws) b := by
 have hs := h.wf.scan (by omega)
 have ha := h.scan (by omega)
 have hme := h.meas hn
 have hp := pS_at (ws := ws) hs.2.1 hs.2.2.1
 have hphi : phi m ws = 2 * (m.c.S - m.slot).toNat - 1 + pS m.c ws (m.c.S - m.slot).toNat + oS m.objs + m.c.T.toNat + 3 := by unfold phi; simp [hn]
 have hm' := h.wf.may
 unfold Cfg.may at hm'
 refine ⟨2 * (m.c.S - (m.slot + 1)).toNat + pS m.c ws (m.c.S - m.slot).toNat + oS m.objs + m.c.T.toNat + 3, by rw [hphi]; omega, ?_⟩
 unfold measureM
 by_cases hc : 1 ≤ getI ws (slotI m.c m.slot 1) ∧ getI ws (slotI m.c m.slot 1) ≤ 256
 ·rw [if_pos hc]
  have hpot : pot m.c ws m.slot = 3 + 2 * (roundI (getI ws (slotI m.c m.slot 1))).toNat := by
   unfold pot
   rw [hme.1]
   simp only
   rw [if_pos ⟨hme.2, hc⟩]
  have hr : 8 ≤ roundI (getI ws (slotI m.c m.slot 1)) ∧ roundI (getI ws (slotI m.c m.slot 1)) ≤ 256 := by unfold roundI; omega
  generalize roundI (getI ws (slotI m.c m.slot 1)) = r at hpot hr
  refine scanned_good (m := { m with objs := m.objs ++ [⟨m.slot, m.e.o, r, false⟩], g := fun j => if j = m.slot.toNat then m.e.g else m.g j }) h.wf.may h.wl (fun o ho => ?_) (fun o ho => ?_) (by simp; omega) hs.2.1 hs.2.2.1 hs.1 ha ?_
  ·rcases List.mem_append.1 ho with g | g
   ·exact h.size o g
   ·simp at g; subst g; exact hr
  ·rcases List.mem_append.1 ho with g | g
   ·exact h.wf.objs o g
   ·simp at g; subst g; exact ⟨hs.2.1, hs.2.2.1⟩
  ·show 2 * (m.c.S - (m.slot + 1)).toNat + pS m.c ws (m.c.S - (m.slot + 1)).toNat + oS (m.objs ++ [⟨m.slot, m.e.o, r, false⟩]) + m.c.T.toNat + 3 ≤ _
   rw [oS_app]
   show 2 * (m.c.S - (m.slot + 1)).toNat + pS m.c ws (m.c.S - (m.slot + 1)).toNat + (oS m.objs + ((3 + 2 * r.toNat) + 0)) + m.c.T.toNat + 3 ≤ _
   omega
 ·rw [if_neg hc]
  exact scanned_good h.wf.may h.wl h.size h.wf.objs (by omega) hs.2.1 hs.2.2.1 hs.1 ha (by omega)

theorem cur_at {m : Mc} (h0 : 0 ≤ m.att) (h1 : m.att < m.objs.length) : m.objs[m.att.toNat]? = some (curO m) := by
 unfold curO
 rw [List.getD_eq_getElem?_getD, List.getElem?_eq_getElem (by omega)]; rfl

theorem passed_good {m : Mc} {ws : List Int} {b : Nat} (hm : m.c.may) (wl : ws.length = (wordsI m.c).toNat) (hs : ∀ o ∈ m.objs, 8 ≤ o.n ∧ o.n ≤ 256) (ho : ∀ o ∈ m.objs, 0 ≤ o.s ∧ o.s < m.c.S) (few : m.objs.length ≤ 64)
  (h0 : 0 ≤ m.att) (h1 : m.att < m.objs.length) (hb : oS (m.objs.drop (m.att.toNat + 1)) + m.c.T.toNat + 3 ≤ b) : Good ws (passedM m) b := by
 have hw : w64 (m.att + 1) = m.att + 1 := wrap_id (by omega) (by omega)
 unfold passedM
 rw [hw]
 refine beh_good (m := { m with att := m.att + 1 }) hm wl hs ho few (by show 0 ≤ m.att + 1; omega) ?_
 show oS (m.objs.drop (m.att + 1).toNat) + m.c.T.toNat + 3 ≤ b
 rw [show (m.att + 1).toNat = m.att.toNat + 1 by omega]
 exact hb

theorem step_look {m : Mc} {ws : List Int} (h : Al ws m) (hn : m.next = 5) : ∃ b, phi m ws = b + 1 ∧ Good ws (lookM m ws (curO m)) b := by
 have hl := h.wf.look (by omega) (by omega)
 have ha := h.wf.at_
 have hcur := cur_at ha hl
 have hd := oS_drop hcur
 have hphi : phi m ws = oS (m.objs.drop m.att.toNat) + m.c.T.toNat + 3 := by unfold phi; simp [hn]
 refine ⟨oS (m.objs.drop m.att.toNat) + m.c.T.toNat + 2, by rw [hphi], ?_⟩
 have pg : ∀ m' : Mc, m'.c = m.c → m'.objs = m.objs → m'.att = m.att → Good ws (passedM m') (oS (m.objs.drop m.att.toNat) + m.c.T.toNat + 2) := fun m' e1 e2 e3 => by
  refine passed_good (by rw [e1]; exact h.wf.may) (by rw [e1]; exact h.wl) (by rw [e2]; exact h.size) (by rw [e2, e1]; exact h.wf.objs) (by rw [e2]; exact h.few) (by rw [e3]; exact ha) (by rw [e3, e2]; exact hl) ?_
  rw [e1, e2, e3]; omega
 unfold lookM
 cases hu : unpackE (getI ws (slotI m.c (curO m).s 0)) with
 | none => exact pg _ rfl rfl rfl
 | some e =>
   simp only
   by_cases h1 : e.lv = false ∨ e.g ≠ m.g (curO m).s.toNat ∨ e.o ≠ (curO m).o
   ·rw [if_pos h1]; exact pg _ rfl rfl rfl
   ·rw [if_neg h1]
    by_cases h2 : 0 < e.p + e.u ∨ e.lk = true ∨ e.o ≤ m.dest
    ·rw [if_pos h2]; exact pg _ rfl rfl rfl
    ·rw [if_neg h2]
     refine good_on ?_ (by decide) ?_
     ·exact ⟨⟨h.wf.may, by simp, fun hh => by simp at hh, h.wf.objs, ha, fun _ _ => hl, fun hh => by simp at hh⟩, h.wl, h.size, fun hh => by simp at hh, fun hh => by simp at hh, fun hh => by simp at hh, fun _ => rfl, fun hh => by simp at hh, h.few, fun hh => by simp at hh⟩
     ·unfold phi
      simp
      omega
end Go.Proofs.YtfpfknafcgkcjaaGreat

/- A pass alone ends: the rest of the steps, joined. Plain. -/
set_option linter.unusedVariables false
set_option linter.unusedSimpArgs false
namespace Go.Proofs.YtfpfknafcgkcjaaGreat
open Go Go.Ir

theorem step_front {m : Mc} {ws : List Int} (h : Al ws m) (hn : m.next = 1) (t : Int) : ∃ b, phi m ws = b + 1 ∧ Good ws (onM { m with top := t } 2) b := by
 have hphi : phi m ws = 2 + 2 * m.c.S.toNat + pS m.c ws m.c.S.toNat + m.c.T.toNat + 3 := by unfold phi; simp [hn]
 refine ⟨1 + 2 * m.c.S.toNat + pS m.c ws m.c.S.toNat + m.c.T.toNat + 3, by rw [hphi]; omega, ?_⟩
 refine good_on ?_ (by decide) ?_
 ·exact ⟨⟨h.wf.may, by simp, fun _ => h.wf.scan (by omega), h.wf.objs, h.wf.at_, fun hh => by simp at hh, fun hh => by simp at hh⟩, h.wl, h.size, fun _ => h.first (by omega), fun _ => h.scan (by omega), fun hh => by simp at hh, fun hh => by simp at hh, fun hh => by simp at hh, h.few, fun hh => by simp at hh⟩
 ·unfold phi
  simp

theorem step_pend {m : Mc} {ws : List Int} (h : Al ws m) (hn : m.next = 2) : ∃ b, phi m ws = b + 1 ∧ Good ws (if getI ws 2 ≠ 0 then endM m else onM m 3) b := by
 have hphi : phi m ws = 1 + 2 * m.c.S.toNat + pS m.c ws m.c.S.toNat + m.c.T.toNat + 3 := by unfold phi; simp [hn]
 refine ⟨2 * m.c.S.toNat + pS m.c ws m.c.S.toNat + m.c.T.toNat + 3, by rw [hphi]; omega, ?_⟩
 have hf := h.first (by omega)
 by_cases hc : getI ws 2 ≠ 0
 ·rw [if_pos hc]; exact good_end
 ·rw [if_neg hc]
  refine good_on ?_ (by decide) ?_
  ·exact ⟨⟨h.wf.may, by simp, fun _ => h.wf.scan (by omega), h.wf.objs, h.wf.at_, fun hh => by simp at hh, fun hh => by simp at hh⟩, h.wl, h.size, fun hh => by simp at hh, fun _ => h.scan (by omega), fun hh => by simp at hh, fun hh => by simp at hh, fun hh => by simp at hh, h.few, fun hh => by simp at hh⟩
  ·unfold phi
   simp [hf.1, hf.2, oS]

theorem casB_at {ws : List Int} {i w : Int} (h0 : 0 ≤ i) (h1 : i < ws.length) (hg : getI ws i = w) : casB ws i w = true := by
 unfold getI at hg
 rw [if_pos ⟨h0, h1⟩] at hg
 unfold casB
 rw [decide_eq_true (show 0 ≤ i ∧ i < ws.length from ⟨h0, h1⟩), decide_eq_true hg]; rfl

section
variable {m : Mc} {ws : List Int}

theorem cur_size (h : Al ws m) (h0 : 5 ≤ m.next) (h1 : m.next ≤ 9) : m.objs[m.att.toNat]? = some (curO m) ∧ 8 ≤ (curO m).n ∧ (curO m).n ≤ 256 ∧ 0 ≤ (curO m).s ∧ (curO m).s < m.c.S := by
 have hc := cur_at h.wf.at_ (h.wf.look h0 h1)
 have hm := List.mem_of_getElem? hc
 exact ⟨hc, (h.size _ hm).1, (h.size _ hm).2, (h.wf.objs _ hm).1, (h.wf.objs _ hm).2⟩

theorem step_lock (h : Al ws m) (hn : m.next = 6) : ∃ b, phi m ws = b + 1 ∧ Good (lockM m ws (curO m)).2 (lockM m ws (curO m)).1 b := by
 obtain ⟨hc, n0, n1, s0, s1⟩ := cur_size h (by omega) (by omega)
 have hl := h.wf.look (by omega) (by omega)
 have hd := oS_drop hc
 have hphi : phi m ws = oS (m.objs.drop m.att.toNat) - 1 + m.c.T.toNat + 3 := by unfold phi; simp [hn]
 have hsl := slotI_lt h.wf.may s0 s1 (k := 0) (by omega)
 have hm' := h.wf.may
 unfold Cfg.may at hm'
 have hw0 : 0 ≤ wordsI m.c := by omega
 have hwl : (ws.length : Int) = wordsI m.c := by rw [h.wl]; omega
 have hcas : casB ws (slotI m.c (curO m).s 0) m.word = true := casB_at (by omega) (by omega) (h.lock hn)
 refine ⟨oS (m.objs.drop m.att.toNat) - 2 + m.c.T.toNat + 3, by rw [hphi]; omega, ?_⟩
 unfold lockM
 rw [if_pos hcas]
 refine good_on (m := { m with word := chA m.word lockF, i := 0 }) ?_ (by decide) ?_
 ·exact ⟨⟨h.wf.may, by simp, fun hh => by simp at hh, h.wf.objs, h.wf.at_, fun _ _ => hl, fun hh => by simp at hh⟩, by rw [setI_len]; exact h.wl, h.size, fun hh => by simp at hh, fun hh => by simp at hh, fun hh => by simp at hh, fun hh => by simp at hh, fun _ _ => ⟨by show (0 : Int) ≤ 0; omega, by show (0 : Int) < (curO m).n; omega⟩, h.few, fun hh => by simp at hh⟩
 ·unfold phi
  simp
  show 2 * (curO m).n.toNat + 1 + _ ≤ _
  omega

theorem step_load (h : Al ws m) (hn : m.next = 7) (v : Int) : ∃ b, phi m ws = b + 1 ∧ Good ws (onM { m with b := v } 8) b := by
 have hl := h.wf.look (by omega) (by omega)
 have hi := h.lay (by omega) (by omega)
 have hphi : phi m ws = 2 * ((curO m).n - m.i).toNat + 1 + oS (m.objs.drop (m.att.toNat + 1)) + m.c.T.toNat + 3 := by unfold phi; simp [hn]
 refine ⟨2 * ((curO m).n - m.i).toNat + oS (m.objs.drop (m.att.toNat + 1)) + m.c.T.toNat + 3, by rw [hphi]; omega, ?_⟩
 refine good_on (m := { m with b := v }) ?_ (by decide) ?_
 ·exact ⟨⟨h.wf.may, by simp, fun hh => by simp at hh, h.wf.objs, h.wf.at_, fun _ _ => hl, fun hh => by simp at hh⟩, h.wl, h.size, fun hh => by simp at hh, fun hh => by simp at hh, fun hh => by simp at hh, fun hh => by simp at hh, fun _ _ => hi, h.few, fun hh => by simp at hh⟩
 ·unfold phi
  simp
  show 2 * ((curO m).n - m.i).toNat ≤ _
  omega

theorem step_lay (h : Al ws m) (hn : m.next = 8) (bs : List Int) : ∃ b, phi m ws = b + 1 ∧ Good ws (layM m bs (curO m)).1 b := by
 obtain ⟨hc, n0, n1, s0, s1⟩ := cur_size h (by omega) (by omega)
 have hl := h.wf.look (by omega) (by omega)
 have hi := h.lay (by omega) (by omega)
 have hw : w64 (m.i + 1) = m.i + 1 := wrap_id (by omega) (by omega)
 have hphi : phi m ws = 2 * ((curO m).n - m.i).toNat + oS (m.objs.drop (m.att.toNat + 1)) + m.c.T.toNat + 3 := by unfold phi; simp [hn]
 refine ⟨2 * ((curO m).n - m.i).toNat - 1 + oS (m.objs.drop (m.att.toNat + 1)) + m.c.T.toNat + 3, by rw [hphi]; omega, ?_⟩
 unfold layM
 rw [hw]
 by_cases hc : m.i + 1 < (curO m).n
 ·rw [if_pos hc]
  refine good_on (m := { m with i := m.i + 1 }) ?_ (by decide) ?_
  ·exact ⟨⟨h.wf.may, by simp, fun hh => by simp at hh, h.wf.objs, h.wf.at_, fun _ _ => hl, fun hh => by simp at hh⟩, h.wl, h.size, fun hh => by simp at hh, fun hh => by simp at hh, fun hh => by simp at hh, fun hh => by simp at hh, fun _ _ => ⟨by show 0 ≤ m.i + 1; omega, by show m.i + 1 < (curO m).n; omega⟩, h.few, fun hh => by simp at hh⟩
  ·unfold phi
   simp
   show 2 * ((curO m).n - (m.i + 1)).toNat + 1 ≤ _
   omega
 ·rw [if_neg hc]
  refine good_on (m := { m with i := m.i + 1 }) ?_ (by decide) ?_
  ·exact ⟨⟨h.wf.may, by simp, fun hh => by simp at hh, h.wf.objs, h.wf.at_, fun _ _ => hl, fun hh => by simp at hh⟩, h.wl, h.size, fun hh => by simp at hh, fun hh => by simp at hh, fun hh => by simp at hh, fun hh => by simp at hh, fun _ hh => by simp at hh, h.few, fun hh => by simp at hh⟩
  ·unfold phi
   simp
   omega

theorem step_store (h : Al ws m) (hn : m.next = 9) : ∃ b, phi m ws = b + 1 ∧ Good (storeM m ws (curO m)).2 (storeM m ws (curO m)).1 b := by
 have hl := h.wf.look (by omega) (by omega)
 have hphi : phi m ws = 1 + oS (m.objs.drop (m.att.toNat + 1)) + m.c.T.toNat + 3 := by unfold phi; simp [hn]
 refine ⟨oS (m.objs.drop (m.att.toNat + 1)) + m.c.T.toNat + 3, by rw [hphi]; omega, ?_⟩
 unfold storeM
 exact passed_good (m := { m with dest := w64 (m.dest + (curO m).n), moved := w64 (m.moved + 1) }) h.wf.may (by rw [setI_len]; exact h.wl) h.size h.wf.objs h.few h.wf.at_ hl (Nat.le_refl _)

theorem step_turn (h : Al ws m) (hn : m.next = 10) : ∃ b, phi m ws = b + 1 ∧ Good (turnM m (m.turn.getD ⟨0, 0, 0⟩) ws).2 (turnM m (m.turn.getD ⟨0, 0, 0⟩) ws).1 b := by
 obtain ⟨t, ht, hq⟩ := h.turn hn
 have hm' := h.wf.may
 unfold Cfg.may at hm'
 have hw0 : 5 ≤ wordsI m.c := by unfold wordsI; omega
 have hwl : (ws.length : Int) = wordsI m.c := by rw [h.wl]; omega
 have on : ∀ (ws' : List Int) (t' : Tn) (b : Nat), ws'.length = ws.length → ((t'.nx = 1 ∧ t'.ak = 0) ∨ (t'.nx = 2 ∧ t'.ak = 0 ∧ getI ws' 3 = t'.ep) ∨ (t'.nx = 3 ∧ 0 ≤ t'.ak ∧ t'.ak < m.c.T)) →
   (if t'.nx = 1 then m.c.T.toNat + 3 else if t'.nx = 2 then m.c.T.toNat + 2 else (m.c.T - t'.ak).toNat + 1) ≤ b → Good ws' (onM { m with turn := some t' } 10) b := fun ws' t' b e1 e2 e3 => by
  refine good_on (m := { m with turn := some t' }) ?_ (by decide) ?_
  ·exact ⟨⟨h.wf.may, by simp, fun hh => by simp at hh, h.wf.objs, h.wf.at_, fun _ hh => by simp at hh, fun _ => by simp⟩, by rw [e1]; exact h.wl, h.size, fun hh => by simp at hh, fun hh => by simp at hh, fun hh => by simp at hh, fun hh => by simp at hh, fun _ hh => by simp at hh, h.few, fun _ => ⟨t', rfl, e2⟩⟩
  ·unfold phi
   simp only [show (10 : Int) ≠ 1 from by decide, show (10 : Int) ≠ 2 from by decide, show (10 : Int) ≠ 3 from by decide, show (10 : Int) ≠ 4 from by decide, show (10 : Int) ≠ 5 from by decide, show (10 : Int) ≠ 6 from by decide, show (10 : Int) ≠ 7 from by decide, show (10 : Int) ≠ 8 from by decide, show (10 : Int) ≠ 9 from by decide, if_false, if_true]
   exact e3
 have hphi : phi m ws = if t.nx = 1 then m.c.T.toNat + 3 else if t.nx = 2 then m.c.T.toNat + 2 else (m.c.T - t.ak).toNat + 1 := by unfold phi; simp [hn, ht]
 rw [ht]
 show ∃ b, phi m ws = b + 1 ∧ Good (turnM m t ws).2 (turnM m t ws).1 b
 rw [hphi]
 rcases hq with ⟨q, qa⟩ | ⟨q, qa, qe⟩ | ⟨q, qa, qb⟩
 ·refine ⟨m.c.T.toNat + 2, by rw [if_pos q], ?_⟩
  have e : tnStep m.c t ws = (({ t with ep := getI ws 3, nx := 2 }, false, false), ws) := by unfold tnStep; rw [if_neg (by omega), if_pos q]
  unfold turnM
  rw [e]
  exact on ws { t with ep := getI ws 3, nx := 2 } _ rfl (.inr (.inl ⟨rfl, qa, rfl⟩)) (by show m.c.T.toNat + 2 ≤ _; omega)
 ·refine ⟨m.c.T.toNat + 1, by rw [if_neg (by omega), if_pos q], ?_⟩
  have hcas : casB ws 3 t.ep = true := casB_at (by omega) (by omega) qe
  have e : tnStep m.c t ws = (({ t with nx := 3 }, false, false), setI ws 3 (w64 (t.ep + 1))) := by unfold tnStep; rw [if_neg (by omega), if_neg (by omega), if_pos q, hcas]; rfl
  unfold turnM
  rw [e]
  exact on (setI ws 3 (w64 (t.ep + 1))) { t with nx := 3 } _ (setI_len ..) (.inr (.inr ⟨rfl, by show 0 ≤ t.ak; omega, by show t.ak < m.c.T; omega⟩)) (by show (m.c.T - t.ak).toNat + 1 ≤ _; omega)
 ·refine ⟨(m.c.T - t.ak).toNat, by rw [if_neg (by omega), if_neg (by omega)], ?_⟩
  have hw : w64 (t.ak + 1) = t.ak + 1 := wrap_id (by omega) (by omega)
  by_cases hc : olderB (getI ws (noteI m.c t.ak)) (w64 (t.ep + 1)) = true ∨ w64 (t.ak + 1) = m.c.T
  ·have e : tnStep m.c t ws = (({ t with ak := w64 (t.ak + 1), nx := 0 }, !olderB (getI ws (noteI m.c t.ak)) (w64 (t.ep + 1)), true), ws) := by unfold tnStep; rw [if_neg (by omega), if_neg (by omega), if_neg (by omega), if_pos q, if_pos hc]
   unfold turnM
   rw [e]
   simp only [Bool.true_eq_false, if_false]
   cases olderB (getI ws (noteI m.c t.ak)) (w64 (t.ep + 1)) with
   | true => exact good_end
   | false =>
     refine good_on (m := { m with turn := some { t with ak := w64 (t.ak + 1), nx := 0 } }) ?_ (by decide) ?_
     ·exact ⟨⟨h.wf.may, by simp, fun hh => by simp at hh, h.wf.objs, h.wf.at_, fun _ hh => by simp at hh, fun hh => by simp at hh⟩, h.wl, h.size, fun hh => by simp at hh, fun hh => by simp at hh, fun hh => by simp at hh, fun hh => by simp at hh, fun _ hh => by simp at hh, h.few, fun hh => by simp at hh⟩
     ·unfold phi
      simp
      omega
  ·have e : tnStep m.c t ws = (({ t with ak := w64 (t.ak + 1) }, false, false), ws) := by unfold tnStep; rw [if_neg (by omega), if_neg (by omega), if_neg (by omega), if_pos q, if_neg hc]
   have hne : t.ak + 1 ≠ m.c.T := fun g => hc (.inr (by rw [hw]; exact g))
   unfold turnM
   rw [e, hw]
   exact on ws { t with ak := t.ak + 1 } _ rfl (.inr (.inr ⟨q, by show 0 ≤ t.ak + 1; omega, by show t.ak + 1 < m.c.T; omega⟩)) (by show (if t.nx = 1 then _ else if t.nx = 2 then _ else (m.c.T - (t.ak + 1)).toNat + 1) ≤ _; rw [if_neg (by omega), if_neg (by omega)]; omega)

theorem step_good (bs : List Int) (h : Al ws m) (h0 : m.next ≠ 0) : ∃ b, phi m ws = b + 1 ∧ Good (stepM m ws bs).2.1 (stepM m ws bs).1 b := by
 have hn := h.wf.next
 unfold stepM
 by_cases h1 : m.next = 1
 ·rw [if_pos h1]; exact step_front h h1 _
 by_cases h2 : m.next = 2
 ·rw [if_neg h1, if_pos h2]; exact step_pend h h2
 by_cases h3 : m.next = 3
 ·rw [if_neg h1, if_neg h2, if_pos h3]; exact step_scan h h3
 by_cases h4 : m.next = 4
 ·rw [if_neg h1, if_neg h2, if_neg h3, if_pos h4]; exact step_measure h h4
 by_cases h5 : m.next = 5
 ·rw [if_neg h1, if_neg h2, if_neg h3, if_neg h4, if_pos h5]; exact step_look h h5
 by_cases h6 : m.next = 6
 ·rw [if_neg h1, if_neg h2, if_neg h3, if_neg h4, if_neg h5, if_pos h6]; exact step_lock h h6
 by_cases h7 : m.next = 7
 ·rw [if_neg h1, if_neg h2, if_neg h3, if_neg h4, if_neg h5, if_neg h6, if_pos h7]; exact step_load h h7 _
 by_cases h8 : m.next = 8
 ·rw [if_neg h1, if_neg h2, if_neg h3, if_neg h4, if_neg h5, if_neg h6, if_neg h7, if_pos h8]; exact step_lay h h8 bs
 by_cases h9 : m.next = 9
 ·rw [if_neg h1, if_neg h2, if_neg h3, if_neg h4, if_neg h5, if_neg h6, if_neg h7, if_neg h8, if_pos h9]; exact step_store h h9
 by_cases ha : m.next = 10
 ·rw [if_neg h1, if_neg h2, if_neg h3, if_neg h4, if_neg h5, if_neg h6, if_neg h7, if_neg h8, if_neg h9, if_pos ha]; exact step_turn h ha
 ·rw [if_neg h1, if_neg h2, if_neg h3, if_neg h4, if_neg h5, if_neg h6, if_neg h7, if_neg h8, if_neg h9, if_neg ha]
  have hb : m.next = 11 := by omega
  exact ⟨0, by unfold phi; simp [hb], good_end⟩
end
end Go.Proofs.YtfpfknafcgkcjaaGreat

/- A new pass. -/
set_option linter.unusedVariables false
set_option linter.unusedSimpArgs false
namespace Go.Proofs.YtfpfknafcgkcjaaGreat
open Go Go.Ir

def mc0 (c : Cfg) : Mc := ⟨c, 1, 0, 0, Ent.zero, [], fun _ => 0, 0, 0, 0, 0, 0, 0, none, false⟩
abbrev nilS : Value := .slice none 0 0
abbrev nilP : Value := .pointer none

theorem newM_spec (lo : Nat) (H : Heap) {c : Cfg} (hm : c.may) : callR En lo Id.compact_New [.agg c.cs.toArray] H = some (ptrB H.length, H ++ [.row (mrow (mc0 c) nilS nilP) false]) := by
 have hO := fun lo => of_spec' lo H hm
 refine call_of rfl Fn.compact_New rfl rfl ?_
 repeat' (first | (show ER _ _ _ _ _ _ _; first | refine .seq ?_ | refine .reg ?_ | refine .yes rfl ?_ | refine .no rfl ?_ | refine .skip ?_ | refine .block ?_ | refine .endB ?_ | refine .exit rfl ?_ | refine .br rfl (fun hc => ?_) (fun hc => ?_) | refine .scope ?_ | refine .inScope ?_ | refine .label ?_ | refine .ret rfl ?_ | refine .nil rfl ?_) | (show EG _ _ _ _ _ _ _ _ _; first | refine .mov rfl rfl ?_ | refine .lload rfl rfl rfl rfl ?_ | refine .laddr rfl rfl rfl ?_ | (show EG _ _ (⟨_, .bin _ _ _, _, _⟩ :: _) _ _ _ _ _ _; first | refine .lss rfl rfl rfl (fun hc => ?_) (fun hc => ?_) | refine .leq rfl rfl rfl (fun hc => ?_) (fun hc => ?_) | refine .gtr rfl rfl rfl (fun hc => ?_) (fun hc => ?_) | refine .geq rfl rfl rfl (fun hc => ?_) (fun hc => ?_) | refine .eql rfl rfl rfl (fun hc => ?_) (fun hc => ?_) | refine .neqT rfl rfl rfl (by omega) ?_ | refine .neqF rfl rfl rfl (by omega) ?_) | refine .call rfl rfl (hO _) ?_ | refine .skip rfl ?_ | refine .fin ?_ | refine .go rfl rfl rfl ?_ | refine .gono rfl rfl rfl ?_ | refine .skipn rfl ?_))
 rfl

theorem mc0_at (H : Heap) (c : Cfg) : McAt (H ++ [.row (mrow (mc0 c) nilS nilP) false]) [H.length] H.length (mc0 c) nilS nilP := by
 refine ⟨List.getElem?_concat_length, .inl ⟨rfl, rfl⟩, .inl ⟨rfl, rfl⟩, by simp, fun b hb => ?_⟩
 simp at hb
 simp [hb]

theorem IsC.app {H : Heap} {cb : CB} {ws bs : List Int} (h : IsC H cb ws bs) (k : List Blk) : IsC (H ++ k) cb ws bs := h.chg (S := []) ((Chg.refl [] H).app k) (by simp)

theorem mc0_disj {H : Heap} {cb : CB} {ws bs : List Int} (h : IsC H cb ws bs) : Disj [H.length] cb := fun b hb => by
 simp at hb
 subst hb
 have h1 := hlt_of h.p.choose_spec
 have h2 := hlt_of h.w
 have h3 := hlt_of h.y
 omega

theorem mc0_wf {c : Cfg} (hm : c.may) : (mc0 c).wf := by
 have hm' := hm
 unfold Cfg.may at hm'
 exact ⟨hm, by show (0 : Int) ≤ 1 ∧ (1 : Int) ≤ 11; omega, fun _ => ⟨rfl, by show (0 : Int) ≤ 0; omega, by show (0 : Int) < c.S; omega, by show (((([] : List Obj).length : Nat)) : Int) ≤ 0; simp⟩, fun o ho => (by cases ho), by show (0 : Int) ≤ 0; omega, fun h => (by have h : (5 : Int) ≤ 1 := h; omega), fun h => (by have h : (1 : Int) = 10 := h; omega)⟩

theorem mc0_al {c : Cfg} {ws : List Int} (hm : c.may) (wl : ws.length = (wordsI c).toNat) : Al ws (mc0 c) :=
 ⟨mc0_wf hm, wl, fun o ho => (by cases ho), fun _ => ⟨rfl, rfl⟩, fun _ => rfl, fun h => (by have h : (1 : Int) = 4 := h; omega), fun h => (by have h : (1 : Int) = 6 := h; omega), fun h => (by have h : (7 : Int) ≤ 1 := h; omega), by show ([] : List Obj).length ≤ 64; simp, fun h => (by have h : (1 : Int) = 10 := h; omega)⟩

def runM : Nat → Mc → List Int → List Int → Option Int × Nat × Mc × List Int × List Int
 | 0, m, ws, bs => (none, 0, m, ws, bs)
 | k + 1, m, ws, bs =>
   match (stepM m ws bs).1.2 with
   | some n => (some n, 1, (stepM m ws bs).1.1, (stepM m ws bs).2)
   | none => ((runM k (stepM m ws bs).1.1 (stepM m ws bs).2.1 (stepM m ws bs).2.2).1, (runM k (stepM m ws bs).1.1 (stepM m ws bs).2.1 (stepM m ws bs).2.2).2.1 + 1, (runM k (stepM m ws bs).1.1 (stepM m ws bs).2.1 (stepM m ws bs).2.2).2.2)

theorem run_ends (k : Nat) : ∀ (m : Mc) (ws bs : List Int), Al ws m → m.next ≠ 0 → phi m ws ≤ k → (∃ n, (runM k m ws bs).1 = some n) ∧ (runM k m ws bs).2.1 ≤ phi m ws := by
 induction k with
 | zero =>
   intro m ws bs h h0 hp
   obtain ⟨b, hb, _⟩ := step_good bs h h0
   omega
 | succ k ih =>
   intro m ws bs h h0 hp
   obtain ⟨b, hb, hg⟩ := step_good bs h h0
   unfold runM
   cases hr : (stepM m ws bs).1.2 with
   | some n => exact ⟨⟨n, rfl⟩, by show 1 ≤ _; omega⟩
   | none =>
     have g := hg.1 hr
     have i := ih _ _ (stepM m ws bs).2.2 g.1 g.2.1 (by omega)
     refine ⟨i.1, ?_⟩
     show _ + 1 ≤ _
     have := i.2
     omega

theorem Disj.grow {own own' : List Nat} {cb : CB} {H : Heap} {ws bs : List Int} (d : Disj own cb) (hC : IsC H cb ws bs) (h : ∀ b ∈ own', b ∈ own ∨ H.length ≤ b) : Disj own' cb := fun b hb => by
 rcases h b hb with g | g
 ·exact d b g
 ·have h1 := hlt_of hC.p.choose_spec
  have h2 := hlt_of hC.w
  have h3 := hlt_of hC.y
  omega

theorem Chg.grow {own own' : List Nat} {cb : CB} {H H1 H2 : Heap} (a : Chg (cellsS own cb) H H1) (b : Chg (cellsS own' cb) H1 H2) (h : ∀ b ∈ own', b ∈ own ∨ H.length ≤ b) : Chg (cellsS own cb) H H2 :=
 ⟨Nat.le_trans a.len b.len, fun j hj hn => (b.same j (Nat.lt_of_lt_of_le hj a.len) fun hm => by
   rcases List.mem_append.1 hm with g | g
   ·rcases h j g with e | e
    ·exact hn (List.mem_append_left _ e)
    ·omega
   ·exact hn (List.mem_append_right _ g)).trans (a.same j hj hn)⟩
end Go.Proofs.YtfpfknafcgkcjaaGreat

/- Words set, words read. Plain. -/
set_option linter.unusedVariables false
set_option linter.unusedSimpArgs false
namespace Go.Proofs.YtfpfknafcgkcjaaGreat
open Go Go.Ir

theorem getI_same {ws : List Int} {i n : Int} (h0 : 0 ≤ i) (h1 : i < ws.length) : getI (setI ws i n) i = n := by
 unfold getI
 rw [setI_len, if_pos ⟨h0, h1⟩]
 unfold setI
 rw [if_pos ⟨h0, h1⟩, List.getD_eq_getElem?_getD, List.getElem?_set_self (by omega)]; rfl
theorem getI_ne {ws : List Int} {i j n : Int} (h : i ≠ j) : getI (setI ws i n) j = getI ws j := by
 unfold getI
 rw [setI_len]
 split
 ·unfold setI
  split
  ·rw [List.getD_eq_getElem?_getD, List.getElem?_set_ne (by omega), ← List.getD_eq_getElem?_getD]
  ·rfl
 ·rfl
theorem getI_nat {ws : List Int} {k : Nat} {v : Int} (h : ws[k]? = some v) : getI ws k = v := by
 obtain ⟨h1, h2⟩ := List.getElem?_eq_some_iff.1 h
 unfold getI
 rw [if_pos ⟨by omega, by omega⟩, List.getD_eq_getElem?_getD, show ((k : Nat) : Int).toNat = k by omega, h]; rfl

theorem pot_zero {c : Cfg} {ws : List Int} {s : Int} (h : getI ws (slotI c s 0) = 0) : pot c ws s = 0 := by
 unfold pot
 rw [h, show unpackE 0 = some Ent.zero from by decide]
 simp only
 rw [if_neg (fun h => by simp [Ent.zero] at h)]
theorem start_slot {c : Cfg} (hm : c.may) {s : Int} (h0 : 0 ≤ s) (h1 : s < c.S) : getI (startL c) (slotI c s 0) = 0 := by
 have hsl := slotI_lt hm h0 h1 (k := 0) (by omega)
 unfold Cfg.may at hm
 rw [hsl.1]
 refine Exists.elim (show ∃ k : Nat, 4 + c.T + 3 * s + 0 = k from ⟨(4 + c.T + 3 * s + 0).toNat, by omega⟩) fun k hk => ?_
 rw [hk]
 refine getI_nat ?_
 unfold startL
 rw [List.getElem?_set_ne (by omega), partL_get c _ (by omega)]
 unfold partW
 rw [if_neg (by omega)]
end Go.Proofs.YtfpfknafcgkcjaaGreat

/- A pass alone, run: the law's run. -/
set_option linter.unusedVariables false
set_option linter.unusedSimpArgs false
namespace Go.Proofs.YtfpfknafcgkcjaaGreat
open Go Go.Ir

def runV (r : Option Int) (n : Int) : Value := match r with
 | some k => .tuple #[.agg #[I 0, I k], I n]
 | none => .tuple #[.agg #[I (-1), I 0], I n]

def RunQ (H : Heap) (own : List Nat) (M : Nat) (cb : CB) (q : Option Int × Nat × Mc × List Int × List Int) (most : Nat) (v : Value) (H' : Heap) : Prop :=
 v = runV q.1 (if q.1 = none then (most : Int) else (q.2.1 : Int)) ∧ (∃ own' ov' tv', McAt H' own' M q.2.2.1 ov' tv' ∧ ∀ b ∈ own', b ∈ own ∨ H.length ≤ b) ∧ IsC H' cb q.2.2.2.1 q.2.2.2.2 ∧ Chg (cellsS own cb) H H'

theorem run_spec {Inv : Mc → List Int → List Int → Prop} (hI : ∀ m ws bs, Inv m ws bs → m.wf ∧ m.next ≠ 0 ∧ ((stepM m ws bs).1.2 = none → Inv (stepM m ws bs).1.1 (stepM m ws bs).2.1 (stepM m ws bs).2.2))
  {H : Heap} {own : List Nat} {M : Nat} {m : Mc} {ov tv : Value} {cb : CB} {ws bs : List Int} (h : McAt H own M m ov tv) (hC : IsC H cb ws bs) (d : Disj own cb) (hi : Inv m ws bs) (most : Nat) (hmost : most ≤ 100000) :
  ∃ v H', callR En 0 Id.sidingslaw18_run [ptrC cb, ptrB M, I most] H = some (v, H') ∧ RunQ H own M cb (runM most m ws bs) most v H' := by
 refine call_ex rfl Fn.sidingslaw18_run rfl rfl ?_
 repeat' (first | (show ER _ _ _ _ _ _ _; first | refine .seq ?_ | refine .reg ?_ | refine .yes rfl ?_ | refine .no rfl ?_ | refine .skip ?_ | refine .block ?_ | refine .endB ?_ | refine .exit rfl ?_ | refine .br rfl (fun hc => ?_) (fun hc => ?_) | refine .scope ?_ | refine .inScope ?_ | refine .label ?_ | refine .ret rfl ?_ | refine .nil rfl ?_) | (show EG _ _ _ _ _ _ _ _ _; first | refine .mov rfl rfl ?_ | refine .lload rfl rfl rfl rfl ?_ | refine .laddr rfl rfl rfl ?_ | (show EG _ _ (⟨_, .bin _ _ _, _, _⟩ :: _) _ _ _ _ _ _; first | refine .lss rfl rfl rfl (fun hc => ?_) (fun hc => ?_) | refine .leq rfl rfl rfl (fun hc => ?_) (fun hc => ?_) | refine .gtr rfl rfl rfl (fun hc => ?_) (fun hc => ?_) | refine .geq rfl rfl rfl (fun hc => ?_) (fun hc => ?_) | refine .eql rfl rfl rfl (fun hc => ?_) (fun hc => ?_) | refine .neq rfl rfl rfl (fun hc => ?_) (fun hc => ?_)) | refine .skip rfl ?_ | refine .fin ?_ | refine .go rfl rfl rfl ?_ | refine .gono rfl rfl rfl ?_ | refine .skipn rfl ?_))
 refine .loop (fun n f H1 => ∃ (j : Nat) (m1 : Mc) (ws1 bs1 : List Int) (own1 : List Nat) (ov1 tv1 : Value), n + j = most ∧ f = [(0, ptrC cb), (1, ptrB M), (2, N most), (6, .agg #[I 0, I 0]), (8, N (j + 1))] ∧ McAt H1 own1 M m1 ov1 tv1 ∧ IsC H1 cb ws1 bs1 ∧ Inv m1 ws1 bs1 ∧ (∀ b ∈ own1, b ∈ own ∨ H.length ≤ b) ∧ Chg (cellsS own cb) H H1 ∧
   (runM most m ws bs).1 = (runM n m1 ws1 bs1).1 ∧ (runM most m ws bs).2.1 = (runM n m1 ws1 bs1).2.1 + j ∧ (runM most m ws bs).2.2 = (runM n m1 ws1 bs1).2.2) (n := most)
  ⟨0, m, ws, bs, own, ov, tv, rfl, rfl, h, hC, hi, fun b hb => .inl hb, Chg.refl _ _, rfl, rfl, rfl⟩ ?_
 rintro n f H1 ⟨j, m1, ws1, bs1, own1, ov1, tv1, hn, rfl, h1, hC1, hi1, ho1, hc1, r1, r2, r3⟩ next
 cases n with
 | zero =>
   repeat' (first | (show ER _ _ _ _ _ _ _; first | refine .seq ?_ | refine .reg ?_ | refine .yes rfl ?_ | refine .no rfl ?_ | refine .skip ?_ | refine .block ?_ | refine .endB ?_ | refine .exit rfl ?_ | refine .br rfl (fun hc => ?_) (fun hc => ?_) | refine .scope ?_ | refine .inScope ?_ | refine .label ?_ | refine .ret rfl ?_ | refine .nil rfl ?_) | (show EG _ _ _ _ _ _ _ _ _; first | refine .mov rfl rfl ?_ | refine .lload rfl rfl rfl rfl ?_ | refine .laddr rfl rfl rfl ?_ | (show EG _ _ (⟨_, .bin _ _ _, _, _⟩ :: _) _ _ _ _ _ _; first | refine .lss rfl rfl rfl (fun hc => ?_) (fun hc => ?_) | refine .leqT rfl rfl rfl (by omega) ?_ | refine .leqF rfl rfl rfl (by omega) ?_ | refine .gtr rfl rfl rfl (fun hc => ?_) (fun hc => ?_) | refine .geq rfl rfl rfl (fun hc => ?_) (fun hc => ?_) | refine .eql rfl rfl rfl (fun hc => ?_) (fun hc => ?_) | refine .neq rfl rfl rfl (fun hc => ?_) (fun hc => ?_)) | refine .skip rfl ?_ | refine .fin ?_ | refine .go rfl rfl rfl ?_ | refine .gono rfl rfl rfl ?_ | refine .skipn rfl ?_))
   refine ⟨?_, ⟨own1, ov1, tv1, ?_, ho1⟩, ?_, hc1⟩
   ·rw [r1]; rfl
   ·rw [r3]; exact h1
   ·rw [r3]; exact hC1
 | succ n =>
   have hv := hI _ _ _ hi1
   have d1 := d.grow hC ho1
   refine Exists.elim (step_spec (lo := 0) h1 hv.1 hC1 d1 (fun _ _ => Nat.zero_le _) ⟨Nat.zero_le _, Nat.zero_le _, Nat.zero_le _⟩ hv.2.1) fun v hq => Exists.elim hq fun H2 hq => ?_
   have hS := hq.1
   obtain ⟨⟨hv1, own2, ov2, tv2, h2, hc2, ho2⟩, hC2⟩ := hq.2
   clear hq
   subst hv1
   have ho3 : ∀ b ∈ own2, b ∈ own ∨ H.length ≤ b := fun b hb => by
    rcases ho2 b hb with g | g
    ·exact ho1 b g
    ·exact .inr (Nat.le_trans hc1.len g)
   have hc3 := hc1.grow hc2 ho1
   cases hr : (stepM m1 ws1 bs1).1.2 with
   | some k =>
     rw [hr] at hS
     unfold resV at hS
     have e1 : (runM (n + 1) m1 ws1 bs1) = (some k, 1, (stepM m1 ws1 bs1).1.1, (stepM m1 ws1 bs1).2) := by unfold runM; rw [hr]
     rw [e1] at r1 r2 r3
     repeat' (first | (show ER _ _ _ _ _ _ _; first | refine .seq ?_ | refine .reg ?_ | refine .yes rfl ?_ | refine .no rfl ?_ | refine .skip ?_ | refine .block ?_ | refine .endB ?_ | refine .exit rfl ?_ | refine .br rfl (fun hc => ?_) (fun hc => ?_) | refine .scope ?_ | refine .inScope ?_ | refine .label ?_ | refine .ret rfl ?_ | refine .nil rfl ?_) | (show EG _ _ _ _ _ _ _ _ _; first | refine .mov rfl rfl ?_ | refine .lload rfl rfl rfl rfl ?_ | refine .laddr rfl rfl rfl ?_ | (show EG _ _ (⟨_, .bin _ _ _, _, _⟩ :: _) _ _ _ _ _ _; first | refine .lss rfl rfl rfl (fun hc => ?_) (fun hc => ?_) | refine .leqT rfl rfl rfl (by omega) ?_ | refine .leqF rfl rfl rfl (by omega) ?_ | refine .gtr rfl rfl rfl (fun hc => ?_) (fun hc => ?_) | refine .geq rfl rfl rfl (fun hc => ?_) (fun hc => ?_) | refine .eql rfl rfl rfl (fun hc => ?_) (fun hc => ?_) | refine .neq rfl rfl rfl (fun hc => ?_) (fun hc => ?_)) | refine .call rfl rfl (hS) ?_ | refine .skip rfl ?_ | refine .fin ?_ | refine .go rfl rfl rfl ?_ | refine .gono rfl rfl rfl ?_ | refine .skipn rfl ?_))
     refine ⟨?_, ⟨own2, ov2, tv2, ?_, ho3⟩, ?_, hc3⟩
     ·rw [r1, r2, if_neg (by simp)]
      show _ = runV (some k) _
      unfold runV
      rw [show ((1 + j : Nat) : Int) = ((j + 1 : Nat) : Int) by omega]
      rfl
     ·rw [r3]; exact h2
     ·rw [r3]; exact hC2
   | none =>
     rw [hr] at hS
     unfold resV at hS
     have e1 : (runM (n + 1) m1 ws1 bs1) = ((runM n (stepM m1 ws1 bs1).1.1 (stepM m1 ws1 bs1).2.1 (stepM m1 ws1 bs1).2.2).1, (runM n (stepM m1 ws1 bs1).1.1 (stepM m1 ws1 bs1).2.1 (stepM m1 ws1 bs1).2.2).2.1 + 1, (runM n (stepM m1 ws1 bs1).1.1 (stepM m1 ws1 bs1).2.1 (stepM m1 ws1 bs1).2.2).2.2) := by rw [runM, hr]
     rw [e1] at r1 r2 r3
     repeat' (first | (show ER _ _ _ _ _ _ _; first | refine .seq ?_ | refine .reg ?_ | refine .yes rfl ?_ | refine .no rfl ?_ | refine .skip ?_ | refine .block ?_ | refine .endB ?_ | refine .exit rfl ?_ | refine .br rfl (fun hc => ?_) (fun hc => ?_) | refine .scope ?_ | refine .inScope ?_ | refine .label ?_ | refine .ret rfl ?_ | refine .nil rfl ?_) | (show EG _ _ _ _ _ _ _ _ _; first | refine .mov rfl rfl ?_ | refine .lload rfl rfl rfl rfl ?_ | refine .laddr rfl rfl rfl ?_ | (show EG _ _ (⟨_, .bin _ _ _, _, _⟩ :: _) _ _ _ _ _ _; first | refine .lss rfl rfl rfl (fun hc => ?_) (fun hc => ?_) | refine .leqT rfl rfl rfl (by omega) ?_ | refine .leqF rfl rfl rfl (by omega) ?_ | refine .gtr rfl rfl rfl (fun hc => ?_) (fun hc => ?_) | refine .geq rfl rfl rfl (fun hc => ?_) (fun hc => ?_) | refine .eql rfl rfl rfl (fun hc => ?_) (fun hc => ?_) | refine .neq rfl rfl rfl (fun hc => ?_) (fun hc => ?_) | refine .addN rfl rfl rfl (by omega) ?_ | refine .addN (b := 1) rfl rfl rfl (by omega) ?_ | refine .subN rfl rfl rfl (by omega) ?_ | refine .subN (b := 1) rfl rfl rfl (by omega) ?_) | refine .call rfl rfl (hS) ?_ | refine .skip rfl ?_ | refine .fin ?_ | refine .go rfl rfl rfl ?_ | refine .gono rfl rfl rfl ?_ | refine .skipn rfl ?_))
     exact next n _ _ (by omega) ⟨j + 1, _, _, _, own2, ov2, tv2, by omega, rfl, h2, hC2, hv.2.2 hr, ho3, hc3, r1, by rw [r2]; show _ + 1 + j = _ + (j + 1); omega, r3⟩
end Go.Proofs.YtfpfknafcgkcjaaGreat

