/- The document's calls are the program's. Plain. -/
import Derived.Test.YtgdlplhglpinaaaEventP
import Derived.Test.YtgdlplhglpinaaaEventQ

set_option linter.unusedVariables false
set_option linter.unusedSimpArgs false
namespace Go.Proofs.Ytgdlplhglpinaaa
open Go Go.Ir

def cntE (t : Int) (p : List Ev) : Nat := p.countP (fun e => e.th == t)
def okR (p : List Ev) (e : Ev) : Bool := decide (0 ≤ e.th) && decide (e.th < 4) && (e.bk == decide (cntE e.th p % 2 = 1)) && (if e.bk then e.zo else e.zr)
def okAll (l : List Ev) : Prop := ∀ (i : Nat) (e : Ev), l[i]? = some e → okR (l.take i) e = true

def ansAt (t : Int) : List Ev → Nat → Nat
  | [], j => j
  | e :: r, j => if e.th = t then j else ansAt t r (j + 1)
def answerE (l : List Ev) (t : Int) (a : Nat) : Nat := ansAt t (l.drop (a + 1)) (a + 1)

def mkC (n : Nat) (p : List Ev) (a : Nat) (e : Ev) : Cl :=
  match p[answerE p e.th a]? with
  | some b => ⟨e.th, e.d, e.h, e.o, e.n, b.rc, b.rn, true, a, answerE p e.th a⟩
  | none => ⟨e.th, e.d, e.h, e.o, e.n, 0, 0, false, a, n⟩
def pickC (n : Nat) (p : List Ev) (a : Nat) : List Cl :=
  match p[a]? with
  | some e => if e.bk then [] else [mkC n p a e]
  | none => []
def callsD (n : Nat) (p : List Ev) (i : Nat) : List Cl := (List.range i).flatMap (pickC n p)

theorem callsD_succ (n : Nat) (p : List Ev) (i : Nat) : callsD n p (i + 1) = callsD n p i ++ pickC n p i := by
  simp [callsD, List.range_succ]

theorem cntE_app (t : Int) (p : List Ev) (e : Ev) : cntE t (p ++ [e]) = cntE t p + (if e.th = t then 1 else 0) := by
  simp [cntE, List.countP_append, List.countP_singleton]

theorem okAll_app (p : List Ev) (e : Ev) : okAll (p ++ [e]) ↔ okAll p ∧ okR p e = true := by
  constructor
  · intro h
    refine ⟨fun i x hx => ?_, ?_⟩
    · have hi := (List.getElem?_eq_some_iff.1 hx).1
      have := h i x (by rw [List.getElem?_append_left hi]; exact hx)
      rwa [List.take_append_of_le_length (by omega)] at this
    · have := h p.length e List.getElem?_concat_length
      rwa [List.take_append_of_le_length (Nat.le_refl _), List.take_length] at this
  · rintro ⟨h1, h2⟩ i x hx
    by_cases hi : i < p.length
    · rw [List.getElem?_append_left hi] at hx
      rw [List.take_append_of_le_length (by omega)]
      exact h1 i x hx
    · have hil := (List.getElem?_eq_some_iff.1 hx).1
      simp at hil
      have : i = p.length := by omega
      subst this
      rw [List.getElem?_concat_length] at hx
      injection hx with hx
      subst hx
      rw [List.take_append_of_le_length (Nat.le_refl _), List.take_length]
      exact h2

theorem ansAt_le (t : Int) : ∀ (r : List Ev) (j : Nat), j ≤ ansAt t r j ∧ ansAt t r j ≤ j + r.length
  | [], j => by simp [ansAt]
  | e :: r, j => by
    unfold ansAt
    have := ansAt_le t r (j + 1)
    split <;> simp <;> omega

theorem ansAt_app (t : Int) (e : Ev) : ∀ (r : List Ev) (j : Nat), ansAt t (r ++ [e]) j = if ansAt t r j < j + r.length then ansAt t r j else if e.th = t then j + r.length else j + r.length + 1
  | [], j => by simp [ansAt]
  | x :: r, j => by
    have ih := ansAt_app t e r (j + 1)
    have e1 : ansAt t (x :: r ++ [e]) j = if x.th = t then j else ansAt t (r ++ [e]) (j + 1) := rfl
    have e2 : ansAt t (x :: r) j = if x.th = t then j else ansAt t r (j + 1) := rfl
    by_cases hx : x.th = t
    · rw [if_pos hx] at e1 e2
      rw [e1, e2, if_pos (by simp)]
    · rw [if_neg hx] at e1 e2
      rw [e1, e2, ih, List.length_cons, show j + 1 + r.length = j + (r.length + 1) by omega]

theorem answer_app {p : List Ev} {t : Int} {a : Nat} {e : Ev} (ha : a < p.length) : answerE (p ++ [e]) t a = if answerE p t a < p.length then answerE p t a else if e.th = t then p.length else p.length + 1 := by
  unfold answerE
  rw [List.drop_append_of_le_length (by omega), ansAt_app, List.length_drop, show a + 1 + (p.length - (a + 1)) = p.length by omega]

theorem answer_le {p : List Ev} {t : Int} {a : Nat} (ha : a < p.length) : a < answerE p t a ∧ answerE p t a ≤ p.length := by
  have := ansAt_le t (p.drop (a + 1)) (a + 1)
  rw [List.length_drop] at this
  unfold answerE
  omega

def updC (e : Ev) (i : Nat) (c : Cl) : Cl := if c.dn = false ∧ c.th = e.th then ansC c e i else c

theorem mkC_app {n a : Nat} {p : List Ev} {x e : Ev} (ha : a < p.length) : mkC n (p ++ [e]) a x = updC e p.length (mkC n p a x) := by
  unfold mkC
  rw [answer_app ha]
  have h1 := (answer_le (t := x.th) ha).2
  by_cases hlt : answerE p x.th a < p.length
  · rw [if_pos hlt, List.getElem?_append_left hlt, List.getElem?_eq_getElem hlt]
    unfold updC
    rw [if_neg (fun h => by cases h.1)]
  · rw [if_neg hlt]
    have hpn : p[answerE p x.th a]? = none := List.getElem?_eq_none (by omega)
    rw [hpn]
    by_cases ht : e.th = x.th
    · rw [if_pos ht, List.getElem?_concat_length]
      unfold updC
      rw [if_pos ⟨rfl, ht.symm⟩]
      rfl
    · rw [if_neg ht, List.getElem?_eq_none (by simp)]
      unfold updC
      rw [if_neg (fun h => ht h.2.symm)]

theorem callsD_app (n : Nat) (p : List Ev) (e : Ev) : ∀ (i : Nat), i ≤ p.length → callsD n (p ++ [e]) i = (callsD n p i).map (updC e p.length)
  | 0, _ => rfl
  | i + 1, hi => by
    rw [callsD_succ, callsD_succ, callsD_app n p e i (by omega), List.map_append]
    congr 1
    unfold pickC
    rw [List.getElem?_append_left (by omega), List.getElem?_eq_getElem (show i < p.length by omega)]
    dsimp only
    split
    · rfl
    · rw [mkC_app (by omega)]; rfl

theorem pickC_last (n : Nat) (p : List Ev) (e : Ev) : pickC n (p ++ [e]) p.length = if e.bk then [] else [askC e p.length n] := by
  unfold pickC
  rw [List.getElem?_concat_length]
  dsimp only
  split
  · rfl
  · unfold mkC answerE
    rw [List.drop_of_length_le (by simp)]
    simp only [ansAt]
    rw [List.getElem?_eq_none (by simp)]
    rfl

theorem runS_snoc (n : Nat) (p : List Ev) (e : Ev) : runS n (p ++ [e]) 0 [] [0, 0, 0, 0] = (runS n p 0 [] [0, 0, 0, 0]).bind fun s =>
    if okE s.2 e then (if e.bk then some (s.1.modify (s.2.getD e.th.toNat 0 - 1) (ansC · e p.length), s.2.set e.th.toNat 0) else some (s.1 ++ [askC e p.length n], s.2.set e.th.toNat (s.1.length + 1))) else none := by
  rw [runS_append]
  congr 1
  funext s
  rw [Nat.zero_add]
  rfl

theorem snoc_ind {P : List Ev → Prop} (nil : P []) (snoc : ∀ p e, P p → P (p ++ [e])) (p : List Ev) : P p := by
  have key : ∀ n, ∀ p : List Ev, p.length = n → P p := by
    intro n
    induction n with
    | zero => intro p hp; have := List.length_eq_zero_iff.1 hp; subst this; exact nil
    | succ n ih =>
      intro p hp
      have hne : p ≠ [] := fun e => by subst e; simp at hp
      rw [← List.dropLast_concat_getLast hne]
      exact snoc _ _ (ih _ (by simp [hp]))
  exact key _ p rfl

theorem ext_get {C D : List Cl} (h : ∀ k : Nat, C[k]? = D[k]?) : C = D := List.ext_getElem? h

def SP (n : Nat) (p : List Ev) : Option (List Cl × List Nat) → Prop
  | some s => okAll p ∧ s.1 = callsD n p p.length ∧ ∀ t : Nat, t < 4 → (0 < s.2.getD t 0 ↔ cntE (t : Int) p % 2 = 1)
  | none => ¬ okAll p

theorem run_D (n : Nat) : ∀ (p : List Ev), SP n p (runS n p 0 [] [0, 0, 0, 0]) := by
  intro p
  induction p using snoc_ind with
  | nil =>
    refine ⟨fun i e h => by simp at h, rfl, fun t ht => ?_⟩
    match t, ht with
    | 0, _ | 1, _ | 2, _ | 3, _ => simp [cntE]
  | snoc p e ih =>
    rw [runS_snoc]
    cases hr : runS n p 0 [] [0, 0, 0, 0] with
    | none =>
      rw [hr] at ih
      exact fun h => ih ((okAll_app p e).1 h).1
    | some s =>
      obtain ⟨C, W⟩ := s
      rw [hr] at ih
      obtain ⟨i1, i2, i3⟩ := ih
      have hI := inv_runS _ (inv_nil n) hr
      rw [Nat.zero_add] at hI
      have hko : okE W e = okR p e := by
        unfold okE okR
        by_cases h0 : 0 ≤ e.th
        · by_cases h4 : e.th < 4
          · have := i3 e.th.toNat (by omega)
            rw [Int.toNat_of_nonneg h0] at this
            have hd : decide (0 < W.getD e.th.toNat 0) = decide (cntE e.th p % 2 = 1) := by rw [decide_eq_decide]; exact this
            rw [hd]
          · rw [decide_eq_false h4]; simp
        · rw [decide_eq_false h0]; simp
      show SP n (p ++ [e]) (if okE W e = true then _ else none)
      by_cases hk : okE W e = true
      · rw [if_pos hk]
        obtain ⟨h1, h2, h3, h4, h5⟩ := okE_of hk
        obtain ⟨t, ht⟩ : ∃ t : Nat, e.th = t := ⟨e.th.toNat, by omega⟩
        have htn : e.th.toNat = t := by omega
        have htW : t < W.length := by rw [hI.four]; omega
        have hpar : ∀ s : Nat, s < 4 → cntE (s : Int) (p ++ [e]) = cntE (s : Int) p + (if s = t then 1 else 0) := fun s hs => by
          rw [cntE_app, ht]
          congr 1
          by_cases hst : s = t
          · subst hst; simp
          · rw [if_neg hst, if_neg (by omega)]
        by_cases hb : e.bk = true
        · rw [if_pos hb]
          refine ⟨(okAll_app p e).2 ⟨i1, by rw [← hko]; exact hk⟩, ?_, fun s hs => ?_⟩
          · show C.modify _ _ = _
            rw [List.length_append, List.length_singleton, callsD_succ, pickC_last, if_pos hb, List.append_nil, callsD_app n p e p.length (Nat.le_refl _), ← i2]
            refine ext_get fun k => ?_
            rw [get_modify, List.getElem?_map]
            have hpos := h3.1 hb
            obtain ⟨c, hc, hct, hcd⟩ := hI.wait e.th.toNat (W.getD e.th.toNat 0 - 1) (by omega) (by omega)
            by_cases hkw : k = W.getD e.th.toNat 0 - 1
            · rw [if_pos hkw, hkw, hc]
              simp only [Option.map_some]
              unfold updC
              rw [if_pos ⟨hcd, by rw [hct]; omega⟩]
            · rw [if_neg hkw]
              cases hg : C[k]? with
              | none => rfl
              | some d =>
                simp only [Option.map_some]
                unfold updC
                rw [if_neg]
                rintro ⟨d1, d2⟩
                have := (hI.undone k d hg d1).2.2.2
                rw [d2] at this
                omega
          · rw [htn]
            show 0 < (W.set t 0).getD s 0 ↔ _
            rw [getD_set htW, hpar s hs]
            by_cases hst : s = t
            · subst hst
              rw [if_pos rfl, if_pos rfl]
              have hp := (i3 s hs).1 (by rw [← htn]; exact h3.1 hb)
              omega
            · rw [if_neg hst, if_neg hst]
              exact i3 s hs
        · have hb' : e.bk = false := by simpa using hb
          have hz : ¬ 0 < W.getD e.th.toNat 0 := fun hh => hb (h3.2 hh)
          rw [if_neg hb]
          refine ⟨(okAll_app p e).2 ⟨i1, by rw [← hko]; exact hk⟩, ?_, fun s hs => ?_⟩
          · show C ++ [_] = _
            rw [List.length_append, List.length_singleton, callsD_succ, pickC_last, if_neg hb, callsD_app n p e p.length (Nat.le_refl _), ← i2]
            congr 1
            refine ext_get fun k => ?_
            rw [List.getElem?_map]
            cases hg : C[k]? with
            | none => rfl
            | some d =>
              simp only [Option.map_some]
              unfold updC
              rw [if_neg]
              rintro ⟨d1, d2⟩
              have := (hI.undone k d hg d1).2.2.2
              rw [d2] at this
              omega
          · rw [htn]
            show 0 < (W.set t (C.length + 1)).getD s 0 ↔ _
            rw [getD_set htW, hpar s hs]
            by_cases hst : s = t
            · subst hst
              rw [if_pos rfl, if_pos rfl]
              have hp : ¬ cntE (s : Int) p % 2 = 1 := fun hh => hz (by rw [htn]; exact (i3 s hs).2 hh)
              omega
            · rw [if_neg hst, if_neg hst]
              exact i3 s hs
      · rw [if_neg hk]
        intro h
        exact hk (by rw [hko]; exact ((okAll_app p e).1 h).2)

theorem calls_D (l : List Ev) : (okAll l → callsP l = some (callsD l.length l l.length)) ∧ (¬ okAll l → callsP l = none) := by
  have h := run_D l.length l
  unfold callsP
  rw [runE_S]
  cases hr : runS l.length l 0 [] [0, 0, 0, 0] with
  | none =>
    rw [hr] at h
    exact ⟨fun hk => absurd hk h, fun _ => rfl⟩
  | some s =>
    rw [hr] at h
    obtain ⟨h1, h2, _⟩ := h
    exact ⟨fun _ => by rw [← h2]; rfl, fun hn => absurd h1 hn⟩
end Go.Proofs.Ytgdlplhglpinaaa

/- The document's calls: the run. -/
set_option linter.unusedVariables false
set_option linter.unusedSimpArgs false
namespace Go.Proofs.Ytgdlplhglpinaaa
open Go Go.Ir

theorem cntE_take {p : List Ev} {i : Nat} {e : Ev} {t : Int} (h : p[i]? = some e) : cntE t (p.take (i + 1)) = cntE t (p.take i) + (if e.th = t then 1 else 0) := by
  obtain ⟨hi, he⟩ := List.getElem?_eq_some_iff.1 h
  rw [List.take_succ_eq_append_getElem hi, he, cntE_app]
theorem cntE_le (t : Int) (p : List Ev) : cntE t p ≤ p.length := List.countP_le_length

theorem turn_spec (lo : Nat) {h : Heap} {v : Value} {l : List Ev} (hv : Sl h 8 v (ecs l)) (hl : l.length ≤ 1000) {k : Nat} {e : Ev} (hk : l[k]? = some e) :
    callR En lo Id.sidingsref08_turn [v, .int .i64 (k : Nat)] h = some (.int .i64 ((cntE e.th (l.take k) : Nat) : Int), h) := by
  have hkl := (List.getElem?_eq_some_iff.1 hk).1
  refine Exists.elim (ecs_cells hv (by omega)) fun a hq => Exists.elim hq fun cap hq => ?_
  have hva := hq.1
  have hld := hq.2
  have K0 := (hld k e hk).1
  subst hva
  refine call_scr rfl Fn.sidingsref08_turn rfl rfl ?_
  repeat' (first | (show EndsR _ _ _ _ _ _ _; first | refine EndsR.seq ?_ | refine EndsR.reg ?_ | refine EndsR.yes rfl ?_ | refine EndsR.no rfl ?_ | refine EndsR.skip ?_ | refine EndsR.block ?_ | refine EndsR.endB ?_ | refine EndsR.exit rfl ?_ | refine EndsR.br rfl (fun hc => ?_) (fun hc => ?_) | refine EndsR.scope ?_ | refine EndsR.inScope ?_ | refine EndsR.label ?_ | refine EndsR.ret rfl ?_ | refine EndsR.nil rfl ?_) | (show EndsG _ _ _ _ _ _ _ _ _; first | refine EndsG.mov rfl rfl ?_ | refine EndsG.lload rfl rfl rfl rfl ?_ | refine EndsG.laddr rfl rfl rfl ?_ | (show EndsG _ _ (⟨_, .bin _ _ _, _, _⟩ :: _) _ _ _ _ _ _; first | refine EndsG.lss rfl rfl rfl (fun hc => ?_) (fun hc => ?_) | refine EndsG.leq rfl rfl rfl (fun hc => ?_) (fun hc => ?_) | refine EndsG.gtr rfl rfl rfl (fun hc => ?_) (fun hc => ?_) | refine EndsG.geq rfl rfl rfl (fun hc => ?_) (fun hc => ?_) | refine EndsG.eql rfl rfl rfl (fun hc => ?_) (fun hc => ?_) | refine EndsG.neq rfl rfl rfl (fun hc => ?_) (fun hc => ?_)) | refine EndsG.skip rfl ?_ | refine EndsG.fin ?_ | refine EndsG.go rfl rfl rfl ?_ | refine EndsG.gono rfl rfl rfl ?_ | refine EndsG.skipn rfl ?_))
  refine .loop (fun n f H => H = h ∧ ∃ i : Nat, n + i = k ∧ f = [(0, .slice (some a) l.length cap), (1, N k), (5, N (cntE e.th (l.take i))), (6, N i)]) (n := k) ⟨rfl, 0, rfl, rfl⟩ ?_
  rintro n f H ⟨rfl, i, hn, rfl⟩ next
  by_cases hi : i < k
  · have hil : i < l.length := by omega
    have hgi : l[i]? = some l[i] := List.getElem?_eq_getElem hil
    generalize l[i] = x at hgi
    have I0 := (hld i x hgi).1
    have hc := cntE_take (t := e.th) hgi
    have hcl := cntE_le e.th (l.take i)
    rw [List.length_take] at hcl
    by_cases ht : x.th = e.th
    · rw [if_pos ht] at hc
      repeat' (first | (show EndsR _ _ _ _ _ _ _; first | refine EndsR.seq ?_ | refine EndsR.reg ?_ | refine EndsR.yes rfl ?_ | refine EndsR.no rfl ?_ | refine EndsR.skip ?_ | refine EndsR.block ?_ | refine EndsR.endB ?_ | refine EndsR.exit rfl ?_ | refine EndsR.br rfl (fun hc => ?_) (fun hc => ?_) | refine EndsR.scope ?_ | refine EndsR.inScope ?_ | refine EndsR.label ?_ | refine EndsR.ret rfl ?_ | refine EndsR.nil rfl ?_) | (show EndsG _ _ _ _ _ _ _ _ _; first | refine EndsG.mov rfl rfl ?_ | refine EndsG.lload rfl rfl rfl rfl ?_ | refine EndsG.laddr rfl rfl rfl ?_ | (show EndsG _ _ (⟨_, .bin _ _ _, _, _⟩ :: _) _ _ _ _ _ _; first | refine EndsG.lssT rfl rfl rfl (by omega) ?_ | refine EndsG.lssF rfl rfl rfl (by omega) ?_ | refine EndsG.leq rfl rfl rfl (fun hc => ?_) (fun hc => ?_) | refine EndsG.gtr rfl rfl rfl (fun hc => ?_) (fun hc => ?_) | refine EndsG.geq rfl rfl rfl (fun hc => ?_) (fun hc => ?_) | refine EndsG.eqlT rfl rfl rfl (by omega) ?_ | refine EndsG.eqlF rfl rfl rfl (by omega) ?_ | refine EndsG.neq rfl rfl rfl (fun hc => ?_) (fun hc => ?_) | refine EndsG.addN rfl rfl rfl (by omega) ?_ | refine EndsG.addN (b := 1) rfl rfl rfl (by omega) ?_ | refine EndsG.subN rfl rfl rfl (by omega) ?_ | refine EndsG.subN (b := 1) rfl rfl rfl (by omega) ?_) | (show EndsG _ _ (⟨_, .load _ _, _, _⟩ :: _) _ _ _ _ _ _; first | refine EndsG.load rfl rfl (I0) ?_ | refine EndsG.load rfl rfl (K0) ?_) | (show EndsG _ _ (⟨_, .iaddr _ _ _ _, _, _⟩ :: _) _ _ _ _ _ _; first | refine EndsG.iaddr rfl rfl rfl (hil) ?_ | refine EndsG.iaddr rfl rfl rfl (hkl) ?_) | refine EndsG.skip rfl ?_ | refine EndsG.fin ?_ | refine EndsG.go rfl rfl rfl ?_ | refine EndsG.gono rfl rfl rfl ?_ | refine EndsG.skipn rfl ?_))
      exact next (n - 1) _ _ (by omega) ⟨rfl, i + 1, by omega, by rw [hc]; rfl⟩
    · rw [if_neg ht, Nat.add_zero] at hc
      repeat' (first | (show EndsR _ _ _ _ _ _ _; first | refine EndsR.seq ?_ | refine EndsR.reg ?_ | refine EndsR.yes rfl ?_ | refine EndsR.no rfl ?_ | refine EndsR.skip ?_ | refine EndsR.block ?_ | refine EndsR.endB ?_ | refine EndsR.exit rfl ?_ | refine EndsR.br rfl (fun hc => ?_) (fun hc => ?_) | refine EndsR.scope ?_ | refine EndsR.inScope ?_ | refine EndsR.label ?_ | refine EndsR.ret rfl ?_ | refine EndsR.nil rfl ?_) | (show EndsG _ _ _ _ _ _ _ _ _; first | refine EndsG.mov rfl rfl ?_ | refine EndsG.lload rfl rfl rfl rfl ?_ | refine EndsG.laddr rfl rfl rfl ?_ | (show EndsG _ _ (⟨_, .bin _ _ _, _, _⟩ :: _) _ _ _ _ _ _; first | refine EndsG.lssT rfl rfl rfl (by omega) ?_ | refine EndsG.lssF rfl rfl rfl (by omega) ?_ | refine EndsG.leq rfl rfl rfl (fun hc => ?_) (fun hc => ?_) | refine EndsG.gtr rfl rfl rfl (fun hc => ?_) (fun hc => ?_) | refine EndsG.geq rfl rfl rfl (fun hc => ?_) (fun hc => ?_) | refine EndsG.eqlT rfl rfl rfl (by omega) ?_ | refine EndsG.eqlF rfl rfl rfl (by omega) ?_ | refine EndsG.neq rfl rfl rfl (fun hc => ?_) (fun hc => ?_) | refine EndsG.addN rfl rfl rfl (by omega) ?_ | refine EndsG.addN (b := 1) rfl rfl rfl (by omega) ?_ | refine EndsG.subN rfl rfl rfl (by omega) ?_ | refine EndsG.subN (b := 1) rfl rfl rfl (by omega) ?_) | (show EndsG _ _ (⟨_, .load _ _, _, _⟩ :: _) _ _ _ _ _ _; first | refine EndsG.load rfl rfl (I0) ?_ | refine EndsG.load rfl rfl (K0) ?_) | (show EndsG _ _ (⟨_, .iaddr _ _ _ _, _, _⟩ :: _) _ _ _ _ _ _; first | refine EndsG.iaddr rfl rfl rfl (hil) ?_ | refine EndsG.iaddr rfl rfl rfl (hkl) ?_) | refine EndsG.skip rfl ?_ | refine EndsG.fin ?_ | refine EndsG.go rfl rfl rfl ?_ | refine EndsG.gono rfl rfl rfl ?_ | refine EndsG.skipn rfl ?_))
      exact next (n - 1) _ _ (by omega) ⟨rfl, i + 1, by omega, by rw [hc]; rfl⟩
  · have hik : i = k := by omega
    subst hik
    repeat' (first | (show EndsR _ _ _ _ _ _ _; first | refine EndsR.seq ?_ | refine EndsR.reg ?_ | refine EndsR.yes rfl ?_ | refine EndsR.no rfl ?_ | refine EndsR.skip ?_ | refine EndsR.block ?_ | refine EndsR.endB ?_ | refine EndsR.exit rfl ?_ | refine EndsR.br rfl (fun hc => ?_) (fun hc => ?_) | refine EndsR.scope ?_ | refine EndsR.inScope ?_ | refine EndsR.label ?_ | refine EndsR.ret rfl ?_ | refine EndsR.nil rfl ?_) | (show EndsG _ _ _ _ _ _ _ _ _; first | refine EndsG.mov rfl rfl ?_ | refine EndsG.lload rfl rfl rfl rfl ?_ | refine EndsG.laddr rfl rfl rfl ?_ | (show EndsG _ _ (⟨_, .bin _ _ _, _, _⟩ :: _) _ _ _ _ _ _; first | refine EndsG.lssT rfl rfl rfl (by omega) ?_ | refine EndsG.lssF rfl rfl rfl (by omega) ?_ | refine EndsG.leq rfl rfl rfl (fun hc => ?_) (fun hc => ?_) | refine EndsG.gtr rfl rfl rfl (fun hc => ?_) (fun hc => ?_) | refine EndsG.geq rfl rfl rfl (fun hc => ?_) (fun hc => ?_) | refine EndsG.eql rfl rfl rfl (fun hc => ?_) (fun hc => ?_) | refine EndsG.neq rfl rfl rfl (fun hc => ?_) (fun hc => ?_)) | refine EndsG.skip rfl ?_ | refine EndsG.fin ?_ | refine EndsG.go rfl rfl rfl ?_ | refine EndsG.gono rfl rfl rfl ?_ | refine EndsG.skipn rfl ?_))
    rfl

theorem answer_spec (lo : Nat) {h : Heap} {v : Value} {l : List Ev} (hv : Sl h 8 v (ecs l)) (hl : l.length ≤ 1000) {k : Nat} {e : Ev} (hk : l[k]? = some e) :
    callR En lo Id.sidingsref08_answer [v, .int .i64 (k : Nat)] h = some (.int .i64 ((answerE l e.th k : Nat) : Int), h) := by
  have hkl := (List.getElem?_eq_some_iff.1 hk).1
  refine Exists.elim (ecs_cells hv (by omega)) fun a hq => Exists.elim hq fun cap hq => ?_
  have hva := hq.1
  have hld := hq.2
  have K0 := (hld k e hk).1
  subst hva
  refine call_scr rfl Fn.sidingsref08_answer rfl rfl ?_
  repeat' (first | (show EndsR _ _ _ _ _ _ _; first | refine EndsR.seq ?_ | refine EndsR.reg ?_ | refine EndsR.yes rfl ?_ | refine EndsR.no rfl ?_ | refine EndsR.skip ?_ | refine EndsR.block ?_ | refine EndsR.endB ?_ | refine EndsR.exit rfl ?_ | refine EndsR.br rfl (fun hc => ?_) (fun hc => ?_) | refine EndsR.scope ?_ | refine EndsR.inScope ?_ | refine EndsR.label ?_ | refine EndsR.ret rfl ?_ | refine EndsR.nil rfl ?_) | (show EndsG _ _ _ _ _ _ _ _ _; first | refine EndsG.mov rfl rfl ?_ | refine EndsG.lload rfl rfl rfl rfl ?_ | refine EndsG.laddr rfl rfl rfl ?_ | (show EndsG _ _ (⟨_, .bin _ _ _, _, _⟩ :: _) _ _ _ _ _ _; first | refine EndsG.lss rfl rfl rfl (fun hc => ?_) (fun hc => ?_) | refine EndsG.leq rfl rfl rfl (fun hc => ?_) (fun hc => ?_) | refine EndsG.gtr rfl rfl rfl (fun hc => ?_) (fun hc => ?_) | refine EndsG.geq rfl rfl rfl (fun hc => ?_) (fun hc => ?_) | refine EndsG.eql rfl rfl rfl (fun hc => ?_) (fun hc => ?_) | refine EndsG.neq rfl rfl rfl (fun hc => ?_) (fun hc => ?_) | refine EndsG.addN rfl rfl rfl (by omega) ?_ | refine EndsG.addN (b := 1) rfl rfl rfl (by omega) ?_ | refine EndsG.subN rfl rfl rfl (by omega) ?_ | refine EndsG.subN (b := 1) rfl rfl rfl (by omega) ?_) | refine EndsG.skip rfl ?_ | refine EndsG.fin ?_ | refine EndsG.go rfl rfl rfl ?_ | refine EndsG.gono rfl rfl rfl ?_ | refine EndsG.skipn rfl ?_))
  refine .loop (fun n f H => H = h ∧ ∃ i : Nat, n + i = l.length ∧ f = [(0, .slice (some a) l.length cap), (1, N k), (5, N i)] ∧ answerE l e.th k = ansAt e.th (l.drop i) i) (n := l.length - (k + 1)) ⟨rfl, k + 1, by omega, rfl, rfl⟩ ?_
  rintro n f H ⟨rfl, i, hn, rfl, hI⟩ next
  by_cases hi : i < l.length
  · have hgi : l[i]? = some l[i] := List.getElem?_eq_getElem hi
    rw [List.drop_eq_getElem_cons hi] at hI
    generalize l[i] = x at hgi hI
    have I0 := (hld i x hgi).1
    unfold ansAt at hI
    by_cases ht : x.th = e.th
    · rw [if_pos ht] at hI
      repeat' (first | (show EndsR _ _ _ _ _ _ _; first | refine EndsR.seq ?_ | refine EndsR.reg ?_ | refine EndsR.yes rfl ?_ | refine EndsR.no rfl ?_ | refine EndsR.skip ?_ | refine EndsR.block ?_ | refine EndsR.endB ?_ | refine EndsR.exit rfl ?_ | refine EndsR.br rfl (fun hc => ?_) (fun hc => ?_) | refine EndsR.scope ?_ | refine EndsR.inScope ?_ | refine EndsR.label ?_ | refine EndsR.ret rfl ?_ | refine EndsR.nil rfl ?_) | (show EndsG _ _ _ _ _ _ _ _ _; first | refine EndsG.mov rfl rfl ?_ | refine EndsG.lload rfl rfl rfl rfl ?_ | refine EndsG.laddr rfl rfl rfl ?_ | (show EndsG _ _ (⟨_, .bin _ _ _, _, _⟩ :: _) _ _ _ _ _ _; first | refine EndsG.lssT rfl rfl rfl (by omega) ?_ | refine EndsG.lssF rfl rfl rfl (by omega) ?_ | refine EndsG.leq rfl rfl rfl (fun hc => ?_) (fun hc => ?_) | refine EndsG.gtr rfl rfl rfl (fun hc => ?_) (fun hc => ?_) | refine EndsG.geq rfl rfl rfl (fun hc => ?_) (fun hc => ?_) | refine EndsG.eqlT rfl rfl rfl (by omega) ?_ | refine EndsG.eqlF rfl rfl rfl (by omega) ?_ | refine EndsG.neq rfl rfl rfl (fun hc => ?_) (fun hc => ?_)) | (show EndsG _ _ (⟨_, .load _ _, _, _⟩ :: _) _ _ _ _ _ _; first | refine EndsG.load rfl rfl (I0) ?_ | refine EndsG.load rfl rfl (K0) ?_) | (show EndsG _ _ (⟨_, .iaddr _ _ _ _, _, _⟩ :: _) _ _ _ _ _ _; first | refine EndsG.iaddr rfl rfl rfl (hi) ?_ | refine EndsG.iaddr rfl rfl rfl (hkl) ?_) | refine EndsG.skip rfl ?_ | refine EndsG.fin ?_ | refine EndsG.go rfl rfl rfl ?_ | refine EndsG.gono rfl rfl rfl ?_ | refine EndsG.skipn rfl ?_))
      rw [hI]; rfl
    · rw [if_neg ht] at hI
      repeat' (first | (show EndsR _ _ _ _ _ _ _; first | refine EndsR.seq ?_ | refine EndsR.reg ?_ | refine EndsR.yes rfl ?_ | refine EndsR.no rfl ?_ | refine EndsR.skip ?_ | refine EndsR.block ?_ | refine EndsR.endB ?_ | refine EndsR.exit rfl ?_ | refine EndsR.br rfl (fun hc => ?_) (fun hc => ?_) | refine EndsR.scope ?_ | refine EndsR.inScope ?_ | refine EndsR.label ?_ | refine EndsR.ret rfl ?_ | refine EndsR.nil rfl ?_) | (show EndsG _ _ _ _ _ _ _ _ _; first | refine EndsG.mov rfl rfl ?_ | refine EndsG.lload rfl rfl rfl rfl ?_ | refine EndsG.laddr rfl rfl rfl ?_ | (show EndsG _ _ (⟨_, .bin _ _ _, _, _⟩ :: _) _ _ _ _ _ _; first | refine EndsG.lssT rfl rfl rfl (by omega) ?_ | refine EndsG.lssF rfl rfl rfl (by omega) ?_ | refine EndsG.leq rfl rfl rfl (fun hc => ?_) (fun hc => ?_) | refine EndsG.gtr rfl rfl rfl (fun hc => ?_) (fun hc => ?_) | refine EndsG.geq rfl rfl rfl (fun hc => ?_) (fun hc => ?_) | refine EndsG.eqlT rfl rfl rfl (by omega) ?_ | refine EndsG.eqlF rfl rfl rfl (by omega) ?_ | refine EndsG.neq rfl rfl rfl (fun hc => ?_) (fun hc => ?_) | refine EndsG.addN rfl rfl rfl (by omega) ?_ | refine EndsG.addN (b := 1) rfl rfl rfl (by omega) ?_ | refine EndsG.subN rfl rfl rfl (by omega) ?_ | refine EndsG.subN (b := 1) rfl rfl rfl (by omega) ?_) | (show EndsG _ _ (⟨_, .load _ _, _, _⟩ :: _) _ _ _ _ _ _; first | refine EndsG.load rfl rfl (I0) ?_ | refine EndsG.load rfl rfl (K0) ?_) | (show EndsG _ _ (⟨_, .iaddr _ _ _ _, _, _⟩ :: _) _ _ _ _ _ _; first | refine EndsG.iaddr rfl rfl rfl (hi) ?_ | refine EndsG.iaddr rfl rfl rfl (hkl) ?_) | refine EndsG.skip rfl ?_ | refine EndsG.fin ?_ | refine EndsG.go rfl rfl rfl ?_ | refine EndsG.gono rfl rfl rfl ?_ | refine EndsG.skipn rfl ?_))
      exact next (n - 1) _ _ (by omega) ⟨rfl, i + 1, by omega, rfl, hI⟩
  · rw [List.drop_of_length_le (by omega)] at hI
    have hil : i = l.length := by omega
    subst hil
    repeat' (first | (show EndsR _ _ _ _ _ _ _; first | refine EndsR.seq ?_ | refine EndsR.reg ?_ | refine EndsR.yes rfl ?_ | refine EndsR.no rfl ?_ | refine EndsR.skip ?_ | refine EndsR.block ?_ | refine EndsR.endB ?_ | refine EndsR.exit rfl ?_ | refine EndsR.br rfl (fun hc => ?_) (fun hc => ?_) | refine EndsR.scope ?_ | refine EndsR.inScope ?_ | refine EndsR.label ?_ | refine EndsR.ret rfl ?_ | refine EndsR.nil rfl ?_) | (show EndsG _ _ _ _ _ _ _ _ _; first | refine EndsG.mov rfl rfl ?_ | refine EndsG.lload rfl rfl rfl rfl ?_ | refine EndsG.laddr rfl rfl rfl ?_ | (show EndsG _ _ (⟨_, .bin _ _ _, _, _⟩ :: _) _ _ _ _ _ _; first | refine EndsG.lssT rfl rfl rfl (by omega) ?_ | refine EndsG.lssF rfl rfl rfl (by omega) ?_ | refine EndsG.leq rfl rfl rfl (fun hc => ?_) (fun hc => ?_) | refine EndsG.gtr rfl rfl rfl (fun hc => ?_) (fun hc => ?_) | refine EndsG.geq rfl rfl rfl (fun hc => ?_) (fun hc => ?_) | refine EndsG.eql rfl rfl rfl (fun hc => ?_) (fun hc => ?_) | refine EndsG.neq rfl rfl rfl (fun hc => ?_) (fun hc => ?_)) | refine EndsG.skip rfl ?_ | refine EndsG.fin ?_ | refine EndsG.go rfl rfl rfl ?_ | refine EndsG.gono rfl rfl rfl ?_ | refine EndsG.skipn rfl ?_))
    rw [hI]; rfl

open Classical in
noncomputable def okB' (l : List Ev) : Bool := decide (okAll l)
open Classical in
theorem okB'_true {l : List Ev} (h : okAll l) : okB' l = true := by unfold okB'; exact decide_eq_true h
open Classical in
theorem okB'_false {l : List Ev} (h : ¬ okAll l) : okB' l = false := by unfold okB'; exact decide_eq_false h

theorem ecs_parts {h : Heap} {v : Value} {l : List Ev} (hv : Sl h 8 v (ecs l)) {a : Addr} {len cap : Nat} (he : v = .slice (some a) len cap) {i : Nat} {e : Ev} (hc : l[i]? = some e) :
    loadV h (some 4) ⟨a.block, a.off + i * 8 + 2, none⟩ = some (.agg #[.int .i64 e.d, .int .i64 e.h, .int .i64 e.o, .int .i64 e.n]) ∧
    loadV h (some 2) ⟨a.block, a.off + i * 8 + 6, none⟩ = some (.agg #[.int .i64 e.rc, .int .i64 e.rn]) :=
  ⟨hv.part (ecs_get hc) (by decide) he, hv.part (ecs_get hc) (by decide) he⟩

theorem rem2 {n : Nat} : (n : Int).tmod 2 = ((n % 2 : Nat) : Int) := by
  rw [Int.tmod_eq_emod_of_nonneg (by omega)]; omega

set_option maxHeartbeats 1600000 in
theorem refCheck_spec (lo : Nat) {h : Heap} {v : Value} {l : List Ev} (hv : Sl h 8 v (ecs l)) (hl : l.length ≤ 1000) :
    callR En lo Id.sidingsref08_Check [v] h = some (.int .i64 (if okB' l then 0 else 2), h) := by
  refine Exists.elim hv.len fun base hq => Exists.elim hq fun cap hve => ?_
  rw [ecs_length] at hve
  have hT := fun lo k e hk => turn_spec lo hv hl (k := k) (e := e) hk
  subst hve
  refine call_scr rfl Fn.sidingsref08_Check rfl rfl ?_
  repeat' (first | (show EndsR _ _ _ _ _ _ _; first | refine EndsR.seq ?_ | refine EndsR.reg ?_ | refine EndsR.yes rfl ?_ | refine EndsR.no rfl ?_ | refine EndsR.skip ?_ | refine EndsR.block ?_ | refine EndsR.endB ?_ | refine EndsR.exit rfl ?_ | refine EndsR.br rfl (fun hc => ?_) (fun hc => ?_) | refine EndsR.scope ?_ | refine EndsR.inScope ?_ | refine EndsR.label ?_ | refine EndsR.ret rfl ?_ | refine EndsR.nil rfl ?_) | (show EndsG _ _ _ _ _ _ _ _ _; first | refine EndsG.mov rfl rfl ?_ | refine EndsG.lload rfl rfl rfl rfl ?_ | refine EndsG.laddr rfl rfl rfl ?_ | (show EndsG _ _ (⟨_, .bin _ _ _, _, _⟩ :: _) _ _ _ _ _ _; first | refine EndsG.lss rfl rfl rfl (fun hc => ?_) (fun hc => ?_) | refine EndsG.leq rfl rfl rfl (fun hc => ?_) (fun hc => ?_) | refine EndsG.gtr rfl rfl rfl (fun hc => ?_) (fun hc => ?_) | refine EndsG.geq rfl rfl rfl (fun hc => ?_) (fun hc => ?_) | refine EndsG.eql rfl rfl rfl (fun hc => ?_) (fun hc => ?_) | refine EndsG.neq rfl rfl rfl (fun hc => ?_) (fun hc => ?_)) | refine EndsG.skip rfl ?_ | refine EndsG.fin ?_ | refine EndsG.go rfl rfl rfl ?_ | refine EndsG.gono rfl rfl rfl ?_ | refine EndsG.skipn rfl ?_))
  refine .loop (fun n f H => H = h ∧ ∃ i : Nat, n + i = l.length ∧ f = [(0, .slice base l.length cap), (3, N i)] ∧ ∀ (j : Nat) (e : Ev), j < i → l[j]? = some e → okR (l.take j) e = true) (n := l.length) ⟨rfl, 0, rfl, rfl, by simp⟩ ?_
  rintro n f H ⟨rfl, i, hn, rfl, hI⟩ next
  by_cases hi : i < l.length
  · have hgi : l[i]? = some l[i] := List.getElem?_eq_getElem hi
    generalize l[i] = e at hgi
    refine Exists.elim (ecs_cells hv (by omega)) fun a hq => Exists.elim hq fun cap' hq => ?_
    have hva := hq.1
    injection hva with e1 e2 e3
    subst e1
    have I0 := (hq.2 i e hgi).1
    have I1 := (hq.2 i e hgi).2.1
    have I2 := (ecs_parts hv rfl hgi).1
    have I6 := (ecs_parts hv rfl hgi).2
    have hTi := fun lo => hT lo i e hgi
    have hbad : okR (l.take i) e = false → Ir.tidy H (.int .i64 2) H = some (.int .i64 (if okB' l then 0 else 2), H) := fun hb => by
      rw [okB'_false (fun hk => by have := hk i e hgi; rw [hb] at this; cases this)]; rfl
    have hgood : okR (l.take i) e = true → ∀ (j : Nat) (x : Ev), j < i + 1 → l[j]? = some x → okR (l.take j) x = true := fun hb j x hj hx => by
      by_cases hji : j = i
      · subst hji
        rw [hgi] at hx
        injection hx with hx
        subst hx
        exact hb
      · exact hI j x (by omega) hx
    unfold okR at hbad hgood
    rcases e with ⟨th, bk, ed, eh, eo, en, erc, ern⟩
    simp only at I0 I1 I2 I6 hTi hbad hgood
    have hcl := cntE_le th (l.take i)
    rw [List.length_take] at hcl
    generalize cntE th (l.take i) = c at hTi hbad hgood hcl
    have hrem : ((c : Int)).tmod 2 = ((c % 2 : Nat) : Int) := rem2
    by_cases h0 : th < 0
    · repeat' (first | (show EndsR _ _ _ _ _ _ _; first | refine EndsR.seq ?_ | refine EndsR.reg ?_ | refine EndsR.yes rfl ?_ | refine EndsR.no rfl ?_ | refine EndsR.skip ?_ | refine EndsR.block ?_ | refine EndsR.endB ?_ | refine EndsR.exit rfl ?_ | refine EndsR.br rfl (fun hc => ?_) (fun hc => ?_) | refine EndsR.scope ?_ | refine EndsR.inScope ?_ | refine EndsR.label ?_ | refine EndsR.ret rfl ?_ | refine EndsR.nil rfl ?_) | (show EndsG _ _ _ _ _ _ _ _ _; first | refine EndsG.mov rfl rfl ?_ | refine EndsG.lload rfl rfl rfl rfl ?_ | refine EndsG.laddr rfl rfl rfl ?_ | (show EndsG _ _ (⟨_, .bin _ _ _, _, _⟩ :: _) _ _ _ _ _ _; first | refine EndsG.lssT rfl rfl rfl (by omega) ?_ | refine EndsG.lssF rfl rfl rfl (by omega) ?_ | refine EndsG.leq rfl rfl rfl (fun hc => ?_) (fun hc => ?_) | refine EndsG.gtr rfl rfl rfl (fun hc => ?_) (fun hc => ?_) | refine EndsG.geq rfl rfl rfl (fun hc => ?_) (fun hc => ?_) | refine EndsG.eql rfl rfl rfl (fun hc => ?_) (fun hc => ?_) | refine EndsG.neq rfl rfl rfl (fun hc => ?_) (fun hc => ?_)) | refine EndsG.load rfl rfl (I0) ?_ | refine EndsG.iaddr rfl rfl rfl (hi) ?_ | refine EndsG.skip rfl ?_ | refine EndsG.fin ?_ | refine EndsG.go rfl rfl rfl ?_ | refine EndsG.gono rfl rfl rfl ?_ | refine EndsG.skipn rfl ?_))
      exact hbad (by rw [decide_eq_false (show ¬ (0 : Int) ≤ th by omega)]; rfl)
    · by_cases h4 : 3 < th
      · repeat' (first | (show EndsR _ _ _ _ _ _ _; first | refine EndsR.seq ?_ | refine EndsR.reg ?_ | refine EndsR.yes rfl ?_ | refine EndsR.no rfl ?_ | refine EndsR.skip ?_ | refine EndsR.block ?_ | refine EndsR.endB ?_ | refine EndsR.exit rfl ?_ | refine EndsR.br rfl (fun hc => ?_) (fun hc => ?_) | refine EndsR.scope ?_ | refine EndsR.inScope ?_ | refine EndsR.label ?_ | refine EndsR.ret rfl ?_ | refine EndsR.nil rfl ?_) | (show EndsG _ _ _ _ _ _ _ _ _; first | refine EndsG.mov rfl rfl ?_ | refine EndsG.lload rfl rfl rfl rfl ?_ | refine EndsG.laddr rfl rfl rfl ?_ | (show EndsG _ _ (⟨_, .bin _ _ _, _, _⟩ :: _) _ _ _ _ _ _; first | refine EndsG.lssT rfl rfl rfl (by omega) ?_ | refine EndsG.lssF rfl rfl rfl (by omega) ?_ | refine EndsG.leq rfl rfl rfl (fun hc => ?_) (fun hc => ?_) | refine EndsG.gtrT rfl rfl rfl (by omega) ?_ | refine EndsG.gtrF rfl rfl rfl (by omega) ?_ | refine EndsG.geq rfl rfl rfl (fun hc => ?_) (fun hc => ?_) | refine EndsG.eql rfl rfl rfl (fun hc => ?_) (fun hc => ?_) | refine EndsG.neq rfl rfl rfl (fun hc => ?_) (fun hc => ?_)) | refine EndsG.load rfl rfl (I0) ?_ | refine EndsG.iaddr rfl rfl rfl (hi) ?_ | refine EndsG.skip rfl ?_ | refine EndsG.fin ?_ | refine EndsG.go rfl rfl rfl ?_ | refine EndsG.gono rfl rfl rfl ?_ | refine EndsG.skipn rfl ?_))
        exact hbad (by rw [decide_eq_false (show ¬ th < 4 by omega)]; simp)
      · rw [decide_eq_true (show (0 : Int) ≤ th by omega), decide_eq_true (show th < 4 by omega)] at hbad hgood
        by_cases hp : c % 2 = 1
        · rw [decide_eq_true hp] at hbad hgood
          cases bk with
          | true =>
            repeat' (first | (show EndsR _ _ _ _ _ _ _; first | refine EndsR.seq ?_ | refine EndsR.reg ?_ | refine EndsR.yes rfl ?_ | refine EndsR.no rfl ?_ | refine EndsR.skip ?_ | refine EndsR.block ?_ | refine EndsR.endB ?_ | refine EndsR.exit rfl ?_ | refine EndsR.br rfl (fun hc => ?_) (fun hc => ?_) | refine EndsR.scope ?_ | refine EndsR.inScope ?_ | refine EndsR.label ?_ | refine EndsR.ret rfl ?_ | refine EndsR.nil rfl ?_) | (show EndsG _ _ _ _ _ _ _ _ _; first | refine EndsG.mov rfl rfl ?_ | refine EndsG.lload rfl rfl rfl rfl ?_ | refine EndsG.laddr rfl rfl rfl ?_ | (show EndsG _ _ (⟨_, .bin _ _ _, _, _⟩ :: _) _ _ _ _ _ _; first | refine EndsG.lssT rfl rfl rfl (by omega) ?_ | refine EndsG.lssF rfl rfl rfl (by omega) ?_ | refine EndsG.leq rfl rfl rfl (fun hc => ?_) (fun hc => ?_) | refine EndsG.gtrT rfl rfl rfl (by omega) ?_ | refine EndsG.gtrF rfl rfl rfl (by omega) ?_ | refine EndsG.geq rfl rfl rfl (fun hc => ?_) (fun hc => ?_) | refine EndsG.eqlT rfl rfl rfl (by omega) ?_ | refine EndsG.eqlF rfl rfl rfl (by omega) ?_ | refine EndsG.neq rfl rfl rfl (fun hc => ?_) (fun hc => ?_) | refine EndsG.addN rfl rfl rfl (by omega) ?_ | refine EndsG.addN (b := 1) rfl rfl rfl (by omega) ?_ | refine EndsG.subN rfl rfl rfl (by omega) ?_ | refine EndsG.subN (b := 1) rfl rfl rfl (by omega) ?_) | (show EndsG _ _ (⟨_, .load _ _, _, _⟩ :: _) _ _ _ _ _ _; first | refine EndsG.load rfl rfl (I0) ?_ | refine EndsG.load rfl rfl (I1) ?_ | refine EndsG.load rfl rfl (I2) ?_ | refine EndsG.load rfl rfl (I6) ?_) | refine EndsG.call rfl rfl (hTi _) ?_ | refine EndsG.iaddr rfl rfl rfl (hi) ?_ | refine EndsG.eqc rfl rfl rfl rfl (fun hc => ?_) (fun hc => ?_) | refine EndsG.loadc rfl rfl I1 (one_take I1) rfl ?_ | refine EndsG.skip rfl ?_ | refine EndsG.fin ?_ | refine EndsG.go rfl rfl rfl ?_ | refine EndsG.gono rfl rfl rfl ?_ | refine EndsG.skipn rfl ?_))
            · exact hbad hc
            · exact next (n - 1) _ _ (by omega) ⟨rfl, i + 1, by omega, rfl, hgood hc⟩
          | false =>
            repeat' (first | (show EndsR _ _ _ _ _ _ _; first | refine EndsR.seq ?_ | refine EndsR.reg ?_ | refine EndsR.yes rfl ?_ | refine EndsR.no rfl ?_ | refine EndsR.skip ?_ | refine EndsR.block ?_ | refine EndsR.endB ?_ | refine EndsR.exit rfl ?_ | refine EndsR.br rfl (fun hc => ?_) (fun hc => ?_) | refine EndsR.scope ?_ | refine EndsR.inScope ?_ | refine EndsR.label ?_ | refine EndsR.ret rfl ?_ | refine EndsR.nil rfl ?_) | (show EndsG _ _ _ _ _ _ _ _ _; first | refine EndsG.mov rfl rfl ?_ | refine EndsG.lload rfl rfl rfl rfl ?_ | refine EndsG.laddr rfl rfl rfl ?_ | (show EndsG _ _ (⟨_, .bin _ _ _, _, _⟩ :: _) _ _ _ _ _ _; first | refine EndsG.lssT rfl rfl rfl (by omega) ?_ | refine EndsG.lssF rfl rfl rfl (by omega) ?_ | refine EndsG.leq rfl rfl rfl (fun hc => ?_) (fun hc => ?_) | refine EndsG.gtrT rfl rfl rfl (by omega) ?_ | refine EndsG.gtrF rfl rfl rfl (by omega) ?_ | refine EndsG.geq rfl rfl rfl (fun hc => ?_) (fun hc => ?_) | refine EndsG.eqlT rfl rfl rfl (by omega) ?_ | refine EndsG.eqlF rfl rfl rfl (by omega) ?_ | refine EndsG.neq rfl rfl rfl (fun hc => ?_) (fun hc => ?_) | refine EndsG.addN rfl rfl rfl (by omega) ?_ | refine EndsG.addN (b := 1) rfl rfl rfl (by omega) ?_ | refine EndsG.subN rfl rfl rfl (by omega) ?_ | refine EndsG.subN (b := 1) rfl rfl rfl (by omega) ?_) | (show EndsG _ _ (⟨_, .load _ _, _, _⟩ :: _) _ _ _ _ _ _; first | refine EndsG.load rfl rfl (I0) ?_ | refine EndsG.load rfl rfl (I1) ?_ | refine EndsG.load rfl rfl (I2) ?_ | refine EndsG.load rfl rfl (I6) ?_) | refine EndsG.call rfl rfl (hTi _) ?_ | refine EndsG.iaddr rfl rfl rfl (hi) ?_ | refine EndsG.eqc rfl rfl rfl rfl (fun hc => ?_) (fun hc => ?_) | refine EndsG.loadc rfl rfl I1 (one_take I1) rfl ?_ | refine EndsG.skip rfl ?_ | refine EndsG.fin ?_ | refine EndsG.go rfl rfl rfl ?_ | refine EndsG.gono rfl rfl rfl ?_ | refine EndsG.skipn rfl ?_))
            exact hbad rfl
        · rw [decide_eq_false hp] at hbad hgood
          cases bk with
          | true =>
            repeat' (first | (show EndsR _ _ _ _ _ _ _; first | refine EndsR.seq ?_ | refine EndsR.reg ?_ | refine EndsR.yes rfl ?_ | refine EndsR.no rfl ?_ | refine EndsR.skip ?_ | refine EndsR.block ?_ | refine EndsR.endB ?_ | refine EndsR.exit rfl ?_ | refine EndsR.br rfl (fun hc => ?_) (fun hc => ?_) | refine EndsR.scope ?_ | refine EndsR.inScope ?_ | refine EndsR.label ?_ | refine EndsR.ret rfl ?_ | refine EndsR.nil rfl ?_) | (show EndsG _ _ _ _ _ _ _ _ _; first | refine EndsG.mov rfl rfl ?_ | refine EndsG.lload rfl rfl rfl rfl ?_ | refine EndsG.laddr rfl rfl rfl ?_ | (show EndsG _ _ (⟨_, .bin _ _ _, _, _⟩ :: _) _ _ _ _ _ _; first | refine EndsG.lssT rfl rfl rfl (by omega) ?_ | refine EndsG.lssF rfl rfl rfl (by omega) ?_ | refine EndsG.leq rfl rfl rfl (fun hc => ?_) (fun hc => ?_) | refine EndsG.gtrT rfl rfl rfl (by omega) ?_ | refine EndsG.gtrF rfl rfl rfl (by omega) ?_ | refine EndsG.geq rfl rfl rfl (fun hc => ?_) (fun hc => ?_) | refine EndsG.eqlT rfl rfl rfl (by omega) ?_ | refine EndsG.eqlF rfl rfl rfl (by omega) ?_ | refine EndsG.neq rfl rfl rfl (fun hc => ?_) (fun hc => ?_) | refine EndsG.addN rfl rfl rfl (by omega) ?_ | refine EndsG.addN (b := 1) rfl rfl rfl (by omega) ?_ | refine EndsG.subN rfl rfl rfl (by omega) ?_ | refine EndsG.subN (b := 1) rfl rfl rfl (by omega) ?_) | (show EndsG _ _ (⟨_, .load _ _, _, _⟩ :: _) _ _ _ _ _ _; first | refine EndsG.load rfl rfl (I0) ?_ | refine EndsG.load rfl rfl (I1) ?_ | refine EndsG.load rfl rfl (I2) ?_ | refine EndsG.load rfl rfl (I6) ?_) | refine EndsG.call rfl rfl (hTi _) ?_ | refine EndsG.iaddr rfl rfl rfl (hi) ?_ | refine EndsG.eqc rfl rfl rfl rfl (fun hc => ?_) (fun hc => ?_) | refine EndsG.loadc rfl rfl I1 (one_take I1) rfl ?_ | refine EndsG.skip rfl ?_ | refine EndsG.fin ?_ | refine EndsG.go rfl rfl rfl ?_ | refine EndsG.gono rfl rfl rfl ?_ | refine EndsG.skipn rfl ?_))
            exact hbad rfl
          | false =>
            repeat' (first | (show EndsR _ _ _ _ _ _ _; first | refine EndsR.seq ?_ | refine EndsR.reg ?_ | refine EndsR.yes rfl ?_ | refine EndsR.no rfl ?_ | refine EndsR.skip ?_ | refine EndsR.block ?_ | refine EndsR.endB ?_ | refine EndsR.exit rfl ?_ | refine EndsR.br rfl (fun hc => ?_) (fun hc => ?_) | refine EndsR.scope ?_ | refine EndsR.inScope ?_ | refine EndsR.label ?_ | refine EndsR.ret rfl ?_ | refine EndsR.nil rfl ?_) | (show EndsG _ _ _ _ _ _ _ _ _; first | refine EndsG.mov rfl rfl ?_ | refine EndsG.lload rfl rfl rfl rfl ?_ | refine EndsG.laddr rfl rfl rfl ?_ | (show EndsG _ _ (⟨_, .bin _ _ _, _, _⟩ :: _) _ _ _ _ _ _; first | refine EndsG.lssT rfl rfl rfl (by omega) ?_ | refine EndsG.lssF rfl rfl rfl (by omega) ?_ | refine EndsG.leq rfl rfl rfl (fun hc => ?_) (fun hc => ?_) | refine EndsG.gtrT rfl rfl rfl (by omega) ?_ | refine EndsG.gtrF rfl rfl rfl (by omega) ?_ | refine EndsG.geq rfl rfl rfl (fun hc => ?_) (fun hc => ?_) | refine EndsG.eqlT rfl rfl rfl (by omega) ?_ | refine EndsG.eqlF rfl rfl rfl (by omega) ?_ | refine EndsG.neq rfl rfl rfl (fun hc => ?_) (fun hc => ?_) | refine EndsG.addN rfl rfl rfl (by omega) ?_ | refine EndsG.addN (b := 1) rfl rfl rfl (by omega) ?_ | refine EndsG.subN rfl rfl rfl (by omega) ?_ | refine EndsG.subN (b := 1) rfl rfl rfl (by omega) ?_) | (show EndsG _ _ (⟨_, .load _ _, _, _⟩ :: _) _ _ _ _ _ _; first | refine EndsG.load rfl rfl (I0) ?_ | refine EndsG.load rfl rfl (I1) ?_ | refine EndsG.load rfl rfl (I2) ?_ | refine EndsG.load rfl rfl (I6) ?_) | refine EndsG.call rfl rfl (hTi _) ?_ | refine EndsG.iaddr rfl rfl rfl (hi) ?_ | refine EndsG.eqc rfl rfl rfl rfl (fun hc => ?_) (fun hc => ?_) | refine EndsG.loadc rfl rfl I1 (one_take I1) rfl ?_ | refine EndsG.skip rfl ?_ | refine EndsG.fin ?_ | refine EndsG.go rfl rfl rfl ?_ | refine EndsG.gono rfl rfl rfl ?_ | refine EndsG.skipn rfl ?_))
            · exact hbad hc
            · exact next (n - 1) _ _ (by omega) ⟨rfl, i + 1, by omega, rfl, hgood hc⟩
  · have hik : okB' l = true := okB'_true fun j e hj => hI j e (by have := (List.getElem?_eq_some_iff.1 hj).1; omega) hj
    repeat' (first | (show EndsR _ _ _ _ _ _ _; first | refine EndsR.seq ?_ | refine EndsR.reg ?_ | refine EndsR.yes rfl ?_ | refine EndsR.no rfl ?_ | refine EndsR.skip ?_ | refine EndsR.block ?_ | refine EndsR.endB ?_ | refine EndsR.exit rfl ?_ | refine EndsR.br rfl (fun hc => ?_) (fun hc => ?_) | refine EndsR.scope ?_ | refine EndsR.inScope ?_ | refine EndsR.label ?_ | refine EndsR.ret rfl ?_ | refine EndsR.nil rfl ?_) | (show EndsG _ _ _ _ _ _ _ _ _; first | refine EndsG.mov rfl rfl ?_ | refine EndsG.lload rfl rfl rfl rfl ?_ | refine EndsG.laddr rfl rfl rfl ?_ | (show EndsG _ _ (⟨_, .bin _ _ _, _, _⟩ :: _) _ _ _ _ _ _; first | refine EndsG.lssT rfl rfl rfl (by omega) ?_ | refine EndsG.lssF rfl rfl rfl (by omega) ?_ | refine EndsG.leq rfl rfl rfl (fun hc => ?_) (fun hc => ?_) | refine EndsG.gtr rfl rfl rfl (fun hc => ?_) (fun hc => ?_) | refine EndsG.geq rfl rfl rfl (fun hc => ?_) (fun hc => ?_) | refine EndsG.eql rfl rfl rfl (fun hc => ?_) (fun hc => ?_) | refine EndsG.neq rfl rfl rfl (fun hc => ?_) (fun hc => ?_)) | refine EndsG.skip rfl ?_ | refine EndsG.fin ?_ | refine EndsG.go rfl rfl rfl ?_ | refine EndsG.gono rfl rfl rfl ?_ | refine EndsG.skipn rfl ?_))
    rw [hik]; rfl
end Go.Proofs.Ytgdlplhglpinaaa

/- The document's calls: the run, its end; lists held against each other. -/
set_option linter.unusedVariables false
set_option linter.unusedSimpArgs false
namespace Go.Proofs.Ytgdlplhglpinaaa
open Go Go.Ir

theorem same_i (a : Int) : sameV (.int .i64 a) (.int .i64 a) = true := by simp [sameV, same1]
theorem same_4 (a b c d : Int) : sameV (.agg #[.int .i64 a, .int .i64 b, .int .i64 c, .int .i64 d]) (.agg #[.int .i64 a, .int .i64 b, .int .i64 c, .int .i64 d]) = true := by simp [sameV, sameL, same1]

theorem callsD_le (n : Nat) (p : List Ev) : ∀ i, (callsD n p i).length ≤ i
  | 0 => Nat.le_refl _
  | i + 1 => by
    rw [callsD_succ, List.length_append]
    have := callsD_le n p i
    have h2 : (pickC n p i).length ≤ 1 := by
      unfold pickC
      split
      · split <;> simp
      · simp
    omega

set_option maxHeartbeats 1600000 in
theorem refCalls_spec (lo : Nat) {h : Heap} {v : Value} {l : List Ev} (hv : Sl h 8 v (ecs l)) (hl : l.length ≤ 1000) :
    callR En lo Id.sidingsref08_Calls [v] h = some (callsV h (callsP l)) := by
  refine Exists.elim hv.len fun base hq => Exists.elim hq fun cap hve => ?_
  rw [ecs_length] at hve
  have hA := fun lo k e (hh : Heap) (x : Ext h hh) hk => answer_spec lo (hv.ext x) hl (k := k) (e := e) hk
  have hK := fun lo => refCheck_spec lo hv hl
  subst hve
  refine call_scr rfl Fn.sidingsref08_Calls rfl rfl ?_
  by_cases hok : okAll l
  · rw [okB'_true hok] at hK
    have hK : ∀ lo, callR En lo Id.sidingsref08_Check [.slice base l.length cap] h = some (.int .i64 0, h) := hK
    rw [(calls_D l).1 hok]
    repeat' (first | (show EndsR _ _ _ _ _ _ _; first | refine EndsR.seq ?_ | refine EndsR.reg ?_ | refine EndsR.yes rfl ?_ | refine EndsR.no rfl ?_ | refine EndsR.skip ?_ | refine EndsR.block ?_ | refine EndsR.endB ?_ | refine EndsR.exit rfl ?_ | refine EndsR.br rfl (fun hc => ?_) (fun hc => ?_) | refine EndsR.scope ?_ | refine EndsR.inScope ?_ | refine EndsR.label ?_ | refine EndsR.ret rfl ?_ | refine EndsR.nil rfl ?_) | (show EndsG _ _ _ _ _ _ _ _ _; first | refine EndsG.mov rfl rfl ?_ | refine EndsG.lload rfl rfl rfl rfl ?_ | refine EndsG.laddr rfl rfl rfl ?_ | (show EndsG _ _ (⟨_, .bin _ _ _, _, _⟩ :: _) _ _ _ _ _ _; first | refine EndsG.lss rfl rfl rfl (fun hc => ?_) (fun hc => ?_) | refine EndsG.leq rfl rfl rfl (fun hc => ?_) (fun hc => ?_) | refine EndsG.gtr rfl rfl rfl (fun hc => ?_) (fun hc => ?_) | refine EndsG.geq rfl rfl rfl (fun hc => ?_) (fun hc => ?_) | refine EndsG.eql rfl rfl rfl (fun hc => ?_) (fun hc => ?_) | refine EndsG.neqT rfl rfl rfl (by omega) ?_ | refine EndsG.neqF rfl rfl rfl (by omega) ?_) | refine EndsG.call rfl rfl (hK _) ?_ | refine EndsG.skip rfl ?_ | refine EndsG.fin ?_ | refine EndsG.go rfl rfl rfl ?_ | refine EndsG.gono rfl rfl rfl ?_ | refine EndsG.skipn rfl ?_))
    refine .loop (fun n f H => ∃ (i : Nat) (o : Value), n + i = l.length ∧ f = [(0, .slice base l.length cap), (4, o), (5, N i)] ∧ Ext h H ∧ Out H h.length 10 o (ccs (callsD l.length l i))) (n := l.length)
      ⟨0, _, rfl, rfl, .refl _, Out.nil _ _ _⟩ ?_
    rintro n f H ⟨i, o, hn, rfl, hx, ho⟩ next
    by_cases hi : i < l.length
    · have hgi : l[i]? = some l[i] := List.getElem?_eq_getElem hi
      have hsc := callsD_succ l.length l i
      unfold pickC at hsc
      have hdl := callsD_le l.length l i
      rw [hgi] at hsc
      dsimp only at hsc
      generalize l[i] = e at hgi hsc
      refine Exists.elim (ecs_cells (hv.ext hx) (by omega)) fun a hq => Exists.elim hq fun cap' hq => ?_
      have hva := hq.1
      have hld := hq.2
      injection hva with e1 e2 e3
      subst e1
      have I0 := (hq.2 i e hgi).1
      have I1 := (hq.2 i e hgi).2.1
      have I2 := (ecs_parts (hv.ext hx) rfl hgi).1
      have hAi := fun lo => hA lo i e H hx hgi
      have han := answer_le (t := e.th) hi
      cases hb : e.bk with
      | true =>
        rw [hb] at I1 hsc
        rw [if_pos rfl, List.append_nil] at hsc
        repeat' (first | (show EndsR _ _ _ _ _ _ _; first | refine EndsR.seq ?_ | refine EndsR.reg ?_ | refine EndsR.yes rfl ?_ | refine EndsR.no rfl ?_ | refine EndsR.skip ?_ | refine EndsR.block ?_ | refine EndsR.endB ?_ | refine EndsR.exit rfl ?_ | refine EndsR.br rfl (fun hc => ?_) (fun hc => ?_) | refine EndsR.scope ?_ | refine EndsR.inScope ?_ | refine EndsR.label ?_ | refine EndsR.ret rfl ?_ | refine EndsR.nil rfl ?_) | (show EndsG _ _ _ _ _ _ _ _ _; first | refine EndsG.mov rfl rfl ?_ | refine EndsG.lload rfl rfl rfl rfl ?_ | refine EndsG.laddr rfl rfl rfl ?_ | (show EndsG _ _ (⟨_, .bin _ _ _, _, _⟩ :: _) _ _ _ _ _ _; first | refine EndsG.lssT rfl rfl rfl (by omega) ?_ | refine EndsG.lssF rfl rfl rfl (by omega) ?_ | refine EndsG.leq rfl rfl rfl (fun hc => ?_) (fun hc => ?_) | refine EndsG.gtr rfl rfl rfl (fun hc => ?_) (fun hc => ?_) | refine EndsG.geq rfl rfl rfl (fun hc => ?_) (fun hc => ?_) | refine EndsG.eql rfl rfl rfl (fun hc => ?_) (fun hc => ?_) | refine EndsG.neq rfl rfl rfl (fun hc => ?_) (fun hc => ?_) | refine EndsG.addN rfl rfl rfl (by omega) ?_ | refine EndsG.addN (b := 1) rfl rfl rfl (by omega) ?_ | refine EndsG.subN rfl rfl rfl (by omega) ?_ | refine EndsG.subN (b := 1) rfl rfl rfl (by omega) ?_) | refine EndsG.load rfl rfl (I1) ?_ | refine EndsG.iaddr rfl rfl rfl (hi) ?_ | refine EndsG.skip rfl ?_ | refine EndsG.fin ?_ | refine EndsG.go rfl rfl rfl ?_ | refine EndsG.gono rfl rfl rfl ?_ | refine EndsG.skipn rfl ?_))
        exact next (n - 1) _ _ (by omega) ⟨i + 1, o, by omega, rfl, hx, by rw [hsc]; exact ho⟩
      | false =>
        rw [hb] at I1 hsc
        rw [if_neg (by decide)] at hsc
        unfold mkC at hsc
        have hpl : (ccs (callsD l.length l i)).length + 1 ≤ 2 ^ 30 := by rw [ccs_length]; omega
        generalize answerE l e.th i = j at hAi han hsc
        by_cases hj : j < l.length
        · have hgj : l[j]? = some l[j] := List.getElem?_eq_getElem hj
          rw [hgj] at hsc
          dsimp only at hsc
          generalize l[j] = b at hgj hsc
          have J6 := (ecs_parts (hv.ext hx) rfl hgj).2
          refine Exists.elim (ho.push (bytes := 80) (e := Cl.cs ⟨e.th, e.d, e.h, e.o, e.n, b.rc, b.rn, true, i, j⟩) rfl hx.1 hpl (by decide)) fun o' hq1 => Exists.elim hq1 fun H' hq2 => ?_
          have hap := hq2.1
          have ho' := hq2.2.1
          have hx' := hq2.2.2 h (Nat.le_refl _) hx
          rw [ccs_app, ← hsc] at ho'
          repeat' (first | (show EndsR _ _ _ _ _ _ _; first | refine EndsR.seq ?_ | refine EndsR.reg ?_ | refine EndsR.yes rfl ?_ | refine EndsR.no rfl ?_ | refine EndsR.skip ?_ | refine EndsR.block ?_ | refine EndsR.endB ?_ | refine EndsR.exit rfl ?_ | refine EndsR.br rfl (fun hc => ?_) (fun hc => ?_) | refine EndsR.scope ?_ | refine EndsR.inScope ?_ | refine EndsR.label ?_ | refine EndsR.ret rfl ?_ | refine EndsR.nil rfl ?_) | (show EndsG _ _ _ _ _ _ _ _ _; first | refine EndsG.mov rfl rfl ?_ | refine EndsG.lload rfl rfl rfl rfl ?_ | refine EndsG.laddr rfl rfl rfl ?_ | (show EndsG _ _ (⟨_, .bin _ _ _, _, _⟩ :: _) _ _ _ _ _ _; first | refine EndsG.lssT rfl rfl rfl (by omega) ?_ | refine EndsG.lssF rfl rfl rfl (by omega) ?_ | refine EndsG.leq rfl rfl rfl (fun hc => ?_) (fun hc => ?_) | refine EndsG.gtr rfl rfl rfl (fun hc => ?_) (fun hc => ?_) | refine EndsG.geq rfl rfl rfl (fun hc => ?_) (fun hc => ?_) | refine EndsG.eql rfl rfl rfl (fun hc => ?_) (fun hc => ?_) | refine EndsG.neq rfl rfl rfl (fun hc => ?_) (fun hc => ?_) | refine EndsG.addN rfl rfl rfl (by omega) ?_ | refine EndsG.addN (b := 1) rfl rfl rfl (by omega) ?_ | refine EndsG.subN rfl rfl rfl (by omega) ?_ | refine EndsG.subN (b := 1) rfl rfl rfl (by omega) ?_) | (show EndsG _ _ (⟨_, .load _ _, _, _⟩ :: _) _ _ _ _ _ _; first | refine EndsG.load rfl rfl (I1) ?_ | refine EndsG.load rfl rfl (J6) ?_) | refine EndsG.call rfl rfl (hAi _) ?_ | (show EndsG _ _ (⟨_, .iaddr _ _ _ _, _, _⟩ :: _) _ _ _ _ _ _; first | refine EndsG.iaddr rfl rfl rfl (hi) ?_ | refine EndsG.iaddr rfl rfl rfl (hj) ?_) | refine EndsG.app rfl rfl rfl (hap) ?_ | refine EndsG.loadc rfl rfl I0 (one_take I0) (same_i _) ?_ | refine EndsG.loadc rfl rfl I2 (one_take I2) (same_4 _ _ _ _) ?_ | refine EndsG.skip rfl ?_ | refine EndsG.fin ?_ | refine EndsG.go rfl rfl rfl ?_ | refine EndsG.gono rfl rfl rfl ?_ | refine EndsG.skipn rfl ?_))
          exact next (n - 1) _ _ (by omega) ⟨i + 1, o', by omega, rfl, hx', ho'⟩
        · have hjl : j = l.length := by omega
          rw [List.getElem?_eq_none (show l.length ≤ j by omega)] at hsc
          dsimp only at hsc
          refine Exists.elim (ho.push (bytes := 80) (e := Cl.cs ⟨e.th, e.d, e.h, e.o, e.n, 0, 0, false, i, l.length⟩) rfl hx.1 hpl (by decide)) fun o' hq1 => Exists.elim hq1 fun H' hq2 => ?_
          have hap := hq2.1
          have ho' := hq2.2.1
          have hx' := hq2.2.2 h (Nat.le_refl _) hx
          rw [ccs_app, ← hsc] at ho'
          subst hjl
          repeat' (first | (show EndsR _ _ _ _ _ _ _; first | refine EndsR.seq ?_ | refine EndsR.reg ?_ | refine EndsR.yes rfl ?_ | refine EndsR.no rfl ?_ | refine EndsR.skip ?_ | refine EndsR.block ?_ | refine EndsR.endB ?_ | refine EndsR.exit rfl ?_ | refine EndsR.br rfl (fun hc => ?_) (fun hc => ?_) | refine EndsR.scope ?_ | refine EndsR.inScope ?_ | refine EndsR.label ?_ | refine EndsR.ret rfl ?_ | refine EndsR.nil rfl ?_) | (show EndsG _ _ _ _ _ _ _ _ _; first | refine EndsG.mov rfl rfl ?_ | refine EndsG.lload rfl rfl rfl rfl ?_ | refine EndsG.laddr rfl rfl rfl ?_ | (show EndsG _ _ (⟨_, .bin _ _ _, _, _⟩ :: _) _ _ _ _ _ _; first | refine EndsG.lssT rfl rfl rfl (by omega) ?_ | refine EndsG.lssF rfl rfl rfl (by omega) ?_ | refine EndsG.leq rfl rfl rfl (fun hc => ?_) (fun hc => ?_) | refine EndsG.gtr rfl rfl rfl (fun hc => ?_) (fun hc => ?_) | refine EndsG.geq rfl rfl rfl (fun hc => ?_) (fun hc => ?_) | refine EndsG.eql rfl rfl rfl (fun hc => ?_) (fun hc => ?_) | refine EndsG.neq rfl rfl rfl (fun hc => ?_) (fun hc => ?_) | refine EndsG.addN rfl rfl rfl (by omega) ?_ | refine EndsG.addN (b := 1) rfl rfl rfl (by omega) ?_ | refine EndsG.subN rfl rfl rfl (by omega) ?_ | refine EndsG.subN (b := 1) rfl rfl rfl (by omega) ?_) | refine EndsG.load rfl rfl (I1) ?_ | refine EndsG.call rfl rfl (hAi _) ?_ | refine EndsG.iaddr rfl rfl rfl (hi) ?_ | refine EndsG.app rfl rfl rfl (hap) ?_ | refine EndsG.loadc rfl rfl I0 (one_take I0) (same_i _) ?_ | refine EndsG.loadc rfl rfl I2 (one_take I2) (same_4 _ _ _ _) ?_ | refine EndsG.skip rfl ?_ | refine EndsG.fin ?_ | refine EndsG.go rfl rfl rfl ?_ | refine EndsG.gono rfl rfl rfl ?_ | refine EndsG.skipn rfl ?_))
          exact next (n - 1) _ _ (by omega) ⟨i + 1, o', by omega, rfl, hx', ho'⟩
    · have hil : i = l.length := by omega
      subst hil
      repeat' (first | (show EndsR _ _ _ _ _ _ _; first | refine EndsR.seq ?_ | refine EndsR.reg ?_ | refine EndsR.yes rfl ?_ | refine EndsR.no rfl ?_ | refine EndsR.skip ?_ | refine EndsR.block ?_ | refine EndsR.endB ?_ | refine EndsR.exit rfl ?_ | refine EndsR.br rfl (fun hc => ?_) (fun hc => ?_) | refine EndsR.scope ?_ | refine EndsR.inScope ?_ | refine EndsR.label ?_ | refine EndsR.ret rfl ?_ | refine EndsR.nil rfl ?_) | (show EndsG _ _ _ _ _ _ _ _ _; first | refine EndsG.mov rfl rfl ?_ | refine EndsG.lload rfl rfl rfl rfl ?_ | refine EndsG.laddr rfl rfl rfl ?_ | (show EndsG _ _ (⟨_, .bin _ _ _, _, _⟩ :: _) _ _ _ _ _ _; first | refine EndsG.lssT rfl rfl rfl (by omega) ?_ | refine EndsG.lssF rfl rfl rfl (by omega) ?_ | refine EndsG.leq rfl rfl rfl (fun hc => ?_) (fun hc => ?_) | refine EndsG.gtr rfl rfl rfl (fun hc => ?_) (fun hc => ?_) | refine EndsG.geq rfl rfl rfl (fun hc => ?_) (fun hc => ?_) | refine EndsG.eql rfl rfl rfl (fun hc => ?_) (fun hc => ?_) | refine EndsG.neq rfl rfl rfl (fun hc => ?_) (fun hc => ?_)) | refine EndsG.skip rfl ?_ | refine EndsG.fin ?_ | refine EndsG.go rfl rfl rfl ?_ | refine EndsG.gono rfl rfl rfl ?_ | refine EndsG.skipn rfl ?_))
      exact ho.tidy2 (u := .int .i64 0) (ccs_flat _) rfl (fun a l c e => by cases e)
  · rw [okB'_false hok] at hK
    have hK : ∀ lo, callR En lo Id.sidingsref08_Check [.slice base l.length cap] h = some (.int .i64 2, h) := hK
    rw [(calls_D l).2 hok]
    repeat' (first | (show EndsR _ _ _ _ _ _ _; first | refine EndsR.seq ?_ | refine EndsR.reg ?_ | refine EndsR.yes rfl ?_ | refine EndsR.no rfl ?_ | refine EndsR.skip ?_ | refine EndsR.block ?_ | refine EndsR.endB ?_ | refine EndsR.exit rfl ?_ | refine EndsR.br rfl (fun hc => ?_) (fun hc => ?_) | refine EndsR.scope ?_ | refine EndsR.inScope ?_ | refine EndsR.label ?_ | refine EndsR.ret rfl ?_ | refine EndsR.nil rfl ?_) | (show EndsG _ _ _ _ _ _ _ _ _; first | refine EndsG.mov rfl rfl ?_ | refine EndsG.lload rfl rfl rfl rfl ?_ | refine EndsG.laddr rfl rfl rfl ?_ | (show EndsG _ _ (⟨_, .bin _ _ _, _, _⟩ :: _) _ _ _ _ _ _; first | refine EndsG.lss rfl rfl rfl (fun hc => ?_) (fun hc => ?_) | refine EndsG.leq rfl rfl rfl (fun hc => ?_) (fun hc => ?_) | refine EndsG.gtr rfl rfl rfl (fun hc => ?_) (fun hc => ?_) | refine EndsG.geq rfl rfl rfl (fun hc => ?_) (fun hc => ?_) | refine EndsG.eql rfl rfl rfl (fun hc => ?_) (fun hc => ?_) | refine EndsG.neqT rfl rfl rfl (by omega) ?_ | refine EndsG.neqF rfl rfl rfl (by omega) ?_) | refine EndsG.call rfl rfl (hK _) ?_ | refine EndsG.skip rfl ?_ | refine EndsG.fin ?_ | refine EndsG.go rfl rfl rfl ?_ | refine EndsG.gono rfl rfl rfl ?_ | refine EndsG.skipn rfl ?_))
    rfl

theorem refCheck_eq (lo : Nat) {h : Heap} {v : Value} {l : List Ev} (hv : Sl h 8 v (ecs l)) (hl : l.length ≤ 1000) :
    callR En lo Id.sidingsref08_Check [v] h = some (.int .i64 (if (callsP l).isSome then 0 else 2), h) := by
  rw [refCheck_spec lo hv hl]
  by_cases hok : okAll l
  · rw [okB'_true hok, (calls_D l).1 hok]; rfl
  · rw [okB'_false hok, (calls_D l).2 hok]; rfl

theorem told_spec (lo : Nat) (h : Heap) (c : Cl) : callR En lo Id.sidingslaw08_told [.agg c.cs.toArray] h = some (.agg c.cs.toArray, h) := callR_iff.2 ⟨60, by kernel_rfl⟩

theorem all_spec (lo : Nat) {h : Heap} {v : Value} {C : List Cl} (hv : Sl h 10 v (ccs C)) (hl : C.length ≤ 1000) : callR En lo Id.sidingslaw08_all [v] h = some (made h 10 (ccs C)) := by
  refine Exists.elim hv.len fun base hq => Exists.elim hq fun cap hve => ?_
  rw [ccs_length] at hve
  subst hve
  refine call_scr rfl Fn.sidingslaw08_all rfl rfl ?_
  repeat' (first | (show EndsR _ _ _ _ _ _ _; first | refine EndsR.seq ?_ | refine EndsR.reg ?_ | refine EndsR.yes rfl ?_ | refine EndsR.no rfl ?_ | refine EndsR.skip ?_ | refine EndsR.block ?_ | refine EndsR.endB ?_ | refine EndsR.exit rfl ?_ | refine EndsR.br rfl (fun hc => ?_) (fun hc => ?_) | refine EndsR.scope ?_ | refine EndsR.inScope ?_ | refine EndsR.label ?_ | refine EndsR.ret rfl ?_ | refine EndsR.nil rfl ?_) | (show EndsG _ _ _ _ _ _ _ _ _; first | refine EndsG.mov rfl rfl ?_ | refine EndsG.lload rfl rfl rfl rfl ?_ | refine EndsG.laddr rfl rfl rfl ?_ | (show EndsG _ _ (⟨_, .bin _ _ _, _, _⟩ :: _) _ _ _ _ _ _; first | refine EndsG.lss rfl rfl rfl (fun hc => ?_) (fun hc => ?_) | refine EndsG.leq rfl rfl rfl (fun hc => ?_) (fun hc => ?_) | refine EndsG.gtr rfl rfl rfl (fun hc => ?_) (fun hc => ?_) | refine EndsG.geq rfl rfl rfl (fun hc => ?_) (fun hc => ?_) | refine EndsG.eql rfl rfl rfl (fun hc => ?_) (fun hc => ?_) | refine EndsG.neq rfl rfl rfl (fun hc => ?_) (fun hc => ?_)) | refine EndsG.skip rfl ?_ | refine EndsG.fin ?_ | refine EndsG.go rfl rfl rfl ?_ | refine EndsG.gono rfl rfl rfl ?_ | refine EndsG.skipn rfl ?_))
  refine .loop (fun n f H => ∃ (i : Nat) (o : Value), n + i = C.length ∧ f = [(0, .slice base C.length cap), (3, o), (4, N i)] ∧ Ext h H ∧ Out H h.length 10 o (ccs (C.take i))) (n := C.length)
    ⟨0, _, rfl, rfl, .refl _, Out.nil _ _ _⟩ ?_
  rintro n f H ⟨i, o, hn, rfl, hx, ho⟩ next
  by_cases hi : i < C.length
  · have hgi : C[i]? = some C[i] := List.getElem?_eq_getElem hi
    have htk := List.take_succ_eq_append_getElem hi
    generalize C[i] = c at hgi htk
    refine Exists.elim (ccs_cells (hv.ext hx) (by omega)) fun a hq => Exists.elim hq fun cap' hq => ?_
    have hva := hq.1
    injection hva with e1 e2 e3
    subst e1
    have IA := (hq.2 i c hgi).2.2.2.2
    have hpl : (ccs (C.take i)).length + 1 ≤ 2 ^ 30 := by rw [ccs_length, List.length_take]; omega
    refine Exists.elim (ho.push (bytes := 80) (e := c.cs) rfl hx.1 hpl (by decide)) fun o' hq1 => Exists.elim hq1 fun H' hq2 => ?_
    have hap := hq2.1
    have ho' := hq2.2.1
    have hx' := hq2.2.2 h (Nat.le_refl _) hx
    rw [ccs_app, ← htk] at ho'
    repeat' (first | (show EndsR _ _ _ _ _ _ _; first | refine EndsR.seq ?_ | refine EndsR.reg ?_ | refine EndsR.yes rfl ?_ | refine EndsR.no rfl ?_ | refine EndsR.skip ?_ | refine EndsR.block ?_ | refine EndsR.endB ?_ | refine EndsR.exit rfl ?_ | refine EndsR.br rfl (fun hc => ?_) (fun hc => ?_) | refine EndsR.scope ?_ | refine EndsR.inScope ?_ | refine EndsR.label ?_ | refine EndsR.ret rfl ?_ | refine EndsR.nil rfl ?_) | (show EndsG _ _ _ _ _ _ _ _ _; first | refine EndsG.mov rfl rfl ?_ | refine EndsG.lload rfl rfl rfl rfl ?_ | refine EndsG.laddr rfl rfl rfl ?_ | (show EndsG _ _ (⟨_, .bin _ _ _, _, _⟩ :: _) _ _ _ _ _ _; first | refine EndsG.lssT rfl rfl rfl (by omega) ?_ | refine EndsG.lssF rfl rfl rfl (by omega) ?_ | refine EndsG.leq rfl rfl rfl (fun hc => ?_) (fun hc => ?_) | refine EndsG.gtr rfl rfl rfl (fun hc => ?_) (fun hc => ?_) | refine EndsG.geq rfl rfl rfl (fun hc => ?_) (fun hc => ?_) | refine EndsG.eql rfl rfl rfl (fun hc => ?_) (fun hc => ?_) | refine EndsG.neq rfl rfl rfl (fun hc => ?_) (fun hc => ?_) | refine EndsG.addN rfl rfl rfl (by omega) ?_ | refine EndsG.addN (b := 1) rfl rfl rfl (by omega) ?_ | refine EndsG.subN rfl rfl rfl (by omega) ?_ | refine EndsG.subN (b := 1) rfl rfl rfl (by omega) ?_) | refine EndsG.load rfl rfl (IA) ?_ | refine EndsG.call rfl rfl (told_spec _ _ _) ?_ | refine EndsG.iaddr rfl rfl rfl (hi) ?_ | refine EndsG.app rfl rfl rfl (hap) ?_ | refine EndsG.skip rfl ?_ | refine EndsG.fin ?_ | refine EndsG.go rfl rfl rfl ?_ | refine EndsG.gono rfl rfl rfl ?_ | refine EndsG.skipn rfl ?_))
    exact next (n - 1) _ _ (by omega) ⟨i + 1, o', by omega, rfl, hx', ho'⟩
  · rw [List.take_of_length_le (by omega)] at ho
    repeat' (first | (show EndsR _ _ _ _ _ _ _; first | refine EndsR.seq ?_ | refine EndsR.reg ?_ | refine EndsR.yes rfl ?_ | refine EndsR.no rfl ?_ | refine EndsR.skip ?_ | refine EndsR.block ?_ | refine EndsR.endB ?_ | refine EndsR.exit rfl ?_ | refine EndsR.br rfl (fun hc => ?_) (fun hc => ?_) | refine EndsR.scope ?_ | refine EndsR.inScope ?_ | refine EndsR.label ?_ | refine EndsR.ret rfl ?_ | refine EndsR.nil rfl ?_) | (show EndsG _ _ _ _ _ _ _ _ _; first | refine EndsG.mov rfl rfl ?_ | refine EndsG.lload rfl rfl rfl rfl ?_ | refine EndsG.laddr rfl rfl rfl ?_ | (show EndsG _ _ (⟨_, .bin _ _ _, _, _⟩ :: _) _ _ _ _ _ _; first | refine EndsG.lssT rfl rfl rfl (by omega) ?_ | refine EndsG.lssF rfl rfl rfl (by omega) ?_ | refine EndsG.leq rfl rfl rfl (fun hc => ?_) (fun hc => ?_) | refine EndsG.gtr rfl rfl rfl (fun hc => ?_) (fun hc => ?_) | refine EndsG.geq rfl rfl rfl (fun hc => ?_) (fun hc => ?_) | refine EndsG.eql rfl rfl rfl (fun hc => ?_) (fun hc => ?_) | refine EndsG.neq rfl rfl rfl (fun hc => ?_) (fun hc => ?_)) | refine EndsG.skip rfl ?_ | refine EndsG.fin ?_ | refine EndsG.go rfl rfl rfl ?_ | refine EndsG.gono rfl rfl rfl ?_ | refine EndsG.skipn rfl ?_))
    exact ho.tidy (ccs_flat C)

theorem same_spec (lo : Nat) {h : Heap} {v w : Value} {C : List Cl} (hv : Sl h 10 v (ccs C)) (hw : Sl h 10 w (ccs C)) (hl : C.length ≤ 1000) : callR En lo Id.sidingsref08_Same [v, w] h = some (.bool true, h) := by
  refine Exists.elim hv.len fun base hq => Exists.elim hq fun cap hve => ?_
  refine Exists.elim hw.len fun bw hq => Exists.elim hq fun cw hwe => ?_
  rw [ccs_length] at hve hwe
  subst hve hwe
  refine call_scr rfl Fn.sidingsref08_Same rfl rfl ?_
  repeat' (first | (show EndsR _ _ _ _ _ _ _; first | refine EndsR.seq ?_ | refine EndsR.reg ?_ | refine EndsR.yes rfl ?_ | refine EndsR.no rfl ?_ | refine EndsR.skip ?_ | refine EndsR.block ?_ | refine EndsR.endB ?_ | refine EndsR.exit rfl ?_ | refine EndsR.br rfl (fun hc => ?_) (fun hc => ?_) | refine EndsR.scope ?_ | refine EndsR.inScope ?_ | refine EndsR.label ?_ | refine EndsR.ret rfl ?_ | refine EndsR.nil rfl ?_) | (show EndsG _ _ _ _ _ _ _ _ _; first | refine EndsG.mov rfl rfl ?_ | refine EndsG.lload rfl rfl rfl rfl ?_ | refine EndsG.laddr rfl rfl rfl ?_ | (show EndsG _ _ (⟨_, .bin _ _ _, _, _⟩ :: _) _ _ _ _ _ _; first | refine EndsG.lss rfl rfl rfl (fun hc => ?_) (fun hc => ?_) | refine EndsG.leq rfl rfl rfl (fun hc => ?_) (fun hc => ?_) | refine EndsG.gtr rfl rfl rfl (fun hc => ?_) (fun hc => ?_) | refine EndsG.geq rfl rfl rfl (fun hc => ?_) (fun hc => ?_) | refine EndsG.eql rfl rfl rfl (fun hc => ?_) (fun hc => ?_) | refine EndsG.neqT rfl rfl rfl (by omega) ?_ | refine EndsG.neqF rfl rfl rfl (by omega) ?_) | refine EndsG.skip rfl ?_ | refine EndsG.fin ?_ | refine EndsG.go rfl rfl rfl ?_ | refine EndsG.gono rfl rfl rfl ?_ | refine EndsG.skipn rfl ?_))
  refine .loop (fun n f H => H = h ∧ ∃ (i : Nat), n + i = C.length ∧ f = [(0, .slice base C.length cap), (1, .slice bw C.length cw), (5, N i)]) (n := C.length) ⟨rfl, 0, rfl, rfl⟩ ?_
  rintro n f H ⟨rfl, i, hn, rfl⟩ next
  by_cases hi : i < C.length
  · have hgi : C[i]? = some C[i] := List.getElem?_eq_getElem hi
    generalize C[i] = c at hgi
    refine Exists.elim (ccs_cells hv (by omega)) fun a hq => Exists.elim hq fun cap' hq => ?_
    have hva := hq.1
    injection hva with e1 e2 e3
    subst e1
    have IA := (hq.2 i c hgi).2.2.2.2
    refine Exists.elim (ccs_cells hw (by omega)) fun b hq => Exists.elim hq fun cap2 hq => ?_
    have hvb := hq.1
    injection hvb with e4 e5 e6
    subst e4
    have IB := (hq.2 i c hgi).2.2.2.2
    repeat' (first | (show EndsR _ _ _ _ _ _ _; first | refine EndsR.seq ?_ | refine EndsR.reg ?_ | refine EndsR.yes rfl ?_ | refine EndsR.no rfl ?_ | refine EndsR.skip ?_ | refine EndsR.block ?_ | refine EndsR.endB ?_ | refine EndsR.exit rfl ?_ | refine EndsR.br rfl (fun hc => ?_) (fun hc => ?_) | refine EndsR.scope ?_ | refine EndsR.inScope ?_ | refine EndsR.label ?_ | refine EndsR.ret rfl ?_ | refine EndsR.nil rfl ?_) | (show EndsG _ _ _ _ _ _ _ _ _; first | refine EndsG.mov rfl rfl ?_ | refine EndsG.lload rfl rfl rfl rfl ?_ | refine EndsG.laddr rfl rfl rfl ?_ | (show EndsG _ _ (⟨_, .bin _ _ _, _, _⟩ :: _) _ _ _ _ _ _; first | refine EndsG.lssT rfl rfl rfl (by omega) ?_ | refine EndsG.lssF rfl rfl rfl (by omega) ?_ | refine EndsG.leq rfl rfl rfl (fun hc => ?_) (fun hc => ?_) | refine EndsG.gtr rfl rfl rfl (fun hc => ?_) (fun hc => ?_) | refine EndsG.geq rfl rfl rfl (fun hc => ?_) (fun hc => ?_) | refine EndsG.eql rfl rfl rfl (fun hc => ?_) (fun hc => ?_) | refine EndsG.neq rfl rfl rfl (fun hc => ?_) (fun hc => ?_) | refine EndsG.addN rfl rfl rfl (by omega) ?_ | refine EndsG.addN (b := 1) rfl rfl rfl (by omega) ?_ | refine EndsG.subN rfl rfl rfl (by omega) ?_ | refine EndsG.subN (b := 1) rfl rfl rfl (by omega) ?_) | (show EndsG _ _ (⟨_, .load _ _, _, _⟩ :: _) _ _ _ _ _ _; first | refine EndsG.load rfl rfl (IA) ?_ | refine EndsG.load rfl rfl (IB) ?_) | refine EndsG.iaddr rfl rfl rfl (hi) ?_ | refine EndsG.eqc rfl rfl rfl rfl (fun hc => ?_) (fun hc => ?_) | refine EndsG.skip rfl ?_ | refine EndsG.fin ?_ | refine EndsG.go rfl rfl rfl ?_ | refine EndsG.gono rfl rfl rfl ?_ | refine EndsG.skipn rfl ?_))
    · simp at hc
    · exact next (n - 1) _ _ (by omega) ⟨rfl, i + 1, by omega, rfl⟩
  · repeat' (first | (show EndsR _ _ _ _ _ _ _; first | refine EndsR.seq ?_ | refine EndsR.reg ?_ | refine EndsR.yes rfl ?_ | refine EndsR.no rfl ?_ | refine EndsR.skip ?_ | refine EndsR.block ?_ | refine EndsR.endB ?_ | refine EndsR.exit rfl ?_ | refine EndsR.br rfl (fun hc => ?_) (fun hc => ?_) | refine EndsR.scope ?_ | refine EndsR.inScope ?_ | refine EndsR.label ?_ | refine EndsR.ret rfl ?_ | refine EndsR.nil rfl ?_) | (show EndsG _ _ _ _ _ _ _ _ _; first | refine EndsG.mov rfl rfl ?_ | refine EndsG.lload rfl rfl rfl rfl ?_ | refine EndsG.laddr rfl rfl rfl ?_ | (show EndsG _ _ (⟨_, .bin _ _ _, _, _⟩ :: _) _ _ _ _ _ _; first | refine EndsG.lssT rfl rfl rfl (by omega) ?_ | refine EndsG.lssF rfl rfl rfl (by omega) ?_ | refine EndsG.leq rfl rfl rfl (fun hc => ?_) (fun hc => ?_) | refine EndsG.gtr rfl rfl rfl (fun hc => ?_) (fun hc => ?_) | refine EndsG.geq rfl rfl rfl (fun hc => ?_) (fun hc => ?_) | refine EndsG.eql rfl rfl rfl (fun hc => ?_) (fun hc => ?_) | refine EndsG.neq rfl rfl rfl (fun hc => ?_) (fun hc => ?_)) | refine EndsG.skip rfl ?_ | refine EndsG.fin ?_ | refine EndsG.go rfl rfl rfl ?_ | refine EndsG.gono rfl rfl rfl ?_ | refine EndsG.skipn rfl ?_))
    rfl
end Go.Proofs.Ytgdlplhglpinaaa

/- Handles, as the program tells them: sorted, none twice. -/
set_option linter.unusedVariables false
set_option linter.unusedSimpArgs false
namespace Go.Proofs.Ytgdlplhglpinaaa
open Go Go.Ir

def ddS (D : List Int) (x : Int) : List Int := if D.getLast? = some x then D else D ++ [x]
def dd (s : List Int) : List Int := s.foldl ddS []

theorem dd_app (p : List Int) (x : Int) : dd (p ++ [x]) = ddS (dd p) x := by simp [dd, List.foldl_append]
theorem ddS_last (D : List Int) (x : Int) : (ddS D x).getLast? = some x := by
  unfold ddS
  split
  · assumption
  · simp
theorem dd_take {s : List Int} {q : Nat} {x : Int} (h : s[q]? = some x) : dd (s.take (q + 1)) = ddS (dd (s.take q)) x := by
  obtain ⟨hq, he⟩ := List.getElem?_eq_some_iff.1 h
  rw [List.take_succ_eq_append_getElem hq, he, dd_app]
theorem dd_last {s : List Int} {q : Nat} {x : Int} (h : s[q]? = some x) : (dd (s.take (q + 1))).getLast? = some x := by rw [dd_take h, ddS_last]

theorem ints_get {s : List Int} {q : Nat} {x : Int} (h : s[q]? = some x) : (ints s)[q]? = some (.int .i64 x) := by simp [ints, h]
theorem ld_ints {K : Heap} {b o : Nat} {t : Option Nat} {s : List Int} {ro : Bool} {x : Int} (hb : K[b]? = some (.row (ints s) ro)) (hx : s[o]? = some x) : loadV K none ⟨b, o, t⟩ = some (.int .i64 x) := ld_row hb (ints_get hx)

theorem islice_from {b o len k : Nat} (h : k ≤ len) : islice 1 (.slice (some (loose b o)) len 1) (some (.int .i64 (k : Nat))) none none = some (.slice (some (loose b (o + k * 1))) (len - k) 1) := by
  have hb : ibounds len len (some (.int .i64 (k : Nat))) none none = some (k, len, len) := by
    simp only [ibounds, ibMax, ibHigh, ibLow, ibound]
    rw [if_pos ⟨by omega, by omega⟩]
    simp
  simp only [islice, loose, hb, if_true]
theorem islice_to {b o len k : Nat} (h : k ≤ len) : islice 1 (.slice (some (loose b o)) len 1) none (some (.int .i64 (k : Nat))) none = some (.slice (some (loose b (o + 0 * 1))) (k - 0) 1) := by
  have hb : ibounds len len none (some (.int .i64 (k : Nat))) none = some (0, k, len) := by
    simp only [ibounds, ibMax, ibHigh, ibLow, ibound]
    rw [if_pos ⟨by omega, by omega⟩]
    simp
  simp only [islice, loose, hb, if_true]

theorem repeat_ints : ∀ n, repeatL [Value.int .i64 0] n = ints (List.replicate n 0)
  | 0 => rfl
  | n + 1 => by
    have := repeat_ints n
    unfold ints at this ⊢
    rw [List.replicate_succ, List.map_cons, repeatL, this]; rfl

theorem ints_app (a b : List Int) : ints (a ++ b) = ints a ++ ints b := by simp [ints]
theorem ints_len (a : List Int) : (ints a).length = a.length := by simp [ints]

/-- slices.Compact, in place. -/
theorem compact_spec (lo : Nat) {K : Heap} {b : Nat} {s : List Int} (hlo : lo ≤ b) (hb : K[b]? = some (.row (ints s) false)) (hl : s.length ≤ 1000) :
    callR En lo Id.slices_Compact_Lint [.slice (some (loose b 0)) s.length 1] K = some (.slice (some (loose b 0)) (dd s).length 1, K.set b (.row (ints (dd s ++ List.replicate (s.length - (dd s).length) 0)) false)) := by
  have hbl := hlt_of hb
  have hsame : K.set b (.row (ints s) false) = K := by
    refine List.ext_getElem? fun i => ?_
    by_cases hi : b = i
    · subst hi; rw [hs_same hbl, hb]
    · rw [List.getElem?_set_ne hi]
  have hnil : ∀ D : List Int, s = D → dd s = D → callR En lo Id.slices_Compact_Lint [.slice (some (loose b 0)) s.length 1] K = some (.slice (some (loose b 0)) s.length 1, K) →
      callR En lo Id.slices_Compact_Lint [.slice (some (loose b 0)) s.length 1] K = some (.slice (some (loose b 0)) (dd s).length 1, K.set b (.row (ints (dd s ++ List.replicate (s.length - (dd s).length) 0)) false)) := fun D h1 h2 h3 => by
    rw [h3, h2, ← h1, Nat.sub_self, List.replicate_zero, List.append_nil, hsame]
  by_cases h2 : s.length < 2
  · refine hnil s rfl ?_ ?_
    · match s, h2 with
      | [], _ => rfl
      | [x], _ => rfl
    · refine call_of rfl Fn.slices_Compact_Lint rfl rfl ?_
      repeat' (first | (show EndsR _ _ _ _ _ _ _; first | refine EndsR.seq ?_ | refine EndsR.reg ?_ | refine EndsR.yes rfl ?_ | refine EndsR.no rfl ?_ | refine EndsR.skip ?_ | refine EndsR.block ?_ | refine EndsR.endB ?_ | refine EndsR.exit rfl ?_ | refine EndsR.br rfl (fun hc => ?_) (fun hc => ?_) | refine EndsR.scope ?_ | refine EndsR.inScope ?_ | refine EndsR.label ?_ | refine EndsR.ret rfl ?_ | refine EndsR.nil rfl ?_) | (show EndsG _ _ _ _ _ _ _ _ _; first | refine EndsG.mov rfl rfl ?_ | refine EndsG.lload rfl rfl rfl rfl ?_ | refine EndsG.laddr rfl rfl rfl ?_ | (show EndsG _ _ (⟨_, .bin _ _ _, _, _⟩ :: _) _ _ _ _ _ _; first | refine EndsG.lssT rfl rfl rfl (by omega) ?_ | refine EndsG.lssF rfl rfl rfl (by omega) ?_ | refine EndsG.leq rfl rfl rfl (fun hc => ?_) (fun hc => ?_) | refine EndsG.gtr rfl rfl rfl (fun hc => ?_) (fun hc => ?_) | refine EndsG.geq rfl rfl rfl (fun hc => ?_) (fun hc => ?_) | refine EndsG.eql rfl rfl rfl (fun hc => ?_) (fun hc => ?_) | refine EndsG.neq rfl rfl rfl (fun hc => ?_) (fun hc => ?_)) | refine EndsG.skip rfl ?_ | refine EndsG.fin ?_ | refine EndsG.go rfl rfl rfl ?_ | refine EndsG.gono rfl rfl rfl ?_ | refine EndsG.skipn rfl ?_))
      rfl
  · refine call_of rfl Fn.slices_Compact_Lint rfl rfl ?_
    repeat' (first | (show EndsR _ _ _ _ _ _ _; first | refine EndsR.seq ?_ | refine EndsR.reg ?_ | refine EndsR.yes rfl ?_ | refine EndsR.no rfl ?_ | refine EndsR.skip ?_ | refine EndsR.block ?_ | refine EndsR.endB ?_ | refine EndsR.exit rfl ?_ | refine EndsR.br rfl (fun hc => ?_) (fun hc => ?_) | refine EndsR.scope ?_ | refine EndsR.inScope ?_ | refine EndsR.label ?_ | refine EndsR.ret rfl ?_ | refine EndsR.nil rfl ?_) | (show EndsG _ _ _ _ _ _ _ _ _; first | refine EndsG.mov rfl rfl ?_ | refine EndsG.lload rfl rfl rfl rfl ?_ | refine EndsG.laddr rfl rfl rfl ?_ | (show EndsG _ _ (⟨_, .bin _ _ _, _, _⟩ :: _) _ _ _ _ _ _; first | refine EndsG.lssT rfl rfl rfl (by omega) ?_ | refine EndsG.lssF rfl rfl rfl (by omega) ?_ | refine EndsG.leq rfl rfl rfl (fun hc => ?_) (fun hc => ?_) | refine EndsG.gtr rfl rfl rfl (fun hc => ?_) (fun hc => ?_) | refine EndsG.geq rfl rfl rfl (fun hc => ?_) (fun hc => ?_) | refine EndsG.eql rfl rfl rfl (fun hc => ?_) (fun hc => ?_) | refine EndsG.neq rfl rfl rfl (fun hc => ?_) (fun hc => ?_)) | refine EndsG.skip rfl ?_ | refine EndsG.fin ?_ | refine EndsG.go rfl rfl rfl ?_ | refine EndsG.gono rfl rfl rfl ?_ | refine EndsG.skipn rfl ?_))
    refine .loop (fun n f H => H = K ∧ ∃ k : Nat, n + k = s.length ∧ 1 ≤ k ∧ f = [(0, .slice (some (loose b 0)) s.length 1), (3, N k)] ∧ dd (s.take k) = s.take k) (n := s.length - 1) ⟨rfl, 1, by omega, Nat.le_refl _, rfl, ?_⟩ ?_
    · match s, h2 with
      | [], h => simp at h
      | x :: r, _ => rfl
    rintro n f H ⟨rfl, k, hn, hk1, rfl, hD⟩ next
    by_cases hk : k < s.length
    · have hgk : s[k]? = some s[k] := List.getElem?_eq_getElem hk
      have hgp : s[k - 1]? = some (s[k - 1]'(by omega)) := List.getElem?_eq_getElem (by omega)
      have hdk := dd_take hgk
      have hlast := dd_last hgp
      rw [show k - 1 + 1 = k by omega, hD] at hlast
      rw [hD] at hdk
      have htk := List.take_succ_eq_append_getElem hk
      generalize s[k] = x at hgk hdk htk
      generalize s[k - 1]'(by omega) = y at hgp hlast
      have L1 : loadV H none ⟨b, 0 + k * 1, none⟩ = some (.int .i64 x) := ld_ints hb (by rw [Nat.zero_add, Nat.mul_one]; exact hgk)
      have L2 : loadV H none ⟨b, 0 + (k - 1) * 1, none⟩ = some (.int .i64 y) := ld_ints hb (by rw [Nat.zero_add, Nat.mul_one]; exact hgp)
      by_cases hxy : x = y
      · subst hxy
        have hD1 : dd (s.take (k + 1)) = s.take k := by rw [hdk]; unfold ddS; rw [if_pos hlast]
        repeat' (first | (show EndsR _ _ _ _ _ _ _; first | refine EndsR.seq ?_ | refine EndsR.reg ?_ | refine EndsR.yes rfl ?_ | refine EndsR.no rfl ?_ | refine EndsR.skip ?_ | refine EndsR.block ?_ | refine EndsR.endB ?_ | refine EndsR.exit rfl ?_ | refine EndsR.br rfl (fun hc => ?_) (fun hc => ?_) | refine EndsR.scope ?_ | refine EndsR.inScope ?_ | refine EndsR.label ?_ | refine EndsR.ret rfl ?_ | refine EndsR.nil rfl ?_) | (show EndsG _ _ _ _ _ _ _ _ _; first | refine EndsG.mov rfl rfl ?_ | refine EndsG.lload rfl rfl rfl rfl ?_ | refine EndsG.laddr rfl rfl rfl ?_ | (show EndsG _ _ (⟨_, .bin _ _ _, _, _⟩ :: _) _ _ _ _ _ _; first | refine EndsG.lssT rfl rfl rfl (by omega) ?_ | refine EndsG.lssF rfl rfl rfl (by omega) ?_ | refine EndsG.leq rfl rfl rfl (fun hc => ?_) (fun hc => ?_) | refine EndsG.gtr rfl rfl rfl (fun hc => ?_) (fun hc => ?_) | refine EndsG.geq rfl rfl rfl (fun hc => ?_) (fun hc => ?_) | refine EndsG.eqlT rfl rfl rfl (by omega) ?_ | refine EndsG.eqlF rfl rfl rfl (by omega) ?_ | refine EndsG.neq rfl rfl rfl (fun hc => ?_) (fun hc => ?_) | refine EndsG.addN rfl rfl rfl (by omega) ?_ | refine EndsG.addN (b := 1) rfl rfl rfl (by omega) ?_ | refine EndsG.subN rfl rfl rfl (by omega) ?_ | refine EndsG.subN (b := 1) rfl rfl rfl (by omega) ?_) | (show EndsG _ _ (⟨_, .load _ _, _, _⟩ :: _) _ _ _ _ _ _; first | refine EndsG.load rfl rfl (L1) ?_ | refine EndsG.load rfl rfl (L2) ?_) | (show EndsG _ _ (⟨_, .iaddr _ _ _ _, _, _⟩ :: _) _ _ _ _ _ _; first | refine EndsG.iaddr rfl rfl rfl (hk) ?_ | refine EndsG.iaddr rfl rfl rfl ((show k - 1 < s.length by omega)) ?_) | refine EndsG.slFrom rfl rfl rfl (islice_from (Nat.le_of_lt hk)) ?_ | refine EndsG.skip rfl ?_ | refine EndsG.fin ?_ | refine EndsG.go rfl rfl rfl ?_ | refine EndsG.gono rfl rfl rfl ?_ | refine EndsG.skipn rfl ?_))
        refine .loop (fun m f H' => ∃ (j i : Nat) (D : List Int), m + (k + j) = s.length ∧ 1 ≤ j ∧ f = [(0, .slice (some (loose b 0)) s.length 1), (3, N i), (4, .slice (some (loose b (0 + k * 1))) (s.length - k) 1), (5, N j)] ∧ D = dd (s.take (k + j)) ∧ D.length = i ∧ i < k + j ∧ H' = H.set b (.row (ints (D ++ s.drop i)) false)) (n := s.length - (k + 1))
          ⟨1, k, s.take k, by omega, Nat.le_refl _, rfl, hD1.symm, by rw [List.length_take]; omega, by omega, by rw [List.take_append_drop, hsame]⟩ ?_
        rintro m f H' ⟨j, i, D, hm, hj1, rfl, hDD, hDi, hij, rfl⟩ nextj
        have hrow : ∀ (R : List Int), (H.set b (.row (ints R) false))[b]? = some (.row (ints R) false) := fun R => hs_same hbl
        have hat : ∀ (q : Nat) (z : Int), i ≤ q → s[q]? = some z → (D ++ s.drop i)[q]? = some z := fun q z hq hz => by
          rw [List.getElem?_append_right (by omega), List.getElem?_drop, hDi, show i + (q - i) = q by omega]; exact hz
        by_cases hj : k + j < s.length
        · have hgq : s[k + j]? = some s[k + j] := List.getElem?_eq_getElem hj
          have hgr : s[k + (j - 1)]? = some (s[k + (j - 1)]'(by omega)) := List.getElem?_eq_getElem (by omega)
          have hdq := dd_take hgq
          have hlq := dd_last hgr
          rw [show k + (j - 1) + 1 = k + j by omega, ← hDD] at hlq
          rw [← hDD] at hdq
          generalize s[k + j] = u at hgq hdq
          generalize s[k + (j - 1)]'(by omega) = w at hgr hlq
          have M1 : loadV (H.set b (.row (ints (D ++ s.drop i)) false)) none ⟨b, 0 + k * 1 + j * 1, none⟩ = some (.int .i64 u) := ld_ints (hrow _) (by rw [show 0 + k * 1 + j * 1 = k + j by omega]; exact hat _ _ (by omega) hgq)
          have M2 : loadV (H.set b (.row (ints (D ++ s.drop i)) false)) none ⟨b, 0 + k * 1 + (j - 1) * 1, none⟩ = some (.int .i64 w) := ld_ints (hrow _) (by rw [show 0 + k * 1 + (j - 1) * 1 = k + (j - 1) by omega]; exact hat _ _ (by omega) hgr)
          by_cases huw : u = w
          · subst huw
            unfold ddS at hdq
            rw [if_pos hlq] at hdq
            repeat' (first | (show EndsR _ _ _ _ _ _ _; first | refine EndsR.seq ?_ | refine EndsR.reg ?_ | refine EndsR.yes rfl ?_ | refine EndsR.no rfl ?_ | refine EndsR.skip ?_ | refine EndsR.block ?_ | refine EndsR.endB ?_ | refine EndsR.exit rfl ?_ | refine EndsR.br rfl (fun hc => ?_) (fun hc => ?_) | refine EndsR.scope ?_ | refine EndsR.inScope ?_ | refine EndsR.label ?_ | refine EndsR.ret rfl ?_ | refine EndsR.nil rfl ?_) | (show EndsG _ _ _ _ _ _ _ _ _; first | refine EndsG.mov rfl rfl ?_ | refine EndsG.lload rfl rfl rfl rfl ?_ | refine EndsG.laddr rfl rfl rfl ?_ | (show EndsG _ _ (⟨_, .bin _ _ _, _, _⟩ :: _) _ _ _ _ _ _; first | refine EndsG.lssT rfl rfl rfl (by omega) ?_ | refine EndsG.lssF rfl rfl rfl (by omega) ?_ | refine EndsG.leq rfl rfl rfl (fun hc => ?_) (fun hc => ?_) | refine EndsG.gtr rfl rfl rfl (fun hc => ?_) (fun hc => ?_) | refine EndsG.geq rfl rfl rfl (fun hc => ?_) (fun hc => ?_) | refine EndsG.eql rfl rfl rfl (fun hc => ?_) (fun hc => ?_) | refine EndsG.neqT rfl rfl rfl (by omega) ?_ | refine EndsG.neqF rfl rfl rfl (by omega) ?_ | refine EndsG.addN rfl rfl rfl (by omega) ?_ | refine EndsG.addN (b := 1) rfl rfl rfl (by omega) ?_ | refine EndsG.subN rfl rfl rfl (by omega) ?_ | refine EndsG.subN (b := 1) rfl rfl rfl (by omega) ?_) | (show EndsG _ _ (⟨_, .load _ _, _, _⟩ :: _) _ _ _ _ _ _; first | refine EndsG.load rfl rfl (M1) ?_ | refine EndsG.load rfl rfl (M2) ?_) | (show EndsG _ _ (⟨_, .iaddr _ _ _ _, _, _⟩ :: _) _ _ _ _ _ _; first | refine EndsG.iaddr rfl rfl rfl ((show j < s.length - k by omega)) ?_ | refine EndsG.iaddr rfl rfl rfl ((show j - 1 < s.length - k by omega)) ?_) | refine EndsG.skip rfl ?_ | refine EndsG.fin ?_ | refine EndsG.go rfl rfl rfl ?_ | refine EndsG.gono rfl rfl rfl ?_ | refine EndsG.skipn rfl ?_))
            exact nextj (m - 1) _ _ (by omega) ⟨j + 1, i, D, by omega, by omega, rfl, by rw [← Nat.add_assoc, hdq], hDi, by omega, rfl⟩
          · unfold ddS at hdq
            rw [if_neg (by rw [hlq]; intro e; injection e with e; exact huw e.symm)] at hdq
            have hil : i < s.length := by omega
            have hst : stN lo (H.set b (.row (ints (D ++ s.drop i)) false)) ⟨b, 0 + i * 1, none⟩ (vcells (.int .i64 u)) = some (H.set b (.row (ints ((D ++ [u]) ++ s.drop (i + 1))) false)) := by
              refine (st_row (w := ints ((D ++ [u]) ++ s.drop (i + 1))) (hrow _) hlo ?_ ?_).trans (by rw [List.set_set])
              · rw [ints_len, List.length_append, List.length_drop, hDi]; show 0 + i * 1 + 1 ≤ _; omega
              · show splice _ _ [.int .i64 u] = _
                unfold splice
                rw [show 0 + i * 1 = D.length by omega, ints_app, ints_app, ints_app]
                rw [List.take_append_of_le_length (by rw [ints_len]; omega), List.take_of_length_le (by rw [ints_len]; omega)]
                congr 1
                rw [List.drop_append, List.drop_of_length_le (by rw [ints_len]; simp)]
                simp [ints, hDi, List.map_drop, Nat.add_comm]
            repeat' (first | (show EndsR _ _ _ _ _ _ _; first | refine EndsR.seq ?_ | refine EndsR.reg ?_ | refine EndsR.yes rfl ?_ | refine EndsR.no rfl ?_ | refine EndsR.skip ?_ | refine EndsR.block ?_ | refine EndsR.endB ?_ | refine EndsR.exit rfl ?_ | refine EndsR.br rfl (fun hc => ?_) (fun hc => ?_) | refine EndsR.scope ?_ | refine EndsR.inScope ?_ | refine EndsR.label ?_ | refine EndsR.ret rfl ?_ | refine EndsR.nil rfl ?_) | (show EndsG _ _ _ _ _ _ _ _ _; first | refine EndsG.mov rfl rfl ?_ | refine EndsG.lload rfl rfl rfl rfl ?_ | refine EndsG.laddr rfl rfl rfl ?_ | (show EndsG _ _ (⟨_, .bin _ _ _, _, _⟩ :: _) _ _ _ _ _ _; first | refine EndsG.lssT rfl rfl rfl (by omega) ?_ | refine EndsG.lssF rfl rfl rfl (by omega) ?_ | refine EndsG.leq rfl rfl rfl (fun hc => ?_) (fun hc => ?_) | refine EndsG.gtr rfl rfl rfl (fun hc => ?_) (fun hc => ?_) | refine EndsG.geq rfl rfl rfl (fun hc => ?_) (fun hc => ?_) | refine EndsG.eql rfl rfl rfl (fun hc => ?_) (fun hc => ?_) | refine EndsG.neqT rfl rfl rfl (by omega) ?_ | refine EndsG.neqF rfl rfl rfl (by omega) ?_ | refine EndsG.addN rfl rfl rfl (by omega) ?_ | refine EndsG.addN (b := 1) rfl rfl rfl (by omega) ?_ | refine EndsG.subN rfl rfl rfl (by omega) ?_ | refine EndsG.subN (b := 1) rfl rfl rfl (by omega) ?_) | (show EndsG _ _ (⟨_, .load _ _, _, _⟩ :: _) _ _ _ _ _ _; first | refine EndsG.load rfl rfl (M1) ?_ | refine EndsG.load rfl rfl (M2) ?_) | (show EndsG _ _ (⟨_, .iaddr _ _ _ _, _, _⟩ :: _) _ _ _ _ _ _; first | refine EndsG.iaddr rfl rfl rfl ((show j < s.length - k by omega)) ?_ | refine EndsG.iaddr rfl rfl rfl ((show j - 1 < s.length - k by omega)) ?_ | refine EndsG.iaddr rfl rfl rfl (hil) ?_) | refine EndsG.store rfl rfl rfl rfl rfl hst ?_ | refine EndsG.skip rfl ?_ | refine EndsG.fin ?_ | refine EndsG.go rfl rfl rfl ?_ | refine EndsG.gono rfl rfl rfl ?_ | refine EndsG.skipn rfl ?_))
            exact nextj (m - 1) _ _ (by omega) ⟨j + 1, i + 1, D ++ [u], by omega, by omega, rfl, by rw [← Nat.add_assoc, hdq], by simp [hDi], by omega, rfl⟩
        · have hfull : k + j = s.length := by omega
          rw [hfull, List.take_length] at hDD
          subst hDD
          have hcl : stN lo (H.set b (.row (ints (dd s ++ s.drop i)) false)) (Ir.tight (loose b (0 + i * 1))) (repeatL [.int .i64 0] (s.length - i)) = some (H.set b (.row (ints (dd s ++ List.replicate (s.length - (dd s).length) 0)) false)) := by
            rw [repeat_ints]
            refine (st_row (w := ints (dd s ++ List.replicate (s.length - (dd s).length) 0)) (hrow _) hlo ?_ ?_).trans (by rw [List.set_set])
            · show 0 + i * 1 + _ ≤ _
              rw [ints_len, ints_len, List.length_append, List.length_drop, List.length_replicate, hDi]; omega
            · show splice _ (0 + i * 1) _ = _
              unfold splice
              rw [show 0 + i * 1 = (dd s).length by omega, ints_app, ints_app, List.take_append_of_le_length (by rw [ints_len]; omega), List.take_of_length_le (by rw [ints_len]; omega), hDi]
              rw [List.drop_of_length_le (by rw [List.length_append, ints_len, ints_len, ints_len, List.length_drop, List.length_replicate]; omega), List.append_nil]
          repeat' (first | (show EndsR _ _ _ _ _ _ _; first | refine EndsR.seq ?_ | refine EndsR.reg ?_ | refine EndsR.yes rfl ?_ | refine EndsR.no rfl ?_ | refine EndsR.skip ?_ | refine EndsR.block ?_ | refine EndsR.endB ?_ | refine EndsR.exit rfl ?_ | refine EndsR.br rfl (fun hc => ?_) (fun hc => ?_) | refine EndsR.scope ?_ | refine EndsR.inScope ?_ | refine EndsR.label ?_ | refine EndsR.ret rfl ?_ | refine EndsR.nil rfl ?_) | (show EndsG _ _ _ _ _ _ _ _ _; first | refine EndsG.mov rfl rfl ?_ | refine EndsG.lload rfl rfl rfl rfl ?_ | refine EndsG.laddr rfl rfl rfl ?_ | (show EndsG _ _ (⟨_, .bin _ _ _, _, _⟩ :: _) _ _ _ _ _ _; first | refine EndsG.lssT rfl rfl rfl (by omega) ?_ | refine EndsG.lssF rfl rfl rfl (by omega) ?_ | refine EndsG.leq rfl rfl rfl (fun hc => ?_) (fun hc => ?_) | refine EndsG.gtr rfl rfl rfl (fun hc => ?_) (fun hc => ?_) | refine EndsG.geq rfl rfl rfl (fun hc => ?_) (fun hc => ?_) | refine EndsG.eql rfl rfl rfl (fun hc => ?_) (fun hc => ?_) | refine EndsG.neq rfl rfl rfl (fun hc => ?_) (fun hc => ?_)) | refine EndsG.slFrom rfl rfl rfl (islice_from (show i ≤ s.length by omega)) ?_ | refine EndsG.slTo rfl rfl rfl (islice_to (show i ≤ s.length by omega)) ?_ | refine EndsG.clr rfl rfl (show s.length - i ≠ 0 by omega) hcl ?_ | refine EndsG.skip rfl ?_ | refine EndsG.fin ?_ | refine EndsG.go rfl rfl rfl ?_ | refine EndsG.gono rfl rfl rfl ?_ | refine EndsG.skipn rfl ?_))
          rw [hDi]; rfl
      · have hD1 : dd (s.take (k + 1)) = s.take (k + 1) := by
          rw [hdk, htk]; unfold ddS
          rw [if_neg (by rw [hlast]; intro e; injection e with e; exact hxy e.symm)]
        repeat' (first | (show EndsR _ _ _ _ _ _ _; first | refine EndsR.seq ?_ | refine EndsR.reg ?_ | refine EndsR.yes rfl ?_ | refine EndsR.no rfl ?_ | refine EndsR.skip ?_ | refine EndsR.block ?_ | refine EndsR.endB ?_ | refine EndsR.exit rfl ?_ | refine EndsR.br rfl (fun hc => ?_) (fun hc => ?_) | refine EndsR.scope ?_ | refine EndsR.inScope ?_ | refine EndsR.label ?_ | refine EndsR.ret rfl ?_ | refine EndsR.nil rfl ?_) | (show EndsG _ _ _ _ _ _ _ _ _; first | refine EndsG.mov rfl rfl ?_ | refine EndsG.lload rfl rfl rfl rfl ?_ | refine EndsG.laddr rfl rfl rfl ?_ | (show EndsG _ _ (⟨_, .bin _ _ _, _, _⟩ :: _) _ _ _ _ _ _; first | refine EndsG.lssT rfl rfl rfl (by omega) ?_ | refine EndsG.lssF rfl rfl rfl (by omega) ?_ | refine EndsG.leq rfl rfl rfl (fun hc => ?_) (fun hc => ?_) | refine EndsG.gtr rfl rfl rfl (fun hc => ?_) (fun hc => ?_) | refine EndsG.geq rfl rfl rfl (fun hc => ?_) (fun hc => ?_) | refine EndsG.eqlT rfl rfl rfl (by omega) ?_ | refine EndsG.eqlF rfl rfl rfl (by omega) ?_ | refine EndsG.neq rfl rfl rfl (fun hc => ?_) (fun hc => ?_) | refine EndsG.addN rfl rfl rfl (by omega) ?_ | refine EndsG.addN (b := 1) rfl rfl rfl (by omega) ?_ | refine EndsG.subN rfl rfl rfl (by omega) ?_ | refine EndsG.subN (b := 1) rfl rfl rfl (by omega) ?_) | (show EndsG _ _ (⟨_, .load _ _, _, _⟩ :: _) _ _ _ _ _ _; first | refine EndsG.load rfl rfl (L1) ?_ | refine EndsG.load rfl rfl (L2) ?_) | (show EndsG _ _ (⟨_, .iaddr _ _ _ _, _, _⟩ :: _) _ _ _ _ _ _; first | refine EndsG.iaddr rfl rfl rfl (hk) ?_ | refine EndsG.iaddr rfl rfl rfl ((show k - 1 < s.length by omega)) ?_) | refine EndsG.skip rfl ?_ | refine EndsG.fin ?_ | refine EndsG.go rfl rfl rfl ?_ | refine EndsG.gono rfl rfl rfl ?_ | refine EndsG.skipn rfl ?_))
        exact next (n - 1) _ _ (by omega) ⟨rfl, k + 1, by omega, by omega, rfl, hD1⟩
    · rw [List.take_of_length_le (by omega)] at hD
      repeat' (first | (show EndsR _ _ _ _ _ _ _; first | refine EndsR.seq ?_ | refine EndsR.reg ?_ | refine EndsR.yes rfl ?_ | refine EndsR.no rfl ?_ | refine EndsR.skip ?_ | refine EndsR.block ?_ | refine EndsR.endB ?_ | refine EndsR.exit rfl ?_ | refine EndsR.br rfl (fun hc => ?_) (fun hc => ?_) | refine EndsR.scope ?_ | refine EndsR.inScope ?_ | refine EndsR.label ?_ | refine EndsR.ret rfl ?_ | refine EndsR.nil rfl ?_) | (show EndsG _ _ _ _ _ _ _ _ _; first | refine EndsG.mov rfl rfl ?_ | refine EndsG.lload rfl rfl rfl rfl ?_ | refine EndsG.laddr rfl rfl rfl ?_ | (show EndsG _ _ (⟨_, .bin _ _ _, _, _⟩ :: _) _ _ _ _ _ _; first | refine EndsG.lssT rfl rfl rfl (by omega) ?_ | refine EndsG.lssF rfl rfl rfl (by omega) ?_ | refine EndsG.leq rfl rfl rfl (fun hc => ?_) (fun hc => ?_) | refine EndsG.gtr rfl rfl rfl (fun hc => ?_) (fun hc => ?_) | refine EndsG.geq rfl rfl rfl (fun hc => ?_) (fun hc => ?_) | refine EndsG.eql rfl rfl rfl (fun hc => ?_) (fun hc => ?_) | refine EndsG.neq rfl rfl rfl (fun hc => ?_) (fun hc => ?_)) | refine EndsG.skip rfl ?_ | refine EndsG.fin ?_ | refine EndsG.go rfl rfl rfl ?_ | refine EndsG.gono rfl rfl rfl ?_ | refine EndsG.skipn rfl ?_))
      rw [hD, Nat.sub_self, List.replicate_zero, List.append_nil, hsame]
end Go.Proofs.Ytgdlplhglpinaaa

/- Handles: the program's, and the document's. -/
set_option linter.unusedVariables false
set_option linter.unusedSimpArgs false
namespace Go.Proofs.Ytgdlplhglpinaaa
open Go Go.Ir

def hnd (e : Ev) : Int := if e.bk then e.rn else e.h
def row1 (l : List Int) : List (List Value) := l.map fun n => [.int .i64 n]

theorem row1_len (l : List Int) : ∀ e ∈ row1 l, e.length = 1 := by
  intro e he
  obtain ⟨x, _, rfl⟩ := List.mem_map.1 he
  rfl
theorem row1_flatten (l : List Int) : (row1 l).flatten = ints l := by
  induction l with
  | nil => rfl
  | cons a l ih =>
    unfold row1 ints at ih ⊢
    simp [ih]
theorem row1_length (l : List Int) : (row1 l).length = l.length := by simp [row1]
theorem row1_app (l : List Int) (x : Int) : row1 l ++ [[.int .i64 x]] = row1 (l ++ [x]) := by simp [row1]
theorem row1_ne {l : List Int} (h : 0 < l.length) : row1 l ≠ [] := fun e => by have := congrArg List.length e; rw [row1_length, List.length_nil] at this; omega
theorem row1_flat (l : List Int) : ∀ e ∈ row1 l, e.all flat1 = true := by
  intro e he
  obtain ⟨x, _, rfl⟩ := List.mem_map.1 he
  rfl
theorem row1_get {l : List Int} {i : Nat} {x : Int} (h : l[i]? = some x) : (row1 l)[i]? = some [.int .i64 x] := by simp [row1, h]

def handV (h : Heap) (s : List Int) : Value × Heap :=
  if s = [] then (.slice none 0 0, h) else (.slice (some (loose h.length 0)) (dd (sortI s)).length 1, h ++ [.row (ints (dd (sortI s) ++ List.replicate (s.length - (dd (sortI s)).length) 0)) false])

theorem dd_le (s : List Int) : (dd s).length ≤ s.length := by
  have key : ∀ n, n ≤ s.length → (dd (s.take n)).length ≤ n := by
    intro n
    induction n with
    | zero => intro _; exact Nat.le_refl _
    | succ n ih =>
      intro h
      have := ih (by omega)
      rw [dd_take (List.getElem?_eq_getElem (show n < s.length by omega))]
      unfold ddS
      split
      · omega
      · simp; omega
  have := key s.length (Nat.le_refl _)
  rwa [List.take_length] at this

theorem handV_sl {h : Heap} {s : List Int} : Sl (handV h s).2 1 (handV h s).1 (row1 (dd (sortI s))) ∧ Ext h (handV h s).2 := by
  unfold handV
  split
  · rename_i h0
    subst h0
    have e0 : row1 (dd (sortI [])) = [] := by rw [show sortI [] = [] by simp [sortI]]; rfl
    rw [e0]
    exact ⟨⟨fun e he => (by cases he), .inl ⟨rfl, none, 0, rfl⟩⟩, .refl _⟩
  · refine ⟨⟨row1_len _, .inr ⟨_, _, by rw [row1_length], ?_⟩⟩, (Ext.refl h).app _⟩
    rw [row1_length, Nat.mul_one, row1_flatten]
    rw [ldN_of (a := loose h.length 0) (ro := false) List.getElem?_concat_length (by rw [ints_len, List.length_append]; show 0 + _ ≤ _; omega)]
    show some (((ints _).drop 0).take _) = _
    rw [List.drop_zero, ints_app, List.take_append_of_le_length (by rw [ints_len]; exact Nat.le_refl _), List.take_of_length_le (by rw [ints_len]; exact Nat.le_refl _)]

theorem handles_spec (lo : Nat) {h : Heap} {v : Value} {l : List Ev} (hv : Sl h 8 v (ecs l)) (hl : l.length ≤ 1000) : callR En lo Id.event_Handles [v] h = some (handV h (l.map hnd)) := by
  refine Exists.elim hv.len fun base hq => Exists.elim hq fun cap hve => ?_
  rw [ecs_length] at hve
  subst hve
  refine call_scr rfl Fn.event_Handles rfl rfl ?_
  repeat' (first | (show EndsR _ _ _ _ _ _ _; first | refine EndsR.seq ?_ | refine EndsR.reg ?_ | refine EndsR.yes rfl ?_ | refine EndsR.no rfl ?_ | refine EndsR.skip ?_ | refine EndsR.block ?_ | refine EndsR.endB ?_ | refine EndsR.exit rfl ?_ | refine EndsR.br rfl (fun hc => ?_) (fun hc => ?_) | refine EndsR.scope ?_ | refine EndsR.inScope ?_ | refine EndsR.label ?_ | refine EndsR.ret rfl ?_ | refine EndsR.nil rfl ?_) | (show EndsG _ _ _ _ _ _ _ _ _; first | refine EndsG.mov rfl rfl ?_ | refine EndsG.lload rfl rfl rfl rfl ?_ | refine EndsG.laddr rfl rfl rfl ?_ | (show EndsG _ _ (⟨_, .bin _ _ _, _, _⟩ :: _) _ _ _ _ _ _; first | refine EndsG.lss rfl rfl rfl (fun hc => ?_) (fun hc => ?_) | refine EndsG.leq rfl rfl rfl (fun hc => ?_) (fun hc => ?_) | refine EndsG.gtr rfl rfl rfl (fun hc => ?_) (fun hc => ?_) | refine EndsG.geq rfl rfl rfl (fun hc => ?_) (fun hc => ?_) | refine EndsG.eql rfl rfl rfl (fun hc => ?_) (fun hc => ?_) | refine EndsG.neq rfl rfl rfl (fun hc => ?_) (fun hc => ?_)) | refine EndsG.skip rfl ?_ | refine EndsG.fin ?_ | refine EndsG.go rfl rfl rfl ?_ | refine EndsG.gono rfl rfl rfl ?_ | refine EndsG.skipn rfl ?_))
  refine .loop (fun n f H => ∃ (i : Nat) (o : Value), n + i = l.length ∧ f = [(3, o), (6, .slice base l.length cap), (7, N l.length), (8, N i)] ∧ Ext h H ∧ Out H h.length 1 o (row1 ((l.take i).map hnd))) (n := l.length)
    ⟨0, _, rfl, rfl, .refl _, Out.nil _ _ _⟩ ?_
  rintro n f H ⟨i, o, hn, rfl, hx, ho⟩ next
  by_cases hi : i < l.length
  · have hgi : l[i]? = some l[i] := List.getElem?_eq_getElem hi
    have htk := List.take_succ_eq_append_getElem hi
    generalize l[i] = e at hgi htk
    refine Exists.elim (ecs_cells (hv.ext hx) (by omega)) fun a hq => Exists.elim hq fun cap' hq => ?_
    have hva := hq.1
    injection hva with e1 e2 e3
    subst e1
    have IA := (hq.2 i e hgi).2.2
    have hpl : (row1 ((l.take i).map hnd)).length + 1 ≤ 2 ^ 30 := by rw [row1_length, List.length_map, List.length_take]; omega
    refine Exists.elim (ho.push (bytes := 8) (e := [.int .i64 (hnd e)]) rfl hx.1 hpl (by decide)) fun o' hq1 => Exists.elim hq1 fun H' hq2 => ?_
    have hap := hq2.1
    have ho' := hq2.2.1
    have hx' := hq2.2.2 h (Nat.le_refl _) hx
    rw [row1_app, show (l.take i).map hnd ++ [hnd e] = (l.take (i + 1)).map hnd by rw [htk]; simp] at ho'
    rcases e with ⟨th, bk, ed, eh, eo, en, erc, ern⟩
    cases bk
    all_goals
      repeat' (first | (show EndsR _ _ _ _ _ _ _; first | refine EndsR.seq ?_ | refine EndsR.reg ?_ | refine EndsR.yes rfl ?_ | refine EndsR.no rfl ?_ | refine EndsR.skip ?_ | refine EndsR.block ?_ | refine EndsR.endB ?_ | refine EndsR.exit rfl ?_ | refine EndsR.br rfl (fun hc => ?_) (fun hc => ?_) | refine EndsR.scope ?_ | refine EndsR.inScope ?_ | refine EndsR.label ?_ | refine EndsR.ret rfl ?_ | refine EndsR.nil rfl ?_) | (show EndsG _ _ _ _ _ _ _ _ _; first | refine EndsG.mov rfl rfl ?_ | refine EndsG.lload rfl rfl rfl rfl ?_ | refine EndsG.laddr rfl rfl rfl ?_ | (show EndsG _ _ (⟨_, .bin _ _ _, _, _⟩ :: _) _ _ _ _ _ _; first | refine EndsG.lssT rfl rfl rfl (by omega) ?_ | refine EndsG.lssF rfl rfl rfl (by omega) ?_ | refine EndsG.leq rfl rfl rfl (fun hc => ?_) (fun hc => ?_) | refine EndsG.gtr rfl rfl rfl (fun hc => ?_) (fun hc => ?_) | refine EndsG.geq rfl rfl rfl (fun hc => ?_) (fun hc => ?_) | refine EndsG.eql rfl rfl rfl (fun hc => ?_) (fun hc => ?_) | refine EndsG.neq rfl rfl rfl (fun hc => ?_) (fun hc => ?_) | refine EndsG.addN rfl rfl rfl (by omega) ?_ | refine EndsG.addN (b := 1) rfl rfl rfl (by omega) ?_ | refine EndsG.subN rfl rfl rfl (by omega) ?_ | refine EndsG.subN (b := 1) rfl rfl rfl (by omega) ?_) | refine EndsG.load rfl rfl (IA) ?_ | refine EndsG.iaddr rfl rfl rfl (hi) ?_ | refine EndsG.app rfl rfl rfl (hap) ?_ | refine EndsG.skip rfl ?_ | refine EndsG.fin ?_ | refine EndsG.go rfl rfl rfl ?_ | refine EndsG.gono rfl rfl rfl ?_ | refine EndsG.skipn rfl ?_))
      exact next (n - 1) _ _ (by omega) ⟨i + 1, o', by omega, rfl, hx', ho'⟩
  · rw [List.take_of_length_le (by omega)] at ho
    have hml : (l.map hnd).length = l.length := by simp
    generalize l.map hnd = s at ho hml
    rcases ho.2 with ⟨h0, rfl⟩ | ⟨h0, b, rfl, hlo, hb⟩
    · have hs0 : s = [] := by cases s with
        | nil => rfl
        | cons a r => simp [row1] at h0
      subst hs0
      have hS : ∀ lo, callR En lo Id.slices_Sort_Lint [.slice none 0 0] H = some (noneV, H) := fun lo => callR_iff.2 ⟨0, rfl⟩
      have hC : ∀ lo, callR En lo Id.slices_Compact_Lint [.slice none 0 0] H = some (.slice none 0 0, H) := fun lo => by
        refine call_of rfl Fn.slices_Compact_Lint rfl rfl ?_
        repeat' (first | (show EndsR _ _ _ _ _ _ _; first | refine EndsR.seq ?_ | refine EndsR.reg ?_ | refine EndsR.yes rfl ?_ | refine EndsR.no rfl ?_ | refine EndsR.skip ?_ | refine EndsR.block ?_ | refine EndsR.endB ?_ | refine EndsR.exit rfl ?_ | refine EndsR.br rfl (fun hc => ?_) (fun hc => ?_) | refine EndsR.scope ?_ | refine EndsR.inScope ?_ | refine EndsR.label ?_ | refine EndsR.ret rfl ?_ | refine EndsR.nil rfl ?_) | (show EndsG _ _ _ _ _ _ _ _ _; first | refine EndsG.mov rfl rfl ?_ | refine EndsG.lload rfl rfl rfl rfl ?_ | refine EndsG.laddr rfl rfl rfl ?_ | (show EndsG _ _ (⟨_, .bin _ _ _, _, _⟩ :: _) _ _ _ _ _ _; first | refine EndsG.lss rfl rfl rfl (fun hc => ?_) (fun hc => ?_) | refine EndsG.leq rfl rfl rfl (fun hc => ?_) (fun hc => ?_) | refine EndsG.gtr rfl rfl rfl (fun hc => ?_) (fun hc => ?_) | refine EndsG.geq rfl rfl rfl (fun hc => ?_) (fun hc => ?_) | refine EndsG.eql rfl rfl rfl (fun hc => ?_) (fun hc => ?_) | refine EndsG.neq rfl rfl rfl (fun hc => ?_) (fun hc => ?_)) | refine EndsG.skip rfl ?_ | refine EndsG.fin ?_ | refine EndsG.go rfl rfl rfl ?_ | refine EndsG.gono rfl rfl rfl ?_ | refine EndsG.skipn rfl ?_))
        · rfl
        · omega
      repeat' (first | (show EndsR _ _ _ _ _ _ _; first | refine EndsR.seq ?_ | refine EndsR.reg ?_ | refine EndsR.yes rfl ?_ | refine EndsR.no rfl ?_ | refine EndsR.skip ?_ | refine EndsR.block ?_ | refine EndsR.endB ?_ | refine EndsR.exit rfl ?_ | refine EndsR.br rfl (fun hc => ?_) (fun hc => ?_) | refine EndsR.scope ?_ | refine EndsR.inScope ?_ | refine EndsR.label ?_ | refine EndsR.ret rfl ?_ | refine EndsR.nil rfl ?_) | (show EndsG _ _ _ _ _ _ _ _ _; first | refine EndsG.mov rfl rfl ?_ | refine EndsG.lload rfl rfl rfl rfl ?_ | refine EndsG.laddr rfl rfl rfl ?_ | (show EndsG _ _ (⟨_, .bin _ _ _, _, _⟩ :: _) _ _ _ _ _ _; first | refine EndsG.lssT rfl rfl rfl (by omega) ?_ | refine EndsG.lssF rfl rfl rfl (by omega) ?_ | refine EndsG.leq rfl rfl rfl (fun hc => ?_) (fun hc => ?_) | refine EndsG.gtr rfl rfl rfl (fun hc => ?_) (fun hc => ?_) | refine EndsG.geq rfl rfl rfl (fun hc => ?_) (fun hc => ?_) | refine EndsG.eql rfl rfl rfl (fun hc => ?_) (fun hc => ?_) | refine EndsG.neq rfl rfl rfl (fun hc => ?_) (fun hc => ?_)) | (show EndsG _ _ (⟨_, .call _ _, _, _⟩ :: _) _ _ _ _ _ _; first | refine EndsG.call rfl rfl (hS _) ?_ | refine EndsG.call rfl rfl (hC _) ?_) | refine EndsG.skip rfl ?_ | refine EndsG.fin ?_ | refine EndsG.go rfl rfl rfl ?_ | refine EndsG.gono rfl rfl rfl ?_ | refine EndsG.skipn rfl ?_))
      rfl
    · rw [row1_length] at *
      rw [row1_flatten] at hb
      have hs0 : s ≠ [] := fun e => h0 (by rw [e]; rfl)
      have hbl := hlt_of hb
      have hsl := sortI_len s
      have hspos : s.length ≠ 0 := fun e => hs0 (List.length_eq_zero_iff.1 e)
      have hS : callR En h.length Id.slices_Sort_Lint [.slice (some (loose b 0)) s.length 1] H = some (noneV, H.set b (.row (ints (sortI s)) false)) := by
        have : sortPrim h.length [.slice (some (loose b 0)) s.length 1] H = some (noneV, H.set b (.row (ints (sortI s)) false)) := by
          unfold sortPrim
          simp only
          rw [if_neg hspos]
          show (match H[b]? with | some (.row cs false) => _ | _ => _) = _
          rw [hb]
          simp only
          rw [if_pos ⟨hlo, by rw [ints_len]; show 0 + _ ≤ _; omega, by omega⟩]
          have e1 : List.take s.length (List.drop (loose b 0).off (ints s)) = ints s := by
            show List.take s.length (List.drop 0 (ints s)) = _
            rw [List.drop_zero, List.take_of_length_le (by rw [ints_len]; exact Nat.le_refl _)]
          rw [e1, intsOf_ints]
          simp only
          have e2 : splice (ints s) (loose b 0).off (ints (sortI s)) = ints (sortI s) := by
            show splice (ints s) 0 _ = _
            unfold splice
            rw [List.take_zero, List.nil_append, List.drop_of_length_le (by rw [ints_len, ints_len]; omega), List.append_nil]
          rw [e2]
          rfl
        exact callR_iff.2 ⟨0, this⟩
      have hC := compact_spec h.length (K := H.set b (.row (ints (sortI s)) false)) (s := sortI s) hlo (hs_same hbl) (by omega)
      rw [List.set_set, hsl] at hC
      repeat' (first | (show EndsR _ _ _ _ _ _ _; first | refine EndsR.seq ?_ | refine EndsR.reg ?_ | refine EndsR.yes rfl ?_ | refine EndsR.no rfl ?_ | refine EndsR.skip ?_ | refine EndsR.block ?_ | refine EndsR.endB ?_ | refine EndsR.exit rfl ?_ | refine EndsR.br rfl (fun hc => ?_) (fun hc => ?_) | refine EndsR.scope ?_ | refine EndsR.inScope ?_ | refine EndsR.label ?_ | refine EndsR.ret rfl ?_ | refine EndsR.nil rfl ?_) | (show EndsG _ _ _ _ _ _ _ _ _; first | refine EndsG.mov rfl rfl ?_ | refine EndsG.lload rfl rfl rfl rfl ?_ | refine EndsG.laddr rfl rfl rfl ?_ | (show EndsG _ _ (⟨_, .bin _ _ _, _, _⟩ :: _) _ _ _ _ _ _; first | refine EndsG.lssT rfl rfl rfl (by omega) ?_ | refine EndsG.lssF rfl rfl rfl (by omega) ?_ | refine EndsG.leq rfl rfl rfl (fun hc => ?_) (fun hc => ?_) | refine EndsG.gtr rfl rfl rfl (fun hc => ?_) (fun hc => ?_) | refine EndsG.geq rfl rfl rfl (fun hc => ?_) (fun hc => ?_) | refine EndsG.eql rfl rfl rfl (fun hc => ?_) (fun hc => ?_) | refine EndsG.neq rfl rfl rfl (fun hc => ?_) (fun hc => ?_)) | (show EndsG _ _ (⟨_, .call _ _, _, _⟩ :: _) _ _ _ _ _ _; first | refine EndsG.call rfl rfl (hS) ?_ | refine EndsG.call rfl rfl (hC) ?_) | refine EndsG.skip rfl ?_ | refine EndsG.fin ?_ | refine EndsG.go rfl rfl rfl ?_ | refine EndsG.gono rfl rfl rfl ?_ | refine EndsG.skipn rfl ?_))
      unfold handV
      rw [if_neg hs0]
      simp only [Ir.tidy, tidy1, loose]
      rw [if_neg (by omega), hs_same hbl]
      simp only
      rw [if_pos ⟨by simp [ints, flat1], trivial⟩]
end Go.Proofs.Ytgdlplhglpinaaa

/- The document's handles. -/
set_option linter.unusedVariables false
set_option linter.unusedSimpArgs false
namespace Go.Proofs.Ytgdlplhglpinaaa
open Go Go.Ir

def stepU (h : Int) (st : List Int × Bool) (x : Int) : List Int × Bool :=
  if st.2 = false ∧ h ≤ x then (if x = h then (st.1 ++ [h], true) else (st.1 ++ [h] ++ [x], true)) else (if x = h then st else (st.1 ++ [x], st.2))
def finU (h : Int) (st : List Int × Bool) : List Int := if st.2 then st.1 else st.1 ++ [h]
def insU (h : Int) (out : List Int) : List Int := finU h (out.foldl (stepU h) ([], false))
def handU (s : List Int) : List Int := s.foldl (fun out h => insU h out) []

/-! ### what they come to -/
theorem strict_ext : ∀ {a b : List Int}, a.Pairwise (· < ·) → b.Pairwise (· < ·) → (∀ x, x ∈ a ↔ x ∈ b) → a = b
  | [], [], _, _, _ => rfl
  | [], y :: b, _, _, h => absurd ((h y).2 (by simp)) (by simp)
  | x :: a, [], _, _, h => absurd ((h x).1 (by simp)) (by simp)
  | x :: a, y :: b, ha, hb, h => by
    have ha' := List.pairwise_cons.1 ha
    have hb' := List.pairwise_cons.1 hb
    have hxy : x = y := by
      rcases List.mem_cons.1 ((h x).1 (by simp)) with e | e
      · exact e
      · rcases List.mem_cons.1 ((h y).2 (by simp)) with e2 | e2
        · exact e2.symm
        · have := ha'.1 y e2
          have := hb'.1 x e
          omega
    subst hxy
    rw [strict_ext ha'.2 hb'.2 (fun z => ?_)]
    have hz := h z
    simp only [List.mem_cons] at hz
    constructor
    · intro hm
      rcases hz.1 (.inr hm) with e | e
      · subst e; have := ha'.1 z hm; omega
      · exact e
    · intro hm
      rcases hz.2 (.inr hm) with e | e
      · subst e; have := hb'.1 z hm; omega
      · exact e

structure StU (h : Int) (p : List Int) (st : List Int × Bool) : Prop where
  sorted : st.1.Pairwise (· < ·)
  mem : ∀ x, x ∈ st.1 ↔ (x ∈ p ∧ (x = h → st.2 = true)) ∨ (x = h ∧ st.2 = true)
  low : st.2 = false → ∀ x ∈ p, x < h
  top : ∀ x ∈ st.1, (∃ y ∈ p, x ≤ y) ∨ (x = h ∧ ∃ y ∈ p, h ≤ y)

theorem stepU_ok {h x : Int} {p : List Int} {st : List Int × Bool} (s : StU h p st) (hp : ∀ y ∈ p, y < x) : StU h (p ++ [x]) (stepU h st x) := by
  obtain ⟨L, laid⟩ := st
  obtain ⟨s1, s2, s3, s4⟩ := s
  simp only at s1 s2 s3 s4
  have hlt : ∀ y ∈ L, y ∈ p → y < x := fun y _ hy => hp y hy
  unfold stepU
  simp only
  by_cases hc : laid = false ∧ h ≤ x
  · rw [if_pos hc]
    obtain ⟨hl, hx⟩ := hc
    subst hl
    have hlow := s3 (by trivial)
    have hL : ∀ y ∈ L, y < h := fun y hy => by
      rcases (s2 y).1 hy with ⟨h1, _⟩ | ⟨_, h1⟩
      · exact hlow y h1
      · cases h1
    have hsh : (L ++ [h]).Pairwise (· < ·) := List.pairwise_append.2 ⟨s1, by simp, fun a ha b hb => by simp at hb; subst hb; exact hL a ha⟩
    by_cases hxh : x = h
    · rw [if_pos hxh]
      subst hxh
      refine ⟨hsh, fun y => ?_, fun e => (by cases e), fun y hy => ?_⟩
      · simp only [List.mem_append, List.mem_singleton]
        constructor
        · rintro (h1 | h1)
          · rcases (s2 y).1 h1 with ⟨g1, _⟩ | ⟨_, g⟩
            · exact .inl ⟨.inl g1, fun _ => by trivial⟩
            · cases g
          · exact .inr ⟨h1, by trivial⟩
        · rintro (⟨h1 | h1, _⟩ | ⟨h1, _⟩)
          · exact .inl ((s2 y).2 (.inl ⟨h1, fun e => by have := hlow y h1; omega⟩))
          · exact .inr h1
          · exact .inr h1
      · rcases List.mem_append.1 hy with h1 | h1
        · exact .inl ⟨x, by simp, by have := hL y h1; omega⟩
        · simp at h1; subst h1; exact .inl ⟨y, by simp, Int.le_refl _⟩
    · rw [if_neg hxh]
      have hlx : h < x := by omega
      refine ⟨List.pairwise_append.2 ⟨hsh, by simp, fun a ha b hb => ?_⟩, fun y => ?_, fun e => (by cases e), fun y hy => ?_⟩
      · simp at hb; subst hb
        rcases List.mem_append.1 ha with h1 | h1
        · have := hL a h1; omega
        · simp at h1; omega
      · simp only [List.mem_append, List.mem_singleton]
        constructor
        · rintro ((h1 | h1) | h1)
          · rcases (s2 y).1 h1 with ⟨g1, _⟩ | ⟨_, g⟩
            · exact .inl ⟨.inl g1, fun _ => by trivial⟩
            · cases g
          · exact .inr ⟨h1, by trivial⟩
          · exact .inl ⟨.inr h1, fun _ => by trivial⟩
        · rintro (⟨h1 | h1, _⟩ | ⟨h1, _⟩)
          · exact .inl (.inl ((s2 y).2 (.inl ⟨h1, fun e => by have := hlow y h1; omega⟩)))
          · exact .inr h1
          · exact .inl (.inr h1)
      · refine .inl ⟨x, by simp, ?_⟩
        rcases List.mem_append.1 hy with h1 | h1
        · rcases List.mem_append.1 h1 with h2 | h2
          · have := hL y h2; omega
          · simp at h2; omega
        · simp at h1; omega
  · rw [if_neg hc]
    by_cases hxh : x = h
    · have hl : laid = true := by
        cases laid with
        | true => rfl
        | false => exact absurd ⟨rfl, by omega⟩ hc
      subst hl
      rw [if_pos hxh]
      subst hxh
      refine ⟨s1, fun y => ?_, fun e => (by cases e), fun y hy => ?_⟩
      · simp only [List.mem_append, List.mem_singleton]
        rw [s2 y]
        constructor
        · rintro (⟨h1, _⟩ | ⟨h1, _⟩)
          · exact .inl ⟨.inl h1, fun _ => by trivial⟩
          · exact .inr ⟨h1, by trivial⟩
        · rintro (⟨h1 | h1, _⟩ | ⟨h1, _⟩)
          · exact .inl ⟨h1, fun _ => by trivial⟩
          · exact .inr ⟨h1, by trivial⟩
          · exact .inr ⟨h1, by trivial⟩
      · rcases s4 y hy with ⟨z, hz, h1⟩ | ⟨h1, z, hz, h2⟩
        · exact .inl ⟨z, by simp [hz], h1⟩
        · exact .inr ⟨h1, z, by simp [hz], h2⟩
    · rw [if_neg hxh]
      have hLx : ∀ y ∈ L, y < x := fun y hy => by
        rcases s4 y hy with ⟨z, hz, h1⟩ | ⟨h1, z, hz, h2⟩
        · have := hp z hz; omega
        · have := hp z hz; omega
      refine ⟨List.pairwise_append.2 ⟨s1, by simp, fun a ha b hb => by simp at hb; subst hb; exact hLx a ha⟩, fun y => ?_, fun e y hy => ?_, fun y hy => ?_⟩
      · simp only [List.mem_append, List.mem_singleton]
        rw [s2 y]
        constructor
        · rintro ((⟨h1, h2⟩ | ⟨h1, h2⟩) | h1)
          · exact .inl ⟨.inl h1, h2⟩
          · exact .inr ⟨h1, h2⟩
          · exact .inl ⟨.inr h1, fun e => absurd (h1.symm.trans e) hxh⟩
        · rintro (⟨h1 | h1, h2⟩ | ⟨h1, h2⟩)
          · exact .inl (.inl ⟨h1, h2⟩)
          · exact .inr h1
          · exact .inl (.inr ⟨h1, h2⟩)
      · have e : laid = false := e
        rcases List.mem_append.1 hy with h1 | h1
        · exact s3 e y h1
        · simp at h1; subst h1
          exact Int.not_le.1 fun hh => hc ⟨e, hh⟩
      · rcases List.mem_append.1 hy with h1 | h1
        · rcases s4 y h1 with ⟨z, hz, h2⟩ | ⟨h2, z, hz, h3⟩
          · exact .inl ⟨z, by simp [hz], h2⟩
          · exact .inr ⟨h2, z, by simp [hz], h3⟩
        · simp at h1; subst h1; exact .inl ⟨y, by simp, Int.le_refl _⟩

theorem foldU_ok (h : Int) : ∀ (r p : List Int) (st : List Int × Bool), StU h p st → (p ++ r).Pairwise (· < ·) → StU h (p ++ r) (r.foldl (stepU h) st)
  | [], p, st, s, _ => by simpa using s
  | x :: r, p, st, s, hp => by
    have := foldU_ok h r (p ++ [x]) (stepU h st x) (stepU_ok s fun y hy => (List.pairwise_append.1 hp).2.2 y hy x (by simp)) (by simpa using hp)
    simpa using this

theorem insU_ok {h : Int} {out : List Int} (hs : out.Pairwise (· < ·)) : (insU h out).Pairwise (· < ·) ∧ ∀ x, x ∈ insU h out ↔ x ∈ out ∨ x = h := by
  have s := foldU_ok h out [] ([], false) ⟨.nil, by simp, by simp, by simp⟩ (by simpa using hs)
  rw [List.nil_append] at s
  unfold insU finU
  generalize out.foldl (stepU h) ([], false) = st at s
  obtain ⟨s1, s2, s3, s4⟩ := s
  obtain ⟨L, laid⟩ := st
  cases laid with
  | true =>
    simp only at s1 s2 ⊢
    refine ⟨s1, fun x => ?_⟩
    rw [if_pos (by trivial), s2 x]
    constructor
    · rintro (⟨h1, _⟩ | ⟨h1, _⟩)
      · exact .inl h1
      · exact .inr h1
    · rintro (h1 | h1)
      · exact .inl ⟨h1, fun _ => by trivial⟩
      · exact .inr ⟨h1, by trivial⟩
  | false =>
    simp only at s1 s2 s3 ⊢
    have hlow := s3 (by trivial)
    have hm : ∀ x, x ∈ L ↔ x ∈ out := fun x => by
      rw [s2 x]
      constructor
      · rintro (⟨h1, _⟩ | ⟨_, h1⟩)
        · exact h1
        · cases h1
      · intro h1
        exact .inl ⟨h1, fun e => by have := hlow x h1; omega⟩
    rw [if_neg (by simp)]
    refine ⟨List.pairwise_append.2 ⟨s1, by simp, fun a ha b hb => by simp at hb; subst hb; exact hlow a ((hm a).1 ha)⟩, fun x => ?_⟩
    rw [List.mem_append, List.mem_singleton, hm]

theorem handU_ok : ∀ (s out : List Int), out.Pairwise (· < ·) → (s.foldl (fun out h => insU h out) out).Pairwise (· < ·) ∧ ∀ x, x ∈ s.foldl (fun out h => insU h out) out ↔ x ∈ out ∨ x ∈ s
  | [], out, h => ⟨h, by simp⟩
  | y :: s, out, h => by
    obtain ⟨h1, h2⟩ := insU_ok (h := y) h
    obtain ⟨h3, h4⟩ := handU_ok s _ h1
    refine ⟨h3, fun x => ?_⟩
    rw [List.foldl_cons, h4, h2, List.mem_cons]
    constructor
    · rintro ((h | h) | h)
      · exact .inl h
      · exact .inr (.inl h)
      · exact .inr (.inr h)
    · rintro (h | h | h)
      · exact .inl (.inl h)
      · exact .inl (.inr h)
      · exact .inr h

theorem dd_ok : ∀ (r p : List Int) (D : List Int), (p ++ r).Pairwise (· ≤ ·) → D.Pairwise (· < ·) → (∀ x, x ∈ D ↔ x ∈ p) → D.getLast? = p.getLast? →
    (r.foldl ddS D).Pairwise (· < ·) ∧ ∀ x, x ∈ r.foldl ddS D ↔ x ∈ p ++ r
  | [], p, D, _, h2, h3, _ => ⟨h2, by simpa using h3⟩
  | y :: r, p, D, h1, h2, h3, h4 => by
    have hle : ∀ x ∈ p, x ≤ y := fun x hx => (List.pairwise_append.1 h1).2.2 x hx y (by simp)
    have hlast := ddS_last D y
    have hmem : ∀ x, x ∈ ddS D y ↔ x ∈ p ++ [y] := fun x => by
      unfold ddS
      split
      · rename_i hl
        have hyD : y ∈ D := List.mem_of_getLast? hl
        rw [List.mem_append, List.mem_singleton, h3]
        exact ⟨.inl, fun h => h.elim id fun e => e ▸ (h3 y).1 hyD⟩
      · rw [List.mem_append, List.mem_append, h3]
    have hsort : (ddS D y).Pairwise (· < ·) := by
      unfold ddS
      split
      · exact h2
      · rename_i hl
        refine List.pairwise_append.2 ⟨h2, by simp, fun a ha b hb => ?_⟩
        simp at hb; subst hb
        have hab := hle a ((h3 a).1 ha)
        refine Int.lt_iff_le_and_ne.2 ⟨hab, fun e => ?_⟩
        subst e
        -- a is in D, the largest of p: so it is D's last
        have hne : D ≠ [] := fun e => by rw [e] at ha; cases ha
        obtain ⟨D', z, rfl⟩ : ∃ D' z, D = D' ++ [z] := ⟨D.dropLast, D.getLast hne, (List.dropLast_concat_getLast hne).symm⟩
        rw [List.getLast?_concat] at hl
        have hza : z ≠ a := fun e => hl (by rw [e])
        rcases List.mem_append.1 ha with h5 | h5
        · have h6 := (List.pairwise_append.1 h2).2.2 a h5 z (by simp)
          have h7 := hle z ((h3 z).1 (by simp))
          omega
        · simp at h5; exact hza h5.symm
    have := dd_ok r (p ++ [y]) (ddS D y) (by simpa using h1) hsort hmem (by rw [hlast, List.getLast?_concat])
    simpa using this

theorem hand_eq (s : List Int) : dd (sortI s) = handU s := by
  have hp : (sortI s).Perm s := List.mergeSort_perm _ _
  have hsort : (sortI s).Pairwise (· ≤ ·) := by
    have := List.pairwise_mergeSort (le := fun (x y : Int) => decide (x ≤ y)) (fun a b c h1 h2 => by simp at h1 h2 ⊢; omega) (fun a b => by simp; omega) s
    exact this.imp fun h => by simpa using h
  obtain ⟨d1, d2⟩ := dd_ok (sortI s) [] [] (by simpa using hsort) .nil (by simp) rfl
  obtain ⟨u1, u2⟩ := handU_ok s [] .nil
  refine strict_ext d1 u1 fun x => ?_
  rw [show dd (sortI s) = (sortI s).foldl ddS [] from rfl] 
  rw [d2, List.nil_append, hp.mem_iff]
  rw [show handU s = s.foldl (fun out h => insU h out) [] from rfl, u2]
  simp
end Go.Proofs.Ytgdlplhglpinaaa

/- The document's handles: the run; lists of whole numbers held against each other. -/
set_option linter.unusedVariables false
set_option linter.unusedSimpArgs false
namespace Go.Proofs.Ytgdlplhglpinaaa
open Go Go.Ir

theorem row1_cells {h : Heap} {v : Value} {l : List Int} (hv : Sl h 1 v (row1 l)) (h0 : 0 < l.length) : ∃ a cap, v = .slice (some a) l.length cap ∧ ∀ (i : Nat) (x : Int), l[i]? = some x → loadV h none ⟨a.block, a.off + i * 1, none⟩ = some (.int .i64 x) := by
  obtain ⟨a, cap, h1, h2⟩ := hv.row (row1_ne h0)
  rw [row1_length] at h1
  exact ⟨a, cap, h1, fun i x hx => (h2 i _ (row1_get hx)).1 0 _ rfl⟩

theorem ev_cells {h : Heap} {v : Value} {l : List Ev} (hv : Sl h 8 v (ecs l)) (h0 : 0 < l.length) : ∃ a cap, v = .slice (some a) l.length cap ∧ ∀ (i : Nat) (e : Ev), l[i]? = some e →
    loadV h none ⟨a.block, a.off + i * 8 + 1, none⟩ = some (.bool e.bk) ∧ loadV h none ⟨a.block, a.off + i * 8 + 2 + 1, none⟩ = some (.int .i64 e.h) ∧ loadV h none ⟨a.block, a.off + i * 8 + 6 + 1, none⟩ = some (.int .i64 e.rn) := by
  obtain ⟨a, cap, h1, h2⟩ := hv.row (fun e => by have := congrArg List.length e; rw [ecs_length, List.length_nil] at this; omega)
  rw [ecs_length] at h1
  exact ⟨a, cap, h1, fun i c hc => ⟨(h2 i _ (ecs_get hc)).1 1 _ rfl, (h2 i _ (ecs_get hc)).1 3 _ rfl, (h2 i _ (ecs_get hc)).1 7 _ rfl⟩⟩

theorem insU_len (h : Int) (out : List Int) : (insU h out).length ≤ 2 * out.length + 1 := by
  have key : ∀ (r : List Int) (st : List Int × Bool), (r.foldl (stepU h) st).1.length ≤ st.1.length + 2 * r.length := by
    intro r
    induction r with
    | nil => intro st; simp
    | cons x r ih =>
      intro st
      have h1 := ih (stepU h st x)
      have h2 : (stepU h st x).1.length ≤ st.1.length + 2 := by
        unfold stepU
        split <;> split <;> simp
      simp only [List.foldl_cons, List.length_cons]
      omega
  have := key out ([], false)
  unfold insU finU
  split
  · simp at this; omega
  · simp at this ⊢; omega

theorem handU_len (s : List Int) : (handU s).length ≤ s.length := by
  rw [← hand_eq]
  have := dd_le (sortI s)
  rwa [sortI_len] at this

theorem handU_snoc {l : List Ev} {i : Nat} {e : Ev} (h : l[i]? = some e) : handU ((l.take (i + 1)).map hnd) = insU (hnd e) (handU ((l.take i).map hnd)) := by
  obtain ⟨hi, he⟩ := List.getElem?_eq_some_iff.1 h
  rw [List.take_succ_eq_append_getElem hi, he]
  simp [handU, List.foldl_append]

theorem foldU_len (h : Int) (r : List Int) : (r.foldl (stepU h) ([], false)).1.length ≤ 2 * r.length := by
  have key : ∀ (r : List Int) (st : List Int × Bool), (r.foldl (stepU h) st).1.length ≤ st.1.length + 2 * r.length := by
    intro r
    induction r with
    | nil => intro st; simp
    | cons x r ih =>
      intro st
      have h1 := ih (stepU h st x)
      have h2 : (stepU h st x).1.length ≤ st.1.length + 2 := by
        unfold stepU
        split <;> split <;> simp
      simp only [List.foldl_cons, List.length_cons]
      omega
  have := key r ([], false)
  simpa using this

theorem foldU_take {h : Int} {out : List Int} {k : Nat} {x : Int} (hx : out[k]? = some x) : (out.take (k + 1)).foldl (stepU h) ([], false) = stepU h ((out.take k).foldl (stepU h) ([], false)) x := by
  obtain ⟨hk, he⟩ := List.getElem?_eq_some_iff.1 hx
  rw [List.take_succ_eq_append_getElem hk, he, List.foldl_append]
  rfl

set_option maxHeartbeats 3200000 in
theorem refHandles_spec (lo : Nat) {h : Heap} {v : Value} {l : List Ev} (hv : Sl h 8 v (ecs l)) (hl : l.length ≤ 1000) : callR En lo Id.sidingsref08_Handles [v] h = some (made h 1 (row1 (handU (l.map hnd)))) := by
  refine Exists.elim hv.len fun base hq => Exists.elim hq fun cap hve => ?_
  rw [ecs_length] at hve
  subst hve
  refine call_scr rfl Fn.sidingsref08_Handles rfl rfl ?_
  repeat' (first | (show EndsR _ _ _ _ _ _ _; first | refine EndsR.seq ?_ | refine EndsR.reg ?_ | refine EndsR.yes rfl ?_ | refine EndsR.no rfl ?_ | refine EndsR.skip ?_ | refine EndsR.block ?_ | refine EndsR.endB ?_ | refine EndsR.exit rfl ?_ | refine EndsR.br rfl (fun hc => ?_) (fun hc => ?_) | refine EndsR.scope ?_ | refine EndsR.inScope ?_ | refine EndsR.label ?_ | refine EndsR.ret rfl ?_ | refine EndsR.nil rfl ?_) | (show EndsG _ _ _ _ _ _ _ _ _; first | refine EndsG.mov rfl rfl ?_ | refine EndsG.lload rfl rfl rfl rfl ?_ | refine EndsG.laddr rfl rfl rfl ?_ | (show EndsG _ _ (⟨_, .bin _ _ _, _, _⟩ :: _) _ _ _ _ _ _; first | refine EndsG.lss rfl rfl rfl (fun hc => ?_) (fun hc => ?_) | refine EndsG.leq rfl rfl rfl (fun hc => ?_) (fun hc => ?_) | refine EndsG.gtr rfl rfl rfl (fun hc => ?_) (fun hc => ?_) | refine EndsG.geq rfl rfl rfl (fun hc => ?_) (fun hc => ?_) | refine EndsG.eql rfl rfl rfl (fun hc => ?_) (fun hc => ?_) | refine EndsG.neq rfl rfl rfl (fun hc => ?_) (fun hc => ?_)) | refine EndsG.skip rfl ?_ | refine EndsG.fin ?_ | refine EndsG.go rfl rfl rfl ?_ | refine EndsG.gono rfl rfl rfl ?_ | refine EndsG.skipn rfl ?_))
  refine .loop (fun n f H => ∃ (i : Nat) (o : Value), n + i = l.length ∧ f = [(0, .slice base l.length cap), (3, o), (4, N i)] ∧ Ext h H ∧ Out H h.length 1 o (row1 (handU ((l.take i).map hnd)))) (n := l.length)
    ⟨0, _, rfl, rfl, .refl _, Out.nil _ _ _⟩ ?_
  rintro n f H ⟨i, o, hn, rfl, hx, ho⟩ next
  by_cases hi : i < l.length
  · have hgi : l[i]? = some l[i] := List.getElem?_eq_getElem hi
    have hsn := handU_snoc hgi
    generalize l[i] = e at hgi hsn
    have hol := handU_len ((l.take i).map hnd)
    rw [List.length_map, List.length_take] at hol
    generalize handU ((l.take i).map hnd) = out at ho hsn hol
    refine Exists.elim (ev_cells (hv.ext hx) (by omega)) fun a hq => Exists.elim hq fun cap' hq => ?_
    have hva := hq.1
    injection hva with e1 e2 e3
    subst e1
    have I1 := (hq.2 i e hgi).1
    have I3 := (hq.2 i e hgi).2.1
    have I7 := (hq.2 i e hgi).2.2
    have hos := ho.sl
    refine Exists.elim hos.len fun ob hq => Exists.elim hq fun oc hoe => ?_
    rw [row1_length] at hoe
    subst hoe
    have hhd : (e.bk = true → e.rn = hnd e) ∧ (e.bk = false → e.h = hnd e) := by
      unfold hnd
      constructor <;> intro h <;> rw [h] <;> rfl
    generalize hnd e = hh at hsn hhd
    have tail : ∀ (f : Fr), fget f 0 = some (.slice (some a) l.length cap) → fget f 3 = some (.slice ob out.length oc) → fget f 4 = some (N i) → fget f 5 = some (.int .i64 hh) → True := fun _ _ _ _ _ => trivial
    clear tail
    cases hb : e.bk
    all_goals
      rw [hb] at I1 hhd
      first | rw [hhd.1 rfl] at I7 | rw [hhd.2 rfl] at I3
      repeat' (first | (show EndsR _ _ _ _ _ _ _; first | refine EndsR.seq ?_ | refine EndsR.reg ?_ | refine EndsR.yes rfl ?_ | refine EndsR.no rfl ?_ | refine EndsR.skip ?_ | refine EndsR.block ?_ | refine EndsR.endB ?_ | refine EndsR.exit rfl ?_ | refine EndsR.br rfl (fun hc => ?_) (fun hc => ?_) | refine EndsR.scope ?_ | refine EndsR.inScope ?_ | refine EndsR.label ?_ | refine EndsR.ret rfl ?_ | refine EndsR.nil rfl ?_) | (show EndsG _ _ _ _ _ _ _ _ _; first | refine EndsG.mov rfl rfl ?_ | refine EndsG.lload rfl rfl rfl rfl ?_ | refine EndsG.laddr rfl rfl rfl ?_ | (show EndsG _ _ (⟨_, .bin _ _ _, _, _⟩ :: _) _ _ _ _ _ _; first | refine EndsG.lssT rfl rfl rfl (by omega) ?_ | refine EndsG.lssF rfl rfl rfl (by omega) ?_ | refine EndsG.leq rfl rfl rfl (fun hc => ?_) (fun hc => ?_) | refine EndsG.gtr rfl rfl rfl (fun hc => ?_) (fun hc => ?_) | refine EndsG.geq rfl rfl rfl (fun hc => ?_) (fun hc => ?_) | refine EndsG.eql rfl rfl rfl (fun hc => ?_) (fun hc => ?_) | refine EndsG.neq rfl rfl rfl (fun hc => ?_) (fun hc => ?_)) | (show EndsG _ _ (⟨_, .load _ _, _, _⟩ :: _) _ _ _ _ _ _; first | refine EndsG.load rfl rfl (I1) ?_ | refine EndsG.load rfl rfl (I3) ?_ | refine EndsG.load rfl rfl (I7) ?_) | refine EndsG.iaddr rfl rfl rfl (hi) ?_ | refine EndsG.skip rfl ?_ | refine EndsG.fin ?_ | refine EndsG.go rfl rfl rfl ?_ | refine EndsG.gono rfl rfl rfl ?_ | refine EndsG.skipn rfl ?_))
      refine .loop (fun m f H' => ∃ (k : Nat) (nx : Value), m + k = out.length ∧ f = [(0, .slice (some a) l.length cap), (3, .slice ob out.length oc), (4, N i), (5, .int .i64 hh), (6, nx), (7, .bool ((out.take k).foldl (stepU hh) ([], false)).2), (8, N k)] ∧ Ext H H' ∧
        Out H' H.length 1 nx (row1 ((out.take k).foldl (stepU hh) ([], false)).1)) (n := out.length) ⟨0, _, rfl, rfl, .refl _, Out.nil _ _ _⟩ ?_
      rintro m f H' ⟨k, nx, hm, rfl, hx2, hnx⟩ nextk
      by_cases hk : k < out.length
      · have hgk : out[k]? = some out[k] := List.getElem?_eq_getElem hk
        have hst := foldU_take (h := hh) hgk
        generalize out[k] = x at hgk hst
        have hfl := foldU_len hh (out.take k)
        rw [List.length_take] at hfl
        generalize (out.take k).foldl (stepU hh) ([], false) = st at hst hnx hfl
        obtain ⟨L, laid⟩ := st
        refine Exists.elim (row1_cells (hos.ext hx2) (by omega)) fun oa hq => Exists.elim hq fun cap2 hq => ?_
        have hvb := hq.1
        injection hvb with e4 e5 e6
        subst e4
        have X := hq.2 k x hgk
        simp only at hnx hst hfl
        have hpl : (row1 L).length + 1 ≤ 2 ^ 30 := by rw [row1_length]; omega
        have hx2l := hx2.1
        have hu : stepU hh (L, laid) x = if laid = false ∧ hh ≤ x then (if x = hh then (L ++ [hh], true) else (L ++ [hh] ++ [x], true)) else (if x = hh then (L, laid) else (L ++ [x], laid)) := rfl
        rw [hu] at hst
        by_cases hc : laid = false ∧ hh ≤ x
        · obtain ⟨hl0, hge⟩ := hc
          subst hl0
          rw [if_pos ⟨rfl, hge⟩] at hst
          refine Exists.elim (hnx.push2 (l0 := h.length) (bytes := 8) (e := [.int .i64 hh]) rfl hx.1 hx2.1 hpl (by decide)) fun n1 hq1 => Exists.elim hq1 fun H1 hq2 => ?_
          have hap := hq2.1
          have hn1 := hq2.2.1
          have hx3 := hq2.2.2 H (Nat.le_refl _) hx2
          rw [row1_app] at hn1
          by_cases hxh : x = hh
          · rw [if_pos hxh] at hst
            have X1 := (hq.2 k x hgk)
            refine Exists.elim (row1_cells (hos.ext hx3) (by omega)) fun oa2 hq3 => Exists.elim hq3 fun cap3 hq3 => ?_
            have hvc := hq3.1
            injection hvc with e7 e8 e9
            injection e7 with e7
            subst e7
            have X2 := hq3.2 k x hgk
            repeat' (first | (show EndsR _ _ _ _ _ _ _; first | refine EndsR.seq ?_ | refine EndsR.reg ?_ | refine EndsR.yes rfl ?_ | refine EndsR.no rfl ?_ | refine EndsR.skip ?_ | refine EndsR.block ?_ | refine EndsR.endB ?_ | refine EndsR.exit rfl ?_ | refine EndsR.br rfl (fun hc => ?_) (fun hc => ?_) | refine EndsR.scope ?_ | refine EndsR.inScope ?_ | refine EndsR.label ?_ | refine EndsR.ret rfl ?_ | refine EndsR.nil rfl ?_) | (show EndsG _ _ _ _ _ _ _ _ _; first | refine EndsG.mov rfl rfl ?_ | refine EndsG.lload rfl rfl rfl rfl ?_ | refine EndsG.laddr rfl rfl rfl ?_ | (show EndsG _ _ (⟨_, .bin _ _ _, _, _⟩ :: _) _ _ _ _ _ _; first | refine EndsG.lssT rfl rfl rfl (by omega) ?_ | refine EndsG.lssF rfl rfl rfl (by omega) ?_ | refine EndsG.leq rfl rfl rfl (fun hc => ?_) (fun hc => ?_) | refine EndsG.gtr rfl rfl rfl (fun hc => ?_) (fun hc => ?_) | refine EndsG.geqT rfl rfl rfl (by omega) ?_ | refine EndsG.geqF rfl rfl rfl (by omega) ?_ | refine EndsG.eql rfl rfl rfl (fun hc => ?_) (fun hc => ?_) | refine EndsG.neqT rfl rfl rfl (by omega) ?_ | refine EndsG.neqF rfl rfl rfl (by omega) ?_ | refine EndsG.addN rfl rfl rfl (by omega) ?_ | refine EndsG.addN (b := 1) rfl rfl rfl (by omega) ?_ | refine EndsG.subN rfl rfl rfl (by omega) ?_ | refine EndsG.subN (b := 1) rfl rfl rfl (by omega) ?_) | (show EndsG _ _ (⟨_, .load _ _, _, _⟩ :: _) _ _ _ _ _ _; first | refine EndsG.load rfl rfl (X) ?_ | refine EndsG.load rfl rfl (X2) ?_) | refine EndsG.iaddr rfl rfl rfl (hk) ?_ | refine EndsG.app rfl rfl rfl (hap) ?_ | refine EndsG.skip rfl ?_ | refine EndsG.fin ?_ | refine EndsG.go rfl rfl rfl ?_ | refine EndsG.gono rfl rfl rfl ?_ | refine EndsG.skipn rfl ?_))
            exact nextk (m - 1) _ _ (by omega) ⟨k + 1, n1, by omega, by rw [hst]; rfl, hx3, by rw [hst]; exact hn1⟩
          · rw [if_neg hxh] at hst
            have hpl2 : (row1 (L ++ [hh])).length + 1 ≤ 2 ^ 30 := by rw [row1_length, List.length_append]; simp; omega
            refine Exists.elim (hn1.push2 (l0 := h.length) (bytes := 8) (e := [.int .i64 x]) rfl hx.1 hx3.1 hpl2 (by decide)) fun n2 hq4 => Exists.elim hq4 fun H2 hq5 => ?_
            have hap2 := hq5.1
            have hn2 := hq5.2.1
            have hx4 := hq5.2.2 H (Nat.le_refl _) hx3
            rw [row1_app] at hn2
            refine Exists.elim (row1_cells (hos.ext hx3) (by omega)) fun oa2 hq3 => Exists.elim hq3 fun cap3 hq3 => ?_
            have hvc := hq3.1
            injection hvc with e7 e8 e9
            injection e7 with e7
            subst e7
            have X2 := hq3.2 k x hgk
            repeat' (first | (show EndsR _ _ _ _ _ _ _; first | refine EndsR.seq ?_ | refine EndsR.reg ?_ | refine EndsR.yes rfl ?_ | refine EndsR.no rfl ?_ | refine EndsR.skip ?_ | refine EndsR.block ?_ | refine EndsR.endB ?_ | refine EndsR.exit rfl ?_ | refine EndsR.br rfl (fun hc => ?_) (fun hc => ?_) | refine EndsR.scope ?_ | refine EndsR.inScope ?_ | refine EndsR.label ?_ | refine EndsR.ret rfl ?_ | refine EndsR.nil rfl ?_) | (show EndsG _ _ _ _ _ _ _ _ _; first | refine EndsG.mov rfl rfl ?_ | refine EndsG.lload rfl rfl rfl rfl ?_ | refine EndsG.laddr rfl rfl rfl ?_ | (show EndsG _ _ (⟨_, .bin _ _ _, _, _⟩ :: _) _ _ _ _ _ _; first | refine EndsG.lssT rfl rfl rfl (by omega) ?_ | refine EndsG.lssF rfl rfl rfl (by omega) ?_ | refine EndsG.leq rfl rfl rfl (fun hc => ?_) (fun hc => ?_) | refine EndsG.gtr rfl rfl rfl (fun hc => ?_) (fun hc => ?_) | refine EndsG.geqT rfl rfl rfl (by omega) ?_ | refine EndsG.geqF rfl rfl rfl (by omega) ?_ | refine EndsG.eql rfl rfl rfl (fun hc => ?_) (fun hc => ?_) | refine EndsG.neqT rfl rfl rfl (by omega) ?_ | refine EndsG.neqF rfl rfl rfl (by omega) ?_ | refine EndsG.addN rfl rfl rfl (by omega) ?_ | refine EndsG.addN (b := 1) rfl rfl rfl (by omega) ?_ | refine EndsG.subN rfl rfl rfl (by omega) ?_ | refine EndsG.subN (b := 1) rfl rfl rfl (by omega) ?_) | (show EndsG _ _ (⟨_, .load _ _, _, _⟩ :: _) _ _ _ _ _ _; first | refine EndsG.load rfl rfl (X) ?_ | refine EndsG.load rfl rfl (X2) ?_) | refine EndsG.iaddr rfl rfl rfl (hk) ?_ | (show EndsG _ _ (⟨_, .append _ _ _ _, _, _⟩ :: _) _ _ _ _ _ _; first | refine EndsG.app rfl rfl rfl (hap) ?_ | refine EndsG.app rfl rfl rfl (hap2) ?_) | refine EndsG.skip rfl ?_ | refine EndsG.fin ?_ | refine EndsG.go rfl rfl rfl ?_ | refine EndsG.gono rfl rfl rfl ?_ | refine EndsG.skipn rfl ?_))
            exact nextk (m - 1) _ _ (by omega) ⟨k + 1, n2, by omega, by rw [hst]; rfl, hx4, by rw [hst]; exact hn2⟩
        · rw [if_neg hc] at hst
          by_cases hxh : x = hh
          · rw [if_pos hxh] at hst
            have hlt : laid = true := by
              cases laid with
              | true => rfl
              | false => exact absurd ⟨rfl, by omega⟩ hc
            subst hlt
            repeat' (first | (show EndsR _ _ _ _ _ _ _; first | refine EndsR.seq ?_ | refine EndsR.reg ?_ | refine EndsR.yes rfl ?_ | refine EndsR.no rfl ?_ | refine EndsR.skip ?_ | refine EndsR.block ?_ | refine EndsR.endB ?_ | refine EndsR.exit rfl ?_ | refine EndsR.br rfl (fun hc => ?_) (fun hc => ?_) | refine EndsR.scope ?_ | refine EndsR.inScope ?_ | refine EndsR.label ?_ | refine EndsR.ret rfl ?_ | refine EndsR.nil rfl ?_) | (show EndsG _ _ _ _ _ _ _ _ _; first | refine EndsG.mov rfl rfl ?_ | refine EndsG.lload rfl rfl rfl rfl ?_ | refine EndsG.laddr rfl rfl rfl ?_ | (show EndsG _ _ (⟨_, .bin _ _ _, _, _⟩ :: _) _ _ _ _ _ _; first | refine EndsG.lssT rfl rfl rfl (by omega) ?_ | refine EndsG.lssF rfl rfl rfl (by omega) ?_ | refine EndsG.leq rfl rfl rfl (fun hc => ?_) (fun hc => ?_) | refine EndsG.gtr rfl rfl rfl (fun hc => ?_) (fun hc => ?_) | refine EndsG.geqT rfl rfl rfl (by omega) ?_ | refine EndsG.geqF rfl rfl rfl (by omega) ?_ | refine EndsG.eql rfl rfl rfl (fun hc => ?_) (fun hc => ?_) | refine EndsG.neqT rfl rfl rfl (by omega) ?_ | refine EndsG.neqF rfl rfl rfl (by omega) ?_ | refine EndsG.addN rfl rfl rfl (by omega) ?_ | refine EndsG.addN (b := 1) rfl rfl rfl (by omega) ?_ | refine EndsG.subN rfl rfl rfl (by omega) ?_ | refine EndsG.subN (b := 1) rfl rfl rfl (by omega) ?_) | refine EndsG.load rfl rfl (X) ?_ | refine EndsG.iaddr rfl rfl rfl (hk) ?_ | refine EndsG.skip rfl ?_ | refine EndsG.fin ?_ | refine EndsG.go rfl rfl rfl ?_ | refine EndsG.gono rfl rfl rfl ?_ | refine EndsG.skipn rfl ?_))
            exact nextk (m - 1) _ _ (by omega) ⟨k + 1, nx, by omega, by rw [hst]; rfl, hx2, by rw [hst]; exact hnx⟩
          · rw [if_neg hxh] at hst
            refine Exists.elim (hnx.push2 (l0 := h.length) (bytes := 8) (e := [.int .i64 x]) rfl hx.1 hx2.1 hpl (by decide)) fun n1 hq1 => Exists.elim hq1 fun H1 hq2 => ?_
            have hap := hq2.1
            have hn1 := hq2.2.1
            have hx3 := hq2.2.2 H (Nat.le_refl _) hx2
            rw [row1_app] at hn1
            cases laid with
            | true =>
              repeat' (first | (show EndsR _ _ _ _ _ _ _; first | refine EndsR.seq ?_ | refine EndsR.reg ?_ | refine EndsR.yes rfl ?_ | refine EndsR.no rfl ?_ | refine EndsR.skip ?_ | refine EndsR.block ?_ | refine EndsR.endB ?_ | refine EndsR.exit rfl ?_ | refine EndsR.br rfl (fun hc => ?_) (fun hc => ?_) | refine EndsR.scope ?_ | refine EndsR.inScope ?_ | refine EndsR.label ?_ | refine EndsR.ret rfl ?_ | refine EndsR.nil rfl ?_) | (show EndsG _ _ _ _ _ _ _ _ _; first | refine EndsG.mov rfl rfl ?_ | refine EndsG.lload rfl rfl rfl rfl ?_ | refine EndsG.laddr rfl rfl rfl ?_ | (show EndsG _ _ (⟨_, .bin _ _ _, _, _⟩ :: _) _ _ _ _ _ _; first | refine EndsG.lssT rfl rfl rfl (by omega) ?_ | refine EndsG.lssF rfl rfl rfl (by omega) ?_ | refine EndsG.leq rfl rfl rfl (fun hc => ?_) (fun hc => ?_) | refine EndsG.gtr rfl rfl rfl (fun hc => ?_) (fun hc => ?_) | refine EndsG.geqT rfl rfl rfl (by omega) ?_ | refine EndsG.geqF rfl rfl rfl (by omega) ?_ | refine EndsG.eql rfl rfl rfl (fun hc => ?_) (fun hc => ?_) | refine EndsG.neqT rfl rfl rfl (by omega) ?_ | refine EndsG.neqF rfl rfl rfl (by omega) ?_ | refine EndsG.addN rfl rfl rfl (by omega) ?_ | refine EndsG.addN (b := 1) rfl rfl rfl (by omega) ?_ | refine EndsG.subN rfl rfl rfl (by omega) ?_ | refine EndsG.subN (b := 1) rfl rfl rfl (by omega) ?_) | refine EndsG.load rfl rfl (X) ?_ | refine EndsG.iaddr rfl rfl rfl (hk) ?_ | refine EndsG.app rfl rfl rfl (hap) ?_ | refine EndsG.skip rfl ?_ | refine EndsG.fin ?_ | refine EndsG.go rfl rfl rfl ?_ | refine EndsG.gono rfl rfl rfl ?_ | refine EndsG.skipn rfl ?_))
              exact nextk (m - 1) _ _ (by omega) ⟨k + 1, n1, by omega, by rw [hst]; rfl, hx3, by rw [hst]; exact hn1⟩
            | false =>
              have hlt : ¬ hh ≤ x := fun hh => hc ⟨rfl, hh⟩
              repeat' (first | (show EndsR _ _ _ _ _ _ _; first | refine EndsR.seq ?_ | refine EndsR.reg ?_ | refine EndsR.yes rfl ?_ | refine EndsR.no rfl ?_ | refine EndsR.skip ?_ | refine EndsR.block ?_ | refine EndsR.endB ?_ | refine EndsR.exit rfl ?_ | refine EndsR.br rfl (fun hc => ?_) (fun hc => ?_) | refine EndsR.scope ?_ | refine EndsR.inScope ?_ | refine EndsR.label ?_ | refine EndsR.ret rfl ?_ | refine EndsR.nil rfl ?_) | (show EndsG _ _ _ _ _ _ _ _ _; first | refine EndsG.mov rfl rfl ?_ | refine EndsG.lload rfl rfl rfl rfl ?_ | refine EndsG.laddr rfl rfl rfl ?_ | (show EndsG _ _ (⟨_, .bin _ _ _, _, _⟩ :: _) _ _ _ _ _ _; first | refine EndsG.lssT rfl rfl rfl (by omega) ?_ | refine EndsG.lssF rfl rfl rfl (by omega) ?_ | refine EndsG.leq rfl rfl rfl (fun hc => ?_) (fun hc => ?_) | refine EndsG.gtr rfl rfl rfl (fun hc => ?_) (fun hc => ?_) | refine EndsG.geqT rfl rfl rfl (by omega) ?_ | refine EndsG.geqF rfl rfl rfl (by omega) ?_ | refine EndsG.eql rfl rfl rfl (fun hc => ?_) (fun hc => ?_) | refine EndsG.neqT rfl rfl rfl (by omega) ?_ | refine EndsG.neqF rfl rfl rfl (by omega) ?_ | refine EndsG.addN rfl rfl rfl (by omega) ?_ | refine EndsG.addN (b := 1) rfl rfl rfl (by omega) ?_ | refine EndsG.subN rfl rfl rfl (by omega) ?_ | refine EndsG.subN (b := 1) rfl rfl rfl (by omega) ?_) | refine EndsG.load rfl rfl (X) ?_ | refine EndsG.iaddr rfl rfl rfl (hk) ?_ | refine EndsG.app rfl rfl rfl (hap) ?_ | refine EndsG.skip rfl ?_ | refine EndsG.fin ?_ | refine EndsG.go rfl rfl rfl ?_ | refine EndsG.gono rfl rfl rfl ?_ | refine EndsG.skipn rfl ?_))
              exact nextk (m - 1) _ _ (by omega) ⟨k + 1, n1, by omega, by rw [hst]; rfl, hx3, by rw [hst]; exact hn1⟩
      · rw [List.take_of_length_le (by omega)] at hnx ⊢
        have hfin : insU hh out = finU hh (out.foldl (stepU hh) ([], false)) := rfl
        have hfl := foldU_len hh out
        generalize out.foldl (stepU hh) ([], false) = st at hnx hfin hfl
        obtain ⟨L, laid⟩ := st
        rw [hfin] at hsn
        unfold finU at hsn
        simp only at hnx hsn hfl
        have hpl : (row1 L).length + 1 ≤ 2 ^ 30 := by rw [row1_length]; omega
        cases laid with
        | true =>
          repeat' (first | (show EndsR _ _ _ _ _ _ _; first | refine EndsR.seq ?_ | refine EndsR.reg ?_ | refine EndsR.yes rfl ?_ | refine EndsR.no rfl ?_ | refine EndsR.skip ?_ | refine EndsR.block ?_ | refine EndsR.endB ?_ | refine EndsR.exit rfl ?_ | refine EndsR.br rfl (fun hc => ?_) (fun hc => ?_) | refine EndsR.scope ?_ | refine EndsR.inScope ?_ | refine EndsR.label ?_ | refine EndsR.ret rfl ?_ | refine EndsR.nil rfl ?_) | (show EndsG _ _ _ _ _ _ _ _ _; first | refine EndsG.mov rfl rfl ?_ | refine EndsG.lload rfl rfl rfl rfl ?_ | refine EndsG.laddr rfl rfl rfl ?_ | (show EndsG _ _ (⟨_, .bin _ _ _, _, _⟩ :: _) _ _ _ _ _ _; first | refine EndsG.lssT rfl rfl rfl (by omega) ?_ | refine EndsG.lssF rfl rfl rfl (by omega) ?_ | refine EndsG.leq rfl rfl rfl (fun hc => ?_) (fun hc => ?_) | refine EndsG.gtr rfl rfl rfl (fun hc => ?_) (fun hc => ?_) | refine EndsG.geq rfl rfl rfl (fun hc => ?_) (fun hc => ?_) | refine EndsG.eql rfl rfl rfl (fun hc => ?_) (fun hc => ?_) | refine EndsG.neq rfl rfl rfl (fun hc => ?_) (fun hc => ?_) | refine EndsG.addN rfl rfl rfl (by omega) ?_ | refine EndsG.addN (b := 1) rfl rfl rfl (by omega) ?_ | refine EndsG.subN rfl rfl rfl (by omega) ?_ | refine EndsG.subN (b := 1) rfl rfl rfl (by omega) ?_) | refine EndsG.skip rfl ?_ | refine EndsG.fin ?_ | refine EndsG.go rfl rfl rfl ?_ | refine EndsG.gono rfl rfl rfl ?_ | refine EndsG.skipn rfl ?_))
          exact next (n - 1) _ _ (by omega) ⟨i + 1, nx, by omega, rfl, hx.trans hx2, by rw [hsn]; exact hnx.mono' hx.1⟩
        | false =>
          refine Exists.elim (hnx.push2 (l0 := h.length) (bytes := 8) (e := [.int .i64 hh]) rfl hx.1 hx2.1 hpl (by decide)) fun n1 hq1 => Exists.elim hq1 fun H1 hq2 => ?_
          have hap := hq2.1
          have hn1 := hq2.2.1
          have hx3 := hq2.2.2 H (Nat.le_refl _) hx2
          rw [row1_app] at hn1
          repeat' (first | (show EndsR _ _ _ _ _ _ _; first | refine EndsR.seq ?_ | refine EndsR.reg ?_ | refine EndsR.yes rfl ?_ | refine EndsR.no rfl ?_ | refine EndsR.skip ?_ | refine EndsR.block ?_ | refine EndsR.endB ?_ | refine EndsR.exit rfl ?_ | refine EndsR.br rfl (fun hc => ?_) (fun hc => ?_) | refine EndsR.scope ?_ | refine EndsR.inScope ?_ | refine EndsR.label ?_ | refine EndsR.ret rfl ?_ | refine EndsR.nil rfl ?_) | (show EndsG _ _ _ _ _ _ _ _ _; first | refine EndsG.mov rfl rfl ?_ | refine EndsG.lload rfl rfl rfl rfl ?_ | refine EndsG.laddr rfl rfl rfl ?_ | (show EndsG _ _ (⟨_, .bin _ _ _, _, _⟩ :: _) _ _ _ _ _ _; first | refine EndsG.lssT rfl rfl rfl (by omega) ?_ | refine EndsG.lssF rfl rfl rfl (by omega) ?_ | refine EndsG.leq rfl rfl rfl (fun hc => ?_) (fun hc => ?_) | refine EndsG.gtr rfl rfl rfl (fun hc => ?_) (fun hc => ?_) | refine EndsG.geq rfl rfl rfl (fun hc => ?_) (fun hc => ?_) | refine EndsG.eql rfl rfl rfl (fun hc => ?_) (fun hc => ?_) | refine EndsG.neq rfl rfl rfl (fun hc => ?_) (fun hc => ?_) | refine EndsG.addN rfl rfl rfl (by omega) ?_ | refine EndsG.addN (b := 1) rfl rfl rfl (by omega) ?_ | refine EndsG.subN rfl rfl rfl (by omega) ?_ | refine EndsG.subN (b := 1) rfl rfl rfl (by omega) ?_) | refine EndsG.app rfl rfl rfl (hap) ?_ | refine EndsG.skip rfl ?_ | refine EndsG.fin ?_ | refine EndsG.go rfl rfl rfl ?_ | refine EndsG.gono rfl rfl rfl ?_ | refine EndsG.skipn rfl ?_))
          exact next (n - 1) _ _ (by omega) ⟨i + 1, n1, by omega, rfl, hx.trans hx3, by rw [hsn]; exact hn1.mono' hx.1⟩
  · rw [List.take_of_length_le (by omega)] at ho
    repeat' (first | (show EndsR _ _ _ _ _ _ _; first | refine EndsR.seq ?_ | refine EndsR.reg ?_ | refine EndsR.yes rfl ?_ | refine EndsR.no rfl ?_ | refine EndsR.skip ?_ | refine EndsR.block ?_ | refine EndsR.endB ?_ | refine EndsR.exit rfl ?_ | refine EndsR.br rfl (fun hc => ?_) (fun hc => ?_) | refine EndsR.scope ?_ | refine EndsR.inScope ?_ | refine EndsR.label ?_ | refine EndsR.ret rfl ?_ | refine EndsR.nil rfl ?_) | (show EndsG _ _ _ _ _ _ _ _ _; first | refine EndsG.mov rfl rfl ?_ | refine EndsG.lload rfl rfl rfl rfl ?_ | refine EndsG.laddr rfl rfl rfl ?_ | (show EndsG _ _ (⟨_, .bin _ _ _, _, _⟩ :: _) _ _ _ _ _ _; first | refine EndsG.lssT rfl rfl rfl (by omega) ?_ | refine EndsG.lssF rfl rfl rfl (by omega) ?_ | refine EndsG.leq rfl rfl rfl (fun hc => ?_) (fun hc => ?_) | refine EndsG.gtr rfl rfl rfl (fun hc => ?_) (fun hc => ?_) | refine EndsG.geq rfl rfl rfl (fun hc => ?_) (fun hc => ?_) | refine EndsG.eql rfl rfl rfl (fun hc => ?_) (fun hc => ?_) | refine EndsG.neq rfl rfl rfl (fun hc => ?_) (fun hc => ?_)) | refine EndsG.skip rfl ?_ | refine EndsG.fin ?_ | refine EndsG.go rfl rfl rfl ?_ | refine EndsG.gono rfl rfl rfl ?_ | refine EndsG.skipn rfl ?_))
    exact ho.tidy (row1_flat _)

theorem same01_spec (lo : Nat) {h : Heap} {v w : Value} {C : List Int} (hv : Sl h 1 v (row1 C)) (hw : Sl h 1 w (row1 C)) (hl : C.length ≤ 1000) : callR En lo Id.sidingsref01_Same [v, w] h = some (.bool true, h) := by
  refine Exists.elim hv.len fun base hq => Exists.elim hq fun cap hve => ?_
  refine Exists.elim hw.len fun bw hq => Exists.elim hq fun cw hwe => ?_
  rw [row1_length] at hve hwe
  subst hve hwe
  refine call_scr rfl Fn.sidingsref01_Same rfl rfl ?_
  repeat' (first | (show EndsR _ _ _ _ _ _ _; first | refine EndsR.seq ?_ | refine EndsR.reg ?_ | refine EndsR.yes rfl ?_ | refine EndsR.no rfl ?_ | refine EndsR.skip ?_ | refine EndsR.block ?_ | refine EndsR.endB ?_ | refine EndsR.exit rfl ?_ | refine EndsR.br rfl (fun hc => ?_) (fun hc => ?_) | refine EndsR.scope ?_ | refine EndsR.inScope ?_ | refine EndsR.label ?_ | refine EndsR.ret rfl ?_ | refine EndsR.nil rfl ?_) | (show EndsG _ _ _ _ _ _ _ _ _; first | refine EndsG.mov rfl rfl ?_ | refine EndsG.lload rfl rfl rfl rfl ?_ | refine EndsG.laddr rfl rfl rfl ?_ | (show EndsG _ _ (⟨_, .bin _ _ _, _, _⟩ :: _) _ _ _ _ _ _; first | refine EndsG.lss rfl rfl rfl (fun hc => ?_) (fun hc => ?_) | refine EndsG.leq rfl rfl rfl (fun hc => ?_) (fun hc => ?_) | refine EndsG.gtr rfl rfl rfl (fun hc => ?_) (fun hc => ?_) | refine EndsG.geq rfl rfl rfl (fun hc => ?_) (fun hc => ?_) | refine EndsG.eql rfl rfl rfl (fun hc => ?_) (fun hc => ?_) | refine EndsG.neqT rfl rfl rfl (by omega) ?_ | refine EndsG.neqF rfl rfl rfl (by omega) ?_) | refine EndsG.skip rfl ?_ | refine EndsG.fin ?_ | refine EndsG.go rfl rfl rfl ?_ | refine EndsG.gono rfl rfl rfl ?_ | refine EndsG.skipn rfl ?_))
  refine .loop (fun n f H => H = h ∧ ∃ (i : Nat), n + i = C.length ∧ f = [(0, .slice base C.length cap), (1, .slice bw C.length cw), (5, N i)]) (n := C.length) ⟨rfl, 0, rfl, rfl⟩ ?_
  rintro n f H ⟨rfl, i, hn, rfl⟩ next
  by_cases hi : i < C.length
  · have hgi : C[i]? = some C[i] := List.getElem?_eq_getElem hi
    generalize C[i] = c at hgi
    refine Exists.elim (row1_cells hv (by omega)) fun a hq => Exists.elim hq fun cap' hq => ?_
    have hva := hq.1
    injection hva with e1 e2 e3
    subst e1
    have IA := hq.2 i c hgi
    refine Exists.elim (row1_cells hw (by omega)) fun b hq => Exists.elim hq fun cap2 hq => ?_
    have hvb := hq.1
    injection hvb with e4 e5 e6
    subst e4
    have IB := hq.2 i c hgi
    repeat' (first | (show EndsR _ _ _ _ _ _ _; first | refine EndsR.seq ?_ | refine EndsR.reg ?_ | refine EndsR.yes rfl ?_ | refine EndsR.no rfl ?_ | refine EndsR.skip ?_ | refine EndsR.block ?_ | refine EndsR.endB ?_ | refine EndsR.exit rfl ?_ | refine EndsR.br rfl (fun hc => ?_) (fun hc => ?_) | refine EndsR.scope ?_ | refine EndsR.inScope ?_ | refine EndsR.label ?_ | refine EndsR.ret rfl ?_ | refine EndsR.nil rfl ?_) | (show EndsG _ _ _ _ _ _ _ _ _; first | refine EndsG.mov rfl rfl ?_ | refine EndsG.lload rfl rfl rfl rfl ?_ | refine EndsG.laddr rfl rfl rfl ?_ | (show EndsG _ _ (⟨_, .bin _ _ _, _, _⟩ :: _) _ _ _ _ _ _; first | refine EndsG.lssT rfl rfl rfl (by omega) ?_ | refine EndsG.lssF rfl rfl rfl (by omega) ?_ | refine EndsG.leq rfl rfl rfl (fun hc => ?_) (fun hc => ?_) | refine EndsG.gtr rfl rfl rfl (fun hc => ?_) (fun hc => ?_) | refine EndsG.geq rfl rfl rfl (fun hc => ?_) (fun hc => ?_) | refine EndsG.eql rfl rfl rfl (fun hc => ?_) (fun hc => ?_) | refine EndsG.neqT rfl rfl rfl (by omega) ?_ | refine EndsG.neqF rfl rfl rfl (by omega) ?_ | refine EndsG.addN rfl rfl rfl (by omega) ?_ | refine EndsG.addN (b := 1) rfl rfl rfl (by omega) ?_ | refine EndsG.subN rfl rfl rfl (by omega) ?_ | refine EndsG.subN (b := 1) rfl rfl rfl (by omega) ?_) | (show EndsG _ _ (⟨_, .load _ _, _, _⟩ :: _) _ _ _ _ _ _; first | refine EndsG.load rfl rfl (IA) ?_ | refine EndsG.load rfl rfl (IB) ?_) | refine EndsG.iaddr rfl rfl rfl (hi) ?_ | refine EndsG.skip rfl ?_ | refine EndsG.fin ?_ | refine EndsG.go rfl rfl rfl ?_ | refine EndsG.gono rfl rfl rfl ?_ | refine EndsG.skipn rfl ?_))
    exact next (n - 1) _ _ (by omega) ⟨rfl, i + 1, by omega, rfl⟩
  · repeat' (first | (show EndsR _ _ _ _ _ _ _; first | refine EndsR.seq ?_ | refine EndsR.reg ?_ | refine EndsR.yes rfl ?_ | refine EndsR.no rfl ?_ | refine EndsR.skip ?_ | refine EndsR.block ?_ | refine EndsR.endB ?_ | refine EndsR.exit rfl ?_ | refine EndsR.br rfl (fun hc => ?_) (fun hc => ?_) | refine EndsR.scope ?_ | refine EndsR.inScope ?_ | refine EndsR.label ?_ | refine EndsR.ret rfl ?_ | refine EndsR.nil rfl ?_) | (show EndsG _ _ _ _ _ _ _ _ _; first | refine EndsG.mov rfl rfl ?_ | refine EndsG.lload rfl rfl rfl rfl ?_ | refine EndsG.laddr rfl rfl rfl ?_ | (show EndsG _ _ (⟨_, .bin _ _ _, _, _⟩ :: _) _ _ _ _ _ _; first | refine EndsG.lssT rfl rfl rfl (by omega) ?_ | refine EndsG.lssF rfl rfl rfl (by omega) ?_ | refine EndsG.leq rfl rfl rfl (fun hc => ?_) (fun hc => ?_) | refine EndsG.gtr rfl rfl rfl (fun hc => ?_) (fun hc => ?_) | refine EndsG.geq rfl rfl rfl (fun hc => ?_) (fun hc => ?_) | refine EndsG.eql rfl rfl rfl (fun hc => ?_) (fun hc => ?_) | refine EndsG.neq rfl rfl rfl (fun hc => ?_) (fun hc => ?_)) | refine EndsG.skip rfl ?_ | refine EndsG.fin ?_ | refine EndsG.go rfl rfl rfl ?_ | refine EndsG.gono rfl rfl rfl ?_ | refine EndsG.skipn rfl ?_))
    rfl
end Go.Proofs.Ytgdlplhglpinaaa

/- The calls and all handles of any events: the laws' runs. -/
set_option linter.unusedVariables false
set_option linter.unusedSimpArgs false
namespace Go.Proofs.Ytgdlplhglpinaaa
open Go Go.Ir

def codeC (r : Option (List Cl)) : Int := if r.isSome then 0 else 2
theorem callsV_ex (r : Option (List Cl)) (h : Heap) : ∃ v h', callsV h r = (.tuple #[v, .int .i64 (codeC r)], h') ∧ Sl h' 10 v (ccs (r.getD [])) ∧ Ext h h' := by
  cases r with
  | none => exact ⟨.slice none 0 0, h, rfl, ⟨fun e he => (by cases he), .inl ⟨rfl, none, 0, rfl⟩⟩, .refl _⟩
  | some C => exact ⟨_, _, rfl, callsV_sl.1, callsV_sl.2⟩

theorem callsP_len (l : List Ev) : ((callsP l).getD []).length ≤ l.length := by
  cases hr : callsP l with
  | none => exact Nat.zero_le _
  | some C =>
    obtain ⟨W, hI⟩ := inv_calls hr
    have := hI.count
    show C.length ≤ _
    omega

set_option maxHeartbeats 1600000 in
theorem calls_run {h : Heap} {v : Value} {l : List Ev} (hv : Sl h 8 v (ecs l)) : ∃ h', callR En 0 Id.sidingslaw08_EventCalls [v] h = some (.bool true, h') := by
  have key : ∃ u h', callR En 0 Id.sidingslaw08_EventCalls [v] h = some (u, h') ∧ u = .bool true := by
    refine call_ex rfl Fn.sidingslaw08_EventCalls rfl rfl ?_
    refine Exists.elim hv.len fun base hq => Exists.elim hq fun cap hve => ?_
    rw [ecs_length] at hve
    by_cases hl : l.length ≤ 60
    · have hCl := callsP_len l
      have hC := fun lo => calls_spec lo hv (by omega)
      refine Exists.elim (callsV_ex (callsP l) h) fun v1 hq => Exists.elim hq fun h1 hq => ?_
      have e1 := hq.1
      have s1 := hq.2.1
      have x1 := hq.2.2
      have hR := fun lo => refCalls_spec lo (hv.ext x1) (by omega)
      refine Exists.elim (callsV_ex (callsP l) h1) fun v2 hq2 => Exists.elim hq2 fun h2 hq2 => ?_
      have e2 := hq2.1
      have s2 := hq2.2.1
      have x2 := hq2.2.2
      rw [e1] at hC
      rw [e2] at hR
      clear hq hq2 e1 e2
      have hA := fun lo => all_spec lo (s1.ext x2) (by omega)
      have m3 := made_sl (h := h2) (ccs_len ((callsP l).getD []))
      generalize made h2 10 (ccs ((callsP l).getD [])) = p3 at hA m3
      obtain ⟨v3, h3⟩ := p3
      simp only at m3
      have hS := fun lo => same_spec lo m3.1 (s2.ext m3.2) (by omega)
      have hv3 := (hv.ext x1).ext (x2.trans m3.2)
      have hK := fun lo => check_spec lo hv3 (by omega)
      have hJ := fun lo => refCheck_eq lo hv3 (by omega)
      have hH := fun lo => handles_spec lo hv3 (by omega)
      have m4 := handV_sl (h := h3) (s := l.map hnd)
      generalize handV h3 (l.map hnd) = p4 at hH m4
      obtain ⟨v4, h4⟩ := p4
      simp only at m4
      have hv4 := hv3.ext m4.2
      have hI := fun lo => refHandles_spec lo hv4 (by omega)
      have m5 := made_sl (h := h4) (row1_len (handU (l.map hnd)))
      generalize made h4 1 (row1 (handU (l.map hnd))) = p5 at hI m5
      obtain ⟨v5, h5⟩ := p5
      simp only at m5
      have s4 := m4.1.ext m5.2
      rw [hand_eq] at s4
      have hUl := handU_len (l.map hnd)
      rw [List.length_map] at hUl
      have hT := fun lo => same01_spec lo s4 m5.1 (by omega)
      have hKJ : ∀ lo, callR En lo Id.sidingsref08_Check [v] h3 = callR En lo Id.event_Check [v] h3 := fun lo => by rw [hK, hJ]
      generalize codeC (callsP l) = code at hC hR
      generalize (if (callsP l).isSome = true then (0 : Int) else 2) = cd at hK hJ
      subst hve
      repeat' (first | (show EndsR _ _ _ _ _ _ _; first | refine EndsR.seq ?_ | refine EndsR.reg ?_ | refine EndsR.yes rfl ?_ | refine EndsR.no rfl ?_ | refine EndsR.skip ?_ | refine EndsR.block ?_ | refine EndsR.endB ?_ | refine EndsR.exit rfl ?_ | refine EndsR.br rfl (fun hc => ?_) (fun hc => ?_) | refine EndsR.scope ?_ | refine EndsR.inScope ?_ | refine EndsR.label ?_ | refine EndsR.ret rfl ?_ | refine EndsR.nil rfl ?_) | (show EndsG _ _ _ _ _ _ _ _ _; first | refine EndsG.mov rfl rfl ?_ | refine EndsG.lload rfl rfl rfl rfl ?_ | refine EndsG.laddr rfl rfl rfl ?_ | (show EndsG _ _ (⟨_, .bin _ _ _, _, _⟩ :: _) _ _ _ _ _ _; first | refine EndsG.lss rfl rfl rfl (fun hc => ?_) (fun hc => ?_) | refine EndsG.leq rfl rfl rfl (fun hc => ?_) (fun hc => ?_) | refine EndsG.gtrT rfl rfl rfl (by omega) ?_ | refine EndsG.gtrF rfl rfl rfl (by omega) ?_ | refine EndsG.geq rfl rfl rfl (fun hc => ?_) (fun hc => ?_) | refine EndsG.eqlT rfl rfl rfl (by omega) ?_ | refine EndsG.eqlF rfl rfl rfl (by omega) ?_ | refine EndsG.neq rfl rfl rfl (fun hc => ?_) (fun hc => ?_)) | (show EndsG _ _ (⟨_, .call _ _, _, _⟩ :: _) _ _ _ _ _ _; first | refine EndsG.call rfl rfl (hC _) ?_ | refine EndsG.call rfl rfl (hR _) ?_ | refine EndsG.call rfl rfl (hA _) ?_ | refine EndsG.call rfl rfl (hS _) ?_ | refine EndsG.call rfl rfl (hK _) ?_ | refine EndsG.call rfl rfl (hJ _) ?_ | refine EndsG.call rfl rfl (hH _) ?_ | refine EndsG.call rfl rfl (hI _) ?_ | refine EndsG.call rfl rfl (hT _) ?_ | refine EndsG.call rfl rfl (live_c _ _) ?_) | refine EndsG.skip rfl ?_ | refine EndsG.fin ?_ | refine EndsG.go rfl rfl rfl ?_ | refine EndsG.gono rfl rfl rfl ?_ | refine EndsG.skipn rfl ?_))
      rfl
    · subst hve
      repeat' (first | (show EndsR _ _ _ _ _ _ _; first | refine EndsR.seq ?_ | refine EndsR.reg ?_ | refine EndsR.yes rfl ?_ | refine EndsR.no rfl ?_ | refine EndsR.skip ?_ | refine EndsR.block ?_ | refine EndsR.endB ?_ | refine EndsR.exit rfl ?_ | refine EndsR.br rfl (fun hc => ?_) (fun hc => ?_) | refine EndsR.scope ?_ | refine EndsR.inScope ?_ | refine EndsR.label ?_ | refine EndsR.ret rfl ?_ | refine EndsR.nil rfl ?_) | (show EndsG _ _ _ _ _ _ _ _ _; first | refine EndsG.mov rfl rfl ?_ | refine EndsG.lload rfl rfl rfl rfl ?_ | refine EndsG.laddr rfl rfl rfl ?_ | (show EndsG _ _ (⟨_, .bin _ _ _, _, _⟩ :: _) _ _ _ _ _ _; first | refine EndsG.lss rfl rfl rfl (fun hc => ?_) (fun hc => ?_) | refine EndsG.leq rfl rfl rfl (fun hc => ?_) (fun hc => ?_) | refine EndsG.gtrT rfl rfl rfl (by omega) ?_ | refine EndsG.gtrF rfl rfl rfl (by omega) ?_ | refine EndsG.geq rfl rfl rfl (fun hc => ?_) (fun hc => ?_) | refine EndsG.eql rfl rfl rfl (fun hc => ?_) (fun hc => ?_) | refine EndsG.neq rfl rfl rfl (fun hc => ?_) (fun hc => ?_)) | refine EndsG.call rfl rfl (live_c _ _) ?_ | refine EndsG.skip rfl ?_ | refine EndsG.fin ?_ | refine EndsG.go rfl rfl rfl ?_ | refine EndsG.gono rfl rfl rfl ?_ | refine EndsG.skipn rfl ?_))
      rfl
  obtain ⟨u, h', h1, rfl⟩ := key
  exact ⟨h', h1⟩

theorem nodup_le : ∀ {a b : List Int}, a.Pairwise (· < ·) → (∀ x ∈ a, x ∈ b) → a.length ≤ b.length
  | [], b, _, _ => Nat.zero_le _
  | x :: a, b, h, hs => by
    have hx := hs x (by simp)
    obtain ⟨c, d, rfl⟩ := List.append_of_mem hx
    have h' := List.pairwise_cons.1 h
    have := nodup_le (b := c ++ d) h'.2 fun y hy => by
      have h1 := hs y (by simp [hy])
      have h2 := h'.1 y hy
      simp only [List.mem_append, List.mem_cons] at h1 ⊢
      rcases h1 with h1 | h1 | h1
      · exact .inl h1
      · omega
      · exact .inr h1
    simp only [List.length_append, List.length_cons] at this ⊢
    omega

theorem handU_mem (s : List Int) : (handU s).Pairwise (· < ·) ∧ ∀ x, x ∈ handU s ↔ x ∈ s := by
  obtain ⟨u1, u2⟩ := handU_ok s [] .nil
  exact ⟨u1, fun x => by rw [show handU s = s.foldl (fun out h => insU h out) [] from rfl, u2]; simp⟩

/-- The law's last part. -/
theorem handles_tail {H : Heap} {v w : Value} {a b : List Int} {f : Fr} (hv : Sl H 1 v (row1 a)) (hw : Sl H 1 w (row1 b)) (ha : a.length ≤ 1000) (hb : b.length ≤ 1000) (hab : ∀ x ∈ b, x ∈ a) (hle : a.length ≤ b.length) :
    EndsR En 0 [.code (tailC 10 F.sidingslaw08_EventHandles.body)] ((6, v) :: (8, w) :: f) H F.sidingslaw08_EventHandles.res (fun v h' => v = .bool true) := by
  refine Exists.elim hv.len fun base hq => Exists.elim hq fun cap hve => ?_
  refine Exists.elim hw.len fun bw hq => Exists.elim hq fun cw hwe => ?_
  rw [row1_length] at hve hwe
  subst hve hwe
  repeat' (first | (show EndsR _ _ _ _ _ _ _; first | refine EndsR.seq ?_ | refine EndsR.reg ?_ | refine EndsR.yes rfl ?_ | refine EndsR.no rfl ?_ | refine EndsR.skip ?_ | refine EndsR.block ?_ | refine EndsR.endB ?_ | refine EndsR.exit rfl ?_ | refine EndsR.br rfl (fun hc => ?_) (fun hc => ?_) | refine EndsR.scope ?_ | refine EndsR.inScope ?_ | refine EndsR.label ?_ | refine EndsR.ret rfl ?_ | refine EndsR.nil rfl ?_) | (show EndsG _ _ _ _ _ _ _ _ _; first | refine EndsG.mov rfl rfl ?_ | refine EndsG.lload rfl rfl rfl rfl ?_ | refine EndsG.laddr rfl rfl rfl ?_ | (show EndsG _ _ (⟨_, .bin _ _ _, _, _⟩ :: _) _ _ _ _ _ _; first | refine EndsG.lss rfl rfl rfl (fun hc => ?_) (fun hc => ?_) | refine EndsG.leq rfl rfl rfl (fun hc => ?_) (fun hc => ?_) | refine EndsG.gtr rfl rfl rfl (fun hc => ?_) (fun hc => ?_) | refine EndsG.geq rfl rfl rfl (fun hc => ?_) (fun hc => ?_) | refine EndsG.eql rfl rfl rfl (fun hc => ?_) (fun hc => ?_) | refine EndsG.neq rfl rfl rfl (fun hc => ?_) (fun hc => ?_)) | refine EndsG.skip rfl ?_ | refine EndsG.fin ?_ | refine EndsG.go rfl rfl rfl ?_ | refine EndsG.gono rfl rfl rfl ?_ | refine EndsG.skipn rfl ?_))
  refine .loop (fun n f H' => H' = H ∧ ∃ i : Nat, n + i = b.length ∧ f = [(6, .slice base a.length cap), (8, .slice bw b.length cw), (9, N i)]) (n := b.length) ⟨rfl, 0, rfl, rfl⟩ ?_
  rintro n f H' ⟨rfl, i, hn, rfl⟩ next
  by_cases hi : i < b.length
  · have hgi : b[i]? = some b[i] := List.getElem?_eq_getElem hi
    generalize b[i] = x at hgi
    refine Exists.elim (row1_cells hw (by omega)) fun wb hq => Exists.elim hq fun cap' hq => ?_
    have hva := hq.1
    injection hva with e1 e2 e3
    subst e1
    have X := hq.2 i x hgi
    have hxa := hab x (List.mem_of_getElem? hgi)
    repeat' (first | (show EndsR _ _ _ _ _ _ _; first | refine EndsR.seq ?_ | refine EndsR.reg ?_ | refine EndsR.yes rfl ?_ | refine EndsR.no rfl ?_ | refine EndsR.skip ?_ | refine EndsR.block ?_ | refine EndsR.endB ?_ | refine EndsR.exit rfl ?_ | refine EndsR.br rfl (fun hc => ?_) (fun hc => ?_) | refine EndsR.scope ?_ | refine EndsR.inScope ?_ | refine EndsR.label ?_ | refine EndsR.ret rfl ?_ | refine EndsR.nil rfl ?_) | (show EndsG _ _ _ _ _ _ _ _ _; first | refine EndsG.mov rfl rfl ?_ | refine EndsG.lload rfl rfl rfl rfl ?_ | refine EndsG.laddr rfl rfl rfl ?_ | (show EndsG _ _ (⟨_, .bin _ _ _, _, _⟩ :: _) _ _ _ _ _ _; first | refine EndsG.lssT rfl rfl rfl (by omega) ?_ | refine EndsG.lssF rfl rfl rfl (by omega) ?_ | refine EndsG.leq rfl rfl rfl (fun hc => ?_) (fun hc => ?_) | refine EndsG.gtr rfl rfl rfl (fun hc => ?_) (fun hc => ?_) | refine EndsG.geq rfl rfl rfl (fun hc => ?_) (fun hc => ?_) | refine EndsG.eql rfl rfl rfl (fun hc => ?_) (fun hc => ?_) | refine EndsG.neq rfl rfl rfl (fun hc => ?_) (fun hc => ?_)) | refine EndsG.skip rfl ?_ | refine EndsG.fin ?_ | refine EndsG.go rfl rfl rfl ?_ | refine EndsG.gono rfl rfl rfl ?_ | refine EndsG.skipn rfl ?_))
    refine .loop (fun m f H'' => H'' = H' ∧ ∃ j : Nat, m + j = a.length ∧ f = [(6, .slice base a.length cap), (8, .slice (some wb) b.length cw), (9, N i), (10, .bool (decide (x ∈ a.take j))), (11, N j)]) (n := a.length) ⟨rfl, 0, rfl, rfl⟩ ?_
    rintro m f H'' ⟨rfl, j, hm, rfl⟩ nextj
    by_cases hj : j < a.length
    · have hgj : a[j]? = some a[j] := List.getElem?_eq_getElem hj
      have htk := List.take_succ_eq_append_getElem hj
      generalize a[j] = y at hgj htk
      refine Exists.elim (row1_cells hv (by omega)) fun va hq => Exists.elim hq fun cap2 hq => ?_
      have hvb := hq.1
      injection hvb with e4 e5 e6
      subst e4
      have Y := hq.2 j y hgj
      by_cases hf : x ∈ a.take j
      · rw [decide_eq_true hf]
        repeat' (first | (show EndsR _ _ _ _ _ _ _; first | refine EndsR.seq ?_ | refine EndsR.reg ?_ | refine EndsR.yes rfl ?_ | refine EndsR.no rfl ?_ | refine EndsR.skip ?_ | refine EndsR.block ?_ | refine EndsR.endB ?_ | refine EndsR.exit rfl ?_ | refine EndsR.br rfl (fun hc => ?_) (fun hc => ?_) | refine EndsR.scope ?_ | refine EndsR.inScope ?_ | refine EndsR.label ?_ | refine EndsR.ret rfl ?_ | refine EndsR.nil rfl ?_) | (show EndsG _ _ _ _ _ _ _ _ _; first | refine EndsG.mov rfl rfl ?_ | refine EndsG.lload rfl rfl rfl rfl ?_ | refine EndsG.laddr rfl rfl rfl ?_ | (show EndsG _ _ (⟨_, .bin _ _ _, _, _⟩ :: _) _ _ _ _ _ _; first | refine EndsG.lssT rfl rfl rfl (by omega) ?_ | refine EndsG.lssF rfl rfl rfl (by omega) ?_ | refine EndsG.leq rfl rfl rfl (fun hc => ?_) (fun hc => ?_) | refine EndsG.gtr rfl rfl rfl (fun hc => ?_) (fun hc => ?_) | refine EndsG.geq rfl rfl rfl (fun hc => ?_) (fun hc => ?_) | refine EndsG.eqlT rfl rfl rfl (by omega) ?_ | refine EndsG.eqlF rfl rfl rfl (by omega) ?_ | refine EndsG.neq rfl rfl rfl (fun hc => ?_) (fun hc => ?_) | refine EndsG.addN rfl rfl rfl (by omega) ?_ | refine EndsG.addN (b := 1) rfl rfl rfl (by omega) ?_ | refine EndsG.subN rfl rfl rfl (by omega) ?_ | refine EndsG.subN (b := 1) rfl rfl rfl (by omega) ?_) | (show EndsG _ _ (⟨_, .load _ _, _, _⟩ :: _) _ _ _ _ _ _; first | refine EndsG.load rfl rfl (X) ?_ | refine EndsG.load rfl rfl (Y) ?_) | (show EndsG _ _ (⟨_, .iaddr _ _ _ _, _, _⟩ :: _) _ _ _ _ _ _; first | refine EndsG.iaddr rfl rfl rfl (hj) ?_ | refine EndsG.iaddr rfl rfl rfl (hi) ?_) | refine EndsG.skip rfl ?_ | refine EndsG.fin ?_ | refine EndsG.go rfl rfl rfl ?_ | refine EndsG.gono rfl rfl rfl ?_ | refine EndsG.skipn rfl ?_))
        exact nextj (m - 1) _ _ (by omega) ⟨rfl, j + 1, by omega, by rw [htk, decide_eq_true (show x ∈ a.take j ++ [y] by simp [hf])]; rfl⟩
      · rw [decide_eq_false hf]
        by_cases hxy : y = x
        · repeat' (first | (show EndsR _ _ _ _ _ _ _; first | refine EndsR.seq ?_ | refine EndsR.reg ?_ | refine EndsR.yes rfl ?_ | refine EndsR.no rfl ?_ | refine EndsR.skip ?_ | refine EndsR.block ?_ | refine EndsR.endB ?_ | refine EndsR.exit rfl ?_ | refine EndsR.br rfl (fun hc => ?_) (fun hc => ?_) | refine EndsR.scope ?_ | refine EndsR.inScope ?_ | refine EndsR.label ?_ | refine EndsR.ret rfl ?_ | refine EndsR.nil rfl ?_) | (show EndsG _ _ _ _ _ _ _ _ _; first | refine EndsG.mov rfl rfl ?_ | refine EndsG.lload rfl rfl rfl rfl ?_ | refine EndsG.laddr rfl rfl rfl ?_ | (show EndsG _ _ (⟨_, .bin _ _ _, _, _⟩ :: _) _ _ _ _ _ _; first | refine EndsG.lssT rfl rfl rfl (by omega) ?_ | refine EndsG.lssF rfl rfl rfl (by omega) ?_ | refine EndsG.leq rfl rfl rfl (fun hc => ?_) (fun hc => ?_) | refine EndsG.gtr rfl rfl rfl (fun hc => ?_) (fun hc => ?_) | refine EndsG.geq rfl rfl rfl (fun hc => ?_) (fun hc => ?_) | refine EndsG.eqlT rfl rfl rfl (by omega) ?_ | refine EndsG.eqlF rfl rfl rfl (by omega) ?_ | refine EndsG.neq rfl rfl rfl (fun hc => ?_) (fun hc => ?_) | refine EndsG.addN rfl rfl rfl (by omega) ?_ | refine EndsG.addN (b := 1) rfl rfl rfl (by omega) ?_ | refine EndsG.subN rfl rfl rfl (by omega) ?_ | refine EndsG.subN (b := 1) rfl rfl rfl (by omega) ?_) | (show EndsG _ _ (⟨_, .load _ _, _, _⟩ :: _) _ _ _ _ _ _; first | refine EndsG.load rfl rfl (X) ?_ | refine EndsG.load rfl rfl (Y) ?_) | (show EndsG _ _ (⟨_, .iaddr _ _ _ _, _, _⟩ :: _) _ _ _ _ _ _; first | refine EndsG.iaddr rfl rfl rfl (hj) ?_ | refine EndsG.iaddr rfl rfl rfl (hi) ?_) | refine EndsG.skip rfl ?_ | refine EndsG.fin ?_ | refine EndsG.go rfl rfl rfl ?_ | refine EndsG.gono rfl rfl rfl ?_ | refine EndsG.skipn rfl ?_))
          exact nextj (m - 1) _ _ (by omega) ⟨rfl, j + 1, by omega, by rw [htk, decide_eq_true (show x ∈ a.take j ++ [y] by simp [hxy])]; rfl⟩
        · repeat' (first | (show EndsR _ _ _ _ _ _ _; first | refine EndsR.seq ?_ | refine EndsR.reg ?_ | refine EndsR.yes rfl ?_ | refine EndsR.no rfl ?_ | refine EndsR.skip ?_ | refine EndsR.block ?_ | refine EndsR.endB ?_ | refine EndsR.exit rfl ?_ | refine EndsR.br rfl (fun hc => ?_) (fun hc => ?_) | refine EndsR.scope ?_ | refine EndsR.inScope ?_ | refine EndsR.label ?_ | refine EndsR.ret rfl ?_ | refine EndsR.nil rfl ?_) | (show EndsG _ _ _ _ _ _ _ _ _; first | refine EndsG.mov rfl rfl ?_ | refine EndsG.lload rfl rfl rfl rfl ?_ | refine EndsG.laddr rfl rfl rfl ?_ | (show EndsG _ _ (⟨_, .bin _ _ _, _, _⟩ :: _) _ _ _ _ _ _; first | refine EndsG.lssT rfl rfl rfl (by omega) ?_ | refine EndsG.lssF rfl rfl rfl (by omega) ?_ | refine EndsG.leq rfl rfl rfl (fun hc => ?_) (fun hc => ?_) | refine EndsG.gtr rfl rfl rfl (fun hc => ?_) (fun hc => ?_) | refine EndsG.geq rfl rfl rfl (fun hc => ?_) (fun hc => ?_) | refine EndsG.eqlT rfl rfl rfl (by omega) ?_ | refine EndsG.eqlF rfl rfl rfl (by omega) ?_ | refine EndsG.neq rfl rfl rfl (fun hc => ?_) (fun hc => ?_) | refine EndsG.addN rfl rfl rfl (by omega) ?_ | refine EndsG.addN (b := 1) rfl rfl rfl (by omega) ?_ | refine EndsG.subN rfl rfl rfl (by omega) ?_ | refine EndsG.subN (b := 1) rfl rfl rfl (by omega) ?_) | (show EndsG _ _ (⟨_, .load _ _, _, _⟩ :: _) _ _ _ _ _ _; first | refine EndsG.load rfl rfl (X) ?_ | refine EndsG.load rfl rfl (Y) ?_) | (show EndsG _ _ (⟨_, .iaddr _ _ _ _, _, _⟩ :: _) _ _ _ _ _ _; first | refine EndsG.iaddr rfl rfl rfl (hj) ?_ | refine EndsG.iaddr rfl rfl rfl (hi) ?_) | refine EndsG.skip rfl ?_ | refine EndsG.fin ?_ | refine EndsG.go rfl rfl rfl ?_ | refine EndsG.gono rfl rfl rfl ?_ | refine EndsG.skipn rfl ?_))
          exact nextj (m - 1) _ _ (by omega) ⟨rfl, j + 1, by omega, by rw [htk, decide_eq_false (show ¬ x ∈ a.take j ++ [y] by simp [hf]; exact fun e => hxy e.symm)]; rfl⟩
    · rw [List.take_of_length_le (by omega), decide_eq_true hxa]
      repeat' (first | (show EndsR _ _ _ _ _ _ _; first | refine EndsR.seq ?_ | refine EndsR.reg ?_ | refine EndsR.yes rfl ?_ | refine EndsR.no rfl ?_ | refine EndsR.skip ?_ | refine EndsR.block ?_ | refine EndsR.endB ?_ | refine EndsR.exit rfl ?_ | refine EndsR.br rfl (fun hc => ?_) (fun hc => ?_) | refine EndsR.scope ?_ | refine EndsR.inScope ?_ | refine EndsR.label ?_ | refine EndsR.ret rfl ?_ | refine EndsR.nil rfl ?_) | (show EndsG _ _ _ _ _ _ _ _ _; first | refine EndsG.mov rfl rfl ?_ | refine EndsG.lload rfl rfl rfl rfl ?_ | refine EndsG.laddr rfl rfl rfl ?_ | (show EndsG _ _ (⟨_, .bin _ _ _, _, _⟩ :: _) _ _ _ _ _ _; first | refine EndsG.lssT rfl rfl rfl (by omega) ?_ | refine EndsG.lssF rfl rfl rfl (by omega) ?_ | refine EndsG.leq rfl rfl rfl (fun hc => ?_) (fun hc => ?_) | refine EndsG.gtr rfl rfl rfl (fun hc => ?_) (fun hc => ?_) | refine EndsG.geq rfl rfl rfl (fun hc => ?_) (fun hc => ?_) | refine EndsG.eql rfl rfl rfl (fun hc => ?_) (fun hc => ?_) | refine EndsG.neq rfl rfl rfl (fun hc => ?_) (fun hc => ?_) | refine EndsG.addN rfl rfl rfl (by omega) ?_ | refine EndsG.addN (b := 1) rfl rfl rfl (by omega) ?_ | refine EndsG.subN rfl rfl rfl (by omega) ?_ | refine EndsG.subN (b := 1) rfl rfl rfl (by omega) ?_) | refine EndsG.skip rfl ?_ | refine EndsG.fin ?_ | refine EndsG.go rfl rfl rfl ?_ | refine EndsG.gono rfl rfl rfl ?_ | refine EndsG.skipn rfl ?_))
      exact next (n - 1) _ _ (by omega) ⟨rfl, i + 1, by omega, rfl⟩
  · repeat' (first | (show EndsR _ _ _ _ _ _ _; first | refine EndsR.seq ?_ | refine EndsR.reg ?_ | refine EndsR.yes rfl ?_ | refine EndsR.no rfl ?_ | refine EndsR.skip ?_ | refine EndsR.block ?_ | refine EndsR.endB ?_ | refine EndsR.exit rfl ?_ | refine EndsR.br rfl (fun hc => ?_) (fun hc => ?_) | refine EndsR.scope ?_ | refine EndsR.inScope ?_ | refine EndsR.label ?_ | refine EndsR.ret rfl ?_ | refine EndsR.nil rfl ?_) | (show EndsG _ _ _ _ _ _ _ _ _; first | refine EndsG.mov rfl rfl ?_ | refine EndsG.lload rfl rfl rfl rfl ?_ | refine EndsG.laddr rfl rfl rfl ?_ | (show EndsG _ _ (⟨_, .bin _ _ _, _, _⟩ :: _) _ _ _ _ _ _; first | refine EndsG.lssT rfl rfl rfl (by omega) ?_ | refine EndsG.lssF rfl rfl rfl (by omega) ?_ | refine EndsG.leqT rfl rfl rfl (by omega) ?_ | refine EndsG.leqF rfl rfl rfl (by omega) ?_ | refine EndsG.gtr rfl rfl rfl (fun hc => ?_) (fun hc => ?_) | refine EndsG.geq rfl rfl rfl (fun hc => ?_) (fun hc => ?_) | refine EndsG.eql rfl rfl rfl (fun hc => ?_) (fun hc => ?_) | refine EndsG.neq rfl rfl rfl (fun hc => ?_) (fun hc => ?_)) | refine EndsG.call rfl rfl (live_c _ _) ?_ | refine EndsG.skip rfl ?_ | refine EndsG.fin ?_ | refine EndsG.go rfl rfl rfl ?_ | refine EndsG.gono rfl rfl rfl ?_ | refine EndsG.skipn rfl ?_))
    rfl

set_option maxHeartbeats 1600000 in
theorem handles_run {h : Heap} {v w : Value} {l k : List Ev} (hv : Sl h 8 v (ecs l)) (hw : Sl h 8 w (ecs k)) : ∃ h', callR En 0 Id.sidingslaw08_EventHandles [v, w] h = some (.bool true, h') := by
  have key : ∃ u h', callR En 0 Id.sidingslaw08_EventHandles [v, w] h = some (u, h') ∧ u = .bool true := by
    refine call_ex rfl Fn.sidingslaw08_EventHandles rfl rfl ?_
    refine Exists.elim hv.len fun base hq => Exists.elim hq fun cap hve => ?_
    refine Exists.elim hw.len fun bw hq => Exists.elim hq fun cw hwe => ?_
    rw [ecs_length] at hve hwe
    by_cases hl : l.length ≤ 30
    · by_cases hk : k.length ≤ 30
      · have hb : 64 ≤ 2 ^ 12 := by decide
        have hb8 : 8 ≤ 2 ^ 12 := by decide
        refine Exists.elim ((Out.nil h h.length 8).more (l0 := 0) hv (Nat.zero_le _) (Nat.le_refl _) (by rw [ecs_length]; simp; omega) hb) fun o1 hq => Exists.elim hq fun h1 hq => ?_
        have hap1 := hq.1
        have ho1 := hq.2.1
        have hx1 := hq.2.2 h (Nat.le_refl _) (.refl _)
        rw [List.nil_append] at ho1
        clear hq
        refine Exists.elim (ho1.more (l0 := 0) (hw.ext hx1) (Nat.zero_le _) hx1.1 (by rw [ecs_length, ecs_length]; omega) hb) fun o2 hq => Exists.elim hq fun h2 hq => ?_
        have hap2 := hq.1
        have ho2 := hq.2.1
        have hx2 := hq.2.2 h (Nat.le_refl _) hx1
        rw [ecs_app] at ho2
        clear hq
        have hbl : (l ++ k).length ≤ 60 := by rw [List.length_append]; omega
        have hH1 := fun lo => handles_spec lo ho2.sl (by omega)
        have m3 := handV_sl (h := h2) (s := (l ++ k).map hnd)
        generalize handV h2 ((l ++ k).map hnd) = p3 at hH1 m3
        obtain ⟨v3, h3⟩ := p3
        simp only at m3
        have hx3 := hx2.trans m3.2
        have hA := m3.1
        rw [hand_eq] at hA
        have hal := handU_len ((l ++ k).map hnd)
        have hU := handU_mem ((l ++ k).map hnd)
        rw [List.length_map] at hal
        have hH2 := fun lo => handles_spec lo (hv.ext hx3) (by omega)
        have m4 := handV_sl (h := h3) (s := l.map hnd)
        generalize handV h3 (l.map hnd) = p4 at hH2 m4
        obtain ⟨v4, h4⟩ := p4
        simp only at m4
        rw [hand_eq] at m4
        have hll := handU_len (l.map hnd)
        have hUl := handU_mem (l.map hnd)
        rw [List.length_map] at hll
        refine Exists.elim ((Out.nil h4 h4.length 1).more (l0 := 0) m4.1 (Nat.zero_le _) (Nat.le_refl _) (by rw [row1_length]; simp; omega) hb8) fun o5 hq => Exists.elim hq fun h5 hq => ?_
        have hap5 := hq.1
        have ho5 := hq.2.1
        have hx5 := hq.2.2 h4 (Nat.le_refl _) (.refl _)
        rw [List.nil_append] at ho5
        clear hq
        have hx35 := m4.2.trans hx5
        have hH3 := fun lo => handles_spec lo ((hw.ext hx3).ext hx35) (by omega)
        have m6 := handV_sl (h := h5) (s := k.map hnd)
        generalize handV h5 (k.map hnd) = p6 at hH3 m6
        obtain ⟨v6, h6⟩ := p6
        simp only at m6
        rw [hand_eq] at m6
        have hkl := handU_len (k.map hnd)
        have hUk := handU_mem (k.map hnd)
        rw [List.length_map] at hkl
        have ho6 : Out h6 h4.length 1 o5 (row1 (handU (l.map hnd))) := by
          refine ⟨ho5.1, ?_⟩
          rcases ho5.2 with h1 | ⟨h0, b, g1, g2, g3⟩
          · exact .inl h1
          · exact .inr ⟨h0, b, g1, g2, by rw [m6.2.2 b (hlt_of g3)]; exact g3⟩
        have hx46 := (hx5.trans m6.2)
        refine Exists.elim (ho6.more (l0 := 0) m6.1 (Nat.zero_le _) hx46.1 (by rw [row1_length, row1_length]; omega) hb8) fun o7 hq => Exists.elim hq fun h7 hq => ?_
        have hap7 := hq.1
        have ho7 := hq.2.1
        have hx7 := hq.2.2 h4 (Nat.le_refl _) hx46
        clear hq
        have happ : row1 (handU (l.map hnd)) ++ row1 (handU (k.map hnd)) = row1 (handU (l.map hnd) ++ handU (k.map hnd)) := by simp [row1]
        rw [happ] at ho7
        have hA7 := hA.ext (m4.2.trans hx7)
        have hmem : ∀ x ∈ handU (l.map hnd) ++ handU (k.map hnd), x ∈ handU ((l ++ k).map hnd) := fun x hx => by
          rw [hU.2, List.map_append, List.mem_append]
          rcases List.mem_append.1 hx with h | h
          · exact .inl ((hUl.2 x).1 h)
          · exact .inr ((hUk.2 x).1 h)
        have hle : (handU ((l ++ k).map hnd)).length ≤ (handU (l.map hnd) ++ handU (k.map hnd)).length := nodup_le hU.1 fun x hx => by
          rw [hU.2, List.map_append, List.mem_append] at hx
          rw [List.mem_append]
          rcases hx with h | h
          · exact .inl ((hUl.2 x).2 h)
          · exact .inr ((hUk.2 x).2 h)
        have hT := fun f => handles_tail (f := f) hA7 ho7.sl (by omega) (by rw [List.length_append]; omega) hmem hle
        have hsort := hU.1
        generalize handU ((l ++ k).map hnd) = A at hA hal hsort hT
        refine Exists.elim hA.len fun bA hq => Exists.elim hq fun cA hvA => ?_
        rw [row1_length] at hvA
        subst hve hwe hvA
        repeat' (first | (show EndsR _ _ _ _ _ _ _; first | refine EndsR.seq ?_ | refine EndsR.reg ?_ | refine EndsR.yes rfl ?_ | refine EndsR.no rfl ?_ | refine EndsR.skip ?_ | refine EndsR.block ?_ | refine EndsR.endB ?_ | refine EndsR.exit rfl ?_ | refine EndsR.br rfl (fun hc => ?_) (fun hc => ?_) | refine EndsR.scope ?_ | refine EndsR.inScope ?_ | refine EndsR.label ?_ | refine EndsR.ret rfl ?_ | refine EndsR.nil rfl ?_) | (show EndsG _ _ _ _ _ _ _ _ _; first | refine EndsG.mov rfl rfl ?_ | refine EndsG.lload rfl rfl rfl rfl ?_ | refine EndsG.laddr rfl rfl rfl ?_ | (show EndsG _ _ (⟨_, .bin _ _ _, _, _⟩ :: _) _ _ _ _ _ _; first | refine EndsG.lss rfl rfl rfl (fun hc => ?_) (fun hc => ?_) | refine EndsG.leq rfl rfl rfl (fun hc => ?_) (fun hc => ?_) | refine EndsG.gtrT rfl rfl rfl (by omega) ?_ | refine EndsG.gtrF rfl rfl rfl (by omega) ?_ | refine EndsG.geq rfl rfl rfl (fun hc => ?_) (fun hc => ?_) | refine EndsG.eql rfl rfl rfl (fun hc => ?_) (fun hc => ?_) | refine EndsG.neq rfl rfl rfl (fun hc => ?_) (fun hc => ?_)) | refine EndsG.call rfl rfl (hH1 _) ?_ | (show EndsG _ _ (⟨_, .append _ _ _ _, _, _⟩ :: _) _ _ _ _ _ _; first | refine EndsG.app rfl rfl rfl (hap1) ?_ | refine EndsG.app rfl rfl rfl (hap2) ?_) | refine EndsG.skip rfl ?_ | refine EndsG.fin ?_ | refine EndsG.go rfl rfl rfl ?_ | refine EndsG.gono rfl rfl rfl ?_ | refine EndsG.skipn rfl ?_))
        refine .loop (fun n f H => H = h3 ∧ ∃ i : Nat, n + i = A.length + 1 ∧ 1 ≤ i ∧ f = [(0, .slice base l.length cap), (1, .slice bw k.length cw), (6, .slice bA A.length cA), (7, N i)]) (n := A.length) ⟨rfl, 1, rfl, Nat.le_refl _, rfl⟩ ?_
        rintro n f H ⟨rfl, i, hn, hi1, rfl⟩ next
        by_cases hi : i < A.length
        · have hgi : A[i]? = some A[i] := List.getElem?_eq_getElem hi
          have hgp : A[i - 1]? = some (A[i - 1]'(by omega)) := List.getElem?_eq_getElem (by omega)
          have hlt := (List.pairwise_iff_getElem.1 hsort) (i - 1) i (by omega) hi (by omega)
          generalize A[i] = x at hgi hlt
          generalize A[i - 1]'(by omega) = y at hgp hlt
          refine Exists.elim (row1_cells hA (by omega)) fun va hq => Exists.elim hq fun cap2 hq => ?_
          have hvb := hq.1
          injection hvb with e4 e5 e6
          subst e4
          have X := hq.2 i x hgi
          have Y := hq.2 (i - 1) y hgp
          repeat' (first | (show EndsR _ _ _ _ _ _ _; first | refine EndsR.seq ?_ | refine EndsR.reg ?_ | refine EndsR.yes rfl ?_ | refine EndsR.no rfl ?_ | refine EndsR.skip ?_ | refine EndsR.block ?_ | refine EndsR.endB ?_ | refine EndsR.exit rfl ?_ | refine EndsR.br rfl (fun hc => ?_) (fun hc => ?_) | refine EndsR.scope ?_ | refine EndsR.inScope ?_ | refine EndsR.label ?_ | refine EndsR.ret rfl ?_ | refine EndsR.nil rfl ?_) | (show EndsG _ _ _ _ _ _ _ _ _; first | refine EndsG.mov rfl rfl ?_ | refine EndsG.lload rfl rfl rfl rfl ?_ | refine EndsG.laddr rfl rfl rfl ?_ | (show EndsG _ _ (⟨_, .bin _ _ _, _, _⟩ :: _) _ _ _ _ _ _; first | refine EndsG.lssT rfl rfl rfl (by omega) ?_ | refine EndsG.lssF rfl rfl rfl (by omega) ?_ | refine EndsG.leq rfl rfl rfl (fun hc => ?_) (fun hc => ?_) | refine EndsG.gtr rfl rfl rfl (fun hc => ?_) (fun hc => ?_) | refine EndsG.geqT rfl rfl rfl (by omega) ?_ | refine EndsG.geqF rfl rfl rfl (by omega) ?_ | refine EndsG.eql rfl rfl rfl (fun hc => ?_) (fun hc => ?_) | refine EndsG.neq rfl rfl rfl (fun hc => ?_) (fun hc => ?_) | refine EndsG.addN rfl rfl rfl (by omega) ?_ | refine EndsG.addN (b := 1) rfl rfl rfl (by omega) ?_ | refine EndsG.subN rfl rfl rfl (by omega) ?_ | refine EndsG.subN (b := 1) rfl rfl rfl (by omega) ?_) | (show EndsG _ _ (⟨_, .load _ _, _, _⟩ :: _) _ _ _ _ _ _; first | refine EndsG.load rfl rfl (X) ?_ | refine EndsG.load rfl rfl (Y) ?_) | (show EndsG _ _ (⟨_, .iaddr _ _ _ _, _, _⟩ :: _) _ _ _ _ _ _; first | refine EndsG.iaddr rfl rfl rfl (hi) ?_ | refine EndsG.iaddr rfl rfl rfl ((show i - 1 < A.length by omega)) ?_) | refine EndsG.skip rfl ?_ | refine EndsG.fin ?_ | refine EndsG.go rfl rfl rfl ?_ | refine EndsG.gono rfl rfl rfl ?_ | refine EndsG.skipn rfl ?_))
          exact next (n - 1) _ _ (by omega) ⟨rfl, i + 1, by omega, by omega, rfl⟩
        · repeat' (first | (show EndsR _ _ _ _ _ _ _; first | exact (hT _).fe' (.cons rfl (.cons rfl (.refl _))) | refine EndsR.seq ?_ | refine EndsR.reg ?_ | refine EndsR.yes rfl ?_ | refine EndsR.no rfl ?_ | refine EndsR.skip ?_ | refine EndsR.block ?_ | refine EndsR.endB ?_ | refine EndsR.exit rfl ?_ | refine EndsR.br rfl (fun hc => ?_) (fun hc => ?_) | refine EndsR.scope ?_ | refine EndsR.inScope ?_ | refine EndsR.label ?_ | refine EndsR.ret rfl ?_ | refine EndsR.nil rfl ?_) | (show EndsG _ _ _ _ _ _ _ _ _; first | refine EndsG.mov rfl rfl ?_ | refine EndsG.lload rfl rfl rfl rfl ?_ | refine EndsG.laddr rfl rfl rfl ?_ | (show EndsG _ _ (⟨_, .bin _ _ _, _, _⟩ :: _) _ _ _ _ _ _; first | refine EndsG.lssT rfl rfl rfl (by omega) ?_ | refine EndsG.lssF rfl rfl rfl (by omega) ?_ | refine EndsG.leq rfl rfl rfl (fun hc => ?_) (fun hc => ?_) | refine EndsG.gtr rfl rfl rfl (fun hc => ?_) (fun hc => ?_) | refine EndsG.geq rfl rfl rfl (fun hc => ?_) (fun hc => ?_) | refine EndsG.eql rfl rfl rfl (fun hc => ?_) (fun hc => ?_) | refine EndsG.neq rfl rfl rfl (fun hc => ?_) (fun hc => ?_)) | (show EndsG _ _ (⟨_, .call _ _, _, _⟩ :: _) _ _ _ _ _ _; first | refine EndsG.call rfl rfl (hH2 _) ?_ | refine EndsG.call rfl rfl (hH3 _) ?_) | (show EndsG _ _ (⟨_, .append _ _ _ _, _, _⟩ :: _) _ _ _ _ _ _; first | refine EndsG.app rfl rfl rfl (hap5) ?_ | refine EndsG.app rfl rfl rfl (hap7) ?_) | refine EndsG.skip rfl ?_ | refine EndsG.fin ?_ | refine EndsG.go rfl rfl rfl ?_ | refine EndsG.gono rfl rfl rfl ?_ | refine EndsG.skipn rfl ?_))
      · subst hve hwe
        repeat' (first | (show EndsR _ _ _ _ _ _ _; first | refine EndsR.seq ?_ | refine EndsR.reg ?_ | refine EndsR.yes rfl ?_ | refine EndsR.no rfl ?_ | refine EndsR.skip ?_ | refine EndsR.block ?_ | refine EndsR.endB ?_ | refine EndsR.exit rfl ?_ | refine EndsR.br rfl (fun hc => ?_) (fun hc => ?_) | refine EndsR.scope ?_ | refine EndsR.inScope ?_ | refine EndsR.label ?_ | refine EndsR.ret rfl ?_ | refine EndsR.nil rfl ?_) | (show EndsG _ _ _ _ _ _ _ _ _; first | refine EndsG.mov rfl rfl ?_ | refine EndsG.lload rfl rfl rfl rfl ?_ | refine EndsG.laddr rfl rfl rfl ?_ | (show EndsG _ _ (⟨_, .bin _ _ _, _, _⟩ :: _) _ _ _ _ _ _; first | refine EndsG.lss rfl rfl rfl (fun hc => ?_) (fun hc => ?_) | refine EndsG.leq rfl rfl rfl (fun hc => ?_) (fun hc => ?_) | refine EndsG.gtrT rfl rfl rfl (by omega) ?_ | refine EndsG.gtrF rfl rfl rfl (by omega) ?_ | refine EndsG.geq rfl rfl rfl (fun hc => ?_) (fun hc => ?_) | refine EndsG.eql rfl rfl rfl (fun hc => ?_) (fun hc => ?_) | refine EndsG.neq rfl rfl rfl (fun hc => ?_) (fun hc => ?_)) | refine EndsG.call rfl rfl (live_c _ _) ?_ | refine EndsG.skip rfl ?_ | refine EndsG.fin ?_ | refine EndsG.go rfl rfl rfl ?_ | refine EndsG.gono rfl rfl rfl ?_ | refine EndsG.skipn rfl ?_))
        rfl
    · subst hve hwe
      repeat' (first | (show EndsR _ _ _ _ _ _ _; first | refine EndsR.seq ?_ | refine EndsR.reg ?_ | refine EndsR.yes rfl ?_ | refine EndsR.no rfl ?_ | refine EndsR.skip ?_ | refine EndsR.block ?_ | refine EndsR.endB ?_ | refine EndsR.exit rfl ?_ | refine EndsR.br rfl (fun hc => ?_) (fun hc => ?_) | refine EndsR.scope ?_ | refine EndsR.inScope ?_ | refine EndsR.label ?_ | refine EndsR.ret rfl ?_ | refine EndsR.nil rfl ?_) | (show EndsG _ _ _ _ _ _ _ _ _; first | refine EndsG.mov rfl rfl ?_ | refine EndsG.lload rfl rfl rfl rfl ?_ | refine EndsG.laddr rfl rfl rfl ?_ | (show EndsG _ _ (⟨_, .bin _ _ _, _, _⟩ :: _) _ _ _ _ _ _; first | refine EndsG.lss rfl rfl rfl (fun hc => ?_) (fun hc => ?_) | refine EndsG.leq rfl rfl rfl (fun hc => ?_) (fun hc => ?_) | refine EndsG.gtrT rfl rfl rfl (by omega) ?_ | refine EndsG.gtrF rfl rfl rfl (by omega) ?_ | refine EndsG.geq rfl rfl rfl (fun hc => ?_) (fun hc => ?_) | refine EndsG.eql rfl rfl rfl (fun hc => ?_) (fun hc => ?_) | refine EndsG.neq rfl rfl rfl (fun hc => ?_) (fun hc => ?_)) | refine EndsG.call rfl rfl (live_c _ _) ?_ | refine EndsG.skip rfl ?_ | refine EndsG.fin ?_ | refine EndsG.go rfl rfl rfl ?_ | refine EndsG.gono rfl rfl rfl ?_ | refine EndsG.skipn rfl ?_))
      rfl
  obtain ⟨u, h', h1, rfl⟩ := key
  exact ⟨h', h1⟩
end Go.Proofs.Ytgdlplhglpinaaa
