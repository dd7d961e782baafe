/- Operations that neither read nor write memory, third part: slices, builtins. -/
import Derived.Test.YtbkdahiplcbppaaGreatIrPure2
set_option linter.unusedVariables false
set_option linter.unusedSimpArgs false
namespace Go.Ir

section
variable {P : Program} {LB : List Nat} {F : Emb} {f : Fr} {a : Act} {call : CallF} {lo : Nat} {h h' : Heap} {v : Value}
variable {dst : Option Nat} {ty : TypeId} {pos : String} {after : Array Edge} {guard : Option (Nat × Bool)}

theorem ibound_ok {x : Value} {y y' n : Nat} {code : BoundsCode} (hy : y ≤ y') (h : ibound x y = some n) (w : World) : (Instr.sliceBound x y' code).run P w = .ok n w ∧ n ≤ y := by
  unfold ibound at h
  split at h <;> try (simp at h; done)
  split at h <;> simp at h
  rename_i hb
  subst h
  refine ⟨?_, by omega⟩
  simp [Instr.sliceBound, asIntOf, hb.1]
  intro hc
  omega

theorem bounds_ok {b : Bool} {len cap cap' l hh m : Nat} {xlo xhi xmx : Option Value} (hc : cap ≤ cap') (hl : len ≤ cap) (h : ibounds len cap xlo xhi xmx = some (l, hh, m)) (w : World) :
    (Instr.sliceBounds b len cap' xlo xhi xmx).run P w = .ok (l, hh, if xmx.isSome then m else cap') w ∧ l ≤ hh ∧ hh ≤ m ∧ m ≤ cap := by
  unfold ibounds at h
  cases xmx with
  | none =>
    simp only [ibMax] at h
    cases xhi with
    | none =>
      simp only [ibHigh] at h
      cases xlo with
      | none =>
        simp [ibLow] at h
        obtain ⟨rfl, rfl, rfl⟩ := h
        exact ⟨by simp [Instr.sliceBounds], by omega, by omega, by omega⟩
      | some v =>
        simp only [ibLow] at h
        cases hb : ibound v len with
        | none => simp [hb] at h
        | some n =>
          simp [hb] at h
          obtain ⟨rfl, rfl, rfl⟩ := h
          have := ibound_ok (P := P) (code := .sliceB) (Nat.le_refl _) hb w
          exact ⟨by simp [Instr.sliceBounds, this], this.2, by omega, by omega⟩
    | some u =>
      simp only [ibHigh] at h
      cases hu : ibound u cap with
      | none => simp [hu] at h
      | some k =>
        simp only [hu] at h
        have h1 : ∀ code, (Instr.sliceBound u cap' code).run P w = .ok k w := fun code => (ibound_ok (P := P) (code := code) hc hu w).1
        have h2 := (ibound_ok (P := P) (code := .index) hc hu w).2
        cases xlo with
        | none =>
          simp [ibLow] at h
          obtain ⟨rfl, rfl, rfl⟩ := h
          exact ⟨by simp [Instr.sliceBounds, h1], by omega, by omega, by omega⟩
        | some v =>
          simp only [ibLow] at h
          cases hb : ibound v k with
          | none => simp [hb] at h
          | some n =>
            simp [hb] at h
            obtain ⟨rfl, rfl, rfl⟩ := h
            have := ibound_ok (P := P) (code := .sliceB) (Nat.le_refl _) hb w
            exact ⟨by simp [Instr.sliceBounds, h1, this], this.2, by omega, by omega⟩
  | some z =>
    simp only [ibMax] at h
    cases hz : ibound z cap with
    | none => simp [hz] at h
    | some q =>
      simp only [hz] at h
      have h0 : ∀ code, (Instr.sliceBound z cap' code).run P w = .ok q w := fun code => (ibound_ok (P := P) (code := code) hc hz w).1
      have h0' := (ibound_ok (P := P) (code := .index) hc hz w).2
      cases xhi with
      | none => simp [ibHigh] at h
      | some u =>
        simp only [ibHigh] at h
        cases hu : ibound u q with
        | none => simp [hu] at h
        | some k =>
          simp only [hu] at h
          have h1 : ∀ code, (Instr.sliceBound u q code).run P w = .ok k w := fun code => (ibound_ok (P := P) (code := code) (Nat.le_refl _) hu w).1
          have h2 := (ibound_ok (P := P) (code := .index) (Nat.le_refl _) hu w).2
          cases xlo with
          | none =>
            simp [ibLow] at h
            obtain ⟨rfl, rfl, rfl⟩ := h
            exact ⟨by simp [Instr.sliceBounds, h0, h1], by omega, by omega, by omega⟩
          | some v =>
            simp only [ibLow] at h
            cases hb : ibound v k with
            | none => simp [hb] at h
            | some n =>
              simp [hb] at h
              obtain ⟨rfl, rfl, rfl⟩ := h
              have h3 : ∀ code, (Instr.sliceBound v k code).run P w = .ok n w := fun code => (ibound_ok (P := P) (code := code) (Nat.le_refl _) hb w).1
              have h4 := (ibound_ok (P := P) (code := .index) (Nat.le_refl _) hb w).2
              exact ⟨by simp [Instr.sliceBounds, h0, h1, h3], h4, by omega, by omega⟩

/-- The bounds are whole numbers: the machine's are the same. -/
theorem bounds_vr {len cap l hh m : Nat} {xlo xhi xmx : Option Value} {olo ohi omx : Option Operand} (h : ibounds len cap xlo xhi xmx = some (l, hh, m))
    (h1 : ∀ o u, olo = some o → xlo = some u → VR F u (a.eval o)) (h2 : ∀ o u, ohi = some o → xhi = some u → VR F u (a.eval o)) (h3 : ∀ o u, omx = some o → xmx = some u → VR F u (a.eval o))
    (e1 : olo.isSome = xlo.isSome) (e2 : ohi.isSome = xhi.isSome) (e3 : omx.isSome = xmx.isSome) :
    olo.map a.eval = xlo ∧ ohi.map a.eval = xhi ∧ omx.map a.eval = xmx := by
  have hint : ∀ (x : Value) (y n : Nat), ibound x y = some n → flat1 x = true := by
    intro x y n h; unfold ibound at h; split at h <;> first | rfl | (simp at h)
  have key : ∀ (o : Option Operand) (x : Option Value), (∀ p u, o = some p → x = some u → VR F u (a.eval p)) → o.isSome = x.isSome → (∀ u, x = some u → flat1 u = true) → o.map a.eval = x := by
    intro o x hv he hf
    cases o with
    | none => cases x with
      | none => rfl
      | some u => simp at he
    | some p => cases x with
      | none => simp at he
      | some u => simp [(hv p u rfl rfl).eq_flat1 (hf u rfl)]
  unfold ibounds at h
  refine ⟨key _ _ h1 e1 ?_, key _ _ h2 e2 ?_, key _ _ h3 e3 ?_⟩
  · rintro u rfl
    split at h <;> try (cases h; done)
    split at h <;> try (cases h; done)
    split at h <;> try (cases h; done)
    rename_i hb; exact hint _ _ _ hb
  · rintro u rfl
    split at h <;> try (cases h; done)
    split at h <;> try (cases h; done)
    rename_i hb; exact hint _ _ _ hb
  · rintro u rfl
    split at h <;> try (cases h; done)
    rename_i hb; exact hint _ _ _ hb

theorem evo_ok {o : Option Operand} {x : Option Value} (h : evo f o = some x) : o.isSome = x.isSome ∧ (∀ p u, o = some p → x = some u → ev f p = some u) := by
  cases o with
  | none => simp [evo] at h; subst h; simp
  | some p =>
    simp only [evo] at h
    split at h <;> simp at h
    rename_i u hu
    subst h
    exact ⟨rfl, fun q v hq hv => by injection hq with hq; injection hv with hv; subst hq hv; exact hu⟩

theorem optOk_ok {o : Option Operand} (h : optOk LB o = true) : ∀ p, o = some p → opndOk LB p = true := by
  rintro p rfl; exact h

theorem add_eq (b o n : Nat) : (⟨b, o, none⟩ : Addr).add n = ⟨b, o + n, none⟩ := by
  unfold Addr.add; split <;> simp_all

theorem p_slice {t e : TypeId} {s : Nat} {x : Operand} {olo ohi omx : Option Operand} (hu1 : P.underlying t = some (.slice e)) (hs : tySize P e = some s)
    (hx : opndOk LB x = true) (h1 : optOk LB olo = true) (h2 : optOk LB ohi = true) (h3 : optOk LB omx = true) (hop : OpOk LB F f a ⟨dst, .slice t x olo ohi omx, ty, pos, after, guard⟩)
    (hv : iop call lo (.slice s x olo ohi omx) f h = some (v, h')) : h' = h ∧ Says P a ⟨dst, .slice t x olo ohi omx, ty, pos, after, guard⟩ F v := by
  simp only [iop] at hv
  split at hv <;> try (simp at hv; done)
  rename_i u xlo xhi xmx hu hlo hhi hmx
  split at hv <;> simp at hv
  rename_i r hr
  obtain ⟨rfl, rfl⟩ := hv
  have hxv := hop x (by simp [Op.operands]) hx _ hu
  obtain ⟨e1, k1⟩ := evo_ok hlo
  obtain ⟨e2, k2⟩ := evo_ok hhi
  obtain ⟨e3, k3⟩ := evo_ok hmx
  have g1 : ∀ o u, olo = some o → xlo = some u → VR F u (a.eval o) := fun o u ho hu => hop o (by subst ho; simp [Op.operands]) (optOk_ok h1 o ho) u (k1 o u ho hu)
  have g2 : ∀ o u, ohi = some o → xhi = some u → VR F u (a.eval o) := fun o u ho hu => hop o (by subst ho; simp [Op.operands]) (optOk_ok h2 o ho) u (k2 o u ho hu)
  have g3 : ∀ o u, omx = some o → xmx = some u → VR F u (a.eval o) := fun o u ho hu => hop o (by subst ho; simp [Op.operands]) (optOk_ok h3 o ho) u (k3 o u ho hu)
  have start : ∀ w, (execOp a.eval ⟨dst, .slice t x olo ohi omx, ty, pos, after, guard⟩).run P w = ((Instr.slice t (a.eval x) (olo.map a.eval) (ohi.map a.eval) (omx.map a.eval)).run P w).andThen fun c w => .ok (.value c) w := by
    intro w
    simp [execOp, Instr.sliceAt, run_underlying hu1]
  refine ⟨rfl, ?_⟩
  generalize hce : a.eval x = cv at hxv
  rw [hce] at start
  unfold islice at hr
  split at hr
  · cases hxv with
    | slice0 =>
      split at hr <;> simp at hr
      rename_i l hh m hb
      subst hr
      obtain ⟨q1, q2, q3⟩ := bounds_vr hb g1 g2 g3 e1 e2 e3
      refine ⟨.slice none 0 0, fun w => ?_, .slice0⟩
      obtain ⟨q4, q5, q6, q7⟩ := bounds_ok (P := P) (b := true) (Nat.le_refl _) (Nat.le_refl _) hb w
      rw [start, q1, q2, q3]
      have : m = 0 := by omega
      subst this
      have e4 : hh - l = 0 := by omega
      simp [Instr.slice, run_underlying hu1, q4, run_sizeOf' hs, e4]
  · rename_i ad len cap
    split at hr
    · rename_i hsp
      split at hr <;> simp at hr
      rename_i l hh m hb
      subst hr
      obtain ⟨q1, q2, q3⟩ := bounds_vr hb g1 g2 g3 e1 e2 e3
      cases hxv with
      | loose _ c _ _ cap' e hsp' he hn hc => rw [hsp] at hsp'; cases hsp'
      | slice _ c _ _ e hsp' he hn hc =>
        have q0 := bounds_ok (P := P) (b := true) (Nat.le_refl _) hn hb default
        refine ⟨.slice (some (if m = l then c else c.add (l * s))) (hh - l) (m - l), fun w => ?_, ?_⟩
        · obtain ⟨q4, q5, q6, q7⟩ := bounds_ok (P := P) (b := true) (Nat.le_refl _) hn hb w
          have q8 : (if omx.isSome then m else cap) = m := by
            cases xmx with
            | some z => rw [e3]; simp
            | none =>
              rw [e3]
              simp
              unfold ibounds at hb
              simp only [ibMax] at hb
              split at hb <;> try (cases hb; done)
              split at hb <;> try (cases hb; done)
              simp at hb
              omega
          rw [start, q1, q2, q3]
          simp only [Instr.slice, Sem.run_bind, run_underlying hu1, Result.andThen_ok, q4, run_sizeOf' hs, Sem.run_pure]
          rw [← e3, q8]
          simp only [Option.map_some]
          congr 4
          by_cases hml : m = l <;> simp [hml]
        · obtain ⟨-, q5, q6, q7⟩ := q0
          by_cases hml : m = l
          · simp only [hml, if_true]
            exact .slice _ _ _ _ e hsp he (by omega) (fun x hx hp => by omega)
          · simp only [hml, if_false]
            have : (ad.add (l * s)).spot = none := by unfold Addr.add; split <;> simp_all
            have hb' : (ad.add (l * s)).block = ad.block := by unfold Addr.add; split <;> rfl
            refine .slice _ _ _ _ e this (by rw [hb']; exact he) (by omega) (fun x hx hp => ?_)
            rw [hc x hx (by omega), add_eq]
            unfold Addr.add
            split <;> simp_all <;> omega
    · rename_i y hsp
      cases hxv with
      | slice _ c _ _ e hsp' he hn hc => rw [hsp] at hsp'; cases hsp'
      | loose _ c _ _ cap' e hsp' he hn hc =>
        split at hr
        · rename_i z
          split at hr <;> try (cases hr; done)
          rename_i l hh m hb
          obtain ⟨q1, q2, q3⟩ := bounds_vr hb g1 g2 g3 e1 e2 e3
          have q0 := bounds_ok (P := P) (b := true) hn (Nat.le_refl _) hb default
          have run : ∀ w, (execOp a.eval ⟨dst, .slice t x olo ohi omx, ty, pos, after, guard⟩).run P w = .ok (.value (.slice (some (if m = l then c else c.add (l * s))) (hh - l) (m - l))) w := by
            intro w
            obtain ⟨q4, q5, q6, q7⟩ := bounds_ok (P := P) (b := true) hn (Nat.le_refl _) hb w
            rw [start, q1, q2, q3]
            simp only [Instr.slice, Sem.run_bind, run_underlying hu1, Result.andThen_ok, q4, run_sizeOf' hs, Sem.run_pure]
            simp only [Option.isSome_some, if_true, Option.map_some]
            congr 4
            by_cases hml : m = l <;> simp [hml]
          refine ⟨_, run, ?_⟩
          obtain ⟨-, q5, q6, q7⟩ := q0
          split at hr
          · rename_i hml
            injection hr with hr
            subst hr hml
            have e1 : hh - m = 0 := by omega
            have e2 : m - m = 0 := by omega
            simp only [if_true, e1, e2]
            exact .slice _ _ _ _ e rfl he (by omega) (fun x hx hp => by omega)
          · rename_i hml
            split at hr <;> try (cases hr; done)
            rename_i hhl
            injection hr with hr
            subst hr
            simp only [hml, if_false]
            refine .slice _ _ _ _ e rfl he (by omega) (fun x hx hp => ?_)
            obtain ⟨r1, r2, r3, r4⟩ := hc x hx
            have r5 := r3 (by omega)
            obtain ⟨cb, co, cs⟩ := c
            simp only at r1 r2 r5
            subst r1 r2 r5
            rw [add_eq]
            simp only
            congr 1
            omega
        · split at hr <;> try (cases hr; done)
          rename_i hk
          subst hk
          split at hr <;> try (cases hr; done)
          rename_i l hh m hb
          injection hr with hr
          subst hr
          obtain ⟨q1, q2, q3⟩ := bounds_vr hb g1 g2 g3 e1 e2 e3
          have q0 := bounds_ok (P := P) (b := true) hn (Nat.le_refl _) hb default
          obtain ⟨-, q5, q6, q7⟩ := q0
          refine ⟨.slice (some (if cap' = l then c else c.add (l * cap))) (hh - l) (cap' - l), fun w => ?_, ?_⟩
          · obtain ⟨q4, q5, q6, q7⟩ := bounds_ok (P := P) (b := true) hn (Nat.le_refl _) hb w
            rw [start, q1, q2, q3]
            simp only [Instr.slice, Sem.run_bind, run_underlying hu1, Result.andThen_ok, q4, run_sizeOf' hs, Sem.run_pure]
            simp only [Option.isSome_none, Bool.false_eq_true, if_false, Option.map_some]
            congr 4
            by_cases hml : cap' = l <;> simp [hml]
          · refine .loose _ _ _ _ _ e rfl he (by omega) (fun x hx => ?_)
            obtain ⟨r1, r2, r3, r4⟩ := hc x hx
            obtain ⟨cb, co, cs⟩ := c
            simp only at r1 r2 r3 r4
            subst r1 r2
            by_cases hml : cap' = l
            · subst hml
              simp only [if_true]
              refine ⟨by trivial, by trivial, fun hp => by omega, ?_⟩
              simp
              omega
            · simp only [hml, if_false, add_eq, loose]
              refine ⟨by trivial, by trivial, fun hp => ?_, ?_⟩
              · have := r3 (by omega); omega
              · have hle : l ≤ cap' := by omega
                have : co + l * cap + (cap' - l) * cap = co + cap' * cap := by
                  rw [Nat.add_assoc, ← Nat.add_mul]
                  congr 2
                  omega
                omega
  · cases hr

theorem p_sliceA {t e : TypeId} {n s : Nat} {x : Operand} {olo ohi omx : Option Operand} (hu1 : P.underlying t = some (.array n e)) (hs : tySize P e = some s)
    (hx : opndOk LB x = true) (h1 : optOk LB olo = true) (h2 : optOk LB ohi = true) (h3 : optOk LB omx = true) (hop : OpOk LB F f a ⟨dst, .slice t x olo ohi omx, ty, pos, after, guard⟩)
    (hv : iop call lo (.sliceA n s x olo ohi omx) f h = some (v, h')) : h' = h ∧ Says P a ⟨dst, .slice t x olo ohi omx, ty, pos, after, guard⟩ F v := by
  simp only [iop] at hv
  split at hv <;> try (simp at hv; done)
  rename_i ad xlo xhi xmx hu hlo hhi hmx
  split at hv <;> simp at hv
  rename_i l hh m hb
  obtain ⟨rfl, rfl⟩ := hv
  have hxv := hop x (by simp [Op.operands]) hx _ hu
  obtain ⟨e1, k1⟩ := evo_ok hlo
  obtain ⟨e2, k2⟩ := evo_ok hhi
  obtain ⟨e3, k3⟩ := evo_ok hmx
  have g1 : ∀ o u, olo = some o → xlo = some u → VR F u (a.eval o) := fun o u ho hu => hop o (by subst ho; simp [Op.operands]) (optOk_ok h1 o ho) u (k1 o u ho hu)
  have g2 : ∀ o u, ohi = some o → xhi = some u → VR F u (a.eval o) := fun o u ho hu => hop o (by subst ho; simp [Op.operands]) (optOk_ok h2 o ho) u (k2 o u ho hu)
  have g3 : ∀ o u, omx = some o → xmx = some u → VR F u (a.eval o) := fun o u ho hu => hop o (by subst ho; simp [Op.operands]) (optOk_ok h3 o ho) u (k3 o u ho hu)
  obtain ⟨q1, q2, q3⟩ := bounds_vr hb g1 g2 g3 e1 e2 e3
  have q0 := bounds_ok (P := P) (b := true) (Nat.le_refl _) (Nat.le_refl _) hb default
  obtain ⟨-, q5, q6, q7⟩ := q0
  have q8 : (if xmx.isSome then m else n) = m := by
    cases xmx with
    | some z => simp
    | none =>
      simp
      unfold ibounds at hb
      simp only [ibMax] at hb
      split at hb <;> try (cases hb; done)
      split at hb <;> try (cases hb; done)
      simp at hb
      omega
  generalize hce : a.eval x = cv at hxv
  cases hxv with
  | ptr _ c e hsp he hc =>
    refine ⟨rfl, .slice (some (if m = l then c else c.add (l * s))) (hh - l) (m - l), fun w => ?_, ?_⟩
    · obtain ⟨q4, -, -, -⟩ := bounds_ok (P := P) (b := false) (Nat.le_refl _) (Nat.le_refl _) hb w
      simp only [execOp, hce, q1, q2, q3, Instr.sliceAt, Sem.run_bind, run_underlying hu1, Result.andThen_ok, Instr.sureAddr, Sem.run_pure, q4, run_sizeOf' hs, q8]
    · by_cases hml : m = l
      · simp only [hml, if_true]
        exact .slice _ _ _ _ e hsp he (by omega) (fun x hx hp => by omega)
      · simp only [hml, if_false]
        have : (ad.add (l * s)).spot = none := by unfold Addr.add; split <;> simp_all
        have hb' : (ad.add (l * s)).block = ad.block := by unfold Addr.add; split <;> rfl
        refine .slice _ _ _ _ e this (by rw [hb']; exact he) (by omega) (fun x hx hp => ?_)
        rw [hc x hx, add_eq]
        unfold Addr.add
        split <;> simp_all <;> omega

theorem p_sliceS {t : TypeId} {x : Operand} {olo ohi : Option Operand} (hu1 : P.underlying t = some .string)
    (hx : opndOk LB x = true) (h1 : optOk LB olo = true) (h2 : optOk LB ohi = true) (hop : OpOk LB F f a ⟨dst, .slice t x olo ohi none, ty, pos, after, guard⟩)
    (hv : iop call lo (.sliceS x olo ohi) f h = some (v, h')) : h' = h ∧ Says P a ⟨dst, .slice t x olo ohi none, ty, pos, after, guard⟩ F v := by
  simp only [iop] at hv
  split at hv <;> try (simp at hv; done)
  rename_i st xlo xhi hu hlo hhi
  split at hv <;> simp at hv
  rename_i l hh m hb
  obtain ⟨rfl, rfl⟩ := hv
  have hxv := (hop x (by simp [Op.operands]) hx _ hu).eq_flat1 rfl
  obtain ⟨e1, k1⟩ := evo_ok hlo
  obtain ⟨e2, k2⟩ := evo_ok hhi
  have g1 : ∀ o u, olo = some o → xlo = some u → VR F u (a.eval o) := fun o u ho hu => hop o (by subst ho; simp [Op.operands]) (optOk_ok h1 o ho) u (k1 o u ho hu)
  have g2 : ∀ o u, ohi = some o → xhi = some u → VR F u (a.eval o) := fun o u ho hu => hop o (by subst ho; simp [Op.operands]) (optOk_ok h2 o ho) u (k2 o u ho hu)
  obtain ⟨q1, q2, q3⟩ := bounds_vr (F := F) (a := a) (omx := none) hb g1 g2 (by simp) e1 e2 rfl
  refine ⟨rfl, .string (st.extract l hh), fun w => ?_, .string _⟩
  obtain ⟨q4, -, -, -⟩ := bounds_ok (P := P) (b := false) (Nat.le_refl _) (Nat.le_refl _) hb w
  simp only [execOp, hxv, q1, q2, Option.map_none, Instr.sliceAt, Instr.slice, Sem.run_bind, run_underlying hu1, Result.andThen_ok, q4, Sem.run_pure, Option.isSome_none]
  simp [Instr.slice, run_underlying hu1, q4]

/-! ### builtins -/
theorem run_builtin {b : Builtin} {args : Array Operand} {ts : Array TypeId} : ∃ cs, ∀ w,
    (execOp a.eval ⟨dst, .call ⟨.builtin b, args, ts⟩, ty, pos, after, guard⟩).run P w = (builtin b ts ty cs (args.map a.eval)).run P w :=
  ⟨_, fun w => by simp only [execOp, resolve, Sem.run_bind, Sem.run_pure, Result.andThen_ok, invoke]; rfl⟩

theorem p_len {str : Bool} {x : Operand} {t : TypeId} {ts : Array TypeId} {args : Array Operand} (hts : ts = #[t]) (ha : args = #[x])
    (ht : (str = true ∧ P.underlying t = some .string) ∨ (str = false ∧ ∃ e, P.underlying t = some (.slice e))) (hx : opndOk LB x = true)
    (hop : OpOk LB F f a ⟨dst, .call ⟨.builtin .len, args, ts⟩, ty, pos, after, guard⟩)
    (hv : iop call lo (.len str x) f h = some (v, h')) : h' = h ∧ Says P a ⟨dst, .call ⟨.builtin .len, args, ts⟩, ty, pos, after, guard⟩ F v := by
  subst hts ha
  obtain ⟨cs, hcs⟩ := run_builtin (P := P) (a := a) (dst := dst) (ty := ty) (pos := pos) (after := after) (guard := guard) (b := .len) (args := #[x]) (ts := #[t])
  simp only [iop] at hv
  split at hv <;> try (simp at hv; done)
  · rename_i b n c hu
    split at hv <;> simp at hv
    rename_i hstr
    obtain ⟨rfl, rfl⟩ := hv
    rcases ht with ⟨h0, _⟩ | ⟨_, e, he⟩
    · exact absurd h0 hstr
    have hxv := hop x (by simp [Op.operands, Call.operands]) hx _ hu
    generalize hce : a.eval x = cv at hxv
    refine ⟨rfl, .int .i64 n, fun w => ?_, .int _ _⟩
    rw [hcs]
    cases hxv <;> simp [builtin, Builtin.len_, hce, run_underlying he, goInt]
  · rename_i s hu
    split at hv <;> simp at hv
    rename_i hstr
    obtain ⟨rfl, rfl⟩ := hv
    rcases ht with ⟨_, he⟩ | ⟨h0, _⟩
    · have hxv := (hop x (by simp [Op.operands, Call.operands]) hx _ hu).eq_flat1 rfl
      refine ⟨rfl, .int .i64 s.size, fun w => ?_, .int _ _⟩
      rw [hcs]
      simp [builtin, Builtin.len_, hxv, run_underlying he, goInt]
    · rw [h0] at hstr; cases hstr

theorem minL_ok {k : IntKind} : ∀ {r r' : List Value} {n m : Int}, VRs F r r' → minL k n r = some m → ∀ w, (r'.foldlM Builtin.min2 (.int k n) : Sem Value).run P w = .ok (.int k m) w
  | _, _, n, m, .nil, h, w => by simp [minL] at h; subst h; simp
  | _, _, n, m, .cons v c vs cs hv hs, h, w => by
    cases hv <;> simp [minL] at h
    rename_i j q
    obtain ⟨rfl, h⟩ := h
    have := minL_ok hs h w
    simp [Builtin.min2, this]

theorem maxL_ok {k : IntKind} : ∀ {r r' : List Value} {n m : Int}, VRs F r r' → maxL k n r = some m → ∀ w, (r'.foldlM Builtin.max2 (.int k n) : Sem Value).run P w = .ok (.int k m) w
  | _, _, n, m, .nil, h, w => by simp [maxL] at h; subst h; simp
  | _, _, n, m, .cons v c vs cs hv hs, h, w => by
    cases hv <;> simp [maxL] at h
    rename_i j q
    obtain ⟨rfl, h⟩ := h
    have := maxL_ok hs h w
    simp [Builtin.max2, this]

theorem p_min {xs : List Operand} {ts : Array TypeId} {args : Array Operand} (ha : args.toList = xs) (hx : xs.all (opndOk LB) = true)
    (hop : OpOk LB F f a ⟨dst, .call ⟨.builtin .min, args, ts⟩, ty, pos, after, guard⟩)
    (hv : iop call lo (.min xs) f h = some (v, h')) : h' = h ∧ Says P a ⟨dst, .call ⟨.builtin .min, args, ts⟩, ty, pos, after, guard⟩ F v := by
  subst ha
  obtain ⟨cs, hcs⟩ := run_builtin (P := P) (a := a) (dst := dst) (ty := ty) (pos := pos) (after := after) (guard := guard) (b := .min) (args := args) (ts := ts)
  simp only [iop] at hv
  split at hv <;> try (simp at hv; done)
  rename_i k n r hu
  split at hv <;> simp at hv
  rename_i m hm
  obtain ⟨rfl, rfl⟩ := hv
  have hr := evs_ok (a := a) hx (fun x hx => hop x (by simp [Op.operands, Call.operands]; simpa using hx)) hu
  refine ⟨rfl, .int k m, fun w => ?_, .int _ _⟩
  rw [hcs]
  generalize hl : args.toList.map a.eval = l at hr
  cases hr with
  | cons _ c _ cs' hc hs =>
    have e := hc.eq_flat1 rfl
    subst e
    have := minL_ok (P := P) hs hm w
    simp [builtin, Builtin.min_, hl, this]

theorem p_max {xs : List Operand} {ts : Array TypeId} {args : Array Operand} (ha : args.toList = xs) (hx : xs.all (opndOk LB) = true)
    (hop : OpOk LB F f a ⟨dst, .call ⟨.builtin .max, args, ts⟩, ty, pos, after, guard⟩)
    (hv : iop call lo (.max xs) f h = some (v, h')) : h' = h ∧ Says P a ⟨dst, .call ⟨.builtin .max, args, ts⟩, ty, pos, after, guard⟩ F v := by
  subst ha
  obtain ⟨cs, hcs⟩ := run_builtin (P := P) (a := a) (dst := dst) (ty := ty) (pos := pos) (after := after) (guard := guard) (b := .max) (args := args) (ts := ts)
  simp only [iop] at hv
  split at hv <;> try (simp at hv; done)
  rename_i k n r hu
  split at hv <;> simp at hv
  rename_i m hm
  obtain ⟨rfl, rfl⟩ := hv
  have hr := evs_ok (a := a) hx (fun x hx => hop x (by simp [Op.operands, Call.operands]; simpa using hx)) hu
  refine ⟨rfl, .int k m, fun w => ?_, .int _ _⟩
  rw [hcs]
  generalize hl : args.toList.map a.eval = l at hr
  cases hr with
  | cons _ c _ cs' hc hs =>
    have e := hc.eq_flat1 rfl
    subst e
    have := maxL_ok (P := P) hs hm w
    simp [builtin, Builtin.max_, hl, this]

theorem p_cplx {x y : Operand} {ts : Array TypeId} {args : Array Operand} (ha : args = #[x, y]) (hx : opndOk LB x = true) (hy : opndOk LB y = true)
    (hop : OpOk LB F f a ⟨dst, .call ⟨.builtin .complex, args, ts⟩, ty, pos, after, guard⟩)
    (hv : iop call lo (.cplx x y) f h = some (v, h')) : h' = h ∧ Says P a ⟨dst, .call ⟨.builtin .complex, args, ts⟩, ty, pos, after, guard⟩ F v := by
  subst ha
  obtain ⟨cs, hcs⟩ := run_builtin (P := P) (a := a) (dst := dst) (ty := ty) (pos := pos) (after := after) (guard := guard) (b := .complex) (args := #[x, y]) (ts := ts)
  simp only [iop] at hv
  split at hv <;> try (simp at hv; done)
  rename_i k n k' m hu hu'
  split at hv <;> simp at hv
  rename_i hk
  obtain ⟨rfl, rfl⟩ := hv
  subst hk
  have e1 := (hop x (by simp [Op.operands, Call.operands]) hx _ hu).eq_flat1 rfl
  have e2 := (hop y (by simp [Op.operands, Call.operands]) hy _ hu').eq_flat1 rfl
  refine ⟨rfl, .complex k n m, fun w => ?_, .complex _ _ _⟩
  rw [hcs]
  have e3 : Builtin.complex_ ts ty #[.float k n, .float k m] = (if k = k then pure (.complex k n m) else stuck "complex: parts of different kinds") := rfl
  rw [if_pos rfl] at e3
  simp [builtin, e3, e1, e2]

theorem p_re {x : Operand} {ts : Array TypeId} {args : Array Operand} (ha : args = #[x]) (hx : opndOk LB x = true)
    (hop : OpOk LB F f a ⟨dst, .call ⟨.builtin .real, args, ts⟩, ty, pos, after, guard⟩)
    (hv : iop call lo (.re x) f h = some (v, h')) : h' = h ∧ Says P a ⟨dst, .call ⟨.builtin .real, args, ts⟩, ty, pos, after, guard⟩ F v := by
  subst ha
  obtain ⟨cs, hcs⟩ := run_builtin (P := P) (a := a) (dst := dst) (ty := ty) (pos := pos) (after := after) (guard := guard) (b := .real) (args := #[x]) (ts := ts)
  simp only [iop] at hv
  split at hv <;> simp at hv
  rename_i k n m hu
  obtain ⟨rfl, rfl⟩ := hv
  have e1 := (hop x (by simp [Op.operands, Call.operands]) hx _ hu).eq_flat1 rfl
  refine ⟨rfl, .float k n, fun w => ?_, .float _ _⟩
  rw [hcs]
  have e3 : Builtin.real_ ts ty #[.complex k n m] = pure (.float k n) := rfl
  simp [builtin, e3, e1]

theorem p_im {x : Operand} {ts : Array TypeId} {args : Array Operand} (ha : args = #[x]) (hx : opndOk LB x = true)
    (hop : OpOk LB F f a ⟨dst, .call ⟨.builtin .imag, args, ts⟩, ty, pos, after, guard⟩)
    (hv : iop call lo (.im x) f h = some (v, h')) : h' = h ∧ Says P a ⟨dst, .call ⟨.builtin .imag, args, ts⟩, ty, pos, after, guard⟩ F v := by
  subst ha
  obtain ⟨cs, hcs⟩ := run_builtin (P := P) (a := a) (dst := dst) (ty := ty) (pos := pos) (after := after) (guard := guard) (b := .imag) (args := #[x]) (ts := ts)
  simp only [iop] at hv
  split at hv <;> simp at hv
  rename_i k n m hu
  obtain ⟨rfl, rfl⟩ := hv
  have e1 := (hop x (by simp [Op.operands, Call.operands]) hx _ hu).eq_flat1 rfl
  refine ⟨rfl, .float k m, fun w => ?_, .float _ _⟩
  rw [hcs]
  have e3 : Builtin.imag_ ts ty #[.complex k n m] = pure (.float k m) := rfl
  simp [builtin, e3, e1]

/-! ### all of them -/
def isPure : IOp → Bool
  | .mov _ | .pick .. | .build .. | .faddr .. | .field .. | .iaddr .. | .index .. | .indexS .. | .nilchk _ | .nilchkm .. | .bin .. | .eqv .. | .un .. | .conv .. | .mkif .. | .mkfn .. | .slice .. | .sliceA .. | .sliceS ..
  | .extract .. | .len .. | .min _ | .max _ | .cplx .. | .re _ | .im _ => true
  | _ => false

end

theorem arr1 {α : Type} {xs : Array α} {x : α} (h : xs.toList = [x]) : xs = #[x] := by cases xs; simp at h; subst h; rfl
theorem arr2 {α : Type} {xs : Array α} {x y : α} (h : xs.toList = [x, y]) : xs = #[x, y] := by cases xs; simp at h; subst h; rfl

theorem ifSome {α : Type} {c : Prop} [Decidable c] {x y : α} (h : (if c then some x else none) = some y) : c ∧ x = y := by
  split at h
  · rename_i hc; injection h with h; exact ⟨hc, h⟩
  · cases h

theorem ifSomeO {α : Type} {c : Prop} [Decidable c] {x : Option α} {y : α} (h : (if c then x else none) = some y) : c ∧ x = some y := by
  split at h
  · rename_i hc; exact ⟨hc, h⟩
  · cases h

theorem mapSome {α β : Type} {o : Option α} {g : α → β} {y : β} (h : o.map g = some y) : ∃ x, o = some x ∧ g x = y := by
  cases o with
  | none => cases h
  | some x => injection h with h; exact ⟨x, rfl, h⟩

/-- An operation of this kind answers alike at every world, what the interpreter answers. -/
theorem pure_ok {P : Program} {LB : List Nat} {F : Emb} {f : Fr} {a : Act} {call : CallF} {lo : Nat} {h h' : Heap} {v : Value} {ops : List Oper} {o : Oper} {io : IOp}
    (hc : cOp P LB ops o = some io) (hp : isPure io = true) (hop : OpOk LB F f a o) (hv : iop call lo io f h = some (v, h')) : h' = h ∧ Says P a o F v := by
  obtain ⟨dst, op, ty, pos, after, guard⟩ := o
  cases op <;> simp only [cOp] at hc <;> try (cases hc; done)
  case move x => obtain ⟨h1, rfl⟩ := ifOk_some hc; exact p_move h1 hop hv
  case assign x => obtain ⟨h1, rfl⟩ := ifOk_some hc; exact p_assign h1 hop hv
  case pick c x y =>
    obtain ⟨h1, rfl⟩ := ifOk_some hc
    simp only [Bool.and_eq_true] at h1
    exact p_pick h1.1.1 h1.1.2 h1.2 hop hv
  case alloc t =>
    split at hc <;> try (cases hc; done)
    split at hc <;> (injection hc with hc; subst hc; cases hp)
  case box t x =>
    split at hc <;> try (cases hc; done)
    split at hc <;> try (cases hc; done)
    split at hc <;> (injection hc with hc; subst hc; cases hp)
  case build t parts =>
    split at hc <;> try (cases hc; done)
    rename_i z ps hz hps
    obtain ⟨h1, rfl⟩ := ifOk_some hc
    exact p_build hz hps h1 hop hv
  case buildSlice t n parts =>
    split at hc <;> try (cases hc; done)
    split at hc <;> try (cases hc; done)
    split at hc <;> try (cases hc; done)
    obtain ⟨h1, rfl⟩ := ifOk_some hc
    cases hp
  case load t x =>
    split at hc <;> try (cases hc; done)
    split at hc
    · injection hc with hc; subst hc; cases hp
    · obtain ⟨h1, rfl⟩ := ifOk_some hc; cases hp
  case store t x y =>
    split at hc <;> try (cases hc; done)
    split at hc
    · obtain ⟨h1, rfl⟩ := ifOk_some hc; cases hp
    · obtain ⟨h1, rfl⟩ := ifOk_some hc; cases hp
  case nilCheck x =>
    split at hc
    · obtain ⟨h1, rfl⟩ := ifOk_some hc; exact p_nilchkm h1 hop hv
    · obtain ⟨h1, rfl⟩ := ifOk_some hc; exact p_nilchk h1 hop hv
  case binOp op t x y t' =>
    split at hc <;> try (cases hc; done)
    rename_i h1
    simp only [Bool.and_eq_true] at h1
    split at hc
    · injection hc with hc; subst hc; exact p_bin h1.1 h1.2 hop hv
    · rename_i neg hn
      split at hc
      · injection hc with hc; subst hc; exact p_bin h1.1 h1.2 hop hv
      · injection hc with hc; subst hc; exact p_bin h1.1 h1.2 hop hv
      · obtain ⟨k, hk, rfl⟩ := mapSome hc
        exact p_eqv hn hk h1.1 h1.2 hop hv
  case unOp op t x => obtain ⟨h1, rfl⟩ := ifOk_some hc; exact p_un h1 hop hv
  case convert s d x =>
    split at hc <;> try (cases hc; done)
    rename_i h1
    split at hc <;> try (cases hc; done)
    · rename_i j j' e1 e2; injection hc with hc; subst hc; exact p_conv h1 (.inl ⟨_, _, e1, e2, rfl⟩) hop hv
    · rename_i j j' e1 e2; injection hc with hc; subst hc; exact p_conv h1 (.inr (.inl ⟨_, _, e1, e2, rfl⟩)) hop hv
    · rename_i j j' e1 e2; injection hc with hc; subst hc; exact p_conv h1 (.inr (.inr (.inl ⟨_, _, e1, e2, rfl⟩))) hop hv
    · rename_i e1 e2; injection hc with hc; subst hc; exact p_conv h1 (.inr (.inr (.inr ⟨e1, e2, rfl⟩))) hop hv
  case makeInterface t x =>
    split at hc <;> try (cases hc; done)
    rename_i d hd1 hd2
    obtain ⟨h1, rfl⟩ := ifOk_some hc
    exact p_mkif h1 (fun ms hms => by rw [hms] at hd2; injection hd2 with hd2; exact hd1 _ hd2.symm) (fun hn => by rw [hn] at hd2; cases hd2) hop hv
  case makeFunc fn first caps =>
    obtain ⟨h1, rfl⟩ := ifOk_some hc
    simp only [Bool.and_eq_true] at h1
    exact p_mkfn h1.1 h1.2 hop hv
  case makeMap t r =>
    split at hc <;> try (cases hc; done)
    · injection hc with hc; subst hc; cases hp
    · split at hc <;> try (cases hc; done)
      injection hc with hc; subst hc; cases hp
  case makeSlice t n c =>
    split at hc <;> try (cases hc; done)
    split at hc <;> try (cases hc; done)
    split at hc <;> try (cases hc; done)
    obtain ⟨h1, rfl⟩ := ifOk_some hc
    cases hp
  case slice t x lo' hi mx =>
    split at hc <;> try (cases hc; done)
    rename_i h1
    simp only [Bool.and_eq_true] at h1
    split at hc <;> try (cases hc; done)
    · rename_i n e he
      obtain ⟨s, hs, rfl⟩ := mapSome hc
      exact p_sliceA he hs h1.1.1.1 h1.1.1.2 h1.1.2 h1.2 hop hv
    · rename_i e he
      obtain ⟨s, hs, rfl⟩ := mapSome hc
      exact p_slice he hs h1.1.1.1 h1.1.1.2 h1.1.2 h1.2 hop hv
    · rename_i he
      obtain ⟨h2, rfl⟩ := ifSome hc
      have : mx = none := by simpa using h2
      subst this
      exact p_sliceS he h1.1.1.1 h1.1.1.2 h1.1.2 hop hv
  case fieldAddr t x fi =>
    split at hc <;> try (cases hc; done)
    rename_i off u hf
    split at hc
    · injection hc with hc; subst hc; cases hp
    · obtain ⟨h1, rfl⟩ := ifOk_some hc; exact p_faddr hf h1 hop hv
  case field t x fi =>
    split at hc <;> try (cases hc; done)
    rename_i off u hf
    split at hc <;> try (cases hc; done)
    rename_i n hn
    obtain ⟨h1, rfl⟩ := ifOk_some hc
    exact p_field hf hn h1 hop hv
  case indexAddr t x i =>
    split at hc <;> try (cases hc; done)
    rename_i h1
    simp only [Bool.and_eq_true] at h1
    split at hc <;> try (cases hc; done)
    · rename_i n e he
      obtain ⟨s, hs, rfl⟩ := mapSome hc
      exact p_iaddrA he hs h1.1 h1.2 hop hv
    · rename_i e he
      obtain ⟨s, hs, rfl⟩ := mapSome hc
      exact p_iaddrS he hs h1.1 h1.2 hop hv
  case index t x i =>
    split at hc <;> try (cases hc; done)
    rename_i h1
    simp only [Bool.and_eq_true] at h1
    split at hc <;> try (cases hc; done)
    · rename_i n e he
      split at hc <;> try (cases hc; done)
      rename_i s m hs hm
      injection hc with hc; subst hc
      exact p_index he hs hm h1.1 h1.2 hop hv
    · rename_i he
      injection hc with hc; subst hc
      exact p_indexS he h1.1 h1.2 hop hv
  case lookup t m k ok =>
    split at hc <;> try (cases hc; done)
    split at hc <;> try (cases hc; done)
    obtain ⟨h1, rfl⟩ := ifOk_some hc
    cases hp
  case mapUpdate t m k u =>
    split at hc <;> try (cases hc; done)
    split at hc <;> try (cases hc; done)
    obtain ⟨h1, rfl⟩ := ifOk_some hc
    cases hp
  case extract x i => obtain ⟨h1, rfl⟩ := ifOk_some hc; exact p_extract h1 hop hv
  case call c =>
    obtain ⟨cal, args, ts⟩ := c
    split at hc
    · obtain ⟨h1, rfl⟩ := ifOk_some hc; cases hp
    · obtain ⟨h1, rfl⟩ := ifOk_some hc; cases hp
    · obtain ⟨h1, rfl⟩ := ifOk_some hc; cases hp
    · rename_i b hb
      simp only at hb
      subst hb
      unfold cBuiltin at hc
      obtain ⟨h1, hc⟩ := ifSomeO hc
      split at hc
      · rename_i hx
        split at hc <;> try (cases hc; done)
        rename_i ht
        have e1 := arr1 hx
        have e2 := arr1 ht
        replace hx : args.toList = _ := hx
        simp only [hx, List.all_cons, Bool.and_eq_true] at h1
        split at hc <;> try (cases hc; done)
        · rename_i hu; injection hc with hc; subst hc; exact p_len e2 e1 (.inl ⟨rfl, hu⟩) h1.1 hop hv
        · rename_i e hu; injection hc with hc; subst hc; exact p_len e2 e1 (.inr ⟨rfl, e, hu⟩) h1.1 hop hv
        · injection hc with hc; subst hc; cases hp
      · split at hc <;> try (cases hc; done)
        split at hc <;> try (cases hc; done)
        split at hc <;> try (cases hc; done)
        obtain ⟨_, rfl⟩ := ifSome hc
        cases hp
      · split at hc <;> try (cases hc; done)
        split at hc <;> try (cases hc; done)
        obtain ⟨_, _, rfl⟩ := mapSome hc
        cases hp
      · split at hc <;> try (cases hc; done)
        split at hc <;> try (cases hc; done)
        split at hc <;> try (cases hc; done)
        obtain ⟨_, rfl⟩ := ifSome hc
        cases hp
      · injection hc with hc; subst hc; exact p_min rfl h1 hop hv
      · injection hc with hc; subst hc; exact p_max rfl h1 hop hv
      · rename_i hx
        injection hc with hc; subst hc
        replace hx : args.toList = _ := hx
        simp only [hx, List.all_cons, Bool.and_eq_true] at h1
        exact p_cplx (arr2 hx) h1.1 h1.2.1 hop hv
      · rename_i hx
        injection hc with hc; subst hc
        replace hx : args.toList = _ := hx
        simp only [hx, List.all_cons, Bool.and_eq_true] at h1
        exact p_re (arr1 hx) h1.1 hop hv
      · rename_i hx
        injection hc with hc; subst hc
        replace hx : args.toList = _ := hx
        simp only [hx, List.all_cons, Bool.and_eq_true] at h1
        exact p_im (arr1 hx) h1.1 hop hv
      · split at hc <;> try (cases hc; done)
        split at hc <;> try (cases hc; done)
        split at hc <;> try (cases hc; done)
        injection hc with hc; subst hc; cases hp
      · cases hc

end Go.Ir
