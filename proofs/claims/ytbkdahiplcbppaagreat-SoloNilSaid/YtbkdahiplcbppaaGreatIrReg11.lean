/- Regions, last part. -/
import Derived.Test.YtbkdahiplcbppaaGreatIrReg10
set_option linter.unusedVariables false
set_option linter.unusedSimpArgs false
namespace Go.Ir

/-- Between regions: how the interpreter's frame and heap stand to the machine's. -/
structure Fram (B0 : Nat) (w0 : World) (LB : List Nat) (nt : Nat) (Ef : Emb) (wf : World) (D : List Deferred) (E : Emb) (bx : Nat → Nat) (f : Fr) (h : Heap) (a : Act) (w : World) : Prop where
  sim : Sim B0 w0 E h w
  slot : ∀ t v, LB.contains t = false → fget f t = some v → VR E v (a.tmps.getD t undef)
  box : ∀ t v, LB.contains t = true → fget f t = some v → v ≠ noneV → Boxed B0 E w v (a.tmps.getD t undef) (bx t) ∧ wf.heap.size ≤ bx t ∧ ∀ j y, E j = some (some y) → y.b ≠ bx t
  sep : ∀ t t' v v', LB.contains t = true → LB.contains t' = true → t ≠ t' → fget f t = some v → fget f t' = some v' → v ≠ noneV → v' ≠ noneV → bx t ≠ bx t'
  later : Later Ef wf E w
  tmps : a.tmps.size = nt
  defers : a.defers = D

section
variable {call : CallF} {lo : Nat} {cc : List COper} {ck : Nat → Nat} {f0 : Fr} {h0 : Heap}
variable {P : Program} {B0 : Nat} {w0 : World} {LB : List Nat} {nt : Nat} {ops : List Oper} {Ef : Emb} {wf : World} {D : List Deferred} {S : Nat → Bool} {E : Emb} {bx : Nat → Nat} {b : Nat} {a : Act} {w : World}

theorem Tr.now_nil (T : Tr call lo cc ck f0 h0) (t : Nat) : ∀ k, T.now (fun _ => false) t k = (fget f0 t).map fun v => (v, T.L 0)
  | 0 => rfl
  | k + 1 => by simp only [Tr.now, Bool.false_and, Bool.false_eq_true, if_false]; exact T.now_nil t k

theorem Fram.start (fr : Fram B0 w0 LB nt Ef wf D E bx f0 h0 a w) (T : Tr call lo cc ck f0 h0) : Inv B0 w0 LB nt Ef wf D T (fun _ => false) E bx 0 a w := by
  have hL : T.L 0 = h0.length := by simp [Tr.L, T.hH]
  have hres : res E (T.L 0) = E := by
    funext i
    by_cases hi : i < T.L 0
    · rw [res_lt hi]
    · rw [res_ge (by omega), fr.sim.out i (by omega)]
  have hnow : ∀ {t v n}, T.now (fun _ => false) t cc.length = some (v, n) → fget f0 t = some v ∧ n = T.L 0 := fun {t v n} h => by
    rw [T.now_nil] at h
    cases hf : fget f0 t with
    | none => rw [hf] at h; cases h
    | some u => rw [hf] at h; simp at h; exact ⟨by rw [h.1], h.2.symm⟩
  refine ⟨Nat.zero_le _, .inl rfl, fun _ _ _ _ h => (nomatch h), by rw [hres, T.hH]; exact fr.sim, fun _ _ _ _ h => (nomatch h), fun i hi hE => ?_, fun i j x y hi _ hE => ?_, fun t v n hl hn => ?_, fun t v n hl hn hv => ?_,
    fun t t' r r' hl hl' hne hn hn' hv hv' => ?_, fun _ _ _ _ _ _ _ h => (nomatch h), fr.later, fr.tmps, fr.defers⟩
  · exact absurd (fr.sim.out i (by omega)) hE
  · rw [fr.sim.out i (by omega)] at hE; cases hE
  · obtain ⟨h1, rfl⟩ := hnow hn
    rw [hres]; exact fr.slot t v hl h1
  · obtain ⟨h1, rfl⟩ := hnow hn
    rw [hres]; exact fr.box t v hl h1 hv
  · exact fr.sep t t' r.1 r'.1 hl hl' hne (hnow (v := r.1) (n := r.2) hn).1 (hnow (v := r'.1) (n := r'.2) hn').1 hv hv'

theorem Inv.finish {T : Tr call lo cc ck f0 h0} (inv : Inv B0 w0 LB nt Ef wf D T S E bx b a w) (hm : CallMono call) (hS : ∀ p, p < cc.length → S p = true) :
    Fram B0 w0 LB nt Ef wf D E bx (T.F cc.length) (T.H cc.length) a w := by
  have hE : res E (T.L cc.length) = E := by
    funext i
    by_cases hi : i < T.L cc.length
    · rw [res_lt hi]
    · rw [res_ge (by omega)]
      cases he : E i with
      | none => rfl
      | some e =>
        exfalso
        have hbL := T.L_mono hm inv.bn (Nat.le_refl _)
        obtain ⟨q, c, h1, h2, h3, h4, h5, h6⟩ := inv.only i (by omega) (by rw [he]; simp)
        obtain ⟨x, k, g1, _⟩ := inv.pend q c h1 h2 h3 h4 h5
        have hql : q < cc.length := (List.getElem?_eq_some_iff.1 h2).1
        have : T.L (q + 1) = T.L q + 1 := by simp [Tr.L, g1]
        have := T.L_mono hm (show q + 1 ≤ cc.length by omega) (Nat.le_refl _)
        omega
  have hnow : ∀ {t v}, fget (T.F cc.length) t = some v → ∃ n, n ≤ T.L cc.length ∧ T.now S t cc.length = some (v, n) := fun {t v} h => by
    obtain ⟨n, hn⟩ := T.now_done t h
    rw [T.now_congr (S' := S) cc.length (fun q hq _ => (hS q hq).symm)] at hn
    exact ⟨n, T.now_le hm _ (Nat.le_refl _) hn, hn⟩
  have hsim := inv.at hm (Nat.le_refl _) inv.bn (fun q c' h1 h2 h3 h4 => hS q h2) (fun q c' h1 h2 h3 h4 h5 => T.same h3 (fun _ => ⟨h4, h5⟩))
  rw [hE] at hsim
  have hle : ∀ {n}, n ≤ T.L cc.length → (res E n).le E := fun h => res_le_self
  refine ⟨hsim, fun t v hl hf => ?_, fun t v hl hf hv => ?_, fun t t' v v' hl hl' hne hf hf' hv hv' => ?_, inv.later, inv.tmps, inv.defers⟩
  · obtain ⟨n, h1, h2⟩ := hnow hf
    exact (inv.slot t v n hl h2).mono (hle h1)
  · obtain ⟨n, h1, h2⟩ := hnow hf
    obtain ⟨g1, g2, g3⟩ := inv.box t v n hl h2 hv
    exact ⟨g1.mono (hle h1), g2, g3⟩
  · obtain ⟨n, h1, h2⟩ := hnow hf
    obtain ⟨n', h1', h2'⟩ := hnow hf'
    exact inv.sep t t' _ _ hl hl' hne h2 h2' hv hv'

/-! ### a region in the order of its text -/
theorem range_get {n p : Nat} (h : p < n) : (List.range n)[p]? = some p := by simp [h]

theorem range_some {n p i : Nat} (h : (List.range n)[p]? = some i) : p < n ∧ i = p := by
  obtain ⟨h1, h2⟩ := List.getElem?_eq_some_iff.1 h
  simp at h1 h2
  exact ⟨h1, h2.symm⟩

theorem ord_plain (cs : List COper) : IOrd cs cs (List.range cs.length) := by
  refine ⟨fun p => ?_, by simp, fun p i h => ?_, fun p q i h h' => ?_, fun i h => ⟨i, range_get h⟩, fun p q i j c c' h h' _ _ hpq _ => ?_⟩
  · by_cases hp : p < cs.length
    · rw [range_get hp]; rfl
    · simp [hp]
  · have := range_some h; omega
  · have := range_some h; have := range_some h'; omega
  · have := range_some h; have := range_some h'; omega

theorem rdy_plain {cs : List COper} {ck : Nat → Nat} {p : Nat} {c : COper} : Rdy cs ck (fun q => decide (q < p)) p c := by
  refine ⟨fun q c' h _ _ => by simpa using h, fun q c' h _ _ => by simp; omega, fun _ q c' h _ _ => by simpa using h, fun _ q c' h _ _ => by simp; omega, fun _ => ?_⟩
  have : (List.range p).filter (fun q => !decide (q < p) && (cs[q]?).any fun c' => isEff c'.io) = [] := by
    rw [List.filter_eq_nil_iff]
    intro q hq
    have := List.mem_range.1 hq
    simp [this]
  rw [this]; exact Nat.zero_le _

theorem plain_wp {T : Tr call lo cc ck f0 h0} (hm : CallMono call) (hB0 : B0 ≤ w0.heap.size) (hcall : CallOk P B0 w0 call) {opsA : Array Oper} (hA : opsA.toList = ops) (wf' : Wf P LB nt ops cc)
    (hops : cc.map COper.o = ops) {Q : Exit → Act → World → Prop} (hQ : ∀ E' bx' a' w', Fram B0 w0 LB nt Ef wf D E' bx' (T.F cc.length) (T.H cc.length) a' w' → Q .normal a' w') :
    ∀ (k p : Nat), p + k = cc.length → ∀ {E bx b a w}, Inv B0 w0 LB nt Ef wf D T (fun q => decide (q < p)) E bx b a w → wpOps P opsA Q ((List.range' p k)) a w := by
  intro k
  induction k with
  | zero =>
    intro p hp E bx b a w inv
    exact hQ _ _ _ _ (inv.finish hm (fun q hq => by simp; omega))
  | succ k ih =>
    intro p hp E bx b a w inv
    have hpl : p < cc.length := by omega
    have hc : cc[p]? = some cc[p] := List.getElem?_eq_getElem hpl
    have hi : opsA[p]? = some (cc[p]).o := by
      have := congrArg (·[p]?) hops
      simp only [List.getElem?_map, hc, Option.map_some] at this
      rw [← hA] at this
      simpa using this.symm
    rw [List.range'_succ, wpOps_cons]
    refine inv.step hm wf' hc (by simp) rdy_plain hB0 inv.later.size hcall hA hi fun E' bx' b' a' w' inv' => ih (p + 1) (by omega) (E := E') (bx := bx') (b := b') ?_
    have : addS (fun q => decide (q < p)) p = fun q => decide (q < p + 1) := by
      funext q
      simp only [addS]
      by_cases h1 : q < p
      · simp [h1]; omega
      · by_cases h2 : q = p
        · simp [h2]
        · have : ¬ q < p + 1 := by omega
          simp [h1, h2, this]
    rw [← this]
    exact inv'

end
end Go.Ir
