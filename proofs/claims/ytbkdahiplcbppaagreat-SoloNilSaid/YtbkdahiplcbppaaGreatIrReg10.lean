/- Regions, tenth part: what the translation has looked at. -/
import Derived.Test.YtbkdahiplcbppaaGreatIrReg9
set_option linter.unusedVariables false
set_option linter.unusedSimpArgs false
namespace Go.Ir

section
variable {P : Program} {LB : List Nat} {nt : Nat} {ops : List Oper}

def Made1 (P : Program) (LB : List Nat) (nt : Nat) (ops : List Oper) (c : COper) : Prop :=
  cOp P LB ops c.o = some c.io ∧ guardOf ops c.o = some c.guard ∧ (∀ d, c.o.dst = some d → d < nt) ∧ (∀ d, c.o.dst = some d → (LB.contains d = true ↔ ∃ x, c.io = .lbox x)) ∧
    (∀ t w, c.guard = some (t, w) → LB.contains t = false) ∧ (∀ s b off n, c.io = .lload s b off n → LB.contains b = true) ∧ (∀ s b off n x, c.io = .lstore s b off n x → LB.contains b = true ∧ c.o.dst = none) ∧
    (∀ s b off, c.io = .laddr s b off → LB.contains b = true)

theorem mkCs_ok : ∀ {l : List Oper} {cs : List COper}, mkCs P LB ops nt l = some cs → cs.map COper.o = l ∧ ∀ c ∈ cs, Made1 P LB nt ops c
  | [], cs, h => by simp [mkCs] at h; subst h; exact ⟨rfl, fun c hc => by cases hc⟩
  | o :: r, cs, h => by
    simp only [mkCs] at h
    split at h <;> try (cases h; done)
    rename_i io g cs' h1 h2 h3
    obtain ⟨hk, rfl⟩ := ifSome h
    obtain ⟨e1, e2⟩ := mkCs_ok h3
    refine ⟨by simp [e1], fun c hc => ?_⟩
    rcases List.mem_cons.1 hc with rfl | hc
    · simp only [Bool.and_eq_true] at hk
      obtain ⟨⟨⟨k1, k2⟩, k3⟩, k4⟩ := hk
      refine ⟨h1, h2, fun d hd => ?_, fun d hd => ?_, fun t w hg => ?_, fun s b off n hio => ?_, fun s b off n x hio => ?_, fun s b off hio => ?_⟩
      · simp only at hd; rw [hd] at k1; simpa using k1
      · simp only at hd
        rw [hd] at k2
        constructor
        · intro hl
          split at k2
          · exact ⟨_, rfl⟩
          · rename_i e _; injection e with e; subst e; rw [hl] at k2; cases k2
          · rename_i e; cases e
        · rintro ⟨x, hx⟩
          simp only at hx
          subst hx
          simpa using k2
      · simp only at hg; subst hg; simpa using k3
      · simp only at hio; subst hio; simpa using k4
      · simp only at hio; subst hio
        simp only [Bool.and_eq_true, Option.isNone_iff_eq_none] at k4
        exact k4
      · simp only at hio; subst hio; simpa using k4
    · exact e2 c hc

theorem localAll_ok {cs : List COper} : ∀ {l : List COper} {i : Nat}, localAll cs i l = true → ∀ (k : Nat) (c : COper), l[k]? = some c → localOk cs (i + k) c = true
  | [], i, h, k, c, hk => by simp at hk
  | x :: l, i, h, k, c, hk => by
    simp only [localAll, Bool.and_eq_true] at h
    cases k with
    | zero => simp at hk; subst hk; exact h.1
    | succ k =>
      have := localAll_ok h.2 k c (by simpa using hk)
      rwa [show i + 1 + k = i + (k + 1) by omega] at this

theorem mem_lboxes {b : Nat} : ∀ {cs : List COper} {i k : Nat} {c : COper} {x : Operand}, cs[k]? = some c → c.io = .lbox x → c.o.dst = some b → i + k ∈ lboxes b cs i
  | [], i, k, c, x, h, _, _ => by simp at h
  | y :: cs, i, k, c, x, h, h1, h2 => by
    cases k with
    | zero => simp at h; subst h; simp [lboxes, h1, h2]
    | succ k =>
      have := mem_lboxes (i := i + 1) (cs := cs) (k := k) (by simpa using h) h1 h2
      rw [show i + 1 + k = i + (k + 1) by omega] at this
      simp only [lboxes]
      split
      · split
        · exact List.mem_cons_of_mem _ this
        · exact this
      · exact this

theorem mem_writers {s : Nat} : ∀ {cs : List COper} {i k : Nat}, (∃ c, cs[k]? = some c ∧ c.o.dst = some s) ↔ i + k ∈ writers s cs i
  | [], i, k => by simp [writers]
  | y :: cs, i, k => by
    simp only [writers]
    have lower : ∀ {l : List COper} {i m : Nat}, m ∈ writers s l i → i ≤ m := by
      intro l
      induction l with
      | nil => intro i m h; simp [writers] at h
      | cons z l ih =>
        intro i m h
        simp only [writers] at h
        split at h
        · rcases List.mem_cons.1 h with rfl | h
          · exact Nat.le_refl _
          · have := ih h; omega
        · have := ih h; omega
    cases k with
    | zero =>
      simp only [List.getElem?_cons_zero, Option.some.injEq, exists_eq_left', Nat.add_zero]
      split
      · rename_i h; simp at h; simp [h]
      · rename_i h
        simp only [beq_iff_eq] at h
        constructor
        · intro e; exact absurd e h
        · intro e; have := lower e; omega
    | succ k =>
      have ih := mem_writers (s := s) (cs := cs) (i := i + 1) (k := k)
      rw [show i + 1 + k = i + (k + 1) by omega] at ih
      simp only [List.getElem?_cons_succ]
      rw [ih]
      split
      · simp only [List.mem_cons]
        constructor
        · exact .inr
        · rintro (h | h)
          · omega
          · exact h
      · rfl

theorem la_mono : ∀ {n s : Nat} {r : Nat × Nat}, la P LB ops n s = some r → la P LB ops (n + 1) s = some r
  | 0, s, r, h => by
    simp only [la] at h
    by_cases hl : LB.contains s = true
    · rw [if_pos hl] at h; unfold la; rw [if_pos hl]; exact h
    · rw [if_neg hl] at h; cases h
  | n + 1, s, r, h => by
    unfold la at h
    unfold la
    by_cases hl : LB.contains s = true
    · rw [if_pos hl] at h ⊢; exact h
    · rw [if_neg hl] at h ⊢
      split at h
      · rename_i t s' f pos ty after guard hf
        split at h
        · rename_i d off o u h1 h2
          rw [la_mono h1]
          simp only [h2]
          exact h
        · cases h
      · cases h

/-- The interpreter's order. -/
structure IOrd (cs cc : List COper) (ord : List Nat) : Prop where
  get : ∀ p : Nat, cc[p]? = (ord[p]?).bind (cs[·]?)
  len : cc.length = ord.length
  lt : ∀ p i : Nat, ord[p]? = some i → i < cs.length
  nodup : ∀ p q i : Nat, ord[p]? = some i → ord[q]? = some i → p = q
  all : ∀ i : Nat, i < cs.length → ∃ p : Nat, ord[p]? = some i
  keep : ∀ (p q i j : Nat) (c c' : COper), ord[p]? = some i → ord[q]? = some j → cs[i]? = some c → cs[j]? = some c' → p < q → clash c c' = true → i < j

theorem IOrd.at {cs cc : List COper} {ord : List Nat} (o : IOrd cs cc ord) {p : Nat} {c : COper} (h : cc[p]? = some c) : ∃ i, ord[p]? = some i ∧ cs[i]? = some c := by
  rw [o.get] at h
  cases hi : ord[p]? with
  | none => rw [hi] at h; cases h
  | some i => rw [hi] at h; exact ⟨i, rfl, h⟩

theorem IOrd.pos {cs cc : List COper} {ord : List Nat} (o : IOrd cs cc ord) {i : Nat} {c : COper} (h : cs[i]? = some c) : ∃ p : Nat, ord[p]? = some i ∧ cc[p]? = some c := by
  obtain ⟨p, hp⟩ := o.all i (List.getElem?_eq_some_iff.1 h).1
  exact ⟨p, hp, by rw [o.get, hp]; exact h⟩

theorem wf_of {cs cc : List COper} {ord : List Nat} (hcs : mkCs P LB ops nt ops = some cs) (hla : localAll cs 0 cs = true) (o : IOrd cs cc ord) : Wf P LB nt ops cc := by
  obtain ⟨e1, e2⟩ := mkCs_ok hcs
  have hm : ∀ {p : Nat} {c : COper}, cc[p]? = some c → Made1 P LB nt ops c := fun h => by
    obtain ⟨i, h1, h2⟩ := o.at h
    exact e2 _ (List.mem_of_getElem? h2)
  -- where two in the text's order clash they are in the interpreter's order too
  have hord : ∀ {p q i j : Nat} {c c' : COper}, ord[p]? = some i → ord[q]? = some j → cs[i]? = some c → cs[j]? = some c' → i < j → clash c' c = true → p < q := fun {p q i j c c'} h1 h2 h3 h4 h5 h6 => by
    rcases Nat.lt_trichotomy p q with h | h | h
    · exact h
    · subst h; rw [h1] at h2; injection h2 with h2; omega
    · have := o.keep q p j i c' c h2 h1 h4 h3 h h6; omega
  refine ⟨fun p c hc => ?_, fun p c hc => (hm hc).2.1, fun p c s b hc hio => ?_, fun p q c c' s b x hc hc' h1 h2 h3 => ?_⟩
  · obtain ⟨k1, k2, k3, k4, k5, k6, k7, k8⟩ := hm hc
    exact ⟨k1, k3, k4, k5, k6, k7, k8⟩
  · obtain ⟨i, hi1, hi2⟩ := o.at hc
    obtain ⟨k1, k2, k3, k4, k5, k6, k7, k8⟩ := hm hc
    have hlo := localAll_ok hla i c hi2
    rw [Nat.zero_add] at hlo
    have hw : ∃ j, writers s cs 0 = [j] ∧ j < i := by
      unfold localOk at hlo
      rcases hio with ⟨off, n, h⟩ | ⟨off, n, x, h⟩ | ⟨off, h⟩ <;>
        (rw [h] at hlo; simp only [Bool.and_eq_true] at hlo; have hlo := hlo.2; split at hlo <;> first | (rename_i j hj; exact ⟨j, hj, by simpa using hlo⟩) | cases hlo)
    obtain ⟨j, hj, hji⟩ := hw
    obtain ⟨cr, hcr, hds⟩ := (mem_writers (s := s) (cs := cs) (i := 0) (k := j)).2 (by rw [hj]; simp)
    have huniq : ∀ k c', cs[k]? = some c' → c'.o.dst = some s → k = j := fun k c' h1 h2 => by
      have := (mem_writers (s := s) (cs := cs) (i := 0) (k := k)).1 ⟨c', h1, h2⟩
      rw [hj] at this
      simpa using this
    -- the slot by which c goes
    have hsl : ∃ x off, laX P LB ops x = some (b, off) ∧ laS LB x = some s ∧ x ∈ c.o.op.operands.toList := by
      have hnp := cOp_np k1 (by rcases hio with ⟨off, n, h⟩ | ⟨off, n, x, h⟩ | ⟨off, h⟩ <;> rw [h] <;> rfl)
      generalize hcio : c.io = io at hnp hio
      cases hnp <;> simp at hio
      case lload t x d off n ho hn hl =>
        obtain ⟨h1, rfl⟩ := hio
        exact ⟨x, off, hl, h1, by rw [ho]; simp [Op.operands]⟩
      case lstore t x y d off n ho hn hl hy =>
        obtain ⟨h1, rfl⟩ := hio
        exact ⟨x, off, hl, h1, by rw [ho]; simp [Op.operands]⟩
      case laddr t u x fi off d o' ho hf hl =>
        obtain ⟨h1, rfl⟩ := hio
        exact ⟨x, o', hl, h1, by rw [ho]; simp [Op.operands]⟩
    obtain ⟨x, off, hlx, hls, hxm⟩ := hsl
    cases x with
    | const v => simp [laS] at hls
    | global g => simp [laS] at hls
    | func g => simp [laS] at hls
    | tmp s0 =>
      simp only [laS] at hls
      split at hls
      · cases hls
      rename_i hnl
      injection hls with hls
      subst hls
      simp only [laX] at hlx
      have hlx' := hlx
      unfold la at hlx
      rw [if_neg hnl] at hlx
      split at hlx <;> try (cases hlx; done)
      rename_i dst' t s' f ty pos after guard hfind
      split at hlx <;> try (cases hlx; done)
      rename_i d off2 o2 u h1 h2
      injection hlx with hlx
      injection hlx with e3 e4
      subst e3 e4
      -- it is cr
      have hcro : ops[j]? = some cr.o := by
        have := congrArg (·[j]?) e1
        simp only [List.getElem?_map, hcr, Option.map_some] at this
        exact this.symm
      have hfm := List.mem_of_find?_eq_some hfind
      obtain ⟨k, hk⟩ := List.mem_iff_getElem?.1 hfm
      have hkcs : ∃ ck' : COper, cs[k]? = some ck' ∧ ops[k]? = some ck'.o := by
        have := congrArg (·[k]?) e1
        simp only [List.getElem?_map] at this
        cases hck : cs[k]? with
        | none => rw [hck, hk] at this; cases this
        | some ck' => rw [hck] at this; exact ⟨ck', rfl, this.symm⟩
      obtain ⟨ck', hck1, hck2⟩ := hkcs
      rw [hk] at hck2
      injection hck2 with hck2
      have hck2 := hck2.symm
      have hfd := List.find?_some hfind
      simp only [beq_iff_eq] at hfd
      have hkj : k = j := huniq k ck' hck1 (by rw [hck2]; exact hfd)
      subst hkj
      rw [hcr] at hck1
      injection hck1 with hck1
      subst hck1
      obtain ⟨m1, m2, m3, m4, m5, m6, m7, m8⟩ := e2 cr (List.mem_of_getElem? hcr)
      have hio' : cr.io = .laddr (laS LB (.tmp s')) d (off2 + o2) := by
        rw [hck2] at m1
        simp only [cOp, h2, laX, la_mono h1] at m1
        injection m1 with m1
        exact m1.symm
      obtain ⟨r, hr1, hr2⟩ := o.pos hcr
      have hcrd : cr.dst = some s0 := by simp [COper.dst, hio', hds]
      have hclash : clash c cr = true := clash_r (reads_opnd hxm) hcrd
      exact ⟨r, cr, _, off2 + o2, hord hr1 hi1 hcr hi2 hji hclash, hr2, hio', hds, fun q c' hc' hd' => by
        obtain ⟨i', g1, g2⟩ := o.at hc'
        have := huniq i' c' g2 hd'
        subst this
        exact o.nodup _ _ _ g1 hr1, hlx'⟩
  · obtain ⟨i, hi1, hi2⟩ := o.at hc
    obtain ⟨j, hj1, hj2⟩ := o.at hc'
    have hlo := localAll_ok hla i c hi2
    rw [Nat.zero_add] at hlo
    have hmem := mem_lboxes (i := 0) hj2 h1 h2
    rw [Nat.zero_add] at hmem
    have hji : j < i := by
      unfold localOk at hlo
      rcases h3 with ⟨off, n, h⟩ | ⟨off, n, x, h⟩ | ⟨off, h⟩ <;>
        (rw [h] at hlo; simp only [Bool.and_eq_true, List.all_eq_true] at hlo; simpa using hlo.1 j hmem)
    have hd' : c'.dst = some b := by simp [COper.dst, h1, h2]
    have hr : b ∈ c.reads := reads_lres (by rcases h3 with ⟨off, n, h⟩ | ⟨off, n, x, h⟩ | ⟨off, h⟩ <;> simp [h, lres])
    exact ⟨hord hj1 hi1 hj2 hi2 hji (clash_r hr hd'), clash_w hd' (.inl hr)⟩

end
end Go.Ir
