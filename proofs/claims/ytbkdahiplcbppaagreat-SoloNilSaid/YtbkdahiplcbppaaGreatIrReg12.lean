/- Regions in whatever order the edges allow. -/
import Derived.Test.YtbkdahiplcbppaaGreatIrReg11
set_option linter.unusedVariables false
set_option linter.unusedSimpArgs false
namespace Go.Ir

theorem nodupB_ok : ∀ {l : List Nat}, nodupB l = true → ∀ p q i : Nat, l[p]? = some i → l[q]? = some i → p = q
  | [], _, p, q, i, h, _ => by simp at h
  | x :: l, hn, p, q, i, h, h' => by
    simp only [nodupB, Bool.and_eq_true, Bool.not_eq_true'] at hn
    have hx : ∀ k : Nat, l[k]? ≠ some x := fun k hk => by
      have := List.mem_of_getElem? hk
      have h2 := hn.1
      simp at h2
      exact h2 this
    cases p with
    | zero =>
      cases q with
      | zero => rfl
      | succ q => simp at h h'; subst h; exact absurd h' (hx q)
    | succ p =>
      cases q with
      | zero => simp at h h'; subst h'; exact absurd h (hx p)
      | succ q => rw [nodupB_ok hn.2 p q i (by simpa using h) (by simpa using h')]

theorem pairs_ok {cs : List COper} {an : List Nat} : ∀ {l : List Nat}, orderOk.pairs cs an l = true → ∀ p q i j : Nat, p < q → l[p]? = some i → l[q]? = some j →
    ∃ a b, cs[i]? = some a ∧ cs[j]? = some b ∧ (clash a b = true → (an.getD j 0).testBit i = true) ∧
      ((isEff b.io = true ∧ (isEff a.io || isAlloc a.io || isRead a.io) = true) → (an.getD j 0).testBit i = true)
  | [], _, p, q, i, j, _, h, _ => by simp at h
  | x :: l, hp, p, q, i, j, hpq, h, h' => by
    simp only [orderOk.pairs, Bool.and_eq_true, List.all_eq_true] at hp
    cases q with
    | zero => omega
    | succ q =>
      cases p with
      | succ p => exact pairs_ok hp.2 p q i j (by omega) (by simpa using h) (by simpa using h')
      | zero =>
        simp at h h'
        subst h
        have := hp.1 j (List.mem_of_getElem? h')
        split at this <;> try (cases this; done)
        rename_i a b ha hb
        simp only [Bool.and_eq_true, Bool.or_eq_true, Bool.not_eq_true'] at this
        obtain ⟨⟨_, h1⟩, h2⟩ := this
        refine ⟨a, b, ha, hb, fun hc => ?_, fun hc => ?_⟩
        · rcases h1 with h1 | h1
          · rw [hc] at h1; cases h1
          · exact h1
        · rcases h2 with h2 | h2
          · have : (isEff b.io && (isEff a.io || isAlloc a.io || isRead a.io)) = true := by simp only [Bool.and_eq_true]; exact hc
            rw [this] at h2; cases h2
          · exact h2

theorem fold_bits (g : Nat → Nat) : ∀ (l : List Nat) (m j : Nat), (l.foldl (fun m d => m ||| 2 ^ d ||| g d) m).testBit j = true → m.testBit j = true ∨ ∃ d ∈ l, j = d ∨ (g d).testBit j = true
  | [], m, j, h => .inl h
  | d :: l, m, j, h => by
    rcases fold_bits g l _ j h with h | ⟨e, he, h⟩
    · simp only [Nat.testBit_or, Bool.or_eq_true, Nat.testBit_two_pow] at h
      rcases h with (h | h) | h
      · exact .inl h
      · exact .inr ⟨d, by simp, .inl (of_decide_eq_true h).symm⟩
      · exact .inr ⟨d, by simp, .inr h⟩
    · exact .inr ⟨e, by simp [he], h⟩

theorem ancs_pre : ∀ (r : List Oper) (acc : List Nat) (i : Nat), i < acc.length → (ancs r acc).getD i 0 = acc.getD i 0
  | [], acc, i, h => rfl
  | o :: r, acc, i, h => by
    rw [ancs, ancs_pre r _ i (by simp; omega)]
    simp [List.getElem?_append_left h]

theorem fold_congr (g g' : Nat → Nat) : ∀ (l : List Nat) (m : Nat), (∀ d ∈ l, g d = g' d) → l.foldl (fun m d => m ||| 2 ^ d ||| g d) m = l.foldl (fun m d => m ||| 2 ^ d ||| g' d) m
  | [], m, h => rfl
  | d :: l, m, h => by
    simp only [List.foldl_cons]
    rw [h d (by simp), fold_congr g g' l _ (fun e he => h e (by simp [he]))]

theorem depsBack_ok : ∀ {r : List Oper} {i : Nat}, depsBack r i = true → ∀ (k : Nat) (o : Oper), r[k]? = some o → ∀ d ∈ depsOf o, d < i + k
  | [], i, h, k, o, hk, d, hd => by simp at hk
  | x :: r, i, h, k, o, hk, d, hd => by
    simp only [depsBack, Bool.and_eq_true, List.all_eq_true] at h
    cases k with
    | zero => simp at hk; subst hk; simpa using h.1 d hd
    | succ k => have := depsBack_ok h.2 k o (by simpa using hk) d hd; omega

theorem ancs_at : ∀ (r : List Oper) (acc : List Nat) (k : Nat) (o : Oper), r[k]? = some o → depsBack r acc.length = true →
    (ancs r acc).getD (acc.length + k) 0 = (depsOf o).foldl (fun m d => m ||| 2 ^ d ||| (ancs r acc).getD d 0) 0
  | [], acc, k, o, h, _ => by simp at h
  | x :: r, acc, k, o, h, hb => by
    have hb' := hb
    simp only [depsBack, Bool.and_eq_true, List.all_eq_true] at hb
    cases k with
    | zero =>
      simp at h
      subst h
      rw [ancs, ancs_pre _ _ _ (by simp)]
      simp only [Nat.add_zero, List.getD_eq_getElem?_getD, List.getElem?_append_right (Nat.le_refl _), Nat.sub_self, List.getElem?_cons_zero, Option.getD_some]
      refine fold_congr _ _ _ _ fun d hd => ?_
      have hda : d < acc.length := by simpa using hb.1 d hd
      have := ancs_pre r (acc ++ [(depsOf x).foldl (fun m d => m ||| 2 ^ d ||| acc.getD d 0) 0]) d (by simp; omega)
      simp only [List.getD_eq_getElem?_getD] at this
      rw [this, List.getElem?_append_left hda]
    | succ k =>
      have := ancs_at r (acc ++ [(depsOf x).foldl (fun m d => m ||| 2 ^ d ||| acc.getD d 0) 0]) k o (by simpa using h) (by simpa using hb.2)
      rw [ancs]
      simp only [List.length_append, List.length_cons, List.length_nil] at this
      rw [show acc.length + (k + 1) = acc.length + (0 + 1) + k by omega]
      exact this

section
variable {ops : List Oper}

def Lst (listed : Array Bool) (i : Nat) : Bool := listed.getD i false

def Closed (ops : List Oper) (listed : Array Bool) : Prop := ∀ i o, ops[i]? = some o → Lst listed i = true → ∀ d ∈ depsOf o, Lst listed d = true

theorem anc_lt (hb : depsBack ops 0 = true) : ∀ (i : Nat) (j : Nat), i < ops.length → ((ancs ops []).getD i 0).testBit j = true → j < i := by
  intro i
  induction i using Nat.strongRecOn with
  | _ i ih =>
    intro j hi hj
    have ho : ops[i]? = some ops[i] := List.getElem?_eq_getElem hi
    have h1 := ancs_at ops [] i _ ho (by simpa using hb)
    simp only [List.length_nil, Nat.zero_add] at h1
    rw [h1] at hj
    rcases fold_bits _ _ _ _ hj with h | ⟨d, hd, h⟩
    · simp at h
    · have hdl := depsBack_ok hb i _ ho d hd
      rcases h with rfl | h
      · omega
      · have := ih d (by omega) j (by omega) h; omega

theorem anc_listed (hb : depsBack ops 0 = true) {listed : Array Bool} (hcl : Closed ops listed) : ∀ (i : Nat) (o : Oper), ops[i]? = some o → (∀ d ∈ depsOf o, Lst listed d = true) →
    ∀ j, ((ancs ops []).getD i 0).testBit j = true → Lst listed j = true := by
  intro i
  induction i using Nat.strongRecOn with
  | _ i ih =>
    intro o ho hdeps j hj
    have h1 := ancs_at ops [] i _ ho (by simpa using hb)
    simp only [List.length_nil, Nat.zero_add] at h1
    rw [h1] at hj
    rcases fold_bits _ _ _ _ hj with h | ⟨d, hd, h⟩
    · simp at h
    · have hdl := depsBack_ok hb i _ ho d hd
      have hil := (List.getElem?_eq_some_iff.1 ho).1
      rcases h with rfl | h
      · exact hdeps j hd
      · have hod : ops[d]? = some ops[d] := List.getElem?_eq_getElem (by omega)
        exact ih d (by omega) _ hod (hcl d _ hod (hdeps d hd)) j h

theorem orderOk_ok {cs : List COper} {an ord : List Nat} (h : orderOk cs an ord = true) : ord.length = cs.length ∧ nodupB ord = true ∧ (∀ i ∈ ord, i < cs.length) ∧ (∀ i, i < cs.length → i ∈ ord) ∧ orderOk.pairs cs an ord = true := by
  simp only [orderOk, Bool.and_eq_true, List.all_eq_true, decide_eq_true_eq] at h
  obtain ⟨⟨⟨⟨h1, h2⟩, h3⟩, h4⟩, h5⟩ := h
  exact ⟨h1, h2, h3, fun i hi => by simpa using h4 i (List.mem_range.2 hi), h5⟩

def ccOf (cs : List COper) (ord : List Nat) : List COper := ord.filterMap (cs[·]?)

theorem ccOf_get {cs : List COper} : ∀ {ord : List Nat}, (∀ i ∈ ord, i < cs.length) → ∀ p : Nat, (ccOf cs ord)[p]? = (ord[p]?).bind (cs[·]?)
  | [], _, p => by simp [ccOf]
  | x :: ord, h, p => by
    have hx : cs[x]? = some (cs[x]'(h x (by simp))) := List.getElem?_eq_getElem (h x (by simp))
    have ih := ccOf_get (cs := cs) (ord := ord) (fun i hi => h i (by simp [hi]))
    unfold ccOf at ih ⊢
    rw [List.filterMap_cons_some hx]
    cases p with
    | zero => simp [hx]
    | succ p => simp only [List.getElem?_cons_succ]; exact ih p

theorem ccOf_len {cs : List COper} : ∀ {ord : List Nat}, (∀ i ∈ ord, i < cs.length) → (ccOf cs ord).length = ord.length
  | [], _ => rfl
  | x :: ord, h => by
    have hx : cs[x]? = some (cs[x]'(h x (by simp))) := List.getElem?_eq_getElem (h x (by simp))
    have ih := ccOf_len (cs := cs) (ord := ord) (fun i hi => h i (by simp [hi]))
    unfold ccOf at ih ⊢
    rw [List.filterMap_cons_some hx]
    simp [ih]

theorem ord_drawn {cs : List COper} {ord : List Nat} (hb : depsBack ops 0 = true) (hl : cs.length = ops.length) (h : orderOk cs (ancs ops []) ord = true) : IOrd cs (ccOf cs ord) ord := by
  obtain ⟨h1, h2, h3, h4, h5⟩ := orderOk_ok h
  refine ⟨ccOf_get h3, ccOf_len h3, fun p i hi => h3 i (List.mem_of_getElem? hi), nodupB_ok h2, fun i hi => List.mem_iff_getElem?.1 (h4 i hi), fun p q i j c c' hi hj hc hc' hpq hcl => ?_⟩
  obtain ⟨a, b, ha, hb', k1, k2⟩ := pairs_ok h5 p q i j hpq hi hj
  rw [hc] at ha; injection ha with ha; subst ha
  rw [hc'] at hb'; injection hb' with hb'; subst hb'
  exact anc_lt hb j i (by rw [← hl]; exact h3 j (List.mem_of_getElem? hj)) (k1 hcl)

/-- Which places of the interpreter's order are done. -/
def doneS (ord : List Nat) (listed : Array Bool) : Nat → Bool := fun q => (ord[q]?).any fun i => Lst listed i

def ckOf (cs : List COper) (an ord : List Nat) (p : Nat) : Nat := chkOf cs an (ord.take p) (ord.getD p 0)

theorem layOut_eq {cs : List COper} {an : List Nat} : ∀ (ord ahead : List Nat), (∀ i ∈ ord, i < cs.length) →
    layOut cs an ahead ord = (ccOf cs ord).mapIdx fun p c => toIOper c (chkOf cs an (ahead ++ ord.take p) (ord.getD p 0))
  | [], ahead, _ => rfl
  | x :: ord, ahead, h => by
    have hx : cs[x]? = some (cs[x]'(h x (by simp))) := List.getElem?_eq_getElem (h x (by simp))
    have ih := layOut_eq (cs := cs) (an := an) ord (ahead ++ [x]) (fun i hi => h i (by simp [hi]))
    unfold ccOf at ih ⊢
    rw [List.filterMap_cons_some hx, List.mapIdx_cons, layOut, hx]
    simp only [ih]
    congr 1
    · simp [toIOper]
    · refine List.mapIdx_eq_mapIdx_iff.2 fun i hi => ?_
      simp

theorem rdy_drawn {cs : List COper} {ord : List Nat} (hb : depsBack ops 0 = true) (hops : cs.map COper.o = ops) (h : orderOk cs (ancs ops []) ord = true) {listed : Array Bool} (hcl : Closed ops listed)
    {p i : Nat} {c : COper} (hp : ord[p]? = some i) (hc : cs[i]? = some c) (hun : Lst listed i = false) (hdeps : ∀ d ∈ depsOf c.o, Lst listed d = true) :
    Rdy (ccOf cs ord) (ckOf cs (ancs ops []) ord) (doneS ord listed) p c := by
  have hl : cs.length = ops.length := by rw [← hops]; simp
  have o := ord_drawn hb hl h
  obtain ⟨h1, h2, h3, h4, h5⟩ := orderOk_ok h
  have hopi : ∀ {i : Nat} {c : COper}, cs[i]? = some c → ops[i]? = some c.o := fun {i c} hc => by
    have := congrArg (·[i]?) hops
    simp only [List.getElem?_map, hc, Option.map_some] at this
    exact this.symm
  have hanc : ∀ j, ((ancs ops []).getD i 0).testBit j = true → Lst listed j = true := anc_listed hb hcl i _ (hopi hc) hdeps
  have hup : ∀ {q j c'}, ord[q]? = some j → cs[j]? = some c' → ((ancs ops []).getD j 0).testBit i = true → doneS ord listed q = false := fun {q j c'} hq hc' ht => by
    simp only [doneS, hq, Option.any_some]
    cases hj : Lst listed j with
    | false => rfl
    | true =>
      have := anc_listed hb hcl j _ (hopi hc') (hcl j _ (hopi hc') hj) i ht
      rw [hun] at this; cases this
  refine ⟨fun q c' hq hc' hk => ?_, fun q c' hq hc' hk => ?_, fun he q c' hq hc' hk => ?_, fun he q c' hq hc' hk => ?_, fun hr => ?_⟩
  · obtain ⟨j, hj1, hj2⟩ := o.at hc'
    obtain ⟨a, b, ha, hb', k1, k2⟩ := pairs_ok h5 q p j i hq hj1 hp
    rw [hj2] at ha; injection ha with ha; subst ha
    rw [hc] at hb'; injection hb' with hb'; subst hb'
    simp only [doneS, hj1, Option.any_some]
    exact hanc j (k1 hk)
  · obtain ⟨j, hj1, hj2⟩ := o.at hc'
    obtain ⟨a, b, ha, hb', k1, k2⟩ := pairs_ok h5 p q i j hq hp hj1
    rw [hc] at ha; injection ha with ha; subst ha
    rw [hj2] at hb'; injection hb' with hb'; subst hb'
    exact hup hj1 hj2 (k1 hk)
  · obtain ⟨j, hj1, hj2⟩ := o.at hc'
    obtain ⟨a, b, ha, hb', k1, k2⟩ := pairs_ok h5 q p j i hq hj1 hp
    rw [hj2] at ha; injection ha with ha; subst ha
    rw [hc] at hb'; injection hb' with hb'; subst hb'
    simp only [doneS, hj1, Option.any_some]
    exact hanc j (k2 ⟨he, hk⟩)
  · obtain ⟨j, hj1, hj2⟩ := o.at hc'
    obtain ⟨a, b, ha, hb', k1, k2⟩ := pairs_ok h5 p q i j hq hp hj1
    rw [hc] at ha; injection ha with ha; subst ha
    rw [hj2] at hb'; injection hb' with hb'; subst hb'
    exact hup hj1 hj2 (k2 ⟨hk, he⟩)
  · have hgd : ord.getD p 0 = i := by simp [List.getD_eq_getElem?_getD, hp]
    simp only [ckOf, chkOf, hgd, hc, hr, if_true]
    have hpl : p < ord.length := (List.getElem?_eq_some_iff.1 hp).1
    have key : ∀ n, n ≤ p → ((List.range n).filter fun q => !doneS ord listed q && ((ccOf cs ord)[q]?).any fun c' => isEff c'.io).length ≤
        ((ord.take n).filter fun q => ((cs[q]?).any fun a => isEff a.io) && !((ancs ops []).getD i 0).testBit q).length := by
      intro n
      induction n with
      | zero => intro _; simp
      | succ n ih =>
        intro hn
        have ih := ih (by omega)
        have hon : ord[n]? = some ord[n] := List.getElem?_eq_getElem (by omega)
        rw [List.range_succ, List.filter_append, List.length_append, List.take_add_one, List.filter_append, List.length_append, hon]
        have : (List.filter (fun q => !doneS ord listed q && ((ccOf cs ord)[q]?).any fun c' => isEff c'.io) [n]).length ≤
            (List.filter (fun q => ((cs[q]?).any fun a => isEff a.io) && !((ancs ops []).getD i 0).testBit q) (some ord[n]).toList).length := by
          simp only [Option.toList_some, List.filter_cons, List.filter_nil]
          split
          · rename_i hz
            simp only [Bool.and_eq_true, Bool.not_eq_true', doneS, hon, Option.any_some, ccOf_get h3, Option.bind_some] at hz
            rw [if_pos]
            · simp
            · simp only [Bool.and_eq_true, Bool.not_eq_true']
              refine ⟨hz.2, ?_⟩
              cases ht : ((ancs ops []).getD i 0).testBit ord[n] with
              | false => rfl
              | true => have := hanc _ ht; rw [hz.1] at this; cases this
          · simp
        omega
    exact key p (Nat.le_refl _)

end
end Go.Ir
