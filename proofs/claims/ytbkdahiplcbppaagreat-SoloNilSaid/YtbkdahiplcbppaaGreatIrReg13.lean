/- A region, whole. -/
import Derived.Test.YtbkdahiplcbppaaGreatIrReg12
set_option linter.unusedVariables false
set_option linter.unusedSimpArgs false
namespace Go.Ir

theorem count_dec {Z Z' : Nat → Bool} {i : Nat} (hZ : Z i = true) (hZ' : Z' i = false) (hoth : ∀ j, j ≠ i → Z' j = Z j) : ∀ n, ((List.range n).filter Z').length + (if i < n then 1 else 0) = ((List.range n).filter Z).length
  | 0 => by simp
  | n + 1 => by
    have ih := count_dec hZ hZ' hoth n
    rw [List.range_succ, List.filter_append, List.filter_append, List.length_append, List.length_append]
    by_cases hi : i = n
    · subst hi
      simp [List.filter_cons, hZ, hZ'] at ih ⊢
      omega
    · simp only [List.filter_cons, List.filter_nil, hoth n (Ne.symm hi)]
      split at ih <;> split <;> (try split) <;> simp <;> omega

theorem count_zero {Z : Nat → Bool} {n : Nat} (h : ((List.range n).filter Z).length = 0) (i : Nat) (hi : i < n) : Z i = false := by
  have : (List.range n).filter Z = [] := List.length_eq_zero_iff.1 h
  rw [List.filter_eq_nil_iff] at this
  simpa using this i (List.mem_range.2 hi)

theorem lst_set {listed : Array Bool} {i j : Nat} (hi : i < listed.size) : Lst (listed.setIfInBounds i true) j = (Lst listed j || j == i) := by
  unfold Lst
  by_cases h : i = j
  · subst h; simp [hi]
  · rw [getD_set_ne false h]
    have : (j == i) = false := by simpa using fun e => h e.symm
    simp [this]

section
variable {call : CallF} {lo : Nat} {f0 : Fr} {h0 : Heap}
variable {P : Program} {B0 : Nat} {w0 : World} {LB : List Nat} {nt : Nat} {ops : List Oper} {Ef : Emb} {wf : World} {D : List Deferred} {E : Emb} {bx : Nat → Nat} {b : Nat} {a : Act} {w : World}

theorem ready_closed {opsA : Array Oper} (hA : opsA.toList = ops) {listed : Array Bool} (hsz : listed.size = ops.length) {j : Nat} :
    j ∈ Region.ready .any opsA listed ↔ Lst listed j = false ∧ ∃ o, ops[j]? = some o ∧ ∀ d ∈ depsOf o, Lst listed d = true := by
  rw [mem_ready]
  have hops : opsA[j]? = ops[j]? := by rw [← hA]; simp
  rw [hops]
  constructor
  · rintro ⟨h0, o, ho, hall⟩
    have hj := (List.getElem?_eq_some_iff.1 ho).1
    refine ⟨?_, o, ho, fun d hd => ?_⟩
    · unfold Lst
      rw [Array.getD_eq_getD_getElem?] at h0 ⊢
      rw [Array.getElem?_eq_getElem (by omega)] at h0 ⊢
      exact h0
    · simp only [depsOf, List.mem_map, List.mem_filter] at hd
      obtain ⟨e, ⟨he, hb⟩, rfl⟩ := hd
      exact hall e (by simpa using he) hb
  · rintro ⟨h0, o, ho, hall⟩
    have hj := (List.getElem?_eq_some_iff.1 ho).1
    refine ⟨?_, o, ho, fun e he hb => hall _ (by simp only [depsOf, List.mem_map, List.mem_filter]; exact ⟨e, ⟨by simpa using he, hb⟩, rfl⟩)⟩
    unfold Lst at h0
    rw [Array.getD_eq_getD_getElem?] at h0 ⊢
    rw [Array.getElem?_eq_getElem (by omega)] at h0 ⊢
    exact h0

theorem drawn_wp {cs : List COper} {ord : List Nat} (hb : depsBack ops 0 = true) (hops : cs.map COper.o = ops) (hoo : orderOk cs (ancs ops []) ord = true)
    {T : Tr call lo (ccOf cs ord) (ckOf cs (ancs ops []) ord) f0 h0} (hm : CallMono call) (hB0 : B0 ≤ w0.heap.size) (hcall : CallOk P B0 w0 call) {opsA : Array Oper} (hA : opsA.toList = ops)
    (wf' : Wf P LB nt ops (ccOf cs ord)) {Q : Exit → Act → World → Prop}
    (hQ : ∀ E' bx' a' w', Fram B0 w0 LB nt Ef wf D E' bx' (T.F (ccOf cs ord).length) (T.H (ccOf cs ord).length) a' w' → Q .normal a' w') :
    ∀ (fuel : Nat) (listed : Array Bool), listed.size = ops.length → Closed ops listed → ((List.range ops.length).filter fun i => !Lst listed i).length ≤ fuel →
      ∀ {E bx b a w}, Inv B0 w0 LB nt Ef wf D T (doneS ord listed) E bx b a w → wpAny P .any opsA Q fuel listed a w := by
  have hl : cs.length = ops.length := by rw [← hops]; simp
  have o := ord_drawn hb hl hoo
  obtain ⟨h1, h2, h3, h4, h5⟩ := orderOk_ok hoo
  have hopi : ∀ {i : Nat} {c : COper}, cs[i]? = some c → ops[i]? = some c.o := fun {i c} hc => by
    have := congrArg (·[i]?) hops
    simp only [List.getElem?_map, hc, Option.map_some] at this
    exact this.symm
  -- where nothing is ready all is done
  have hdone : ∀ {listed : Array Bool}, listed.size = ops.length → Region.ready .any opsA listed = [] → ∀ i, i < ops.length → Lst listed i = true := fun {listed} hsz hr i => by
    induction i using Nat.strongRecOn with
    | _ i ih =>
      intro hi
      cases hli : Lst listed i with
      | true => rfl
      | false =>
        have ho : ops[i]? = some ops[i] := List.getElem?_eq_getElem hi
        have : i ∈ Region.ready .any opsA listed := (ready_closed hA hsz).2 ⟨hli, _, ho, fun d hd => by
          have := depsBack_ok hb i _ ho d hd
          exact ih d (by omega) (by omega)⟩
        rw [hr] at this; cases this
  have hfin : ∀ {listed : Array Bool} {E bx b a w}, (∀ i, i < ops.length → Lst listed i = true) → Inv B0 w0 LB nt Ef wf D T (doneS ord listed) E bx b a w → Q .normal a w := fun {listed E bx b a w} hall inv =>
    hQ _ _ _ _ (inv.finish hm fun p hp => by
      have hpl : p < ord.length := by rw [← o.len]; exact hp
      have hop : ord[p]? = some ord[p] := List.getElem?_eq_getElem hpl
      simp only [doneS, hop, Option.any_some]
      exact hall _ (by rw [← hl]; exact h3 _ (List.getElem_mem hpl)))
  intro fuel
  induction fuel with
  | zero =>
    intro listed hsz hcl hcnt E bx b a w inv
    have hall : ∀ i, i < ops.length → Lst listed i = true := fun i hi => by
      have := count_zero (by omega : ((List.range ops.length).filter fun i => !Lst listed i).length = 0) i hi
      simpa using this
    refine ⟨?_, hfin hall inv⟩
    rw [List.eq_nil_iff_forall_not_mem]
    intro j hj
    obtain ⟨g1, o', g2, g3⟩ := (ready_closed hA hsz).1 hj
    have := hall j (List.getElem?_eq_some_iff.1 g2).1
    rw [g1] at this; cases this
  | succ fuel ih =>
    intro listed hsz hcl hcnt E bx b a w inv
    refine ⟨fun hr => hfin (hdone hsz hr) inv, fun i hi => ?_⟩
    obtain ⟨hun, oi, hoi, hdeps⟩ := (ready_closed hA hsz).1 hi
    have hil := (List.getElem?_eq_some_iff.1 hoi).1
    have hci : cs[i]? = some (cs[i]'(by omega)) := List.getElem?_eq_getElem (by omega)
    have hoi' := hopi hci
    rw [hoi] at hoi'
    injection hoi' with hoi'
    subst hoi'
    obtain ⟨p, hp, hcp⟩ := o.pos hci
    have hr := rdy_drawn hb hops hoo hcl hp hci hun hdeps
    have hSp : doneS ord listed p = false := by simp [doneS, hp, hun]
    have hset : doneS ord (listed.setIfInBounds i true) = addS (doneS ord listed) p := by
      funext q
      simp only [doneS, addS]
      cases hq : ord[q]? with
      | none =>
        have : (q == p) = false := by
          cases h : q == p with
          | false => rfl
          | true => have : q = p := by simpa using h
                    subst this; rw [hp] at hq; cases hq
        simp [this]
      | some j =>
        simp only [Option.any_some]
        rw [lst_set (by omega)]
        congr 1
        by_cases hqp : q = p
        · subst hqp; rw [hp] at hq; injection hq with hq; simp [hq]
        · have : j ≠ i := fun e => by subst e; exact hqp (o.nodup _ _ _ hq hp)
          have h1 : (j == i) = false := by simpa using this
          have h2 : (q == p) = false := by simpa using hqp
          rw [h1, h2]
    refine inv.step hm wf' hcp hSp hr hB0 inv.later.size hcall hA (i := i) (by rw [← hoi, ← hA]; simp) fun E' bx' b' a' w' inv' => ?_
    refine ih (listed.setIfInBounds i true) (by simp [hsz]) (fun j oj hj hlj d hd => ?_) ?_ (E := E') (bx := bx') (b := b') (by rw [hset]; exact inv')
    · rw [lst_set (by omega)] at hlj ⊢
      simp only [Bool.or_eq_true] at hlj ⊢
      rcases hlj with hlj | hlj
      · exact .inl (hcl j oj hj hlj d hd)
      · have : j = i := by simpa using hlj
        subst this
        rw [hoi] at hj
        injection hj with hj
        subst hj
        exact .inl (hdeps d hd)
    · have := count_dec (Z := fun i => !Lst listed i) (Z' := fun j => !Lst (listed.setIfInBounds i true) j) (i := i) (by simp [hun]) (by rw [lst_set (by omega)]; simp)
        (fun j hj => by
          have : (j == i) = false := by simpa using hj
          simp only [lst_set (show i < listed.size by omega), this, Bool.or_false]) ops.length
      rw [if_pos hil] at this
      omega

/-- A region comes to what the interpreter says. -/
theorem region_wp {id : Nat} {opsA : Array Oper} {draw : Bool} {l : List IOper} (hc : cRegion P LB nt opsA.toList draw = some l) (hm : CallMono call) (hB0 : B0 ≤ w0.heap.size) (hcall : CallOk P B0 w0 call)
    (hmix : P.follows .mixedOrders = true) {f1 : Fr} {h1 : Heap} (hv : iops call lo l f0 h0 [] = some (f1, h1)) (fr : Fram B0 w0 LB nt Ef wf D E bx f0 h0 a w) :
    (Code.region id opsA draw).wp P (fun e a' w' => e = .normal ∧ ∃ E' bx', Fram B0 w0 LB nt Ef wf D E' bx' f1 h1 a' w') a w := by
  unfold cRegion at hc
  split at hc <;> try (cases hc; done)
  rename_i cs hcs
  obtain ⟨hla, hc⟩ := ifSomeO hc
  obtain ⟨e1, e2⟩ := mkCs_ok hcs
  cases draw with
  | false =>
    simp only [Bool.false_eq_true, if_false] at hc
    injection hc with hc
    subst hc
    have : cs.map (fun c => ({ dst := c.dst, op := c.io, guard := c.guard, chk := 0 } : IOper)) = cs.mapIdx fun p c => toIOper c ((fun _ => 0) p) := by
      simp [toIOper, List.mapIdx_eq_zipIdx_map, List.map_eq_map_iff]
      refine List.ext_getElem? fun i => ?_
      simp [List.getElem?_zipIdx]
      rcases cs[i]? with _ | c <;> rfl
    rw [this] at hv
    obtain ⟨T, hT1, hT2⟩ := iops_Tr hv
    refine wp_region ?_
    have hsz : opsA.size = cs.length := by
      have := congrArg List.length e1
      simpa using this.symm
    rw [hsz, List.range_eq_range']
    refine plain_wp (T := T) hm hB0 hcall rfl (wf_of hcs hla (ord_plain cs)) e1 (fun E' bx' a' w' fr' => ⟨rfl, E', bx', by rw [← hT1, ← hT2]; exact fr'⟩) cs.length 0 (by omega) (E := E) (bx := bx) (b := 0) ?_
    have : (fun q => decide (q < 0)) = fun _ : Nat => false := by funext q; simp
    rw [this]
    exact fr.start T
  | true =>
    simp only [if_true] at hc
    obtain ⟨hb, hc⟩ := ifSome hc
    simp only [Bool.and_eq_true] at hb
    obtain ⟨hb, hoo⟩ := hb
    subst hc
    generalize hord : orderOf cs (ancs opsA.toList []) = ord at hoo hv
    have hl : cs.length = opsA.toList.length := by rw [← e1]; simp
    obtain ⟨h1, h2, h3, h4, h5⟩ := orderOk_ok hoo
    rw [layOut_eq ord [] h3] at hv
    simp only [List.nil_append] at hv
    obtain ⟨T, hT1, hT2⟩ := iops_Tr (ck := ckOf cs (ancs opsA.toList []) ord) hv
    refine wp_region_any hmix ?_
    have fr' : Fram B0 w0 LB nt Ef wf D E bx f0 h0 a w.drew := ⟨drew_sim fr.sim, fr.slot, fr.box, fr.sep, ⟨fr.later.le, fr.later.new, fr.later.size, fr.later.kept⟩, fr.tmps, fr.defers⟩
    refine drawn_wp (T := T) hb e1 hoo hm hB0 hcall rfl (wf_of hcs hla (ord_drawn hb hl hoo)) (fun E' bx' a' w' fr' => ⟨rfl, E', bx', by rw [← hT1, ← hT2]; exact fr'⟩) opsA.size _ (by simp) ?_ ?_ (E := E) (bx := bx) (b := 0) ?_
    · intro i o ho hl' d hd
      simp [Lst, Array.getD_eq_getD_getElem?, Array.getElem?_replicate] at hl'
      split at hl' <;> simp at hl'
    · refine Nat.le_trans (List.length_filter_le _ _) ?_
      simp
    · have : doneS ord (Array.replicate opsA.size false) = fun _ => false := by
        funext q
        simp only [doneS]
        cases ord[q]? with
        | none => rfl
        | some j =>
          simp [Lst, Array.getD_eq_getD_getElem?, Array.getElem?_replicate]
          split <;> rfl
      rw [this]
      exact fr'.start T

end
end Go.Ir
