/- Regions, fifth part: one operation more, by its kind. -/
import Derived.Test.YtbkdahiplcbppaaGreatIrReg4
set_option linter.unusedVariables false
set_option linter.unusedSimpArgs false
namespace Go.Ir

theorem same1_eq {u v : Value} (h : same1 u v = true) : u = v := by
  have ha : ∀ {a b : Option Addr}, sameA a b = true → a = b := by
    intro a b h
    cases a with
    | none => cases b with
      | none => rfl
      | some b => simp [sameA] at h
    | some a => cases b with
      | none => simp [sameA] at h
      | some b =>
        obtain ⟨a1, a2, a3⟩ := a
        obtain ⟨b1, b2, b3⟩ := b
        simp only [sameA, Bool.and_eq_true, beq_iff_eq] at h
        obtain ⟨⟨h1, h2⟩, h3⟩ := h
        subst h1 h2 h3
        rfl
  unfold same1 at h
  split at h
  · simp at h; subst h; rfl
  · simp only [Bool.and_eq_true, beq_iff_eq, decide_eq_true_eq] at h; obtain ⟨rfl, rfl⟩ := h; rfl
  · rw [ha h]
  · simp only [Bool.and_eq_true, beq_iff_eq] at h; obtain ⟨⟨h1, rfl⟩, rfl⟩ := h; rw [ha h1]
  · simp at h; subst h; rfl
  · rfl
  · simp only [Bool.and_eq_true, beq_iff_eq] at h; obtain ⟨rfl, h1⟩ := h; rw [ha h1]
  · cases h

theorem sameL_eq : ∀ {xs ys : List Value}, sameL xs ys = true → xs = ys
  | [], [], _ => rfl
  | [], _ :: _, h => by simp [sameL] at h
  | _ :: _, [], h => by simp [sameL] at h
  | x :: xs, y :: ys, h => by
    simp only [sameL, Bool.and_eq_true] at h
    rw [same1_eq h.1, sameL_eq h.2]

theorem sameV_eq {u v : Value} (h : sameV u v = true) : u = v := by
  unfold sameV at h
  split at h
  · rename_i xs ys
    have := sameL_eq h
    rw [Array.toList_inj.1 this]
  · rename_i xs ys
    have := sameL_eq h
    rw [Array.toList_inj.1 this]
  · exact same1_eq h

section
variable {call : CallF} {lo : Nat}

theorem asAhead_mem {o : IOp} {f : Fr} {v : Value} : ∀ {hs : List Heap} {h : Heap}, asAhead call lo o f v hs = true → h ∈ hs → ∃ h', iop call lo o f h = some (v, h')
  | g :: hs, h, ha, hm => by
    unfold asAhead at ha
    cases hi : iop call lo o f g with
    | none => rw [hi] at ha; cases ha
    | some r =>
      obtain ⟨u, g'⟩ := r
      rw [hi] at ha
      simp only [Bool.and_eq_true] at ha
      rcases List.mem_cons.1 hm with rfl | hm
      · have := sameV_eq ha.1; subst this; exact ⟨g', hi⟩
      · exact asAhead_mem ha.2 hm

theorem iop_alloc {o : IOp} {f : Fr} {h h' : Heap} {v : Value} (ha : isAlloc o = true) (hv : iop call lo o f h = some (v, h')) : ∃ k, h' = h ++ [k] := by
  cases o <;> simp [isAlloc] at ha <;> simp only [iop] at hv
  case box x =>
    split at hv <;> try (cases hv; done)
    obtain ⟨_, hv⟩ := ifSome hv
    injection hv with _ e; exact ⟨_, e.symm⟩
  case buildSlice esz len zero parts =>
    split at hv <;> try (cases hv; done)
    split at hv <;> try (cases hv; done)
    obtain ⟨_, hv⟩ := ifSome hv
    injection hv with _ e; exact ⟨_, e.symm⟩
  case mkslice esz bytes zero n c =>
    split at hv <;> try (cases hv; done)
    obtain ⟨_, hv⟩ := ifSome hv
    injection hv with _ e; exact ⟨_, e.symm⟩
  case mkmap =>
    injection hv with e; injection e with _ e; exact ⟨_, e.symm⟩

theorem iop_same {o : IOp} {f : Fr} {h h' : Heap} {v : Value} (he : isEff o = false) (ha : isAlloc o = false) (hv : iop call lo o f h = some (v, h')) : h' = h := by
  have fin : ∀ {u : Value} {k : Heap}, (some (u, k) : Option (Value × Heap)) = some (v, h') → k = h → h' = h := fun e l => by
    injection e with e; injection e with _ e; rw [← e, l]
  cases o <;> simp [isAlloc] at ha <;> simp [isEff] at he <;> simp only [iop] at hv
  case lookup z ok m k =>
    split at hv <;> try (cases hv; done)
    obtain ⟨_, hv⟩ := ifSomeO hv
    split at hv <;> try (cases hv; done)
    split at hv <;> try (cases hv; done)
    · exact fin hv rfl
    · exact fin hv rfl
  case nilchkm nm tab x =>
    split at hv <;> try (cases hv; done)
    obtain ⟨_, hv⟩ := ifSomeO hv
    split at hv <;> try (cases hv; done)
    split at hv <;> try (cases hv; done)
    exact fin hv rfl
  case iaddr len esz x i =>
    split at hv <;> try (cases hv; done)
    split at hv <;> try (cases hv; done)
    · obtain ⟨_, hv⟩ := ifSome hv
      injection hv with _ e; exact e.symm
    · obtain ⟨_, hv⟩ := ifSome hv
      injection hv with _ e; exact e.symm
  case index len esz n x i =>
    split at hv <;> try (cases hv; done)
    obtain ⟨_, hv⟩ := ifSomeO hv
    split at hv <;> try (cases hv; done)
    exact fin hv rfl
  case indexS x i =>
    split at hv <;> try (cases hv; done)
    obtain ⟨_, hv⟩ := ifSomeO hv
    split at hv <;> try (cases hv; done)
    exact fin hv rfl
  case len str x =>
    split at hv <;> try (cases hv; done)
    · split at hv <;> try (cases hv; done)
      exact fin hv rfl
    · split at hv <;> try (cases hv; done)
      exact fin hv rfl
  case lstore s b off n x =>
    obtain ⟨_, hv⟩ := ifSomeO hv
    split at hv <;> try (cases hv; done)
    obtain ⟨_, hv⟩ := ifSomeO hv
    obtain ⟨_, hv⟩ := ifSome hv
    injection hv with _ e; exact e.symm
  case laddr s b off =>
    obtain ⟨_, hv⟩ := ifSomeO hv
    split at hv <;> try (cases hv; done)
    exact fin hv rfl
  case lload s b off n =>
    obtain ⟨_, hv⟩ := ifSomeO hv
    split at hv <;> try (cases hv; done)
    split at hv <;> try (cases hv; done)
    exact fin hv rfl
  case cplx x y =>
    split at hv <;> try (cases hv; done)
    obtain ⟨_, hv⟩ := ifSome hv
    injection hv with _ e; exact e.symm
  case maplen m =>
    split at hv <;> try (cases hv; done)
    split at hv <;> try (cases hv; done)
    exact fin hv rfl
  all_goals
    first
      | (split at hv <;> first | (cases hv; done) | (exact fin hv rfl) | (split at hv <;> first | (cases hv; done) | (exact fin hv rfl)))

end

section
variable {call : CallF} {lo : Nat} {cc : List COper} {ck : Nat → Nat} {f0 : Fr} {h0 : Heap}
variable {P : Program} {B0 : Nat} {w0 : World} {LB : List Nat} {nt : Nat} {ops : List Oper} {Ef : Emb} {wf : World} {D : List Deferred} {T : Tr call lo cc ck f0 h0} {S : Nat → Bool} {E : Emb} {bx : Nat → Nat} {b : Nat} {a : Act} {w : World}

theorem Tr.same (T : Tr call lo cc ck f0 h0) {q : Nat} {c : COper} (hc : cc[q]? = some c) (h : T.W q = true → isEff c.io = false ∧ isAlloc c.io = false) : T.H (q + 1) = T.H q := by
  obtain ⟨t1, t2, t3, t4⟩ := T.step q c hc
  cases hW : T.W q with
  | true => exact iop_same (h hW).1 (h hW).2 (t3 hW).1
  | false => exact (t4 hW).2.1

theorem Tr.sameL (T : Tr call lo cc ck f0 h0) {q : Nat} {c : COper} (hc : cc[q]? = some c) (h : T.W q = true → isEff c.io = false ∧ isAlloc c.io = false) : T.L (q + 1) = T.L q := by
  simp [Tr.L, T.same hc h]

theorem getD_lt {xs : Array Value} {t : Nat} {v : Value} (h : xs.getD t undef = v) (hv : v ≠ undef) : xs[t]? = some v := by
  rw [Array.getD_eq_getD_getElem?] at h
  cases hx : xs[t]? with
  | none => rw [hx] at h; exact absurd h.symm hv
  | some u => rw [hx] at h; simp at h; rw [h]

/-- Whether the operation is wanted. -/
theorem Inv.wanted (inv : Inv B0 w0 LB nt Ef wf D T S E bx b a w) (hm : CallMono call) (wf' : Wf P LB nt ops cc) {p : Nat} {c : COper} (hc : cc[p]? = some c) (hS : S p = false) (r : Rdy cc ck S p c)
    {opsA : Array Oper} (hA : opsA.toList = ops) : Region.wanted c.o (yielded opsA a.tmps) = T.W p := by
  obtain ⟨t1, t2, t3, t4⟩ := T.step p c hc
  have hg := wf'.gd p c hc
  unfold guardOf at hg
  unfold Region.wanted
  cases hgo : c.o.guard with
  | none =>
    rw [hgo] at hg
    simp only [Option.some.injEq] at hg
    rw [← hg] at t1
    simp [want] at t1
    simp [← t1]
  | some gw =>
    obtain ⟨j, wt⟩ := gw
    rw [hgo] at hg
    simp only at hg
    split at hg <;> try (cases hg; done)
    rename_i x hx
    split at hg <;> try (cases hg; done)
    rename_i d hd
    simp only [Option.some.injEq] at hg
    have hLB : LB.contains d = false := (wf'.op p c hc).2.2.2.1 d wt hg.symm
    have hxA : opsA[j]? = some x := by rw [← hx, ← hA]; simp
    have hy1 : ∀ b0, a.tmps[d]? = some (.bool b0) → yielded opsA a.tmps j = some b0 := fun b0 h => by
      simp only [yielded, hxA, Option.bind_some, hd, h]
    have hy2 : (∀ b0, a.tmps[d]? ≠ some (.bool b0)) → yielded opsA a.tmps j = none := fun h => by -- by the kit's match
      simp only [yielded, hxA, Option.bind_some, hd]
    rw [← hg] at t1
    simp only [want] at t1
    split at t1 <;> try (cases t1; done)
    · rename_i b0 hb0
      injection t1 with t1
      obtain ⟨n, hn, hnow⟩ := r.read T hm hc hS (reads_guard hg.symm) hb0
      have := inv.slot d _ n hLB hnow
      generalize hce : a.tmps.getD d undef = cv at this
      cases this
      simp only
      rw [hy1 _ (getD_lt hce (by simp [undef])), ← t1]
      cases b0 <;> cases wt <;> rfl
    · rename_i vs hb0
      obtain ⟨hz, t1⟩ := ifSome t1
      obtain ⟨n, hn, hnow⟩ := r.read T hm hc hS (reads_guard hg.symm) hb0
      have := inv.slot d _ n hLB hnow
      generalize hce : a.tmps.getD d undef = cv at this
      cases this with
      | tuple _ c' h =>
        simp only
        rw [← t1, hy2 fun b0 hb => by rw [Array.getD_eq_getD_getElem?, hb] at hce; simp at hce]
        rfl

/-- A value alone. -/
theorem Inv.put (inv : Inv B0 w0 LB nt Ef wf D T S E bx b a w) (hm : CallMono call) (wf' : Wf P LB nt ops cc) {p : Nat} {c : COper} (hc : cc[p]? = some c) (hS : S p = false) (r : Rdy cc ck S p c)
    (hne : T.W p = true → isEff c.io = false ∧ isAlloc c.io = false) {cv : Value}
    (hslot : ∀ t, c.dst = some t → LB.contains t = false → VR (res E (T.L (p + 1))) (T.V p) cv) (hbox : ∀ t, c.dst = some t → LB.contains t = true → T.V p = noneV)
    (hder : T.W p = true → ∀ sl d off s, c.io = .laddr sl d off → c.o.dst = some s → cv = .pointer (some ⟨bx d, off, none⟩)) :
    Inv B0 w0 LB nt Ef wf D T (addS S p) E bx b (a.put c.o.dst cv) w := by
  have hp : p < cc.length := (List.getElem?_eq_some_iff.1 hc).1
  obtain ⟨o1, o2, o3, o4, o5, o6, o7⟩ := wf'.op p c hc
  have hdd : ∀ t, c.o.dst = some t → c.dst = some t := fun t ht => by
    unfold COper.dst
    split
    · rename_i s b' off n x hio
      rw [(o6 s b' off n x hio).2] at ht; cases ht
    · exact ht
  have hlt : ∀ e, c.o.dst = some e → e < a.tmps.size := fun e he => by rw [inv.tmps]; exact o2 e he
  have hdst : ∀ t, c.dst = some t → LB.contains t = false → c.o.dst = some t := fun t ht hl => by
    unfold COper.dst at ht
    split at ht
    · rename_i s b' off n x hio
      injection ht with ht; subst ht
      rw [(o6 _ _ _ _ _ hio).1] at hl; cases hl
    · exact ht
  refine ⟨inv.bn, ?_, fun q c' h1 h2 h3 h4 => ?_, inv.sim, fun q c' h1 h2 h3 h4 h5 => ?_, fun i hi hE => ?_, inv.fresh, fun t v n hl hnow => ?_, fun t v n hl hnow hnv => ?_,
    fun t t' r1 r2 hl hl' hne' hn hn' hv hv' => ?_, fun q c' sl d off s h1 h2 h3 h4 h5 h6 => ?_, inv.later, ?_, ?_⟩
  · rcases inv.last with h | ⟨c', h1, h2, h3⟩
    · exact .inl h
    · exact .inr ⟨c', h1, by simp [addS, h2], h3⟩
  · by_cases hq : q = p
    · subst hq; rw [hc] at h2; injection h2 with h2; subst h2; exact (hne h4).1
    · rw [addS_other hq] at h3; exact inv.noeff q c' h1 h2 h3 h4
  · by_cases hq : q = p
    · subst hq; rw [hc] at h2; injection h2 with h2; subst h2; rw [(hne h4).2] at h5; cases h5
    · rw [addS_other hq] at h3; exact inv.pend q c' h1 h2 h3 h4 h5
  · obtain ⟨q, c', h1, h2, h3, h4⟩ := inv.only i hi hE
    exact ⟨q, c', h1, h2, by simp [addS, h3], h4⟩
  · rw [r.now T hc hS] at hnow
    rw [put_get hlt]
    by_cases hd : c.dst = some t
    · rw [if_pos hd] at hnow
      rw [if_pos (hdst t hd hl)]
      injection hnow with hnow; injection hnow with e1 e2; subst e1 e2
      exact hslot t hd hl
    · rw [if_neg hd] at hnow
      rw [if_neg (fun e => hd (hdd t e))]
      exact inv.slot t v n hl hnow
  · rw [r.now T hc hS] at hnow
    by_cases hd : c.dst = some t
    · rw [if_pos hd] at hnow
      injection hnow with hnow; injection hnow with e1 e2; subst e1 e2
      exact absurd (hbox t hd hl) hnv
    · rw [if_neg hd] at hnow
      rw [put_get hlt, if_neg (fun e => hd (hdd t e))]
      exact inv.box t v n hl hnow hnv
  · rw [r.now T hc hS] at hn hn'
    by_cases hd : c.dst = some t
    · rw [if_pos hd] at hn
      injection hn with hn; subst hn
      exact absurd (hbox t hd hl) hv
    · by_cases hd' : c.dst = some t'
      · rw [if_pos hd'] at hn'
        injection hn' with hn'; subst hn'
        exact absurd (hbox t' hd' hl') hv'
      · rw [if_neg hd] at hn
        rw [if_neg hd'] at hn'
        exact inv.sep t t' r1 r2 hl hl' hne' hn hn' hv hv'
  · by_cases hq : q = p
    · subst hq; rw [hc] at h1; injection h1 with h1; subst h1
      rw [put_get hlt, if_pos h5]
      exact hder h3 sl d off s h4 h5
    · rw [addS_other hq] at h2
      have : ¬ c.o.dst = some s := fun e => hq (h6 p c hc e).symm
      rw [put_get hlt, if_neg this]
      exact inv.der q c' sl d off s h1 h2 h3 h4 h5 h6
  · rw [put_size]; exact inv.tmps
  · rw [put_defers]; exact inv.defers

end
end Go.Ir
