/- Regions, seventh part: variables of the frame. -/
import Derived.Test.YtbkdahiplcbppaaGreatIrReg6
set_option linter.unusedVariables false
set_option linter.unusedSimpArgs false
namespace Go.Ir

section
variable {call : CallF} {lo : Nat} {cc : List COper} {ck : Nat → Nat} {f0 : Fr} {h0 : Heap}
variable {P : Program} {B0 : Nat} {w0 : World} {LB : List Nat} {nt : Nat} {ops : List Oper} {Ef : Emb} {wf : World} {D : List Deferred} {T : Tr call lo cc ck f0 h0} {S : Nat → Bool} {E : Emb} {bx : Nat → Nat} {b : Nat} {a : Act} {w : World}

theorem anyV_ne : anyV ≠ noneV := by simp [anyV, noneV]

theorem lchk_some {f : Fr} {s : Nat} (h : lchk f (some s) = true) : fget f s = some anyV := by
  simp only [lchk] at h
  split at h
  · rename_i n hn
    have : n = 0 := by simpa using h
    subst this
    exact hn
  · cases h

/-- The address by which an operation meets a variable of the frame. -/
theorem Inv.addr (inv : Inv B0 w0 LB nt Ef wf D T S E bx b a w) (hm : CallMono call) (wf' : Wf P LB nt ops cc) {p : Nat} {c : COper} (hc : cc[p]? = some c) (hS : S p = false) (r : Rdy cc ck S p c)
    {x : Operand} {d off : Nat} (hx : x ∈ c.o.op.operands.toList) (hl : laX P LB ops x = some (d, off))
    (hio : (∃ n, c.io = .lload (laS LB x) d off n) ∨ (∃ n y, c.io = .lstore (laS LB x) d off n y) ∨ (∃ o2, c.io = .laddr (laS LB x) d (off + o2)))
    (hk : lchk (T.F p) (laS LB x) = true) {cs : Array Value} (hf : fget (T.F p) d = some (.agg cs)) :
    ∃ n, n ≤ T.L p ∧ T.now S d cc.length = some (.agg cs, n) ∧ LB.contains d = true ∧ a.eval x = .pointer (some ⟨bx d, off, none⟩) := by
  obtain ⟨o1, o2, o3, o4, o5, o6, o7⟩ := wf'.op p c hc
  have hLd : LB.contains d = true := by
    rcases hio with ⟨n, h⟩ | ⟨n, y, h⟩ | ⟨o2, h⟩
    · exact o5 _ _ _ _ h
    · exact (o6 _ _ _ _ _ h).1
    · exact o7 _ _ _ h
  have hres : d ∈ c.reads := reads_lres (by
    rcases hio with ⟨n, h⟩ | ⟨n, y, h⟩ | ⟨o2, h⟩ <;> simp [h, lres])
  obtain ⟨n, hn, hnow⟩ := r.read T hm hc hS hres hf
  refine ⟨n, hn, hnow, hLd, ?_⟩
  cases x with
  | tmp t =>
    simp only [laX] at hl
    simp only [laS] at hio hk
    by_cases ht : LB.contains t = true
    · unfold la at hl
      simp only [ht, if_true, Option.some.injEq, Prod.mk.injEq] at hl
      obtain ⟨rfl, rfl⟩ := hl
      obtain ⟨⟨cs', C, ty, h1, h2, h3⟩, _⟩ := inv.box t _ n ht hnow (by simp [noneV])
      exact h2
    · simp only [ht] at hio hk
      simp only [Bool.false_eq_true, if_false] at hio hk
      have hk' := lchk_some hk
      have hloc : (∃ off n, c.io = .lload (some t) d off n) ∨ (∃ off n x, c.io = .lstore (some t) d off n x) ∨ (∃ off, c.io = .laddr (some t) d off) := by
        rcases hio with ⟨n, h⟩ | ⟨n, y, h⟩ | ⟨o2, h⟩
        · exact .inl ⟨_, _, h⟩
        · exact .inr (.inl ⟨_, _, _, h⟩)
        · exact .inr (.inr ⟨_, h⟩)
      obtain ⟨q, cr, sl, off', g1, g2, g3, g4, g5, g6⟩ := wf'.loc p c t d hc hloc
      have hoff : off' = off := by
        rw [g6] at hl
        injection hl with hl
        injection hl
      subst hoff
      have htr : t ∈ c.reads := reads_opnd hx
      have hcrd : cr.dst = some t := by simp [COper.dst, g3, g4]
      have hSq : S q = true := r.before q cr g1 g2 (clash_w hcrd (.inl htr))
      have hql : q < cc.length := (List.getElem?_eq_some_iff.1 g2).1
      -- the slot holds what q told
      have honly : ∀ q', q' < cc.length → dstAt cc q' = some t → q' = q := fun q' hq' hd => by
        obtain ⟨c', hc', hd'⟩ := dstAt_some hd
        refine g5 q' c' hc' ?_
        unfold COper.dst at hd'
        split at hd'
        · rename_i s' b' off2 n2 x2 hio2
          injection hd' with hd'
          subst hd'
          have := ((wf'.op q' c' hc').2.2.2.2.2.1 _ _ _ _ _ hio2).1
          exact absurd this ht
        · exact hd'
      obtain ⟨m, hm1, hm2⟩ := r.read T hm hc hS htr hk'
      have hnowq : T.now S t cc.length = some (T.V q, T.L (q + 1)) := by
        rw [T.now_skip (k := q + 1) cc.length (by omega) (fun q' h1 h2 hd => by have := honly q' h2 hd; omega)]
        simp [Tr.now, hSq, dstAt_of g2, hcrd]
      rw [hnowq] at hm2
      injection hm2 with hm2
      injection hm2 with hV _
      have hWq : T.W q = true := by
        cases hW : T.W q with
        | true => rfl
        | false =>
          have := ((T.step q cr g2).2.2.2 hW).1
          rw [hV] at this
          exact absurd this anyV_ne
      exact inv.der q cr sl d off' t g2 hSq hWq g3 g4 g5
  | const v => simp [laX] at hl
  | global g => simp [laX] at hl
  | func g => simp [laX] at hl

/-- A variable of the frame is written anew, or laid. -/
theorem Inv.own (inv : Inv B0 w0 LB nt Ef wf D T S E bx b a w) (hm : CallMono call) (wf' : Wf P LB nt ops cc) {p : Nat} {c : COper} (hc : cc[p]? = some c) (hS : S p = false) (r : Rdy cc ck S p c)
    (hne : T.W p = true → isEff c.io = false ∧ isAlloc c.io = false ∧ ∀ sl d off, c.io ≠ .laddr sl d off) {t : Nat} (ht : c.dst = some t) (hl : LB.contains t = true) {cv : Value} {w' : World} {bt : Nat}
    (hbox : Boxed B0 (res E (T.L (p + 1))) w' (T.V p) ((a.put c.o.dst cv).tmps.getD t undef) bt) (hwf : wf.heap.size ≤ bt) (hout : ∀ j y, E j = some (some y) → y.b ≠ bt)
    (hoth : ∀ t' r', t' ≠ t → LB.contains t' = true → T.now S t' cc.length = some r' → r'.1 ≠ noneV → bx t' ≠ bt)
    (hheap : ∀ b', b' ≠ bt → b' < w.heap.size → w'.heap[b']? = w.heap[b']?) (hsim : Sim B0 w0 (res E (T.L b)) (T.H b) w') (hlater : Later Ef wf E w')
    (hder : bt = bx t ∨ ∀ q c' sl off, cc[q]? = some c' → S q = true → c'.io = .laddr sl t off → False) :
    Inv B0 w0 LB nt Ef wf D T (addS S p) E (fun s => if s = t then bt else bx s) b (a.put c.o.dst cv) w' := by
  have hp : p < cc.length := (List.getElem?_eq_some_iff.1 hc).1
  obtain ⟨o1, o2, o3, o4, o5, o6, o7⟩ := wf'.op p c hc
  have hdd : ∀ s, c.o.dst = some s → c.dst = some s := fun t ht => by
    unfold COper.dst
    split
    · rename_i s b' off n x hio
      rw [(o6 s b' off n x hio).2] at ht; cases ht
    · exact ht
  have hlt : ∀ e, c.o.dst = some e → e < a.tmps.size := fun e he => by rw [inv.tmps]; exact o2 e he
  have hoth' : ∀ s, s ≠ t → (a.put c.o.dst cv).tmps.getD s undef = a.tmps.getD s undef := fun s hs => by
    rw [put_get hlt, if_neg]
    intro e
    have := hdd s e
    rw [ht] at this
    injection this with this
    exact hs this.symm
  have hbn : ∀ q c', b ≤ q → cc[q]? = some c' → S q = true → T.W q = true → isAlloc c'.io = true → ∀ x, E (T.L q) = some (some x) → w'.heap[x.b]? = w.heap[x.b]? := fun q c' h1 h2 h3 h4 h5 x hx =>
    hheap _ (hout _ _ hx) (inv.lt hx)
  refine ⟨inv.bn, ?_, fun q c' h1 h2 h3 h4 => ?_, hsim, fun q c' h1 h2 h3 h4 h5 => ?_, fun i hi hE => ?_, inv.fresh, fun s v n hls hnow => ?_, fun s v n hls hnow hnv => ?_,
    fun s s' r1 r2 hls hls' hne' hn hn' hv hv' => ?_, fun q c' sl d off s h1 h2 h3 h4 h5 h6 => ?_, hlater, ?_, ?_⟩
  · rcases inv.last with h | ⟨c', h1, h2, h3⟩
    · exact .inl h
    · exact .inr ⟨c', h1, by simp [addS, h2], h3⟩
  · by_cases hq : q = p
    · subst hq; rw [hc] at h2; injection h2 with h2; subst h2; exact (hne h4).1
    · rw [addS_other hq] at h3; exact inv.noeff q c' h1 h2 h3 h4
  · by_cases hq : q = p
    · subst hq; rw [hc] at h2; injection h2 with h2; subst h2; rw [(hne h4).2.1] at h5; cases h5
    · rw [addS_other hq] at h3
      obtain ⟨x, k, g1, g2, g3, g4⟩ := inv.pend q c' h1 h2 h3 h4 h5
      exact ⟨x, k, g1, g2, g3, g4.world (hbn q c' h1 h2 h3 h4 h5 x g3)⟩
  · obtain ⟨q, c', h1, h2, h3, h4⟩ := inv.only i hi hE
    exact ⟨q, c', h1, h2, by simp [addS, h3], h4⟩
  · have hst : s ≠ t := fun e => by subst e; rw [hl] at hls; cases hls
    rw [r.now T hc hS, if_neg (by rw [ht]; intro e; injection e with e; exact hst e.symm)] at hnow
    rw [hoth' s hst]
    exact inv.slot s v n hls hnow
  · rw [r.now T hc hS] at hnow
    by_cases hst : s = t
    · subst hst
      rw [if_pos ht] at hnow
      injection hnow with hnow; injection hnow with e1 e2; subst e1 e2
      simp only [if_true]
      exact ⟨hbox, hwf, hout⟩
    · rw [if_neg (by rw [ht]; intro e; injection e with e; exact hst e.symm)] at hnow
      rw [hoth' s hst]
      simp only [if_neg hst]
      obtain ⟨g1, g2, g3⟩ := inv.box s v n hls hnow hnv
      exact ⟨g1.world (hheap _ (hoth s _ hst hls hnow hnv) g1.lt), g2, g3⟩
  · rw [r.now T hc hS] at hn hn'
    by_cases hst : s = t
    · subst hst
      rw [if_neg (by rw [ht]; intro e; injection e with e; exact hne' e)] at hn'
      simp only [if_true, if_neg (Ne.symm hne')]
      exact (hoth s' _ (Ne.symm hne') hls' hn' hv').symm
    · rw [if_neg (by rw [ht]; intro e; injection e with e; exact hst e.symm)] at hn
      by_cases hst' : s' = t
      · subst hst'
        simp only [if_true, if_neg hst]
        exact hoth s _ hst hls hn hv
      · rw [if_neg (by rw [ht]; intro e; injection e with e; exact hst' e.symm)] at hn'
        simp only [if_neg hst, if_neg hst']
        exact inv.sep s s' r1 r2 hls hls' hne' hn hn' hv hv'
  · by_cases hq : q = p
    · subst hq; rw [hc] at h1; injection h1 with h1; subst h1
      exact absurd h4 ((hne h3).2.2 _ _ _)
    · rw [addS_other hq] at h2
      have h7 := inv.der q c' sl d off s h1 h2 h3 h4 h5 h6
      have : ¬ c.o.dst = some s := fun e => hq (h6 p c hc e).symm
      rw [put_get hlt, if_neg this, h7]
      by_cases hdt : d = t
      · subst hdt
        simp only [if_true]
        rcases hder with e | e
        · rw [e]
        · exact (e q c' sl off h1 h2 h4).elim
      · simp only [if_neg hdt]
  · rw [put_size]; exact inv.tmps
  · rw [put_defers]; exact inv.defers

theorem later_set (h : Later Ef wf E w) {bt : Nat} {C' : Array Value} (hb : wf.heap.size ≤ bt) : Later Ef wf E (w.setRow bt C') :=
  ⟨h.le, h.new, Nat.le_trans h.size (by simp [World.setRow]), fun b' hb' hn => by
    rw [setRow_other (by omega)]
    exact h.kept b' hb' hn⟩

theorem later_alloc (h : Later Ef wf E w) (obj : Obj) : Later Ef wf E (w.alloc obj) :=
  ⟨h.le, h.new, Nat.le_trans h.size (by show w.heap.size ≤ (w.heap.push obj).size; simp), fun b' hb' hn => by
    rw [Go.RowKit.Below.heap_alloc _ _ _ (Nat.lt_of_lt_of_le hb' h.size)]
    exact h.kept b' hb' hn⟩

end
end Go.Ir
