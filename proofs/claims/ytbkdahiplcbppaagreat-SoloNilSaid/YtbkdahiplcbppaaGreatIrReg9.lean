/- Regions, ninth part: one operation more. -/
import Derived.Test.YtbkdahiplcbppaaGreatIrReg8
import Derived.Orders
set_option linter.unusedVariables false
set_option linter.unusedSimpArgs false
namespace Go.Ir

theorem kinds (io : IOp) : isPure io = true ∨ isRead io = true ∨ isAlloc io = true ∨ isEff io = true ∨ (∃ x, io = .lbox x) ∨ (∃ s d off, io = .laddr s d off) ∨ (∃ s d off n, io = .lload s d off n) ∨ (∃ s d off n x, io = .lstore s d off n x) := by
  cases io <;> simp [isPure, isRead, isAlloc, isEff]

theorem read_not {io : IOp} (h : isRead io = true) : isPure io = false ∧ isEff io = false ∧ isAlloc io = false := by cases io <;> simp [isRead] at h <;> simp [isPure, isEff, isAlloc]
theorem alloc_not {io : IOp} (h : isAlloc io = true) : isPure io = false ∧ isEff io = false := by cases io <;> simp [isAlloc] at h <;> simp [isPure, isEff]
theorem eff_not {io : IOp} (h : isEff io = true) : isPure io = false ∧ isAlloc io = false := by cases io <;> simp [isEff] at h <;> simp [isPure, isAlloc]
theorem pure_not {io : IOp} (h : isPure io = true) : isEff io = false ∧ isAlloc io = false := by cases io <;> simp [isPure] at h <;> simp [isEff, isAlloc]

section
variable {call : CallF} {lo : Nat} {cc : List COper} {ck : Nat → Nat} {f0 : Fr} {h0 : Heap}
variable {P : Program} {B0 : Nat} {w0 : World} {LB : List Nat} {nt : Nat} {ops : List Oper} {Ef : Emb} {wf : World} {D : List Deferred} {T : Tr call lo cc ck f0 h0} {S : Nat → Bool} {E : Emb} {bx : Nat → Nat} {b : Nat} {a : Act} {w : World}

theorem put_none {a : Act} {v : Value} : a.put none v = a := rfl

theorem Inv.step (inv : Inv B0 w0 LB nt Ef wf D T S E bx b a w) (hm : CallMono call) (wf' : Wf P LB nt ops cc) {p : Nat} {c : COper} (hc : cc[p]? = some c) (hS : S p = false) (r : Rdy cc ck S p c)
    (hB0 : B0 ≤ w0.heap.size) (hBf : wf.heap.size ≤ w.heap.size) (hcall : CallOk P B0 w0 call) {opsA : Array Oper} (hA : opsA.toList = ops) {i : Nat} (hi : opsA[i]? = some c.o) {K : Act → World → Prop} {Q : Exit → Act → World → Prop}
    (hK : ∀ E' bx' b' a' w', Inv B0 w0 LB nt Ef wf D T (addS S p) E' bx' b' a' w' → K a' w') : wpOp P opsA Q i K a w := by
  have hp : p < cc.length := (List.getElem?_eq_some_iff.1 hc).1
  have hwant := inv.wanted hm wf' hc hS r hA
  obtain ⟨t1, t2, t3, t4⟩ := T.step p c hc
  obtain ⟨o1, o2, o3, o4, o5, o6, o7⟩ := wf'.op p c hc
  have hop := inv.opOk hm hc hS r
  unfold wpOp
  simp only [hi, hwant]
  cases hW : T.W p with
  | false =>
    simp only [Bool.false_eq_true, if_false]
    have hV := (t4 hW).1
    exact hK _ _ _ _ _ (inv.put hm wf' hc hS r (fun h => by rw [hW] at h; cases h) (fun t _ _ => by rw [hV]; exact .tuple _ _ (by simpa using VRs.nil)) (fun t _ _ => hV) (fun h => by rw [hW] at h; cases h))
  | true =>
    simp only [if_true]
    refine .inl ?_
    obtain ⟨hiop, hahead, _⟩ := t3 hW
    -- a value alone, not into a variable of the frame
    have val : ∀ {cv : Value}, (isEff c.io = false ∧ isAlloc c.io = false) → (∀ x, c.io ≠ .lbox x) → (∀ s d off n x, c.io ≠ .lstore s d off n x) → VR (res E (T.L p)) (T.V p) cv →
        (∀ sl d off s, c.io = .laddr sl d off → c.o.dst = some s → cv = .pointer (some ⟨bx d, off, none⟩)) → (execOp a.eval c.o).run P w = .ok (.value cv) w → c.o.wp P a w K Q := fun {cv} h1 h2 h3 h4 h5 h6 => by
      unfold Oper.wp
      rw [h6]
      refine hK _ _ _ _ _ (inv.put hm wf' hc hS r (fun _ => h1) (fun t _ _ => by rw [T.sameL hc (fun _ => h1)]; exact h4) (fun t ht hl => ?_) (fun _ => h5))
      exfalso
      have : c.dst = c.o.dst := by
        unfold COper.dst
        split
        · rename_i s b' off n x hio; exact absurd hio (h3 _ _ _ _ _)
        · rfl
      rw [this] at ht
      obtain ⟨x, hx⟩ := (o3 t ht).1 hl
      exact h2 x hx
    rcases kinds c.io with hk | hk | hk | hk | ⟨x, hk⟩ | ⟨s, d, off, hk⟩ | ⟨s, d, off, n, hk⟩ | ⟨s, d, off, n, x, hk⟩
    · obtain ⟨_, cv, h1, h2⟩ := pure_ok o1 hk hop hiop
      exact val (pure_not hk) (fun x hx => by rw [hx] at hk; cases hk) (fun s d off n x hx => by rw [hx] at hk; cases hk) h2 (fun s d off t hx => by rw [hx] at hk; cases hk) (h1 w)
    · obtain ⟨n1, n2, n3⟩ := read_not hk
      obtain ⟨g, g', hh, hg⟩ := inv.readNow hm wf' hc hS r hk hW
      obtain ⟨_, cv, h1, h2⟩ := read_ok (P := P) (cOp_np o1 n1) hk hop hh hg
      exact val ⟨n2, n3⟩ (fun x hx => by rw [hx] at hk; cases hk) (fun s d off n x hx => by rw [hx] at hk; cases hk) h2 (fun s d off t hx => by rw [hx] at hk; cases hk) h1
    · obtain ⟨n1, n2⟩ := alloc_not hk
      obtain ⟨blk, cv, obj, x, e1, e2, e3, e4, e5, e6⟩ := alloc_ok (P := P) (cOp_np o1 n1) hk hop (inv.sim.base hB0) hiop
      unfold Oper.wp
      rw [e3]
      exact hK _ _ _ _ _ (inv.made hm wf' hc hS r hB0 hk hW e1 e2 e4 e5 e6)
    · obtain ⟨n1, n2⟩ := eff_not hk
      have hbp := inv.b_le hc hS r (by simp [hk])
      have hs := inv.at hm (Nat.le_of_lt hp) hbp
        (fun q c' h1 h2 h3 h4 => r.eff hk q c' h2 h3 (by simp only [Bool.or_eq_true] at h4 ⊢; exact .inl h4))
        (fun q c' h1 h2 h3 h4 h5 => T.same h3 (fun _ => ⟨h4, h5⟩))
      refine eff_wp (cOp_np o1 n1) hk hop hs hB0 hcall hiop fun cv w' E1 g1 g2 g3 => ?_
      obtain ⟨E', hI⟩ := inv.done hm wf' hc hS r hk hW g1 g2 g3
      exact hK _ _ _ _ _ hI
    · -- a variable is laid
      have hnp := cOp_np o1 (by rw [hk]; rfl)
      rw [hk] at hiop
      simp only [iop] at hiop
      split at hiop <;> try (cases hiop; done)
      rename_i u hu
      injection hiop with hiop
      injection hiop with eV eH
      have hLp : T.L (p + 1) = T.L p := by simp [Tr.L, ← eH]
      have hdst : c.dst = c.o.dst := by
        unfold COper.dst
        split
        · rename_i s b' off n x hio; rw [hio] at hk; cases hk
        · rfl
      have go : ∀ d obj, c.o.dst = some d → LB.contains d = true → (execOp a.eval c.o).run P w = .ok (.value (.pointer (some ⟨w.heap.size, 0, none⟩))) (w.alloc obj) →
          Boxed B0 (res E (T.L p)) (w.alloc obj) (.agg (vcells u).toArray) (.pointer (some ⟨w.heap.size, 0, none⟩)) w.heap.size → c.o.wp P a w K Q := fun d obj hd hl hr hb => by
        unfold Oper.wp
        rw [hr]
        refine hK _ _ _ _ _ (inv.own hm wf' hc hS r (t := d) (bt := w.heap.size) (fun _ => by rw [hk]; exact ⟨rfl, rfl, fun _ _ _ h => by cases h⟩) (hdst.trans hd) hl ?_ hBf
          (fun j y hy => by have := inv.lt hy; omega) (fun t' r' _ hl' hn hv => by have := (inv.box t' r'.1 r'.2 hl' hn hv).1.lt; omega)
          (fun b' h1 h2 => Go.RowKit.Below.heap_alloc _ _ _ h2) (inv.sim.allocAside (inv.sim.base hB0) obj) (later_alloc inv.later obj) (.inr fun q c' sl off h1 h2 h3 => ?_))
        · rw [put_get (fun e he => by rw [inv.tmps]; exact o2 e he), if_pos hd, hLp, ← eV]
          exact hb
        · obtain ⟨k1, k2⟩ := wf'.lbx q p c' c sl d x h1 hc hk hd (.inr (.inr ⟨off, h3⟩))
          have := r.after q c' k1 h1 k2
          rw [h2] at this; cases this
      cases hco : c.o with
      | mk dst op ty pos after guard =>
        generalize hio : c.io = io at hnp hk
        subst hk
        cases hnp with
        | zeroL t z d ho hz hd hl =>
          rw [hco] at ho
          simp only at ho
          subst ho
          obtain ⟨obj, h1, h2⟩ := l_zero (P := P) (E := res E (T.L p)) (a := a) (dst := dst) (ty := ty) (pos := pos) (after := after) (guard := guard) hz (inv.sim.base hB0)
          simp only [ev, Option.some.injEq] at hu
          subst hu
          have := go d obj hd hl (by rw [hco]; exact h1) h2
          rw [hco] at this
          exact this
        | boxL t x d ho hx hd hl =>
          have hxr := hop x (by rw [ho]; simp [Op.operands]) hx u hu
          rw [hco] at ho
          simp only at ho
          subst ho
          obtain ⟨obj, h1, h2⟩ := l_box (P := P) (a := a) (dst := dst) (ty := ty) (pos := pos) (after := after) (guard := guard) (t := t) (inv.sim.base hB0) hxr
          have := go d obj hd hl (by rw [hco]; exact h1) h2
          rw [hco] at this
          exact this
    · -- an address in a variable
      have hnp := cOp_np o1 (by rw [hk]; rfl)
      generalize hio : c.io = io at hnp hk
      subst hk
      cases hnp with
      | laddr t u x fi off' d' o' ho hf hl =>
        rw [hio] at hiop
        simp only [iop] at hiop
        obtain ⟨hck, hiop⟩ := ifSomeO hiop
        split at hiop <;> try (cases hiop; done)
        rename_i cs hcs
        injection hiop with hiop
        injection hiop with eV eH
        obtain ⟨n, h1, h2, h3, h4⟩ := inv.addr hm wf' hc hS r (by rw [ho]; simp [Op.operands]) hl (.inr (.inr ⟨off', hio⟩)) hck hcs
        refine val (cv := .pointer (some ⟨bx d, o' + off', none⟩)) (by rw [hio]; exact ⟨rfl, rfl⟩) (fun x hx => by rw [hio] at hx; cases hx) (fun s d off n x hx => by rw [hio] at hx; cases hx) (by rw [← eV]; exact .any _) (fun sl d2 off2 s2 hx _ => by rw [hio] at hx; injection hx with _ e2 e3; subst e2 e3; rfl) ?_
        cases hco : c.o with
        | mk dst op ty pos after guard =>
          rw [hco] at ho
          simp only at ho
          subst ho
          exact l_laddr hf h4 w
    · -- a variable is read
      have hnp := cOp_np o1 (by rw [hk]; rfl)
      generalize hio : c.io = io at hnp hk
      subst hk
      cases hnp with
      | lload t x d' off' n' ho hn hl =>
        rw [hio] at hiop
        simp only [iop] at hiop
        obtain ⟨hck, hiop⟩ := ifSomeO hiop
        split at hiop <;> try (cases hiop; done)
        rename_i cs hcs
        split at hiop <;> try (cases hiop; done)
        rename_i u hu
        injection hiop with hiop
        injection hiop with eV eH
        obtain ⟨n2, h1, h2, h3, h4⟩ := inv.addr hm wf' hc hS r (by rw [ho]; simp [Op.operands]) hl (.inl ⟨_, hio⟩) hck hcs
        obtain ⟨hb, _, _⟩ := inv.box d _ n2 h3 h2 (by simp [noneV])
        cases hco : c.o with
        | mk dst op ty pos after guard =>
          have ho' := ho
          rw [hco] at ho
          simp only at ho
          subst ho
          obtain ⟨dv, g1, g2⟩ := l_load (P := P) (dst := dst) (ty := ty) (pos := pos) (after := after) (guard := guard) hn h4 hb hu
          rw [hco] at val
          exact val (by rw [hio]; exact ⟨rfl, rfl⟩) (fun x hx => by rw [hio] at hx; cases hx) (fun s d off n x hx => by rw [hio] at hx; cases hx) (by rw [← eV]; exact g2.mono (res_le h1)) (fun sl d2 off2 s2 hx _ => by rw [hio] at hx; cases hx) g1
    · -- a variable is written
      have hnp := cOp_np o1 (by rw [hk]; rfl)
      generalize hio : c.io = io at hnp hk
      subst hk
      cases hnp with
      | lstore t x y d' off' n' ho hn hl hy =>
        rw [hio] at hiop
        simp only [iop] at hiop
        obtain ⟨hck, hiop⟩ := ifSomeO hiop
        split at hiop <;> try (cases hiop; done)
        rename_i cs u hcs hu
        obtain ⟨hlen, hiop⟩ := ifSomeO hiop
        obtain ⟨hle, hiop⟩ := ifSome hiop
        injection hiop with eV eH
        have hLp : T.L (p + 1) = T.L p := by simp [Tr.L, ← eH]
        obtain ⟨n2, h1, h2, h3, h4⟩ := inv.addr hm wf' hc hS r (by rw [ho]; simp [Op.operands]) hl (.inr (.inl ⟨_, _, hio⟩)) hck hcs
        obtain ⟨hb, hb2, hb3⟩ := inv.box d _ n2 h3 h2 (by simp [noneV])
        have hyr := hop _ (by rw [ho]; simp [Op.operands]) hy u hu
        have hod : c.o.dst = none := (o6 _ _ _ _ _ hio).2
        have hdd : c.dst = some d := by simp [COper.dst, hio]
        have hBb : B0 ≤ bx d := by obtain ⟨_, _, _, _, _, _, _, h⟩ := hb; exact h
        cases hco : c.o with
        | mk dst op ty pos after guard =>
          have ho' := ho
          rw [hco] at ho
          simp only at ho
          subst ho
          have hod' : dst = none := by rw [hco] at hod; exact hod
          subst hod'
          obtain ⟨C', g1, g2⟩ := l_store (P := P) (dst := none) (ty := ty) (pos := pos) (after := after) (guard := guard) hn h4 (hb.mono (res_le h1)) hyr hlen.1 hlen.2 hle
          unfold Oper.wp
          rw [g1]
          have hown := inv.own hm wf' hc hS r (t := d) (bt := bx d) (cv := undef) (w' := w.setRow (bx d) C') (fun _ => by rw [hio]; exact ⟨rfl, rfl, fun _ _ _ h => by cases h⟩) hdd h3
            (by rw [hod, put_none, hLp, ← eV]; exact g2) hb2 hb3 (fun t' r' hne hl' hn' hv' => inv.sep t' d r' _ hl' h3 hne hn' h2 hv' (by simp [noneV])) (fun b' k1 k2 => setRow_other k1)
            (inv.sim.aside hBb (fun j y hy => hb3 j y (res_some hy).2)) (later_set inv.later hb2) (.inl rfl)
          rw [hod] at hown
          exact hK _ _ _ _ _ hown

end
end Go.Ir
