/- Regions, third part: what holds where some operations are done. -/
import Derived.Test.YtbkdahiplcbppaaGreatIrCall
set_option linter.unusedVariables false
set_option linter.unusedSimpArgs false
namespace Go.Ir

section
variable {call : CallF} {lo : Nat} {cc : List COper} {ck : Nat → Nat} {f0 : Fr} {h0 : Heap}

/-- What holds where just the operations of S are done: the machine is where the interpreter was behind its last effect of S (at b); what was made since lies ready. -/
structure Inv (B0 : Nat) (w0 : World) (LB : List Nat) (nt : Nat) (Ef : Emb) (wf : World) (D : List Deferred) (T : Tr call lo cc ck f0 h0) (S : Nat → Bool)
    (E : Emb) (bx : Nat → Nat) (b : Nat) (a : Act) (w : World) : Prop where
  bn : b ≤ cc.length
  last : b = 0 ∨ ∃ c, cc[b - 1]? = some c ∧ S (b - 1) = true ∧ T.W (b - 1) = true ∧ isEff c.io = true
  noeff : ∀ q c, b ≤ q → cc[q]? = some c → S q = true → T.W q = true → isEff c.io = false
  sim : Sim B0 w0 (res E (T.L b)) (T.H b) w
  pend : ∀ p c, b ≤ p → cc[p]? = some c → S p = true → T.W p = true → isAlloc c.io = true →
    ∃ x k, T.H (p + 1) = T.H p ++ [k] ∧ k ≠ .dead ∧ E (T.L p) = some (some x) ∧ BR B0 (res E (T.L (p + 1))) w x k
  only : ∀ i, T.L b ≤ i → E i ≠ none → ∃ p c, b ≤ p ∧ cc[p]? = some c ∧ S p = true ∧ T.W p = true ∧ isAlloc c.io = true ∧ i = T.L p
  fresh : ∀ i j x y, T.L b ≤ i → i ≠ j → E i = some (some x) → E j = some (some y) → x.b ≠ y.b
  slot : ∀ t v n, LB.contains t = false → T.now S t cc.length = some (v, n) → VR (res E n) v (a.tmps.getD t undef)
  box : ∀ t v n, LB.contains t = true → T.now S t cc.length = some (v, n) → v ≠ noneV → Boxed B0 (res E n) w v (a.tmps.getD t undef) (bx t) ∧ wf.heap.size ≤ bx t ∧ ∀ j y, E j = some (some y) → y.b ≠ bx t
  sep : ∀ t t' r r', LB.contains t = true → LB.contains t' = true → t ≠ t' → T.now S t cc.length = some r → T.now S t' cc.length = some r' → r.1 ≠ noneV → r'.1 ≠ noneV → bx t ≠ bx t'
  der : ∀ p c sl d off s, cc[p]? = some c → S p = true → T.W p = true → c.io = .laddr sl d off → c.o.dst = some s → (∀ q c', cc[q]? = some c' → c'.o.dst = some s → q = p) →
    a.tmps.getD s undef = .pointer (some ⟨bx d, off, none⟩)
  later : Later Ef wf E w
  tmps : a.tmps.size = nt
  defers : a.defers = D

def addS (S : Nat → Bool) (p : Nat) : Nat → Bool := fun q => S q || q == p

theorem addS_self {S : Nat → Bool} {p : Nat} : addS S p p = true := by simp [addS]
theorem addS_other {S : Nat → Bool} {p q : Nat} (h : q ≠ p) : addS S p q = S q := by simp [addS, h]

/-- An operation that may be done next. -/
structure Rdy (cc : List COper) (ck : Nat → Nat) (S : Nat → Bool) (p : Nat) (c : COper) : Prop where
  before : ∀ q c', q < p → cc[q]? = some c' → clash c' c = true → S q = true
  after : ∀ q c', p < q → cc[q]? = some c' → clash c c' = true → S q = false
  eff : isEff c.io = true → ∀ q c', q < p → cc[q]? = some c' → (isEff c'.io || isAlloc c'.io || isRead c'.io) = true → S q = true
  noeff : (isEff c.io || isAlloc c.io || isRead c.io) = true → ∀ q c', p < q → cc[q]? = some c' → isEff c'.io = true → S q = false
  chk : isRead c.io = true → ((List.range p).filter fun q => !S q && (cc[q]?).any fun c' => isEff c'.io).length ≤ ck p

/-- Of each operation: where it came from, and what it may name. -/
structure Wf (P : Program) (LB : List Nat) (nt : Nat) (ops : List Oper) (cc : List COper) : Prop where
  op : ∀ (p : Nat) (c : COper), cc[p]? = some c → cOp P LB ops c.o = some c.io ∧ (∀ d, c.o.dst = some d → d < nt) ∧ (∀ d, c.o.dst = some d → (LB.contains d = true ↔ ∃ x, c.io = .lbox x)) ∧
    (∀ t w, c.guard = some (t, w) → LB.contains t = false) ∧ (∀ s b off n, c.io = .lload s b off n → LB.contains b = true) ∧ (∀ s b off n x, c.io = .lstore s b off n x → LB.contains b = true ∧ c.o.dst = none) ∧
    (∀ s b off, c.io = .laddr s b off → LB.contains b = true)
  gd : ∀ (p : Nat) (c : COper), cc[p]? = some c → guardOf ops c.o = some c.guard
  /-- the slot by which a variable of the frame is met -/
  loc : ∀ (p : Nat) (c : COper) (s b : Nat), cc[p]? = some c → (∃ off n, c.io = .lload (some s) b off n) ∨ (∃ off n x, c.io = .lstore (some s) b off n x) ∨ (∃ off, c.io = .laddr (some s) b off) →
    ∃ (r : Nat) (cr : COper) (sl : Option Nat) (off : Nat), r < p ∧ cc[r]? = some cr ∧ cr.io = .laddr sl b off ∧ cr.o.dst = some s ∧ (∀ q c', cc[q]? = some c' → c'.o.dst = some s → q = r) ∧ la P LB ops 4 s = some (b, off)
  /-- where such an address is told, the variable is laid no more behind it -/
  lbx : ∀ (p q : Nat) (c c' : COper) (s : Option Nat) (b : Nat) (x : Operand), cc[p]? = some c → cc[q]? = some c' → c'.io = .lbox x → c'.o.dst = some b →
    ((∃ off n, c.io = .lload s b off n) ∨ (∃ off n x, c.io = .lstore s b off n x) ∨ (∃ off, c.io = .laddr s b off)) → q < p ∧ clash c' c = true

theorem clash_w {c c' : COper} {t : Nat} (h1 : c.dst = some t) (h2 : t ∈ c'.reads ∨ c'.dst = some t) : clash c c' = true := by
  simp only [clash, Bool.or_eq_true]
  left
  simp only [meets, COper.writes, h1, Option.toList_some, List.any_cons, List.any_nil, Bool.or_false, List.contains_iff_mem]
  rcases h2 with h2 | h2
  · exact List.mem_append_left _ h2
  · exact List.mem_append_right _ (by simp [COper.writes, h2])

theorem clash_r {c c' : COper} {t : Nat} (h1 : t ∈ c.reads) (h2 : c'.dst = some t) : clash c c' = true := by
  simp only [clash, Bool.or_eq_true]
  right
  simp only [meets, List.any_eq_true, List.contains_iff_mem]
  exact ⟨t, h1, by simp [COper.writes, h2]⟩

theorem dstAt_some {p : Nat} {t : Nat} (h : dstAt cc p = some t) : ∃ c, cc[p]? = some c ∧ c.dst = some t := by
  unfold dstAt at h
  cases hc : cc[p]? with
  | none => rw [hc] at h; cases h
  | some c => rw [hc] at h; exact ⟨c, rfl, h⟩

theorem dstAt_of {p : Nat} {c : COper} (h : cc[p]? = some c) : dstAt cc p = c.dst := by simp [dstAt, h]

/-- What an operation that may be done next reads of the frame. -/
theorem Rdy.read {S : Nat → Bool} {p : Nat} {c : COper} (r : Rdy cc ck S p c) (T : Tr call lo cc ck f0 h0) (hm : CallMono call) (hc : cc[p]? = some c) (hS : S p = false) {t : Nat} (ht : t ∈ c.reads)
    {v : Value} (hv : fget (T.F p) t = some v) : ∃ n, n ≤ T.L p ∧ T.now S t cc.length = some (v, n) := by
  have hp : p < cc.length := (List.getElem?_eq_some_iff.1 hc).1
  refine T.read hm (Nat.le_of_lt hp) (fun q hq hd => ?_) (fun q hq hq' hd => ?_) hv
  · obtain ⟨c', hc', hd'⟩ := dstAt_some hd
    exact r.before q c' hq hc' (clash_w hd' (.inl ht))
  · obtain ⟨c', hc', hd'⟩ := dstAt_some hd
    by_cases hqp : q = p
    · subst hqp; exact hS
    · exact r.after q c' (by omega) hc' (clash_r ht hd')

/-- What slots hold when it is done. -/
theorem Rdy.now {S : Nat → Bool} {p : Nat} {c : COper} (r : Rdy cc ck S p c) (T : Tr call lo cc ck f0 h0) (hc : cc[p]? = some c) (hS : S p = false) (t : Nat) :
    T.now (addS S p) t cc.length = if c.dst = some t then some (T.V p, T.L (p + 1)) else T.now S t cc.length := by
  have hp : p < cc.length := (List.getElem?_eq_some_iff.1 hc).1
  by_cases hd : c.dst = some t
  · rw [if_pos hd, T.now_skip (S := addS S p) (t := t) (k := p + 1) cc.length (by omega) (fun q hq hq' hdq => by
      obtain ⟨c', hc', hd'⟩ := dstAt_some hdq
      rw [addS_other (by omega)]
      exact r.after q c' (by omega) hc' (clash_w hd (.inr hd')))]
    simp [Tr.now, addS_self, dstAt_of hc, hd]
  · rw [if_neg hd]
    exact T.now_congr _ fun q hq hdq => addS_other (fun e => by subst e; rw [dstAt_of hc] at hdq; exact hd hdq)

theorem reads_opnd {c : COper} {t : Nat} (h : Operand.tmp t ∈ c.o.op.operands.toList) : t ∈ c.reads := by
  simp only [COper.reads]
  refine List.mem_append_left _ (List.mem_append_left _ ?_)
  exact List.mem_flatMap.2 ⟨_, h, by simp [opndT]⟩

theorem reads_guard {c : COper} {t : Nat} {w : Bool} (h : c.guard = some (t, w)) : t ∈ c.reads := by
  simp only [COper.reads, h]
  exact List.mem_append_right _ (by simp)

theorem reads_lres {c : COper} {t : Nat} (h : t ∈ lres c.io) : t ∈ c.reads := by
  simp only [COper.reads]
  exact List.mem_append_left _ (List.mem_append_right _ h)

variable {P : Program} {B0 : Nat} {w0 : World} {LB : List Nat} {nt : Nat} {Ef : Emb} {wf : World} {D : List Deferred} {T : Tr call lo cc ck f0 h0} {S : Nat → Bool} {E : Emb} {bx : Nat → Nat} {b : Nat} {a : Act} {w : World}

theorem Inv.opOk (inv : Inv B0 w0 LB nt Ef wf D T S E bx b a w) (hm : CallMono call) {p : Nat} {c : COper} (hc : cc[p]? = some c) (hS : S p = false) (r : Rdy cc ck S p c) :
    OpOk LB (res E (T.L p)) (T.F p) a c.o := by
  intro x hx hok u hu
  refine ev_ok hok (fun t ht hl u' hu' => ?_) hu
  subst ht
  obtain ⟨n, hn, hnow⟩ := r.read T hm hc hS (reads_opnd hx) hu'
  exact (inv.slot t u' n hl hnow).mono (res_le hn)

/-- The place of the last effect that is done is not behind one that may be done. -/
theorem Inv.b_le (inv : Inv B0 w0 LB nt Ef wf D T S E bx b a w) {p : Nat} {c : COper} (hc : cc[p]? = some c) (hS : S p = false) (r : Rdy cc ck S p c)
    (hk : (isEff c.io || isAlloc c.io || isRead c.io) = true) : b ≤ p := by
  rcases inv.last with h | ⟨c', hc', hs, _, he⟩
  · omega
  · rcases Nat.lt_or_ge p b with h | h
    · by_cases hb : b - 1 = p
      · rw [hb] at hs; rw [hS] at hs; cases hs
      · have := r.noeff hk (b - 1) c' (by omega) hc' he
        rw [this] at hs; cases hs
    · exact h

end
end Go.Ir
