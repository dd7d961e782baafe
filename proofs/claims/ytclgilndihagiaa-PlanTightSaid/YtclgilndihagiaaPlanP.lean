/- What the law's helpers compute. -/
import Derived.Test.YtclgilndihagiaaPlanFn
import Derived.Test.YtclgilndihagiaaIrD

set_option linter.unusedVariables false
set_option linter.unusedSimpArgs false
namespace Go.Proofs.Ytclgilndihagiaa
open Go Go.Ir

structure Obj where
  s : Int
  o : Int
  n : Int
  fx : Bool

def Obj.cs (x : Obj) : List Value := [.int .i64 x.s, .int .i64 x.o, .int .i64 x.n, .bool x.fx]
def css (l : List Obj) : List (List Value) := l.map Obj.cs

theorem css_len (l : List Obj) : ∀ e ∈ css l, e.length = 4 := by
  intro e he
  obtain ⟨x, _, rfl⟩ := List.mem_map.1 he
  rfl

theorem css_flat (l : List Obj) : ∀ e ∈ css l, e.all flat1 = true := by
  intro e he
  obtain ⟨x, _, rfl⟩ := List.mem_map.1 he
  rfl

theorem wrap_small {n : Int} (h0 : 0 ≤ n) (h1 : n < 2 ^ 62) : IntKind.i64.wrap n = n := by
  rw [IntKind.wrap_i64]; omega

section
variable (prims : List (Nat × Prim))

def env : Env := { fn := fun g => tbl.lookup g, prim := fun g => prims.lookup g }

theorem own_spec (hp : prims.lookup Id.sidingslaw17_own = none) {lo : Nat} {h : Heap} {v : Value} {l : List Obj} (hv : Sl h 4 v (css l)) (hl : l.length ≤ 64) :
    callR (env prims) lo Id.sidingslaw17_own [v] h = some (made h 4 (css l)) := by
  refine call_scr hp Fn.sidingslaw17_own rfl rfl ?_
  refine .seq (.reg (.op rfl rfl (.fin ?_)))
  refine .seq (.reg (.op rfl rfl (.fin ?_)))
  refine .seq (.seq (.reg (.op rfl rfl (.fin ?_))))
  refine .block ?_
  obtain ⟨base, cap, hve⟩ := hv.len
  refine .loop (fun n f H => ∃ i o, n + i = l.length ∧ f = [(0, v), (3, o), (4, .int .i64 (i : Nat))] ∧ Ext h H ∧ Out H h.length 4 o (css (l.take i))) (n := l.length)
    ⟨0, _, rfl, rfl, .refl _, Out.nil _ _ _⟩ ?_
  rintro n f H ⟨i, o, hn, rfl, hx, ho⟩ next
  refine .seq (.seq (.reg ?_))
  refine .op rfl rfl ?_
  refine .op rfl rfl ?_
  subst hve
  refine .op rfl rfl ?_
  refine .op rfl rfl ?_
  refine .fin ?_
  have hcl : (css l).length = l.length := by simp [css]
  by_cases hi : i < l.length
  · have hc : decide ((i : Int) < ((css l).length : Int)) = true := by simp; omega
    rw [hc]
    refine .yes rfl (.skip ?_)
    have hie : (css l)[i]? = some (l[i]).cs := by simp [css, hi]
    obtain ⟨a, cap', hva, hld, _⟩ := (hv.ext hx).at hie
    injection hva with e1 e2 e3
    subst e1
    have hi' : i < (css l).length := by simpa [css] using hi
    refine .seq (.block (.reg ?_))
    refine .op rfl rfl (.op rfl rfl (.op rfl rfl (.op (i_iaddr rfl rfl hi') rfl (.op rfl rfl (.op (i_load rfl (hld 0 _ rfl)) rfl ?_)))))
    refine .op rfl rfl (.op rfl rfl (.op (i_iaddr rfl rfl hi') rfl (.op rfl rfl (.op (i_load rfl (hld 1 _ rfl)) rfl ?_))))
    refine .op rfl rfl (.op rfl rfl (.op (i_iaddr rfl rfl hi') rfl (.op rfl rfl (.op (i_load rfl (hld 2 _ rfl)) rfl ?_))))
    refine .op rfl rfl (.op rfl rfl (.op (i_iaddr rfl rfl hi') rfl (.op rfl rfl (.op (i_load rfl (hld 3 _ rfl)) rfl ?_))))
    refine .op rfl rfl (.op rfl rfl ?_)
    have hpl : (css (l.take i)).length + 1 ≤ 2 ^ 30 := by simp only [css, List.length_map, List.length_take]; omega
    have hpb : 32 ≤ 2 ^ 12 := by omega
    have hpe : (l[i]).cs.length = 4 := rfl
    refine Exists.elim (ho.push hpe hx.1 hpl hpb) fun o' hq1 => Exists.elim hq1 fun H' hq2 => ?_
    have hap := hq2.1
    have ho' := hq2.2.1
    have hx' := hq2.2.2
    refine .op (i_append rfl rfl hap) rfl (.op rfl rfl (.fin (.endB ?_)))
    refine .reg (.op rfl rfl (.op rfl rfl (.op rfl rfl (.fin ?_))))
    refine next (n - 1) _ _ (by omega) ⟨i + 1, o', by omega, ?_, hx' h (Nat.le_refl _) hx, ?_⟩
    · show [(0, _), (3, o'), (4, Value.int .i64 (IntKind.i64.wrap ((i : Int) + 1)))] = _
      rw [wrap_small (by omega) (by omega)]
      rfl
    · have : l.take (i + 1) = l.take i ++ [l[i]] := by simp
      rw [this, css, List.map_append]
      exact ho'
  · have hc : decide ((i : Int) < ((css l).length : Int)) = false := by simp; omega
    rw [hc]
    refine .no rfl (.exit rfl ?_)
    refine .seq (.reg (.op rfl rfl (.op rfl rfl (.fin (.ret rfl ?_)))))
    have : l.take i = l := List.take_of_length_le (by omega)
    rw [this] at ho
    exact ho.tidy (css_flat l)
end
end Go.Proofs.Ytclgilndihagiaa

/- Objects held against each other. -/
set_option linter.unusedVariables false
set_option linter.unusedSimpArgs false
namespace Go.Proofs.Ytclgilndihagiaa
open Go Go.Ir

theorem decide_of {p : Prop} [Decidable p] (h : p) : decide p = true := by simp [h]
theorem decide_not {p : Prop} [Decidable p] (h : ¬ p) : decide p = false := by simp [h]

def hasB (x : Obj) (t : Int) : Bool := decide (x.o ≤ t) && decide (0 ≤ IntKind.i64.wrap (t - x.o)) && decide (IntKind.i64.wrap (t - x.o) < x.n)

section
variable {prims : List (Nat × Prim)}

theorem has_spec (hp : prims.lookup Id.sidingsref17_has = none) {lo : Nat} {h : Heap} (x : Obj) (t : Int) :
    callR (env prims) lo Id.sidingsref17_has [.agg x.cs.toArray, .int .i64 t] h = some (.bool (hasB x t), h) := by
  refine call_scr hp Fn.sidingsref17_has rfl rfl ?_
  unfold hasB
  by_cases h1 : x.o ≤ t <;> by_cases h2 : 0 ≤ IntKind.i64.wrap (t - x.o)
  all_goals
    simp only [h1, h2, decide_true, decide_false, Bool.true_and, Bool.false_and]
    repeat (first | refine .op rfl rfl ?_ | refine .seq ?_ | refine .reg ?_ | refine .fin ?_ | simp only [h1, h2, decide_true, decide_false] | refine .gd rfl rfl rfl ?_ | refine .skip rfl ?_ | exact .ret rfl rfl)
end
end Go.Proofs.Ytclgilndihagiaa

/- Whether two objects share a byte. -/
set_option linter.unusedVariables false
set_option linter.unusedSimpArgs false
namespace Go.Proofs.Ytclgilndihagiaa
open Go Go.Ir

def shareB (x y : Obj) : Bool := decide (0 < x.n) && (decide (0 < y.n) && (hasB x y.o || hasB y x.o))

section
variable {prims : List (Nat × Prim)}

theorem share_spec (hp : prims.lookup Id.sidingsref17_share = none) (hp2 : prims.lookup Id.sidingsref17_has = none) {lo : Nat} {h : Heap} (x y : Obj) :
    callR (env prims) lo Id.sidingsref17_share [.agg x.cs.toArray, .agg y.cs.toArray] h = some (.bool (shareB x y), h) := by
  refine call_scr hp Fn.sidingsref17_share rfl rfl ?_
  unfold shareB
  by_cases h1 : 0 < x.n <;> by_cases h2 : 0 < y.n <;> cases h3 : hasB x y.o
  all_goals
    have c1 : ∀ (lo : Nat) (h : Heap), callR (env prims) lo Id.sidingsref17_has [.agg x.cs.toArray, .int .i64 y.o] h = some (.bool (hasB x y.o), h) := fun lo h => has_spec hp2 x y.o
    have c2 : ∀ (lo : Nat) (h : Heap), callR (env prims) lo Id.sidingsref17_has [.agg y.cs.toArray, .int .i64 x.o] h = some (.bool (hasB y x.o), h) := fun lo h => has_spec hp2 y x.o
    simp only [h3] at c1
    simp only [h1, h2, decide_true, decide_false, Bool.true_and, Bool.false_and, Bool.false_or, Bool.true_or]
    repeat (first | refine .op rfl rfl ?_ | refine .seq ?_ | refine .reg ?_ | refine .fin ?_ | simp only [h1, h2, decide_true, decide_false] | refine .gd rfl (i_call rfl (c1 _ _)) rfl ?_ | refine .gd rfl (i_call rfl (c2 _ _)) rfl ?_ | refine .gd rfl rfl rfl ?_ | refine .skip rfl ?_ | exact .ret rfl rfl)
end
end Go.Proofs.Ytclgilndihagiaa

/- Whether objects are apart, by the document. -/
set_option linter.unusedVariables false
set_option linter.unusedSimpArgs false
namespace Go.Proofs.Ytclgilndihagiaa
open Go Go.Ir

def apartP (l : List Obj) : Prop := ∀ (i k : Nat) (x y : Obj), k < i → l[i]? = some x → l[k]? = some y → shareB x y = false

theorem css_get {l : List Obj} {i : Nat} {x : Obj} (h : l[i]? = some x) : (css l)[i]? = some x.cs := by simp [css, h]

open Classical in
noncomputable def apartB (l : List Obj) : Bool := decide (apartP l)
open Classical in
theorem apartB_true {l : List Obj} (h : apartP l) : apartB l = true := by unfold apartB; exact decide_eq_true h
open Classical in
theorem apartB_false {l : List Obj} (h : ¬ apartP l) : apartB l = false := by unfold apartB; exact decide_eq_false h

section
variable {prims : List (Nat × Prim)}

theorem refApart_spec (hp : prims.lookup Id.sidingsref17_Apart = none) (hp1 : prims.lookup Id.sidingsref17_share = none) (hp2 : prims.lookup Id.sidingsref17_has = none)
    {lo : Nat} {h : Heap} {v : Value} {l : List Obj} (hv : Sl h 4 v (css l)) (hl : l.length ≤ 1000) :
    callR (env prims) lo Id.sidingsref17_Apart [v] h = some (.bool (apartB l), h) := by
  have hcl : (css l).length = l.length := by simp [css]
  obtain ⟨base, cap, hve⟩ := hv.len
  refine call_scr hp Fn.sidingsref17_Apart rfl rfl ?_
  refine .seq (.reg (.op rfl rfl (.fin ?_)))
  refine .seq (.seq (.reg (.op rfl rfl (.fin ?_))))
  refine .block ?_
  refine .loop (fun n f H => H = h ∧ ∃ i : Nat, n + i = l.length ∧ f = [(0, v), (3, .int .i64 (i : Nat))] ∧ ∀ (i' k : Nat) (x y : Obj), i' < i → k < i' → l[i']? = some x → l[k]? = some y → shareB x y = false) (n := l.length)
    ⟨rfl, 0, rfl, rfl, fun i' k x y hi => by omega⟩ ?_
  rintro n f H ⟨rfl, i, hn, rfl, hI⟩ next
  subst hve
  refine .seq (.seq (.reg (.op rfl rfl (.op rfl rfl (.op rfl rfl (.op rfl rfl (.fin ?_)))))))
  by_cases hi : i < l.length
  · rw [decide_of (show (i : Int) < ((css l).length : Int) by omega)]
    refine .yes rfl (.skip ?_)
    have hne : css l ≠ [] := fun e => by rw [e] at hcl; simp at hcl; omega
    refine Exists.elim (hv.row hne) fun a hq => Exists.elim hq fun cap' hq2 => ?_
    have hva := hq2.1
    have hld := hq2.2
    injection hva with e1 e2 e3
    subst e1
    refine .seq (.block (.seq (.reg (.op rfl rfl (.fin ?_)))))
    refine .block ?_
    refine .loop (fun n f H' => H' = H ∧ ∃ k : Nat, n + k = i ∧ f = [(0, .slice (some a) (css l).length cap), (3, .int .i64 (i : Nat)), (4, .int .i64 (k : Nat))] ∧
      ∀ (k' : Nat) (x y : Obj), k' < k → l[i]? = some x → l[k']? = some y → shareB x y = false) (n := i) ⟨rfl, 0, rfl, rfl, fun k' x y hk => by omega⟩ ?_
    rintro m f H' ⟨rfl, k, hk, rfl, hK⟩ nextk
    refine .seq (.seq (.reg (.op rfl rfl (.op rfl rfl (.op rfl rfl (.fin ?_))))))
    by_cases hki : k < i
    · rw [decide_of (show (k : Int) < (i : Int) by omega)]
      refine .yes rfl (.skip ?_)
      have hgi : l[i]? = some l[i] := List.getElem?_eq_getElem hi
      have hgk : l[k]? = some (l[k]'(by omega)) := List.getElem?_eq_getElem (by omega)
      have hli := (hld i _ (css_get hgi)).2
      have hlk := (hld k _ (css_get hgk)).2
      have hi' : i < (css l).length := by omega
      have hk' : k < (css l).length := by omega
      have hs := fun lo h => share_spec hp1 hp2 (lo := lo) (h := h) l[i] (l[k]'(by omega))
      refine .seq (.block (.seq (.reg (.op rfl rfl (.op rfl rfl (.op (i_iaddr rfl rfl hi') rfl (.op (i_load rfl hli) rfl ?_)))))))
      refine .op rfl rfl (.op rfl rfl (.op (i_iaddr rfl rfl hk') rfl (.op (i_load rfl hlk) rfl (.op (i_call rfl (hs _ _)) rfl (.fin ?_)))))
      cases hsh : shareB l[i] (l[k]'(by omega)) with
      | true =>
        refine .yes rfl (.seq (.reg (.op rfl rfl (.fin (.ret rfl ?_)))))
        have : apartB l = false := by
          refine apartB_false fun hA => ?_
          have := hA i k _ _ hki hgi hgk
          rw [hsh] at this; cases this
        rw [this]; rfl
      | false =>
        refine .no rfl (.skip (.endB ?_))
        refine .reg (.op rfl rfl (.op rfl rfl (.op rfl rfl (.fin ?_))))
        refine nextk (m - 1) _ _ (by omega) ⟨rfl, k + 1, by omega, ?_, fun k' x y hk1 hx hy => ?_⟩
        · show [(0, _), (3, _), (4, Value.int .i64 (IntKind.i64.wrap ((k : Int) + 1)))] = _
          rw [wrap_small (by omega) (by omega)]; rfl
        · by_cases hkk : k' = k
          · subst hkk
            rw [hgi] at hx; rw [hgk] at hy
            injection hx with hx; injection hy with hy
            subst hx hy
            exact hsh
          · exact hK k' x y (by omega) hx hy
    · rw [decide_not (show ¬ (k : Int) < (i : Int) by omega)]
      refine .no rfl (.exit rfl (.endB ?_))
      refine .reg (.op rfl rfl (.op rfl rfl (.op rfl rfl (.fin ?_))))
      refine next (n - 1) _ _ (by omega) ⟨rfl, i + 1, by omega, ?_, fun i' k' x y h1 h2 hx hy => ?_⟩
      · show [(0, _), (3, Value.int .i64 (IntKind.i64.wrap ((i : Int) + 1)))] = _
        rw [wrap_small (by omega) (by omega)]; rfl
      · by_cases hii : i' = i
        · subst hii; exact hK k' x y (by omega) hx hy
        · exact hI i' k' x y (by omega) h2 hx hy
  · rw [decide_not (show ¬ (i : Int) < ((css l).length : Int) by omega)]
    refine .no rfl (.exit rfl ?_)
    refine .seq (.reg (.op rfl rfl (.fin (.ret rfl ?_))))
    have : apartB l = true := by
      refine apartB_true fun i' k x y hk hx hy => ?_
      have := (List.getElem?_eq_some_iff.1 hx).1
      exact hI i' k x y (by omega) hk hx hy
    rw [this]; rfl
end
end Go.Proofs.Ytclgilndihagiaa

/- The order of objects, as the program asks it. -/
set_option linter.unusedVariables false
set_option linter.unusedSimpArgs false
namespace Go.Proofs.Ytclgilndihagiaa
open Go Go.Ir

def pr : List (Nat × Prim) := [(Id.sidingslaw17_live, constPrim (.bool true))]
abbrev En : Env := env pr

theorem tidyI {h H : Heap} {n m : Int} (e : n = m) : Ir.tidy h (.int .i64 n) H = some (.int .i64 m, h) := by subst e; rfl
theorem tidyB {h H : Heap} {n m : Bool} (e : n = m) : Ir.tidy h (.bool n) H = some (.bool m, h) := by subst e; rfl

def cmpI (a b : Int) : Int := if a < b then -1 else if b < a then 1 else 0
def firstNZ : List Int → Int
  | [] => 0
  | x :: r => if x = 0 then firstNZ r else x
def bitI (b : Bool) : Int := if b then 1 else 0
def placeI (a b : Obj) : Int := firstNZ [cmpI a.o b.o, cmpI a.s b.s, cmpI a.n b.n, bitI a.fx - bitI b.fx]

section
variable {lo : Nat} {h : Heap}

theorem isNaN_spec (lo : Nat) (h : Heap) (n : Int) : callR En lo Id.cmp_isNaN_int [.int .i64 n] h = some (.bool false, h) := by
  refine call_scr rfl Fn.cmp_isNaN_int rfl rfl ?_
  repeat' (first | (show EndsR _ _ _ _ _ _ _; first | refine EndsR.seq ?_ | refine EndsR.reg ?_ | refine EndsR.yes rfl ?_ | refine EndsR.no rfl ?_ | refine EndsR.skip ?_ | refine EndsR.block ?_ | refine EndsR.endB ?_ | refine EndsR.exit rfl ?_ | refine EndsR.br rfl (fun hc => ?_) (fun hc => ?_) | refine EndsR.scope ?_ | refine EndsR.inScope ?_ | refine EndsR.label ?_ | refine EndsR.ret rfl ?_ | refine EndsR.nil rfl ?_) | (show EndsG _ _ _ _ _ _ _ _ _; first | refine EndsG.mov rfl rfl ?_ | refine EndsG.lload rfl rfl rfl rfl ?_ | refine EndsG.laddr rfl rfl rfl ?_ | refine EndsG.lss rfl rfl rfl (fun hc => ?_) (fun hc => ?_) | refine EndsG.leq rfl rfl rfl (fun hc => ?_) (fun hc => ?_) | refine EndsG.gtr rfl rfl rfl (fun hc => ?_) (fun hc => ?_) | refine EndsG.geq rfl rfl rfl (fun hc => ?_) (fun hc => ?_) | refine EndsG.eql rfl rfl rfl (fun hc => ?_) (fun hc => ?_) | refine EndsG.neq rfl rfl rfl (fun hc => ?_) (fun hc => ?_) | refine EndsG.skip rfl ?_ | refine EndsG.fin ?_ | refine EndsG.go rfl rfl rfl ?_ | refine EndsG.gono rfl rfl rfl ?_ | refine EndsG.skipn rfl ?_))
  · exact absurd rfl ‹_›
  · rfl

theorem bit_spec (lo : Nat) (h : Heap) (b : Bool) : callR En lo Id.plan_bit [.bool b] h = some (.int .i64 (bitI b), h) := by
  refine call_scr rfl Fn.plan_bit rfl rfl ?_
  cases b
  all_goals
    repeat' (first | (show EndsR _ _ _ _ _ _ _; first | refine EndsR.seq ?_ | refine EndsR.reg ?_ | refine EndsR.yes rfl ?_ | refine EndsR.no rfl ?_ | refine EndsR.skip ?_ | refine EndsR.block ?_ | refine EndsR.endB ?_ | refine EndsR.exit rfl ?_ | refine EndsR.br rfl (fun hc => ?_) (fun hc => ?_) | refine EndsR.scope ?_ | refine EndsR.inScope ?_ | refine EndsR.label ?_ | refine EndsR.ret rfl ?_ | refine EndsR.nil rfl ?_) | (show EndsG _ _ _ _ _ _ _ _ _; first | refine EndsG.mov rfl rfl ?_ | refine EndsG.lload rfl rfl rfl rfl ?_ | refine EndsG.laddr rfl rfl rfl ?_ | refine EndsG.lss rfl rfl rfl (fun hc => ?_) (fun hc => ?_) | refine EndsG.leq rfl rfl rfl (fun hc => ?_) (fun hc => ?_) | refine EndsG.gtr rfl rfl rfl (fun hc => ?_) (fun hc => ?_) | refine EndsG.geq rfl rfl rfl (fun hc => ?_) (fun hc => ?_) | refine EndsG.eql rfl rfl rfl (fun hc => ?_) (fun hc => ?_) | refine EndsG.neq rfl rfl rfl (fun hc => ?_) (fun hc => ?_) | refine EndsG.skip rfl ?_ | refine EndsG.fin ?_ | refine EndsG.go rfl rfl rfl ?_ | refine EndsG.gono rfl rfl rfl ?_ | refine EndsG.skipn rfl ?_))
    rfl

theorem compare_spec (lo : Nat) (h : Heap) (a b : Int) : callR En lo Id.cmp_Compare_int [.int .i64 a, .int .i64 b] h = some (.int .i64 (cmpI a b), h) := by
  refine call_scr rfl Fn.cmp_Compare_int rfl rfl ?_
  repeat' (first | (show EndsR _ _ _ _ _ _ _; first | refine EndsR.seq ?_ | refine EndsR.reg ?_ | refine EndsR.yes rfl ?_ | refine EndsR.no rfl ?_ | refine EndsR.skip ?_ | refine EndsR.block ?_ | refine EndsR.endB ?_ | refine EndsR.exit rfl ?_ | refine EndsR.br rfl (fun hc => ?_) (fun hc => ?_) | refine EndsR.scope ?_ | refine EndsR.inScope ?_ | refine EndsR.label ?_ | refine EndsR.ret rfl ?_ | refine EndsR.nil rfl ?_) | (show EndsG _ _ _ _ _ _ _ _ _; first | refine EndsG.mov rfl rfl ?_ | refine EndsG.lload rfl rfl rfl rfl ?_ | refine EndsG.laddr rfl rfl rfl ?_ | refine EndsG.lss rfl rfl rfl (fun hc => ?_) (fun hc => ?_) | refine EndsG.leq rfl rfl rfl (fun hc => ?_) (fun hc => ?_) | refine EndsG.gtr rfl rfl rfl (fun hc => ?_) (fun hc => ?_) | refine EndsG.geq rfl rfl rfl (fun hc => ?_) (fun hc => ?_) | refine EndsG.eql rfl rfl rfl (fun hc => ?_) (fun hc => ?_) | refine EndsG.neq rfl rfl rfl (fun hc => ?_) (fun hc => ?_) | refine EndsG.call rfl rfl (isNaN_spec _ _ _) ?_ | refine EndsG.skip rfl ?_ | refine EndsG.fin ?_ | refine EndsG.go rfl rfl rfl ?_ | refine EndsG.gono rfl rfl rfl ?_ | refine EndsG.skipn rfl ?_))
  all_goals (refine tidyI ?_; unfold cmpI; (repeat' split) <;> omega)

theorem or_spec (lo : Nat) {h : Heap} {v : Value} {l : List Int} (hv : Sl h 1 v (l.map fun n => [.int .i64 n])) (hl : l.length ≤ 100) :
    callR En lo Id.cmp_Or_int [v] h = some (.int .i64 (firstNZ l), h) := by
  obtain ⟨base, cap, hve⟩ := hv.len
  refine call_scr rfl Fn.cmp_Or_int rfl rfl ?_
  have hll : (l.map fun n => [Value.int .i64 n]).length = l.length := by simp
  rw [hll] at hve
  subst hve
  repeat' (first | (show EndsR _ _ _ _ _ _ _; first | refine EndsR.seq ?_ | refine EndsR.reg ?_ | refine EndsR.yes rfl ?_ | refine EndsR.no rfl ?_ | refine EndsR.skip ?_ | refine EndsR.block ?_ | refine EndsR.endB ?_ | refine EndsR.exit rfl ?_ | refine EndsR.br rfl (fun hc => ?_) (fun hc => ?_) | refine EndsR.scope ?_ | refine EndsR.inScope ?_ | refine EndsR.label ?_ | refine EndsR.ret rfl ?_ | refine EndsR.nil rfl ?_) | (show EndsG _ _ _ _ _ _ _ _ _; first | refine EndsG.mov rfl rfl ?_ | refine EndsG.lload rfl rfl rfl rfl ?_ | refine EndsG.laddr rfl rfl rfl ?_ | refine EndsG.lss rfl rfl rfl (fun hc => ?_) (fun hc => ?_) | refine EndsG.leq rfl rfl rfl (fun hc => ?_) (fun hc => ?_) | refine EndsG.gtr rfl rfl rfl (fun hc => ?_) (fun hc => ?_) | refine EndsG.geq rfl rfl rfl (fun hc => ?_) (fun hc => ?_) | refine EndsG.eql rfl rfl rfl (fun hc => ?_) (fun hc => ?_) | refine EndsG.neq rfl rfl rfl (fun hc => ?_) (fun hc => ?_) | refine EndsG.skip rfl ?_ | refine EndsG.fin ?_ | refine EndsG.go rfl rfl rfl ?_ | refine EndsG.gono rfl rfl rfl ?_ | refine EndsG.skipn rfl ?_))
  refine .loop (fun n f H => H = h ∧ ∃ i : Nat, n + i = l.length ∧ f = [(3, .int .i64 0), (6, .slice base l.length cap), (7, .int .i64 (l.length : Nat)), (8, .int .i64 (i : Nat))] ∧ firstNZ l = firstNZ (l.drop i)) (n := l.length)
    ⟨rfl, 0, rfl, rfl, rfl⟩ ?_
  rintro n f H ⟨rfl, i, hn, rfl, hI⟩ next
  by_cases hi : i < l.length
  · have hie : (l.map fun n => [Value.int .i64 n])[i]? = some [.int .i64 l[i]] := by simp [hi]
    refine Exists.elim (hv.at hie) fun a hq => Exists.elim hq fun cap' hq2 => ?_
    have hva := hq2.1
    have hld := hq2.2.1 0 _ rfl
    rw [hll] at hva
    injection hva with e1 e2 e3
    subst e1
    have hd : l.drop i = l[i] :: l.drop (i + 1) := List.drop_eq_getElem_cons hi
    generalize l[i] = x at hd hld
    repeat' (first | (show EndsR _ _ _ _ _ _ _; first | refine EndsR.seq ?_ | refine EndsR.reg ?_ | refine EndsR.yes rfl ?_ | refine EndsR.no rfl ?_ | refine EndsR.skip ?_ | refine EndsR.block ?_ | refine EndsR.endB ?_ | refine EndsR.exit rfl ?_ | refine EndsR.br rfl (fun hc => ?_) (fun hc => ?_) | refine EndsR.scope ?_ | refine EndsR.inScope ?_ | refine EndsR.label ?_ | refine EndsR.ret rfl ?_ | refine EndsR.nil rfl ?_) | (show EndsG _ _ _ _ _ _ _ _ _; first | refine EndsG.mov rfl rfl ?_ | refine EndsG.lload rfl rfl rfl rfl ?_ | refine EndsG.laddr rfl rfl rfl ?_ | refine EndsG.lss rfl rfl rfl (fun hc => ?_) (fun hc => ?_) | refine EndsG.leq rfl rfl rfl (fun hc => ?_) (fun hc => ?_) | refine EndsG.gtr rfl rfl rfl (fun hc => ?_) (fun hc => ?_) | refine EndsG.geq rfl rfl rfl (fun hc => ?_) (fun hc => ?_) | refine EndsG.eql rfl rfl rfl (fun hc => ?_) (fun hc => ?_) | refine EndsG.neq rfl rfl rfl (fun hc => ?_) (fun hc => ?_) | refine EndsG.load rfl rfl (hld) ?_ | refine EndsG.iaddr rfl rfl rfl (hi) ?_ | refine EndsG.skip rfl ?_ | refine EndsG.fin ?_ | refine EndsG.go rfl rfl rfl ?_ | refine EndsG.gono rfl rfl rfl ?_ | refine EndsG.skipn rfl ?_))
    · refine tidyI ?_
      rw [hI, hd, firstNZ, if_neg ‹_›]
    · refine next (n - 1) _ _ (by omega) ⟨rfl, i + 1, by omega, ?_, ?_⟩
      · show [(3, _), (6, _), (7, _), (8, Value.int .i64 (IntKind.i64.wrap ((i : Int) + 1)))] = _
        rw [wrap_small (by omega) (by omega)]; rfl
      · rw [hI, hd, firstNZ, if_pos ‹_›]
    · omega
  · repeat' (first | (show EndsR _ _ _ _ _ _ _; first | refine EndsR.seq ?_ | refine EndsR.reg ?_ | refine EndsR.yes rfl ?_ | refine EndsR.no rfl ?_ | refine EndsR.skip ?_ | refine EndsR.block ?_ | refine EndsR.endB ?_ | refine EndsR.exit rfl ?_ | refine EndsR.br rfl (fun hc => ?_) (fun hc => ?_) | refine EndsR.scope ?_ | refine EndsR.inScope ?_ | refine EndsR.label ?_ | refine EndsR.ret rfl ?_ | refine EndsR.nil rfl ?_) | (show EndsG _ _ _ _ _ _ _ _ _; first | refine EndsG.mov rfl rfl ?_ | refine EndsG.lload rfl rfl rfl rfl ?_ | refine EndsG.laddr rfl rfl rfl ?_ | refine EndsG.lss rfl rfl rfl (fun hc => ?_) (fun hc => ?_) | refine EndsG.leq rfl rfl rfl (fun hc => ?_) (fun hc => ?_) | refine EndsG.gtr rfl rfl rfl (fun hc => ?_) (fun hc => ?_) | refine EndsG.geq rfl rfl rfl (fun hc => ?_) (fun hc => ?_) | refine EndsG.eql rfl rfl rfl (fun hc => ?_) (fun hc => ?_) | refine EndsG.neq rfl rfl rfl (fun hc => ?_) (fun hc => ?_) | refine EndsG.skip rfl ?_ | refine EndsG.fin ?_ | refine EndsG.go rfl rfl rfl ?_ | refine EndsG.gono rfl rfl rfl ?_ | refine EndsG.skipn rfl ?_))
    · omega
    · refine tidyI ?_
      rw [hI, List.drop_of_length_le (by omega)]
      rfl

theorem ints_sl (h : Heap) (l : List Int) : Sl (h ++ [.row (l.map (.int .i64)) false]) 1 (.slice (some ⟨h.length, 0, none⟩) l.length l.length) (l.map fun n => [.int .i64 n]) := by
  refine ⟨fun e he => ?_, .inr ⟨⟨h.length, 0, none⟩, l.length, by simp, ?_⟩⟩
  · obtain ⟨x, _, rfl⟩ := List.mem_map.1 he
    rfl
  · have : (l.map fun n => [Value.int .i64 n]).flatten = l.map (.int .i64) := by
      induction l with
      | nil => rfl
      | cons a l ih => simp [ih]
    rw [this]
    exact ldN_whole (a := ⟨h.length, 0, none⟩) List.getElem?_concat_length rfl (by simp)

theorem byPlace_spec (lo : Nat) (h : Heap) (a b : Obj) : callR En lo Id.plan_byPlace [.agg a.cs.toArray, .agg b.cs.toArray] h = some (.int .i64 (placeI a b), h) := by
  refine call_scr rfl Fn.plan_byPlace rfl rfl ?_
  have hw : IntKind.i64.wrap (bitI a.fx - bitI b.fx) = bitI a.fx - bitI b.fx := by cases a.fx <;> cases b.fx <;> rfl
  repeat' (first | (show EndsR _ _ _ _ _ _ _; first | refine EndsR.seq ?_ | refine EndsR.reg ?_ | refine EndsR.yes rfl ?_ | refine EndsR.no rfl ?_ | refine EndsR.skip ?_ | refine EndsR.block ?_ | refine EndsR.endB ?_ | refine EndsR.exit rfl ?_ | refine EndsR.br rfl (fun hc => ?_) (fun hc => ?_) | refine EndsR.scope ?_ | refine EndsR.inScope ?_ | refine EndsR.label ?_ | refine EndsR.ret rfl ?_ | refine EndsR.nil rfl ?_) | (show EndsG _ _ _ _ _ _ _ _ _; first | refine EndsG.mov rfl rfl ?_ | refine EndsG.lload rfl rfl rfl rfl ?_ | refine EndsG.laddr rfl rfl rfl ?_ | refine EndsG.lss rfl rfl rfl (fun hc => ?_) (fun hc => ?_) | refine EndsG.leq rfl rfl rfl (fun hc => ?_) (fun hc => ?_) | refine EndsG.gtr rfl rfl rfl (fun hc => ?_) (fun hc => ?_) | refine EndsG.geq rfl rfl rfl (fun hc => ?_) (fun hc => ?_) | refine EndsG.eql rfl rfl rfl (fun hc => ?_) (fun hc => ?_) | refine EndsG.neq rfl rfl rfl (fun hc => ?_) (fun hc => ?_) | refine EndsG.call rfl rfl (compare_spec _ _ _ _) ?_ | refine EndsG.call rfl rfl (bit_spec _ _ _) ?_ | refine EndsG.call rfl rfl (or_spec _ (ints_sl _ [cmpI a.o b.o, cmpI a.s b.s, cmpI a.n b.n, IntKind.i64.wrap (bitI a.fx - bitI b.fx)]) (Nat.le_of_ble_eq_true rfl)) ?_ | refine EndsG.skip rfl ?_ | refine EndsG.fin ?_ | refine EndsG.go rfl rfl rfl ?_ | refine EndsG.gono rfl rfl rfl ?_ | refine EndsG.skipn rfl ?_))
  refine tidyI ?_
  rw [hw, placeI]

theorem begins_spec (lo : Nat) (h : Heap) (a b : Obj) : callR En lo Id.plan_begins [.agg a.cs.toArray, .agg b.cs.toArray] h = some (.bool (hasB b a.o), h) := by
  refine call_scr rfl Fn.plan_begins rfl rfl ?_
  repeat' (first | (show EndsR _ _ _ _ _ _ _; first | refine EndsR.seq ?_ | refine EndsR.reg ?_ | refine EndsR.yes rfl ?_ | refine EndsR.no rfl ?_ | refine EndsR.skip ?_ | refine EndsR.block ?_ | refine EndsR.endB ?_ | refine EndsR.exit rfl ?_ | refine EndsR.br rfl (fun hc => ?_) (fun hc => ?_) | refine EndsR.scope ?_ | refine EndsR.inScope ?_ | refine EndsR.label ?_ | refine EndsR.ret rfl ?_ | refine EndsR.nil rfl ?_) | (show EndsG _ _ _ _ _ _ _ _ _; first | refine EndsG.mov rfl rfl ?_ | refine EndsG.lload rfl rfl rfl rfl ?_ | refine EndsG.laddr rfl rfl rfl ?_ | refine EndsG.lss rfl rfl rfl (fun hc => ?_) (fun hc => ?_) | refine EndsG.leq rfl rfl rfl (fun hc => ?_) (fun hc => ?_) | refine EndsG.gtr rfl rfl rfl (fun hc => ?_) (fun hc => ?_) | refine EndsG.geq rfl rfl rfl (fun hc => ?_) (fun hc => ?_) | refine EndsG.eql rfl rfl rfl (fun hc => ?_) (fun hc => ?_) | refine EndsG.neq rfl rfl rfl (fun hc => ?_) (fun hc => ?_) | refine EndsG.skip rfl ?_ | refine EndsG.fin ?_ | refine EndsG.go rfl rfl rfl ?_ | refine EndsG.gono rfl rfl rfl ?_ | refine EndsG.skipn rfl ?_))
  all_goals (refine tidyB ?_; simp [hasB, *])

def wrongB (arena : Int) (x : Obj) : Bool := decide (x.o < 0) || decide (x.n < 1) || decide (4096 < x.n) || decide (IntKind.i64.wrap (arena - x.n) < x.o)

theorem check1_spec (lo : Nat) {h : Heap} {a : Addr} {arena : Int} (hld : loadV h none a = some (.int .i64 arena)) (x : Obj) :
    callR En lo Id.plan_Check_1 [.agg x.cs.toArray, .pointer (some a)] h = some (.bool (wrongB arena x), h) := by
  refine call_scr rfl Fn.plan_Check_1 rfl rfl ?_
  repeat' (first | (show EndsR _ _ _ _ _ _ _; first | refine EndsR.seq ?_ | refine EndsR.reg ?_ | refine EndsR.yes rfl ?_ | refine EndsR.no rfl ?_ | refine EndsR.skip ?_ | refine EndsR.block ?_ | refine EndsR.endB ?_ | refine EndsR.exit rfl ?_ | refine EndsR.br rfl (fun hc => ?_) (fun hc => ?_) | refine EndsR.scope ?_ | refine EndsR.inScope ?_ | refine EndsR.label ?_ | refine EndsR.ret rfl ?_ | refine EndsR.nil rfl ?_) | (show EndsG _ _ _ _ _ _ _ _ _; first | refine EndsG.mov rfl rfl ?_ | refine EndsG.lload rfl rfl rfl rfl ?_ | refine EndsG.laddr rfl rfl rfl ?_ | refine EndsG.lss rfl rfl rfl (fun hc => ?_) (fun hc => ?_) | refine EndsG.leq rfl rfl rfl (fun hc => ?_) (fun hc => ?_) | refine EndsG.gtr rfl rfl rfl (fun hc => ?_) (fun hc => ?_) | refine EndsG.geq rfl rfl rfl (fun hc => ?_) (fun hc => ?_) | refine EndsG.eql rfl rfl rfl (fun hc => ?_) (fun hc => ?_) | refine EndsG.neq rfl rfl rfl (fun hc => ?_) (fun hc => ?_) | refine EndsG.load rfl rfl (hld) ?_ | refine EndsG.skip rfl ?_ | refine EndsG.fin ?_ | refine EndsG.go rfl rfl rfl ?_ | refine EndsG.gono rfl rfl rfl ?_ | refine EndsG.skipn rfl ?_))
  all_goals (refine tidyB ?_; simp [wrongB, *])

theorem apart1_spec (lo : Nat) (h : Heap) (x : Obj) : callR En lo Id.plan_Apart_1 [.agg x.cs.toArray] h = some (.bool (decide (x.n < 1)), h) := by
  refine call_scr rfl Fn.plan_Apart_1 rfl rfl ?_
  repeat' (first | (show EndsR _ _ _ _ _ _ _; first | refine EndsR.seq ?_ | refine EndsR.reg ?_ | refine EndsR.yes rfl ?_ | refine EndsR.no rfl ?_ | refine EndsR.skip ?_ | refine EndsR.block ?_ | refine EndsR.endB ?_ | refine EndsR.exit rfl ?_ | refine EndsR.br rfl (fun hc => ?_) (fun hc => ?_) | refine EndsR.scope ?_ | refine EndsR.inScope ?_ | refine EndsR.label ?_ | refine EndsR.ret rfl ?_ | refine EndsR.nil rfl ?_) | (show EndsG _ _ _ _ _ _ _ _ _; first | refine EndsG.mov rfl rfl ?_ | refine EndsG.lload rfl rfl rfl rfl ?_ | refine EndsG.laddr rfl rfl rfl ?_ | refine EndsG.lss rfl rfl rfl (fun hc => ?_) (fun hc => ?_) | refine EndsG.leq rfl rfl rfl (fun hc => ?_) (fun hc => ?_) | refine EndsG.gtr rfl rfl rfl (fun hc => ?_) (fun hc => ?_) | refine EndsG.geq rfl rfl rfl (fun hc => ?_) (fun hc => ?_) | refine EndsG.eql rfl rfl rfl (fun hc => ?_) (fun hc => ?_) | refine EndsG.neq rfl rfl rfl (fun hc => ?_) (fun hc => ?_) | refine EndsG.skip rfl ?_ | refine EndsG.fin ?_ | refine EndsG.go rfl rfl rfl ?_ | refine EndsG.gono rfl rfl rfl ?_ | refine EndsG.skipn rfl ?_))
  all_goals (refine tidyB ?_; simp [*])

theorem apart2_spec (lo : Nat) {h : Heap} {a : Addr} {x : Obj} (hld : loadV h (some 4) a = some (.agg x.cs.toArray)) (y : Obj) :
    callR En lo Id.plan_Apart_2 [.agg y.cs.toArray, .pointer (some a)] h = some (.bool (hasB y x.o || hasB x y.o), h) := by
  refine call_scr rfl Fn.plan_Apart_2 rfl rfl ?_
  repeat' (first | (show EndsR _ _ _ _ _ _ _; first | refine EndsR.seq ?_ | refine EndsR.reg ?_ | refine EndsR.yes rfl ?_ | refine EndsR.no rfl ?_ | refine EndsR.skip ?_ | refine EndsR.block ?_ | refine EndsR.endB ?_ | refine EndsR.exit rfl ?_ | refine EndsR.br rfl (fun hc => ?_) (fun hc => ?_) | refine EndsR.scope ?_ | refine EndsR.inScope ?_ | refine EndsR.label ?_ | refine EndsR.ret rfl ?_ | refine EndsR.nil rfl ?_) | (show EndsG _ _ _ _ _ _ _ _ _; first | refine EndsG.mov rfl rfl ?_ | refine EndsG.lload rfl rfl rfl rfl ?_ | refine EndsG.laddr rfl rfl rfl ?_ | refine EndsG.lss rfl rfl rfl (fun hc => ?_) (fun hc => ?_) | refine EndsG.leq rfl rfl rfl (fun hc => ?_) (fun hc => ?_) | refine EndsG.gtr rfl rfl rfl (fun hc => ?_) (fun hc => ?_) | refine EndsG.geq rfl rfl rfl (fun hc => ?_) (fun hc => ?_) | refine EndsG.eql rfl rfl rfl (fun hc => ?_) (fun hc => ?_) | refine EndsG.neq rfl rfl rfl (fun hc => ?_) (fun hc => ?_) | refine EndsG.load rfl rfl (hld) ?_ | refine EndsG.callb rfl rfl (begins_spec _ _ x y) (fun hc => ?_) (fun hc => ?_) | refine EndsG.callb rfl rfl (begins_spec _ _ y x) (fun hc => ?_) (fun hc => ?_) | refine EndsG.skip rfl ?_ | refine EndsG.fin ?_ | refine EndsG.go rfl rfl rfl ?_ | refine EndsG.gono rfl rfl rfl ?_ | refine EndsG.skipn rfl ?_))
  all_goals (refine tidyB ?_; simp [*])
end
end Go.Proofs.Ytclgilndihagiaa

/- Whether objects may be, by the document. -/
set_option linter.unusedVariables false
set_option linter.unusedSimpArgs false
namespace Go.Proofs.Ytclgilndihagiaa
open Go Go.Ir

def fineP (arena : Int) (x : Obj) : Prop := 0 ≤ x.o ∧ 1 ≤ x.n ∧ x.n ≤ 4096 ∧ x.o ≤ IntKind.i64.wrap (arena - x.n)
def okP (arena : Int) (l : List Obj) : Prop := 0 ≤ arena ∧ arena ≤ 4096 ∧ apartP l ∧ ∀ (i : Nat) (x : Obj), l[i]? = some x → fineP arena x

open Classical in
noncomputable def okN (arena : Int) (l : List Obj) : Int := if okP arena l then 0 else 1
open Classical in
theorem okN_0 {arena : Int} {l : List Obj} (h : okP arena l) : okN arena l = 0 := by unfold okN; exact if_pos h
open Classical in
theorem okN_1 {arena : Int} {l : List Obj} (h : ¬ okP arena l) : okN arena l = 1 := by unfold okN; exact if_neg h

theorem refCheck_spec (lo : Nat) {h : Heap} {v : Value} {l : List Obj} {arena : Int} (hv : Sl h 4 v (css l)) (hl : l.length ≤ 1000) :
    callR En lo Id.sidingsref17_Check [v, .int .i64 arena] h = some (.int .i64 (okN arena l), h) := by
  have hcl : (css l).length = l.length := by simp [css]
  have hsA := fun lo => refApart_spec (prims := pr) rfl rfl rfl (lo := lo) hv hl
  obtain ⟨base, cap, hve⟩ := hv.len
  refine call_scr rfl Fn.sidingsref17_Check rfl rfl ?_
  repeat' (first | (show EndsR _ _ _ _ _ _ _; first | refine EndsR.seq ?_ | refine EndsR.reg ?_ | refine EndsR.yes rfl ?_ | refine EndsR.no rfl ?_ | refine EndsR.skip ?_ | refine EndsR.block ?_ | refine EndsR.endB ?_ | refine EndsR.exit rfl ?_ | refine EndsR.br rfl (fun hc => ?_) (fun hc => ?_) | refine EndsR.scope ?_ | refine EndsR.inScope ?_ | refine EndsR.label ?_ | refine EndsR.ret rfl ?_ | refine EndsR.nil rfl ?_) | (show EndsG _ _ _ _ _ _ _ _ _; first | refine EndsG.mov rfl rfl ?_ | refine EndsG.lload rfl rfl rfl rfl ?_ | refine EndsG.laddr rfl rfl rfl ?_ | refine EndsG.lss rfl rfl rfl (fun hc => ?_) (fun hc => ?_) | refine EndsG.leq rfl rfl rfl (fun hc => ?_) (fun hc => ?_) | refine EndsG.gtr rfl rfl rfl (fun hc => ?_) (fun hc => ?_) | refine EndsG.geq rfl rfl rfl (fun hc => ?_) (fun hc => ?_) | refine EndsG.eql rfl rfl rfl (fun hc => ?_) (fun hc => ?_) | refine EndsG.neq rfl rfl rfl (fun hc => ?_) (fun hc => ?_) | refine EndsG.callb rfl rfl (hsA _) (fun hc => ?_) (fun hc => ?_) | refine EndsG.skip rfl ?_ | refine EndsG.fin ?_ | refine EndsG.go rfl rfl rfl ?_ | refine EndsG.gono rfl rfl rfl ?_ | refine EndsG.skipn rfl ?_))
  · exact tidyI (okN_1 (fun hk => by have := hk.1; omega)).symm
  · exact tidyI (okN_1 (fun hk => by have := hk.2.1; omega)).symm
  · have h3 : apartP l := Classical.byContradiction fun hn => by rw [apartB_false hn] at hc; cases hc
    refine .loop (fun n f H => H = h ∧ ∃ i : Nat, n + i = l.length ∧ f = [(0, v), (1, .int .i64 arena), (5, .int .i64 (i : Nat))] ∧ ∀ (i' : Nat) (x : Obj), i' < i → l[i']? = some x → fineP arena x) (n := l.length)
      ⟨rfl, 0, rfl, rfl, fun i' x hi => by omega⟩ ?_
    rintro n f H ⟨rfl, i, hn, rfl, hI⟩ next
    subst hve
    by_cases hi : i < l.length
    · have hne : css l ≠ [] := fun e => by rw [e] at hcl; simp at hcl; omega
      refine Exists.elim (hv.row hne) fun a hq => Exists.elim hq fun cap' hq2 => ?_
      have hva := hq2.1
      have hld := hq2.2
      injection hva with e1 e2 e3
      subst e1
      have hgi : l[i]? = some l[i] := List.getElem?_eq_getElem hi
      have q1 := (hld i _ (css_get hgi)).1 1 _ rfl
      have q2 := (hld i _ (css_get hgi)).1 2 _ rfl
      have hi' : i < (css l).length := by omega
      generalize l[i] = x at hgi q1 q2
      have bad : ¬ fineP arena x → okN arena l = 1 := fun hb => okN_1 fun hk => hb (hk.2.2.2 i x hgi)
      repeat' (first | (show EndsR _ _ _ _ _ _ _; first | refine EndsR.seq ?_ | refine EndsR.reg ?_ | refine EndsR.yes rfl ?_ | refine EndsR.no rfl ?_ | refine EndsR.skip ?_ | refine EndsR.block ?_ | refine EndsR.endB ?_ | refine EndsR.exit rfl ?_ | refine EndsR.br rfl (fun hc => ?_) (fun hc => ?_) | refine EndsR.scope ?_ | refine EndsR.inScope ?_ | refine EndsR.label ?_ | refine EndsR.ret rfl ?_ | refine EndsR.nil rfl ?_) | (show EndsG _ _ _ _ _ _ _ _ _; first | refine EndsG.mov rfl rfl ?_ | refine EndsG.lload rfl rfl rfl rfl ?_ | refine EndsG.laddr rfl rfl rfl ?_ | refine EndsG.lss rfl rfl rfl (fun hc => ?_) (fun hc => ?_) | refine EndsG.leq rfl rfl rfl (fun hc => ?_) (fun hc => ?_) | refine EndsG.gtr rfl rfl rfl (fun hc => ?_) (fun hc => ?_) | refine EndsG.geq rfl rfl rfl (fun hc => ?_) (fun hc => ?_) | refine EndsG.eql rfl rfl rfl (fun hc => ?_) (fun hc => ?_) | refine EndsG.neq rfl rfl rfl (fun hc => ?_) (fun hc => ?_) | refine EndsG.load rfl rfl (q1) ?_ | refine EndsG.load rfl rfl (q2) ?_ | refine EndsG.iaddr rfl rfl rfl (hi') ?_ | refine EndsG.skip rfl ?_ | refine EndsG.fin ?_ | refine EndsG.go rfl rfl rfl ?_ | refine EndsG.gono rfl rfl rfl ?_ | refine EndsG.skipn rfl ?_))
      all_goals first | (exact tidyI (bad fun hb => by have h1 := hb.1; have h2 := hb.2.1; have h3 := hb.2.2.1; have h4 := hb.2.2.2; omega).symm) | skip
      · refine next (n - 1) _ _ (by omega) ⟨rfl, i + 1, by omega, ?_, fun i' y hy1 hy => ?_⟩
        · show [(0, _), (1, _), (5, Value.int .i64 (IntKind.i64.wrap ((i : Int) + 1)))] = _
          rw [wrap_small (by omega) (by omega)]; rfl
        · by_cases hii : i' = i
          · subst hii; rw [hgi] at hy; injection hy with hy; subst hy
            exact ⟨by omega, by omega, by omega, by omega⟩
          · exact hI i' y (by omega) hy
      · omega
    · repeat' (first | (show EndsR _ _ _ _ _ _ _; first | refine EndsR.seq ?_ | refine EndsR.reg ?_ | refine EndsR.yes rfl ?_ | refine EndsR.no rfl ?_ | refine EndsR.skip ?_ | refine EndsR.block ?_ | refine EndsR.endB ?_ | refine EndsR.exit rfl ?_ | refine EndsR.br rfl (fun hc => ?_) (fun hc => ?_) | refine EndsR.scope ?_ | refine EndsR.inScope ?_ | refine EndsR.label ?_ | refine EndsR.ret rfl ?_ | refine EndsR.nil rfl ?_) | (show EndsG _ _ _ _ _ _ _ _ _; first | refine EndsG.mov rfl rfl ?_ | refine EndsG.lload rfl rfl rfl rfl ?_ | refine EndsG.laddr rfl rfl rfl ?_ | refine EndsG.lss rfl rfl rfl (fun hc => ?_) (fun hc => ?_) | refine EndsG.leq rfl rfl rfl (fun hc => ?_) (fun hc => ?_) | refine EndsG.gtr rfl rfl rfl (fun hc => ?_) (fun hc => ?_) | refine EndsG.geq rfl rfl rfl (fun hc => ?_) (fun hc => ?_) | refine EndsG.eql rfl rfl rfl (fun hc => ?_) (fun hc => ?_) | refine EndsG.neq rfl rfl rfl (fun hc => ?_) (fun hc => ?_) | refine EndsG.skip rfl ?_ | refine EndsG.fin ?_ | refine EndsG.go rfl rfl rfl ?_ | refine EndsG.gono rfl rfl rfl ?_ | refine EndsG.skipn rfl ?_))
      · omega
      · exact tidyI (okN_0 ⟨by omega, by omega, h3, fun i' x hx => hI i' x (by have := (List.getElem?_eq_some_iff.1 hx).1; omega) hx⟩).symm
  · exact tidyI (okN_1 (fun hk => by rw [apartB_true hk.2.2.1] at hc; cases hc)).symm
end Go.Proofs.Ytclgilndihagiaa

/- The document's order, and its sort. -/
set_option linter.unusedVariables false
set_option linter.unusedSimpArgs false
namespace Go.Proofs.Ytclgilndihagiaa
open Go Go.Ir

def aheadB (a b : Obj) : Bool :=
  if a.o = b.o then (if a.s = b.s then (if a.n = b.n then !a.fx && b.fx else decide (a.n < b.n)) else decide (a.s < b.s)) else decide (a.o < b.o)

theorem ahead_spec (lo : Nat) (h : Heap) (a b : Obj) : callR En lo Id.sidingsref17_ahead [.agg a.cs.toArray, .agg b.cs.toArray] h = some (.bool (aheadB a b), h) := by
  refine call_scr rfl Fn.sidingsref17_ahead rfl rfl ?_
  rcases a with ⟨as, ao, an, af⟩
  rcases b with ⟨bs, bo, bn, bf⟩
  cases af <;> cases bf
  all_goals
    repeat' (first | (show EndsR _ _ _ _ _ _ _; first | refine EndsR.seq ?_ | refine EndsR.reg ?_ | refine EndsR.yes rfl ?_ | refine EndsR.no rfl ?_ | refine EndsR.skip ?_ | refine EndsR.block ?_ | refine EndsR.endB ?_ | refine EndsR.exit rfl ?_ | refine EndsR.br rfl (fun hc => ?_) (fun hc => ?_) | refine EndsR.scope ?_ | refine EndsR.inScope ?_ | refine EndsR.label ?_ | refine EndsR.ret rfl ?_ | refine EndsR.nil rfl ?_) | (show EndsG _ _ _ _ _ _ _ _ _; first | refine EndsG.mov rfl rfl ?_ | refine EndsG.lload rfl rfl rfl rfl ?_ | refine EndsG.laddr rfl rfl rfl ?_ | refine EndsG.lss rfl rfl rfl (fun hc => ?_) (fun hc => ?_) | refine EndsG.leq rfl rfl rfl (fun hc => ?_) (fun hc => ?_) | refine EndsG.gtr rfl rfl rfl (fun hc => ?_) (fun hc => ?_) | refine EndsG.geq rfl rfl rfl (fun hc => ?_) (fun hc => ?_) | refine EndsG.eql rfl rfl rfl (fun hc => ?_) (fun hc => ?_) | refine EndsG.neq rfl rfl rfl (fun hc => ?_) (fun hc => ?_) | refine EndsG.skip rfl ?_ | refine EndsG.fin ?_ | refine EndsG.go rfl rfl rfl ?_ | refine EndsG.gono rfl rfl rfl ?_ | refine EndsG.skipn rfl ?_))
    all_goals (refine tidyB ?_; dsimp only at *; simp only [aheadB]; (repeat' split) <;> simp_all)

def insB (x : Obj) : List Obj → List Obj
  | [] => [x]
  | y :: r => if aheadB x y then x :: y :: r else y :: insB x r
def sortR (l : List Obj) : List Obj := l.foldl (fun acc x => insB x acc) []

theorem insB_len (x : Obj) : ∀ l, (insB x l).length = l.length + 1
  | [] => rfl
  | y :: r => by
    unfold insB
    split
    · simp
    · simp [insB_len x r]

theorem foldl_take_succ {α β : Type} (f : β → α → β) (b : β) (l : List α) {i : Nat} (hi : i < l.length) : (l.take (i + 1)).foldl f b = f ((l.take i).foldl f b) l[i] := by
  rw [List.take_succ_eq_append_getElem hi, List.foldl_append]
  rfl

theorem sortR_len (l : List Obj) : (sortR l).length = l.length := by
  have : ∀ (l acc : List Obj), (l.foldl (fun acc x => insB x acc) acc).length = acc.length + l.length := by
    intro l
    induction l with
    | nil => simp
    | cons x l ih => intro acc; rw [List.foldl_cons, ih, insB_len, List.length_cons]; omega
  have h := this l []
  simp only [List.length_nil, Nat.zero_add] at h
  exact h

theorem Out.mono {H : Heap} {lo lo' n : Nat} {v : Value} {es : List (List Value)} (o : Out H lo n v es) (h : lo' ≤ lo) : Out H lo' n v es := by
  refine ⟨o.1, ?_⟩
  rcases o.2 with h1 | ⟨h0, b, h1, h2, h3⟩
  · exact .inl h1
  · exact .inr ⟨h0, b, h1, by omega, h3⟩

theorem css_app (l : List Obj) (x : Obj) : css l ++ [x.cs] = css (l ++ [x]) := by simp [css]

theorem css_length (l : List Obj) : (css l).length = l.length := by simp [css]

theorem css_row {h : Heap} {v : Value} {l : List Obj} (hv : Sl h 4 v (css l)) {i : Nat} {x : Obj} (hi : l[i]? = some x) :
    ∃ a cap, v = .slice (some a) l.length cap ∧ loadV h (some 4) ⟨a.block, a.off + i * 4, none⟩ = some (.agg x.cs.toArray) ∧
      loadV h none ⟨a.block, a.off + i * 4 + 0, none⟩ = some (.int .i64 x.s) ∧ loadV h none ⟨a.block, a.off + i * 4 + 1, none⟩ = some (.int .i64 x.o) ∧
      loadV h none ⟨a.block, a.off + i * 4 + 2, none⟩ = some (.int .i64 x.n) ∧ loadV h none ⟨a.block, a.off + i * 4 + 3, none⟩ = some (.bool x.fx) := by
  obtain ⟨a, cap, h1, h2, h3⟩ := hv.at (css_get hi)
  rw [css_length] at h1
  exact ⟨a, cap, h1, h3, h2 0 _ rfl, h2 1 _ rfl, h2 2 _ rfl, h2 3 _ rfl⟩

theorem ldV_ext {h h' : Heap} (e : Ext h h') {n : Option Nat} {a : Addr} {v : Value} (hl : loadV h n a = some v) : loadV h' n a = some v := by
  have key : ∀ cs, hrow h a.block = some cs → hrow h' a.block = some cs := fun cs hc => by
    unfold hrow at hc ⊢
    split at hc <;> try (cases hc; done)
    rename_i cs' ro hb
    rw [e.2 _ (List.getElem?_eq_some_iff.1 hb).1, hb]
    exact hc
  cases n with
  | none =>
    unfold loadV ld1 at hl ⊢
    simp only at hl ⊢
    split at hl <;> try (cases hl; done)
    rename_i cs hc
    rw [key cs hc]; exact hl
  | some n =>
    unfold loadV ldN at hl ⊢
    simp only at hl ⊢
    split at hl <;> try (cases hl; done)
    rename_i l' hl'
    split at hl' <;> try (cases hl'; done)
    rename_i cs hc
    rw [key cs hc]
    simp only [hl']
    exact hl

theorem refSort_spec (lo : Nat) {h : Heap} {v : Value} {l : List Obj} (hv : Sl h 4 v (css l)) (hl : l.length ≤ 1000) :
    callR En lo Id.sidingsref17_Sort [v] h = some (made h 4 (css (sortR l))) := by
  have hve := hv.len
  refine Exists.elim hve fun base hq => Exists.elim hq fun cap hve => ?_
  rw [css_length] at hve
  refine call_scr rfl Fn.sidingsref17_Sort rfl rfl ?_
  repeat' (first | (show EndsR _ _ _ _ _ _ _; first | refine EndsR.seq ?_ | refine EndsR.reg ?_ | refine EndsR.yes rfl ?_ | refine EndsR.no rfl ?_ | refine EndsR.skip ?_ | refine EndsR.block ?_ | refine EndsR.endB ?_ | refine EndsR.exit rfl ?_ | refine EndsR.br rfl (fun hc => ?_) (fun hc => ?_) | refine EndsR.scope ?_ | refine EndsR.inScope ?_ | refine EndsR.label ?_ | refine EndsR.ret rfl ?_ | refine EndsR.nil rfl ?_) | (show EndsG _ _ _ _ _ _ _ _ _; first | refine EndsG.mov rfl rfl ?_ | refine EndsG.lload rfl rfl rfl rfl ?_ | refine EndsG.laddr rfl rfl rfl ?_ | refine EndsG.lss rfl rfl rfl (fun hc => ?_) (fun hc => ?_) | refine EndsG.leq rfl rfl rfl (fun hc => ?_) (fun hc => ?_) | refine EndsG.gtr rfl rfl rfl (fun hc => ?_) (fun hc => ?_) | refine EndsG.geq rfl rfl rfl (fun hc => ?_) (fun hc => ?_) | refine EndsG.eql rfl rfl rfl (fun hc => ?_) (fun hc => ?_) | refine EndsG.neq rfl rfl rfl (fun hc => ?_) (fun hc => ?_) | refine EndsG.skip rfl ?_ | refine EndsG.fin ?_ | refine EndsG.go rfl rfl rfl ?_ | refine EndsG.gono rfl rfl rfl ?_ | refine EndsG.skipn rfl ?_))
  refine .loop (fun n f H => ∃ (i : Nat) (out : Value), n + i = l.length ∧ f = [(0, v), (3, out), (4, .int .i64 (i : Nat))] ∧ Ext h H ∧ Out H h.length 4 out (css (sortR (l.take i)))) (n := l.length)
    ⟨0, _, rfl, rfl, .refl _, Out.nil _ _ _⟩ ?_
  rintro n f H ⟨i, out, hn, rfl, hx, ho⟩ next
  by_cases hi : i < l.length
  · have hgi : l[i]? = some l[i] := List.getElem?_eq_getElem hi
    have hstep : sortR (l.take (i + 1)) = insB l[i] (sortR (l.take i)) := foldl_take_succ _ _ l hi
    have hsl : (sortR (l.take i)).length = i := by rw [sortR_len, List.length_take]; omega
    generalize sortR (l.take i) = so at ho hstep hsl
    refine Exists.elim (css_row hv hgi) fun a hq => Exists.elim hq fun cap' hq => ?_
    have hva := hq.1
    have qx := fun {H' : Heap} (e : Ext h H') => ldV_ext e hq.2.1
    generalize l[i] = x at hstep qx
    rw [hve] at hva
    injection hva with e1 e2 e3
    subst hve e1
    have hol := ho.sl.len
    refine Exists.elim hol fun ob hq2 => Exists.elim hq2 fun oc hoe => ?_
    rw [css_length, hsl] at hoe
    subst hoe
    repeat' (first | (show EndsR _ _ _ _ _ _ _; first | refine EndsR.seq ?_ | refine EndsR.reg ?_ | refine EndsR.yes rfl ?_ | refine EndsR.no rfl ?_ | refine EndsR.skip ?_ | refine EndsR.block ?_ | refine EndsR.endB ?_ | refine EndsR.exit rfl ?_ | refine EndsR.br rfl (fun hc => ?_) (fun hc => ?_) | refine EndsR.scope ?_ | refine EndsR.inScope ?_ | refine EndsR.label ?_ | refine EndsR.ret rfl ?_ | refine EndsR.nil rfl ?_) | (show EndsG _ _ _ _ _ _ _ _ _; first | refine EndsG.mov rfl rfl ?_ | refine EndsG.lload rfl rfl rfl rfl ?_ | refine EndsG.laddr rfl rfl rfl ?_ | refine EndsG.lss rfl rfl rfl (fun hc => ?_) (fun hc => ?_) | refine EndsG.leq rfl rfl rfl (fun hc => ?_) (fun hc => ?_) | refine EndsG.gtr rfl rfl rfl (fun hc => ?_) (fun hc => ?_) | refine EndsG.geq rfl rfl rfl (fun hc => ?_) (fun hc => ?_) | refine EndsG.eql rfl rfl rfl (fun hc => ?_) (fun hc => ?_) | refine EndsG.neq rfl rfl rfl (fun hc => ?_) (fun hc => ?_) | refine EndsG.skip rfl ?_ | refine EndsG.fin ?_ | refine EndsG.go rfl rfl rfl ?_ | refine EndsG.gono rfl rfl rfl ?_ | refine EndsG.skipn rfl ?_))
    · refine .loop (fun m f H' => ∃ (k : Nat) (nx : Value) (laid : Bool) (N : List Obj), m + k = i ∧
          f = [(0, .slice (some a) l.length cap), (3, .slice ob i oc), (4, .int .i64 (i : Nat)), (5, nx), (6, .bool laid), (7, .int .i64 (k : Nat))] ∧ Ext H H' ∧ Out H' H.length 4 nx (css N) ∧
          N.length ≤ k + 1 ∧ (laid = false → N = so.take k ∧ insB x so = N ++ insB x (so.drop k)) ∧ (laid = true → insB x so = N ++ so.drop k)) (n := i)
        ⟨0, _, false, [], rfl, rfl, .refl _, Out.nil _ _ _, Nat.zero_le _, fun _ => ⟨rfl, rfl⟩, fun e => by cases e⟩ ?_
      rintro m f H' ⟨k, nx, laid, N, hm, rfl, hx', hN, hNl, hI0, hI1⟩ nextk
      by_cases hk : k < i
      · have hgk : so[k]? = some (so[k]'(by omega)) := List.getElem?_eq_getElem (by omega)
        have hd : so.drop k = so[k]'(by omega) :: so.drop (k + 1) := List.drop_eq_getElem_cons (by omega)
        have htk : so.take (k + 1) = so.take k ++ [so[k]'(by omega)] := List.take_succ_eq_append_getElem (by omega)
        refine Exists.elim (css_row ho.sl hgk) fun oa hq => Exists.elim hq fun oc' hq => ?_
        have hoa := hq.1
        have qy := fun {H1 : Heap} (e : Ext H H1) => ldV_ext e hq.2.1
        generalize so[k]'(by omega) = y at hd htk qy
        injection hoa with e1 e2 e3
        subst e1
        have hki : k < i := hk
        have pushx := fun {H1 : Heap} {nx1 : Value} {N1 : List Obj} (hlen : N1.length ≤ 1002) (hE : Ext H H1) (o1 : Out H1 H.length 4 nx1 (css N1)) =>
          o1.push2 (l0 := h.length) (e := x.cs) (bytes := 32) rfl hx.1 hE.1 (by rw [css_length]; omega) (by omega)
        have pushy := fun {H1 : Heap} {nx1 : Value} {N1 : List Obj} (hlen : N1.length ≤ 1002) (hE : Ext H H1) (o1 : Out H1 H.length 4 nx1 (css N1)) =>
          o1.push2 (l0 := h.length) (e := y.cs) (bytes := 32) rfl hx.1 hE.1 (by rw [css_length]; omega) (by omega)
        have fin1 : ∀ {nx' : Value} {laid' : Bool} {f : Fr} {H1 : Heap} {N' : List Obj}, Ext H H1 → Out H1 H.length 4 nx' (css N') → N'.length ≤ k + 2 →
            (laid' = false → N' = so.take (k + 1) ∧ insB x so = N' ++ insB x (so.drop (k + 1))) → (laid' = true → insB x so = N' ++ so.drop (k + 1)) →
            keep [0, 3, 4, 5, 6, 7] f = [(0, .slice (some a) l.length cap), (3, .slice (some oa) i oc), (4, .int .i64 (i : Nat)), (5, nx'), (6, .bool laid'), (7, .int .i64 (IntKind.i64.wrap ((k : Int) + 1)))] → _ :=
          fun {nx'} {laid'} {f} {H1} {N'} g1 g2 g3 g4 g5 g6 => nextk (m - 1) f H1 (by omega) ⟨k + 1, nx', laid', N', by omega, by rw [g6, wrap_small (by omega) (by omega)]; rfl, g1, g2, g3, g4, g5⟩
        cases laid with
        | false =>
          have hN0 := hI0 rfl
          have hT : N.length ≤ k := by rw [hN0.1, List.length_take]; omega
          repeat' (first | (show EndsR _ _ _ _ _ _ _; first | refine EndsR.seq ?_ | refine EndsR.reg ?_ | refine EndsR.yes rfl ?_ | refine EndsR.no rfl ?_ | refine EndsR.skip ?_ | refine EndsR.block ?_ | refine EndsR.endB ?_ | refine EndsR.exit rfl ?_ | refine EndsR.br rfl (fun hc => ?_) (fun hc => ?_) | refine EndsR.scope ?_ | refine EndsR.inScope ?_ | refine EndsR.label ?_ | refine EndsR.ret rfl ?_ | refine EndsR.nil rfl ?_) | (show EndsG _ _ _ _ _ _ _ _ _; first | refine EndsG.mov rfl rfl ?_ | refine EndsG.lload rfl rfl rfl rfl ?_ | refine EndsG.laddr rfl rfl rfl ?_ | refine EndsG.lss rfl rfl rfl (fun hc => ?_) (fun hc => ?_) | refine EndsG.leq rfl rfl rfl (fun hc => ?_) (fun hc => ?_) | refine EndsG.gtr rfl rfl rfl (fun hc => ?_) (fun hc => ?_) | refine EndsG.geq rfl rfl rfl (fun hc => ?_) (fun hc => ?_) | refine EndsG.eql rfl rfl rfl (fun hc => ?_) (fun hc => ?_) | refine EndsG.neq rfl rfl rfl (fun hc => ?_) (fun hc => ?_) | refine EndsG.load rfl rfl (qx (hx.trans hx')) ?_ | refine EndsG.load rfl rfl (qy hx') ?_ | refine EndsG.iaddr rfl rfl rfl (hi) ?_ | refine EndsG.iaddr rfl rfl rfl (hki) ?_ | refine EndsG.callb rfl rfl (ahead_spec _ _ x y) (fun hc => ?_) (fun hc => ?_) | refine EndsG.skip rfl ?_ | refine EndsG.fin ?_ | refine EndsG.go rfl rfl rfl ?_ | refine EndsG.gono rfl rfl rfl ?_ | refine EndsG.skipn rfl ?_))
          · refine Exists.elim (pushx (by omega) hx' hN) fun nx1 hq => Exists.elim hq fun H1 hq => ?_
            have hE1 := hq.2.2 H (Nat.le_refl _) hx'
            have hN2 := hq.2.1
            rw [css_app] at hN2
            refine EndsG.app rfl rfl rfl hq.1 ?_
            repeat' (first | (show EndsR _ _ _ _ _ _ _; first | refine EndsR.seq ?_ | refine EndsR.reg ?_ | refine EndsR.yes rfl ?_ | refine EndsR.no rfl ?_ | refine EndsR.skip ?_ | refine EndsR.block ?_ | refine EndsR.endB ?_ | refine EndsR.exit rfl ?_ | refine EndsR.br rfl (fun hc => ?_) (fun hc => ?_) | refine EndsR.scope ?_ | refine EndsR.inScope ?_ | refine EndsR.label ?_ | refine EndsR.ret rfl ?_ | refine EndsR.nil rfl ?_) | (show EndsG _ _ _ _ _ _ _ _ _; first | refine EndsG.mov rfl rfl ?_ | refine EndsG.lload rfl rfl rfl rfl ?_ | refine EndsG.laddr rfl rfl rfl ?_ | refine EndsG.lss rfl rfl rfl (fun hc => ?_) (fun hc => ?_) | refine EndsG.leq rfl rfl rfl (fun hc => ?_) (fun hc => ?_) | refine EndsG.gtr rfl rfl rfl (fun hc => ?_) (fun hc => ?_) | refine EndsG.geq rfl rfl rfl (fun hc => ?_) (fun hc => ?_) | refine EndsG.eql rfl rfl rfl (fun hc => ?_) (fun hc => ?_) | refine EndsG.neq rfl rfl rfl (fun hc => ?_) (fun hc => ?_) | refine EndsG.load rfl rfl (qy hE1) ?_ | refine EndsG.iaddr rfl rfl rfl (hki) ?_ | refine EndsG.skip rfl ?_ | refine EndsG.fin ?_ | refine EndsG.go rfl rfl rfl ?_ | refine EndsG.gono rfl rfl rfl ?_ | refine EndsG.skipn rfl ?_))
            refine Exists.elim (pushy (N1 := N ++ [x]) (by simp; omega) hE1 hN2) fun nx2 hq' => Exists.elim hq' fun H2 hq' => ?_
            have hE2 := hq'.2.2 H (Nat.le_refl _) hE1
            have hN3 := hq'.2.1
            rw [css_app] at hN3
            refine EndsG.app rfl rfl rfl hq'.1 ?_
            repeat' (first | (show EndsR _ _ _ _ _ _ _; first | refine EndsR.seq ?_ | refine EndsR.reg ?_ | refine EndsR.yes rfl ?_ | refine EndsR.no rfl ?_ | refine EndsR.skip ?_ | refine EndsR.block ?_ | refine EndsR.endB ?_ | refine EndsR.exit rfl ?_ | refine EndsR.br rfl (fun hc => ?_) (fun hc => ?_) | refine EndsR.scope ?_ | refine EndsR.inScope ?_ | refine EndsR.label ?_ | refine EndsR.ret rfl ?_ | refine EndsR.nil rfl ?_) | (show EndsG _ _ _ _ _ _ _ _ _; first | refine EndsG.mov rfl rfl ?_ | refine EndsG.lload rfl rfl rfl rfl ?_ | refine EndsG.laddr rfl rfl rfl ?_ | refine EndsG.lss rfl rfl rfl (fun hc => ?_) (fun hc => ?_) | refine EndsG.leq rfl rfl rfl (fun hc => ?_) (fun hc => ?_) | refine EndsG.gtr rfl rfl rfl (fun hc => ?_) (fun hc => ?_) | refine EndsG.geq rfl rfl rfl (fun hc => ?_) (fun hc => ?_) | refine EndsG.eql rfl rfl rfl (fun hc => ?_) (fun hc => ?_) | refine EndsG.neq rfl rfl rfl (fun hc => ?_) (fun hc => ?_) | refine EndsG.skip rfl ?_ | refine EndsG.fin ?_ | refine EndsG.go rfl rfl rfl ?_ | refine EndsG.gono rfl rfl rfl ?_ | refine EndsG.skipn rfl ?_))
            refine fin1 hE2 hN3 (by simp; omega) (fun e => by cases e) (fun _ => ?_) rfl
            rw [hN0.2, hd, insB, if_pos hc]
            simp
          · refine Exists.elim (pushy (by omega) hx' hN) fun nx1 hq => Exists.elim hq fun H1 hq => ?_
            have hE1 := hq.2.2 H (Nat.le_refl _) hx'
            have hN2 := hq.2.1
            rw [css_app] at hN2
            refine EndsG.app rfl rfl rfl hq.1 ?_
            repeat' (first | (show EndsR _ _ _ _ _ _ _; first | refine EndsR.seq ?_ | refine EndsR.reg ?_ | refine EndsR.yes rfl ?_ | refine EndsR.no rfl ?_ | refine EndsR.skip ?_ | refine EndsR.block ?_ | refine EndsR.endB ?_ | refine EndsR.exit rfl ?_ | refine EndsR.br rfl (fun hc => ?_) (fun hc => ?_) | refine EndsR.scope ?_ | refine EndsR.inScope ?_ | refine EndsR.label ?_ | refine EndsR.ret rfl ?_ | refine EndsR.nil rfl ?_) | (show EndsG _ _ _ _ _ _ _ _ _; first | refine EndsG.mov rfl rfl ?_ | refine EndsG.lload rfl rfl rfl rfl ?_ | refine EndsG.laddr rfl rfl rfl ?_ | refine EndsG.lss rfl rfl rfl (fun hc => ?_) (fun hc => ?_) | refine EndsG.leq rfl rfl rfl (fun hc => ?_) (fun hc => ?_) | refine EndsG.gtr rfl rfl rfl (fun hc => ?_) (fun hc => ?_) | refine EndsG.geq rfl rfl rfl (fun hc => ?_) (fun hc => ?_) | refine EndsG.eql rfl rfl rfl (fun hc => ?_) (fun hc => ?_) | refine EndsG.neq rfl rfl rfl (fun hc => ?_) (fun hc => ?_) | refine EndsG.skip rfl ?_ | refine EndsG.fin ?_ | refine EndsG.go rfl rfl rfl ?_ | refine EndsG.gono rfl rfl rfl ?_ | refine EndsG.skipn rfl ?_))
            refine fin1 hE1 hN2 (by simp; omega) (fun _ => ⟨by rw [htk, hN0.1], ?_⟩) (fun e => by cases e) rfl
            rw [hN0.2, hd, insB, if_neg (by rw [hc]; decide)]
            simp
          · omega
        | true =>
          have hN1 := hI1 rfl
          repeat' (first | (show EndsR _ _ _ _ _ _ _; first | refine EndsR.seq ?_ | refine EndsR.reg ?_ | refine EndsR.yes rfl ?_ | refine EndsR.no rfl ?_ | refine EndsR.skip ?_ | refine EndsR.block ?_ | refine EndsR.endB ?_ | refine EndsR.exit rfl ?_ | refine EndsR.br rfl (fun hc => ?_) (fun hc => ?_) | refine EndsR.scope ?_ | refine EndsR.inScope ?_ | refine EndsR.label ?_ | refine EndsR.ret rfl ?_ | refine EndsR.nil rfl ?_) | (show EndsG _ _ _ _ _ _ _ _ _; first | refine EndsG.mov rfl rfl ?_ | refine EndsG.lload rfl rfl rfl rfl ?_ | refine EndsG.laddr rfl rfl rfl ?_ | refine EndsG.lss rfl rfl rfl (fun hc => ?_) (fun hc => ?_) | refine EndsG.leq rfl rfl rfl (fun hc => ?_) (fun hc => ?_) | refine EndsG.gtr rfl rfl rfl (fun hc => ?_) (fun hc => ?_) | refine EndsG.geq rfl rfl rfl (fun hc => ?_) (fun hc => ?_) | refine EndsG.eql rfl rfl rfl (fun hc => ?_) (fun hc => ?_) | refine EndsG.neq rfl rfl rfl (fun hc => ?_) (fun hc => ?_) | refine EndsG.load rfl rfl (qy hx') ?_ | refine EndsG.iaddr rfl rfl rfl (hki) ?_ | refine EndsG.skip rfl ?_ | refine EndsG.fin ?_ | refine EndsG.go rfl rfl rfl ?_ | refine EndsG.gono rfl rfl rfl ?_ | refine EndsG.skipn rfl ?_))
          · refine Exists.elim (pushy (by omega) hx' hN) fun nx1 hq => Exists.elim hq fun H1 hq => ?_
            have hE1 := hq.2.2 H (Nat.le_refl _) hx'
            have hN2 := hq.2.1
            rw [css_app] at hN2
            refine EndsG.app rfl rfl rfl hq.1 ?_
            repeat' (first | (show EndsR _ _ _ _ _ _ _; first | refine EndsR.seq ?_ | refine EndsR.reg ?_ | refine EndsR.yes rfl ?_ | refine EndsR.no rfl ?_ | refine EndsR.skip ?_ | refine EndsR.block ?_ | refine EndsR.endB ?_ | refine EndsR.exit rfl ?_ | refine EndsR.br rfl (fun hc => ?_) (fun hc => ?_) | refine EndsR.scope ?_ | refine EndsR.inScope ?_ | refine EndsR.label ?_ | refine EndsR.ret rfl ?_ | refine EndsR.nil rfl ?_) | (show EndsG _ _ _ _ _ _ _ _ _; first | refine EndsG.mov rfl rfl ?_ | refine EndsG.lload rfl rfl rfl rfl ?_ | refine EndsG.laddr rfl rfl rfl ?_ | refine EndsG.lss rfl rfl rfl (fun hc => ?_) (fun hc => ?_) | refine EndsG.leq rfl rfl rfl (fun hc => ?_) (fun hc => ?_) | refine EndsG.gtr rfl rfl rfl (fun hc => ?_) (fun hc => ?_) | refine EndsG.geq rfl rfl rfl (fun hc => ?_) (fun hc => ?_) | refine EndsG.eql rfl rfl rfl (fun hc => ?_) (fun hc => ?_) | refine EndsG.neq rfl rfl rfl (fun hc => ?_) (fun hc => ?_) | refine EndsG.skip rfl ?_ | refine EndsG.fin ?_ | refine EndsG.go rfl rfl rfl ?_ | refine EndsG.gono rfl rfl rfl ?_ | refine EndsG.skipn rfl ?_))
            refine fin1 hE1 hN2 (by simp; omega) (fun e => by cases e) (fun _ => ?_) rfl
            rw [hN1, hd]
            simp
          · omega
      · have hdn : so.drop k = [] := List.drop_of_length_le (by omega)
        have htn : so.take k = so := List.take_of_length_le (by omega)
        have fin2 : ∀ {nx' : Value} {f : Fr} {H1 : Heap} {N' : List Obj}, Ext H H1 → Out H1 H.length 4 nx' (css N') → N' = insB x so →
            keep [0, 3, 4] f = [(0, .slice (some a) l.length cap), (3, nx'), (4, .int .i64 (IntKind.i64.wrap ((i : Int) + 1)))] → _ :=
          fun {nx'} {f} {H1} {N'} g1 g2 g3 g6 => next (n - 1) f H1 (by omega) ⟨i + 1, nx', by omega, by rw [g6, wrap_small (by omega) (by omega)]; rfl, hx.trans g1, by rw [hstep, ← g3]; exact Out.mono g2 hx.1⟩
        cases laid with
        | false =>
          have hN0 := hI0 rfl
          repeat' (first | (show EndsR _ _ _ _ _ _ _; first | refine EndsR.seq ?_ | refine EndsR.reg ?_ | refine EndsR.yes rfl ?_ | refine EndsR.no rfl ?_ | refine EndsR.skip ?_ | refine EndsR.block ?_ | refine EndsR.endB ?_ | refine EndsR.exit rfl ?_ | refine EndsR.br rfl (fun hc => ?_) (fun hc => ?_) | refine EndsR.scope ?_ | refine EndsR.inScope ?_ | refine EndsR.label ?_ | refine EndsR.ret rfl ?_ | refine EndsR.nil rfl ?_) | (show EndsG _ _ _ _ _ _ _ _ _; first | refine EndsG.mov rfl rfl ?_ | refine EndsG.lload rfl rfl rfl rfl ?_ | refine EndsG.laddr rfl rfl rfl ?_ | refine EndsG.lss rfl rfl rfl (fun hc => ?_) (fun hc => ?_) | refine EndsG.leq rfl rfl rfl (fun hc => ?_) (fun hc => ?_) | refine EndsG.gtr rfl rfl rfl (fun hc => ?_) (fun hc => ?_) | refine EndsG.geq rfl rfl rfl (fun hc => ?_) (fun hc => ?_) | refine EndsG.eql rfl rfl rfl (fun hc => ?_) (fun hc => ?_) | refine EndsG.neq rfl rfl rfl (fun hc => ?_) (fun hc => ?_) | refine EndsG.load rfl rfl (qx (hx.trans hx')) ?_ | refine EndsG.iaddr rfl rfl rfl (hi) ?_ | refine EndsG.skip rfl ?_ | refine EndsG.fin ?_ | refine EndsG.go rfl rfl rfl ?_ | refine EndsG.gono rfl rfl rfl ?_ | refine EndsG.skipn rfl ?_))
          · omega
          · have hT : N.length ≤ 1000 := by rw [hN0.1, List.length_take]; omega
            refine Exists.elim (hN.push2 (l0 := h.length) (e := x.cs) (bytes := 32) rfl hx.1 hx'.1 (by rw [css_length]; omega) (by omega)) fun nx1 hq => Exists.elim hq fun H1 hq => ?_
            have hE1 := hq.2.2 H (Nat.le_refl _) hx'
            have hN2 := hq.2.1
            rw [css_app] at hN2
            refine EndsG.app rfl rfl rfl hq.1 ?_
            repeat' (first | (show EndsR _ _ _ _ _ _ _; first | refine EndsR.seq ?_ | refine EndsR.reg ?_ | refine EndsR.yes rfl ?_ | refine EndsR.no rfl ?_ | refine EndsR.skip ?_ | refine EndsR.block ?_ | refine EndsR.endB ?_ | refine EndsR.exit rfl ?_ | refine EndsR.br rfl (fun hc => ?_) (fun hc => ?_) | refine EndsR.scope ?_ | refine EndsR.inScope ?_ | refine EndsR.label ?_ | refine EndsR.ret rfl ?_ | refine EndsR.nil rfl ?_) | (show EndsG _ _ _ _ _ _ _ _ _; first | refine EndsG.mov rfl rfl ?_ | refine EndsG.lload rfl rfl rfl rfl ?_ | refine EndsG.laddr rfl rfl rfl ?_ | refine EndsG.lss rfl rfl rfl (fun hc => ?_) (fun hc => ?_) | refine EndsG.leq rfl rfl rfl (fun hc => ?_) (fun hc => ?_) | refine EndsG.gtr rfl rfl rfl (fun hc => ?_) (fun hc => ?_) | refine EndsG.geq rfl rfl rfl (fun hc => ?_) (fun hc => ?_) | refine EndsG.eql rfl rfl rfl (fun hc => ?_) (fun hc => ?_) | refine EndsG.neq rfl rfl rfl (fun hc => ?_) (fun hc => ?_) | refine EndsG.skip rfl ?_ | refine EndsG.fin ?_ | refine EndsG.go rfl rfl rfl ?_ | refine EndsG.gono rfl rfl rfl ?_ | refine EndsG.skipn rfl ?_))
            refine fin2 hE1 hN2 ?_ rfl
            rw [hN0.2, hdn]
            rfl
        | true =>
          have hN1 := hI1 rfl
          repeat' (first | (show EndsR _ _ _ _ _ _ _; first | refine EndsR.seq ?_ | refine EndsR.reg ?_ | refine EndsR.yes rfl ?_ | refine EndsR.no rfl ?_ | refine EndsR.skip ?_ | refine EndsR.block ?_ | refine EndsR.endB ?_ | refine EndsR.exit rfl ?_ | refine EndsR.br rfl (fun hc => ?_) (fun hc => ?_) | refine EndsR.scope ?_ | refine EndsR.inScope ?_ | refine EndsR.label ?_ | refine EndsR.ret rfl ?_ | refine EndsR.nil rfl ?_) | (show EndsG _ _ _ _ _ _ _ _ _; first | refine EndsG.mov rfl rfl ?_ | refine EndsG.lload rfl rfl rfl rfl ?_ | refine EndsG.laddr rfl rfl rfl ?_ | refine EndsG.lss rfl rfl rfl (fun hc => ?_) (fun hc => ?_) | refine EndsG.leq rfl rfl rfl (fun hc => ?_) (fun hc => ?_) | refine EndsG.gtr rfl rfl rfl (fun hc => ?_) (fun hc => ?_) | refine EndsG.geq rfl rfl rfl (fun hc => ?_) (fun hc => ?_) | refine EndsG.eql rfl rfl rfl (fun hc => ?_) (fun hc => ?_) | refine EndsG.neq rfl rfl rfl (fun hc => ?_) (fun hc => ?_) | refine EndsG.skip rfl ?_ | refine EndsG.fin ?_ | refine EndsG.go rfl rfl rfl ?_ | refine EndsG.gono rfl rfl rfl ?_ | refine EndsG.skipn rfl ?_))
          · omega
          · refine fin2 hx' hN ?_ rfl
            rw [hN1, hdn]
            simp
    · omega
  · subst hve
    repeat' (first | (show EndsR _ _ _ _ _ _ _; first | refine EndsR.seq ?_ | refine EndsR.reg ?_ | refine EndsR.yes rfl ?_ | refine EndsR.no rfl ?_ | refine EndsR.skip ?_ | refine EndsR.block ?_ | refine EndsR.endB ?_ | refine EndsR.exit rfl ?_ | refine EndsR.br rfl (fun hc => ?_) (fun hc => ?_) | refine EndsR.scope ?_ | refine EndsR.inScope ?_ | refine EndsR.label ?_ | refine EndsR.ret rfl ?_ | refine EndsR.nil rfl ?_) | (show EndsG _ _ _ _ _ _ _ _ _; first | refine EndsG.mov rfl rfl ?_ | refine EndsG.lload rfl rfl rfl rfl ?_ | refine EndsG.laddr rfl rfl rfl ?_ | refine EndsG.lss rfl rfl rfl (fun hc => ?_) (fun hc => ?_) | refine EndsG.leq rfl rfl rfl (fun hc => ?_) (fun hc => ?_) | refine EndsG.gtr rfl rfl rfl (fun hc => ?_) (fun hc => ?_) | refine EndsG.geq rfl rfl rfl (fun hc => ?_) (fun hc => ?_) | refine EndsG.eql rfl rfl rfl (fun hc => ?_) (fun hc => ?_) | refine EndsG.neq rfl rfl rfl (fun hc => ?_) (fun hc => ?_) | refine EndsG.skip rfl ?_ | refine EndsG.fin ?_ | refine EndsG.go rfl rfl rfl ?_ | refine EndsG.gono rfl rfl rfl ?_ | refine EndsG.skipn rfl ?_))
    · omega
    · have : l.take i = l := List.take_of_length_le (by omega)
      rw [this] at ho
      exact ho.tidy (css_flat _)
end Go.Proofs.Ytclgilndihagiaa

/- The document's slide; lists of moves. -/
set_option linter.unusedVariables false
set_option linter.unusedSimpArgs false
namespace Go.Proofs.Ytclgilndihagiaa
open Go Go.Ir

structure Mv where
  s : Int
  f : Int
  t : Int
  n : Int
def Mv.cs (x : Mv) : List Value := [.int .i64 x.s, .int .i64 x.f, .int .i64 x.t, .int .i64 x.n]
def mcs (l : List Mv) : List (List Value) := l.map Mv.cs
theorem mcs_len (l : List Mv) : ∀ e ∈ mcs l, e.length = 4 := by
  intro e he
  obtain ⟨x, _, rfl⟩ := List.mem_map.1 he
  rfl
theorem mcs_flat (l : List Mv) : ∀ e ∈ mcs l, e.all flat1 = true := by
  intro e he
  obtain ⟨x, _, rfl⟩ := List.mem_map.1 he
  rfl
theorem mcs_app (l : List Mv) (x : Mv) : mcs l ++ [x.cs] = mcs (l ++ [x]) := by simp [mcs]
theorem mcs_length (l : List Mv) : (mcs l).length = l.length := by simp [mcs]

def slideT (e : Int) (x : Obj) : Int := if x.fx then x.o else e
def slideS (st : List Mv × Int) (x : Obj) : List Mv × Int := (if slideT st.2 x = x.o then st.1 else st.1 ++ [⟨x.s, x.o, slideT st.2 x, x.n⟩], IntKind.i64.wrap (slideT st.2 x + x.n))
def slideL (l : List Obj) : List Mv × Int := l.foldl slideS ([], 0)
def slideR (h : Heap) (e : Int) (l : List Obj) : Value × Heap :=
  if e = 0 then (.tuple #[(made h 4 (mcs (slideL l).1)).1, .int .i64 (slideL l).2, .int .i64 0], (made h 4 (mcs (slideL l).1)).2)
  else (.tuple #[.slice none 0 0, .int .i64 0, .int .i64 e], h)

theorem slideL_len (l : List Obj) : (slideL l).1.length ≤ l.length := by
  have : ∀ (l : List Obj) (st : List Mv × Int), (l.foldl slideS st).1.length ≤ st.1.length + l.length := by
    intro l
    induction l with
    | nil => intro st; simp
    | cons x l ih =>
      intro st
      rw [List.foldl_cons]
      have h1 := ih (slideS st x)
      have h2 : (slideS st x).1.length ≤ st.1.length + 1 := by
        unfold slideS
        simp only
        split <;> simp
      rw [List.length_cons]; omega
  have h := this l ([], 0)
  simp only [List.length_nil, Nat.zero_add] at h
  exact h

theorem Out.tidy1 {h H : Heap} {n : Nat} {v : Value} {es : List (List Value)} (o : Out H h.length n v es) (hf : ∀ e ∈ es, e.all flat1 = true) : Ir.tidy1 h.length H v h = some (made h n es) := by
  rw [← o.tidy hf]
  obtain ⟨base, cap, rfl⟩ := o.sl.len
  rfl

theorem Out.tidy3 {h H : Heap} {n : Nat} {v : Value} {es : List (List Value)} (o : Out H h.length n v es) (hf : ∀ e ∈ es, e.all flat1 = true) (a b : Int) :
    Ir.tidy h (.tuple #[v, .int .i64 a, .int .i64 b]) H = some (.tuple #[(made h n es).1, .int .i64 a, .int .i64 b], (made h n es).2) := by
  have := Out.tidy1 o hf
  simp only [Ir.tidy, tidyL, this]
  rfl

/-- The next end, as it is told. -/
theorem okN_cases (arena : Int) (l : List Obj) : okN arena l = 0 ∨ okN arena l = 1 := by
  by_cases h : okP arena l
  · exact .inl (okN_0 h)
  · exact .inr (okN_1 h)

theorem refSlide_spec (lo : Nat) {h : Heap} {v : Value} {l : List Obj} {arena : Int} (hv : Sl h 4 v (css l)) (hl : l.length ≤ 1000) :
    callR En lo Id.sidingsref17_Slide [v, .int .i64 arena] h = some (slideR h (okN arena l) (sortR l)) := by
  have hC := fun lo => refCheck_spec lo (arena := arena) hv hl
  have hS := fun lo => refSort_spec lo hv hl
  have hms := (made_sl (h := h) (css_len (sortR l))).1
  have hme := (made_sl (h := h) (css_len (sortR l))).2
  have hsl : (sortR l).length = l.length := sortR_len l
  refine call_scr rfl Fn.sidingsref17_Slide rfl rfl ?_
  rcases okN_cases arena l with h0 | h0
  · rw [h0] at hC ⊢
    generalize hm : made h 4 (css (sortR l)) = mk at hS hms hme
    generalize sortR l = so at hms hsl
    repeat' (first | (show EndsR _ _ _ _ _ _ _; first | refine EndsR.seq ?_ | refine EndsR.reg ?_ | refine EndsR.yes rfl ?_ | refine EndsR.no rfl ?_ | refine EndsR.skip ?_ | refine EndsR.block ?_ | refine EndsR.endB ?_ | refine EndsR.exit rfl ?_ | refine EndsR.br rfl (fun hc => ?_) (fun hc => ?_) | refine EndsR.scope ?_ | refine EndsR.inScope ?_ | refine EndsR.label ?_ | refine EndsR.ret rfl ?_ | refine EndsR.nil rfl ?_) | (show EndsG _ _ _ _ _ _ _ _ _; first | refine EndsG.mov rfl rfl ?_ | refine EndsG.lload rfl rfl rfl rfl ?_ | refine EndsG.laddr rfl rfl rfl ?_ | refine EndsG.lss rfl rfl rfl (fun hc => ?_) (fun hc => ?_) | refine EndsG.leq rfl rfl rfl (fun hc => ?_) (fun hc => ?_) | refine EndsG.gtr rfl rfl rfl (fun hc => ?_) (fun hc => ?_) | refine EndsG.geq rfl rfl rfl (fun hc => ?_) (fun hc => ?_) | refine EndsG.eql rfl rfl rfl (fun hc => ?_) (fun hc => ?_) | refine EndsG.neq rfl rfl rfl (fun hc => ?_) (fun hc => ?_) | refine EndsG.call rfl rfl (hC _) ?_ | refine EndsG.call rfl rfl (hS _) ?_ | refine EndsG.skip rfl ?_ | refine EndsG.fin ?_ | refine EndsG.go rfl rfl rfl ?_ | refine EndsG.gono rfl rfl rfl ?_ | refine EndsG.skipn rfl ?_))
    · exact absurd rfl ‹_›
    · refine Exists.elim hms.len fun base hq => Exists.elim hq fun cap hve => ?_
      rw [css_length] at hve
      refine .loop (fun n f H => ∃ (i : Nat) (o : Value), n + i = so.length ∧ f = [(7, o), (8, .int .i64 (slideL (so.take i)).2), (9, .slice base so.length cap), (10, .int .i64 (i : Nat))] ∧ Ext mk.2 H ∧ Out H mk.2.length 4 o (mcs (slideL (so.take i)).1)) (n := so.length)
        ⟨0, _, rfl, by rw [hve]; rfl, .refl _, Out.nil _ _ _⟩ ?_
      rintro n f H ⟨i, o, hn, rfl, hx, ho⟩ next
      by_cases hi : i < so.length
      · have hgi : so[i]? = some so[i] := List.getElem?_eq_getElem hi
        have hstep : slideL (so.take (i + 1)) = slideS (slideL (so.take i)) so[i] := foldl_take_succ _ _ so hi
        have hlen : (slideL (so.take i)).1.length ≤ i := by have := slideL_len (so.take i); rw [List.length_take] at this; omega
        generalize slideL (so.take i) = st at ho hstep hlen
        refine Exists.elim (css_row (hms.ext hx) hgi) fun a hq => Exists.elim hq fun cap' hq => ?_
        have hva := hq.1
        have q0 := hq.2.2.1
        have q1 := hq.2.2.2.1
        have q2 := hq.2.2.2.2.1
        have q3 := hq.2.2.2.2.2
        rw [hve] at hva
        injection hva with e1 e2 e3
        subst e1
        rcases hxi : so[i] with ⟨xs, xo, xn, xf⟩
        rw [hxi] at q0 q1 q2 q3 hstep
        obtain ⟨ms, en⟩ := st
        have fin1 : ∀ {o' : Value} {f : Fr} {H1 : Heap} {en' : Int} {ms' : List Mv}, Ext mk.2 H1 → Out H1 mk.2.length 4 o' (mcs ms') → slideS (ms, en) ⟨xs, xo, xn, xf⟩ = (ms', en') →
            keep [7, 8, 9, 10] f = [(7, o'), (8, .int .i64 en'), (9, .slice (some a) so.length cap), (10, .int .i64 (IntKind.i64.wrap ((i : Int) + 1)))] → _ :=
          fun {o'} {f} {H1} {en'} {ms'} g1 g2 g3 g6 => next (n - 1) f H1 (by omega) ⟨i + 1, o', by omega, by rw [g6, wrap_small (by omega) (by omega), hstep, g3]; rfl, g1, by rw [hstep, g3]; exact g2⟩
        cases xf with
        | true =>
          repeat' (first | (show EndsR _ _ _ _ _ _ _; first | refine EndsR.seq ?_ | refine EndsR.reg ?_ | refine EndsR.yes rfl ?_ | refine EndsR.no rfl ?_ | refine EndsR.skip ?_ | refine EndsR.block ?_ | refine EndsR.endB ?_ | refine EndsR.exit rfl ?_ | refine EndsR.br rfl (fun hc => ?_) (fun hc => ?_) | refine EndsR.scope ?_ | refine EndsR.inScope ?_ | refine EndsR.label ?_ | refine EndsR.ret rfl ?_ | refine EndsR.nil rfl ?_) | (show EndsG _ _ _ _ _ _ _ _ _; first | refine EndsG.mov rfl rfl ?_ | refine EndsG.lload rfl rfl rfl rfl ?_ | refine EndsG.laddr rfl rfl rfl ?_ | refine EndsG.lss rfl rfl rfl (fun hc => ?_) (fun hc => ?_) | refine EndsG.leq rfl rfl rfl (fun hc => ?_) (fun hc => ?_) | refine EndsG.gtr rfl rfl rfl (fun hc => ?_) (fun hc => ?_) | refine EndsG.geq rfl rfl rfl (fun hc => ?_) (fun hc => ?_) | refine EndsG.eql rfl rfl rfl (fun hc => ?_) (fun hc => ?_) | refine EndsG.neq rfl rfl rfl (fun hc => ?_) (fun hc => ?_) | refine EndsG.load rfl rfl (q0) ?_ | refine EndsG.load rfl rfl (q1) ?_ | refine EndsG.load rfl rfl (q2) ?_ | refine EndsG.load rfl rfl (q3) ?_ | refine EndsG.iaddr rfl rfl rfl (hi) ?_ | refine EndsG.skip rfl ?_ | refine EndsG.fin ?_ | refine EndsG.go rfl rfl rfl ?_ | refine EndsG.gono rfl rfl rfl ?_ | refine EndsG.skipn rfl ?_))
          · refine fin1 hx ho ?_ rfl
            simp [slideS, slideT]
          · omega
        | false =>
          repeat' (first | (show EndsR _ _ _ _ _ _ _; first | refine EndsR.seq ?_ | refine EndsR.reg ?_ | refine EndsR.yes rfl ?_ | refine EndsR.no rfl ?_ | refine EndsR.skip ?_ | refine EndsR.block ?_ | refine EndsR.endB ?_ | refine EndsR.exit rfl ?_ | refine EndsR.br rfl (fun hc => ?_) (fun hc => ?_) | refine EndsR.scope ?_ | refine EndsR.inScope ?_ | refine EndsR.label ?_ | refine EndsR.ret rfl ?_ | refine EndsR.nil rfl ?_) | (show EndsG _ _ _ _ _ _ _ _ _; first | refine EndsG.mov rfl rfl ?_ | refine EndsG.lload rfl rfl rfl rfl ?_ | refine EndsG.laddr rfl rfl rfl ?_ | refine EndsG.lss rfl rfl rfl (fun hc => ?_) (fun hc => ?_) | refine EndsG.leq rfl rfl rfl (fun hc => ?_) (fun hc => ?_) | refine EndsG.gtr rfl rfl rfl (fun hc => ?_) (fun hc => ?_) | refine EndsG.geq rfl rfl rfl (fun hc => ?_) (fun hc => ?_) | refine EndsG.eql rfl rfl rfl (fun hc => ?_) (fun hc => ?_) | refine EndsG.neq rfl rfl rfl (fun hc => ?_) (fun hc => ?_) | refine EndsG.load rfl rfl (q0) ?_ | refine EndsG.load rfl rfl (q1) ?_ | refine EndsG.load rfl rfl (q2) ?_ | refine EndsG.load rfl rfl (q3) ?_ | refine EndsG.iaddr rfl rfl rfl (hi) ?_ | refine EndsG.skip rfl ?_ | refine EndsG.fin ?_ | refine EndsG.go rfl rfl rfl ?_ | refine EndsG.gono rfl rfl rfl ?_ | refine EndsG.skipn rfl ?_))
          · have hlen' : ms.length ≤ i := hlen
            have hne : ¬ en = xo := fun e => absurd e.symm ‹_›
            refine Exists.elim (ho.push2 (l0 := h.length) (e := (Mv.mk xs xo en xn).cs) (bytes := 32) rfl hme.1 hx.1 (by rw [mcs_length]; show ms.length + 1 ≤ _; omega) (by omega)) fun o' hq => Exists.elim hq fun H1 hq => ?_
            have hE1 := hq.2.2 mk.2 (Nat.le_refl _) hx
            have hE2 := hq.2.2 H
            have hN2 := hq.2.1
            rw [mcs_app] at hN2
            have q2' := (css_row (hms.ext hE1) hgi)
            refine Exists.elim q2' fun a' hq' => Exists.elim hq' fun cap'' hq' => ?_
            have hva' := hq'.1
            have q2' := hq'.2.2.2.2.1
            rw [hve] at hva'
            injection hva' with e1 _ _
            injection e1 with e1
            subst e1
            rw [hxi] at q2'
            refine EndsG.app rfl rfl rfl hq.1 ?_
            repeat' (first | (show EndsR _ _ _ _ _ _ _; first | refine EndsR.seq ?_ | refine EndsR.reg ?_ | refine EndsR.yes rfl ?_ | refine EndsR.no rfl ?_ | refine EndsR.skip ?_ | refine EndsR.block ?_ | refine EndsR.endB ?_ | refine EndsR.exit rfl ?_ | refine EndsR.br rfl (fun hc => ?_) (fun hc => ?_) | refine EndsR.scope ?_ | refine EndsR.inScope ?_ | refine EndsR.label ?_ | refine EndsR.ret rfl ?_ | refine EndsR.nil rfl ?_) | (show EndsG _ _ _ _ _ _ _ _ _; first | refine EndsG.mov rfl rfl ?_ | refine EndsG.lload rfl rfl rfl rfl ?_ | refine EndsG.laddr rfl rfl rfl ?_ | refine EndsG.lss rfl rfl rfl (fun hc => ?_) (fun hc => ?_) | refine EndsG.leq rfl rfl rfl (fun hc => ?_) (fun hc => ?_) | refine EndsG.gtr rfl rfl rfl (fun hc => ?_) (fun hc => ?_) | refine EndsG.geq rfl rfl rfl (fun hc => ?_) (fun hc => ?_) | refine EndsG.eql rfl rfl rfl (fun hc => ?_) (fun hc => ?_) | refine EndsG.neq rfl rfl rfl (fun hc => ?_) (fun hc => ?_) | refine EndsG.load rfl rfl (q2') ?_ | refine EndsG.iaddr rfl rfl rfl (hi) ?_ | refine EndsG.skip rfl ?_ | refine EndsG.fin ?_ | refine EndsG.go rfl rfl rfl ?_ | refine EndsG.gono rfl rfl rfl ?_ | refine EndsG.skipn rfl ?_))
            refine fin1 hE1 hN2 ?_ rfl
            simp [slideS, slideT, hne]
          · have he : en = xo := by have := ‹xo = en›; exact this.symm
            refine fin1 hx ho ?_ rfl
            simp [slideS, slideT, he]
          · omega
      · repeat' (first | (show EndsR _ _ _ _ _ _ _; first | refine EndsR.seq ?_ | refine EndsR.reg ?_ | refine EndsR.yes rfl ?_ | refine EndsR.no rfl ?_ | refine EndsR.skip ?_ | refine EndsR.block ?_ | refine EndsR.endB ?_ | refine EndsR.exit rfl ?_ | refine EndsR.br rfl (fun hc => ?_) (fun hc => ?_) | refine EndsR.scope ?_ | refine EndsR.inScope ?_ | refine EndsR.label ?_ | refine EndsR.ret rfl ?_ | refine EndsR.nil rfl ?_) | (show EndsG _ _ _ _ _ _ _ _ _; first | refine EndsG.mov rfl rfl ?_ | refine EndsG.lload rfl rfl rfl rfl ?_ | refine EndsG.laddr rfl rfl rfl ?_ | refine EndsG.lss rfl rfl rfl (fun hc => ?_) (fun hc => ?_) | refine EndsG.leq rfl rfl rfl (fun hc => ?_) (fun hc => ?_) | refine EndsG.gtr rfl rfl rfl (fun hc => ?_) (fun hc => ?_) | refine EndsG.geq rfl rfl rfl (fun hc => ?_) (fun hc => ?_) | refine EndsG.eql rfl rfl rfl (fun hc => ?_) (fun hc => ?_) | refine EndsG.neq rfl rfl rfl (fun hc => ?_) (fun hc => ?_) | refine EndsG.skip rfl ?_ | refine EndsG.fin ?_ | refine EndsG.go rfl rfl rfl ?_ | refine EndsG.gono rfl rfl rfl ?_ | refine EndsG.skipn rfl ?_))
        · omega
        · have ht : so.take i = so := List.take_of_length_le (by omega)
          rw [ht] at ho
          rw [ht]
          exact Out.tidy3 (Out.mono ho hme.1) (mcs_flat _) _ _
  · rw [h0] at hC ⊢
    repeat' (first | (show EndsR _ _ _ _ _ _ _; first | refine EndsR.seq ?_ | refine EndsR.reg ?_ | refine EndsR.yes rfl ?_ | refine EndsR.no rfl ?_ | refine EndsR.skip ?_ | refine EndsR.block ?_ | refine EndsR.endB ?_ | refine EndsR.exit rfl ?_ | refine EndsR.br rfl (fun hc => ?_) (fun hc => ?_) | refine EndsR.scope ?_ | refine EndsR.inScope ?_ | refine EndsR.label ?_ | refine EndsR.ret rfl ?_ | refine EndsR.nil rfl ?_) | (show EndsG _ _ _ _ _ _ _ _ _; first | refine EndsG.mov rfl rfl ?_ | refine EndsG.lload rfl rfl rfl rfl ?_ | refine EndsG.laddr rfl rfl rfl ?_ | refine EndsG.lss rfl rfl rfl (fun hc => ?_) (fun hc => ?_) | refine EndsG.leq rfl rfl rfl (fun hc => ?_) (fun hc => ?_) | refine EndsG.gtr rfl rfl rfl (fun hc => ?_) (fun hc => ?_) | refine EndsG.geq rfl rfl rfl (fun hc => ?_) (fun hc => ?_) | refine EndsG.eql rfl rfl rfl (fun hc => ?_) (fun hc => ?_) | refine EndsG.neq rfl rfl rfl (fun hc => ?_) (fun hc => ?_) | refine EndsG.call rfl rfl (hC _) ?_ | refine EndsG.skip rfl ?_ | refine EndsG.fin ?_ | refine EndsG.go rfl rfl rfl ?_ | refine EndsG.gono rfl rfl rfl ?_ | refine EndsG.skipn rfl ?_))
    · rfl
    · exact absurd ‹_› (by decide)
end Go.Proofs.Ytclgilndihagiaa

/- The law's own helpers over moves. -/
set_option linter.unusedVariables false
set_option linter.unusedSimpArgs false
namespace Go.Proofs.Ytclgilndihagiaa
open Go Go.Ir

theorem mcs_get {l : List Mv} {i : Nat} {x : Mv} (h : l[i]? = some x) : (mcs l)[i]? = some x.cs := by simp [mcs, h]

theorem mcs_row {h : Heap} {v : Value} {l : List Mv} (hv : Sl h 4 v (mcs l)) {i : Nat} {x : Mv} (hi : l[i]? = some x) :
    ∃ a cap, v = .slice (some a) l.length cap ∧ loadV h (some 4) ⟨a.block, a.off + i * 4, none⟩ = some (.agg x.cs.toArray) ∧
      loadV h none ⟨a.block, a.off + i * 4 + 0, none⟩ = some (.int .i64 x.s) ∧ loadV h none ⟨a.block, a.off + i * 4 + 1, none⟩ = some (.int .i64 x.f) ∧
      loadV h none ⟨a.block, a.off + i * 4 + 2, none⟩ = some (.int .i64 x.t) ∧ loadV h none ⟨a.block, a.off + i * 4 + 3, none⟩ = some (.int .i64 x.n) := by
  obtain ⟨a, cap, h1, h2, h3⟩ := hv.at (mcs_get hi)
  rw [mcs_length] at h1
  exact ⟨a, cap, h1, h3, h2 0 _ rfl, h2 1 _ rfl, h2 2 _ rfl, h2 3 _ rfl⟩

theorem moves_spec (lo : Nat) {h : Heap} {v : Value} {l : List Mv} (hv : Sl h 4 v (mcs l)) (hl : l.length ≤ 1000) :
    callR En lo Id.sidingslaw17_moves [v] h = some (made h 4 (mcs l)) := by
  refine Exists.elim hv.len fun base hq => Exists.elim hq fun cap hve => ?_
  rw [mcs_length] at hve
  refine call_scr rfl Fn.sidingslaw17_moves rfl rfl ?_
  repeat' (first | (show EndsR _ _ _ _ _ _ _; first | refine EndsR.seq ?_ | refine EndsR.reg ?_ | refine EndsR.yes rfl ?_ | refine EndsR.no rfl ?_ | refine EndsR.skip ?_ | refine EndsR.block ?_ | refine EndsR.endB ?_ | refine EndsR.exit rfl ?_ | refine EndsR.br rfl (fun hc => ?_) (fun hc => ?_) | refine EndsR.scope ?_ | refine EndsR.inScope ?_ | refine EndsR.label ?_ | refine EndsR.ret rfl ?_ | refine EndsR.nil rfl ?_) | (show EndsG _ _ _ _ _ _ _ _ _; first | refine EndsG.mov rfl rfl ?_ | refine EndsG.lload rfl rfl rfl rfl ?_ | refine EndsG.laddr rfl rfl rfl ?_ | refine EndsG.lss rfl rfl rfl (fun hc => ?_) (fun hc => ?_) | refine EndsG.leq rfl rfl rfl (fun hc => ?_) (fun hc => ?_) | refine EndsG.gtr rfl rfl rfl (fun hc => ?_) (fun hc => ?_) | refine EndsG.geq rfl rfl rfl (fun hc => ?_) (fun hc => ?_) | refine EndsG.eql rfl rfl rfl (fun hc => ?_) (fun hc => ?_) | refine EndsG.neq rfl rfl rfl (fun hc => ?_) (fun hc => ?_) | refine EndsG.skip rfl ?_ | refine EndsG.fin ?_ | refine EndsG.go rfl rfl rfl ?_ | refine EndsG.gono rfl rfl rfl ?_ | refine EndsG.skipn rfl ?_))
  refine .loop (fun n f H => ∃ (i : Nat) (o : Value), n + i = l.length ∧ f = [(0, .slice base l.length cap), (3, o), (4, .int .i64 (i : Nat))] ∧ Ext h H ∧ Out H h.length 4 o (mcs (l.take i))) (n := l.length)
    ⟨0, _, rfl, by rw [hve]; rfl, .refl _, Out.nil _ _ _⟩ ?_
  rintro n f H ⟨i, o, hn, rfl, hx, ho⟩ next
  by_cases hi : i < l.length
  · have hgi : l[i]? = some l[i] := List.getElem?_eq_getElem hi
    have hstep : l.take (i + 1) = l.take i ++ [l[i]] := List.take_succ_eq_append_getElem hi
    refine Exists.elim (mcs_row (hv.ext hx) hgi) fun a hq => Exists.elim hq fun cap' hq => ?_
    have hva := hq.1
    have q0 := hq.2.2.1
    have q1 := hq.2.2.2.1
    have q2 := hq.2.2.2.2.1
    have q3 := hq.2.2.2.2.2
    rw [hve] at hva
    injection hva with e1 e2 e3
    subst e1
    repeat' (first | (show EndsR _ _ _ _ _ _ _; first | refine EndsR.seq ?_ | refine EndsR.reg ?_ | refine EndsR.yes rfl ?_ | refine EndsR.no rfl ?_ | refine EndsR.skip ?_ | refine EndsR.block ?_ | refine EndsR.endB ?_ | refine EndsR.exit rfl ?_ | refine EndsR.br rfl (fun hc => ?_) (fun hc => ?_) | refine EndsR.scope ?_ | refine EndsR.inScope ?_ | refine EndsR.label ?_ | refine EndsR.ret rfl ?_ | refine EndsR.nil rfl ?_) | (show EndsG _ _ _ _ _ _ _ _ _; first | refine EndsG.mov rfl rfl ?_ | refine EndsG.lload rfl rfl rfl rfl ?_ | refine EndsG.laddr rfl rfl rfl ?_ | refine EndsG.lss rfl rfl rfl (fun hc => ?_) (fun hc => ?_) | refine EndsG.leq rfl rfl rfl (fun hc => ?_) (fun hc => ?_) | refine EndsG.gtr rfl rfl rfl (fun hc => ?_) (fun hc => ?_) | refine EndsG.geq rfl rfl rfl (fun hc => ?_) (fun hc => ?_) | refine EndsG.eql rfl rfl rfl (fun hc => ?_) (fun hc => ?_) | refine EndsG.neq rfl rfl rfl (fun hc => ?_) (fun hc => ?_) | refine EndsG.load rfl rfl (q0) ?_ | refine EndsG.load rfl rfl (q1) ?_ | refine EndsG.load rfl rfl (q2) ?_ | refine EndsG.load rfl rfl (q3) ?_ | refine EndsG.iaddr rfl rfl rfl (hi) ?_ | refine EndsG.skip rfl ?_ | refine EndsG.fin ?_ | refine EndsG.go rfl rfl rfl ?_ | refine EndsG.gono rfl rfl rfl ?_ | refine EndsG.skipn rfl ?_))
    · refine Exists.elim (ho.push (e := (l[i]).cs) (bytes := 32) rfl hx.1 (by rw [mcs_length, List.length_take]; omega) (by omega)) fun o' hq => Exists.elim hq fun H1 hq => ?_
      have hE1 := hq.2.2 h (Nat.le_refl _) hx
      have hN2 := hq.2.1
      rw [mcs_app, ← hstep] at hN2
      refine EndsG.app rfl rfl rfl hq.1 ?_
      repeat' (first | (show EndsR _ _ _ _ _ _ _; first | refine EndsR.seq ?_ | refine EndsR.reg ?_ | refine EndsR.yes rfl ?_ | refine EndsR.no rfl ?_ | refine EndsR.skip ?_ | refine EndsR.block ?_ | refine EndsR.endB ?_ | refine EndsR.exit rfl ?_ | refine EndsR.br rfl (fun hc => ?_) (fun hc => ?_) | refine EndsR.scope ?_ | refine EndsR.inScope ?_ | refine EndsR.label ?_ | refine EndsR.ret rfl ?_ | refine EndsR.nil rfl ?_) | (show EndsG _ _ _ _ _ _ _ _ _; first | refine EndsG.mov rfl rfl ?_ | refine EndsG.lload rfl rfl rfl rfl ?_ | refine EndsG.laddr rfl rfl rfl ?_ | refine EndsG.lss rfl rfl rfl (fun hc => ?_) (fun hc => ?_) | refine EndsG.leq rfl rfl rfl (fun hc => ?_) (fun hc => ?_) | refine EndsG.gtr rfl rfl rfl (fun hc => ?_) (fun hc => ?_) | refine EndsG.geq rfl rfl rfl (fun hc => ?_) (fun hc => ?_) | refine EndsG.eql rfl rfl rfl (fun hc => ?_) (fun hc => ?_) | refine EndsG.neq rfl rfl rfl (fun hc => ?_) (fun hc => ?_) | refine EndsG.skip rfl ?_ | refine EndsG.fin ?_ | refine EndsG.go rfl rfl rfl ?_ | refine EndsG.gono rfl rfl rfl ?_ | refine EndsG.skipn rfl ?_))
      exact next (n - 1) _ _ (by omega) ⟨i + 1, o', by omega, (by rw [show ((i + 1 : Nat) : Int) = IntKind.i64.wrap ((i : Int) + 1) by rw [wrap_small (by omega) (by omega)]; rfl]; rfl), hE1, hN2⟩
    · omega
  · repeat' (first | (show EndsR _ _ _ _ _ _ _; first | refine EndsR.seq ?_ | refine EndsR.reg ?_ | refine EndsR.yes rfl ?_ | refine EndsR.no rfl ?_ | refine EndsR.skip ?_ | refine EndsR.block ?_ | refine EndsR.endB ?_ | refine EndsR.exit rfl ?_ | refine EndsR.br rfl (fun hc => ?_) (fun hc => ?_) | refine EndsR.scope ?_ | refine EndsR.inScope ?_ | refine EndsR.label ?_ | refine EndsR.ret rfl ?_ | refine EndsR.nil rfl ?_) | (show EndsG _ _ _ _ _ _ _ _ _; first | refine EndsG.mov rfl rfl ?_ | refine EndsG.lload rfl rfl rfl rfl ?_ | refine EndsG.laddr rfl rfl rfl ?_ | refine EndsG.lss rfl rfl rfl (fun hc => ?_) (fun hc => ?_) | refine EndsG.leq rfl rfl rfl (fun hc => ?_) (fun hc => ?_) | refine EndsG.gtr rfl rfl rfl (fun hc => ?_) (fun hc => ?_) | refine EndsG.geq rfl rfl rfl (fun hc => ?_) (fun hc => ?_) | refine EndsG.eql rfl rfl rfl (fun hc => ?_) (fun hc => ?_) | refine EndsG.neq rfl rfl rfl (fun hc => ?_) (fun hc => ?_) | refine EndsG.skip rfl ?_ | refine EndsG.fin ?_ | refine EndsG.go rfl rfl rfl ?_ | refine EndsG.gono rfl rfl rfl ?_ | refine EndsG.skipn rfl ?_))
    · omega
    · have ht : l.take i = l := List.take_of_length_le (by omega)
      rw [ht] at ho
      exact ho.tidy (mcs_flat _)

/-- Two lists that are the same. -/
theorem Moves_spec (lo : Nat) {h : Heap} {v w : Value} {l : List Mv} (hv : Sl h 4 v (mcs l)) (hw : Sl h 4 w (mcs l)) (hl : l.length ≤ 1000) :
    callR En lo Id.sidingsref17_Moves [v, w] h = some (.bool true, h) := by
  refine Exists.elim hv.len fun base hq => Exists.elim hq fun cap hve => ?_
  refine Exists.elim hw.len fun base2 hq => Exists.elim hq fun cap2 hwe => ?_
  rw [mcs_length] at hve hwe
  refine call_scr rfl Fn.sidingsref17_Moves rfl rfl ?_
  subst hve hwe
  repeat' (first | (show EndsR _ _ _ _ _ _ _; first | refine EndsR.seq ?_ | refine EndsR.reg ?_ | refine EndsR.yes rfl ?_ | refine EndsR.no rfl ?_ | refine EndsR.skip ?_ | refine EndsR.block ?_ | refine EndsR.endB ?_ | refine EndsR.exit rfl ?_ | refine EndsR.br rfl (fun hc => ?_) (fun hc => ?_) | refine EndsR.scope ?_ | refine EndsR.inScope ?_ | refine EndsR.label ?_ | refine EndsR.ret rfl ?_ | refine EndsR.nil rfl ?_) | (show EndsG _ _ _ _ _ _ _ _ _; first | refine EndsG.mov rfl rfl ?_ | refine EndsG.lload rfl rfl rfl rfl ?_ | refine EndsG.laddr rfl rfl rfl ?_ | refine EndsG.lss rfl rfl rfl (fun hc => ?_) (fun hc => ?_) | refine EndsG.leq rfl rfl rfl (fun hc => ?_) (fun hc => ?_) | refine EndsG.gtr rfl rfl rfl (fun hc => ?_) (fun hc => ?_) | refine EndsG.geq rfl rfl rfl (fun hc => ?_) (fun hc => ?_) | refine EndsG.eql rfl rfl rfl (fun hc => ?_) (fun hc => ?_) | refine EndsG.neq rfl rfl rfl (fun hc => ?_) (fun hc => ?_) | refine EndsG.skip rfl ?_ | refine EndsG.fin ?_ | refine EndsG.go rfl rfl rfl ?_ | refine EndsG.gono rfl rfl rfl ?_ | refine EndsG.skipn rfl ?_))
  · exact absurd rfl ‹_›
  refine .loop (fun n f H => H = h ∧ ∃ (i : Nat), n + i = l.length ∧ f = [(0, .slice base l.length cap), (1, .slice base2 l.length cap2), (5, .int .i64 (i : Nat))]) (n := l.length)
    ⟨rfl, 0, rfl, rfl⟩ ?_
  rintro n f H ⟨rfl, i, hn, rfl⟩ next
  by_cases hi : i < l.length
  · have hgi : l[i]? = some l[i] := List.getElem?_eq_getElem hi
    refine Exists.elim (mcs_row hv hgi) fun a hq => Exists.elim hq fun cap' hq => ?_
    have hva := hq.1
    have q0 := hq.2.1
    refine Exists.elim (mcs_row hw hgi) fun a2 hq2 => Exists.elim hq2 fun cap2' hq2 => ?_
    have hwa := hq2.1
    have p0 := hq2.2.1
    injection hva with e1 e2 e3
    injection hwa with f1 f2 f3
    subst e1 f1
    have hb : (l[i].s == l[i].s && (l[i].f == l[i].f && (l[i].t == l[i].t && (l[i].n == l[i].n && true)))) = true := by simp
    repeat' (first | (show EndsR _ _ _ _ _ _ _; first | refine EndsR.seq ?_ | refine EndsR.reg ?_ | refine EndsR.yes rfl ?_ | refine EndsR.no rfl ?_ | refine EndsR.skip ?_ | refine EndsR.block ?_ | refine EndsR.endB ?_ | refine EndsR.exit rfl ?_ | refine EndsR.br rfl (fun hc => ?_) (fun hc => ?_) | refine EndsR.scope ?_ | refine EndsR.inScope ?_ | refine EndsR.label ?_ | refine EndsR.ret rfl ?_ | refine EndsR.nil rfl ?_) | (show EndsG _ _ _ _ _ _ _ _ _; first | refine EndsG.mov rfl rfl ?_ | refine EndsG.lload rfl rfl rfl rfl ?_ | refine EndsG.laddr rfl rfl rfl ?_ | refine EndsG.lss rfl rfl rfl (fun hc => ?_) (fun hc => ?_) | refine EndsG.leq rfl rfl rfl (fun hc => ?_) (fun hc => ?_) | refine EndsG.gtr rfl rfl rfl (fun hc => ?_) (fun hc => ?_) | refine EndsG.geq rfl rfl rfl (fun hc => ?_) (fun hc => ?_) | refine EndsG.eql rfl rfl rfl (fun hc => ?_) (fun hc => ?_) | refine EndsG.neq rfl rfl rfl (fun hc => ?_) (fun hc => ?_) | refine EndsG.load rfl rfl (q0) ?_ | refine EndsG.load rfl rfl (p0) ?_ | refine EndsG.iaddr rfl rfl rfl (hi) ?_ | refine EndsG.skip rfl ?_ | refine EndsG.fin ?_ | refine EndsG.go rfl rfl rfl ?_ | refine EndsG.gono rfl rfl rfl ?_ | refine EndsG.skipn rfl ?_))
    · exact absurd hc (by simp)
    · exact next (n - 1) _ _ (by omega) ⟨rfl, i + 1, by omega, (by rw [show ((i + 1 : Nat) : Int) = IntKind.i64.wrap ((i : Int) + 1) by rw [wrap_small (by omega) (by omega)]; rfl]; rfl)⟩
    · omega
  · repeat' (first | (show EndsR _ _ _ _ _ _ _; first | refine EndsR.seq ?_ | refine EndsR.reg ?_ | refine EndsR.yes rfl ?_ | refine EndsR.no rfl ?_ | refine EndsR.skip ?_ | refine EndsR.block ?_ | refine EndsR.endB ?_ | refine EndsR.exit rfl ?_ | refine EndsR.br rfl (fun hc => ?_) (fun hc => ?_) | refine EndsR.scope ?_ | refine EndsR.inScope ?_ | refine EndsR.label ?_ | refine EndsR.ret rfl ?_ | refine EndsR.nil rfl ?_) | (show EndsG _ _ _ _ _ _ _ _ _; first | refine EndsG.mov rfl rfl ?_ | refine EndsG.lload rfl rfl rfl rfl ?_ | refine EndsG.laddr rfl rfl rfl ?_ | refine EndsG.lss rfl rfl rfl (fun hc => ?_) (fun hc => ?_) | refine EndsG.leq rfl rfl rfl (fun hc => ?_) (fun hc => ?_) | refine EndsG.gtr rfl rfl rfl (fun hc => ?_) (fun hc => ?_) | refine EndsG.geq rfl rfl rfl (fun hc => ?_) (fun hc => ?_) | refine EndsG.eql rfl rfl rfl (fun hc => ?_) (fun hc => ?_) | refine EndsG.neq rfl rfl rfl (fun hc => ?_) (fun hc => ?_) | refine EndsG.skip rfl ?_ | refine EndsG.fin ?_ | refine EndsG.go rfl rfl rfl ?_ | refine EndsG.gono rfl rfl rfl ?_ | refine EndsG.skipn rfl ?_))
    · omega
    · rfl
end Go.Proofs.Ytclgilndihagiaa
