/- Objects in their order: picked out of the plan seat's texts by a program. -/
import Derived.Test.YtfpfknafcgkcjaaGreatAloneS

set_option linter.unusedVariables false
set_option linter.unusedSimpArgs false
namespace Go.Proofs.YtfpfknafcgkcjaaGreat
open Go Go.Ir

def hasB (x : Obj) (t : Int) : Bool := decide (x.o ≤ t) && decide (0 ≤ IntKind.i64.wrap (t - x.o)) && decide (IntKind.i64.wrap (t - x.o) < x.n)

section

variable {prims : List (Nat × Prim)}

end

def shareB (x y : Obj) : Bool := decide (0 < x.n) && (decide (0 < y.n) && (hasB x y.o || hasB y x.o))

section

variable {prims : List (Nat × Prim)}

end

def apartP (l : List Obj) : Prop := ∀ (i k : Nat) (x y : Obj), k < i → l[i]? = some x → l[k]? = some y → shareB x y = false

open Classical in
noncomputable def apartB (l : List Obj) : Bool := decide (apartP l)

open Classical in
theorem apartB_true {l : List Obj} (h : apartP l) : apartB l = true := by unfold apartB; exact decide_eq_true h

open Classical in
theorem apartB_false {l : List Obj} (h : ¬ apartP l) : apartB l = false := by unfold apartB; exact decide_eq_false h

section

variable {prims : List (Nat × Prim)}

end

def fineP (arena : Int) (x : Obj) : Prop := 0 ≤ x.o ∧ 1 ≤ x.n ∧ x.n ≤ 4096 ∧ x.o ≤ IntKind.i64.wrap (arena - x.n)

def okP (arena : Int) (l : List Obj) : Prop := 0 ≤ arena ∧ arena ≤ 4096 ∧ apartP l ∧ ∀ (i : Nat) (x : Obj), l[i]? = some x → fineP arena x

open Classical in
noncomputable def okN (arena : Int) (l : List Obj) : Int := if okP arena l then 0 else 1

open Classical in
theorem okN_0 {arena : Int} {l : List Obj} (h : okP arena l) : okN arena l = 0 := by unfold okN; exact if_pos h

open Classical in
theorem okN_1 {arena : Int} {l : List Obj} (h : ¬ okP arena l) : okN arena l = 1 := by unfold okN; exact if_neg h

section

variable {lo : Nat} {h : Heap}

theorem begins_spec (lo : Nat) (h : Heap) (a b : Obj) : callR En lo Id.plan_begins [.agg a.cs.toArray, .agg b.cs.toArray] h = some (.bool (hasB b a.o), h) := by
 refine call_scr rfl Fn.plan_begins rfl rfl ?_
 repeat' (first | (show ER _ _ _ _ _ _ _; first | refine .seq ?_ | refine .reg ?_ | refine .yes rfl ?_ | refine .no rfl ?_ | refine .skip ?_ | refine .block ?_ | refine .endB ?_ | refine .exit rfl ?_ | refine .br rfl (fun hc => ?_) (fun hc => ?_) | refine .scope ?_ | refine .inScope ?_ | refine .label ?_ | refine .ret rfl ?_ | refine .nil rfl ?_) | (show EG _ _ _ _ _ _ _ _ _; first | refine .mov rfl rfl ?_ | refine .lload rfl rfl rfl rfl ?_ | refine .laddr rfl rfl rfl ?_ | (show EG _ _ (⟨_, .bin _ _ _, _, _⟩ :: _) _ _ _ _ _ _; first | refine .lss rfl rfl rfl (fun hc => ?_) (fun hc => ?_) | refine .leq rfl rfl rfl (fun hc => ?_) (fun hc => ?_) | refine .gtr rfl rfl rfl (fun hc => ?_) (fun hc => ?_) | refine .geq rfl rfl rfl (fun hc => ?_) (fun hc => ?_) | refine .eql rfl rfl rfl (fun hc => ?_) (fun hc => ?_) | refine .neq rfl rfl rfl (fun hc => ?_) (fun hc => ?_)) | refine .skip rfl ?_ | refine .fin ?_ | refine .go rfl rfl rfl ?_ | refine .gono rfl rfl rfl ?_ | refine .skipn rfl ?_))
 all_goals (refine tidyB ?_; simp [hasB, *])

def wrongB (arena : Int) (x : Obj) : Bool := decide (x.o < 0) || decide (x.n < 1) || decide (4096 < x.n) || decide (IntKind.i64.wrap (arena - x.n) < x.o)

theorem check1_spec (lo : Nat) {h : Heap} {a : Addr} {arena : Int} (hld : loadV h none a = some (.int .i64 arena)) (x : Obj) :
  callR En lo Id.plan_Check_1 [.agg x.cs.toArray, .pointer (some a)] h = some (.bool (wrongB arena x), h) := by
 refine call_scr rfl Fn.plan_Check_1 rfl rfl ?_
 repeat' (first | (show ER _ _ _ _ _ _ _; first | refine .seq ?_ | refine .reg ?_ | refine .yes rfl ?_ | refine .no rfl ?_ | refine .skip ?_ | refine .block ?_ | refine .endB ?_ | refine .exit rfl ?_ | refine .br rfl (fun hc => ?_) (fun hc => ?_) | refine .scope ?_ | refine .inScope ?_ | refine .label ?_ | refine .ret rfl ?_ | refine .nil rfl ?_) | (show EG _ _ _ _ _ _ _ _ _; first | refine .mov rfl rfl ?_ | refine .lload rfl rfl rfl rfl ?_ | refine .laddr rfl rfl rfl ?_ | (show EG _ _ (⟨_, .bin _ _ _, _, _⟩ :: _) _ _ _ _ _ _; first | refine .lss rfl rfl rfl (fun hc => ?_) (fun hc => ?_) | refine .leq rfl rfl rfl (fun hc => ?_) (fun hc => ?_) | refine .gtr rfl rfl rfl (fun hc => ?_) (fun hc => ?_) | refine .geq rfl rfl rfl (fun hc => ?_) (fun hc => ?_) | refine .eql rfl rfl rfl (fun hc => ?_) (fun hc => ?_) | refine .neq rfl rfl rfl (fun hc => ?_) (fun hc => ?_)) | refine .load rfl rfl (hld) ?_ | refine .skip rfl ?_ | refine .fin ?_ | refine .go rfl rfl rfl ?_ | refine .gono rfl rfl rfl ?_ | refine .skipn rfl ?_))
 all_goals (refine tidyB ?_; simp [wrongB, *])

theorem apart1_spec (lo : Nat) (h : Heap) (x : Obj) : callR En lo Id.plan_Apart_1 [.agg x.cs.toArray] h = some (.bool (decide (x.n < 1)), h) := by
 refine call_scr rfl Fn.plan_Apart_1 rfl rfl ?_
 repeat' (first | (show ER _ _ _ _ _ _ _; first | refine .seq ?_ | refine .reg ?_ | refine .yes rfl ?_ | refine .no rfl ?_ | refine .skip ?_ | refine .block ?_ | refine .endB ?_ | refine .exit rfl ?_ | refine .br rfl (fun hc => ?_) (fun hc => ?_) | refine .scope ?_ | refine .inScope ?_ | refine .label ?_ | refine .ret rfl ?_ | refine .nil rfl ?_) | (show EG _ _ _ _ _ _ _ _ _; first | refine .mov rfl rfl ?_ | refine .lload rfl rfl rfl rfl ?_ | refine .laddr rfl rfl rfl ?_ | (show EG _ _ (⟨_, .bin _ _ _, _, _⟩ :: _) _ _ _ _ _ _; first | refine .lss rfl rfl rfl (fun hc => ?_) (fun hc => ?_) | refine .leq rfl rfl rfl (fun hc => ?_) (fun hc => ?_) | refine .gtr rfl rfl rfl (fun hc => ?_) (fun hc => ?_) | refine .geq rfl rfl rfl (fun hc => ?_) (fun hc => ?_) | refine .eql rfl rfl rfl (fun hc => ?_) (fun hc => ?_) | refine .neq rfl rfl rfl (fun hc => ?_) (fun hc => ?_)) | refine .skip rfl ?_ | refine .fin ?_ | refine .go rfl rfl rfl ?_ | refine .gono rfl rfl rfl ?_ | refine .skipn rfl ?_))
 all_goals (refine tidyB ?_; simp [*])

theorem apart2_spec (lo : Nat) {h : Heap} {a : Addr} {x : Obj} (hld : loadV h (some 4) a = some (.agg x.cs.toArray)) (y : Obj) :
  callR En lo Id.plan_Apart_2 [.agg y.cs.toArray, .pointer (some a)] h = some (.bool (hasB y x.o || hasB x y.o), h) := by
 refine call_scr rfl Fn.plan_Apart_2 rfl rfl ?_
 repeat' (first | (show ER _ _ _ _ _ _ _; first | refine .seq ?_ | refine .reg ?_ | refine .yes rfl ?_ | refine .no rfl ?_ | refine .skip ?_ | refine .block ?_ | refine .endB ?_ | refine .exit rfl ?_ | refine .br rfl (fun hc => ?_) (fun hc => ?_) | refine .scope ?_ | refine .inScope ?_ | refine .label ?_ | refine .ret rfl ?_ | refine .nil rfl ?_) | (show EG _ _ _ _ _ _ _ _ _; first | refine .mov rfl rfl ?_ | refine .lload rfl rfl rfl rfl ?_ | refine .laddr rfl rfl rfl ?_ | (show EG _ _ (⟨_, .bin _ _ _, _, _⟩ :: _) _ _ _ _ _ _; first | refine .lss rfl rfl rfl (fun hc => ?_) (fun hc => ?_) | refine .leq rfl rfl rfl (fun hc => ?_) (fun hc => ?_) | refine .gtr rfl rfl rfl (fun hc => ?_) (fun hc => ?_) | refine .geq rfl rfl rfl (fun hc => ?_) (fun hc => ?_) | refine .eql rfl rfl rfl (fun hc => ?_) (fun hc => ?_) | refine .neq rfl rfl rfl (fun hc => ?_) (fun hc => ?_)) | refine .load rfl rfl (hld) ?_ | (show EG _ _ (⟨_, .call _ _, _, _⟩ :: _) _ _ _ _ _ _; first | refine .callb rfl rfl (begins_spec _ _ x y) (fun hc => ?_) (fun hc => ?_) | refine .callb rfl rfl (begins_spec _ _ y x) (fun hc => ?_) (fun hc => ?_)) | refine .skip rfl ?_ | refine .fin ?_ | refine .go rfl rfl rfl ?_ | refine .gono rfl rfl rfl ?_ | refine .skipn rfl ?_))
 all_goals (refine tidyB ?_; simp [*])

end

structure Mv where
 s : Int
 f : Int
 t : Int
 n : Int

def Mv.cs (x : Mv) : List Value := [.int .i64 x.s, .int .i64 x.f, .int .i64 x.t, .int .i64 x.n]

def mcs (l : List Mv) : List (List Value) := l.map Mv.cs

theorem mcs_len (l : List Mv) : ∀ e ∈ mcs l, e.length = 4 := by
 intro e he
 obtain ⟨x, _, rfl⟩ := List.mem_map.1 he
 rfl

theorem mcs_flat (l : List Mv) : ∀ e ∈ mcs l, e.all flat1 = true := by
 intro e he
 obtain ⟨x, _, rfl⟩ := List.mem_map.1 he
 rfl

theorem mcs_app (l : List Mv) (x : Mv) : mcs l ++ [x.cs] = mcs (l ++ [x]) := by simp [mcs]

theorem mcs_length (l : List Mv) : (mcs l).length = l.length := by simp [mcs]

def slideT (e : Int) (x : Obj) : Int := if x.fx then x.o else e

def slideS (st : List Mv × Int) (x : Obj) : List Mv × Int := (if slideT st.2 x = x.o then st.1 else st.1 ++ [⟨x.s, x.o, slideT st.2 x, x.n⟩], IntKind.i64.wrap (slideT st.2 x + x.n))

def slideL (l : List Obj) : List Mv × Int := l.foldl slideS ([], 0)

def slideR (h : Heap) (e : Int) (l : List Obj) : Value × Heap :=
 if e = 0 then (.tuple #[(made h 4 (mcs (slideL l).1)).1, .int .i64 (slideL l).2, .int .i64 0], (made h 4 (mcs (slideL l).1)).2)
 else (.tuple #[.slice none 0 0, .int .i64 0, .int .i64 e], h)

theorem slideL_len (l : List Obj) : (slideL l).1.length ≤ l.length := by
 have : ∀ (l : List Obj) (st : List Mv × Int), (l.foldl slideS st).1.length ≤ st.1.length + l.length := by
  intro l
  induction l with
  | nil => intro st; simp
  | cons x l ih =>
    intro st
    rw [List.foldl_cons]
    have h1 := ih (slideS st x)
    have h2 : (slideS st x).1.length ≤ st.1.length + 1 := by
     unfold slideS
     simp only
     split <;> simp
    rw [List.length_cons]; omega
 have h := this l ([], 0)
 simp only [List.length_nil, Nat.zero_add] at h
 exact h

theorem Out.tidy1 {h H : Heap} {n : Nat} {v : Value} {es : List (List Value)} (o : Out H h.length n v es) (hf : ∀ e ∈ es, e.all flat1 = true) : Ir.tidy1 h.length H v h = some (made h n es) := by
 rw [← o.tidy hf]
 obtain ⟨base, cap, rfl⟩ := o.sl.len
 rfl

theorem Out.tidy3 {h H : Heap} {n : Nat} {v : Value} {es : List (List Value)} (o : Out H h.length n v es) (hf : ∀ e ∈ es, e.all flat1 = true) (a b : Int) :
  Ir.tidy h (.tuple #[v, .int .i64 a, .int .i64 b]) H = some (.tuple #[(made h n es).1, .int .i64 a, .int .i64 b], (made h n es).2) := by
 have := Out.tidy1 o hf
 simp only [Ir.tidy, tidyL, this]
 rfl

theorem okN_cases (arena : Int) (l : List Obj) : okN arena l = 0 ∨ okN arena l = 1 := by
 by_cases h : okP arena l
 ·exact .inl (okN_0 h)
 ·exact .inr (okN_1 h)

def idxF (p : Obj → Bool) : List Obj → Nat → Int
 | [], _ => -1
 | x :: r, i => if p x then (i : Int) else idxF p r (i + 1)

theorem idxF_any (p : Obj → Bool) : ∀ (l : List Obj) (i : Nat), decide (0 ≤ idxF p l i) = l.any p
 | [], i => rfl
 | x :: r, i => by
   unfold idxF
   rw [List.any_cons]
   cases h : p x with
   | true => simp
   | false => simpa [h] using idxF_any p r (i + 1)

theorem idxF_at (p : Obj → Bool) : ∀ (l : List Obj) (i : Nat), (idxF p l i = -1 ∧ ∀ x ∈ l, p x = false) ∨ ∃ k, k < l.length ∧ idxF p l i = ((i + k : Nat) : Int) ∧ (∀ x ∈ l.take k, p x = false) ∧ p (gt l k) = true
 | [], i => .inl ⟨rfl, fun x h => by cases h⟩
 | x :: r, i => by
   unfold idxF
   cases h : p x with
   | true => exact .inr ⟨0, by simp, by simp, fun y hy => by simp at hy, h⟩
   | false =>
     rcases idxF_at p r (i + 1) with ⟨h1, h2⟩ | ⟨k, h1, h2, h3, h4⟩
     ·refine .inl ⟨by simpa using h1, fun y hy => ?_⟩
      rcases List.mem_cons.1 hy with rfl | hy
      ·exact h
      ·exact h2 y hy
     ·refine .inr ⟨k + 1, by simpa using h1, by simp [h2]; omega, fun y hy => ?_, h4⟩
      rw [List.take_succ_cons] at hy
      rcases List.mem_cons.1 hy with rfl | hy
      ·exact h
      ·exact h3 y hy

section

variable {h : Heap} {v : Value} {l : List Obj} {g : Nat} {caps : List Value} {p : Obj → Bool}

theorem index_spec (lo : Nat) (hv : Sl h 4 v (css l)) (hl : l.length ≤ 1000) (hp : ∀ lo x, callR En lo g (.agg x.cs.toArray :: caps) h = some (.bool (p x), h)) :
  callR En lo Id.slices_IndexFunc_Lplan_Object [v, .func (.func g) #[] caps.toArray] h = some (.int .i64 (idxF p l 0), h) := by
 refine Exists.elim hv.len fun base hq => Exists.elim hq fun cap hve => ?_
 rw [css_length] at hve
 refine call_scr rfl Fn.slices_IndexFunc_Lplan_Object rfl rfl ?_
 subst hve
 repeat' (first | (show ER _ _ _ _ _ _ _; first | refine .seq ?_ | refine .reg ?_ | refine .yes rfl ?_ | refine .no rfl ?_ | refine .skip ?_ | refine .block ?_ | refine .endB ?_ | refine .exit rfl ?_ | refine .br rfl (fun hc => ?_) (fun hc => ?_) | refine .scope ?_ | refine .inScope ?_ | refine .label ?_ | refine .ret rfl ?_ | refine .nil rfl ?_) | (show EG _ _ _ _ _ _ _ _ _; first | refine .mov rfl rfl ?_ | refine .lload rfl rfl rfl rfl ?_ | refine .laddr rfl rfl rfl ?_ | (show EG _ _ (⟨_, .bin _ _ _, _, _⟩ :: _) _ _ _ _ _ _; first | refine .lss rfl rfl rfl (fun hc => ?_) (fun hc => ?_) | refine .leq rfl rfl rfl (fun hc => ?_) (fun hc => ?_) | refine .gtr rfl rfl rfl (fun hc => ?_) (fun hc => ?_) | refine .geq rfl rfl rfl (fun hc => ?_) (fun hc => ?_) | refine .eql rfl rfl rfl (fun hc => ?_) (fun hc => ?_) | refine .neq rfl rfl rfl (fun hc => ?_) (fun hc => ?_)) | refine .skip rfl ?_ | refine .fin ?_ | refine .go rfl rfl rfl ?_ | refine .gono rfl rfl rfl ?_ | refine .skipn rfl ?_))
 refine .loop (fun n f H => H = h ∧ ∃ i : Nat, n + i = l.length ∧ f = [(0, .slice base l.length cap), (1, .func (.func g) #[] caps.toArray), (7, N l.length), (8, N i)] ∧ idxF p l 0 = idxF p (l.drop i) i) (n := l.length)
  ⟨rfl, 0, rfl, rfl, rfl⟩ ?_
 rintro n f H ⟨rfl, i, hn, rfl, hI⟩ next
 by_cases hi : i < l.length
 ·have hgi : l[i]? = some l[i] := List.getElem?_eq_getElem hi
  have hd : l.drop i = l[i] :: l.drop (i + 1) := List.drop_eq_getElem_cons hi
  refine Exists.elim (css_row hv hgi) fun a hq => Exists.elim hq fun cap' hq => ?_
  have hva := hq.1
  have q0 := hq.2.1
  injection hva with e1 e2 e3
  subst e1
  generalize l[i] = x at q0 hd
  repeat' (first | (show ER _ _ _ _ _ _ _; first | refine .seq ?_ | refine .reg ?_ | refine .yes rfl ?_ | refine .no rfl ?_ | refine .skip ?_ | refine .block ?_ | refine .endB ?_ | refine .exit rfl ?_ | refine .br rfl (fun hc => ?_) (fun hc => ?_) | refine .scope ?_ | refine .inScope ?_ | refine .label ?_ | refine .ret rfl ?_ | refine .nil rfl ?_) | (show EG _ _ _ _ _ _ _ _ _; first | refine .mov rfl rfl ?_ | refine .lload rfl rfl rfl rfl ?_ | refine .laddr rfl rfl rfl ?_ | (show EG _ _ (⟨_, .bin _ _ _, _, _⟩ :: _) _ _ _ _ _ _; first | refine .lssT rfl rfl rfl (by omega) ?_ | refine .lssF rfl rfl rfl (by omega) ?_ | refine .leq rfl rfl rfl (fun hc => ?_) (fun hc => ?_) | refine .gtr rfl rfl rfl (fun hc => ?_) (fun hc => ?_) | refine .geq rfl rfl rfl (fun hc => ?_) (fun hc => ?_) | refine .eql rfl rfl rfl (fun hc => ?_) (fun hc => ?_) | refine .neq rfl rfl rfl (fun hc => ?_) (fun hc => ?_) | refine .addN rfl rfl rfl (by omega) ?_ | refine .addN (b := 1) rfl rfl rfl (by omega) ?_ | refine .subN rfl rfl rfl (by omega) ?_ | refine .subN (b := 1) rfl rfl rfl (by omega) ?_) | refine .load rfl rfl (q0) ?_ | refine .iaddr rfl rfl rfl (by omega) ?_ | refine .callvb rfl rfl rfl rfl (hp _ x) (fun hc => ?_) (fun hc => ?_) | refine .skip rfl ?_ | refine .fin ?_ | refine .go rfl rfl rfl ?_ | refine .gono rfl rfl rfl ?_ | refine .skipn rfl ?_))
  ·refine tidyI ?_
   rw [hI, hd, idxF, if_pos ‹_›]
  ·refine next (n - 1) _ _ (by omega) ⟨rfl, i + 1, by omega, rfl, ?_⟩
   rw [hI, hd, idxF, if_neg (by simp [*])]
 ·repeat' (first | (show ER _ _ _ _ _ _ _; first | refine .seq ?_ | refine .reg ?_ | refine .yes rfl ?_ | refine .no rfl ?_ | refine .skip ?_ | refine .block ?_ | refine .endB ?_ | refine .exit rfl ?_ | refine .br rfl (fun hc => ?_) (fun hc => ?_) | refine .scope ?_ | refine .inScope ?_ | refine .label ?_ | refine .ret rfl ?_ | refine .nil rfl ?_) | (show EG _ _ _ _ _ _ _ _ _; first | refine .mov rfl rfl ?_ | refine .lload rfl rfl rfl rfl ?_ | refine .laddr rfl rfl rfl ?_ | (show EG _ _ (⟨_, .bin _ _ _, _, _⟩ :: _) _ _ _ _ _ _; first | refine .lssT rfl rfl rfl (by omega) ?_ | refine .lssF rfl rfl rfl (by omega) ?_ | refine .leq rfl rfl rfl (fun hc => ?_) (fun hc => ?_) | refine .gtr rfl rfl rfl (fun hc => ?_) (fun hc => ?_) | refine .geq rfl rfl rfl (fun hc => ?_) (fun hc => ?_) | refine .eql rfl rfl rfl (fun hc => ?_) (fun hc => ?_) | refine .neq rfl rfl rfl (fun hc => ?_) (fun hc => ?_)) | refine .skip rfl ?_ | refine .fin ?_ | refine .go rfl rfl rfl ?_ | refine .gono rfl rfl rfl ?_ | refine .skipn rfl ?_))
  refine tidyI ?_
  rw [hI, List.drop_of_length_le (by omega)]
  rfl

theorem contains_spec (lo : Nat) (hv : Sl h 4 v (css l)) (hl : l.length ≤ 1000) (hp : ∀ lo x, callR En lo g (.agg x.cs.toArray :: caps) h = some (.bool (p x), h)) :
  callR En lo Id.slices_ContainsFunc_Lplan_Object [v, .func (.func g) #[] caps.toArray] h = some (.bool (l.any p), h) := by
 refine call_scr rfl Fn.slices_ContainsFunc_Lplan_Object rfl rfl ?_
 have ha := idxF_any p l 0
 repeat' (first | (show ER _ _ _ _ _ _ _; first | refine .seq ?_ | refine .reg ?_ | refine .yes rfl ?_ | refine .no rfl ?_ | refine .skip ?_ | refine .block ?_ | refine .endB ?_ | refine .exit rfl ?_ | refine .br rfl (fun hc => ?_) (fun hc => ?_) | refine .scope ?_ | refine .inScope ?_ | refine .label ?_ | refine .ret rfl ?_ | refine .nil rfl ?_) | (show EG _ _ _ _ _ _ _ _ _; first | refine .mov rfl rfl ?_ | refine .lload rfl rfl rfl rfl ?_ | refine .laddr rfl rfl rfl ?_ | (show EG _ _ (⟨_, .bin _ _ _, _, _⟩ :: _) _ _ _ _ _ _; first | refine .lss rfl rfl rfl (fun hc => ?_) (fun hc => ?_) | refine .leq rfl rfl rfl (fun hc => ?_) (fun hc => ?_) | refine .gtr rfl rfl rfl (fun hc => ?_) (fun hc => ?_) | refine .geq rfl rfl rfl (fun hc => ?_) (fun hc => ?_) | refine .eql rfl rfl rfl (fun hc => ?_) (fun hc => ?_) | refine .neq rfl rfl rfl (fun hc => ?_) (fun hc => ?_)) | refine .call rfl rfl (index_spec _ hv hl hp) ?_ | refine .skip rfl ?_ | refine .fin ?_ | refine .go rfl rfl rfl ?_ | refine .gono rfl rfl rfl ?_ | refine .skipn rfl ?_))
 ·exact tidyB (by rw [← ha, decide_eq_true ‹_›])
 ·exact tidyB (by rw [← ha, decide_eq_false ‹_›])

end


section

variable {E : Env} {lo : Nat} {os : List IOper} {f : Fr} {h h' : Heap} {hs hs' : List Heap} {v : Value} {k : List Ir.Item} {rs : List IRes} {Q : Value → Heap → Prop} {d : Nat} {g : Option (Nat × Bool)}

variable {x y : Operand} {b n i esz : Nat}

theorem EG.upTo (hw : want g f = some true) (hx : ev f x = some (.slice (some (loose b 0)) n esz)) (hy : ev f y = some (N i)) (hi : i ≤ n) (c : EG E lo os hs k ((d, .slice (some (loose b 0)) i esz) :: f) h rs Q) :
  EG E lo (⟨some d, .slice esz x none (some y) none, g, 0⟩ :: os) hs k f h rs Q := .go hw (by
   simp only [iop, hx, evo, hy, islice, loose, if_true, ibounds, ibMax, ibHigh, ibound, ibLow]
   rw [if_pos ⟨by omega, by omega⟩]
   simp) rfl c

theorem EG.fromOn (hw : want g f = some true) (hx : ev f x = some (.slice (some (loose b 0)) n esz)) (hy : ev f y = some (N i)) (hi : i ≤ n) (c : EG E lo os hs k ((d, .slice (some (loose b (i * esz))) (n - i) esz) :: f) h rs Q) :
  EG E lo (⟨some d, .slice esz x (some y) none none, g, 0⟩ :: os) hs k f h rs Q := .go hw (by
   simp only [iop, hx, evo, hy, islice, loose, if_true, ibounds, ibMax, ibHigh, ibound, ibLow]
   rw [if_pos ⟨by omega, by omega⟩]
   simp) rfl c

end

theorem repeatL_len {cs : List Value} : ∀ n, (repeatL cs n).length = n * cs.length
 | 0 => by simp [repeatL]
 | n + 1 => by
   have ih := repeatL_len (cs := cs) n
   simp only [repeatL, List.length_append, ih]
   rw [Nat.add_mul]; omega

section

variable {H : Heap} {lo b : Nat} {l : List Obj}

theorem css_take {l : List Obj} {i : Nat} (hi : i ≤ l.length) : (css (l.take i)).flatten = (css l).flatten.take (i * 4) := by
 have e : (css l).flatten = (css (l.take i)).flatten ++ (css (l.drop i)).flatten := by
  rw [← List.flatten_append]
  congr 1
  simp only [css, ← List.map_append, List.take_append_drop]
 have hlen : (css (l.take i)).flatten.length = i * 4 := by rw [flat_len (css_len _), css_length, List.length_take, Nat.min_eq_left hi]
 rw [e, ← hlen, List.take_left]

theorem sl_take {h : Heap} {cap : Nat} {l : List Obj} (hv : Sl h 4 (.slice (some (loose b 0)) l.length cap) (css l)) {i : Nat} (hi : i ≤ l.length) : Sl h 4 (.slice (some (loose b 0)) i cap) (css (l.take i)) := by
 refine ⟨css_len _, ?_⟩
 have hlt : (l.take i).length = i := by rw [List.length_take]; omega
 rcases hv.2 with ⟨h1, base, cap', h2⟩ | ⟨a, cap', h1, h2⟩
 ·have : l = [] := by cases l with | nil => rfl | cons _ _ => simp [css] at h1
  subst this
  refine .inl ⟨by simp [css], some (loose b 0), cap, ?_⟩
  simp at hi
  rw [hi]
 ·rw [css_length] at h1 h2
  injection h1 with e1 e2 e3
  injection e1 with e1
  subst e1
  refine .inr ⟨loose b 0, cap, by rw [css_length, hlt], ?_⟩
  obtain ⟨cs, ro, hb, g1, g2⟩ := ldN_some h2
  rw [css_length, hlt, ldN_of hb (by omega)]
  rw [css_take hi, g2, List.take_take, Nat.min_eq_left (by omega)]

theorem clr_store {n : Nat} (hlo : lo ≤ b) (hb : b < H.length) {i : Nat} (hn : l.length = i + n) :
  stN lo (hw H b l) ⟨b, i * 4, none⟩ (repeatL [.int .i64 0, .int .i64 0, .int .i64 0, .bool false] n) = some (hw H b (l.take i ++ List.replicate n dflt)) := by
 have e1 : (hw H b l)[b]? = some (.row (css l).flatten false) := by simp [hw, hb]
 have hfl : (css l).flatten.length = l.length * 4 := by rw [flat_len (css_len l), css_length]
 have hr : repeatL [.int .i64 0, .int .i64 0, .int .i64 0, .bool false] n = (css (List.replicate n dflt)).flatten := by
  induction n with
  | zero => rfl
  | succ n ih =>
    have : ∀ m, repeatL [Value.int .i64 0, .int .i64 0, .int .i64 0, .bool false] m = (css (List.replicate m dflt)).flatten := by
     intro m
     induction m with
     | zero => rfl
     | succ m ih =>
       simp only [repeatL, ih, List.replicate_succ, css, List.map_cons, List.flatten_cons]
       rfl
    exact this _
 have hlen : (repeatL [Value.int .i64 0, .int .i64 0, .int .i64 0, .bool false] n).length = n * 4 := repeatL_len n
 have hlt : (l.take i).length = i := by rw [List.length_take]; omega
 unfold stN
 simp only [e1]
 rw [if_pos hlo, if_pos trivial, if_pos (by rw [hfl, hlen]; show i * 4 + n * 4 ≤ _; omega)]
 have hs : splice (css l).flatten (i * 4) (repeatL [.int .i64 0, .int .i64 0, .int .i64 0, .bool false] n) = (css (l.take i ++ List.replicate n dflt)).flatten := by
  unfold splice
  rw [hlen, List.drop_of_length_le (by rw [hfl]; omega), List.append_nil, hr]
  rw [show css (l.take i ++ List.replicate n dflt) = css (l.take i) ++ css (List.replicate n dflt) by simp [css], List.flatten_append, css_take (by omega)]
 rw [hs]
 simp [hw]

end
end Go.Proofs.YtfpfknafcgkcjaaGreat

/- Objects in their order: picked out of the plan seat's texts by a program. -/
set_option linter.unusedVariables false
set_option linter.unusedSimpArgs false
namespace Go.Proofs.YtfpfknafcgkcjaaGreat
open Go Go.Ir

def big (x : Obj) : Bool := !decide (x.n < 1)

abbrev FA : Value := .func (.func Id.plan_Apart_1) #[] #[]

section

variable {H : Heap} {lo b : Nat} {l : List Obj}

theorem filter_take_succ {l : List Obj} {j : Nat} (hj : j < l.length) : (l.take (j + 1)).filter big = (l.take j).filter big ++ (if big (gt l j) then [gt l j] else []) := by
 rw [List.take_succ_eq_append_getElem hj, List.filter_append]
 congr 1
 have : gt l j = l[j] := by simp [gt, hj]
 rw [this]
 cases h : big l[j] <;> simp [h]

theorem take_set_succ {l : List Obj} {i : Nat} {x : Obj} (hi : i < l.length) : (l.set i x).take (i + 1) = l.take i ++ [x] := by
 rw [List.take_succ_eq_append_getElem (by simpa using hi), List.take_set, List.set_eq_of_length_le (by simp; omega)]
 simp

theorem delete_spec (hlo : lo ≤ b) (hb : b < H.length) (hl : l.length ≤ 1000) :
  ∃ v H', callR En lo Id.slices_DeleteFunc_Lplan_Object [dat b l.length 4, FA] (hw H b l) = some (v, H') ∧ v = dat b (l.filter big).length 4 ∧ Sl H' 4 v (css (l.filter big)) ∧ H.length = H'.length := by
 have hI := fun lo => index_spec (g := Id.plan_Apart_1) (caps := []) (p := fun x => decide (x.n < 1)) lo (hw_sl (cap := 4) (l := l) hb) hl (fun lo x => apart1_spec lo _ x)
 refine call_ex rfl Fn.slices_DeleteFunc_Lplan_Object rfl rfl ?_
 rcases idxF_at (fun x => decide (x.n < 1)) l 0 with ⟨h1, h2⟩ | ⟨k, h1, h2, h3, h4⟩
 ·rw [h1] at hI
  have hf : l.filter big = l := List.filter_eq_self.2 fun x hx => by have := h2 x hx; simp only [big, this]; rfl
  repeat' (first | (show ER _ _ _ _ _ _ _; first | refine .seq ?_ | refine .reg ?_ | refine .yes rfl ?_ | refine .no rfl ?_ | refine .skip ?_ | refine .block ?_ | refine .endB ?_ | refine .exit rfl ?_ | refine .br rfl (fun hc => ?_) (fun hc => ?_) | refine .scope ?_ | refine .inScope ?_ | refine .label ?_ | refine .ret rfl ?_ | refine .nil rfl ?_) | (show EG _ _ _ _ _ _ _ _ _; first | refine .mov rfl rfl ?_ | refine .lload rfl rfl rfl rfl ?_ | refine .laddr rfl rfl rfl ?_ | (show EG _ _ (⟨_, .bin _ _ _, _, _⟩ :: _) _ _ _ _ _ _; first | refine .lss rfl rfl rfl (fun hc => ?_) (fun hc => ?_) | refine .leq rfl rfl rfl (fun hc => ?_) (fun hc => ?_) | refine .gtr rfl rfl rfl (fun hc => ?_) (fun hc => ?_) | refine .geq rfl rfl rfl (fun hc => ?_) (fun hc => ?_) | refine .eqlT rfl rfl rfl (by omega) ?_ | refine .eqlF rfl rfl rfl (by omega) ?_ | refine .neq rfl rfl rfl (fun hc => ?_) (fun hc => ?_)) | refine .call rfl rfl (hI _) ?_ | refine .skip rfl ?_ | refine .fin ?_ | refine .go rfl rfl rfl ?_ | refine .gono rfl rfl rfl ?_ | refine .skipn rfl ?_))
  rw [hf]
  exact ⟨rfl, hw_sl hb, (hw_len ..).symm⟩
 ·rw [h2] at hI
  repeat' (first | (show ER _ _ _ _ _ _ _; first | refine .seq ?_ | refine .reg ?_ | refine .yes rfl ?_ | refine .no rfl ?_ | refine .skip ?_ | refine .block ?_ | refine .endB ?_ | refine .exit rfl ?_ | refine .br rfl (fun hc => ?_) (fun hc => ?_) | refine .scope ?_ | refine .inScope ?_ | refine .label ?_ | refine .ret rfl ?_ | refine .nil rfl ?_) | (show EG _ _ _ _ _ _ _ _ _; first | refine .mov rfl rfl ?_ | refine .lload rfl rfl rfl rfl ?_ | refine .laddr rfl rfl rfl ?_ | (show EG _ _ (⟨_, .bin _ _ _, _, _⟩ :: _) _ _ _ _ _ _; first | refine .lss rfl rfl rfl (fun hc => ?_) (fun hc => ?_) | refine .leq rfl rfl rfl (fun hc => ?_) (fun hc => ?_) | refine .gtr rfl rfl rfl (fun hc => ?_) (fun hc => ?_) | refine .geq rfl rfl rfl (fun hc => ?_) (fun hc => ?_) | refine .eqlT rfl rfl rfl (by omega) ?_ | refine .eqlF rfl rfl rfl (by omega) ?_ | refine .neq rfl rfl rfl (fun hc => ?_) (fun hc => ?_) | refine .addN rfl rfl rfl (by omega) ?_ | refine .addN (b := 1) rfl rfl rfl (by omega) ?_ | refine .subN rfl rfl rfl (by omega) ?_ | refine .subN (b := 1) rfl rfl rfl (by omega) ?_) | refine .call rfl rfl (hI _) ?_ | refine .skip rfl ?_ | refine .fin ?_ | refine .go rfl rfl rfl ?_ | refine .gono rfl rfl rfl ?_ | refine .skipn rfl ?_))
  refine .loop (fun z f H' => ∃ (i j : Nat) (l1 : List Obj), z + j = l.length ∧ i < j ∧ l1.length = l.length ∧ f = [(0, dat b l.length 4), (1, FA), (5, N i), (6, N j)] ∧ H' = hw H b l1 ∧
    l1.take i = (l.take j).filter big ∧ ∀ q, j ≤ q → gt l1 q = gt l q) (n := l.length - (k + 1))
   ⟨0 + k, 0 + k + 1, l, by omega, by omega, rfl, rfl, rfl, ?_, fun _ _ => rfl⟩ ?_
  ·rw [Nat.zero_add, filter_take_succ h1]
   have hbk : big (gt l k) = false := by simp only [big, h4]; rfl
   rw [hbk]
   have : (l.take k).filter big = l.take k := List.filter_eq_self.2 fun x hx => by have := h3 x hx; simp only [big, this]; rfl
   rw [this]
   simp
  rintro z f H' ⟨i, j, l1, hz, hij, hll, rfl, rfl, hT, hG⟩ next
  by_cases hj : j < l.length
  ·have hgj := hG j (Nat.le_refl _)
   have hft := filter_take_succ hj
   repeat' (first | (show ER _ _ _ _ _ _ _; first | refine .seq ?_ | refine .reg ?_ | refine .yes rfl ?_ | refine .no rfl ?_ | refine .skip ?_ | refine .block ?_ | refine .endB ?_ | refine .exit rfl ?_ | refine .br rfl (fun hc => ?_) (fun hc => ?_) | refine .scope ?_ | refine .inScope ?_ | refine .label ?_ | refine .ret rfl ?_ | refine .nil rfl ?_) | (show EG _ _ _ _ _ _ _ _ _; first | refine .mov rfl rfl ?_ | refine .lload rfl rfl rfl rfl ?_ | refine .laddr rfl rfl rfl ?_ | (show EG _ _ (⟨_, .bin _ _ _, _, _⟩ :: _) _ _ _ _ _ _; first | refine .lssT rfl rfl rfl (by omega) ?_ | refine .lssF rfl rfl rfl (by omega) ?_ | refine .leq rfl rfl rfl (fun hc => ?_) (fun hc => ?_) | refine .gtr rfl rfl rfl (fun hc => ?_) (fun hc => ?_) | refine .geq rfl rfl rfl (fun hc => ?_) (fun hc => ?_) | refine .eql rfl rfl rfl (fun hc => ?_) (fun hc => ?_) | refine .neq rfl rfl rfl (fun hc => ?_) (fun hc => ?_) | refine .addN rfl rfl rfl (by omega) ?_ | refine .addN (b := 1) rfl rfl rfl (by omega) ?_ | refine .subN rfl rfl rfl (by omega) ?_ | refine .subN (b := 1) rfl rfl rfl (by omega) ?_) | refine .load rfl rfl (hw_load hb (by omega)) ?_ | refine .iaddr rfl rfl rfl (by omega) ?_ | refine .callvb rfl rfl rfl rfl (apart1_spec _ _ (gt l1 j)) (fun hc => ?_) (fun hc => ?_) | refine .store rfl rfl rfl rfl rfl (hw_store hlo hb (by omega)) ?_ | refine .skip rfl ?_ | refine .fin ?_ | refine .go rfl rfl rfl ?_ | refine .gono rfl rfl rfl ?_ | refine .skipn rfl ?_))
   ·refine next (z - 1) _ _ (by omega) ⟨i, j + 1, l1, by omega, by omega, hll, rfl, rfl, ?_, fun q hq => hG q (by omega)⟩
    rw [hft, ← hgj, show big (gt l1 j) = false by simp only [big, hc]; rfl, hT]
    simp
   ·refine next (z - 1) _ _ (by omega) ⟨i + 1, j + 1, l1.set i (gt l1 j), by omega, by omega, by rw [List.length_set]; exact hll, rfl, rfl, ?_, fun q hq => ?_⟩
    ·rw [hft, ← hgj, show big (gt l1 j) = true by simp only [big, hc]; rfl, take_set_succ (by omega), hT]
     rfl
    ·rw [gt_set, if_neg (by omega)]; exact hG q (by omega)
  ·have hjl : j = l.length := by omega
   rw [hjl, List.take_length] at hT
   repeat' (first | (show ER _ _ _ _ _ _ _; first | refine .seq ?_ | refine .reg ?_ | refine .yes rfl ?_ | refine .no rfl ?_ | refine .skip ?_ | refine .block ?_ | refine .endB ?_ | refine .exit rfl ?_ | refine .br rfl (fun hc => ?_) (fun hc => ?_) | refine .scope ?_ | refine .inScope ?_ | refine .label ?_ | refine .ret rfl ?_ | refine .nil rfl ?_) | (show EG _ _ _ _ _ _ _ _ _; first | refine .mov rfl rfl ?_ | refine .lload rfl rfl rfl rfl ?_ | refine .laddr rfl rfl rfl ?_ | (show EG _ _ (⟨_, .bin _ _ _, _, _⟩ :: _) _ _ _ _ _ _; first | refine .lssT rfl rfl rfl (by omega) ?_ | refine .lssF rfl rfl rfl (by omega) ?_ | refine .leq rfl rfl rfl (fun hc => ?_) (fun hc => ?_) | refine .gtr rfl rfl rfl (fun hc => ?_) (fun hc => ?_) | refine .geq rfl rfl rfl (fun hc => ?_) (fun hc => ?_) | refine .eql rfl rfl rfl (fun hc => ?_) (fun hc => ?_) | refine .neq rfl rfl rfl (fun hc => ?_) (fun hc => ?_) | refine .addN rfl rfl rfl (by omega) ?_ | refine .addN (b := 1) rfl rfl rfl (by omega) ?_ | refine .subN rfl rfl rfl (by omega) ?_ | refine .subN (b := 1) rfl rfl rfl (by omega) ?_) | refine EG.fromOn rfl rfl rfl (by omega) ?_ | refine EG.upTo rfl rfl rfl (by omega) ?_ | refine .clr rfl rfl (by omega) (clr_store hlo hb (by omega)) ?_ | refine .skip rfl ?_ | refine .fin ?_ | refine .go rfl rfl rfl ?_ | refine .gono rfl rfl rfl ?_ | refine .skipn rfl ?_))
   have hlen : (l1.take i ++ List.replicate (l.length - i) dflt).length = l.length := by simp; omega
   have hs := hw_sl (cap := 4) (l := l1.take i ++ List.replicate (l.length - i) dflt) (b := b) hb
   have ht := sl_take hs (i := i) (by omega)
   have hti : (l1.take i ++ List.replicate (l.length - i) dflt).take i = l.filter big := by
    rw [List.take_append_of_le_length (by simp; omega), List.take_take, Nat.min_self, hT]
   rw [hti] at ht
   have hfl : (l.filter big).length = i := by rw [← hT, List.length_take]; omega
   exact ⟨by rw [hfl]; rfl, ht, (hw_len ..).symm⟩

end


def touch (y x : Obj) : Bool := hasB y x.o || hasB x y.o

def planOk (ls : List Obj) : Prop := ∀ i x, ls[i]? = some x → (ls.take i).any (fun y => touch y x) = false

theorem shareB_comm (x y : Obj) : shareB x y = shareB y x := by
 unfold shareB
 rw [Bool.or_comm]
 cases decide (0 < x.n) <;> cases decide (0 < y.n) <;> rfl

theorem shareB_big {x y : Obj} (hx : big x = true) (hy : big y = true) : shareB x y = touch y x := by
 have h1 : 0 < x.n := by simp [big] at hx; omega
 have h2 : 0 < y.n := by simp [big] at hy; omega
 simp only [shareB, touch, h1, h2, decide_true, Bool.true_and]
 rw [Bool.or_comm]

theorem shareB_small {x y : Obj} (h : big x = false ∨ big y = false) : shareB x y = false := by
 unfold shareB
 rcases h with h | h
 ·have : ¬ 0 < x.n := by simp [big] at h; omega
  simp [this]
 ·have : ¬ 0 < y.n := by simp [big] at h; omega
  simp [this]

theorem apartP_pairs (l : List Obj) : apartP l ↔ l.Pairwise (fun y x => shareB x y = false) := by
 rw [List.pairwise_iff_getElem]
 constructor
 ·intro h i j hi hj hij
  exact h j i _ _ hij (List.getElem?_eq_getElem hj) (List.getElem?_eq_getElem hi)
 ·intro h i k x y hk hx hy
  obtain ⟨hi, rfl⟩ := List.getElem?_eq_some_iff.1 hx
  obtain ⟨hk', rfl⟩ := List.getElem?_eq_some_iff.1 hy
  exact h k i hk' hi hk

theorem planOk_pairs (l : List Obj) : planOk l ↔ l.Pairwise (fun y x => touch y x = false) := by
 rw [List.pairwise_iff_getElem]
 constructor
 ·intro h i j hi hj hij
  have := List.any_eq_false.1 (h j _ (List.getElem?_eq_getElem hj)) l[i] (List.mem_iff_getElem.2 ⟨i, by rw [List.length_take]; omega, by simp⟩)
  simpa using this
 ·intro h i x hx
  obtain ⟨hi, rfl⟩ := List.getElem?_eq_some_iff.1 hx
  rw [List.any_eq_false]
  intro y hy
  obtain ⟨k, hk, rfl⟩ := List.mem_iff_getElem.1 hy
  rw [List.length_take] at hk
  have := h k i (by omega) hi (by omega)
  simp only [List.getElem_take, this]
  decide

theorem bridge (l : List Obj) : planOk ((sortR l).filter big) ↔ apartP l := by
 rw [planOk_pairs, apartP_pairs, ← (sortR_perm l).pairwise_iff (R := fun y x => shareB x y = false) (fun {x y} h => by rw [shareB_comm]; exact h)]
 rw [List.pairwise_filter]
 constructor
 ·intro h
  refine h.imp fun {y x} hxy => ?_
  cases hx : big x with
  | false => exact shareB_small (.inl hx)
  | true =>
    cases hy : big y with
    | false => exact shareB_small (.inr hy)
    | true => rw [shareB_big hx hy]; exact hxy hy hx
 ·intro h
  refine h.imp fun {y x} hxy hy hx => ?_
  rw [← shareB_big hx hy]; exact hxy

theorem obox_store {H : Heap} {lo : Nat} {cs : List Value} {x : Obj} (hlo : lo ≤ H.length) (hc : cs.length = 4) : stN lo (H ++ [Blk.row cs false]) ⟨H.length, 0, none⟩ (vcells (.agg x.cs.toArray)) = some (H ++ [Blk.row x.cs false]) := by
 unfold stN
 simp only [List.getElem?_concat_length]
 rw [if_pos hlo, if_pos trivial, if_pos (by rw [hc]; exact Nat.le_refl 4)]
 have : splice cs 0 (vcells (.agg x.cs.toArray)) = x.cs := by
  unfold splice
  rw [List.drop_of_length_le (by rw [hc]; exact Nat.le_refl 4)]
  rfl
 rw [this]
 simp

theorem obox_load {H : Heap} {x : Obj} : loadV (H ++ [Blk.row x.cs false]) (some 4) ⟨H.length, 0, none⟩ = some (.agg x.cs.toArray) := by
 unfold loadV
 simp only
 rw [ldN_whole (a := ⟨H.length, 0, none⟩) (n := 4) (cs := x.cs) (ro := false) List.getElem?_concat_length rfl rfl]

theorem planApart_nil (lo : Nat) (h : Heap) : callR En lo Id.plan_Apart [.slice none 0 0] h = some (.bool true, h) := callR_iff.2 ⟨500, by kernel_rfl⟩

theorem planApart_spec (lo : Nat) {h : Heap} {v : Value} {l : List Obj} (hv : Sl h 4 v (css l)) (h0 : l = [] → v = .slice none 0 0) (hl : l.length ≤ 64) :
  callR En lo Id.plan_Apart [v] h = some (.bool (apartB l), h) := by
 by_cases hne : l = []
 ·subst hne
  rw [h0 rfl, apartB_true (fun i k x y _ hx => by simp at hx)]
  exact planApart_nil _ _
 have hS := fun lo => planSort_spec lo hv h0 hl
 have hslen := sortR_len l
 have hbr := bridge l
 have hm : made h 4 (css (sortR l)) = (dat h.length (sortR l).length 4, hw (h ++ [.row (css (sortR l)).flatten false]) h.length (sortR l)) := by
  unfold made
  rw [if_neg (by intro hc; apply hne; have := congrArg List.length hc; rw [css_length, hslen] at this; exact List.length_eq_zero_iff.1 this), css_length]
  simp [dat, hw]
 rw [hm] at hS
 generalize hH : h ++ [Blk.row (css (sortR l)).flatten false] = H at hS
 have hHl : H.length = h.length + 1 := by rw [← hH]; simp
 generalize sortR l = so at hS hslen hbr
 refine Exists.elim (delete_spec (H := H) (lo := h.length) (b := h.length) (l := so) (Nat.le_refl _) (by omega) (by omega)) fun w hq => Exists.elim hq fun H1 hq => ?_
 have hD := hq.1
 have hw := hq.2.1
 have hs1 := hq.2.2.1
 have hl1 := hq.2.2.2
 have hfl : (so.filter big).length ≤ so.length := List.length_filter_le ..
 generalize so.filter big = ls at hw hs1 hbr hfl
 subst hw
 refine call_scr rfl Fn.plan_Apart rfl rfl ?_
 repeat' (first | (show ER _ _ _ _ _ _ _; first | refine .seq ?_ | refine .reg ?_ | refine .yes rfl ?_ | refine .no rfl ?_ | refine .skip ?_ | refine .block ?_ | refine .endB ?_ | refine .exit rfl ?_ | refine .br rfl (fun hc => ?_) (fun hc => ?_) | refine .scope ?_ | refine .inScope ?_ | refine .label ?_ | refine .ret rfl ?_ | refine .nil rfl ?_) | (show EG _ _ _ _ _ _ _ _ _; first | refine .mov rfl rfl ?_ | refine .lload rfl rfl rfl rfl ?_ | refine .laddr rfl rfl rfl ?_ | (show EG _ _ (⟨_, .bin _ _ _, _, _⟩ :: _) _ _ _ _ _ _; first | refine .lss rfl rfl rfl (fun hc => ?_) (fun hc => ?_) | refine .leq rfl rfl rfl (fun hc => ?_) (fun hc => ?_) | refine .gtr rfl rfl rfl (fun hc => ?_) (fun hc => ?_) | refine .geq rfl rfl rfl (fun hc => ?_) (fun hc => ?_) | refine .eql rfl rfl rfl (fun hc => ?_) (fun hc => ?_) | refine .neq rfl rfl rfl (fun hc => ?_) (fun hc => ?_)) | (show EG _ _ (⟨_, .call _ _, _, _⟩ :: _) _ _ _ _ _ _; first | refine .call rfl rfl (hS _) ?_ | refine .call rfl rfl (hD) ?_) | refine .skip rfl ?_ | refine .fin ?_ | refine .go rfl rfl rfl ?_ | refine .gono rfl rfl rfl ?_ | refine .skipn rfl ?_))
 refine .loop (fun z f Hc => ∃ i : Nat, z + i = ls.length ∧ f = [(3, dat h.length ls.length 4), (9, dat h.length ls.length 4), (10, N ls.length), (11, N i)] ∧ Ext H1 Hc ∧ ∀ i' x, i' < i → ls[i']? = some x → (ls.take i').any (fun y => touch y x) = false) (n := ls.length)
  ⟨0, by omega, rfl, .refl _, fun i' x hi => by omega⟩ ?_
 rintro z f Hc ⟨i, hz, rfl, hx, hI⟩ next
 by_cases hi : i < ls.length
 ·have hgi := gt_get hi
  have hsc := hs1.ext hx
  have hx1 := hx.1
  refine Exists.elim (css_row hsc hgi) fun a hq => Exists.elim hq fun cap' hq => ?_
  have hva := hq.1
  have q0 := hq.2.1
  injection hva with e1 e2 e3
  injection e1 with e1
  subst e1
  generalize gt ls i = x at hgi q0
  have hsl := (sl_take hsc (i := i) (by omega)).ext ((Ext.refl Hc).app [Blk.row x.cs false])
  have hC := fun lo => contains_spec (g := Id.plan_Apart_2) (caps := [.pointer (some ⟨Hc.length, 0, none⟩)]) (p := fun y => touch y x) lo hsl (by rw [List.length_take]; omega) (fun lo y => apart2_spec lo obox_load y)
  repeat' (first | (show ER _ _ _ _ _ _ _; first | refine .seq ?_ | refine .reg ?_ | refine .yes rfl ?_ | refine .no rfl ?_ | refine .skip ?_ | refine .block ?_ | refine .endB ?_ | refine .exit rfl ?_ | refine .br rfl (fun hc => ?_) (fun hc => ?_) | refine .scope ?_ | refine .inScope ?_ | refine .label ?_ | refine .ret rfl ?_ | refine .nil rfl ?_) | (show EG _ _ _ _ _ _ _ _ _; first | refine .mov rfl rfl ?_ | refine .lload rfl rfl rfl rfl ?_ | refine .laddr rfl rfl rfl ?_ | (show EG _ _ (⟨_, .bin _ _ _, _, _⟩ :: _) _ _ _ _ _ _; first | refine .lssT rfl rfl rfl (by omega) ?_ | refine .lssF rfl rfl rfl (by omega) ?_ | refine .leq rfl rfl rfl (fun hc => ?_) (fun hc => ?_) | refine .gtr rfl rfl rfl (fun hc => ?_) (fun hc => ?_) | refine .geq rfl rfl rfl (fun hc => ?_) (fun hc => ?_) | refine .eql rfl rfl rfl (fun hc => ?_) (fun hc => ?_) | refine .neq rfl rfl rfl (fun hc => ?_) (fun hc => ?_) | refine .addN rfl rfl rfl (by omega) ?_ | refine .addN (b := 1) rfl rfl rfl (by omega) ?_ | refine .subN rfl rfl rfl (by omega) ?_ | refine .subN (b := 1) rfl rfl rfl (by omega) ?_) | refine .load rfl rfl (q0) ?_ | refine .callb rfl rfl (hC _) (fun hc => ?_) (fun hc => ?_) | refine .iaddr rfl rfl rfl (by omega) ?_ | refine .store rfl rfl rfl rfl rfl (obox_store (by omega) rfl) ?_ | refine EG.upTo rfl rfl rfl (by omega) ?_ | refine .skip rfl ?_ | refine .fin ?_ | refine .go rfl rfl rfl ?_ | refine .gono rfl rfl rfl ?_ | refine .skipn rfl ?_))
  ·refine tidyB ?_
   rw [apartB_false]
   intro hA
   have := hbr.2 hA i x hgi
   rw [hc] at this
   cases this
  ·refine next (z - 1) _ _ (by omega) ⟨i + 1, by omega, rfl, hx.app _, fun i' y hi' hy => ?_⟩
   by_cases e : i' = i
   ·subst e
    rw [hgi] at hy
    injection hy with hy
    subst hy
    exact hc
   ·exact hI i' y (by omega) hy
 ·repeat' (first | (show ER _ _ _ _ _ _ _; first | refine .seq ?_ | refine .reg ?_ | refine .yes rfl ?_ | refine .no rfl ?_ | refine .skip ?_ | refine .block ?_ | refine .endB ?_ | refine .exit rfl ?_ | refine .br rfl (fun hc => ?_) (fun hc => ?_) | refine .scope ?_ | refine .inScope ?_ | refine .label ?_ | refine .ret rfl ?_ | refine .nil rfl ?_) | (show EG _ _ _ _ _ _ _ _ _; first | refine .mov rfl rfl ?_ | refine .lload rfl rfl rfl rfl ?_ | refine .laddr rfl rfl rfl ?_ | (show EG _ _ (⟨_, .bin _ _ _, _, _⟩ :: _) _ _ _ _ _ _; first | refine .lssT rfl rfl rfl (by omega) ?_ | refine .lssF rfl rfl rfl (by omega) ?_ | refine .leq rfl rfl rfl (fun hc => ?_) (fun hc => ?_) | refine .gtr rfl rfl rfl (fun hc => ?_) (fun hc => ?_) | refine .geq rfl rfl rfl (fun hc => ?_) (fun hc => ?_) | refine .eql rfl rfl rfl (fun hc => ?_) (fun hc => ?_) | refine .neq rfl rfl rfl (fun hc => ?_) (fun hc => ?_)) | refine .skip rfl ?_ | refine .fin ?_ | refine .go rfl rfl rfl ?_ | refine .gono rfl rfl rfl ?_ | refine .skipn rfl ?_))
  refine tidyB ?_
  rw [apartB_true]
  exact hbr.1 fun i' x hx' => hI i' x (by have := (List.getElem?_eq_some_iff.1 hx').1; omega) hx'

theorem box1_load {H : Heap} {u : Value} : loadV (H ++ [Blk.row [u] false]) none ⟨H.length, 0, none⟩ = some u := by
 simp [loadV, ld1, hrow]

theorem wrongB_fine (arena : Int) (x : Obj) : wrongB arena x = false ↔ fineP arena x := by
 unfold wrongB fineP
 simp
 omega

theorem planCheck_spec (lo : Nat) {h : Heap} {v : Value} {l : List Obj} {arena : Int} (hv : Sl h 4 v (css l)) (h0 : l = [] → v = .slice none 0 0) (hl : l.length ≤ 64) :
  callR En lo Id.plan_Check [v, .int .i64 arena] h = some (.int .i64 (okN arena l), h) := by
 have hsb := hv.ext ((Ext.refl h).app [Blk.row [.int .i64 arena] false])
 have hC := fun lo => contains_spec (g := Id.plan_Check_1) (caps := [.pointer (some ⟨h.length, 0, none⟩)]) (p := wrongB arena) lo hsb (by omega) (fun lo y => check1_spec lo box1_load y)
 have hA := fun lo => planApart_spec lo hsb h0 hl
 refine call_scr rfl Fn.plan_Check rfl rfl ?_
 repeat' (first | (show ER _ _ _ _ _ _ _; first | refine .seq ?_ | refine .reg ?_ | refine .yes rfl ?_ | refine .no rfl ?_ | refine .skip ?_ | refine .block ?_ | refine .endB ?_ | refine .exit rfl ?_ | refine .br rfl (fun hc => ?_) (fun hc => ?_) | refine .scope ?_ | refine .inScope ?_ | refine .label ?_ | refine .ret rfl ?_ | refine .nil rfl ?_) | (show EG _ _ _ _ _ _ _ _ _; first | refine .mov rfl rfl ?_ | refine .lload rfl rfl rfl rfl ?_ | refine .laddr rfl rfl rfl ?_ | (show EG _ _ (⟨_, .bin _ _ _, _, _⟩ :: _) _ _ _ _ _ _; first | refine .lss rfl rfl rfl (fun hc => ?_) (fun hc => ?_) | refine .leq rfl rfl rfl (fun hc => ?_) (fun hc => ?_) | refine .gtr rfl rfl rfl (fun hc => ?_) (fun hc => ?_) | refine .geq rfl rfl rfl (fun hc => ?_) (fun hc => ?_) | refine .eql rfl rfl rfl (fun hc => ?_) (fun hc => ?_) | refine .neq rfl rfl rfl (fun hc => ?_) (fun hc => ?_)) | refine .load rfl rfl (box1_load) ?_ | (show EG _ _ (⟨_, .call _ _, _, _⟩ :: _) _ _ _ _ _ _; first | refine .callb rfl rfl (hC _) (fun hc => ?_) (fun hc => ?_) | refine .callb rfl rfl (hA _) (fun hc => ?_) (fun hc => ?_)) | refine .skip rfl ?_ | refine .fin ?_ | refine .go rfl rfl rfl ?_ | refine .gono rfl rfl rfl ?_ | refine .skipn rfl ?_))
 ·exact tidyI (okN_1 (fun hk => by have := hk.1; omega)).symm
 ·exact tidyI (okN_1 (fun hk => by have := hk.2.1; omega)).symm
 ·refine tidyI (okN_1 (fun hk => ?_)).symm
  obtain ⟨x, hx, hw⟩ := List.any_eq_true.1 hc
  obtain ⟨i, hi, rfl⟩ := List.mem_iff_getElem.1 hx
  have := (wrongB_fine arena _).2 (hk.2.2.2 i _ (List.getElem?_eq_getElem hi))
  rw [this] at hw
  cases hw
 ·rename_i ha hany
  refine tidyI (okN_0 ⟨by omega, by omega, Classical.byContradiction (fun hn => by rw [apartB_false hn] at hc; cases hc), fun i x hx => ?_⟩).symm
  refine (wrongB_fine arena x).1 ?_
  have := List.any_eq_false.1 hany x (List.mem_of_getElem? hx)
  simpa using this
 ·exact tidyI (okN_1 (fun hk => by rw [apartB_true hk.2.2.1] at hc; cases hc)).symm

theorem planSlide_spec (lo : Nat) {h : Heap} {v : Value} {l : List Obj} {arena : Int} (hv : Sl h 4 v (css l)) (h0 : l = [] → v = .slice none 0 0) (hl : l.length ≤ 64) :
  callR En lo Id.plan_Slide [v, .int .i64 arena] h = some (slideR h (okN arena l) (sortR l)) := by
 have hC := fun lo => planCheck_spec lo (arena := arena) hv h0 hl
 have hS := fun lo => planSort_spec lo hv h0 hl
 have hms := (made_sl (h := h) (css_len (sortR l))).1
 have hme := (made_sl (h := h) (css_len (sortR l))).2
 have hsl : (sortR l).length = l.length := sortR_len l
 refine call_scr rfl Fn.plan_Slide rfl rfl ?_
 rcases okN_cases arena l with h0' | h0'
 ·rw [h0'] at hC ⊢
  generalize hm : made h 4 (css (sortR l)) = mk at hS hms hme
  generalize sortR l = so at hms hsl
  refine Exists.elim hms.len fun base hq => Exists.elim hq fun cap hve => ?_
  rw [css_length] at hve
  obtain ⟨mv, mh⟩ := mk
  simp only at hve hms hme hS
  subst hve
  repeat' (first | (show ER _ _ _ _ _ _ _; first | refine .seq ?_ | refine .reg ?_ | refine .yes rfl ?_ | refine .no rfl ?_ | refine .skip ?_ | refine .block ?_ | refine .endB ?_ | refine .exit rfl ?_ | refine .br rfl (fun hc => ?_) (fun hc => ?_) | refine .scope ?_ | refine .inScope ?_ | refine .label ?_ | refine .ret rfl ?_ | refine .nil rfl ?_) | (show EG _ _ _ _ _ _ _ _ _; first | refine .mov rfl rfl ?_ | refine .lload rfl rfl rfl rfl ?_ | refine .laddr rfl rfl rfl ?_ | (show EG _ _ (⟨_, .bin _ _ _, _, _⟩ :: _) _ _ _ _ _ _; first | refine .lss rfl rfl rfl (fun hc => ?_) (fun hc => ?_) | refine .leq rfl rfl rfl (fun hc => ?_) (fun hc => ?_) | refine .gtr rfl rfl rfl (fun hc => ?_) (fun hc => ?_) | refine .geq rfl rfl rfl (fun hc => ?_) (fun hc => ?_) | refine .eql rfl rfl rfl (fun hc => ?_) (fun hc => ?_) | refine .neqT rfl rfl rfl (by omega) ?_ | refine .neqF rfl rfl rfl (by omega) ?_) | (show EG _ _ (⟨_, .call _ _, _, _⟩ :: _) _ _ _ _ _ _; first | refine .call rfl rfl (hC _) ?_ | refine .call rfl rfl (hS _) ?_) | refine .skip rfl ?_ | refine .fin ?_ | refine .go rfl rfl rfl ?_ | refine .gono rfl rfl rfl ?_ | refine .skipn rfl ?_))
  refine .loop (fun n f H => ∃ (i : Nat) (o : Value), n + i = so.length ∧ f = [(8, o), (9, .int .i64 (slideL (so.take i)).2), (20, .slice base so.length cap), (21, N so.length), (22, N i)] ∧ Ext mh H ∧ Out H mh.length 4 o (mcs (slideL (so.take i)).1)) (n := so.length)
   ⟨0, _, rfl, rfl, .refl _, Out.nil _ _ _⟩ ?_
  rintro n f H ⟨i, o, hn, rfl, hx, ho⟩ next
  by_cases hi : i < so.length
  ·have hgi : so[i]? = some so[i] := List.getElem?_eq_getElem hi
   have hstep : slideL (so.take (i + 1)) = slideS (slideL (so.take i)) so[i] := foldl_take_succ _ _ so hi
   have hlen : (slideL (so.take i)).1.length ≤ i := by have := slideL_len (so.take i); rw [List.length_take] at this; omega
   generalize slideL (so.take i) = st at ho hstep hlen
   refine Exists.elim (css_row (hms.ext hx) hgi) fun a hq => Exists.elim hq fun cap' hq => ?_
   have hva := hq.1
   have q0 := hq.2.1
   injection hva with e1 e2 e3
   subst e1
   rcases hxi : so[i] with ⟨xs, xo, xn, xf⟩
   rw [hxi] at q0 hstep
   obtain ⟨ms, en⟩ := st
   have hx1 := hx.1
   have he1 := hme.1
   have hlen' : ms.length ≤ i := hlen
   have fin1 : ∀ {o' : Value} {f : Fr} {H1 : Heap} {en' : Int} {ms' : List Mv}, Ext mh H1 → Out H1 mh.length 4 o' (mcs ms') → slideS (ms, en) ⟨xs, xo, xn, xf⟩ = (ms', en') →
     keep [8, 9, 20, 21, 22] f = [(8, o'), (9, .int .i64 en'), (20, .slice (some a) so.length cap), (21, N so.length), (22, N (i + 1))] → _ :=
    fun {o'} {f} {H1} {en'} {ms'} g1 g2 g3 g6 => next (n - 1) f H1 (by omega) ⟨i + 1, o', by omega, by rw [g6, hstep, g3], g1, by rw [hstep, g3]; exact g2⟩
   cases xf with
   | true =>
     repeat' (first | (show ER _ _ _ _ _ _ _; first | refine .seq ?_ | refine .reg ?_ | refine .yes rfl ?_ | refine .no rfl ?_ | refine .skip ?_ | refine .block ?_ | refine .endB ?_ | refine .exit rfl ?_ | refine .br rfl (fun hc => ?_) (fun hc => ?_) | refine .scope ?_ | refine .inScope ?_ | refine .label ?_ | refine .ret rfl ?_ | refine .nil rfl ?_) | (show EG _ _ _ _ _ _ _ _ _; first | refine .mov rfl rfl ?_ | refine .lload rfl rfl rfl rfl ?_ | refine .laddr rfl rfl rfl ?_ | (show EG _ _ (⟨_, .bin _ _ _, _, _⟩ :: _) _ _ _ _ _ _; first | refine .lssT rfl rfl rfl (by omega) ?_ | refine .lssF rfl rfl rfl (by omega) ?_ | refine .leq rfl rfl rfl (fun hc => ?_) (fun hc => ?_) | refine .gtr rfl rfl rfl (fun hc => ?_) (fun hc => ?_) | refine .geq rfl rfl rfl (fun hc => ?_) (fun hc => ?_) | refine .eql rfl rfl rfl (fun hc => ?_) (fun hc => ?_) | refine .neq rfl rfl rfl (fun hc => ?_) (fun hc => ?_) | refine .addN rfl rfl rfl (by omega) ?_ | refine .addN (b := 1) rfl rfl rfl (by omega) ?_ | refine .subN rfl rfl rfl (by omega) ?_ | refine .subN (b := 1) rfl rfl rfl (by omega) ?_) | refine .load rfl rfl (q0) ?_ | refine .iaddr rfl rfl rfl (hi) ?_ | refine .skip rfl ?_ | refine .fin ?_ | refine .go rfl rfl rfl ?_ | refine .gono rfl rfl rfl ?_ | refine .skipn rfl ?_))
     ·exact absurd rfl ‹_›
     ·refine fin1 hx ho ?_ rfl
      simp [slideS, slideT]
   | false =>
     repeat' (first | (show ER _ _ _ _ _ _ _; first | refine .seq ?_ | refine .reg ?_ | refine .yes rfl ?_ | refine .no rfl ?_ | refine .skip ?_ | refine .block ?_ | refine .endB ?_ | refine .exit rfl ?_ | refine .br rfl (fun hc => ?_) (fun hc => ?_) | refine .scope ?_ | refine .inScope ?_ | refine .label ?_ | refine .ret rfl ?_ | refine .nil rfl ?_) | (show EG _ _ _ _ _ _ _ _ _; first | refine .mov rfl rfl ?_ | refine .lload rfl rfl rfl rfl ?_ | refine .laddr rfl rfl rfl ?_ | (show EG _ _ (⟨_, .bin _ _ _, _, _⟩ :: _) _ _ _ _ _ _; first | refine .lssT rfl rfl rfl (by omega) ?_ | refine .lssF rfl rfl rfl (by omega) ?_ | refine .leq rfl rfl rfl (fun hc => ?_) (fun hc => ?_) | refine .gtr rfl rfl rfl (fun hc => ?_) (fun hc => ?_) | refine .geq rfl rfl rfl (fun hc => ?_) (fun hc => ?_) | refine .eql rfl rfl rfl (fun hc => ?_) (fun hc => ?_) | refine .neq rfl rfl rfl (fun hc => ?_) (fun hc => ?_) | refine .addN rfl rfl rfl (by omega) ?_ | refine .addN (b := 1) rfl rfl rfl (by omega) ?_ | refine .subN rfl rfl rfl (by omega) ?_ | refine .subN (b := 1) rfl rfl rfl (by omega) ?_) | refine .load rfl rfl (q0) ?_ | refine .iaddr rfl rfl rfl (hi) ?_ | refine .skip rfl ?_ | refine .fin ?_ | refine .go rfl rfl rfl ?_ | refine .gono rfl rfl rfl ?_ | refine .skipn rfl ?_))
     ·have hne : ¬ en = xo := hc
      refine Exists.elim (ho.push2 (l0 := h.length) (e := (Mv.mk xs xo en xn).cs) (bytes := 32) rfl he1 hx1 (by rw [mcs_length]; omega) (by omega)) fun o' hq => Exists.elim hq fun H1 hq => ?_
      have hE1 := hq.2.2 mh (Nat.le_refl _) hx
      have hN2 := hq.2.1
      rw [mcs_app] at hN2
      refine .app rfl rfl rfl hq.1 ?_
      repeat' (first | (show ER _ _ _ _ _ _ _; first | refine .seq ?_ | refine .reg ?_ | refine .yes rfl ?_ | refine .no rfl ?_ | refine .skip ?_ | refine .block ?_ | refine .endB ?_ | refine .exit rfl ?_ | refine .br rfl (fun hc => ?_) (fun hc => ?_) | refine .scope ?_ | refine .inScope ?_ | refine .label ?_ | refine .ret rfl ?_ | refine .nil rfl ?_) | (show EG _ _ _ _ _ _ _ _ _; first | refine .mov rfl rfl ?_ | refine .lload rfl rfl rfl rfl ?_ | refine .laddr rfl rfl rfl ?_ | (show EG _ _ (⟨_, .bin _ _ _, _, _⟩ :: _) _ _ _ _ _ _; first | refine .lss rfl rfl rfl (fun hc => ?_) (fun hc => ?_) | refine .leq rfl rfl rfl (fun hc => ?_) (fun hc => ?_) | refine .gtr rfl rfl rfl (fun hc => ?_) (fun hc => ?_) | refine .geq rfl rfl rfl (fun hc => ?_) (fun hc => ?_) | refine .eql rfl rfl rfl (fun hc => ?_) (fun hc => ?_) | refine .neq rfl rfl rfl (fun hc => ?_) (fun hc => ?_) | refine .addN rfl rfl rfl (by omega) ?_ | refine .addN (b := 1) rfl rfl rfl (by omega) ?_ | refine .subN rfl rfl rfl (by omega) ?_ | refine .subN (b := 1) rfl rfl rfl (by omega) ?_) | refine .skip rfl ?_ | refine .fin ?_ | refine .go rfl rfl rfl ?_ | refine .gono rfl rfl rfl ?_ | refine .skipn rfl ?_))
      refine fin1 hE1 hN2 ?_ rfl
      simp [slideS, slideT, hne]
     ·have he : en = xo := hc
      refine fin1 hx ho ?_ rfl
      simp [slideS, slideT, he]
  ·repeat' (first | (show ER _ _ _ _ _ _ _; first | refine .seq ?_ | refine .reg ?_ | refine .yes rfl ?_ | refine .no rfl ?_ | refine .skip ?_ | refine .block ?_ | refine .endB ?_ | refine .exit rfl ?_ | refine .br rfl (fun hc => ?_) (fun hc => ?_) | refine .scope ?_ | refine .inScope ?_ | refine .label ?_ | refine .ret rfl ?_ | refine .nil rfl ?_) | (show EG _ _ _ _ _ _ _ _ _; first | refine .mov rfl rfl ?_ | refine .lload rfl rfl rfl rfl ?_ | refine .laddr rfl rfl rfl ?_ | (show EG _ _ (⟨_, .bin _ _ _, _, _⟩ :: _) _ _ _ _ _ _; first | refine .lssT rfl rfl rfl (by omega) ?_ | refine .lssF rfl rfl rfl (by omega) ?_ | refine .leq rfl rfl rfl (fun hc => ?_) (fun hc => ?_) | refine .gtr rfl rfl rfl (fun hc => ?_) (fun hc => ?_) | refine .geq rfl rfl rfl (fun hc => ?_) (fun hc => ?_) | refine .eql rfl rfl rfl (fun hc => ?_) (fun hc => ?_) | refine .neq rfl rfl rfl (fun hc => ?_) (fun hc => ?_)) | refine .skip rfl ?_ | refine .fin ?_ | refine .go rfl rfl rfl ?_ | refine .gono rfl rfl rfl ?_ | refine .skipn rfl ?_))
   have ht : so.take i = so := List.take_of_length_le (by omega)
   rw [ht] at ho
   rw [ht]
   exact Out.tidy3 (Out.mono ho hme.1) (mcs_flat _) _ _
 ·rw [h0'] at hC ⊢
  repeat' (first | (show ER _ _ _ _ _ _ _; first | refine .seq ?_ | refine .reg ?_ | refine .yes rfl ?_ | refine .no rfl ?_ | refine .skip ?_ | refine .block ?_ | refine .endB ?_ | refine .exit rfl ?_ | refine .br rfl (fun hc => ?_) (fun hc => ?_) | refine .scope ?_ | refine .inScope ?_ | refine .label ?_ | refine .ret rfl ?_ | refine .nil rfl ?_) | (show EG _ _ _ _ _ _ _ _ _; first | refine .mov rfl rfl ?_ | refine .lload rfl rfl rfl rfl ?_ | refine .laddr rfl rfl rfl ?_ | (show EG _ _ (⟨_, .bin _ _ _, _, _⟩ :: _) _ _ _ _ _ _; first | refine .lss rfl rfl rfl (fun hc => ?_) (fun hc => ?_) | refine .leq rfl rfl rfl (fun hc => ?_) (fun hc => ?_) | refine .gtr rfl rfl rfl (fun hc => ?_) (fun hc => ?_) | refine .geq rfl rfl rfl (fun hc => ?_) (fun hc => ?_) | refine .eql rfl rfl rfl (fun hc => ?_) (fun hc => ?_) | refine .neqT rfl rfl rfl (by omega) ?_ | refine .neqF rfl rfl rfl (by omega) ?_) | refine .call rfl rfl (hC _) ?_ | refine .skip rfl ?_ | refine .fin ?_ | refine .go rfl rfl rfl ?_ | refine .gono rfl rfl rfl ?_ | refine .skipn rfl ?_))
  rfl

def slideG : List Obj → Int → List Mv × Int
 | [], e => ([], e)
 | x :: r, e => ((if slideT e x = x.o then (slideG r (IntKind.i64.wrap (slideT e x + x.n))).1 else ⟨x.s, x.o, slideT e x, x.n⟩ :: (slideG r (IntKind.i64.wrap (slideT e x + x.n))).1), (slideG r (IntKind.i64.wrap (slideT e x + x.n))).2)

theorem slideG_cons (x : Obj) (r : List Obj) (e : Int) : slideG (x :: r) e = ((if slideT e x = x.o then (slideG r (IntKind.i64.wrap (slideT e x + x.n))).1 else ⟨x.s, x.o, slideT e x, x.n⟩ :: (slideG r (IntKind.i64.wrap (slideT e x + x.n))).1), (slideG r (IntKind.i64.wrap (slideT e x + x.n))).2) := rfl

theorem foldl_slideG : ∀ (l : List Obj) (ms : List Mv) (e : Int), l.foldl slideS (ms, e) = (ms ++ (slideG l e).1, (slideG l e).2)
 | [], ms, e => by simp [slideG]
 | x :: r, ms, e => by
   have h1 : slideS (ms, e) x = (if slideT e x = x.o then ms else ms ++ [⟨x.s, x.o, slideT e x, x.n⟩], IntKind.i64.wrap (slideT e x + x.n)) := rfl
   rw [List.foldl_cons, h1, foldl_slideG r]
   rw [slideG_cons]
   split <;> simp

theorem slideL_G (l : List Obj) : slideL l = slideG l 0 := by
 unfold slideL
 rw [foldl_slideG]
 simp
end Go.Proofs.YtfpfknafcgkcjaaGreat

