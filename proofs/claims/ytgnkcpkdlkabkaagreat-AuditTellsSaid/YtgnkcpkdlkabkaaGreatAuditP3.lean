/- Objects in their order: picked out of the plan seat's texts by a program. -/
import Derived.Test.YtgnkcpkdlkabkaaGreatAuditP1
import Derived.Test.YtgnkcpkdlkabkaaGreatIrD

set_option linter.unusedVariables false
set_option linter.unusedSimpArgs false
namespace Go.Proofs.YtgnkcpkdlkabkaaGreat
open Go Go.Ir

structure Obj where
 s : Int
 o : Int
 n : Int
 fx : Bool

def Obj.cs (x : Obj) : List Value := [.int .i64 x.s, .int .i64 x.o, .int .i64 x.n, .bool x.fx]

def css (l : List Obj) : List (List Value) := l.map Obj.cs

theorem css_len (l : List Obj) : ∀ e ∈ css l, e.length = 4 := by
 intro e he
 obtain ⟨x, _, rfl⟩ := List.mem_map.1 he
 rfl

theorem css_flat (l : List Obj) : ∀ e ∈ css l, e.all flat1 = true := by
 intro e he
 obtain ⟨x, _, rfl⟩ := List.mem_map.1 he
 rfl

theorem wrap_small {n : Int} (h0 : 0 ≤ n) (h1 : n < 2 ^ 62) : IntKind.i64.wrap n = n := by
 rw [IntKind.wrap_i64]; omega

section

variable (prims : List (Nat × Prim))

end

theorem decide_of {p : Prop} [Decidable p] (h : p) : decide p = true := by simp [h]

theorem decide_not {p : Prop} [Decidable p] (h : ¬ p) : decide p = false := by simp [h]

section

variable {prims : List (Nat × Prim)}

end

theorem css_get {l : List Obj} {i : Nat} {x : Obj} (h : l[i]? = some x) : (css l)[i]? = some x.cs := by simp [css, h]

section

variable {prims : List (Nat × Prim)}

end

def cmpI (a b : Int) : Int := if a < b then -1 else if b < a then 1 else 0

def firstNZ : List Int → Int
 | [] => 0
 | x :: r => if x = 0 then firstNZ r else x

def bitI (b : Bool) : Int := if b then 1 else 0

def placeI (a b : Obj) : Int := firstNZ [cmpI a.o b.o, cmpI a.s b.s, cmpI a.n b.n, bitI a.fx - bitI b.fx]

section

variable {lo : Nat} {h : Heap}

theorem isNaN_spec (lo : Nat) (h : Heap) (n : Int) : callR En lo Id.cmp_isNaN_int [.int .i64 n] h = some (.bool false, h) := by
 refine call_scr rfl Fn.cmp_isNaN_int rfl rfl ?_
 repeat' (first | (show ER _ _ _ _ _ _ _; first | refine .seq ?_ | refine .reg ?_ | refine .ret rfl ?_) | (show EG _ _ _ _ _ _ _ _ _; first | refine .mov rfl rfl ?_ | refine .neq rfl rfl rfl (fun hc => ?_) (fun hc => ?_) | refine .fin ?_))
 ·exact absurd rfl ‹_›
 ·rfl

theorem bit_spec (lo : Nat) (h : Heap) (b : Bool) : callR En lo Id.plan_bit [.bool b] h = some (.int .i64 (bitI b), h) := by
 refine call_scr rfl Fn.plan_bit rfl rfl ?_
 cases b
 all_goals
  repeat' (first | (show ER _ _ _ _ _ _ _; first | refine .seq ?_ | refine .reg ?_ | refine .yes rfl ?_ | refine .no rfl ?_ | refine .skip ?_ | refine .ret rfl ?_) | (show EG _ _ _ _ _ _ _ _ _; first | refine .mov rfl rfl ?_ | refine .fin ?_))
  rfl

theorem compare_spec (lo : Nat) (h : Heap) (a b : Int) : callR En lo Id.cmp_Compare_int [.int .i64 a, .int .i64 b] h = some (.int .i64 (cmpI a b), h) := by
 refine call_scr rfl Fn.cmp_Compare_int rfl rfl ?_
 repeat' (first | (show ER _ _ _ _ _ _ _; first | refine .seq ?_ | refine .reg ?_ | refine .yes rfl ?_ | refine .no rfl ?_ | refine .skip ?_ | refine .ret rfl ?_) | (show EG _ _ _ _ _ _ _ _ _; first | refine .mov rfl rfl ?_ | (show EG _ _ (⟨_, .bin _ _ _, _, _⟩ :: _) _ _ _ _ _ _; first | refine .lss rfl rfl rfl (fun hc => ?_) (fun hc => ?_) | refine .gtr rfl rfl rfl (fun hc => ?_) (fun hc => ?_)) | refine .call rfl rfl (isNaN_spec _ _ _) ?_ | refine .fin ?_))
 all_goals (refine tidyI ?_; unfold cmpI; (repeat' split) <;> omega)

theorem or_spec (lo : Nat) {h : Heap} {v : Value} {l : List Int} (hv : Sl h 1 v (l.map fun n => [.int .i64 n])) (hl : l.length ≤ 100) :
  callR En lo Id.cmp_Or_int [v] h = some (.int .i64 (firstNZ l), h) := by
 obtain ⟨base, cap, hve⟩ := hv.len
 refine call_scr rfl Fn.cmp_Or_int rfl rfl ?_
 have hll : (l.map fun n => [Value.int .i64 n]).length = l.length := by simp
 rw [hll] at hve
 subst hve
 repeat' (first | (show ER _ _ _ _ _ _ _; first | refine .seq ?_ | refine .reg ?_ | refine .block ?_) | (show EG _ _ _ _ _ _ _ _ _; first | refine .mov rfl rfl ?_ | refine .fin ?_ | refine .go rfl rfl rfl ?_))
 refine .loop (fun n f H => H = h ∧ ∃ i : Nat, n + i = l.length ∧ f = [(3, .int .i64 0), (6, .slice base l.length cap), (7, .int .i64 (l.length : Nat)), (8, .int .i64 (i : Nat))] ∧ firstNZ l = firstNZ (l.drop i)) (n := l.length)
  ⟨rfl, 0, rfl, rfl, rfl⟩ ?_
 rintro n f H ⟨rfl, i, hn, rfl, hI⟩ next
 by_cases hi : i < l.length
 ·have hie : (l.map fun n => [Value.int .i64 n])[i]? = some [.int .i64 l[i]] := by simp [hi]
  refine Exists.elim (hv.at hie) fun a hq => Exists.elim hq fun cap' hq2 => ?_
  have hva := hq2.1
  have hld := hq2.2.1 0 _ rfl
  rw [hll] at hva
  injection hva with e1 e2 e3
  subst e1
  have hd : l.drop i = l[i] :: l.drop (i + 1) := List.drop_eq_getElem_cons hi
  generalize l[i] = x at hd hld
  repeat' (first | (show ER _ _ _ _ _ _ _; first | refine .seq ?_ | refine .reg ?_ | refine .yes rfl ?_ | refine .no rfl ?_ | refine .skip ?_ | refine .block ?_ | refine .endB ?_ | refine .exit rfl ?_ | refine .ret rfl ?_) | (show EG _ _ _ _ _ _ _ _ _; first | refine .mov rfl rfl ?_ | (show EG _ _ (⟨_, .bin _ _ _, _, _⟩ :: _) _ _ _ _ _ _; first | refine .lss rfl rfl rfl (fun hc => ?_) (fun hc => ?_) | refine .neq rfl rfl rfl (fun hc => ?_) (fun hc => ?_)) | refine .load rfl rfl (hld) ?_ | refine .iaddr rfl rfl rfl (hi) ?_ | refine .fin ?_ | refine .go rfl rfl rfl ?_))
  ·refine tidyI ?_
   rw [hI, hd, firstNZ, if_neg ‹_›]
  ·refine next (n - 1) _ _ (by omega) ⟨rfl, i + 1, by omega, ?_, ?_⟩
   ·show [(3, _), (6, _), (7, _), (8, Value.int .i64 (IntKind.i64.wrap ((i : Int) + 1)))] = _
    rw [wrap_small (by omega) (by omega)]; rfl
   ·rw [hI, hd, firstNZ, if_pos ‹_›]
  ·omega
 ·repeat' (first | (show ER _ _ _ _ _ _ _; first | refine .seq ?_ | refine .reg ?_ | refine .yes rfl ?_ | refine .no rfl ?_ | refine .skip ?_ | refine .block ?_ | refine .exit rfl ?_ | refine .ret rfl ?_) | (show EG _ _ _ _ _ _ _ _ _; first | refine .mov rfl rfl ?_ | refine .lss rfl rfl rfl (fun hc => ?_) (fun hc => ?_) | refine .fin ?_))
  ·omega
  ·refine tidyI ?_
   rw [hI, List.drop_of_length_le (by omega)]
   rfl

theorem ints_sl (h : Heap) (l : List Int) : Sl (h ++ [.row (l.map (.int .i64)) false]) 1 (.slice (some ⟨h.length, 0, none⟩) l.length l.length) (l.map fun n => [.int .i64 n]) := by
 refine ⟨fun e he => ?_, .inr ⟨⟨h.length, 0, none⟩, l.length, by simp, ?_⟩⟩
 ·obtain ⟨x, _, rfl⟩ := List.mem_map.1 he
  rfl
 ·have : (l.map fun n => [Value.int .i64 n]).flatten = l.map (.int .i64) := by
   induction l with
   | nil => rfl
   | cons a l ih => simp [ih]
  rw [this]
  exact ldN_whole (a := ⟨h.length, 0, none⟩) List.getElem?_concat_length rfl (by simp)

theorem byPlace_spec (lo : Nat) (h : Heap) (a b : Obj) : callR En lo Id.plan_byPlace [.agg a.cs.toArray, .agg b.cs.toArray] h = some (.int .i64 (placeI a b), h) := by
 refine call_scr rfl Fn.plan_byPlace rfl rfl ?_
 have hw : IntKind.i64.wrap (bitI a.fx - bitI b.fx) = bitI a.fx - bitI b.fx := by cases a.fx <;> cases b.fx <;> rfl
 repeat' (first | (show ER _ _ _ _ _ _ _; first | refine .seq ?_ | refine .reg ?_ | refine .ret rfl ?_) | (show EG _ _ _ _ _ _ _ _ _; first | refine .mov rfl rfl ?_ | refine .lload rfl rfl rfl rfl ?_ | refine .laddr rfl rfl rfl ?_ | (show EG _ _ (⟨_, .call _ _, _, _⟩ :: _) _ _ _ _ _ _; first | refine .call rfl rfl (compare_spec _ _ _ _) ?_ | refine .call rfl rfl (bit_spec _ _ _) ?_ | refine .call rfl rfl (or_spec _ (ints_sl _ [cmpI a.o b.o, cmpI a.s b.s, cmpI a.n b.n, IntKind.i64.wrap (bitI a.fx - bitI b.fx)]) (Nat.le_of_ble_eq_true rfl)) ?_) | refine .fin ?_ | refine .go rfl rfl rfl ?_))
 refine tidyI ?_
 rw [hw, placeI]

end

def aheadB (a b : Obj) : Bool :=
 if a.o = b.o then (if a.s = b.s then (if a.n = b.n then !a.fx && b.fx else decide (a.n < b.n)) else decide (a.s < b.s)) else decide (a.o < b.o)

def insB (x : Obj) : List Obj → List Obj
 | [] => [x]
 | y :: r => if aheadB x y then x :: y :: r else y :: insB x r

def sortR (l : List Obj) : List Obj := l.foldl (fun acc x => insB x acc) []

theorem insB_len (x : Obj) : ∀ l, (insB x l).length = l.length + 1
 | [] => rfl
 | y :: r => by
   unfold insB
   split
   ·simp
   ·simp [insB_len x r]

theorem sortR_len (l : List Obj) : (sortR l).length = l.length := by
 have : ∀ (l acc : List Obj), (l.foldl (fun acc x => insB x acc) acc).length = acc.length + l.length := by
  intro l
  induction l with
  | nil => simp
  | cons x l ih => intro acc; rw [List.foldl_cons, ih, insB_len, List.length_cons]; omega
 have h := this l []
 simp only [List.length_nil, Nat.zero_add] at h
 exact h

theorem Out.mono {H : Heap} {lo lo' n : Nat} {v : Value} {es : List (List Value)} (o : Out H lo n v es) (h : lo' ≤ lo) : Out H lo' n v es := by
 refine ⟨o.1, ?_⟩
 rcases o.2 with h1 | ⟨h0, b, h1, h2, h3⟩
 ·exact .inl h1
 ·exact .inr ⟨h0, b, h1, by omega, h3⟩

theorem css_app (l : List Obj) (x : Obj) : css l ++ [x.cs] = css (l ++ [x]) := by simp [css]

theorem css_length (l : List Obj) : (css l).length = l.length := by simp [css]

theorem css_row {h : Heap} {v : Value} {l : List Obj} (hv : Sl h 4 v (css l)) {i : Nat} {x : Obj} (hi : l[i]? = some x) :
  ∃ a cap, v = .slice (some a) l.length cap ∧ loadV h (some 4) ⟨a.block, a.off + i * 4, none⟩ = some (.agg x.cs.toArray) ∧
   loadV h none ⟨a.block, a.off + i * 4 + 0, none⟩ = some (.int .i64 x.s) ∧ loadV h none ⟨a.block, a.off + i * 4 + 1, none⟩ = some (.int .i64 x.o) ∧
   loadV h none ⟨a.block, a.off + i * 4 + 2, none⟩ = some (.int .i64 x.n) ∧ loadV h none ⟨a.block, a.off + i * 4 + 3, none⟩ = some (.bool x.fx) := by
 obtain ⟨a, cap, h1, h2, h3⟩ := hv.at (css_get hi)
 rw [css_length] at h1
 exact ⟨a, cap, h1, h3, h2 0 _ rfl, h2 1 _ rfl, h2 2 _ rfl, h2 3 _ rfl⟩

end Go.Proofs.YtgnkcpkdlkabkaaGreat

/- Objects in their order: picked out of the plan seat's texts by a program. -/
set_option linter.unusedVariables false
set_option linter.unusedSimpArgs false
namespace Go.Proofs.YtgnkcpkdlkabkaaGreat
open Go Go.Ir

def dflt : Obj := ⟨0, 0, 0, false⟩

def gt (l : List Obj) (i : Nat) : Obj := (l[i]?).getD dflt

theorem gt_get {l : List Obj} {i : Nat} (h : i < l.length) : l[i]? = some (gt l i) := by simp [gt, h]

theorem gt_set {l : List Obj} {i j : Nat} {x : Obj} : gt (l.set i x) j = if i = j ∧ i < l.length then x else gt l j := by
 unfold gt
 rw [List.getElem?_set]
 by_cases h : i = j
 ·subst h
  by_cases h2 : i < l.length
  ·simp [h2]
  ·simp [h2]
 ·simp [h]

def sw (l : List Obj) (i j : Nat) : List Obj := (l.set i (gt l j)).set j (gt l i)

theorem sw_len (l : List Obj) (i j : Nat) : (sw l i j).length = l.length := by simp [sw]

theorem gt_sw {l : List Obj} {i j : Nat} (hi : i < l.length) (hj : j < l.length) (k : Nat) : gt (sw l i j) k = if k = j then gt l i else if k = i then gt l j else gt l k := by
 unfold sw
 rw [gt_set, gt_set, List.length_set]
 by_cases h1 : k = j
 ·subst h1; simp [hj]
 ·rw [if_neg (by omega), if_neg h1]
  by_cases h2 : k = i
  ·subst h2; simp [hi]
  ·rw [if_neg (by omega), if_neg h2]

theorem sw_perm {l : List Obj} {i j : Nat} (hi : i < l.length) (hj : j < l.length) : (sw l i j).Perm l := by
 have h1 : gt l i = l[i] := by simp [gt, hi]
 have h2 : gt l j = l[j] := by simp [gt, hj]
 unfold sw
 rw [h1, h2]
 exact List.set_set_perm hi hj

structure Same (a b : Nat) (l l' : List Obj) : Prop where
 len : l'.length = l.length
 perm : l'.Perm l
 out : ∀ i, i < a ∨ b ≤ i → gt l' i = gt l i
 inn : ∀ i, a ≤ i → i < b → ∃ j, a ≤ j ∧ j < b ∧ gt l' i = gt l j

theorem Same.refl (a b : Nat) (l : List Obj) : Same a b l l := ⟨rfl, .refl _, fun _ _ => rfl, fun i h1 h2 => ⟨i, h1, h2, rfl⟩⟩

theorem Same.trans {a b : Nat} {l l' l'' : List Obj} (h : Same a b l l') (k : Same a b l' l'') : Same a b l l'' :=
 ⟨k.len.trans h.len, k.perm.trans h.perm, fun i hi => (k.out i hi).trans (h.out i hi), fun i h1 h2 => by
   obtain ⟨j, g1, g2, g3⟩ := k.inn i h1 h2
   obtain ⟨m, f1, f2, f3⟩ := h.inn j g1 g2
   exact ⟨m, f1, f2, g3.trans f3⟩⟩

theorem Same.mono {a b a' b' : Nat} {l l' : List Obj} (h : Same a b l l') (ha : a' ≤ a) (hb : b ≤ b') : Same a' b' l l' :=
 ⟨h.len, h.perm, fun i hi => h.out i (by omega), fun i h1 h2 => by
   by_cases hc : a ≤ i ∧ i < b
   ·obtain ⟨j, g1, g2, g3⟩ := h.inn i hc.1 hc.2
    exact ⟨j, by omega, by omega, g3⟩
   ·exact ⟨i, h1, h2, h.out i (by omega)⟩⟩

theorem Same.sw {a b i j : Nat} {l : List Obj} (hb : b ≤ l.length) (h1 : a ≤ i) (h2 : i < b) (h3 : a ≤ j) (h4 : j < b) : Same a b l (sw l i j) := by
 have hg := gt_sw (l := l) (i := i) (j := j) (by omega) (by omega)
 refine ⟨sw_len .., sw_perm (by omega) (by omega), fun k hk => ?_, fun k g1 g2 => ?_⟩
 ·rw [hg, if_neg (by omega), if_neg (by omega)]
 ·rw [hg]
  by_cases e1 : k = j
  ·exact ⟨i, h1, h2, by rw [if_pos e1]⟩
  ·by_cases e2 : k = i
   ·exact ⟨j, h3, h4, by rw [if_neg e1, if_pos e2]⟩
   ·exact ⟨k, g1, g2, by rw [if_neg e1, if_neg e2]⟩

def ltP (x y : Obj) : Prop := x.o < y.o ∨ (x.o = y.o ∧ (x.s < y.s ∨ (x.s = y.s ∧ (x.n < y.n ∨ (x.n = y.n ∧ bitI x.fx < bitI y.fx)))))

theorem place_lt (x y : Obj) : placeI x y < 0 ↔ ltP x y := by
 unfold placeI ltP
 have h1 : 0 ≤ bitI x.fx ∧ bitI x.fx ≤ 1 := by cases x.fx <;> decide
 have h2 : 0 ≤ bitI y.fx ∧ bitI y.fx ≤ 1 := by cases y.fx <;> decide
 simp only [firstNZ, cmpI]
 (repeat' split) <;> omega

def Le (x y : Obj) : Prop := ¬ ltP y x

theorem Le.trans {x y z : Obj} (h : Le x y) (k : Le y z) : Le x z := by
 unfold Le ltP at *
 omega

theorem Le.of_lt {x y : Obj} (h : ltP x y) : Le x y := by
 unfold Le ltP at *
 omega

theorem Le.antisymm {x y : Obj} (h : Le x y) (k : Le y x) : x = y := by
 obtain ⟨a, b, c, d⟩ := x
 obtain ⟨a', b', c', d'⟩ := y
 have hb : bitI d = bitI d' → d = d' := by cases d <;> cases d' <;> decide
 unfold Le ltP at *
 simp only at *
 have e1 : b = b' := by omega
 have e2 : a = a' := by omega
 have e3 : c = c' := by omega
 have e4 : bitI d = bitI d' := by omega
 rw [e1, e2, e3, hb e4]

def Srt (l : List Obj) (a b : Nat) : Prop := ∀ i j, a ≤ i → i < j → j < b → Le (gt l i) (gt l j)

theorem aheadB_lt (x y : Obj) : aheadB x y = true ↔ ltP x y := by
 unfold aheadB ltP
 have hb : ∀ d d', (!d && d') = true ↔ bitI d < bitI d' := by intro d d'; cases d <;> cases d' <;> decide
 split
 ·split
  ·split
   ·rw [hb]; omega
   ·simp; omega
  ·simp; omega
 ·simp; omega


theorem insB_perm (x : Obj) : ∀ l, (insB x l).Perm (x :: l)
 | [] => .refl _
 | y :: r => by
   unfold insB
   split
   ·exact .refl _
   ·exact ((insB_perm x r).cons y).trans (.swap ..)

theorem sortR_perm (l : List Obj) : (sortR l).Perm l := by
 have : ∀ (l acc : List Obj), (l.foldl (fun acc x => insB x acc) acc).Perm (acc ++ l) := by
  intro l
  induction l with
  | nil => intro acc; simp
  | cons x l ih =>
    intro acc
    rw [List.foldl_cons]
    refine (ih _).trans ?_
    refine ((insB_perm x acc).append_right l).trans ?_
    exact (List.perm_middle (l₁ := acc) (l₂ := l) (a := x)).symm
 exact this l []

theorem insB_sorted (x : Obj) : ∀ {l}, l.Pairwise Le → (insB x l).Pairwise Le
 | [], _ => by simp [insB]
 | y :: r, h => by
   have h1 := List.pairwise_cons.1 h
   unfold insB
   split
   ·rename_i ha
    have hxy : Le x y := .of_lt ((aheadB_lt x y).1 ha)
    refine List.pairwise_cons.2 ⟨fun z hz => ?_, h⟩
    rcases List.mem_cons.1 hz with rfl | hz
    ·exact hxy
    ·exact hxy.trans (h1.1 z hz)
   ·rename_i ha
    have hyx : Le y x := fun hc => ha ((aheadB_lt x y).2 hc)
    refine List.pairwise_cons.2 ⟨fun z hz => ?_, insB_sorted x h1.2⟩
    rcases List.mem_cons.1 ((insB_perm x r).mem_iff.1 hz) with rfl | hz
    ·exact hyx
    ·exact h1.1 z hz

theorem sortR_sorted (l : List Obj) : (sortR l).Pairwise Le := by
 have : ∀ (l acc : List Obj), acc.Pairwise Le → (l.foldl (fun acc x => insB x acc) acc).Pairwise Le := by
  intro l
  induction l with
  | nil => intro acc h; exact h
  | cons x l ih => intro acc h; rw [List.foldl_cons]; exact ih _ (insB_sorted x h)
 exact this l [] .nil

theorem sorted_unique : ∀ {l l' : List Obj}, l.Perm l' → l.Pairwise Le → l'.Pairwise Le → l = l' := by
 intro l l' hp h h'
 exact hp.eq_of_pairwise (fun a b _ _ g1 g2 => Le.antisymm g1 g2) h h'

theorem Srt.pairwise {l : List Obj} (h : Srt l 0 l.length) : l.Pairwise Le := by
 rw [List.pairwise_iff_getElem]
 intro i j hi hj hij
 have := h i j (Nat.zero_le _) hij hj
 simpa [gt, hi, hj] using this

theorem sorted_is {l l' : List Obj} (hp : l'.Perm l) (h : Srt l' 0 l'.length) : l' = sortR l :=
 sorted_unique (hp.trans (sortR_perm l).symm) h.pairwise (sortR_sorted l)

theorem splice_css : ∀ {l : List Obj} {j : Nat} {x : Obj}, j < l.length → splice (css l).flatten (j * 4) x.cs = (css (l.set j x)).flatten
 | [], j, x, h => by simp at h
 | y :: l, 0, x, h => by
   simp only [css, List.map_cons, List.flatten_cons, Nat.zero_mul, List.set_cons_zero, splice, List.take_zero, List.nil_append, Nat.zero_add]
   rw [List.drop_append_of_le_length (by simp [Obj.cs])]
   simp [Obj.cs]
 | y :: l, j + 1, x, h => by
   have ih := splice_css (l := l) (j := j) (x := x) (by simpa using h)
   simp only [css, List.map_cons, List.flatten_cons, List.set_cons_succ] at ih ⊢
   rw [← ih]
   unfold splice
   have e : (j + 1) * 4 = y.cs.length + j * 4 := by simp [Obj.cs]; omega
   rw [e, List.take_length_add_append, Nat.add_assoc, List.drop_length_add_append]
   simp

def hw (H : Heap) (b : Nat) (l : List Obj) : Heap := H.set b (.row (css l).flatten false)

def dat (b : Nat) (n : Nat) (cap : Nat) : Value := .slice (some (loose b 0)) n cap

theorem hw_len (H : Heap) (b : Nat) (l : List Obj) : (hw H b l).length = H.length := by simp [hw]

theorem hw_sl {H : Heap} {b : Nat} {l : List Obj} {cap : Nat} (hb : b < H.length) : Sl (hw H b l) 4 (dat b l.length cap) (css l) := by
 refine ⟨css_len l, .inr ⟨_, cap, by rw [css_length]; rfl, ?_⟩⟩
 refine ldN_whole (a := loose b 0) (cs := (css l).flatten) (ro := false) ?_ rfl (flat_len (css_len l)).symm
 simp [hw, loose, hb]

theorem hw_load {H : Heap} {b : Nat} {l : List Obj} {j : Nat} (hb : b < H.length) (hj : j < l.length) : loadV (hw H b l) (some 4) ⟨b, 0 + j * 4, none⟩ = some (.agg (gt l j).cs.toArray) := by
 obtain ⟨a, cap, h1, h2, _⟩ := css_row (hw_sl (cap := 4) hb) (gt_get hj)
 injection h1 with h1
 injection h1 with h1
 subst h1
 exact h2

theorem hw_store {H : Heap} {lo b : Nat} {l : List Obj} {j : Nat} {x : Obj} (hlo : lo ≤ b) (hb : b < H.length) (hj : j < l.length) : stN lo (hw H b l) ⟨b, 0 + j * 4, none⟩ (vcells (.agg x.cs.toArray)) = some (hw H b (l.set j x)) := by
 have e1 : (hw H b l)[b]? = some (.row (css l).flatten false) := by simp [hw, hb]
 have hfl : (css l).flatten.length = l.length * 4 := by rw [flat_len (css_len l), css_length]
 unfold stN
 simp only [e1]
 rw [if_pos hlo, if_pos trivial, if_pos (by rw [hfl]; show 0 + j * 4 + 4 ≤ _; omega)]
 show some ((hw H b l).set b (.row (splice (css l).flatten (0 + j * 4) x.cs) false)) = _
 rw [Nat.zero_add, splice_css hj]
 simp [hw]

abbrev FB : Value := .func (.func Id.plan_byPlace) #[] #[]

section

variable {H : Heap} {lo b cap : Nat}

structure Ins (l : List Obj) (a i j : Nat) : Prop where
 rest : ∀ p q, a ≤ p → p < q → q ≤ i → p ≠ j → q ≠ j → Le (gt l p) (gt l q)
 one : ∀ q, j < q → q ≤ i → Le (gt l j) (gt l q)

theorem Ins.start {l : List Obj} {a i : Nat} (h : Srt l a i) : Ins l a i i := ⟨fun p q h1 h2 h3 h4 h5 => h p q h1 h2 (by omega), fun q h1 h2 => by omega⟩

theorem Ins.stop {l : List Obj} {a i j : Nat} (h : Ins l a i j) (hj : j ≤ i) (he : j ≤ a ∨ ¬ placeI (gt l j) (gt l (j - 1)) < 0) : Srt l a (i + 1) := by
 intro p q h1 h2 h3
 by_cases e1 : p = j
 ·subst e1; exact h.one q h2 (by omega)
 by_cases e2 : q = j
 ·subst e2
  rcases he with he | he
  ·omega
  ·have hle : Le (gt l (q - 1)) (gt l q) := fun hc => he ((place_lt _ _).2 hc)
   by_cases e3 : p = q - 1
   ·rw [e3]; exact hle
   ·exact (h.rest p (q - 1) h1 (by omega) (by omega) e1 (by omega)).trans hle
 ·exact h.rest p q h1 h2 (by omega) e1 e2

theorem Ins.step {l : List Obj} {a i j : Nat} (h : Ins l a i j) (hi : i < l.length) (hj : j ≤ i) (ha : a < j) (hlt : placeI (gt l j) (gt l (j - 1)) < 0) : Ins (sw l j (j - 1)) a i (j - 1) := by
 have hg := gt_sw (l := l) (i := j) (j := j - 1) (by omega) (by omega)
 have hL := (place_lt _ _).1 hlt
 refine ⟨fun p q h1 h2 h3 h4 h5 => ?_, fun q h1 h2 => ?_⟩
 ·rw [hg, hg, if_neg h4, if_neg h5]
  by_cases e1 : p = j
  ·rw [if_pos e1, if_neg (by omega)]
   exact h.rest (j - 1) q (by omega) (by omega) h3 (by omega) (by omega)
  ·rw [if_neg e1]
   by_cases e2 : q = j
   ·rw [if_pos e2]
    exact h.rest p (j - 1) h1 (by omega) (by omega) e1 (by omega)
   ·rw [if_neg e2]
    exact h.rest p q h1 h2 h3 e1 e2
 ·rw [hg, hg, if_pos rfl, if_neg (by omega)]
  by_cases e2 : q = j
  ·rw [if_pos e2]
   exact .of_lt hL
  ·rw [if_neg e2]
   exact h.one q (by omega) h2

theorem ins_spec (hlo : lo ≤ b) (hb : b < H.length) {l : List Obj} (hl : l.length ≤ 10000) {a e : Nat} (hae : a ≤ e) (he : e ≤ l.length) :
  ∃ v H', callR En lo Id.slices_insertionSortCmpFunc_plan_Object [dat b l.length cap, .int .i64 (a : Nat), .int .i64 (e : Nat), FB] (hw H b l) = some (v, H') ∧ ∃ l', H' = hw H b l' ∧ Same a e l l' ∧ Srt l' a e := by
 refine call_ex rfl Fn.slices_insertionSortCmpFunc_plan_Object rfl rfl ?_
 repeat' (first | (show ER _ _ _ _ _ _ _; first | refine .seq ?_ | refine .reg ?_ | refine .block ?_) | (show EG _ _ _ _ _ _ _ _ _; first | refine .mov rfl rfl ?_ | refine .addN (b := 1) rfl rfl rfl (by omega) ?_ | refine .fin ?_))
 refine .loop (fun n f H' => ∃ (i : Nat) (l1 : List Obj), n + i = e + 1 ∧ a < i ∧ f = [(0, dat b l.length cap), (1, .int .i64 (a : Nat)), (2, .int .i64 (e : Nat)), (3, FB), (8, .int .i64 (i : Nat))] ∧ H' = hw H b l1 ∧ Same a e l l1 ∧ Srt l1 a (min i e)) (n := e - a)
  ⟨a + 1, l, by omega, by omega, rfl, rfl, .refl _ _ _, fun i j h1 h2 h3 => by omega⟩ ?_
 rintro n f H' ⟨i, l1, hn, hai, rfl, rfl, hS, hO⟩ next
 have hll := hS.len
 repeat' (first | (show ER _ _ _ _ _ _ _; first | refine .seq ?_ | refine .reg ?_ | refine .yes rfl ?_ | refine .no rfl ?_ | refine .skip ?_ | refine .block ?_ | refine .exit rfl ?_ | refine .nil rfl ?_) | (show EG _ _ _ _ _ _ _ _ _; first | refine .mov rfl rfl ?_ | refine .lss rfl rfl rfl (fun hc => ?_) (fun hc => ?_) | refine .fin ?_))
 ·refine .loop (fun m f H' => ∃ (j : Nat) (l2 : List Obj), m = j ∧ a ≤ j ∧ j ≤ i ∧ f = [(0, dat b l.length cap), (1, .int .i64 (a : Nat)), (2, .int .i64 (e : Nat)), (3, FB), (8, .int .i64 (i : Nat)), (9, .int .i64 (j : Nat))] ∧ H' = hw H b l2 ∧ Same a e l l2 ∧ Ins l2 a i j) (n := i)
   ⟨i, l1, rfl, by omega, by omega, rfl, rfl, hS, Ins.start (fun p q h1 h2 h3 => hO p q h1 h2 (by omega))⟩ ?_
  rintro m f H' ⟨j, l2, hmj, haj, hji, rfl, rfl, hS2, hI⟩ nextj
  have hl2 := hS2.len
  repeat' (first | (show ER _ _ _ _ _ _ _; first | refine .seq ?_ | refine .reg ?_ | refine .yes rfl ?_ | refine .no rfl ?_ | refine .skip ?_ | refine .block ?_ | refine .endB ?_ | refine .exit rfl ?_) | (show EG _ _ _ _ _ _ _ _ _; first | refine .mov rfl rfl ?_ | (show EG _ _ (⟨_, .bin _ _ _, _, _⟩ :: _) _ _ _ _ _ _; first | refine .lss rfl rfl rfl (fun hc => ?_) (fun hc => ?_) | refine .gtr rfl rfl rfl (fun hc => ?_) (fun hc => ?_) | refine .addN (b := 1) rfl rfl rfl (by omega) ?_ | refine .subN (b := 1) rfl rfl rfl (by omega) ?_) | refine .load rfl rfl (hw_load hb (by omega)) ?_ | refine .iaddr rfl rfl rfl (by omega) ?_ | refine .callv rfl rfl rfl rfl (byPlace_spec _ _ _ _) ?_ | refine .store rfl rfl rfl rfl rfl (hw_store hlo hb (by omega)) ?_ | refine .store rfl rfl rfl rfl rfl (hw_store hlo hb (by rw [List.length_set]; omega)) ?_ | refine .skip rfl ?_ | refine .fin ?_ | refine .go rfl rfl rfl ?_))
  ·exact nextj (j - 1) _ _ (by omega) ⟨j - 1, sw l2 j (j - 1), rfl, by omega, by omega, rfl, rfl, hS2.trans (Same.sw (by omega) (by omega) (by omega) (by omega) (by omega)), hI.step (by omega) hji (by omega) ‹_›⟩
  ·exact next (n - 1) _ _ (by omega) ⟨i + 1, l2, by omega, by omega, rfl, rfl, hS2, by rw [Nat.min_eq_left (by omega)]; exact hI.stop hji (.inr ‹_›)⟩
  ·exact next (n - 1) _ _ (by omega) ⟨i + 1, l2, by omega, by omega, rfl, rfl, hS2, by rw [Nat.min_eq_left (by omega)]; exact hI.stop hji (.inl (by omega))⟩
 ·exact ⟨l1, rfl, hS, by rw [Nat.min_eq_right (by omega)] at hO; exact hO⟩

end

def swR (l : List Obj) (a c : Nat) : Nat → List Obj
 | 0 => l
 | n + 1 => sw (swR l a c n) (a + n) (c + n)

theorem swR_len (l : List Obj) (a c : Nat) : ∀ n, (swR l a c n).length = l.length
 | 0 => rfl
 | n + 1 => by rw [swR, sw_len, swR_len l a c n]

theorem gt_swR {l : List Obj} {a c : Nat} : ∀ {n : Nat}, a + n ≤ c → c + n ≤ l.length → ∀ k, gt (swR l a c n) k = if a ≤ k ∧ k < a + n then gt l (k - a + c) else if c ≤ k ∧ k < c + n then gt l (k - c + a) else gt l k
 | 0, h1, h2, k => by rw [if_neg (by omega), if_neg (by omega)]; rfl
 | n + 1, h1, h2, k => by
   have ih := gt_swR (l := l) (a := a) (c := c) (n := n) (by omega) (by omega)
   rw [swR, gt_sw (by rw [swR_len]; omega) (by rw [swR_len]; omega), ih, ih, ih]
   (repeat' split) <;> first | (exfalso; omega) | (exact congrArg (gt l) (by omega))

theorem Same.swR {l : List Obj} {a c p q : Nat} (hp : p ≤ a) (hq : q ≤ l.length) (hac : a ≤ c) : ∀ {n : Nat}, c + n ≤ q → Same p q l (swR l a c n)
 | 0, _ => .refl _ _ _
 | n + 1, h => (Same.swR hp hq hac (n := n) (by omega)).trans (Same.sw (by rw [swR_len]; omega) (by omega) (by omega) (by omega) (by omega))

def rotF (g : Nat → Obj) (a m e k : Nat) : Obj := if a ≤ k ∧ k < a + (e - m) then g (k + (m - a)) else if a + (e - m) ≤ k ∧ k < e then g (k - (e - m)) else g k

theorem rot_end {l : List Obj} {m i : Nat} (hi : i ≤ m) (h : m + i ≤ l.length) (k : Nat) : gt (swR l (m - i) m i) k = rotF (gt l) (m - i) m (m + i) k := by
 rw [gt_swR (by omega) (by omega)]
 unfold rotF
 (repeat' split) <;> first | (exfalso; omega) | (exact congrArg (gt l) (by omega))

theorem rot_left {l : List Obj} {m i j : Nat} (hi : i ≤ m) (hj : j < i) (h : m + j ≤ l.length) (k : Nat) : rotF (gt (swR l (m - i) m j)) (m - (i - j)) m (m + j) k = rotF (gt l) (m - i) m (m + j) k := by
 have hg := gt_swR (l := l) (a := m - i) (c := m) (n := j) (by omega) (by omega)
 unfold rotF
 rw [hg, hg, hg]
 (repeat' split) <;> first | (exfalso; omega) | (exact congrArg (gt l) (by omega))

theorem rot_right {l : List Obj} {m i j : Nat} (hi : i ≤ m) (hj : i < j) (h : m + j ≤ l.length) (k : Nat) : rotF (gt (swR l (m - i) (m + j - i) i)) (m - i) m (m + (j - i)) k = rotF (gt l) (m - i) m (m + j) k := by
 have hg := gt_swR (l := l) (a := m - i) (c := m + j - i) (n := i) (by omega) (by omega)
 unfold rotF
 rw [hg, hg, hg]
 (repeat' split) <;> first | (exfalso; omega) | (exact congrArg (gt l) (by omega))

section

variable {H : Heap} {lo b cap : Nat}

theorem swapRange_spec (lo : Nat) (hlo : lo ≤ b) (hb : b < H.length) {l : List Obj} (hl : l.length ≤ 10000) {a c n : Nat} (h1 : a + n ≤ c) (h2 : c + n ≤ l.length) :
  callR En lo Id.slices_swapRangeCmpFunc_plan_Object [dat b l.length cap, .int .i64 (a : Nat), .int .i64 (c : Nat), .int .i64 (n : Nat), FB] (hw H b l) = some (.tuple #[], hw H b (swR l a c n)) := by
 refine call_of rfl Fn.slices_swapRangeCmpFunc_plan_Object rfl rfl ?_
 repeat' (first | (show ER _ _ _ _ _ _ _; first | refine .seq ?_ | refine .reg ?_ | refine .block ?_) | (show EG _ _ _ _ _ _ _ _ _; first | refine .mov rfl rfl ?_ | refine .fin ?_))
 refine .loop (fun z f H' => ∃ i : Nat, z + i = n ∧ f = [(0, dat b l.length cap), (1, .int .i64 (a : Nat)), (2, .int .i64 (c : Nat)), (3, .int .i64 (n : Nat)), (10, .int .i64 (i : Nat))] ∧ H' = hw H b (swR l a c i)) (n := n)
  ⟨0, rfl, rfl, rfl⟩ ?_
 rintro z f H' ⟨i, hz, rfl, rfl⟩ next
 have hll := swR_len l a c i
 repeat' (first | (show ER _ _ _ _ _ _ _; first | refine .seq ?_ | refine .reg ?_ | refine .yes rfl ?_ | refine .no rfl ?_ | refine .skip ?_ | refine .block ?_ | refine .endB ?_ | refine .exit rfl ?_ | refine .nil rfl ?_) | (show EG _ _ _ _ _ _ _ _ _; first | refine .mov rfl rfl ?_ | (show EG _ _ (⟨_, .bin _ _ _, _, _⟩ :: _) _ _ _ _ _ _; first | refine .lss rfl rfl rfl (fun hc => ?_) (fun hc => ?_) | refine .addN rfl rfl rfl (by omega) ?_ | refine .addN (b := 1) rfl rfl rfl (by omega) ?_) | refine .load rfl rfl (hw_load hb (by omega)) ?_ | refine .iaddr rfl rfl rfl (by omega) ?_ | refine .store rfl rfl rfl rfl rfl (hw_store hlo hb (by omega)) ?_ | refine .store rfl rfl rfl rfl rfl (hw_store hlo hb (by rw [List.length_set]; omega)) ?_ | refine .fin ?_))
 ·exact next (z - 1) _ _ (by omega) ⟨i + 1, by omega, rfl, rfl⟩
 ·have : i = n := by omega
  subst this
  rfl

theorem rotate_spec (lo : Nat) (hlo : lo ≤ b) (hb : b < H.length) {l : List Obj} (hl : l.length ≤ 10000) {a m e : Nat} (h1 : a < m) (h2 : m < e) (he : e ≤ l.length) :
  ∃ v H', callR En lo Id.slices_rotateCmpFunc_plan_Object [dat b l.length cap, .int .i64 (a : Nat), .int .i64 (m : Nat), .int .i64 (e : Nat), FB] (hw H b l) = some (v, H') ∧
   ∃ l', H' = hw H b l' ∧ Same a e l l' ∧ ∀ k, gt l' k = rotF (gt l) a m e k := by
 refine call_ex rfl Fn.slices_rotateCmpFunc_plan_Object rfl rfl ?_
 repeat' (first | (show ER _ _ _ _ _ _ _; first | refine .seq ?_ | refine .reg ?_ | refine .block ?_) | (show EG _ _ _ _ _ _ _ _ _; first | refine .mov rfl rfl ?_ | refine .subN rfl rfl rfl (by omega) ?_ | refine .fin ?_))
 refine .loop (fun z f H' => ∃ (i j : Nat) (l1 : List Obj), z = i + j ∧ 1 ≤ i ∧ 1 ≤ j ∧ a ≤ m - i ∧ i ≤ m ∧ m + j ≤ e ∧ f = [(0, dat b l.length cap), (2, .int .i64 (m : Nat)), (4, FB), (10, .int .i64 (i : Nat)), (11, .int .i64 (j : Nat))] ∧ H' = hw H b l1 ∧ Same a e l l1 ∧
   ∀ k, rotF (gt l1) (m - i) m (m + j) k = rotF (gt l) a m e k) (n := (m - a) + (e - m))
  ⟨m - a, e - m, l, rfl, by omega, by omega, by omega, by omega, by omega, rfl, rfl, .refl _ _ _, fun k => by rw [show m - (m - a) = a by omega, show m + (e - m) = e by omega]⟩ ?_
 rintro z f H' ⟨i, j, l1, hz, hi, hj, hai, him, hje, rfl, rfl, hS, hR⟩ next
 have hll := hS.len
 have sw1 := fun (hij : j ≤ i) => swapRange_spec (H := H) (b := b) (cap := cap) lo hlo hb (l := l1) (by omega) (a := m - i) (c := m) (n := j) (by omega) (by omega)
 have sw2 := fun (hij : i ≤ j) => swapRange_spec (H := H) (b := b) (cap := cap) lo hlo hb (l := l1) (by omega) (a := m - i) (c := m + j - i) (n := i) (by omega) (by omega)
 have sw3 := fun (hij : i = j) => swapRange_spec (H := H) (b := b) (cap := cap) lo hlo hb (l := l1) (by omega) (a := m - i) (c := m) (n := i) (by omega) (by omega)
 rw [hll] at sw1 sw2 sw3
 repeat' (first | (show ER _ _ _ _ _ _ _; first | refine .seq ?_ | refine .reg ?_ | refine .yes rfl ?_ | refine .no rfl ?_ | refine .skip ?_ | refine .block ?_ | refine .endB ?_ | refine .exit rfl ?_ | refine .nil rfl ?_) | (show EG _ _ _ _ _ _ _ _ _; first | refine .mov rfl rfl ?_ | (show EG _ _ (⟨_, .bin _ _ _, _, _⟩ :: _) _ _ _ _ _ _; first | refine .gtr rfl rfl rfl (fun hc => ?_) (fun hc => ?_) | refine .neq rfl rfl rfl (fun hc => ?_) (fun hc => ?_) | refine .addN rfl rfl rfl (by omega) ?_ | refine .subN rfl rfl rfl (by omega) ?_) | (show EG _ _ (⟨_, .call _ _, _, _⟩ :: _) _ _ _ _ _ _; first | refine .call rfl rfl (sw1 (by omega)) ?_ | refine .call rfl rfl (sw2 (by omega)) ?_ | refine .call rfl rfl (sw3 (by omega)) ?_) | refine .fin ?_))
 ·refine next (i - j + j) _ _ (by omega) ⟨i - j, j, swR l1 (m - i) m j, rfl, by omega, by omega, by omega, by omega, by omega, rfl, rfl, hS.trans (Same.swR (by omega) (by omega) (by omega) (by omega)), fun k => ?_⟩
  rw [rot_left him (by omega) (by omega)]; exact hR k
 ·refine next (i + (j - i)) _ _ (by omega) ⟨i, j - i, swR l1 (m - i) (m + j - i) i, rfl, by omega, by omega, by omega, by omega, by omega, rfl, rfl, hS.trans (Same.swR (by omega) (by omega) (by omega) (by omega)), fun k => ?_⟩
  rw [rot_right him (by omega) (by omega)]; exact hR k
 ·have hij : i = j := by omega
  subst hij
  exact ⟨swR l1 (m - i) m i, rfl, hS.trans (Same.swR (by omega) (by omega) (by omega) (by omega)), fun k => by rw [rot_end him (by omega)]; exact hR k⟩

end

theorem rot_id {g : Nat → Obj} {s m e : Nat} (h : s = m ∨ e = m) (hs : s ≤ m) (he : m ≤ e) (k : Nat) : rotF g s m e k = g k := by
 unfold rotF
 split
 ·congr 1; omega
 ·split
  ·congr 1; omega
  ·rfl

section

variable {l l1 l2 l3 : List Obj} {a m e q s : Nat}

theorem rot_at (hr : ∀ k, gt l1 k = rotF (gt l) s m (q + m - s) k) (h1 : s ≤ m) (h2 : s ≤ q) :
  (∀ k, k < s → gt l1 k = gt l k) ∧ (∀ k, s ≤ k → k < q → gt l1 k = gt l (k + (m - s))) ∧ (∀ k, q ≤ k → k < q + m - s → gt l1 k = gt l (k - (q - s))) ∧ (∀ k, q + m - s ≤ k → gt l1 k = gt l k) := by
 refine ⟨fun k hk => ?_, fun k hk hk2 => ?_, fun k hk hk2 => ?_, fun k hk => ?_⟩ <;> rw [hr] <;> unfold rotF
 ·rw [if_neg (by omega), if_neg (by omega)]
 ·rw [if_pos (by omega)]
 ·rw [if_neg (by omega), if_pos (by omega)]; congr 1; omega
 ·rw [if_neg (by omega), if_neg (by omega)]

theorem rot_sorted (hr : ∀ k, gt l1 k = rotF (gt l) s m (q + m - s) k) (h1 : s ≤ m) (h2 : s ≤ q) (has : a ≤ s) (hae : q + m - s ≤ e) (hA : Srt l a m) (hB : Srt l m e) :
  Srt l1 a s ∧ Srt l1 s q ∧ Srt l1 q (q + m - s) ∧ Srt l1 (q + m - s) e := by
 obtain ⟨r1, r2, r3, r4⟩ := rot_at hr h1 h2
 refine ⟨fun i j g1 g2 g3 => ?_, fun i j g1 g2 g3 => ?_, fun i j g1 g2 g3 => ?_, fun i j g1 g2 g3 => ?_⟩
 ·rw [r1 i (by omega), r1 j (by omega)]; exact hA i j g1 g2 (by omega)
 ·rw [r2 i (by omega) (by omega), r2 j (by omega) (by omega)]; exact hB _ _ (by omega) (by omega) (by omega)
 ·rw [r3 i (by omega) (by omega), r3 j (by omega) (by omega)]; exact hA _ _ (by omega) (by omega) (by omega)
 ·rw [r4 i (by omega), r4 j (by omega)]; exact hB _ _ (by omega) (by omega) (by omega)

theorem Srt.at_le (h : Srt l a e) {i j : Nat} (h1 : a ≤ i) (h2 : i ≤ j) (h3 : j < e) : Le (gt l i) (gt l j) := by
 by_cases he : i = j
 ·subst he; unfold Le ltP; omega
 ·exact h i j h1 (by omega) h3

theorem rot_cross (hr : ∀ k, gt l1 k = rotF (gt l) s m (q + m - s) k) (h1 : s ≤ m) (h2 : s ≤ q) (has : a ≤ s) (hae : q + m - s ≤ e) (hA : Srt l a m) (hB : Srt l m e)
  (c1 : s = a ∨ q + m - s = e ∨ Le (gt l (s - 1)) (gt l (q + m - s))) (c2 : q = s ∨ s = m ∨ Le (gt l (q + m - s - 1)) (gt l s)) {i j : Nat} (hi : a ≤ i) (hi2 : i < q) (hj : q ≤ j) (hj2 : j < e) : Le (gt l1 i) (gt l1 j) := by
 obtain ⟨r1, r2, r3, r4⟩ := rot_at hr h1 h2
 by_cases e1 : i < s
 ·rw [r1 i e1]
  by_cases e2 : j < q + m - s
  ·rw [r3 j hj e2]; exact hA.at_le hi (by omega) (by omega)
  ·rw [r4 j (by omega)]
   rcases c1 with c1 | c1 | c1
   ·omega
   ·omega
   ·exact (hA.at_le hi (by omega) (by omega)).trans (c1.trans (hB.at_le (by omega) (by omega) hj2))
 ·rw [r2 i (by omega) hi2]
  by_cases e2 : j < q + m - s
  ·rw [r3 j hj e2]
   rcases c2 with c2 | c2 | c2
   ·omega
   ·omega
   ·exact (hB.at_le (by omega) (by omega) (by omega)).trans (c2.trans (hA.at_le (by omega) (by omega) (by omega)))
  ·rw [r4 j (by omega)]; exact hB.at_le (by omega) (by omega) (by omega)

theorem halves (hS : Same a e l l1) (hc : ∀ i j, a ≤ i → i < q → q ≤ j → j < e → Le (gt l1 i) (gt l1 j)) (haq : a ≤ q) (hqe : q ≤ e) (h2 : Same a q l1 l2) (s2 : Srt l2 a q) (h3 : Same q e l2 l3) (s3 : Srt l3 q e) :
  Same a e l l3 ∧ Srt l3 a e := by
 refine ⟨(hS.trans (h2.mono (Nat.le_refl _) hqe)).trans (h3.mono haq (Nat.le_refl _)), fun i j g1 g2 g3 => ?_⟩
 by_cases e1 : j < q
 ·rw [h3.out i (by omega), h3.out j (by omega)]; exact s2 i j g1 g2 e1
 ·by_cases e2 : q ≤ i
  ·exact s3 i j e2 g2 g3
  ·obtain ⟨i', f1, f2, f3⟩ := h2.inn i g1 (by omega)
   obtain ⟨j', k1, k2, k3⟩ := h3.inn j (by omega) g3
   rw [h3.out i (by omega), f3, k3, h2.out j' (by omega)]
   exact hc i' j' f1 f2 k1 k2

theorem one_first (hA : ∀ p, a + 1 ≤ p → p < s → Le (gt l p) (gt l a)) (hB : ∀ p, s ≤ p → p < e → Le (gt l a) (gt l p)) (hS : Srt l (a + 1) e) (h1 : a + 1 ≤ s) (h2 : s ≤ e)
  (hg : ∀ k, gt l1 k = if a ≤ k ∧ k < s - 1 then gt l (k + 1) else if k = s - 1 then gt l a else gt l k) : Srt l1 a e := by
 intro i j g1 g2 g3
 rw [hg i, hg j]
 by_cases e1 : a ≤ i ∧ i < s - 1
 ·rw [if_pos e1]
  by_cases e2 : a ≤ j ∧ j < s - 1
  ·rw [if_pos e2]; exact hS _ _ (by omega) (by omega) (by omega)
  ·rw [if_neg e2]
   by_cases e3 : j = s - 1
   ·rw [if_pos e3]; exact hA _ (by omega) (by omega)
   ·rw [if_neg e3]; exact hS _ _ (by omega) (by omega) (by omega)
 ·rw [if_neg e1, if_neg (show ¬ (a ≤ j ∧ j < s - 1) by omega), if_neg (show ¬ j = s - 1 by omega)]
  by_cases e3 : i = s - 1
  ·rw [if_pos e3]; exact hB _ (by omega) (by omega)
  ·rw [if_neg e3]; exact hS _ _ (by omega) (by omega) (by omega)

theorem one_last (hA : ∀ p, a ≤ p → p < s → Le (gt l p) (gt l m)) (hB : ∀ p, s ≤ p → p < m → Le (gt l m) (gt l p)) (hS : Srt l a m) (h1 : a ≤ s) (h2 : s ≤ m)
  (hg : ∀ k, gt l1 k = if s < k ∧ k ≤ m then gt l (k - 1) else if k = s then gt l m else gt l k) : Srt l1 a (m + 1) := by
 intro i j g1 g2 g3
 rw [hg i, hg j]
 by_cases e1 : s < i ∧ i ≤ m
 ·rw [if_pos e1, if_pos (by omega)]; exact hS _ _ (by omega) (by omega) (by omega)
 ·rw [if_neg e1]
  by_cases e2 : i = s
  ·rw [if_pos e2, if_pos (by omega)]; exact hB _ (by omega) (by omega)
  ·rw [if_neg e2]
   by_cases e3 : s < j ∧ j ≤ m
   ·rw [if_pos e3]; exact hS.at_le (by omega) (by omega) (by omega)
   ·rw [if_neg e3]
    by_cases e4 : j = s
    ·rw [if_pos e4]; exact hA _ (by omega) (by omega)
    ·rw [if_neg e4]; exact hS _ _ (by omega) (by omega) (by omega)

end
end Go.Proofs.YtgnkcpkdlkabkaaGreat

