/- Objects held against each other, by the document. -/
import Derived.Test.YtgnkcpkdlkabkaaGreatAuditP4
import Derived.Test.YtgnkcpkdlkabkaaGreatAuditP2

set_option linter.unusedVariables false
set_option linter.unusedSimpArgs false
namespace Go.Proofs.YtgnkcpkdlkabkaaGreat
open Go Go.Ir

theorem has_spec {lo : Nat} {h : Heap} (x : Obj) (t : Int) :
  callR En lo Id.sidingsref17_has [.agg x.cs.toArray, .int .i64 t] h = some (.bool (hasB x t), h) := by
 refine call_scr rfl Fn.sidingsref17_has rfl rfl ?_
 unfold hasB
 by_cases h1 : x.o ≤ t <;> by_cases h2 : 0 ≤ IntKind.i64.wrap (t - x.o)
 all_goals
  simp only [h1, h2, decide_true, decide_false, Bool.true_and, Bool.false_and]
  repeat (first | refine .op rfl rfl ?_ | refine .seq ?_ | refine .reg ?_ | refine .fin ?_ | simp only [h1, h2, decide_true, decide_false] | refine .gd rfl rfl rfl ?_ | refine .skip rfl ?_ | exact .ret rfl rfl)

theorem share_spec {lo : Nat} {h : Heap} (x y : Obj) :
  callR En lo Id.sidingsref17_share [.agg x.cs.toArray, .agg y.cs.toArray] h = some (.bool (shareB x y), h) := by
 refine call_scr rfl Fn.sidingsref17_share rfl rfl ?_
 unfold shareB
 by_cases h1 : 0 < x.n <;> by_cases h2 : 0 < y.n <;> cases h3 : hasB x y.o
 all_goals
  have c1 : ∀ (lo : Nat) (h : Heap), callR En lo Id.sidingsref17_has [.agg x.cs.toArray, .int .i64 y.o] h = some (.bool (hasB x y.o), h) := fun lo h => has_spec x y.o
  have c2 : ∀ (lo : Nat) (h : Heap), callR En lo Id.sidingsref17_has [.agg y.cs.toArray, .int .i64 x.o] h = some (.bool (hasB y x.o), h) := fun lo h => has_spec y x.o
  simp only [h3] at c1
  simp only [h1, h2, decide_true, decide_false, Bool.true_and, Bool.false_and, Bool.false_or, Bool.true_or]
  repeat (first | refine .op rfl rfl ?_ | refine .seq ?_ | refine .reg ?_ | refine .fin ?_ | simp only [h1, h2, decide_true, decide_false] | refine .gd rfl (i_call rfl (c1 _ _)) rfl ?_ | refine .gd rfl (i_call rfl (c2 _ _)) rfl ?_ | refine .gd rfl rfl rfl ?_ | refine .skip rfl ?_ | exact .ret rfl rfl)

theorem refApart_spec {lo : Nat} {h : Heap} {v : Value} {l : List Obj} (hv : Sl h 4 v (css l)) (hl : l.length ≤ 1000) :
  callR En lo Id.sidingsref17_Apart [v] h = some (.bool (apartB l), h) := by
 have hcl : (css l).length = l.length := by simp [css]
 obtain ⟨base, cap, hve⟩ := hv.len
 refine call_scr rfl Fn.sidingsref17_Apart rfl rfl ?_
 refine .seq (.reg (.op rfl rfl (.fin ?_)))
 refine .seq (.seq (.reg (.op rfl rfl (.fin ?_))))
 refine .block ?_
 refine .loop (fun n f H => H = h ∧ ∃ i : Nat, n + i = l.length ∧ f = [(0, v), (3, .int .i64 (i : Nat))] ∧ ∀ (i' k : Nat) (x y : Obj), i' < i → k < i' → l[i']? = some x → l[k]? = some y → shareB x y = false) (n := l.length)
  ⟨rfl, 0, rfl, rfl, fun i' k x y hi => by omega⟩ ?_
 rintro n f H ⟨rfl, i, hn, rfl, hI⟩ next
 subst hve
 refine .seq (.seq (.reg (.op rfl rfl (.op rfl rfl (.op rfl rfl (.op rfl rfl (.fin ?_)))))))
 by_cases hi : i < l.length
 ·rw [decide_of (show (i : Int) < ((css l).length : Int) by omega)]
  refine .yes rfl (.skip ?_)
  have hne : css l ≠ [] := fun e => by rw [e] at hcl; simp at hcl; omega
  refine Exists.elim (hv.row hne) fun a hq => Exists.elim hq fun cap' hq2 => ?_
  have hva := hq2.1
  have hld := hq2.2
  injection hva with e1 e2 e3
  subst e1
  refine .seq (.block (.seq (.reg (.op rfl rfl (.fin ?_)))))
  refine .block ?_
  refine .loop (fun n f H' => H' = H ∧ ∃ k : Nat, n + k = i ∧ f = [(0, .slice (some a) (css l).length cap), (3, .int .i64 (i : Nat)), (4, .int .i64 (k : Nat))] ∧
   ∀ (k' : Nat) (x y : Obj), k' < k → l[i]? = some x → l[k']? = some y → shareB x y = false) (n := i) ⟨rfl, 0, rfl, rfl, fun k' x y hk => by omega⟩ ?_
  rintro m f H' ⟨rfl, k, hk, rfl, hK⟩ nextk
  refine .seq (.seq (.reg (.op rfl rfl (.op rfl rfl (.op rfl rfl (.fin ?_))))))
  by_cases hki : k < i
  ·rw [decide_of (show (k : Int) < (i : Int) by omega)]
   refine .yes rfl (.skip ?_)
   have hgi : l[i]? = some l[i] := List.getElem?_eq_getElem hi
   have hgk : l[k]? = some (l[k]'(by omega)) := List.getElem?_eq_getElem (by omega)
   have hli := (hld i _ (css_get hgi)).2
   have hlk := (hld k _ (css_get hgk)).2
   have hi' : i < (css l).length := by omega
   have hk' : k < (css l).length := by omega
   have hs := fun lo h => share_spec (lo := lo) (h := h) l[i] (l[k]'(by omega))
   refine .seq (.block (.seq (.reg (.op rfl rfl (.op rfl rfl (.op (i_iaddr rfl rfl hi') rfl (.op (i_load rfl hli) rfl ?_)))))))
   refine .op rfl rfl (.op rfl rfl (.op (i_iaddr rfl rfl hk') rfl (.op (i_load rfl hlk) rfl (.op (i_call rfl (hs _ _)) rfl (.fin ?_)))))
   cases hsh : shareB l[i] (l[k]'(by omega)) with
   | true =>
     refine .yes rfl (.seq (.reg (.op rfl rfl (.fin (.ret rfl ?_)))))
     have : apartB l = false := by
      refine apartB_false fun hA => ?_
      have := hA i k _ _ hki hgi hgk
      rw [hsh] at this; cases this
     rw [this]; rfl
   | false =>
     refine .no rfl (.skip (.endB ?_))
     refine .reg (.op rfl rfl (.op rfl rfl (.op rfl rfl (.fin ?_))))
     refine nextk (m - 1) _ _ (by omega) ⟨rfl, k + 1, by omega, ?_, fun k' x y hk1 hx hy => ?_⟩
     ·show [(0, _), (3, _), (4, Value.int .i64 (IntKind.i64.wrap ((k : Int) + 1)))] = _
      rw [wrap_small (by omega) (by omega)]; rfl
     ·by_cases hkk : k' = k
      ·subst hkk
       rw [hgi] at hx; rw [hgk] at hy
       injection hx with hx; injection hy with hy
       subst hx hy
       exact hsh
      ·exact hK k' x y (by omega) hx hy
  ·rw [decide_not (show ¬ (k : Int) < (i : Int) by omega)]
   refine .no rfl (.exit rfl (.endB ?_))
   refine .reg (.op rfl rfl (.op rfl rfl (.op rfl rfl (.fin ?_))))
   refine next (n - 1) _ _ (by omega) ⟨rfl, i + 1, by omega, ?_, fun i' k' x y h1 h2 hx hy => ?_⟩
   ·show [(0, _), (3, Value.int .i64 (IntKind.i64.wrap ((i : Int) + 1)))] = _
    rw [wrap_small (by omega) (by omega)]; rfl
   ·by_cases hii : i' = i
    ·subst hii; exact hK k' x y (by omega) hx hy
    ·exact hI i' k' x y (by omega) h2 hx hy
 ·rw [decide_not (show ¬ (i : Int) < ((css l).length : Int) by omega)]
  refine .no rfl (.exit rfl ?_)
  refine .seq (.reg (.op rfl rfl (.fin (.ret rfl ?_))))
  have : apartB l = true := by
   refine apartB_true fun i' k x y hk hx hy => ?_
   have := (List.getElem?_eq_some_iff.1 hx).1
   exact hI i' k x y (by omega) hk hx hy
  rw [this]; rfl

theorem refCheck_spec (lo : Nat) {h : Heap} {v : Value} {l : List Obj} {arena : Int} (hv : Sl h 4 v (css l)) (hl : l.length ≤ 1000) :
  callR En lo Id.sidingsref17_Check [v, .int .i64 arena] h = some (.int .i64 (okN arena l), h) := by
 have hcl : (css l).length = l.length := by simp [css]
 have hsA := fun lo => refApart_spec (lo := lo) hv hl
 obtain ⟨base, cap, hve⟩ := hv.len
 refine call_scr rfl Fn.sidingsref17_Check rfl rfl ?_
 repeat' (first | (show ER _ _ _ _ _ _ _; first | refine .seq ?_ | refine .reg ?_ | refine .yes rfl ?_ | refine .no rfl ?_ | refine .skip ?_ | refine .block ?_ | refine .ret rfl ?_) | (show EG _ _ _ _ _ _ _ _ _; first | refine .mov rfl rfl ?_ | (show EG _ _ (⟨_, .bin _ _ _, _, _⟩ :: _) _ _ _ _ _ _; first | refine .lss rfl rfl rfl (fun hc => ?_) (fun hc => ?_) | refine .gtr rfl rfl rfl (fun hc => ?_) (fun hc => ?_)) | refine .callb rfl rfl (hsA _) (fun hc => ?_) (fun hc => ?_) | refine .skip rfl ?_ | refine .fin ?_ | refine .go rfl rfl rfl ?_))
 ·exact tidyI (okN_1 (fun hk => by have := hk.1; omega)).symm
 ·exact tidyI (okN_1 (fun hk => by have := hk.2.1; omega)).symm
 ·have h3 : apartP l := Classical.byContradiction fun hn => by rw [apartB_false hn] at hc; cases hc
  refine .loop (fun n f H => H = h ∧ ∃ i : Nat, n + i = l.length ∧ f = [(0, v), (1, .int .i64 arena), (5, .int .i64 (i : Nat))] ∧ ∀ (i' : Nat) (x : Obj), i' < i → l[i']? = some x → fineP arena x) (n := l.length)
   ⟨rfl, 0, rfl, rfl, fun i' x hi => by omega⟩ ?_
  rintro n f H ⟨rfl, i, hn, rfl, hI⟩ next
  subst hve
  by_cases hi : i < l.length
  ·have hne : css l ≠ [] := fun e => by rw [e] at hcl; simp at hcl; omega
   refine Exists.elim (hv.row hne) fun a hq => Exists.elim hq fun cap' hq2 => ?_
   have hva := hq2.1
   have hld := hq2.2
   injection hva with e1 e2 e3
   subst e1
   have hgi : l[i]? = some l[i] := List.getElem?_eq_getElem hi
   have q1 := (hld i _ (css_get hgi)).1 1 _ rfl
   have q2 := (hld i _ (css_get hgi)).1 2 _ rfl
   have hi' : i < (css l).length := by omega
   generalize l[i] = x at hgi q1 q2
   have bad : ¬ fineP arena x → okN arena l = 1 := fun hb => okN_1 fun hk => hb (hk.2.2.2 i x hgi)
   repeat' (first | (show ER _ _ _ _ _ _ _; first | refine .seq ?_ | refine .reg ?_ | refine .yes rfl ?_ | refine .no rfl ?_ | refine .skip ?_ | refine .block ?_ | refine .endB ?_ | refine .exit rfl ?_ | refine .ret rfl ?_) | (show EG _ _ _ _ _ _ _ _ _; first | refine .mov rfl rfl ?_ | (show EG _ _ (⟨_, .bin _ _ _, _, _⟩ :: _) _ _ _ _ _ _; first | refine .lss rfl rfl rfl (fun hc => ?_) (fun hc => ?_) | refine .gtr rfl rfl rfl (fun hc => ?_) (fun hc => ?_)) | (show EG _ _ (⟨_, .load _ _, _, _⟩ :: _) _ _ _ _ _ _; first | refine .load rfl rfl (q1) ?_ | refine .load rfl rfl (q2) ?_) | refine .iaddr rfl rfl rfl (hi') ?_ | refine .skip rfl ?_ | refine .fin ?_ | refine .go rfl rfl rfl ?_))
   all_goals first | (exact tidyI (bad fun hb => by have h1 := hb.1; have h2 := hb.2.1; have h3 := hb.2.2.1; have h4 := hb.2.2.2; omega).symm) | skip
   ·refine next (n - 1) _ _ (by omega) ⟨rfl, i + 1, by omega, ?_, fun i' y hy1 hy => ?_⟩
    ·show [(0, _), (1, _), (5, Value.int .i64 (IntKind.i64.wrap ((i : Int) + 1)))] = _
     rw [wrap_small (by omega) (by omega)]; rfl
    ·by_cases hii : i' = i
     ·subst hii; rw [hgi] at hy; injection hy with hy; subst hy
      exact ⟨by omega, by omega, by omega, by omega⟩
     ·exact hI i' y (by omega) hy
   ·omega
  ·repeat' (first | (show ER _ _ _ _ _ _ _; first | refine .seq ?_ | refine .reg ?_ | refine .yes rfl ?_ | refine .no rfl ?_ | refine .skip ?_ | refine .block ?_ | refine .exit rfl ?_ | refine .ret rfl ?_) | (show EG _ _ _ _ _ _ _ _ _; first | refine .mov rfl rfl ?_ | refine .lss rfl rfl rfl (fun hc => ?_) (fun hc => ?_) | refine .fin ?_ | refine .go rfl rfl rfl ?_))
   ·omega
   ·exact tidyI (okN_0 ⟨by omega, by omega, h3, fun i' x hx => hI i' x (by have := (List.getElem?_eq_some_iff.1 hx).1; omega) hx⟩).symm
 ·exact tidyI (okN_1 (fun hk => by rw [apartB_true hk.2.2.1] at hc; cases hc)).symm

end Go.Proofs.YtgnkcpkdlkabkaaGreat

/- The document's entries, and sizes rounded. -/
set_option linter.unusedVariables false
set_option linter.unusedSimpArgs false
namespace Go.Proofs.YtgnkcpkdlkabkaaGreat
open Go Go.Ir

set_option maxHeartbeats 1600000 in
theorem rmay_spec (lo : Nat) (h : Heap) (e : Ent) : callR En lo Id.sidingsref02_May [.agg e.cs.toArray] h = some (.bool (decide e.may), h) := by
 obtain ⟨o, g, p, u, lk, lv⟩ := e
 have hcs : (Ent.mk o g p u lk lv).cs = [I o, I g, I p, I u, .bool lk, .bool lv] := rfl
 rw [hcs]
 refine call_scr rfl Fn.sidingsref02_May rfl rfl ?_
 cases lk
 all_goals
  cases lv
  all_goals
   repeat' (first | (show ER _ _ _ _ _ _ _; first | refine .seq ?_ | refine .reg ?_ | refine .yes rfl ?_ | refine .no rfl ?_ | refine .skip ?_ | refine .ret rfl ?_) | (show EG _ _ _ _ _ _ _ _ _; first | refine .mov rfl rfl ?_ | refine .lload rfl rfl rfl rfl ?_ | refine .laddr rfl rfl rfl ?_ | (show EG _ _ (⟨_, .bin _ _ _, _, _⟩ :: _) _ _ _ _ _ _; first | refine .lss rfl rfl rfl (fun hc => ?_) (fun hc => ?_) | refine .gtr rfl rfl rfl (fun hc => ?_) (fun hc => ?_) | refine .eql rfl rfl rfl (fun hc => ?_) (fun hc => ?_) | refine .neq rfl rfl rfl (fun hc => ?_) (fun hc => ?_)) | refine .skip rfl ?_ | refine .fin ?_ | refine .go rfl rfl rfl ?_))
   all_goals
    refine tidyB ?_
    first
    | (refine (decide_eq_true ?_).symm; unfold Ent.may; simp <;> omega)
    | (refine (decide_eq_false ?_).symm; intro hh; unfold Ent.may at hh; simp at hh <;> omega)

theorem rround_spec (lo : Nat) (h : Heap) (n : Int) : callR En lo Id.sidingsref03_Round [I n] h = some (roundV n, h) := by
 refine call_scr rfl Fn.sidingsref03_Round rfl rfl ?_
 unfold roundV
 by_cases hr : 1 ≤ n ∧ n ≤ 256
 ·rw [if_pos hr]
  obtain ⟨k, hk⟩ : ∃ k : Nat, n = k := ⟨n.toNat, by omega⟩
  subst hk
  repeat' (first | (show ER _ _ _ _ _ _ _; first | refine .seq ?_ | refine .reg ?_ | refine .no rfl ?_ | refine .skip ?_ | refine .block ?_) | (show EG _ _ _ _ _ _ _ _ _; first | refine .mov rfl rfl ?_ | (show EG _ _ (⟨_, .bin _ _ _, _, _⟩ :: _) _ _ _ _ _ _; first | refine .lssF rfl rfl rfl (by omega) ?_ | refine .gtrF rfl rfl rfl (by omega) ?_) | refine .fin ?_ | refine .go rfl rfl rfl ?_))
  refine .loop (fun m f H => H = h ∧ ∃ j : Nat, m + j = (k + 7) / 8 * 8 ∧ k ≤ j ∧ f = [(0, N j)]) (n := (k + 7) / 8 * 8 - k) ⟨rfl, k, by omega, Nat.le_refl _, rfl⟩ ?_
  rintro m f H ⟨rfl, j, hm, hkj, rfl⟩ next
  by_cases hj : j % 8 = 0
  ·have hjr : roundI (k : Int) = (j : Int) := by unfold roundI; omega
   repeat' (first | (show ER _ _ _ _ _ _ _; first | refine .seq ?_ | refine .reg ?_ | refine .no rfl ?_ | refine .exit rfl ?_ | refine .ret rfl ?_) | (show EG _ _ _ _ _ _ _ _ _; first | refine .mov rfl rfl ?_ | refine .neqF rfl rfl rfl (by omega) ?_ | refine .remN (b := 8) rfl rfl rfl (by decide) ?_ | refine .fin ?_))
   rw [hjr]; rfl
  ·repeat' (first | (show ER _ _ _ _ _ _ _; first | refine .seq ?_ | refine .reg ?_ | refine .yes rfl ?_ | refine .skip ?_ | refine .block ?_ | refine .endB ?_) | (show EG _ _ _ _ _ _ _ _ _; first | refine .mov rfl rfl ?_ | (show EG _ _ (⟨_, .bin _ _ _, _, _⟩ :: _) _ _ _ _ _ _; first | refine .neqT rfl rfl rfl (by omega) ?_ | refine .addN (b := 1) rfl rfl rfl (by omega) ?_) | refine .remN (b := 8) rfl rfl rfl (by decide) ?_ | refine .fin ?_))
   exact next (m - 1) _ _ (by omega) ⟨rfl, j + 1, by omega, by omega, rfl⟩
 ·rw [if_neg hr]
  repeat' (first | (show ER _ _ _ _ _ _ _; first | refine .seq ?_ | refine .reg ?_ | refine .yes rfl ?_ | refine .no rfl ?_ | refine .skip ?_ | refine .block ?_ | refine .ret rfl ?_) | (show EG _ _ _ _ _ _ _ _ _; first | refine .mov rfl rfl ?_ | (show EG _ _ (⟨_, .bin _ _ _, _, _⟩ :: _) _ _ _ _ _ _; first | refine .lss rfl rfl rfl (fun hc => ?_) (fun hc => ?_) | refine .gtr rfl rfl rfl (fun hc => ?_) (fun hc => ?_)) | refine .skip rfl ?_ | refine .fin ?_ | refine .go rfl rfl rfl ?_))
  all_goals first | rfl | (exfalso; omega)
end Go.Proofs.YtgnkcpkdlkabkaaGreat

/- The document's entries, unpacked. -/
set_option linter.unusedVariables false
set_option linter.unusedSimpArgs false
namespace Go.Proofs.YtgnkcpkdlkabkaaGreat
open Go Go.Ir

theorem shr_e {f : Fr} {call : CallF} {lo : Nat} {h : Heap} {x y : Operand} {n k q : Nat} {j : IntKind} (hx : ev f x = some (N n)) (hy : ev f y = some (.int j (k : Nat))) (hk : k ≤ 62) (hq : n / 2 ^ k = q) : iop call lo (.bin .shr x y) f h = some (N q, h) := by
 subst hq
 simp only [iop, hx, hy, ibin, isShift, if_true, ishift]
 rw [if_neg (by omega)]
 have : min ((k : Int).toNat) IntKind.i64.bits = k := by show min _ 64 = _; omega
 rw [this, Int.fdiv_eq_ediv_of_nonneg _ (Int.le_of_lt (Int.pow_pos (by decide)))]
 simp
theorem rem_e {f : Fr} {call : CallF} {lo : Nat} {h : Heap} {x y : Operand} {a b r : Nat} (hx : ev f x = some (N a)) (hy : ev f y = some (N b)) (hb : b ≠ 0) (hr : a % b = r) : iop call lo (.bin .rem x y) f h = some (N r, h) := by
 subst hr
 have hb' : ¬ ((b : Int) = 0) := by omega
 have e1 : (a : Int).tmod (b : Int) = ((a % b : Nat) : Int) := by rw [Int.tmod_eq_emod_of_nonneg (by omega)]; rfl
 simp only [iop, hx, hy, ibin, isShift, ibinI, if_true, if_neg hb', e1]
 rfl

section
variable {E : Env} {lo : Nat} {os : List IOper} {f : Fr} {h : Heap} {hs : List Heap} {k : List Ir.Item} {rs : List IRes} {Q : Value → Heap → Prop} {d : Nat} {g : Option (Nat × Bool)} {x y : Operand}
theorem g_shr {n k' q : Nat} {j : IntKind} (hq : n / 2 ^ k' = q) (hw : want g f = some true) (hx : ev f x = some (N n)) (hy : ev f y = some (.int j (k' : Nat))) (hk : k' ≤ 62) (c : EG E lo os hs k ((d, N q) :: f) h rs Q) :
  EG E lo (⟨some d, .bin .shr x y, g, 0⟩ :: os) hs k f h rs Q := .go hw (shr_e hx hy hk hq) rfl c
theorem g_rem {a b r : Nat} (hr : a % b = r) (hw : want g f = some true) (hx : ev f x = some (N a)) (hy : ev f y = some (N b)) (hb : b ≠ 0) (c : EG E lo os hs k ((d, N r) :: f) h rs Q) :
  EG E lo (⟨some d, .bin .rem x y, g, 0⟩ :: os) hs k f h rs Q := .go hw (rem_e hx hy hb hr) rfl c
theorem g_eql {p q : Int} {j : IntKind} {b : Bool} (hb : decide (p = q) = b) (hw : want g f = some true) (hx : ev f x = some (.int j p)) (hy : ev f y = some (.int j q)) (c : EG E lo os hs k ((d, .bool b) :: f) h rs Q) :
  EG E lo (⟨some d, .bin .eql x y, g, 0⟩ :: os) hs k f h rs Q := .eql hw hx hy (fun t => by rw [decide_eq_true t] at hb; rw [hb]; exact c) (fun t => by rw [decide_eq_false t] at hb; rw [hb]; exact c)
end

set_option maxHeartbeats 1600000 in
theorem runp_nat (lo : Nat) (h : Heap) {n : Nat} (hlt : n < 2 ^ 50) : callR En lo Id.sidingsref02_Unpack [N n] h = some (unV (if (rawE n).may then some (rawE n) else none), h) := by
 have hE := fun lo => rmay_spec lo h (rawE n)
 have h49 : n / 2 ^ 49 % 2 ^ 1 = n / 2 ^ 49 := by omega
 have hcs : (rawE n).cs = [N (n % 2 ^ 20), N (n / 2 ^ 20 % 2 ^ 20), N (n / 2 ^ 40 % 2 ^ 4), N (n / 2 ^ 44 % 2 ^ 4), .bool (decide (n / 2 ^ 48 % 2 ^ 1 = 1)), .bool (decide (n / 2 ^ 49 = 1))] := by
  unfold rawE Ent.cs
  simp only
  rw [h49, show n / 2 ^ 0 % 2 ^ 20 = n % 2 ^ 20 by omega]
 have hv : unV (if (rawE n).may then some (rawE n) else none) = bif decide (rawE n).may then .tuple #[.agg (rawE n).cs.toArray, I 0] else .tuple #[.agg Ent.zero.cs.toArray, I 2] := by
  by_cases hm : (rawE n).may
  ·rw [if_pos hm, decide_eq_true hm]; rfl
  ·rw [if_neg hm, decide_eq_false hm]; rfl
 rw [hv]
 clear hv
 generalize decide (rawE n).may = bm at hE ⊢
 cases bm
 all_goals
  simp only [cond_true, cond_false]
  rw [hcs] at hE
  try rw [hcs]
  clear hcs h49
  generalize q20 : n / 2 ^ 20 = n20 at *
  generalize q40 : n / 2 ^ 40 = n40 at *
  generalize q44 : n / 2 ^ 44 = n44 at *
  generalize q48 : n / 2 ^ 48 = n48 at *
  generalize q49 : n / 2 ^ 49 = n49 at *
  generalize r0 : n % 2 ^ 20 = a0 at *
  generalize r1 : n20 % 2 ^ 20 = a1 at *
  generalize r2 : n40 % 2 ^ 4 = a2 at *
  generalize r3 : n44 % 2 ^ 4 = a3 at *
  generalize r4 : n48 % 2 ^ 1 = a4 at *
  have b4 : decide (((a4 : Nat) : Int) = 1) = decide (a4 = 1) := decide_eq_decide.2 (by omega)
  have b9 : decide (((n49 : Nat) : Int) = 1) = decide (n49 = 1) := decide_eq_decide.2 (by omega)
  generalize decide (a4 = 1) = lk at *
  generalize decide (n49 = 1) = lv at *
  refine call_scr rfl Fn.sidingsref02_Unpack rfl rfl ?_
  repeat' (first | (show ER _ _ _ _ _ _ _; first | refine .seq ?_ | refine .reg ?_ | refine .yes rfl ?_ | refine .no rfl ?_ | refine .skip ?_ | refine .ret rfl ?_) | (show EG _ _ _ _ _ _ _ _ _; first | refine .mov rfl rfl ?_ | refine .lload rfl rfl rfl rfl ?_ | (show EG _ _ (⟨_, .bin _ _ _, _, _⟩ :: _) _ _ _ _ _ _; first | refine g_eql b4 rfl rfl rfl ?_ | refine g_eql b9 rfl rfl rfl ?_ | refine g_rem (b := 1048576) r0 rfl rfl rfl (by decide) ?_ | refine g_rem (b := 1048576) r1 rfl rfl rfl (by decide) ?_ | refine g_rem (b := 16) r2 rfl rfl rfl (by decide) ?_ | refine g_rem (b := 16) r3 rfl rfl rfl (by decide) ?_ | refine g_rem (b := 2) r4 rfl rfl rfl (by decide) ?_ | refine g_shr (k' := 20) q20 rfl rfl rfl (by decide) ?_ | refine g_shr (k' := 40) q40 rfl rfl rfl (by decide) ?_ | refine g_shr (k' := 44) q44 rfl rfl rfl (by decide) ?_ | refine g_shr (k' := 48) q48 rfl rfl rfl (by decide) ?_ | refine g_shr (k' := 49) q49 rfl rfl rfl (by decide) ?_ | refine .lssF rfl rfl rfl (by omega) ?_ | refine .geqF rfl rfl rfl (by omega) ?_) | refine .call rfl rfl (hE _) ?_ | refine .fin ?_ | refine .go rfl rfl rfl ?_))
  rfl

theorem runp_spec (lo : Nat) (h : Heap) (w : Int) : callR En lo Id.sidingsref02_Unpack [I w] h = some (unV (unpackE w), h) := by
 by_cases hr : 0 ≤ w ∧ w < 1125899906842624
 ·refine Exists.elim (show ∃ n : Nat, w = n from ⟨w.toNat, by omega⟩) fun n hn => ?_
  subst hn
  have := runp_nat lo h (n := n) (by omega)
  rw [this]
  unfold unpackE
  by_cases hm : (rawE n).may
  ·rw [if_pos hm, if_pos ⟨hr.1, hr.2, by simpa using hm⟩]; rfl
  ·rw [if_neg hm, if_neg (fun hh => hm (by simpa using hh.2.2))]
 ·have hu : unpackE w = none := by unfold unpackE; exact if_neg fun hh => hr ⟨hh.1, hh.2.1⟩
  rw [hu]
  refine call_scr rfl Fn.sidingsref02_Unpack rfl rfl ?_
  by_cases h0 : w < 0
  ·repeat' (first | (show ER _ _ _ _ _ _ _; first | refine .seq ?_ | refine .reg ?_ | refine .yes rfl ?_ | refine .ret rfl ?_) | (show EG _ _ _ _ _ _ _ _ _; first | refine .mov rfl rfl ?_ | refine .lssT rfl rfl rfl (by omega) ?_ | refine .skip rfl ?_ | refine .fin ?_ | refine .go rfl rfl rfl ?_))
   rfl
  ·repeat' (first | (show ER _ _ _ _ _ _ _; first | refine .seq ?_ | refine .reg ?_ | refine .yes rfl ?_ | refine .ret rfl ?_) | (show EG _ _ _ _ _ _ _ _ _; first | refine .mov rfl rfl ?_ | (show EG _ _ (⟨_, .bin _ _ _, _, _⟩ :: _) _ _ _ _ _ _; first | refine .lssF rfl rfl rfl (by omega) ?_ | refine .geqT rfl rfl rfl (by omega) ?_) | refine .fin ?_ | refine .go rfl rfl rfl ?_))
   rfl

end Go.Proofs.YtgnkcpkdlkabkaaGreat

/- Whole numbers as floats. -/
set_option linter.unusedVariables false
set_option linter.unusedSimpArgs false
namespace Go.Proofs.YtgnkcpkdlkabkaaGreat
open Go Go.Ir

def fl (n : Nat) : Nat := Ieee.double.nearest false n 0

theorem fl_eq (n : Nat) : FloatKind.f64.nearest (n : Int) = fl n := by
 unfold FloatKind.nearest FloatKind.encode Ieee.Format.write fl
 have hd : decide ((n : Int) < 0) = false := decide_eq_false (by omega)
 simp only [hd, Int.natAbs_natCast, FloatKind.format]

theorem cut0 (n : Nat) (neg : Bool) : Ieee.Toward.even.cut neg n 0 = n := by
 unfold Ieee.Toward.cut
 simp [Nat.mod_one]

theorem log2_mul_pow {c k : Nat} (hc : c ≠ 0) : (c * 2 ^ k).log2 = c.log2 + k := by
 have hpos : 0 < 2 ^ k := Nat.two_pow_pos k
 have h0 : c * 2 ^ k ≠ 0 := Nat.mul_ne_zero hc (by omega)
 have h1 := Nat.log2_self_le hc
 have h2 := Nat.lt_log2_self (n := c)
 refine Nat.le_antisymm ?_ ?_
 ·have : c * 2 ^ k < 2 ^ (c.log2 + k + 1) := by
   rw [show c.log2 + k + 1 = (c.log2 + 1) + k by omega, Nat.pow_add]
   exact Nat.mul_lt_mul_of_pos_right h2 hpos
  have := (Nat.log2_lt h0).2 this
  omega
 ·refine (Nat.le_log2 h0).2 ?_
  rw [Nat.pow_add]
  exact Nat.mul_le_mul_right _ h1

theorem read_fl {n : Nat} (h : n < 2 ^ 53) : ∃ k : Nat, k ≤ 1074 ∧ Ieee.double.read (fl n) = .number false (n * 2 ^ k) (-(k : Int)) := by
 by_cases h0 : n = 0
 ·subst h0
  exact ⟨1074, Nat.le_refl _, by unfold fl; decide +kernel⟩
 have hL : n.log2 < 53 := (Nat.log2_lt h0).2 h
 have h1 := Nat.log2_self_le h0
 have h2 := Nat.lt_log2_self (n := n)
 have hb : Ieee.double.binade = 4503599627370496 := by decide +kernel
 have hi : Ieee.double.infRung = 9218868437227405312 := by decide +kernel
 have hs : Ieee.double.signWeight = 9223372036854775808 := by decide +kernel
 have hp : Ieee.double.leastPlace = -1074 := by decide
 have hs1 : 4503599627370496 ≤ n * 2 ^ (52 - n.log2) := by
  have : 2 ^ n.log2 * 2 ^ (52 - n.log2) ≤ n * 2 ^ (52 - n.log2) := Nat.mul_le_mul_right _ h1
  rw [← Nat.pow_add, show n.log2 + (52 - n.log2) = 52 by omega] at this
  exact this
 have hs2 : n * 2 ^ (52 - n.log2) < 9007199254740992 := by
  have : n * 2 ^ (52 - n.log2) < 2 ^ (n.log2 + 1) * 2 ^ (52 - n.log2) := Nat.mul_lt_mul_of_pos_right h2 (Nat.two_pow_pos _)
  rw [← Nat.pow_add, show n.log2 + 1 + (52 - n.log2) = 53 by omega] at this
  exact this
 have hfl : fl n = (n.log2 + 1022) * 4503599627370496 + n * 2 ^ (52 - n.log2) := by
  unfold fl Ieee.Format.nearest
  rw [if_neg h0]
  have e1 : max ((0 : Int) + (n.log2 : Int) - (Ieee.double.fractionBits : Nat)) Ieee.double.leastPlace = (n.log2 : Int) - 52 := by
   rw [hp, show (Ieee.double.fractionBits : Int) = 52 from rfl]; omega
  rw [e1]
  simp only
  rw [show ((0 : Int) - ((n.log2 : Int) - 52)).toNat = 52 - n.log2 by omega, show ((n.log2 : Int) - 52 - 0).toNat = 0 by omega, cut0, Nat.shiftLeft_eq, hp, show ((n.log2 : Int) - 52 - -1074).toNat = n.log2 + 1022 by omega, hb, hi]
  unfold Ieee.Format.word
  rw [if_neg (by simp)]
  omega
 generalize hsd : n * 2 ^ (52 - n.log2) = s at hs1 hs2 hfl
 have hr : Ieee.double.read (fl n) = .number false s (-((52 - n.log2 : Nat) : Int)) := by
  rw [hfl]
  unfold Ieee.Format.read
  rw [hb, hi, hs, hp]
  have w1 : ((n.log2 + 1022) * 4503599627370496 + s) / 9223372036854775808 % 2 = 0 := by omega
  have w2 : ((n.log2 + 1022) * 4503599627370496 + s) % 9223372036854775808 = (n.log2 + 1022) * 4503599627370496 + s := by omega
  have w3 : ((n.log2 + 1022) * 4503599627370496 + s) % 4503599627370496 = s - 4503599627370496 := by omega
  have w4 : ((n.log2 + 1022) * 4503599627370496 + s) / 4503599627370496 = n.log2 + 1023 := by omega
  simp only [w1, w2, w3, w4]
  rw [if_neg (by omega), if_pos (by omega), show 4503599627370496 + (s - 4503599627370496) = s by omega, show (-1074 : Int) + ((n.log2 + 1023 - 1 : Nat) : Int) = -((52 - n.log2 : Nat) : Int) by omega]
  rfl
 exact ⟨52 - n.log2, by omega, by rw [hsd]; exact hr⟩

theorem signed_nat (m u : Nat) : Ieee.signed false m u = ((m * 2 ^ u : Nat) : Int) := by
 unfold Ieee.signed
 simp [Nat.shiftLeft_eq]

theorem fl_int {n : Nat} (h : n < 2 ^ 53) : (FloatKind.f64.decode (fl n)).toInt .zero = some (n : Int) := by
 obtain ⟨k, hk, ha⟩ := read_fl h
 unfold FloatKind.decode
 rw [show FloatKind.f64.format = Ieee.double from rfl, ha]
 unfold Ieee.Datum.toInt Ieee.Datum.integral
 simp only
 have s1 : (-(k : Int)).toNat = 0 := by omega
 have s2 : (- -(k : Int)).toNat = k := by omega
 rw [s1, s2, Nat.shiftLeft_zero, signed_nat]
 by_cases h0 : n = 0
 ·subst h0
  unfold Ieee.Toward.cut
  simp
 ·have hl : k ≤ (n * 2 ^ k).log2 + 2 := by rw [log2_mul_pow h0]; omega
  unfold Ieee.Toward.cut
  simp only [Nat.min_eq_left hl, Nat.one_shiftLeft, Nat.mul_div_cancel _ (Nat.two_pow_pos k)]
  simp
end Go.Proofs.YtgnkcpkdlkabkaaGreat

/- Heads: by the program, and by the document. -/
set_option linter.unusedVariables false
set_option linter.unusedSimpArgs false
namespace Go.Ir
open Go
section
variable {E : Env} {lo : Nat} {os : List IOper} {f : Fr} {h : Heap} {hs : List Heap} {k : List Item} {rs : List IRes} {Q : Value → Heap → Prop} {d : Nat} {g : Option (Nat × Bool)} {x y : Operand}
theorem EG.convF {a : Nat} {n : Int} (hw : want g f = some true) (hx : ev f x = some (.float .f64 a)) (hn : (FloatKind.f64.decode a).toInt .zero = some n) (hr : IntKind.i64.min ≤ n ∧ n ≤ IntKind.i64.max) (z : EG E lo os hs k ((d, .int .i64 n) :: f) h rs Q) :
  EG E lo (⟨some d, .conv (.int .i64) x, g, 0⟩ :: os) hs k f h rs Q := .go hw (by
   simp only [iop, hx, iconv, hn, if_pos hr]) rfl z
end
end Go.Ir
namespace Go.Proofs.YtgnkcpkdlkabkaaGreat
open Go Go.Ir

theorem fl_zero : fl 0 = 0 := by unfold fl; decide +kernel
abbrev cx (a b : Nat) : Value := .complex .f64 (fl a) (fl b)

def headU (w : Int) : Option (Nat × Nat) := if 0 ≤ w ∧ w < 4503599627370496 ∧ w % 1048576 ≤ 64 then some ((w % 1048576).toNat, (w / 1048576).toNat) else none
def headW (t g : Nat) : Nat := t + g * 1048576
def nextG (g : Nat) : Nat := if g = 4294967295 then 0 else g + 1
def unpO : Option (Nat × Nat) → Value
 | some p => .tuple #[N p.1, N p.2, I 0]
 | none => .tuple #[I 0, I 0, I 2]
def unpV (w : Int) : Value := unpO (headU w)
def popO (l : Int) : Option (Nat × Nat) → Int × Int × Int
 | none => (0, 0, 2)
 | some p => if 0 ≤ l ∧ l ≤ 64 then (if p.1 = 0 then (0, 0, 11) else ((headW l.toNat (nextG p.2) : Nat), (p.1 : Int) - 1, 0)) else (0, 0, 1)
def pushO (s : Int) : Option (Nat × Nat) → Int × Int × Int
 | none => (0, 0, 2)
 | some p => if 0 ≤ s ∧ s ≤ 63 then ((headW (s.toNat + 1) (nextG p.2) : Nat), (p.1 : Int), 0) else (0, 0, 1)
theorem headU_some {w : Int} {t g : Nat} (h : headU w = some (t, g)) : t ≤ 64 ∧ g < 4294967296 ∧ w = (headW t g : Nat) := by
 unfold headU at h
 split at h
 ·injection h with h
  injection h with h1 h2
  unfold headW
  omega
 ·cases h

section
variable {lo : Nat} {h : Heap}
theorem hof_spec (lo : Nat) (h : Heap) (a b : Nat) : callR En lo Id.head_of [N a, N b] h = some (cx a b, h) := by
 refine call_scr rfl Fn.head_of rfl rfl ?_
 repeat' (first | (show ER _ _ _ _ _ _ _; first | refine .seq ?_ | refine .reg ?_ | refine .ret rfl ?_) | (show EG _ _ _ _ _ _ _ _ _; first | refine .mov rfl rfl ?_ | refine .fin ?_ | refine .go rfl rfl rfl ?_))
 show Ir.tidy h (.complex .f64 (FloatKind.f64.nearest (a : Int)) (FloatKind.f64.nearest (b : Int))) h = _
 rw [fl_eq, fl_eq]
 rfl
theorem i64_nat {n : Nat} (h : n < 2 ^ 53) : IntKind.i64.min ≤ (n : Int) ∧ (n : Int) ≤ IntKind.i64.max := by
 have e1 : IntKind.i64.min = -9223372036854775808 := by decide
 have e2 : IntKind.i64.max = 9223372036854775807 := by decide
 rw [e1, e2]; omega
theorem htop_spec (lo : Nat) (h : Heap) {a : Nat} (b : Nat) (ha : a < 2 ^ 53) : callR En lo Id.head_front_top [cx a b] h = some (N a, h) := by
 refine call_scr rfl Fn.head_front_top rfl rfl ?_
 repeat' (first | (show ER _ _ _ _ _ _ _; first | refine .seq ?_ | refine .reg ?_ | refine .ret rfl ?_) | (show EG _ _ _ _ _ _ _ _ _; first | refine .mov rfl rfl ?_ | refine .convF rfl rfl (fl_int ha) (i64_nat ha) ?_ | refine .fin ?_ | refine .go rfl rfl rfl ?_))
 rfl
theorem htag_spec (lo : Nat) (h : Heap) (a : Nat) {b : Nat} (hb : b < 2 ^ 53) : callR En lo Id.head_front_tag [cx a b] h = some (N b, h) := by
 refine call_scr rfl Fn.head_front_tag rfl rfl ?_
 repeat' (first | (show ER _ _ _ _ _ _ _; first | refine .seq ?_ | refine .reg ?_ | refine .ret rfl ?_) | (show EG _ _ _ _ _ _ _ _ _; first | refine .mov rfl rfl ?_ | refine .convF rfl rfl (fl_int hb) (i64_nat hb) ?_ | refine .fin ?_ | refine .go rfl rfl rfl ?_))
 rfl
theorem htf_spec (lo : Nat) (h : Heap) : callR En lo Id.head_topField [] h = some (fld 0 20, h) := callR_iff.2 ⟨60, by kernel_rfl⟩
theorem hgf_spec (lo : Nat) (h : Heap) : callR En lo Id.head_tagField [] h = some (fld 20 32, h) := callR_iff.2 ⟨60, by kernel_rfl⟩
theorem hmay_spec (lo : Nat) (h : Heap) (n : Int) : callR En lo Id.head_may [I n] h = some (.bool (decide (0 ≤ n ∧ n ≤ 64)), h) := by
 refine call_scr rfl Fn.head_may rfl rfl ?_
 by_cases h0 : 0 ≤ n
 ·by_cases h1 : n ≤ 64
  ·rw [decide_eq_true ⟨h0, h1⟩]
   repeat' (first | (show ER _ _ _ _ _ _ _; first | refine .seq ?_ | refine .reg ?_ | refine .ret rfl ?_) | (show EG _ _ _ _ _ _ _ _ _; first | refine .mov rfl rfl ?_ | (show EG _ _ (⟨_, .bin _ _ _, _, _⟩ :: _) _ _ _ _ _ _; first | refine .leqT rfl rfl rfl (by omega) ?_ | refine .geqT rfl rfl rfl (by omega) ?_) | refine .fin ?_ | refine .go rfl rfl rfl ?_))
   rfl
  ·rw [decide_eq_false (fun g => h1 g.2)]
   repeat' (first | (show ER _ _ _ _ _ _ _; first | refine .seq ?_ | refine .reg ?_ | refine .ret rfl ?_) | (show EG _ _ _ _ _ _ _ _ _; first | refine .mov rfl rfl ?_ | (show EG _ _ (⟨_, .bin _ _ _, _, _⟩ :: _) _ _ _ _ _ _; first | refine .leqF rfl rfl rfl (by omega) ?_ | refine .geqT rfl rfl rfl (by omega) ?_) | refine .fin ?_ | refine .go rfl rfl rfl ?_))
   rfl
 ·rw [decide_eq_false (fun g => h0 g.1)]
  repeat' (first | (show ER _ _ _ _ _ _ _; first | refine .seq ?_ | refine .reg ?_ | refine .ret rfl ?_) | (show EG _ _ _ _ _ _ _ _ _; first | refine .mov rfl rfl ?_ | refine .geqF rfl rfl rfl (by omega) ?_ | refine .skip rfl ?_ | refine .fin ?_ | refine .go rfl rfl rfl ?_))
  rfl
theorem hword_spec (lo : Nat) (h : Heap) {t g : Nat} (ht : t < 1048576) (hg : g < 4294967296) : callR En lo Id.head_front_word [cx t g] h = some (N (headW t g), h) := by
 have h1 : ∀ lo, callR En lo Id.field_Put [N 0, fld 0 20, N t] h = some (.tuple #[N t, I 0], h) := fun lo => by
  have := put_spec (lo := lo) (h := h) (a := 0) (b := 20) (n := 0) (k := t) (by omega) (by omega) (by omega) (by omega)
  rw [show 0 + t * 2 ^ 0 = t by omega] at this
  exact this
 have h2 : ∀ lo, callR En lo Id.field_Put [N t, fld 20 32, N g] h = some (.tuple #[N (headW t g), I 0], h) := fun lo => by
  have := put_spec (lo := lo) (h := h) (a := 20) (b := 32) (n := t) (k := g) (by omega) (by omega) (by omega) (by omega)
  rw [show t + g * 2 ^ 20 = headW t g by unfold headW; omega] at this
  exact this
 have hT := fun lo => htop_spec lo h (a := t) g (by omega)
 have hG := fun lo => htag_spec lo h t (b := g) (by omega)
 refine call_scr rfl Fn.head_front_word rfl rfl ?_
 repeat' (first | (show ER _ _ _ _ _ _ _; first | refine .seq ?_ | refine .reg ?_ | refine .ret rfl ?_) | (show EG _ _ _ _ _ _ _ _ _; first | refine .mov rfl rfl ?_ | (show EG _ _ (⟨_, .call _ _, _, _⟩ :: _) _ _ _ _ _ _; first | refine .call rfl rfl (htf_spec _ _) ?_ | refine .call rfl rfl (hgf_spec _ _) ?_ | refine .call rfl rfl (hT _) ?_ | refine .call rfl rfl (hG _) ?_ | refine .call rfl rfl (h1 _) ?_ | refine .call rfl rfl (h2 _) ?_) | refine .fin ?_ | refine .go rfl rfl rfl ?_))
 rfl
theorem get_bad {a b : Nat} {w : Int} (hw : ¬ (0 ≤ w ∧ w < 4611686018427387904)) : callR En lo Id.field_Get [I w, fld a b] h = some (I 0, h) := by
 have hW := fun lo => fword_spec lo h w
 rw [decide_eq_false hw] at hW
 refine call_scr rfl Fn.field_Get rfl rfl ?_
 repeat' (first | (show ER _ _ _ _ _ _ _; first | refine .seq ?_ | refine .reg ?_ | refine .yes rfl ?_ | refine .ret rfl ?_) | (show EG _ _ _ _ _ _ _ _ _; first | refine .mov rfl rfl ?_ | refine .call rfl rfl (hW _) ?_ | refine .fin ?_ | refine .go rfl rfl rfl ?_))
 rfl

def readO : Option (Nat × Nat) → Value
 | some p => .tuple #[cx p.1 p.2, I 0]
 | none => .tuple #[.complex .f64 0 0, I 2]
def readV (w : Int) : Value := readO (headU w)
theorem hread_nat (lo : Nat) (h : Heap) {t g n : Nat} (ht : t < 1048576) (hg : g < 4294967296) (h1 : ∀ lo, callR En lo Id.field_Get [N n, fld 0 20] h = some (N t, h)) (h2 : ∀ lo, callR En lo Id.field_Get [N n, fld 20 32] h = some (N g, h)) :
  callR En lo Id.head_read [N n] h = some (if t ≤ 64 ∧ headW t g = n then .tuple #[cx t g, I 0] else .tuple #[.complex .f64 0 0, I 2], h) := by
 have hO := fun lo => hof_spec lo h t g
 have hT := fun lo => htop_spec lo h (a := t) g (by omega)
 have hM := fun lo => hmay_spec lo h (t : Int)
 have hW := fun lo => hword_spec lo h (t := t) (g := g) ht hg
 generalize headW t g = e at *
 refine call_scr rfl Fn.head_read rfl rfl ?_
 by_cases h64 : t ≤ 64
 ·rw [decide_eq_true (by omega)] at hM
  by_cases he : e = n
  ·rw [if_pos ⟨h64, he⟩]
   repeat' (first | (show ER _ _ _ _ _ _ _; first | refine .seq ?_ | refine .reg ?_ | refine .no rfl ?_ | refine .skip ?_ | refine .ret rfl ?_) | (show EG _ _ _ _ _ _ _ _ _; first | refine .mov rfl rfl ?_ | refine .neqF rfl rfl rfl (by omega) ?_ | (show EG _ _ (⟨_, .call _ _, _, _⟩ :: _) _ _ _ _ _ _; first | refine .call rfl rfl (htf_spec _ _) ?_ | refine .call rfl rfl (hgf_spec _ _) ?_ | refine .call rfl rfl (h1 _) ?_ | refine .call rfl rfl (h2 _) ?_ | refine .call rfl rfl (hO _) ?_ | refine .call rfl rfl (hT _) ?_ | refine .call rfl rfl (hM _) ?_ | refine .call rfl rfl (hW _) ?_) | refine .fin ?_ | refine .go rfl rfl rfl ?_))
   rfl
  ·rw [if_neg (fun g => he g.2)]
   repeat' (first | (show ER _ _ _ _ _ _ _; first | refine .seq ?_ | refine .reg ?_ | refine .yes rfl ?_ | refine .ret rfl ?_) | (show EG _ _ _ _ _ _ _ _ _; first | refine .mov rfl rfl ?_ | refine .neqT rfl rfl rfl (by omega) ?_ | (show EG _ _ (⟨_, .call _ _, _, _⟩ :: _) _ _ _ _ _ _; first | refine .call rfl rfl (htf_spec _ _) ?_ | refine .call rfl rfl (hgf_spec _ _) ?_ | refine .call rfl rfl (h1 _) ?_ | refine .call rfl rfl (h2 _) ?_ | refine .call rfl rfl (hO _) ?_ | refine .call rfl rfl (hT _) ?_ | refine .call rfl rfl (hM _) ?_ | refine .call rfl rfl (hW _) ?_) | refine .fin ?_ | refine .go rfl rfl rfl ?_))
   rfl
 ·rw [decide_eq_false (by omega)] at hM
  rw [if_neg (fun g => h64 g.1)]
  repeat' (first | (show ER _ _ _ _ _ _ _; first | refine .seq ?_ | refine .reg ?_ | refine .yes rfl ?_ | refine .ret rfl ?_) | (show EG _ _ _ _ _ _ _ _ _; first | refine .mov rfl rfl ?_ | (show EG _ _ (⟨_, .call _ _, _, _⟩ :: _) _ _ _ _ _ _; first | refine .call rfl rfl (htf_spec _ _) ?_ | refine .call rfl rfl (hgf_spec _ _) ?_ | refine .call rfl rfl (h1 _) ?_ | refine .call rfl rfl (h2 _) ?_ | refine .call rfl rfl (hO _) ?_ | refine .call rfl rfl (hT _) ?_ | refine .call rfl rfl (hM _) ?_) | refine .skip rfl ?_ | refine .fin ?_ | refine .go rfl rfl rfl ?_))
  rfl
theorem hread_bad (lo : Nat) (h : Heap) {w : Int} (hw : ¬ (0 ≤ w ∧ w < 4611686018427387904)) : callR En lo Id.head_read [I w] h = some (.tuple #[.complex .f64 0 0, I 2], h) := by
 have h1 : ∀ lo, callR En lo Id.field_Get [I w, fld 0 20] h = some (N 0, h) := fun lo => get_bad hw
 have h2 : ∀ lo, callR En lo Id.field_Get [I w, fld 20 32] h = some (N 0, h) := fun lo => get_bad hw
 have hO := fun lo => hof_spec lo h 0 0
 have hT := fun lo => htop_spec lo h (a := 0) 0 (by omega)
 have hM : ∀ lo, callR En lo Id.head_may [N 0] h = some (.bool true, h) := fun lo => hmay_spec lo h ((0 : Nat) : Int)
 have hW : ∀ lo, callR En lo Id.head_front_word [cx 0 0] h = some (N 0, h) := fun lo => hword_spec lo h (t := 0) (g := 0) (by omega) (by omega)
 refine call_scr rfl Fn.head_read rfl rfl ?_
 repeat' (first | (show ER _ _ _ _ _ _ _; first | refine .seq ?_ | refine .reg ?_ | refine .yes rfl ?_ | refine .ret rfl ?_) | (show EG _ _ _ _ _ _ _ _ _; first | refine .mov rfl rfl ?_ | refine .neqT rfl rfl rfl (by omega) ?_ | (show EG _ _ (⟨_, .call _ _, _, _⟩ :: _) _ _ _ _ _ _; first | refine .call rfl rfl (htf_spec _ _) ?_ | refine .call rfl rfl (hgf_spec _ _) ?_ | refine .call rfl rfl (h1 _) ?_ | refine .call rfl rfl (h2 _) ?_ | refine .call rfl rfl (hO _) ?_ | refine .call rfl rfl (hT _) ?_ | refine .call rfl rfl (hM _) ?_ | refine .call rfl rfl (hW _) ?_) | refine .fin ?_ | refine .go rfl rfl rfl ?_))
 rfl
theorem readV_of (n t g : Nat) (e1 : n % 1048576 = t) (e2 : n / 1048576 % 4294967296 = g) (ht : t < 1048576) (hg : g < 4294967296) : readV (n : Int) = if t ≤ 64 ∧ headW t g = n then .tuple #[cx t g, I 0] else .tuple #[.complex .f64 0 0, I 2] := by
 unfold readV
 by_cases hc : t ≤ 64 ∧ headW t g = n
 ·have hc2 := hc.2
  unfold headW at hc2
  have hU : headU (n : Int) = some (t, g) := by
   unfold headU
   have a1 : ((n : Int) % 1048576).toNat = t := by omega
   have a2 : ((n : Int) / 1048576).toNat = g := by omega
   rw [if_pos (by omega), a1, a2]
  rw [hU, if_pos hc]
  rfl
 ·rw [if_neg hc]
  have hU : headU (n : Int) = none := by
   unfold headU
   unfold headW at hc
   rw [if_neg (by omega)]
  rw [hU]
  rfl
theorem hread_spec (lo : Nat) (h : Heap) (w : Int) : callR En lo Id.head_read [I w] h = some (readV w, h) := by
 by_cases hw : 0 ≤ w ∧ w < 4611686018427387904
 ·obtain ⟨n, rfl⟩ : ∃ n : Nat, w = n := ⟨w.toNat, by omega⟩
  have h1 : ∀ lo, callR En lo Id.field_Get [N n, fld 0 20] h = some (N (n / 2 ^ 0 % 2 ^ 20), h) := fun lo => get_spec (lo := lo) (h := h) (a := 0) (b := 20) (n := n) (by omega) (by omega) (by omega)
  have h2 : ∀ lo, callR En lo Id.field_Get [N n, fld 20 32] h = some (N (n / 2 ^ 20 % 2 ^ 32), h) := fun lo => get_spec (lo := lo) (h := h) (a := 20) (b := 32) (n := n) (by omega) (by omega) (by omega)
  obtain ⟨t, et⟩ : ∃ t, n / 2 ^ 0 % 2 ^ 20 = t := ⟨_, rfl⟩
  obtain ⟨g, eg⟩ : ∃ g, n / 2 ^ 20 % 2 ^ 32 = g := ⟨_, rfl⟩
  rw [et] at h1
  rw [eg] at h2
  have ht : t < 1048576 := by omega
  have hg : g < 4294967296 := by omega
  rw [hread_nat lo h ht hg h1 h2, readV_of n t g (by omega) (by omega) ht hg]
 ·rw [hread_bad lo h hw]
  unfold readV
  have hU : headU w = none := by
   unfold headU
   rw [if_neg (by omega)]
  rw [hU]
  rfl

theorem hunpack_spec (lo : Nat) (h : Heap) (w : Int) : callR En lo Id.head_Unpack [I w] h = some (unpV w, h) := by
 have hR := fun lo => hread_spec lo h w
 refine call_scr rfl Fn.head_Unpack rfl rfl ?_
 unfold readV at hR
 unfold unpV
 cases hU : headU w with
 | none =>
   rw [hU] at hR
   simp only [readO, unpO, popO, pushO] at hR ⊢
   have e : Value.complex .f64 0 0 = cx 0 0 := by
    show Value.complex .f64 0 0 = .complex .f64 (fl 0) (fl 0)
    rw [fl_zero]
   have hT := fun lo => htop_spec lo h (a := 0) 0 (by omega)
   have hG := fun lo => htag_spec lo h 0 (b := 0) (by omega)
   rw [← e] at hT hG
   repeat' (first | (show ER _ _ _ _ _ _ _; first | refine .seq ?_ | refine .reg ?_ | refine .ret rfl ?_) | (show EG _ _ _ _ _ _ _ _ _; first | refine .mov rfl rfl ?_ | (show EG _ _ (⟨_, .call _ _, _, _⟩ :: _) _ _ _ _ _ _; first | refine .call rfl rfl (hR _) ?_ | refine .call rfl rfl (hT _) ?_ | refine .call rfl rfl (hG _) ?_) | refine .fin ?_ | refine .go rfl rfl rfl ?_))
   rfl
 | some p =>
   obtain ⟨t, g⟩ := p
   obtain ⟨h1, h2, _⟩ := headU_some hU
   rw [hU] at hR
   simp only [readO, unpO, popO, pushO] at hR ⊢
   have hT := fun lo => htop_spec lo h (a := t) g (by omega)
   have hG := fun lo => htag_spec lo h t (b := g) (by omega)
   repeat' (first | (show ER _ _ _ _ _ _ _; first | refine .seq ?_ | refine .reg ?_ | refine .ret rfl ?_) | (show EG _ _ _ _ _ _ _ _ _; first | refine .mov rfl rfl ?_ | (show EG _ _ (⟨_, .call _ _, _, _⟩ :: _) _ _ _ _ _ _; first | refine .call rfl rfl (hR _) ?_ | refine .call rfl rfl (hT _) ?_ | refine .call rfl rfl (hG _) ?_) | refine .fin ?_ | refine .go rfl rfl rfl ?_))
   rfl

end
end Go.Proofs.YtgnkcpkdlkabkaaGreat

