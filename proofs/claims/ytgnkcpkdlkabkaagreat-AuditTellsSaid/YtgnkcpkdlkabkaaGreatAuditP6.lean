/- The objects of cells, by the program. -/
import Derived.Test.YtgnkcpkdlkabkaaGreatAuditP2
import Derived.Test.YtgnkcpkdlkabkaaGreatAuditP3
import Derived.Test.YtgnkcpkdlkabkaaGreatAuditP5
import Derived.Test.YtgnkcpkdlkabkaaGreatAuditP4

set_option linter.unusedVariables false
set_option linter.unusedSimpArgs false
namespace Go.Ir
open Go
theorem Out.keep {H H' : Heap} {lo n : Nat} {v : Value} {es : List (List Value)} (o : Out H lo n v es) (h : ∀ i, lo ≤ i → i < H.length → H'[i]? = H[i]?) : Out H' lo n v es := by
 refine ⟨o.1, ?_⟩
 rcases o.2 with h1 | ⟨h0, b, h1, h2, h3⟩
 ·exact .inl h1
 ·exact .inr ⟨h0, b, h1, h2, by rw [h b h2 (List.getElem?_eq_some_iff.1 h3).1]; exact h3⟩
theorem Out.push3 {H : Heap} {l0 lo n bytes : Nat} {v : Value} {es : List (List Value)} {e : List Value} (o : Out H lo n v es) (he : e.length = n) (hl0 : l0 ≤ lo) (hlo : lo ≤ H.length) (hn : es.length + 1 ≤ 2 ^ 30) (hb : bytes ≤ 2 ^ 12) :
  ∃ v' H', iappend l0 n bytes (H ++ [.row e false]) v (.slice (some ⟨H.length, 0, none⟩) 1 1) = some (v', H') ∧ Out H' lo n v' (es ++ [e]) ∧ lo ≤ H'.length ∧ ∀ i, i < lo → H'[i]? = H[i]? := by
 obtain ⟨v', H', h1, h2, h3⟩ := o.push2 (bytes := bytes) he hl0 hlo hn hb
 have hl : (H.take lo).length = lo := by rw [List.length_take]; omega
 have hx := h3 (H.take lo) (by omega) ⟨by omega, fun i hi => by rw [hl] at hi; rw [List.getElem?_take, if_pos hi]⟩
 refine ⟨v', H', h1, h2, by have := hx.1; omega, fun i hi => ?_⟩
 rw [hx.2 i (by omega), List.getElem?_take, if_pos hi]
end Go.Ir
namespace Go.Proofs.YtgnkcpkdlkabkaaGreat
open Go Go.Ir

structure Fd where
 x : Obj
 e : Ent
def Fd.cs (a : Fd) : List Value := a.x.cs ++ a.e.cs
def fcs (l : List Fd) : List (List Value) := l.map Fd.cs
theorem fcs_length (l : List Fd) : (fcs l).length = l.length := by simp [fcs]
theorem fcs_app (l : List Fd) (a : Fd) : fcs l ++ [a.cs] = fcs (l ++ [a]) := by simp [fcs]

def fdO (s n : Int) : Option Ent → Option (List Fd)
 | none => none
 | some e => if e.lv = false then some [] else if 1 ≤ n ∧ n ≤ 256 then some [⟨⟨s, e.o, roundI n, decide (0 < e.p)⟩, e⟩] else none
def fdS (ws : List Int) (c : Cfg) (s : Int) : Option (List Fd) := fdO s (getI ws (slotI c s 1)) (unpackE (getI ws (slotI c s 0)))
def fdB (l : List Fd) : Option (List Fd) → Option (List Fd)
 | none => none
 | some y => some (l ++ y)
def fdA (ws : List Int) (c : Cfg) (k : Nat) : Option (List Fd) → Option (List Fd)
 | none => none
 | some l => fdB l (fdS ws c k)
def fdL (ws : List Int) (c : Cfg) : Nat → Option (List Fd)
 | 0 => some []
 | k + 1 => fdA ws c k (fdL ws c k)
theorem fdL_none {ws : List Int} {c : Cfg} {k : Nat} (h : fdL ws c k = none) : ∀ j, fdL ws c (k + j) = none
 | 0 => h
 | j + 1 => by rw [← Nat.add_assoc, fdL, fdL_none h j]; rfl
theorem fdL_none' {ws : List Int} {c : Cfg} {k m : Nat} (h : fdL ws c k = none) (hm : k ≤ m) : fdL ws c m = none := by
 have := fdL_none h (m - k)
 rwa [show k + (m - k) = m by omega] at this
theorem fdS_len {ws : List Int} {c : Cfg} {s : Int} {y : List Fd} (h : fdS ws c s = some y) : y.length ≤ 1 := by
 unfold fdS at h
 cases hu : unpackE (getI ws (slotI c s 0)) with
 | none => rw [hu] at h; cases h
 | some e =>
   rw [hu] at h
   simp only [fdO] at h
   split at h
   ·cases h; simp
   ·split at h
    ·cases h; simp
    ·cases h
theorem fdL_len {ws : List Int} {c : Cfg} : ∀ {k : Nat} {l : List Fd}, fdL ws c k = some l → l.length ≤ k
 | 0, l, h => by cases h; simp
 | k + 1, l, h => by
   rw [fdL] at h
   cases hk : fdL ws c k with
   | none => rw [hk] at h; cases h
   | some l' =>
     rw [hk] at h
     simp only [fdA] at h
     cases hs : fdS ws c k with
     | none => rw [hs] at h; cases h
     | some y =>
       rw [hs] at h
       simp only [fdB] at h
       cases h
       have := fdL_len hk
       have := fdS_len hs
       simp; omega

def fdE (o : Option (List Fd)) : Int := if o.isSome then 0 else 2
def allP (ws : List Int) (c : Cfg) : Prop := c.may ∧ wordsI c ≤ ws.length
instance (ws : List Int) (c : Cfg) : Decidable (allP ws c) := by unfold allP; infer_instance
def allL (ws : List Int) (c : Cfg) : List Fd := if allP ws c then (fdL ws c c.S.toNat).getD [] else []
def allE (ws : List Int) (c : Cfg) : Int := if allP ws c then fdE (fdL ws c c.S.toNat) else 1

theorem IsC.keep {H H' : Heap} {c : CB} {ws bs : List Int} (hC : IsC H c ws bs) {lo : Nat} (h : ∀ i, i < lo → H'[i]? = H[i]?) (hb : c.P < lo ∧ c.W < lo ∧ c.Y < lo) : IsC H' c ws bs := by
 obtain ⟨st, hp⟩ := hC.p
 exact ⟨⟨st, (h _ hb.1).trans hp⟩, (h _ hb.2.1).trans hC.w, (h _ hb.2.2).trans hC.y, hC.pw, hC.py, hC.wy, hC.byte⟩
theorem Chg.keep {S : List Nat} {H H1 H2 : Heap} (a : Chg S H H1) {lo : Nat} (hl : H.length ≤ lo) (h2 : lo ≤ H2.length) (h : ∀ i, i < lo → H2[i]? = H1[i]?) : Chg S H H2 :=
 ⟨by omega, fun j hj hs => by rw [h j (by omega)]; exact a.same j hj hs⟩
theorem IsC.lts {H : Heap} {c : CB} {ws bs : List Int} (hC : IsC H c ws bs) : c.P < H.length ∧ c.W < H.length ∧ c.Y < H.length := by
 obtain ⟨st, hp⟩ := hC.p
 exact ⟨hlt_of hp, hlt_of hC.w, hlt_of hC.y⟩

section
variable {lo : Nat} {H : Heap} {cb : CB} {ws bs : List Int}
set_option maxHeartbeats 4000000 in
theorem all_spec (hC : IsC H cb ws bs) (hlo : lo ≤ cb.P) (c : Cfg) :
  ∃ v H', callR En lo Id.audit_all [ifC cb, .agg c.cs.toArray] H = some (.tuple #[v, I (allE ws c)], H') ∧ IsC H' cb ws bs ∧ Chg [cb.P] H H' ∧ Out H' H.length 10 v (fcs (allL ws c)) := by
 have key : ∃ u H', callR En lo Id.audit_all [ifC cb, .agg c.cs.toArray] H = some (u, H') ∧ ∃ v, u = .tuple #[v, I (allE ws c)] ∧ IsC H' cb ws bs ∧ Chg [cb.P] H H' ∧ Out H' H.length 10 v (fcs (allL ws c)) := by
  refine call_ex rfl Fn.audit_all rfl rfl ?_
  have hCW := fun lo => cwords_spec (lo := lo) hC
  have hlt := hC.lts
  by_cases hm : c.may
  ·have hO := fun lo => of_spec' lo H hm
   have hLW := fun lo => lwords_spec lo H hm
   have hm' := hm
   unfold Cfg.may at hm'
   by_cases hw : wordsI c ≤ ws.length
   ·have hp : allP ws c := ⟨hm, hw⟩
    have eL : allL ws c = (fdL ws c c.S.toNat).getD [] := if_pos hp
    have eE : allE ws c = fdE (fdL ws c c.S.toNat) := if_pos hp
    rw [eL, eE]
    clear eL eE
    repeat' (first | (show ER _ _ _ _ _ _ _; first | refine .seq ?_ | refine .reg ?_ | refine .no rfl ?_ | refine .skip ?_ | refine .block ?_) | (show EG _ _ _ _ _ _ _ _ _; first | refine .mov rfl rfl ?_ | refine .lload rfl rfl rfl rfl ?_ | refine .laddr rfl rfl rfl ?_ | (show EG _ _ (⟨_, .bin _ _ _, _, _⟩ :: _) _ _ _ _ _ _; first | refine .lssF rfl rfl rfl (by omega) ?_ | refine .neqF rfl rfl rfl (by omega) ?_) | (show EG _ _ (⟨_, .call _ _, _, _⟩ :: _) _ _ _ _ _ _; first | refine .call rfl rfl (hO _) ?_ | refine .call rfl rfl (hLW _) ?_) | refine .inv rfl rfl rfl rfl (hCW _) ?_ | refine .fin ?_ | refine .go rfl rfl rfl ?_))
    refine .loop (fun n f H1 => ∃ (i : Nat) (l : List Fd) (o : Value), (n : Int) + i = c.S ∧ fdL ws c i = some l ∧ f = [(0, ifC cb), (6, lay c.T c.S), (8, o), (33, I c.S), (34, N i)] ∧ IsC H1 cb ws bs ∧ Chg [cb.P] H H1 ∧ Out H1 H.length 10 o (fcs l)) (n := c.S.toNat)
     ⟨0, [], _, by omega, rfl, rfl, hC, .refl _ _, Out.nil _ _ _⟩ ?_
    rintro n f H1 ⟨i, l, o, hn, hl, rfl, hC1, hx, ho⟩ next
    by_cases hi : (i : Int) < c.S
    ·have hLE := fun lo => entry_spec lo H1 hm (i : Nat)
     have hll := fdL_len hl
     refine Exists.elim (load_spec hC1 hlo (slotI c i 0)) fun H2 hq => ?_
     have hL1 := hq.1
     have hC2 := hq.2.1
     have hx2 := hx.trans (.of hq.2.2)
     have ho2 := ho.keep fun j h1 h2 => hq.2.2.same j (by simp; omega)
     clear hq
     have hU := fun lo => unpack_spec lo H2 (getI ws (slotI c i 0))
     have hLS := fun lo => size_spec lo H2 hm (i : Nat)
     refine Exists.elim (load_spec hC2 hlo (slotI c i 1)) fun H3 hq => ?_
     have hL2 := hq.1
     have hC3 := hq.2.1
     have hx3 := hx2.trans (.of hq.2.2)
     have ho3 := ho2.keep fun j h1 h2 => hq.2.2.same j (by simp; omega)
     clear hq
     have hR := fun lo => round_spec lo H3 (getI ws (slotI c i 1))
     have hS : fdL ws c (i + 1) = fdB l (fdO i (getI ws (slotI c i 1)) (unpackE (getI ws (slotI c i 0)))) := by rw [fdL, hl]; rfl
     clear hC1 hC2 ho ho2 hx hx2
     generalize getI ws (slotI c i 0) = w0 at hL1 hU hS
     generalize getI ws (slotI c i 1) = w1 at hL2 hR hS
     generalize unpackE w0 = u at hU hS
     cases u with
     | none =>
       simp only [fdO, fdB] at hS
       have hN := fdL_none' hS (show i + 1 ≤ c.S.toNat by omega)
       rw [hN]
       unfold unV at hU
       unfold roundV at hR
       by_cases hr : 1 ≤ w1 ∧ w1 ≤ 256
       ·rw [if_pos hr] at hR
        repeat' (first | (show ER _ _ _ _ _ _ _; first | refine .seq ?_ | refine .reg ?_ | refine .yes rfl ?_ | refine .skip ?_ | refine .block ?_ | refine .ret rfl ?_) | (show EG _ _ _ _ _ _ _ _ _; first | refine .mov rfl rfl ?_ | refine .lload rfl rfl rfl rfl ?_ | (show EG _ _ (⟨_, .bin _ _ _, _, _⟩ :: _) _ _ _ _ _ _; first | refine .lssT rfl rfl rfl (by omega) ?_ | refine .neqT rfl rfl rfl (by omega) ?_) | (show EG _ _ (⟨_, .call _ _, _, _⟩ :: _) _ _ _ _ _ _; first | refine .call rfl rfl (hLE _) ?_ | refine .call rfl rfl (hU _) ?_ | refine .call rfl rfl (hLS _) ?_ | refine .call rfl rfl (hR _) ?_) | (show EG _ _ (⟨_, .invoke _ _ _, _, _⟩ :: _) _ _ _ _ _ _; first | refine .inv rfl rfl rfl rfl (hL1) ?_ | refine .inv rfl rfl rfl rfl (hL2) ?_) | refine .skip rfl ?_ | refine .fin ?_ | refine .go rfl rfl rfl ?_))
        exact ⟨_, rfl, hC3, hx3, Out.nil _ _ _⟩
       ·rw [if_neg hr] at hR
        repeat' (first | (show ER _ _ _ _ _ _ _; first | refine .seq ?_ | refine .reg ?_ | refine .yes rfl ?_ | refine .skip ?_ | refine .block ?_ | refine .ret rfl ?_) | (show EG _ _ _ _ _ _ _ _ _; first | refine .mov rfl rfl ?_ | refine .lload rfl rfl rfl rfl ?_ | (show EG _ _ (⟨_, .bin _ _ _, _, _⟩ :: _) _ _ _ _ _ _; first | refine .lssT rfl rfl rfl (by omega) ?_ | refine .neqT rfl rfl rfl (by omega) ?_) | (show EG _ _ (⟨_, .call _ _, _, _⟩ :: _) _ _ _ _ _ _; first | refine .call rfl rfl (hLE _) ?_ | refine .call rfl rfl (hU _) ?_ | refine .call rfl rfl (hLS _) ?_ | refine .call rfl rfl (hR _) ?_) | (show EG _ _ (⟨_, .invoke _ _ _, _, _⟩ :: _) _ _ _ _ _ _; first | refine .inv rfl rfl rfl rfl (hL1) ?_ | refine .inv rfl rfl rfl rfl (hL2) ?_) | refine .skip rfl ?_ | refine .fin ?_ | refine .go rfl rfl rfl ?_))
        exact ⟨_, rfl, hC3, hx3, Out.nil _ _ _⟩
     | some e =>
       obtain ⟨eo, eg, ep, eu, lk, lv⟩ := e
       unfold unV at hU
       simp only [Ent.cs] at hU
       unfold roundV at hR
       cases lv with
       | false =>
         simp only [fdO, if_true, fdB] at hS
         by_cases hr : 1 ≤ w1 ∧ w1 ≤ 256
         ·rw [if_pos hr] at hR
          repeat' (first | (show ER _ _ _ _ _ _ _; first | refine .seq ?_ | refine .reg ?_ | refine .yes rfl ?_ | refine .no rfl ?_ | refine .skip ?_ | refine .block ?_ | refine .endB ?_) | (show EG _ _ _ _ _ _ _ _ _; first | refine .mov rfl rfl ?_ | refine .lload rfl rfl rfl rfl ?_ | refine .laddr rfl rfl rfl ?_ | (show EG _ _ (⟨_, .bin _ _ _, _, _⟩ :: _) _ _ _ _ _ _; first | refine .lssT rfl rfl rfl (by omega) ?_ | refine .neqF rfl rfl rfl (by omega) ?_ | refine .addN (b := 1) rfl rfl rfl (by omega) ?_) | (show EG _ _ (⟨_, .call _ _, _, _⟩ :: _) _ _ _ _ _ _; first | refine .call rfl rfl (hLE _) ?_ | refine .call rfl rfl (hU _) ?_ | refine .call rfl rfl (hLS _) ?_ | refine .call rfl rfl (hR _) ?_) | (show EG _ _ (⟨_, .invoke _ _ _, _, _⟩ :: _) _ _ _ _ _ _; first | refine .inv rfl rfl rfl rfl (hL1) ?_ | refine .inv rfl rfl rfl rfl (hL2) ?_) | refine .skip rfl ?_ | refine .fin ?_ | refine .go rfl rfl rfl ?_))
          exact next (n - 1) _ _ (by omega) ⟨i + 1, l ++ [], _, by omega, hS, rfl, hC3, hx3, by rw [List.append_nil]; exact ho3⟩
         ·rw [if_neg hr] at hR
          repeat' (first | (show ER _ _ _ _ _ _ _; first | refine .seq ?_ | refine .reg ?_ | refine .yes rfl ?_ | refine .no rfl ?_ | refine .skip ?_ | refine .block ?_ | refine .endB ?_) | (show EG _ _ _ _ _ _ _ _ _; first | refine .mov rfl rfl ?_ | refine .lload rfl rfl rfl rfl ?_ | refine .laddr rfl rfl rfl ?_ | (show EG _ _ (⟨_, .bin _ _ _, _, _⟩ :: _) _ _ _ _ _ _; first | refine .lssT rfl rfl rfl (by omega) ?_ | refine .neqF rfl rfl rfl (by omega) ?_ | refine .addN (b := 1) rfl rfl rfl (by omega) ?_) | (show EG _ _ (⟨_, .call _ _, _, _⟩ :: _) _ _ _ _ _ _; first | refine .call rfl rfl (hLE _) ?_ | refine .call rfl rfl (hU _) ?_ | refine .call rfl rfl (hLS _) ?_ | refine .call rfl rfl (hR _) ?_) | (show EG _ _ (⟨_, .invoke _ _ _, _, _⟩ :: _) _ _ _ _ _ _; first | refine .inv rfl rfl rfl rfl (hL1) ?_ | refine .inv rfl rfl rfl rfl (hL2) ?_) | refine .skip rfl ?_ | refine .fin ?_ | refine .go rfl rfl rfl ?_))
          exact next (n - 1) _ _ (by omega) ⟨i + 1, l ++ [], _, by omega, hS, rfl, hC3, hx3, by rw [List.append_nil]; exact ho3⟩
       | true =>
         by_cases hr : 1 ≤ w1 ∧ w1 ≤ 256
         ·rw [if_pos hr] at hR
          simp only [fdO, if_pos hr, fdB, Bool.true_eq_false, if_false] at hS
          refine Exists.elim (ho3.push3 (l0 := lo) (bytes := 72) (e := Fd.cs ⟨⟨i, eo, roundI w1, decide (0 < ep)⟩, ⟨eo, eg, ep, eu, lk, true⟩⟩) rfl (by omega) hx3.len (by rw [fcs_length]; omega) (by omega)) fun o' hq => Exists.elim hq fun H4 hq => ?_
          have hap := hq.1
          have ho4 := hq.2.1
          have hC4 := hC3.keep hq.2.2.2 hlt
          have hx4 := hx3.keep (Nat.le_refl _) hq.2.2.1 hq.2.2.2
          clear hq
          rw [fcs_app] at ho4
          by_cases hp0 : 0 < ep
          ·rw [show Fd.cs ⟨⟨i, eo, roundI w1, decide (0 < ep)⟩, ⟨eo, eg, ep, eu, lk, true⟩⟩ = Fd.cs ⟨⟨i, eo, roundI w1, true⟩, ⟨eo, eg, ep, eu, lk, true⟩⟩ by rw [decide_eq_true hp0]] at hap
           repeat' (first | (show ER _ _ _ _ _ _ _; first | refine .seq ?_ | refine .reg ?_ | refine .yes rfl ?_ | refine .no rfl ?_ | refine .skip ?_ | refine .block ?_ | refine .endB ?_) | (show EG _ _ _ _ _ _ _ _ _; first | refine .mov rfl rfl ?_ | refine .lload rfl rfl rfl rfl ?_ | refine .laddr rfl rfl rfl ?_ | (show EG _ _ (⟨_, .bin _ _ _, _, _⟩ :: _) _ _ _ _ _ _; first | refine .lssT rfl rfl rfl (by omega) ?_ | refine .gtrT rfl rfl rfl (by omega) ?_ | refine .neqF rfl rfl rfl (by omega) ?_ | refine .addN (b := 1) rfl rfl rfl (by omega) ?_) | (show EG _ _ (⟨_, .call _ _, _, _⟩ :: _) _ _ _ _ _ _; first | refine .call rfl rfl (hLE _) ?_ | refine .call rfl rfl (hU _) ?_ | refine .call rfl rfl (hLS _) ?_ | refine .call rfl rfl (hR _) ?_) | refine .app rfl rfl rfl (hap) ?_ | (show EG _ _ (⟨_, .invoke _ _ _, _, _⟩ :: _) _ _ _ _ _ _; first | refine .inv rfl rfl rfl rfl (hL1) ?_ | refine .inv rfl rfl rfl rfl (hL2) ?_) | refine .fin ?_ | refine .go rfl rfl rfl ?_))
           exact next (n - 1) _ _ (by omega) ⟨i + 1, _, o', by omega, hS, rfl, hC4, hx4, ho4⟩
          ·rw [show Fd.cs ⟨⟨i, eo, roundI w1, decide (0 < ep)⟩, ⟨eo, eg, ep, eu, lk, true⟩⟩ = Fd.cs ⟨⟨i, eo, roundI w1, false⟩, ⟨eo, eg, ep, eu, lk, true⟩⟩ by rw [decide_eq_false hp0]] at hap
           repeat' (first | (show ER _ _ _ _ _ _ _; first | refine .seq ?_ | refine .reg ?_ | refine .yes rfl ?_ | refine .no rfl ?_ | refine .skip ?_ | refine .block ?_ | refine .endB ?_) | (show EG _ _ _ _ _ _ _ _ _; first | refine .mov rfl rfl ?_ | refine .lload rfl rfl rfl rfl ?_ | refine .laddr rfl rfl rfl ?_ | (show EG _ _ (⟨_, .bin _ _ _, _, _⟩ :: _) _ _ _ _ _ _; first | refine .lssT rfl rfl rfl (by omega) ?_ | refine .gtrF rfl rfl rfl (by omega) ?_ | refine .neqF rfl rfl rfl (by omega) ?_ | refine .addN (b := 1) rfl rfl rfl (by omega) ?_) | (show EG _ _ (⟨_, .call _ _, _, _⟩ :: _) _ _ _ _ _ _; first | refine .call rfl rfl (hLE _) ?_ | refine .call rfl rfl (hU _) ?_ | refine .call rfl rfl (hLS _) ?_ | refine .call rfl rfl (hR _) ?_) | refine .app rfl rfl rfl (hap) ?_ | (show EG _ _ (⟨_, .invoke _ _ _, _, _⟩ :: _) _ _ _ _ _ _; first | refine .inv rfl rfl rfl rfl (hL1) ?_ | refine .inv rfl rfl rfl rfl (hL2) ?_) | refine .fin ?_ | refine .go rfl rfl rfl ?_))
           exact next (n - 1) _ _ (by omega) ⟨i + 1, _, o', by omega, hS, rfl, hC4, hx4, ho4⟩
         ·rw [if_neg hr] at hR
          simp only [fdO, if_neg hr, fdB, Bool.true_eq_false, if_false] at hS
          have hN := fdL_none' hS (show i + 1 ≤ c.S.toNat by omega)
          rw [hN]
          repeat' (first | (show ER _ _ _ _ _ _ _; first | refine .seq ?_ | refine .reg ?_ | refine .yes rfl ?_ | refine .skip ?_ | refine .block ?_ | refine .ret rfl ?_) | (show EG _ _ _ _ _ _ _ _ _; first | refine .mov rfl rfl ?_ | refine .lload rfl rfl rfl rfl ?_ | refine .laddr rfl rfl rfl ?_ | (show EG _ _ (⟨_, .bin _ _ _, _, _⟩ :: _) _ _ _ _ _ _; first | refine .lssT rfl rfl rfl (by omega) ?_ | refine .neqT rfl rfl rfl (by omega) ?_ | refine .neqF rfl rfl rfl (by omega) ?_) | (show EG _ _ (⟨_, .call _ _, _, _⟩ :: _) _ _ _ _ _ _; first | refine .call rfl rfl (hLE _) ?_ | refine .call rfl rfl (hU _) ?_ | refine .call rfl rfl (hLS _) ?_ | refine .call rfl rfl (hR _) ?_) | (show EG _ _ (⟨_, .invoke _ _ _, _, _⟩ :: _) _ _ _ _ _ _; first | refine .inv rfl rfl rfl rfl (hL1) ?_ | refine .inv rfl rfl rfl rfl (hL2) ?_) | refine .fin ?_ | refine .go rfl rfl rfl ?_))
          exact ⟨_, rfl, hC3, hx3, Out.nil _ _ _⟩
    ·have hi2 : i = c.S.toNat := by omega
     rw [hi2] at hl
     rw [hl]
     repeat' (first | (show ER _ _ _ _ _ _ _; first | refine .seq ?_ | refine .reg ?_ | refine .no rfl ?_ | refine .exit rfl ?_ | refine .ret rfl ?_) | (show EG _ _ _ _ _ _ _ _ _; first | refine .mov rfl rfl ?_ | refine .lssF rfl rfl rfl (by omega) ?_ | refine .fin ?_))
     exact ⟨_, rfl, hC1, hx, ho⟩
   ·have hp : ¬ allP ws c := fun h => hw h.2
    have eL : allL ws c = [] := if_neg hp
    have eE : allE ws c = 1 := if_neg hp
    rw [eL, eE]
    repeat' (first | (show ER _ _ _ _ _ _ _; first | refine .seq ?_ | refine .reg ?_ | refine .yes rfl ?_ | refine .ret rfl ?_) | (show EG _ _ _ _ _ _ _ _ _; first | refine .mov rfl rfl ?_ | refine .lload rfl rfl rfl rfl ?_ | (show EG _ _ (⟨_, .bin _ _ _, _, _⟩ :: _) _ _ _ _ _ _; first | refine .lssT rfl rfl rfl (by omega) ?_ | refine .neqF rfl rfl rfl (by omega) ?_) | (show EG _ _ (⟨_, .call _ _, _, _⟩ :: _) _ _ _ _ _ _; first | refine .call rfl rfl (hO _) ?_ | refine .call rfl rfl (hLW _) ?_) | refine .inv rfl rfl rfl rfl (hCW _) ?_ | refine .fin ?_ | refine .go rfl rfl rfl ?_))
    exact ⟨_, rfl, hC, .refl _ _, Out.nil _ _ _⟩
  ·have hp : ¬ allP ws c := fun h => hm h.1
   have eL : allL ws c = [] := if_neg hp
   have eE : allE ws c = 1 := if_neg hp
   rw [eL, eE]
   have hO := fun lo => of_spec lo H c
   unfold layV at hO
   rw [if_neg hm, if_neg hm] at hO
   repeat' (first | (show ER _ _ _ _ _ _ _; first | refine .seq ?_ | refine .reg ?_ | refine .yes rfl ?_ | refine .ret rfl ?_) | (show EG _ _ _ _ _ _ _ _ _; first | refine .mov rfl rfl ?_ | refine .lload rfl rfl rfl rfl ?_ | refine .neqT rfl rfl rfl (by omega) ?_ | refine .call rfl rfl (hO _) ?_ | refine .skip rfl ?_ | refine .fin ?_ | refine .go rfl rfl rfl ?_))
   exact ⟨_, rfl, hC, .refl _ _, Out.nil _ _ _⟩
 obtain ⟨u, H', h1, v, rfl, h2⟩ := key
 exact ⟨v, H', h1, h2⟩
end
end Go.Proofs.YtgnkcpkdlkabkaaGreat

/- The free slots, by the program. -/
set_option linter.unusedVariables false
set_option linter.unusedSimpArgs false
namespace Go.Proofs.YtgnkcpkdlkabkaaGreat
open Go Go.Ir

def Rng (ws : List Int) : Prop := ∀ w ∈ ws, -9223372036854775808 ≤ w ∧ w < 9223372036854775808
theorem Rng.get {ws : List Int} (h : Rng ws) (i : Int) : -9223372036854775808 ≤ getI ws i ∧ getI ws i < 9223372036854775808 := by
 unfold getI
 split
 ·rename_i hi
  rw [List.getD_eq_getElem?_getD]
  cases hg : ws[i.toNat]? with
  | none => simp
  | some x => exact h x (List.mem_of_getElem? hg)
 ·omega

def freeL (ws : List Int) (c : Cfg) : Nat → Int → List Int
 | 0, _ => []
 | k + 1, t => if 1 ≤ t ∧ t ≤ c.S then (t - 1) :: freeL ws c k (getI ws (slotI c (t - 1) 2)) else []
def topO : Option (Nat × Nat) → Int
 | some p => (p.1 : Nat)
 | none => 0
def freeR (ws : List Int) (c : Cfg) : List Int := freeL ws c c.S.toNat (topO (headU (getI ws 1)))
theorem freeL_len (ws : List Int) (c : Cfg) : ∀ k t, (freeL ws c k t).length ≤ k
 | 0, _ => by simp [freeL]
 | k + 1, t => by
   rw [freeL]
   split
   ·have := freeL_len ws c k (getI ws (slotI c (t - 1) 2))
    simp; omega
   ·simp
theorem freeL_in (ws : List Int) (c : Cfg) : ∀ k t, ∀ s ∈ freeL ws c k t, 0 ≤ s ∧ s < c.S
 | 0, _, s, h => by simp [freeL] at h
 | k + 1, t, s, h => by
   rw [freeL] at h
   split at h
   ·rcases List.mem_cons.1 h with rfl | h
    ·omega
    ·exact freeL_in ws c k _ s h
   ·simp at h
def ics (l : List Int) : List (List Value) := l.map fun n => [I n]
theorem ics_app (l : List Int) (n : Int) : ics l ++ [[I n]] = ics (l ++ [n]) := by simp [ics]
theorem ics_length (l : List Int) : (ics l).length = l.length := by simp [ics]

section
variable {lo : Nat} {H : Heap} {cb : CB} {ws bs : List Int} {c : Cfg}
set_option maxHeartbeats 4000000 in
theorem free_spec (hC : IsC H cb ws bs) (hlo : lo ≤ cb.P) (hm : c.may) (hr : Rng ws) :
  ∃ v H', callR En lo Id.stack_Free [ifC cb, lay c.T c.S] H = some (v, H') ∧ IsC H' cb ws bs ∧ Chg [cb.P] H H' ∧ Out H' H.length 1 v (ics (freeR ws c)) := by
 refine call_ex rfl Fn.stack_Free rfl rfl ?_
 have hlt := hC.lts
 have hm' := hm
 unfold Cfg.may at hm'
 have hK := fun lo => stack_spec lo H hm
 refine Exists.elim (load_spec hC hlo 1) fun H0 hq => ?_
 have hL0 := hq.1
 have hC0 := hq.2.1
 have hx0 : Chg [cb.P] H H0 := .of hq.2.2
 clear hq
 have hU := fun lo => hunpack_spec lo H0 (getI ws 1)
 have hLW := fun lo => lwords_spec lo H0 hm
 have hFR : freeR ws c = freeL ws c c.S.toNat (topO (headU (getI ws 1))) := rfl
 rw [hFR]
 generalize getI ws 1 = w1 at hL0 hU ⊢
 unfold unpV at hU
 have hT : ∃ g code : Int, unpO (headU w1) = .tuple #[I (topO (headU w1)), I g, I code] ∧ -9223372036854775808 ≤ topO (headU w1) ∧ topO (headU w1) < 9223372036854775808 := by
  cases hh : headU w1 with
  | none => exact ⟨0, 2, rfl, by simp [topO], by simp [topO]⟩
  | some p => 
    obtain ⟨t, g⟩ := p
    have := headU_some hh
    exact ⟨(g : Nat), 0, rfl, by simp only [topO]; omega, by simp only [topO]; omega⟩
 refine Exists.elim hT fun g hq => Exists.elim hq fun code hq => ?_
 rw [hq.1] at hU
 have hT0 := hq.2
 clear hq hT
 generalize topO (headU w1) = t0 at hU hT0 ⊢
 have hw9 : wordsI c = 4 + c.T + 3 * c.S := rfl
 repeat' (first | (show ER _ _ _ _ _ _ _; first | refine .seq ?_ | refine .reg ?_ | refine .no rfl ?_ | refine .skip ?_ | refine .block ?_) | (show EG _ _ _ _ _ _ _ _ _; first | refine .mov rfl rfl ?_ | refine .lload rfl rfl rfl rfl ?_ | (show EG _ _ (⟨_, .call _ _, _, _⟩ :: _) _ _ _ _ _ _; first | refine .call rfl rfl (hK _) ?_ | refine .call rfl rfl (hU _) ?_ | refine .call rfl rfl (hLW _) ?_) | refine .inv rfl rfl rfl rfl (hL0) ?_ | refine .fin ?_ | refine .go rfl rfl rfl ?_))
 refine .loop (fun n f H1 => ∃ (i : Nat) (pre : List Int) (t : Int) (o : Value), (n : Int) + i = c.S ∧ pre.length = i ∧ pre ++ freeL ws c n t = freeL ws c c.S.toNat t0 ∧ (-9223372036854775808 ≤ t ∧ t < 9223372036854775808) ∧ f = [(0, ifC cb), (3, lay c.T c.S), (5, o), (6, I t), (24, I (wordsI c)), (25, N i)] ∧ IsC H1 cb ws bs ∧ Chg [cb.P] H H1 ∧ Out H1 H.length 1 o (ics pre)) (n := c.S.toNat)
  ⟨0, [], t0, _, by omega, rfl, rfl, hT0, rfl, hC0, hx0, Out.nil _ _ _⟩ ?_
 rintro n f H1 ⟨i, pre, t, o, hn, hpl, hpre, ht, rfl, hC1, hx, ho⟩ next
 have hol : ∃ base cap, o = .slice base i cap := by
  obtain ⟨base, cap, e⟩ := ho.sl.len
  rw [ics_length, hpl] at e
  exact ⟨base, cap, e⟩
 refine Exists.elim hol fun base hq => Exists.elim hq fun cap ho0 => ?_
 subst ho0
 have hk := fun lo => link_spec lo H1 hm (IntKind.i64.wrap (t - 1))
 have hEn := fun lo => entry_spec lo H1 hm (i : Nat)
 by_cases hgo : 1 ≤ t ∧ t ≤ c.S ∧ (i : Int) < c.S
 ·obtain ⟨h1, h2, h3⟩ := hgo
  have hw1 : IntKind.i64.wrap (t - 1) = t - 1 := wrap_id (by omega) (by omega)
  have hs2 : 0 ≤ slotI c (IntKind.i64.wrap (t - 1)) 2 := by rw [hw1]; unfold slotI; rw [if_pos (by omega)]; omega
  have hs0 : 0 ≤ slotI c (i : Nat) 0 := by unfold slotI; rw [if_pos (by omega)]; omega
  refine Exists.elim (ho.push3 (l0 := lo) (bytes := 8) (e := [I (IntKind.i64.wrap (t - 1))]) rfl (by omega) hx.len (by rw [ics_length]; omega) (by omega)) fun o' hq => Exists.elim hq fun H2 hq => ?_
  have hap := hq.1
  have ho2 := hq.2.1
  have hC2 := hC1.keep hq.2.2.2 hlt
  have hx2 := hx.keep (Nat.le_refl _) hq.2.2.1 hq.2.2.2
  clear hq
  rw [ics_app, hw1] at ho2
  have hk2 := fun lo => link_spec lo H2 hm (IntKind.i64.wrap (t - 1))
  refine Exists.elim (load_spec hC2 hlo (slotI c (IntKind.i64.wrap (t - 1)) 2)) fun H3 hq => ?_
  have hL3 := hq.1
  have hC3 := hq.2.1
  have hx3 := hx2.trans (.of hq.2.2)
  have ho3 := ho2.keep fun j h1 h2 => hq.2.2.same j (by simp; omega)
  clear hq
  have hrg := hr.get (slotI c (IntKind.i64.wrap (t - 1)) 2)
  have hpre2 : (pre ++ [t - 1]) ++ freeL ws c (n - 1) (getI ws (slotI c (IntKind.i64.wrap (t - 1)) 2)) = freeL ws c c.S.toNat t0 := by
   rw [← hpre, hw1]
   have e : n = (n - 1) + 1 := by omega
   rw [e, freeL, if_pos ⟨h1, h2⟩, Nat.add_sub_cancel, List.append_assoc]
   rfl
  generalize getI ws (slotI c (IntKind.i64.wrap (t - 1)) 2) = t1 at hL3 hrg hpre2
  generalize slotI c (IntKind.i64.wrap (t - 1)) 2 = q2 at hk hk2 hL3 hs2
  generalize slotI c (i : Nat) 0 = q0 at hEn hs0
  repeat' (first | (show ER _ _ _ _ _ _ _; first | refine .seq ?_ | refine .reg ?_ | refine .yes rfl ?_ | refine .no rfl ?_ | refine .skip ?_ | refine .block ?_ | refine .endB ?_) | (show EG _ _ _ _ _ _ _ _ _; first | refine .mov rfl rfl ?_ | refine .lload rfl rfl rfl rfl ?_ | (show EG _ _ (⟨_, .bin _ _ _, _, _⟩ :: _) _ _ _ _ _ _; first | refine .lssT rfl rfl rfl (by omega) ?_ | refine .lssF rfl rfl rfl (by omega) ?_ | refine .eqlF rfl rfl rfl (by omega) ?_ | refine .addN (b := 1) rfl rfl rfl (by omega) ?_) | (show EG _ _ (⟨_, .call _ _, _, _⟩ :: _) _ _ _ _ _ _; first | refine .call rfl rfl (hk _) ?_ | refine .call rfl rfl (hEn _) ?_ | refine .call rfl rfl (hk2 _) ?_) | refine .app rfl rfl rfl (hap) ?_ | refine .inv rfl rfl rfl rfl (hL3) ?_ | refine .fin ?_ | refine .go rfl rfl rfl ?_))
  exact next (n - 1) _ _ (by omega) ⟨i + 1, pre ++ [t - 1], t1, o', by omega, by simp [hpl], hpre2, hrg, rfl, hC3, hx3, ho3⟩
 ·have hend : pre = freeL ws c c.S.toNat t0 := by
   rw [← hpre]
   cases n with
   | zero => simp [freeL]
   | succ n => rw [freeL, if_neg (by omega)]; simp
  rw [← hend]
  by_cases hk1 : 1 ≤ t ∧ t ≤ c.S
  ·have hw1 : IntKind.i64.wrap (t - 1) = t - 1 := wrap_id (by omega) (by omega)
   have hs2 : 0 ≤ slotI c (IntKind.i64.wrap (t - 1)) 2 := by rw [hw1]; unfold slotI; rw [if_pos (by omega)]; omega
   have hs0 : slotI c (i : Nat) 0 = -1 := by unfold slotI; rw [if_neg (by omega)]
   rw [hs0] at hEn
   generalize slotI c (IntKind.i64.wrap (t - 1)) 2 = q2 at hk hs2
   by_cases h64 : i = 64
   ·repeat' (first | (show ER _ _ _ _ _ _ _; first | refine .seq ?_ | refine .reg ?_ | refine .yes rfl ?_ | refine .skip ?_ | refine .block ?_ | refine .exit rfl ?_ | refine .ret rfl ?_) | (show EG _ _ _ _ _ _ _ _ _; first | refine .mov rfl rfl ?_ | refine .lload rfl rfl rfl rfl ?_ | (show EG _ _ (⟨_, .bin _ _ _, _, _⟩ :: _) _ _ _ _ _ _; first | refine .lssT rfl rfl rfl (by omega) ?_ | refine .lssF rfl rfl rfl (by omega) ?_ | refine .eqlT rfl rfl rfl (by omega) ?_) | refine .call rfl rfl (hk _) ?_ | refine .skip rfl ?_ | refine .fin ?_ | refine .go rfl rfl rfl ?_))
    exact ⟨hC1, hx, ho⟩
   ·repeat' (first | (show ER _ _ _ _ _ _ _; first | refine .seq ?_ | refine .reg ?_ | refine .yes rfl ?_ | refine .skip ?_ | refine .block ?_ | refine .exit rfl ?_ | refine .ret rfl ?_) | (show EG _ _ _ _ _ _ _ _ _; first | refine .mov rfl rfl ?_ | refine .lload rfl rfl rfl rfl ?_ | (show EG _ _ (⟨_, .bin _ _ _, _, _⟩ :: _) _ _ _ _ _ _; first | refine .lssT rfl rfl rfl (by omega) ?_ | refine .lssF rfl rfl rfl (by omega) ?_ | refine .eqlF rfl rfl rfl (by omega) ?_) | (show EG _ _ (⟨_, .call _ _, _, _⟩ :: _) _ _ _ _ _ _; first | refine .call rfl rfl (hk _) ?_ | refine .call rfl rfl (hEn _) ?_) | refine .fin ?_ | refine .go rfl rfl rfl ?_))
    exact ⟨hC1, hx, ho⟩
  ·have hs2 : slotI c (IntKind.i64.wrap (t - 1)) 2 = -1 := by
    unfold slotI
    refine if_neg fun hh => ?_
    rw [IntKind.wrap_i64] at hh
    omega
   rw [hs2] at hk
   repeat' (first | (show ER _ _ _ _ _ _ _; first | refine .seq ?_ | refine .reg ?_ | refine .yes rfl ?_ | refine .skip ?_ | refine .block ?_ | refine .exit rfl ?_ | refine .ret rfl ?_) | (show EG _ _ _ _ _ _ _ _ _; first | refine .mov rfl rfl ?_ | refine .lload rfl rfl rfl rfl ?_ | refine .lssT rfl rfl rfl (by omega) ?_ | refine .call rfl rfl (hk _) ?_ | refine .skip rfl ?_ | refine .fin ?_ | refine .go rfl rfl rfl ?_))
   exact ⟨hC1, hx, ho⟩
end
end Go.Proofs.YtgnkcpkdlkabkaaGreat

/- The objects of cells, and their bytes, as the program tells them. -/
set_option linter.unusedVariables false
set_option linter.unusedSimpArgs false
namespace Go.Proofs.YtgnkcpkdlkabkaaGreat
open Go Go.Ir

theorem fcs_row {h : Heap} {v : Value} {l : List Fd} (hv : Sl h 10 v (fcs l)) {i : Nat} {a : Fd} (hi : l[i]? = some a) :
  ∃ ad cap, v = .slice (some ad) l.length cap ∧ loadV h (some 10) ⟨ad.block, ad.off + i * 10, none⟩ = some (.agg a.cs.toArray) := by
 obtain ⟨ad, cap, h1, h2, h3⟩ := hv.at (show (fcs l)[i]? = some a.cs by simp [fcs, hi])
 rw [fcs_length] at h1
 exact ⟨ad, cap, h1, h3⟩
theorem Ext.keep {H H' : Heap} (e : Ext H H') : ∀ i, i < H.length → H'[i]? = H[i]? := e.2
theorem Chg.ext {S : List Nat} {H H1 H2 : Heap} (a : Chg S H H1) (e : Ext H1 H2) : Chg S H H2 :=
 ⟨Nat.le_trans a.len e.1, fun j hj hs => (e.2 j (Nat.lt_of_lt_of_le hj a.len)).trans (a.same j hj hs)⟩
theorem IsC.ext {H H' : Heap} {c : CB} {ws bs : List Int} (hC : IsC H c ws bs) (e : Ext H H') : IsC H' c ws bs := hC.keep e.2 hC.lts

theorem fdS_mem {ws : List Int} {c : Cfg} {s : Int} {y : List Fd} (h : fdS ws c s = some y) {a : Fd} (ha : a ∈ y) :
  a.x.s = s ∧ unpackE (getI ws (slotI c s 0)) = some a.e ∧ a.e.lv = true ∧ 1 ≤ getI ws (slotI c s 1) ∧ getI ws (slotI c s 1) ≤ 256 ∧ a.x.o = a.e.o ∧ a.x.n = roundI (getI ws (slotI c s 1)) := by
 unfold fdS at h
 cases hu : unpackE (getI ws (slotI c s 0)) with
 | none => rw [hu] at h; cases h
 | some e =>
   rw [hu] at h
   simp only [fdO] at h
   split at h
   ·cases h; cases ha
   ·rename_i hl
    split at h
    ·rename_i hr
     cases h
     rw [List.mem_singleton] at ha
     subst ha
     exact ⟨rfl, rfl, by simpa using hl, hr.1, hr.2, rfl, rfl⟩
    ·cases h
theorem fdL_mem {ws : List Int} {c : Cfg} : ∀ {k : Nat} {l : List Fd}, fdL ws c k = some l → ∀ {a : Fd}, a ∈ l → ∃ s : Nat, s < k ∧ ∃ y, fdS ws c s = some y ∧ a ∈ y
 | 0, l, h, a, ha => by cases h; cases ha
 | k + 1, l, h, a, ha => by
   rw [fdL] at h
   cases hk : fdL ws c k with
   | none => rw [hk] at h; cases h
   | some l' =>
     rw [hk] at h
     simp only [fdA] at h
     cases hs : fdS ws c k with
     | none => rw [hs] at h; cases h
     | some y =>
       rw [hs] at h
       simp only [fdB] at h
       cases h
       rcases List.mem_append.1 ha with ha | ha
       ·obtain ⟨s, h1, h2⟩ := fdL_mem hk ha
        exact ⟨s, by omega, h2⟩
       ·exact ⟨k, by omega, y, hs, ha⟩
theorem allL_fd {ws : List Int} {c : Cfg} {a : Fd} (ha : a ∈ allL ws c) : allP ws c ∧ ∃ s : Nat, s < c.S.toNat ∧ ∃ y, fdS ws c s = some y ∧ a ∈ y := by
 unfold allL at ha
 split at ha
 ·rename_i hp
  cases hl : fdL ws c c.S.toNat with
  | none => rw [hl] at ha; cases ha
  | some l => rw [hl] at ha; exact ⟨hp, fdL_mem hl ha⟩
 ·cases ha
theorem allL_len (ws : List Int) (c : Cfg) : (allL ws c).length ≤ 64 := by
 unfold allL
 split
 ·rename_i hp
  have hm := hp.1
  unfold Cfg.may at hm
  cases hl : fdL ws c c.S.toNat with
  | none => simp
  | some l => have := fdL_len hl; simp; omega
 ·simp

def objL (ws : List Int) (c : Cfg) : List Obj := (allL ws c).map Fd.x

section
variable {lo : Nat} {H : Heap} {cb : CB} {ws bs : List Int}
set_option maxHeartbeats 4000000 in
theorem objects_spec (hC : IsC H cb ws bs) (hlo : lo ≤ cb.P) (c : Cfg) :
  ∃ v H', callR En lo Id.audit_Objects [ifC cb, .agg c.cs.toArray] H = some (.tuple #[v, I (allE ws c)], H') ∧ IsC H' cb ws bs ∧ Chg [cb.P] H H' ∧ Out H' H.length 4 v (css (objL ws c)) := by
 have key : ∃ u H', callR En lo Id.audit_Objects [ifC cb, .agg c.cs.toArray] H = some (u, H') ∧ ∃ v, u = .tuple #[v, I (allE ws c)] ∧ IsC H' cb ws bs ∧ Chg [cb.P] H H' ∧ Out H' H.length 4 v (css (objL ws c)) := by
  refine call_ex rfl Fn.audit_Objects rfl rfl ?_
  have hlt := hC.lts
  have hll := allL_len ws c
  refine Exists.elim (all_spec hC hlo c) fun v hq => Exists.elim hq fun H1 hq => ?_
  have hA := hq.1
  have hC1 := hq.2.1
  have hx1 := hq.2.2.1
  have hs1 := hq.2.2.2.sl
  clear hq
  unfold objL
  generalize allE ws c = ec at hA ⊢
  generalize allL ws c = l at hs1 hll ⊢
  refine Exists.elim hs1.len fun base hq => Exists.elim hq fun cap hve => ?_
  rw [fcs_length] at hve
  subst hve
  repeat' (first | (show ER _ _ _ _ _ _ _; first | refine .seq ?_ | refine .reg ?_ | refine .block ?_) | (show EG _ _ _ _ _ _ _ _ _; first | refine .mov rfl rfl ?_ | refine .lload rfl rfl rfl rfl ?_ | refine .call rfl rfl (hA) ?_ | refine .fin ?_ | refine .go rfl rfl rfl ?_))
  refine .loop (fun n f H2 => ∃ (i : Nat) (o : Value), n + i = l.length ∧ f = [(7, I ec), (8, o), (17, .slice base l.length cap), (18, N l.length), (19, N i)] ∧ Ext H1 H2 ∧ Out H2 H1.length 4 o (css ((l.take i).map Fd.x))) (n := l.length)
   ⟨0, _, rfl, rfl, .refl _, Out.nil _ _ _⟩ ?_
  rintro n f H2 ⟨i, o, hn, rfl, hx2, ho⟩ next
  by_cases hi : i < l.length
  ·have hg : l[i]? = some l[i] := List.getElem?_eq_getElem hi
   have htk : (l.take (i + 1)).map Fd.x = (l.take i).map Fd.x ++ [l[i].x] := by rw [List.take_succ_eq_append_getElem hi, List.map_append]; rfl
   refine Exists.elim (fcs_row (hs1.ext hx2) hg) fun ad hq => Exists.elim hq fun cap' hq => ?_
   have hva := hq.1
   have hld := hq.2
   clear hq
   injection hva with e1 e2 e3
   subst e1
   generalize l[i] = a at hg htk hld
   obtain ⟨⟨s, o1, n1, fx⟩, ⟨eo, eg, ep, eu, lk, lv⟩⟩ := a
   simp only [Fd.cs, Obj.cs, Ent.cs, List.cons_append, List.nil_append] at hld
   refine Exists.elim (ho.push2 (l0 := lo) (bytes := 32) (e := Obj.cs ⟨s, o1, n1, fx⟩) rfl (by have := hx1.len; omega) hx2.1 (by rw [css_length]; simp; omega) (by omega)) fun o' hq => Exists.elim hq fun H3 hq => ?_
   have hap := hq.1
   have ho3 := hq.2.1
   have hx3 := hq.2.2 H1 (Nat.le_refl _) hx2
   clear hq
   rw [css_app, ← htk] at ho3
   repeat' (first | (show ER _ _ _ _ _ _ _; first | refine .seq ?_ | refine .reg ?_ | refine .yes rfl ?_ | refine .skip ?_ | refine .block ?_ | refine .endB ?_) | (show EG _ _ _ _ _ _ _ _ _; first | refine .mov rfl rfl ?_ | refine .lload rfl rfl rfl rfl ?_ | refine .laddr rfl rfl rfl ?_ | (show EG _ _ (⟨_, .bin _ _ _, _, _⟩ :: _) _ _ _ _ _ _; first | refine .lssT rfl rfl rfl (by omega) ?_ | refine .addN (b := 1) rfl rfl rfl (by omega) ?_) | refine .load rfl rfl (hld) ?_ | refine .iaddr rfl rfl rfl (hi) ?_ | refine .app rfl rfl rfl (hap) ?_ | refine .fin ?_ | refine .go rfl rfl rfl ?_))
   exact next (n - 1) _ _ (by omega) ⟨i + 1, o', by omega, rfl, hx3, ho3⟩
  ·rw [List.take_of_length_le (by omega)] at ho
   repeat' (first | (show ER _ _ _ _ _ _ _; first | refine .seq ?_ | refine .reg ?_ | refine .no rfl ?_ | refine .exit rfl ?_ | refine .ret rfl ?_) | (show EG _ _ _ _ _ _ _ _ _; first | refine .mov rfl rfl ?_ | refine .lssF rfl rfl rfl (by omega) ?_ | refine .fin ?_))
   exact ⟨_, rfl, hC1.ext hx2, hx1.ext hx2, ho.mono' hx1.len⟩
 obtain ⟨u, H', h1, v, rfl, h2⟩ := key
 exact ⟨v, H', h1, h2⟩

def byF (bs : List Int) (k : Nat) (o : Int) : List Int := (List.range k).map fun i => getI bs (IntKind.i64.wrap (o + (i : Nat)))
def byG (bs : List Int) (slot z : Int) (a : Fd) : List Int := if a.x.s = slot then byF bs z.toNat a.x.o else []
def bytesL (ws bs : List Int) (c : Cfg) (slot : Int) : List Int := ((allL ws c).map (byG bs slot (getI ws (slotI c slot 1)))).flatten
theorem byF_succ (bs : List Int) (k : Nat) (o : Int) : byF bs (k + 1) o = byF bs k o ++ [getI bs (IntKind.i64.wrap (o + (k : Nat)))] := by
 unfold byF
 rw [List.range_succ, List.map_append]
 rfl
theorem flat_bound {α β : Type} (f : α → List β) (k : Nat) : ∀ (l : List α), (∀ a ∈ l, (f a).length ≤ k) → ((l.map f).flatten).length ≤ l.length * k
 | [], _ => by simp
 | a :: l, h => by
   have h1 := flat_bound f k l fun b hb => h b (List.mem_cons_of_mem _ hb)
   have h2 := h a (List.mem_cons_self ..)
   simp only [List.map_cons, List.flatten_cons, List.length_append, List.length_cons, Nat.add_mul, Nat.one_mul]
   omega

set_option maxHeartbeats 4000000 in
theorem bytes_spec (hC : IsC H cb ws bs) (hlo : lo ≤ cb.P) (c : Cfg) (slot : Int) :
  ∃ v H', callR En lo Id.audit_Bytes [ifC cb, .agg c.cs.toArray, I slot] H = some (v, H') ∧ IsC H' cb ws bs ∧ Chg [cb.P] H H' ∧ Out H' H.length 1 v (ics (bytesL ws bs c slot)) := by
 refine call_ex rfl Fn.audit_Bytes rfl rfl ?_
 have hlt := hC.lts
 have hll := allL_len ws c
 have hfd : ∀ a ∈ allL ws c, a.x.s = slot → c.may ∧ getI ws (slotI c slot 1) ≤ 256 := fun a ha hs => by
  obtain ⟨hp, s, h1, y, h2, h3⟩ := allL_fd ha
  have h4 := fdS_mem h2 h3
  rw [h4.1] at hs
  rw [hs] at h4
  exact ⟨hp.1, h4.2.2.2.2.1⟩
 refine Exists.elim (all_spec hC hlo c) fun v hq => Exists.elim hq fun H1 hq => ?_
 have hA := hq.1
 have hC1 := hq.2.1
 have hx1 := hq.2.2.1
 have hs1 := hq.2.2.2
 clear hq
 unfold bytesL
 generalize allE ws c = ec at hA ⊢
 generalize allL ws c = l at hs1 hll hfd ⊢
 refine Exists.elim hs1.sl.len fun base hq => Exists.elim hq fun cap hve => ?_
 rw [fcs_length] at hve
 subst hve
 have hO := fun lo => of_spec lo H1 c
 have hlV : ∃ T S : Int, (layV c).toArray = #[I T, I S] ∧ (c.may → T = c.T ∧ S = c.S) := by
  unfold layV
  by_cases hm : c.may
  ·rw [if_pos hm]; exact ⟨_, _, rfl, fun _ => ⟨rfl, rfl⟩⟩
  ·rw [if_neg hm]; exact ⟨_, _, rfl, fun h => absurd h hm⟩
 refine Exists.elim hlV fun T hq => Exists.elim hq fun S hq => ?_
 have hTS := hq.2
 rw [hq.1] at hO
 clear hq hlV
 generalize (if c.may then (0 : Int) else 1) = oc at hO
 have hb0 : ∀ (k : Nat) (l' : List Fd), (∀ a ∈ l', a ∈ l) → ((l'.map (byG bs slot (getI ws (slotI c slot 1)))).flatten).length ≤ l'.length * 256 := fun k l' hl' =>
  flat_bound _ 256 l' fun a ha => by
   unfold byG
   split
   ·rename_i hs
    have := (hfd a (hl' a ha) hs).2
    simp [byF]; omega
   ·simp
 repeat' (first | (show ER _ _ _ _ _ _ _; first | refine .seq ?_ | refine .reg ?_ | refine .block ?_) | (show EG _ _ _ _ _ _ _ _ _; first | refine .mov rfl rfl ?_ | refine .lload rfl rfl rfl rfl ?_ | (show EG _ _ (⟨_, .call _ _, _, _⟩ :: _) _ _ _ _ _ _; first | refine .call rfl rfl (hA) ?_ | refine .call rfl rfl (hO _) ?_) | refine .fin ?_ | refine .go rfl rfl rfl ?_))
 refine .loop (fun n f H2 => ∃ (i : Nat) (o : Value), n + i = l.length ∧ f = [(0, ifC cb), (2, I slot), (9, .agg #[I T, I S]), (11, o), (26, .slice base l.length cap), (27, N l.length), (28, N i)] ∧ IsC H2 cb ws bs ∧ Chg [cb.P] H1 H2 ∧ Out H2 H1.length 1 o (ics (((l.take i).map (byG bs slot (getI ws (slotI c slot 1)))).flatten))) (n := l.length)
  ⟨0, _, rfl, rfl, hC1, .refl _ _, Out.nil _ _ _⟩ ?_
 rintro n f H2 ⟨i, o, hn, rfl, hC2, hx2, ho⟩ next
 have hP1 : cb.P < H1.length ∧ cb.W < H1.length ∧ cb.Y < H1.length := hC1.lts
 by_cases hi : i < l.length
 ·have hg : l[i]? = some l[i] := List.getElem?_eq_getElem hi
  have htk : ((l.take (i + 1)).map (byG bs slot (getI ws (slotI c slot 1)))).flatten = ((l.take i).map (byG bs slot (getI ws (slotI c slot 1)))).flatten ++ byG bs slot (getI ws (slotI c slot 1)) l[i] := by
   rw [List.take_succ_eq_append_getElem hi, List.map_append, List.flatten_append]
   simp
  have hs2 : Sl H2 10 (.slice base l.length cap) (fcs l) := (hs1.keep fun j h1 h2 => hx2.same j h2 (by simp; omega)).sl
  refine Exists.elim (fcs_row hs2 hg) fun ad hq => Exists.elim hq fun cap' hq => ?_
  have hva := hq.1
  have hld := hq.2
  clear hq hs2
  injection hva with e1 e2 e3
  subst e1
  have hfa := hfd l[i] (List.getElem_mem hi)
  have hpl : ((((l.take i).map (byG bs slot (getI ws (slotI c slot 1)))).flatten)).length ≤ 16384 := by
   have := hb0 0 (l.take i) fun a ha => List.mem_of_mem_take ha
   rw [List.length_take] at this
   have h2 : min i l.length ≤ 64 := by omega
   exact Nat.le_trans this (Nat.mul_le_mul_right 256 h2)
  generalize ((l.take i).map (byG bs slot (getI ws (slotI c slot 1)))).flatten = pre at ho htk hpl
  generalize l[i] = a at hg htk hld hfa
  obtain ⟨⟨s, o1, n1, fx⟩, ⟨eo, eg, ep, eu, lk, lv⟩⟩ := a
  simp only [Fd.cs, Obj.cs, Ent.cs, List.cons_append, List.nil_append] at hld
  by_cases hs : s = slot
  ·subst hs
   have hfa := hfa rfl
   obtain ⟨rfl, rfl⟩ := hTS hfa.1
   have hLS := fun lo => size_spec lo H2 hfa.1 s
   refine Exists.elim (load_spec hC2 hlo (slotI c s 1)) fun H3 hq => ?_
   have hL := hq.1
   have hC3 := hq.2.1
   have hx3 := hx2.trans (.of hq.2.2)
   have ho3 := ho.keep fun j h1 h2 => hq.2.2.same j (by simp; omega)
   clear hq
   have hz := hfa.2
   have hby : byG bs s (getI ws (slotI c s 1)) ⟨⟨s, o1, n1, fx⟩, ⟨eo, eg, ep, eu, lk, lv⟩⟩ = byF bs (getI ws (slotI c s 1)).toNat o1 := if_pos rfl
   rw [hby] at htk
   have hnx : ∀ (H4 : Heap) (o4 : Value) f4, IsC H4 cb ws bs → Chg [cb.P] H1 H4 → Out H4 H1.length 1 o4 (ics (pre ++ byF bs (getI ws (slotI c s 1)).toNat o1)) →
     keep [0, 2, 9, 11, 26, 27, 28] f4 = [(0, ifC cb), (2, I s), (9, lay c.T c.S), (11, o4), (26, .slice (some ad) l.length cap), (27, N l.length), (28, N (i + 1))] → _ := fun H4 o4 f4 h1 h2 h3 h4 => next (n - 1) f4 H4 (by omega) ⟨i + 1, o4, by omega, h4, h1, h2, by rw [htk]; exact h3⟩
   clear next htk hby hfd hb0
   generalize getI ws (slotI c s 1) = z at hL hz hnx
   repeat' (first | (show ER _ _ _ _ _ _ _; first | refine .seq ?_ | refine .reg ?_ | refine .yes rfl ?_ | refine .no rfl ?_ | refine .skip ?_ | refine .block ?_) | (show EG _ _ _ _ _ _ _ _ _; first | refine .mov rfl rfl ?_ | refine .lload rfl rfl rfl rfl ?_ | refine .laddr rfl rfl rfl ?_ | (show EG _ _ (⟨_, .bin _ _ _, _, _⟩ :: _) _ _ _ _ _ _; first | refine .lssT rfl rfl rfl (by omega) ?_ | refine .neqF rfl rfl rfl (by omega) ?_) | refine .load rfl rfl (hld) ?_ | refine .call rfl rfl (hLS _) ?_ | refine .iaddr rfl rfl rfl (hi) ?_ | refine .inv rfl rfl rfl rfl (hL) ?_ | refine .fin ?_ | refine .go rfl rfl rfl ?_))
   refine .loop (fun m f H4 => ∃ (k : Nat) (o4 : Value), m + k = z.toNat ∧ f = [(0, ifC cb), (2, I s), (9, lay c.T c.S), (11, o4), (13, .agg #[I s, I o1, I n1, .bool fx, I eo, I eg, I ep, I eu, .bool lk, .bool lv]), (26, .slice (some ad) l.length cap), (27, N l.length), (28, N i), (44, I z), (45, N k)] ∧ IsC H4 cb ws bs ∧ Chg [cb.P] H1 H4 ∧ Out H4 H1.length 1 o4 (ics (pre ++ byF bs k o1))) (n := z.toNat)
    ⟨0, o, by omega, rfl, hC3, hx3, by simpa [byF] using ho3⟩ ?_
   rintro m f H4 ⟨k, o4, hm4, rfl, hC4, hx4, ho4⟩ next4
   by_cases hk : (k : Int) < z
   ·refine Exists.elim (byte_spec hC4 hlo (IntKind.i64.wrap (o1 + (k : Nat)))) fun H5 hq => ?_
    have hB := hq.1
    have hC5 := hq.2.1
    have hx5 := hx4.trans (.of hq.2.2)
    have ho5 := ho4.keep fun j h1 h2 => hq.2.2.same j (by simp; omega)
    clear hq
    refine Exists.elim (ho5.push3 (l0 := lo) (bytes := 8) (e := [I (getI bs (IntKind.i64.wrap (o1 + (k : Nat))))]) rfl (by omega) hx5.len (by rw [ics_length]; simp [byF]; omega) (by omega)) fun o6 hq => Exists.elim hq fun H6 hq => ?_
    have hap := hq.1
    have ho6 := hq.2.1
    have hC6 := hC5.keep hq.2.2.2 hP1
    have hx6 := hx5.keep (Nat.le_refl _) hq.2.2.1 hq.2.2.2
    clear hq
    rw [ics_app, List.append_assoc, ← byF_succ] at ho6
    repeat' (first | (show ER _ _ _ _ _ _ _; first | refine .seq ?_ | refine .reg ?_ | refine .yes rfl ?_ | refine .skip ?_ | refine .block ?_ | refine .endB ?_) | (show EG _ _ _ _ _ _ _ _ _; first | refine .mov rfl rfl ?_ | refine .lload rfl rfl rfl rfl ?_ | refine .laddr rfl rfl rfl ?_ | (show EG _ _ (⟨_, .bin _ _ _, _, _⟩ :: _) _ _ _ _ _ _; first | refine .lssT rfl rfl rfl (by omega) ?_ | refine .addN (b := 1) rfl rfl rfl (by omega) ?_) | refine .app rfl rfl rfl (hap) ?_ | refine .inv rfl rfl rfl rfl (hB) ?_ | refine .fin ?_ | refine .go rfl rfl rfl ?_))
    exact next4 (m - 1) _ _ (by omega) ⟨k + 1, o6, by omega, rfl, hC6, hx6, ho6⟩
   ·have hkz : k = z.toNat := by omega
    rw [hkz] at ho4
    repeat' (first | (show ER _ _ _ _ _ _ _; first | refine .seq ?_ | refine .reg ?_ | refine .no rfl ?_ | refine .endB ?_ | refine .exit rfl ?_) | (show EG _ _ _ _ _ _ _ _ _; first | refine .mov rfl rfl ?_ | (show EG _ _ (⟨_, .bin _ _ _, _, _⟩ :: _) _ _ _ _ _ _; first | refine .lssF rfl rfl rfl (by omega) ?_ | refine .addN (b := 1) rfl rfl rfl (by omega) ?_) | refine .fin ?_))
    exact hnx _ _ _ hC4 hx4 ho4 rfl
  ·have hby : byG bs slot (getI ws (slotI c slot 1)) ⟨⟨s, o1, n1, fx⟩, ⟨eo, eg, ep, eu, lk, lv⟩⟩ = [] := if_neg hs
   rw [hby, List.append_nil] at htk
   repeat' (first | (show ER _ _ _ _ _ _ _; first | refine .seq ?_ | refine .reg ?_ | refine .yes rfl ?_ | refine .skip ?_ | refine .block ?_ | refine .exit rfl ?_) | (show EG _ _ _ _ _ _ _ _ _; first | refine .mov rfl rfl ?_ | refine .lload rfl rfl rfl rfl ?_ | refine .laddr rfl rfl rfl ?_ | (show EG _ _ (⟨_, .bin _ _ _, _, _⟩ :: _) _ _ _ _ _ _; first | refine .lssT rfl rfl rfl (by omega) ?_ | refine .neqT rfl rfl rfl (by omega) ?_ | refine .addN (b := 1) rfl rfl rfl (by omega) ?_) | refine .load rfl rfl (hld) ?_ | refine .iaddr rfl rfl rfl (hi) ?_ | refine .fin ?_ | refine .go rfl rfl rfl ?_))
   exact next (n - 1) _ _ (by omega) ⟨i + 1, o, by omega, rfl, hC2, hx2, by rw [htk]; exact ho⟩
 ·rw [List.take_of_length_le (by omega)] at ho
  repeat' (first | (show ER _ _ _ _ _ _ _; first | refine .seq ?_ | refine .reg ?_ | refine .no rfl ?_ | refine .exit rfl ?_ | refine .ret rfl ?_) | (show EG _ _ _ _ _ _ _ _ _; first | refine .mov rfl rfl ?_ | refine .lssF rfl rfl rfl (by omega) ?_ | refine .fin ?_))
  exact ⟨hC2, hx1.trans hx2, ho.mono' hx1.len⟩
end
end Go.Proofs.YtgnkcpkdlkabkaaGreat

/- Whether cells are sound, by the program. -/
set_option linter.unusedVariables false
set_option linter.unusedSimpArgs false
namespace Go.Proofs.YtgnkcpkdlkabkaaGreat
open Go Go.Ir

theorem splice_at {cs : List Value} {k : Nat} {v : Value} (hk : k < cs.length) : splice cs k [v] = cs.set k v := by
 unfold splice
 rw [List.set_eq_take_append_cons_drop, if_pos hk, List.append_assoc]
 rfl

def strR (v : Mv) (is : Bool) (a : Fd) : Obj × Bool :=
 if a.e.lk = false then (a.x, true)
 else if is = false ∨ v.s ≠ a.x.s ∨ v.f ≠ a.x.o ∨ v.n ≠ a.x.n ∨ v.f ≤ v.t then (a.x, false)
 else (⟨a.x.s, v.t, IntKind.i64.wrap (IntKind.i64.wrap (v.f + v.n) - v.t), a.x.fx⟩, true)
def strB (l : List Obj) (r : Obj × Bool) : Option (List Obj) := if r.2 then some (l ++ [r.1]) else none
def strC (v : Mv) (is : Bool) (a : Fd) : Option (List Obj) → Option (List Obj)
 | none => none
 | some l => strB l (strR v is a)
def strL (v : Mv) (is : Bool) (l : List Fd) : Option (List Obj) := l.foldl (fun acc a => strC v is a acc) (some [])
theorem strL_none (v : Mv) (is : Bool) : ∀ l : List Fd, l.foldl (fun acc a => strC v is a acc) none = none
 | [] => rfl
 | a :: l => strL_none v is l
theorem strL_succ (v : Mv) (is : Bool) {l : List Fd} {i : Nat} (hi : i < l.length) : strL v is (l.take (i + 1)) = strC v is l[i] (strL v is (l.take i)) := by
 unfold strL
 rw [List.take_succ_eq_append_getElem hi, List.foldl_append]
 rfl
theorem strL_fail (v : Mv) (is : Bool) {l : List Fd} {i : Nat} (h : strL v is (l.take i) = none) : strL v is l = none := by
 have e : l = l.take i ++ l.drop i := (List.take_append_drop ..).symm
 rw [e]
 unfold strL at h ⊢
 rw [List.foldl_append, h, strL_none]
theorem strL_len (v : Mv) (is : Bool) {l : List Fd} : ∀ {i : Nat}, i ≤ l.length → ∀ {r : List Obj}, strL v is (l.take i) = some r → r.length = i
 | 0, _, r, h => by
   have : some ([] : List Obj) = some r := h
   injection this with this
   subst this; rfl
 | i + 1, hi, r, h => by
   rw [strL_succ v is (by omega)] at h
   cases hk : strL v is (l.take i) with
   | none => rw [hk] at h; cases h
   | some r' =>
     have := strL_len v is (by omega) hk
     rw [hk] at h
     simp only [strC, strB] at h
     split at h
     ·injection h with h
      subst h
      simp [this]
     ·cases h

def lkN (l : List Fd) : Nat := (l.filter fun a => a.e.lk).length
theorem lkN_succ {l : List Fd} {i : Nat} (hi : i < l.length) : lkN (l.take (i + 1)) = lkN (l.take i) + (if l[i].e.lk then 1 else 0) := by
 unfold lkN
 rw [List.take_succ_eq_append_getElem hi, List.filter_append, List.length_append]
 congr 1
 cases h : l[i].e.lk <;> simp [h]
theorem lkN_le (l : List Fd) : lkN l ≤ l.length := List.length_filter_le ..

def spareP (sl fr : List Int) : Prop := ∀ (j : Nat) (s : Int), fr[j]? = some s → s ∉ sl ∧ ∀ k, k < j → fr[k]? ≠ some s

structure Sta where
 hv : Value
 v : Mv
 is : Bool
def staV (m : Value) (c : Cfg) (t : Sta) : Value := .agg #[m, I c.A, I c.S, I c.T, t.hv, I t.v.s, I t.v.f, I t.v.t, I t.v.n, .bool t.is]

section
variable {lo : Nat} {H : Heap}
set_option maxHeartbeats 4000000 in
theorem stretched_spec (lo : Nat) (H : Heap) (m : Value) (c : Cfg) (t : Sta) (a : Fd) :
  callR En lo Id.audit_State_stretched [staV m c t, .agg a.cs.toArray] H = some (.tuple #[.agg (strR t.v t.is a).1.cs.toArray, .bool (strR t.v t.is a).2], H) := by
 obtain ⟨⟨s, o1, n1, fx⟩, ⟨eo, eg, ep, eu, lk, lv⟩⟩ := a
 obtain ⟨hv, ⟨vs, vf, vt, vn⟩, is⟩ := t
 simp only [Fd.cs, Obj.cs, Ent.cs, List.cons_append, List.nil_append, staV]
 cases lk with
 | false =>
   refine call_scr rfl Fn.audit_State_stretched rfl rfl ?_
   repeat' (first | (show ER _ _ _ _ _ _ _; first | refine .seq ?_ | refine .reg ?_ | refine .yes rfl ?_ | refine .ret rfl ?_) | (show EG _ _ _ _ _ _ _ _ _; first | refine .mov rfl rfl ?_ | refine .lload rfl rfl rfl rfl ?_ | refine .laddr rfl rfl rfl ?_ | refine .fin ?_ | refine .go rfl rfl rfl ?_))
   rfl
 | true =>
   unfold strR
   simp only [Bool.true_eq_false, if_false]
   cases is with
   | false =>
     rw [if_pos (.inl rfl)]
     refine call_scr rfl Fn.audit_State_stretched rfl rfl ?_
     repeat' (first | (show ER _ _ _ _ _ _ _; first | refine .seq ?_ | refine .reg ?_ | refine .yes rfl ?_ | refine .no rfl ?_ | refine .skip ?_ | refine .ret rfl ?_) | (show EG _ _ _ _ _ _ _ _ _; first | refine .mov rfl rfl ?_ | refine .lload rfl rfl rfl rfl ?_ | refine .laddr rfl rfl rfl ?_ | refine .skip rfl ?_ | refine .fin ?_ | refine .go rfl rfl rfl ?_))
     rfl
   | true =>
     by_cases h1 : vs = s
     ·by_cases h2 : vf = o1
      ·by_cases h3 : vn = n1
       ·by_cases h4 : vf ≤ vt
        ·rw [if_pos (by simp [h4])]
         refine call_scr rfl Fn.audit_State_stretched rfl rfl ?_
         repeat' (first | (show ER _ _ _ _ _ _ _; first | refine .seq ?_ | refine .reg ?_ | refine .yes rfl ?_ | refine .no rfl ?_ | refine .skip ?_ | refine .ret rfl ?_) | (show EG _ _ _ _ _ _ _ _ _; first | refine .mov rfl rfl ?_ | refine .lload rfl rfl rfl rfl ?_ | refine .laddr rfl rfl rfl ?_ | (show EG _ _ (⟨_, .bin _ _ _, _, _⟩ :: _) _ _ _ _ _ _; first | refine .geqT rfl rfl rfl (by omega) ?_ | refine .neqF rfl rfl rfl (by omega) ?_) | refine .fin ?_ | refine .go rfl rfl rfl ?_))
         rfl
        ·rw [if_neg (by simp [h1, h2, h3, h4]; omega)]
         refine call_scr rfl Fn.audit_State_stretched rfl rfl ?_
         repeat' (first | (show ER _ _ _ _ _ _ _; first | refine .seq ?_ | refine .reg ?_ | refine .no rfl ?_ | refine .skip ?_ | refine .ret rfl ?_) | (show EG _ _ _ _ _ _ _ _ _; first | refine .mov rfl rfl ?_ | refine .lload rfl rfl rfl rfl ?_ | refine .laddr rfl rfl rfl ?_ | (show EG _ _ (⟨_, .bin _ _ _, _, _⟩ :: _) _ _ _ _ _ _; first | refine .geqF rfl rfl rfl (by omega) ?_ | refine .neqF rfl rfl rfl (by omega) ?_) | refine .fin ?_ | refine .go rfl rfl rfl ?_))
         rfl
       ·rw [if_pos (by simp [h3])]
        refine call_scr rfl Fn.audit_State_stretched rfl rfl ?_
        repeat' (first | (show ER _ _ _ _ _ _ _; first | refine .seq ?_ | refine .reg ?_ | refine .yes rfl ?_ | refine .no rfl ?_ | refine .skip ?_ | refine .ret rfl ?_) | (show EG _ _ _ _ _ _ _ _ _; first | refine .mov rfl rfl ?_ | refine .lload rfl rfl rfl rfl ?_ | refine .laddr rfl rfl rfl ?_ | (show EG _ _ (⟨_, .bin _ _ _, _, _⟩ :: _) _ _ _ _ _ _; first | refine .neqT rfl rfl rfl (by omega) ?_ | refine .neqF rfl rfl rfl (by omega) ?_) | refine .skip rfl ?_ | refine .fin ?_ | refine .go rfl rfl rfl ?_))
        rfl
      ·rw [if_pos (by simp [h2])]
       refine call_scr rfl Fn.audit_State_stretched rfl rfl ?_
       repeat' (first | (show ER _ _ _ _ _ _ _; first | refine .seq ?_ | refine .reg ?_ | refine .yes rfl ?_ | refine .no rfl ?_ | refine .skip ?_ | refine .ret rfl ?_) | (show EG _ _ _ _ _ _ _ _ _; first | refine .mov rfl rfl ?_ | refine .lload rfl rfl rfl rfl ?_ | refine .laddr rfl rfl rfl ?_ | (show EG _ _ (⟨_, .bin _ _ _, _, _⟩ :: _) _ _ _ _ _ _; first | refine .neqT rfl rfl rfl (by omega) ?_ | refine .neqF rfl rfl rfl (by omega) ?_) | refine .skip rfl ?_ | refine .fin ?_ | refine .go rfl rfl rfl ?_))
       rfl
     ·rw [if_pos (by simp [h1])]
      refine call_scr rfl Fn.audit_State_stretched rfl rfl ?_
      repeat' (first | (show ER _ _ _ _ _ _ _; first | refine .seq ?_ | refine .reg ?_ | refine .yes rfl ?_ | refine .no rfl ?_ | refine .skip ?_ | refine .ret rfl ?_) | (show EG _ _ _ _ _ _ _ _ _; first | refine .mov rfl rfl ?_ | refine .lload rfl rfl rfl rfl ?_ | refine .laddr rfl rfl rfl ?_ | refine .neqT rfl rfl rfl (by omega) ?_ | refine .skip rfl ?_ | refine .fin ?_ | refine .go rfl rfl rfl ?_))
      rfl

def usedB (u : List Int) : List Bool := (List.range 64).map fun (j : Nat) => decide ((j : Int) ∈ u)
def usedR (u : List Int) : List Value := (usedB u).map .bool
theorem usedR_len (u : List Int) : (usedR u).length = 64 := by simp [usedR, usedB]
theorem usedR_at (u : List Int) {s : Nat} (hs : s < 64) : (usedR u)[s]? = some (.bool (decide ((s : Int) ∈ u))) := by simp [usedR, usedB, hs]
theorem usedR_set (u : List Int) {s : Nat} (hs : s < 64) : splice (usedR u) s [.bool true] = usedR ((s : Int) :: u) := by
 rw [splice_at (by rw [usedR_len]; exact hs)]
 refine List.ext_getElem? fun i => ?_
 by_cases hi : i < 64
 ·rw [usedR_at _ hi, List.getElem?_set, usedR_len]
  by_cases he : s = i
  ·subst he
   rw [if_pos rfl, if_pos hs]
   simp
  ·rw [if_neg he, usedR_at _ hi]
   have : ((i : Int) ∈ (s : Int) :: u) ↔ ((i : Int) ∈ u) := by rw [List.mem_cons]; exact ⟨fun h => h.resolve_left (by omega), .inr⟩
   simp only [this]
 ·rw [List.getElem?_eq_none (by rw [List.length_set, usedR_len]; omega), List.getElem?_eq_none (by rw [usedR_len]; omega)]

theorem set_end (h : Heap) (k k' : Blk) : (h ++ [k]).set h.length k' = h ++ [k'] := by rw [List.set_append_right _ _ (Nat.le_refl _), Nat.sub_self]; rfl
theorem ics_row {h : Heap} {v : Value} {l : List Int} (hv : Sl h 1 v (ics l)) {i : Nat} {n : Int} (hi : l[i]? = some n) :
  ∃ ad cap, v = .slice (some ad) l.length cap ∧ loadV h none ⟨ad.block, ad.off + i * 1, none⟩ = some (I n) := by
 obtain ⟨ad, cap, h1, h2, h3⟩ := hv.at (show (ics l)[i]? = some [I n] by simp [ics, hi])
 rw [ics_length] at h1
 exact ⟨ad, cap, h1, h2 0 _ rfl⟩

variable {cb : CB} {ws bs : List Int} {c : Cfg}
set_option maxHeartbeats 4000000 in
theorem spare_spec (hC : IsC H cb ws bs) (hlo : lo ≤ cb.P) (hm : c.may) (hr : Rng ws) (t : Sta) {v : Value} {l : List Fd} (hs : Sl H 10 v (fcs l)) (hll : l.length ≤ 64) (hsl : ∀ a ∈ l, 0 ≤ a.x.s ∧ a.x.s < 64) :
  ∃ b H', callR En lo Id.audit_State_spare [staV (ifC cb) c t, v] H = some (.bool b, H') ∧ (b = true ↔ spareP (l.map (·.x.s)) (freeR ws c)) ∧ IsC H' cb ws bs ∧ Chg [cb.P] H H' := by
 have key : ∃ u H', callR En lo Id.audit_State_spare [staV (ifC cb) c t, v] H = some (u, H') ∧ ∃ b, u = .bool b ∧ (b = true ↔ spareP (l.map (·.x.s)) (freeR ws c)) ∧ IsC H' cb ws bs ∧ Chg [cb.P] H H' := by
  refine call_ex rfl Fn.audit_State_spare rfl rfl ?_
  have hlt := hC.lts
  have hO := fun lo => of_spec' lo H hm
  have hm' := hm
  unfold Cfg.may at hm'
  refine Exists.elim hs.len fun base hq => Exists.elim hq fun cap hve => ?_
  rw [fcs_length] at hve
  subst hve
  have hst : staV (ifC cb) c t = .agg #[ifC cb, I c.A, I c.S, I c.T, t.hv, I t.v.s, I t.v.f, I t.v.t, I t.v.n, .bool t.is] := rfl
  rw [hst]
  generalize t.hv = thv
  repeat' (first | (show ER _ _ _ _ _ _ _; first | refine .seq ?_ | refine .reg ?_ | refine .block ?_) | (show EG _ _ _ _ _ _ _ _ _; first | refine .mov rfl rfl ?_ | refine .lload rfl rfl rfl rfl ?_ | refine .laddr rfl rfl rfl ?_ | refine .call rfl rfl (hO _) ?_ | refine .fin ?_ | refine .go rfl rfl rfl ?_))
  refine .loop (fun n f H1 => ∃ (i : Nat) (u : List Int), n + i = l.length ∧ f = [(2, .agg #[ifC cb, I c.A, I c.S, I c.T, thv, I t.v.s, I t.v.f, I t.v.t, I t.v.n, .bool t.is]), (5, lay c.T c.S), (7, .pointer (some ⟨H.length, 0, none⟩)), (18, .slice base l.length cap), (19, N l.length), (20, N i)] ∧ (∀ s, s ∈ u ↔ s ∈ (l.take i).map (·.x.s)) ∧ H1 = H ++ [.row (usedR u) false]) (n := l.length)
   ⟨0, [], rfl, rfl, by simp, rfl⟩ ?_
  rintro n f H1 ⟨i, u, hn, rfl, hu, rfl⟩ next
  have hx1 : Ext H (H ++ [.row (usedR u) false]) := (Ext.refl H).app _
  have hb7 : (H ++ [.row (usedR u) false])[H.length]? = some (.row (usedR u) false) := List.getElem?_concat_length
  by_cases hi : i < l.length
  ·have hg : l[i]? = some l[i] := List.getElem?_eq_getElem hi
   have htk : (l.take (i + 1)).map (·.x.s) = (l.take i).map (·.x.s) ++ [l[i].x.s] := by rw [List.take_succ_eq_append_getElem hi, List.map_append]; rfl
   have hsa := hsl l[i] (List.getElem_mem hi)
   refine Exists.elim (fcs_row (hs.ext hx1) hg) fun ad hq => Exists.elim hq fun cap' hq => ?_
   have hva := hq.1
   have hld := hq.2
   clear hq
   injection hva with e1 e2 e3
   subst e1
   generalize l[i] = a at hg htk hld hsa
   obtain ⟨⟨s, o1, n1, fx⟩, ⟨eo, eg, ep, eu, lk, lv⟩⟩ := a
   refine Exists.elim (show ∃ k : Nat, s = k ∧ k < 64 from ⟨s.toNat, by have := hsa.1; simp only at this; omega, by have := hsa; simp only at this; omega⟩) fun sn hq => ?_
   have hs64 := hq.2
   have hsn := hq.1
   clear hq
   subst hsn
   simp only [Fd.cs, Obj.cs, Ent.cs, List.cons_append, List.nil_append] at hld
   have hst : stN lo (H ++ [.row (usedR u) false]) ⟨H.length, 0 + sn * 1, none⟩ (vcells (.bool true)) = some (H ++ [.row (usedR ((sn : Int) :: u)) false]) := by
    exact (st_row (w := usedR ((sn : Int) :: u)) hb7 (by omega) (by rw [usedR_len]; exact (by omega : 0 + sn * 1 + 1 ≤ 64)) (by rw [Nat.zero_add, Nat.mul_one]; exact usedR_set u hs64)).trans (by rw [set_end])
   repeat' (first | (show ER _ _ _ _ _ _ _; first | refine .seq ?_ | refine .reg ?_ | refine .yes rfl ?_ | refine .skip ?_ | refine .block ?_ | refine .endB ?_) | (show EG _ _ _ _ _ _ _ _ _; first | refine .mov rfl rfl ?_ | refine .lload rfl rfl rfl rfl ?_ | refine .laddr rfl rfl rfl ?_ | (show EG _ _ (⟨_, .bin _ _ _, _, _⟩ :: _) _ _ _ _ _ _; first | refine .lssT rfl rfl rfl (by omega) ?_ | refine .addN (b := 1) rfl rfl rfl (by omega) ?_) | refine .load rfl rfl (hld) ?_ | (show EG _ _ (⟨_, .iaddr _ _ _ _, _, _⟩ :: _) _ _ _ _ _ _; first | refine .iaddr rfl rfl rfl (hi) ?_ | refine .iaddrA rfl rfl rfl (hs64) ?_) | refine .store rfl rfl rfl rfl rfl hst ?_ | refine .fin ?_ | refine .go rfl rfl rfl ?_))
   refine next (n - 1) _ _ (by omega) ⟨i + 1, (sn : Int) :: u, by omega, rfl, fun s => ?_, rfl⟩
   rw [htk, List.mem_cons, List.mem_append, List.mem_singleton, hu]
   exact Or.comm
  ·rw [List.take_of_length_le (by omega)] at hu
   have hC1 := hC.ext hx1
   have hx01 : Chg [cb.P] H (H ++ [.row (usedR u) false]) := (Chg.refl _ _).ext hx1
   refine Exists.elim (free_spec (lo := lo) hC1 hlo hm hr) fun v2 hq => Exists.elim hq fun H2 hq => ?_
   have hF := hq.1
   have hC2 := hq.2.1
   have hx2 := hx01.trans hq.2.2.1
   have hb2 : H2[H.length]? = some (.row (usedR u) false) := hq.2.2.1.get hb7 (by simp; omega)
   have ho2 := hq.2.2.2
   clear hq
   have hfi := freeL_in ws c c.S.toNat (topO (headU (getI ws 1)))
   have hfr : freeL ws c c.S.toNat (topO (headU (getI ws 1))) = freeR ws c := rfl
   have hfl := freeL_len ws c c.S.toNat (topO (headU (getI ws 1)))
   rw [hfr] at hfi hfl
   generalize freeR ws c = fr at ho2 hfi hfl ⊢
   refine Exists.elim ho2.sl.len fun base2 hq => Exists.elim hq fun cap2 hve => ?_
   rw [ics_length] at hve
   subst hve
   repeat' (first | (show ER _ _ _ _ _ _ _; first | refine .seq ?_ | refine .reg ?_ | refine .no rfl ?_ | refine .block ?_ | refine .exit rfl ?_) | (show EG _ _ _ _ _ _ _ _ _; first | refine .mov rfl rfl ?_ | refine .lload rfl rfl rfl rfl ?_ | refine .laddr rfl rfl rfl ?_ | refine .lssF rfl rfl rfl (by omega) ?_ | refine .call rfl rfl (hF) ?_ | refine .fin ?_ | refine .go rfl rfl rfl ?_))
   refine .loop (fun n f H3 => ∃ (i : Nat) (u2 : List Int), n + i = fr.length ∧ f = [(7, .pointer (some ⟨H.length, 0, none⟩)), (32, .slice base2 fr.length cap2), (33, N fr.length), (34, N i)] ∧ (∀ s, s ∈ u2 ↔ (s ∈ u ∨ s ∈ fr.take i)) ∧ H3[H.length]? = some (.row (usedR u2) false) ∧ Only [H.length] H2 H3 ∧ (∀ (j : Nat) (s : Int), j < i → fr[j]? = some s → s ∉ l.map (·.x.s) ∧ ∀ k, k < j → fr[k]? ≠ some s)) (n := fr.length)
    ⟨0, u, rfl, rfl, by simp, hb2, .refl _ _, fun j s hj => by omega⟩ ?_
   rintro n f H3 ⟨i, u2, hn2, rfl, hu2, hb3, hx3, hgood⟩ next2
   have hC3 : IsC H3 cb ws bs := hC2.chg (.of hx3) (by simp; omega)
   have hx03 : Chg [cb.P] H H3 := ⟨by rw [hx3.len]; exact hx2.len, fun j hj hs => by rw [hx3.same j (by simp; omega)]; exact hx2.same j hj hs⟩
   by_cases hi2 : i < fr.length
   ·have hg : fr[i]? = some fr[i] := List.getElem?_eq_getElem hi2
    have htk : fr.take (i + 1) = fr.take i ++ [fr[i]] := List.take_succ_eq_append_getElem hi2
    have hsa := hfi fr[i] (List.getElem_mem hi2)
    have ho3 := ho2.keep fun j h1 h2 => hx3.same j (by rw [List.length_append] at h1; simp at h1 ⊢; omega)
    refine Exists.elim (ics_row ho3.sl hg) fun ad hq => Exists.elim hq fun cap' hq => ?_
    have hva := hq.1
    have hld := hq.2
    clear hq
    injection hva with e1 e2 e3
    subst e1
    generalize fr[i] = s at hg htk hld hsa
    refine Exists.elim (show ∃ k : Nat, s = k ∧ k < 64 from ⟨s.toNat, by omega, by omega⟩) fun sn hq => ?_
    have hs64 := hq.2
    have hsn := hq.1
    clear hq
    subst hsn
    have lb : loadV H3 none ⟨H.length, 0 + sn * 1, none⟩ = some (.bool (decide ((sn : Int) ∈ u2))) := ld_row hb3 (by rw [Nat.zero_add, Nat.mul_one]; exact usedR_at u2 hs64)
    by_cases hmem : (sn : Int) ∈ u2
    ·rw [decide_eq_true hmem] at lb
     have hno : ¬ spareP (l.map (·.x.s)) fr := fun hp => by
      have hp := hp i _ hg
      rcases (hu2 _).1 hmem with h1 | h1
      ·exact hp.1 ((hu _).1 h1)
      ·obtain ⟨k, hk, hk2⟩ := List.mem_iff_getElem.1 h1
       rw [List.length_take] at hk
       refine hp.2 k (by omega) ?_
       rw [List.getElem_take] at hk2
       rw [← hk2]
       exact List.getElem?_eq_getElem _
     repeat' (first | (show ER _ _ _ _ _ _ _; first | refine .seq ?_ | refine .reg ?_ | refine .yes rfl ?_ | refine .skip ?_ | refine .block ?_ | refine .ret rfl ?_) | (show EG _ _ _ _ _ _ _ _ _; first | refine .mov rfl rfl ?_ | refine .lssT rfl rfl rfl (by omega) ?_ | (show EG _ _ (⟨_, .load _ _, _, _⟩ :: _) _ _ _ _ _ _; first | refine .load rfl rfl (hld) ?_ | refine .load rfl rfl (lb) ?_) | (show EG _ _ (⟨_, .iaddr _ _ _ _, _, _⟩ :: _) _ _ _ _ _ _; first | refine .iaddr rfl rfl rfl (hi2) ?_ | refine .iaddrA rfl rfl rfl (hs64) ?_) | refine .fin ?_))
     exact ⟨_, rfl, ⟨fun h => (by cases h), fun h => absurd h hno⟩, hC3, hx03⟩
    ·rw [decide_eq_false hmem] at lb
     have hst : stN lo H3 ⟨H.length, 0 + sn * 1, none⟩ (vcells (.bool true)) = some (H3.set H.length (.row (usedR ((sn : Int) :: u2)) false)) :=
      st_row hb3 (by omega) (by rw [usedR_len]; show 0 + sn * 1 + 1 ≤ 64; omega) (by rw [Nat.zero_add, Nat.mul_one]; exact usedR_set u2 hs64)
     repeat' (first | (show ER _ _ _ _ _ _ _; first | refine .seq ?_ | refine .reg ?_ | refine .yes rfl ?_ | refine .no rfl ?_ | refine .skip ?_ | refine .block ?_ | refine .endB ?_) | (show EG _ _ _ _ _ _ _ _ _; first | refine .mov rfl rfl ?_ | (show EG _ _ (⟨_, .bin _ _ _, _, _⟩ :: _) _ _ _ _ _ _; first | refine .lssT rfl rfl rfl (by omega) ?_ | refine .addN (b := 1) rfl rfl rfl (by omega) ?_) | (show EG _ _ (⟨_, .load _ _, _, _⟩ :: _) _ _ _ _ _ _; first | refine .load rfl rfl (hld) ?_ | refine .load rfl rfl (lb) ?_) | (show EG _ _ (⟨_, .iaddr _ _ _ _, _, _⟩ :: _) _ _ _ _ _ _; first | refine .iaddr rfl rfl rfl (hi2) ?_ | refine .iaddrA rfl rfl rfl (hs64) ?_) | refine .store rfl rfl rfl rfl rfl hst ?_ | refine .fin ?_))
     refine next2 (n - 1) _ _ (by omega) ⟨i + 1, (sn : Int) :: u2, by omega, rfl, fun s => ?_, hs_same (hlt_of hb3), hx3.set (by simp), fun j s hj hjs => ?_⟩
     ·rw [htk, List.mem_cons, List.mem_append, List.mem_singleton, hu2]
      constructor
      ·rintro (h | h | h)
       ·exact .inr (.inr h)
       ·exact .inl h
       ·exact .inr (.inl h)
      ·rintro (h | h | h)
       ·exact .inr (.inl h)
       ·exact .inr (.inr h)
       ·exact .inl h
     ·by_cases hji : j < i
      ·exact hgood j s hji hjs
      ·have : j = i := by omega
       subst this
       rw [hg] at hjs
       injection hjs with hjs
       subst hjs
       refine ⟨fun h => hmem ((hu2 _).2 (.inl ((hu _).2 h))), fun k hk he => hmem ((hu2 _).2 (.inr ?_))⟩
       have : (fr.take j)[k]? = some (sn : Int) := by rw [List.getElem?_take, if_pos hk]; exact he
       exact List.mem_of_getElem? this
   ·have hyes : spareP (l.map (·.x.s)) fr := fun j s hj => hgood j s (by have := (List.getElem?_eq_some_iff.1 hj).1; omega) hj
    repeat' (first | (show ER _ _ _ _ _ _ _; first | refine .seq ?_ | refine .reg ?_ | refine .no rfl ?_ | refine .exit rfl ?_ | refine .ret rfl ?_) | (show EG _ _ _ _ _ _ _ _ _; first | refine .mov rfl rfl ?_ | refine .lssF rfl rfl rfl (by omega) ?_ | refine .fin ?_))
    exact ⟨_, rfl, ⟨fun _ => hyes, fun _ => rfl⟩, hC3, hx03⟩
 obtain ⟨u, H', h1, b, rfl, h2⟩ := key
 exact ⟨b, H', h1, h2⟩

open Classical in
noncomputable def chkI (ws : List Int) (c : Cfg) (v : Mv) (is : Bool) (hl : List Obj) : Int :=
 if allE ws c ≠ 0 then allE ws c
 else match strL v is (allL ws c) with
  | none => 2
  | some r => if 0 ≤ getI ws 0 ∧ getI ws 0 ≤ c.A ∧ ¬ (is = true ∧ lkN (allL ws c) = 0) ∧ okN (getI ws 0) (r ++ hl) = 0 ∧ spareP ((allL ws c).map (·.x.s)) (freeR ws c) then 0 else 2
theorem chkI_bad {ws : List Int} {c : Cfg} {v : Mv} {is : Bool} {hl : List Obj} (h : allE ws c ≠ 0) : chkI ws c v is hl = allE ws c := by unfold chkI; rw [if_pos h]
theorem chkI_none {ws : List Int} {c : Cfg} {v : Mv} {is : Bool} {hl : List Obj} (h : allE ws c = 0) (hs : strL v is (allL ws c) = none) : chkI ws c v is hl = 2 := by unfold chkI; rw [if_neg (by simp [h]), hs]
theorem chkI_yes {ws : List Int} {c : Cfg} {v : Mv} {is : Bool} {hl r : List Obj} (h : allE ws c = 0) (hs : strL v is (allL ws c) = some r)
  (hh : 0 ≤ getI ws 0 ∧ getI ws 0 ≤ c.A ∧ ¬ (is = true ∧ lkN (allL ws c) = 0) ∧ okN (getI ws 0) (r ++ hl) = 0 ∧ spareP ((allL ws c).map (·.x.s)) (freeR ws c)) : chkI ws c v is hl = 0 := by
 unfold chkI; rw [if_neg (by simp [h]), hs]; exact if_pos hh
theorem chkI_no {ws : List Int} {c : Cfg} {v : Mv} {is : Bool} {hl r : List Obj} (h : allE ws c = 0) (hs : strL v is (allL ws c) = some r)
  (hh : ¬ (0 ≤ getI ws 0 ∧ getI ws 0 ≤ c.A ∧ ¬ (is = true ∧ lkN (allL ws c) = 0) ∧ okN (getI ws 0) (r ++ hl) = 0 ∧ spareP ((allL ws c).map (·.x.s)) (freeR ws c))) : chkI ws c v is hl = 2 := by
 unfold chkI; rw [if_neg (by simp [h]), hs]; exact if_neg hh
theorem allE_not {ws : List Int} {c : Cfg} (h : ¬ allP ws c) : allE ws c = 1 := if_neg h
theorem allE_zero {ws : List Int} {c : Cfg} (h : allE ws c = 0) : allP ws c := Classical.byContradiction fun hn => by rw [allE_not hn] at h; cases h
theorem allL_slot {ws : List Int} {c : Cfg} {a : Fd} (ha : a ∈ allL ws c) : 0 ≤ a.x.s ∧ a.x.s < 64 := by
 obtain ⟨hp, s, h1, y, h2, h3⟩ := allL_fd ha
 have h4 := (fdS_mem h2 h3).1
 have hm := hp.1
 unfold Cfg.may at hm
 rw [h4]; omega

set_option maxHeartbeats 8000000 in
theorem check_spec (hC : IsC H cb ws bs) (hlo : lo ≤ cb.P) (hr : Rng ws) (c : Cfg) (t : Sta) {hl : List Obj} (hll : hl.length ≤ 10) (hs : ∀ H', (∀ i, i < H.length → i ≠ cb.P → H'[i]? = H[i]?) → Sl H' 4 t.hv (css hl)) :
  ∃ H', callR En lo Id.audit_Check [staV (ifC cb) c t] H = some (I (chkI ws c t.v t.is hl), H') ∧ IsC H' cb ws bs ∧ Chg [cb.P] H H' := by
 have key : ∃ u H', callR En lo Id.audit_Check [staV (ifC cb) c t] H = some (u, H') ∧ u = I (chkI ws c t.v t.is hl) ∧ IsC H' cb ws bs ∧ Chg [cb.P] H H' := by
  refine call_ex rfl Fn.audit_Check rfl rfl ?_
  have hlt := hC.lts
  refine Exists.elim (all_spec hC hlo c) fun v0 hq => Exists.elim hq fun H1 hq => ?_
  have hA := hq.1
  have hC1 := hq.2.1
  have hx1 := hq.2.2.1
  have ho1 := hq.2.2.2
  clear hq
  have hlen := allL_len ws c
  have hst : staV (ifC cb) c t = .agg #[ifC cb, I c.A, I c.S, I c.T, t.hv, I t.v.s, I t.v.f, I t.v.t, I t.v.n, .bool t.is] := rfl
  have hSt := fun lo H a => stretched_spec lo H (ifC cb) c t a
  have hSp := fun {lo : Nat} {H : Heap} (hC : IsC H cb ws bs) (hlo : lo ≤ cb.P) (hm : c.may) => fun {v : Value} {l : List Fd} => spare_spec (lo := lo) (H := H) hC hlo hm hr t (v := v) (l := l)
  rw [hst] at hSt ⊢
  by_cases hE : allE ws c = 0
  ·have hp := allE_zero hE
   have hm := hp.1
   rw [hE] at hA
   have hO := fun lo => of_spec' lo H1 hm
   have hF := fun lo => frontier_spec lo H1 hm
   have hbad : ∀ i, strL t.v t.is ((allL ws c).take i) = none → chkI ws c t.v t.is hl = 2 := fun i hi => chkI_none hE (strL_fail _ _ hi)
   have hyes := fun r => chkI_yes (hl := hl) (r := r) (v := t.v) (is := t.is) hE
   have hno := fun r => chkI_no (hl := hl) (r := r) (v := t.v) (is := t.is) hE
   generalize chkI ws c t.v t.is hl = ans at *
   refine Exists.elim (load_spec hC1 hlo 0) fun H2 hq => ?_
   have hL := hq.1
   have hC2 := hq.2.1
   have hx2 := hx1.trans (.of hq.2.2)
   have ho2 := ho1.keep fun j h1 h2 => hq.2.2.same j (by simp; omega)
   clear hq
   have hsl : ∀ a ∈ allL ws c, 0 ≤ a.x.s ∧ a.x.s < 64 := fun a ha => allL_slot ha
   generalize getI ws 0 = top at *
   generalize allL ws c = l at *
   refine Exists.elim ho2.sl.len fun base hq => Exists.elim hq fun cap hve => ?_
   rw [fcs_length] at hve
   subst hve
   repeat' (first | (show ER _ _ _ _ _ _ _; first | refine .seq ?_ | refine .reg ?_ | refine .no rfl ?_ | refine .skip ?_ | refine .block ?_) | (show EG _ _ _ _ _ _ _ _ _; first | refine .mov rfl rfl ?_ | refine .lload rfl rfl rfl rfl ?_ | refine .laddr rfl rfl rfl ?_ | refine .neqF rfl rfl rfl (by omega) ?_ | (show EG _ _ (⟨_, .call _ _, _, _⟩ :: _) _ _ _ _ _ _; first | refine .call rfl rfl (hA) ?_ | refine .call rfl rfl (hO _) ?_ | refine .call rfl rfl (hF _) ?_) | refine .inv rfl rfl rfl rfl (hL) ?_ | refine .fin ?_ | refine .go rfl rfl rfl ?_))
   refine .loop (fun n f H3 => ∃ (i : Nat) (r : List Obj) (o : Value), n + i = l.length ∧ strL t.v t.is (l.take i) = some r ∧ f = [(1, .agg #[ifC cb, I c.A, I c.S, I c.T, t.hv, I t.v.s, I t.v.f, I t.v.t, I t.v.n, .bool t.is]), (3, .slice base l.length cap), (7, I top), (8, o), (9, N (lkN (l.take i))), (38, .slice base l.length cap), (39, N l.length), (40, N i)] ∧ Ext H2 H3 ∧ Out H3 H2.length 4 o (css r)) (n := l.length)
    ⟨0, [], _, rfl, rfl, rfl, .refl _, Out.nil _ _ _⟩ ?_
   rintro n f H3 ⟨i, r, o, hn, hr3, rfl, hx3, ho3⟩ next
   have hrl : r.length = i := strL_len t.v t.is (by omega) hr3
   by_cases hi : i < l.length
   ·have hg : l[i]? = some l[i] := List.getElem?_eq_getElem hi
    have hsu := strL_succ t.v t.is hi
    have hku := lkN_succ hi
    have hkl := lkN_le (l.take i)
    rw [List.length_take] at hkl
    rw [hr3] at hsu
    simp only [strC] at hsu
    refine Exists.elim (fcs_row (ho2.sl.ext hx3) hg) fun ad hq => Exists.elim hq fun cap' hq => ?_
    have hva := hq.1
    have hld := hq.2
    clear hq
    injection hva with e1 e2 e3
    subst e1
    generalize l[i] = a at hg hsu hku hld
    have hS := fun lo H => hSt lo H a
    generalize strR t.v t.is a = q at hS hsu
    obtain ⟨⟨s', o', n', fx'⟩, ok⟩ := q
    obtain ⟨⟨s, o1, n1, fx⟩, ⟨eo, eg, ep, eu, lk, lv⟩⟩ := a
    simp only [Fd.cs, Obj.cs, Ent.cs, List.cons_append, List.nil_append] at hld hS
    cases ok with
    | false =>
      simp only [strB, Bool.false_eq_true, if_false] at hsu
      rw [hbad _ hsu]
      repeat' (first | (show ER _ _ _ _ _ _ _; first | refine .seq ?_ | refine .reg ?_ | refine .yes rfl ?_ | refine .skip ?_ | refine .block ?_ | refine .ret rfl ?_) | (show EG _ _ _ _ _ _ _ _ _; first | refine .mov rfl rfl ?_ | refine .lload rfl rfl rfl rfl ?_ | refine .lssT rfl rfl rfl (by omega) ?_ | refine .load rfl rfl (hld) ?_ | refine .call rfl rfl (hS _ _) ?_ | refine .iaddr rfl rfl rfl (hi) ?_ | refine .fin ?_ | refine .go rfl rfl rfl ?_))
      exact ⟨rfl, hC2.ext hx3, hx2.ext hx3⟩
    | true =>
      simp only [strB, if_true] at hsu
      refine Exists.elim (ho3.push2 (l0 := lo) (bytes := 32) (e := Obj.cs ⟨s', o', n', fx'⟩) rfl (by have := hx2.len; omega) hx3.1 (by rw [css_length]; omega) (by omega)) fun o4 hq => Exists.elim hq fun H4 hq => ?_
      have hap := hq.1
      have ho4 := hq.2.1
      have hx4 := hq.2.2 H2 (Nat.le_refl _) hx3
      clear hq
      rw [css_app] at ho4
      cases lk with
      | false =>
        simp only [Bool.false_eq_true, if_false, Nat.add_zero] at hku
        repeat' (first | (show ER _ _ _ _ _ _ _; first | refine .seq ?_ | refine .reg ?_ | refine .yes rfl ?_ | refine .no rfl ?_ | refine .skip ?_ | refine .block ?_ | refine .endB ?_) | (show EG _ _ _ _ _ _ _ _ _; first | refine .mov rfl rfl ?_ | refine .lload rfl rfl rfl rfl ?_ | refine .laddr rfl rfl rfl ?_ | (show EG _ _ (⟨_, .bin _ _ _, _, _⟩ :: _) _ _ _ _ _ _; first | refine .lssT rfl rfl rfl (by omega) ?_ | refine .addN (b := 1) rfl rfl rfl (by omega) ?_) | refine .load rfl rfl (hld) ?_ | refine .call rfl rfl (hS _ _) ?_ | refine .iaddr rfl rfl rfl (hi) ?_ | refine .app rfl rfl rfl (hap) ?_ | refine .fin ?_ | refine .go rfl rfl rfl ?_))
        exact next (n - 1) _ _ (by omega) ⟨i + 1, _, o4, by omega, hsu, by rw [hku]; rfl, hx4, ho4⟩
      | true =>
        simp only [if_true] at hku
        repeat' (first | (show ER _ _ _ _ _ _ _; first | refine .seq ?_ | refine .reg ?_ | refine .yes rfl ?_ | refine .no rfl ?_ | refine .skip ?_ | refine .block ?_ | refine .endB ?_) | (show EG _ _ _ _ _ _ _ _ _; first | refine .mov rfl rfl ?_ | refine .lload rfl rfl rfl rfl ?_ | refine .laddr rfl rfl rfl ?_ | (show EG _ _ (⟨_, .bin _ _ _, _, _⟩ :: _) _ _ _ _ _ _; first | refine .lssT rfl rfl rfl (by omega) ?_ | refine .addN (b := 1) rfl rfl rfl (by omega) ?_) | refine .load rfl rfl (hld) ?_ | refine .call rfl rfl (hS _ _) ?_ | refine .iaddr rfl rfl rfl (hi) ?_ | refine .app rfl rfl rfl (hap) ?_ | refine .fin ?_ | refine .go rfl rfl rfl ?_))
        exact next (n - 1) _ _ (by omega) ⟨i + 1, _, o4, by omega, hsu, by rw [hku]; rfl, hx4, ho4⟩
   ·rw [List.take_of_length_le (by omega)] at hr3
    rw [List.take_of_length_le (by omega : l.length ≤ i)]
    have hC3 := hC2.ext hx3
    have hx03 := hx2.ext hx3
    refine Exists.elim (ho3.more (u := t.hv) (fs := css hl) (l0 := lo) (bytes := 32) (hs H3 fun j h1 h2 => hx03.same j h1 (by simpa using h2)) (by have := hx2.len; omega) hx3.1 (by rw [css_length, css_length]; omega) (by omega)) fun o5 hq => Exists.elim hq fun H5 hq => ?_
    have hap := hq.1
    have ho5 := hq.2.1
    have hx5 := hq.2.2 H2 (Nat.le_refl _) hx3
    clear hq
    have hC5 := hC2.ext hx5
    have hx05 := hx2.ext hx5
    have hcs : css r ++ css hl = css (r ++ hl) := by simp [css]
    rw [hcs] at ho5
    have h0 : r ++ hl = [] → o5 = .slice none 0 0 := fun h => by
     rcases ho5.2 with ⟨_, h2⟩ | ⟨h1, _⟩
     ·exact h2
     ·exact absurd (by rw [h]; rfl) h1
    have hPC := fun lo => planCheck_spec lo (arena := top) ho5.sl h0 (by rw [List.length_append]; omega)
    refine Exists.elim (hSp (lo := lo) hC5 hlo hm (ho2.sl.ext hx5) hlen hsl) fun b hq => Exists.elim hq fun H6 hq => ?_
    have hSP := hq.1
    have hb := hq.2.1
    have hC6 := hq.2.2.1
    have hx6 := hx05.trans hq.2.2.2
    clear hq
    rw [show staV (ifC cb) c t = .agg #[ifC cb, I c.A, I c.S, I c.T, t.hv, I t.v.s, I t.v.f, I t.v.t, I t.v.n, .bool t.is] from rfl] at hSP
    have hno := hno r hr3
    have hyes := hyes r hr3
    clear hSp hSt hbad next
    generalize t.is = is at *
    rcases okN_cases top (r ++ hl) with c4 | c4
    all_goals rw [c4] at hPC hno hyes
    ·by_cases c1 : top < 0
     ·rw [hno fun h => by have := h.1; omega]
      repeat' (first | (show ER _ _ _ _ _ _ _; first | refine .seq ?_ | refine .reg ?_ | refine .yes rfl ?_ | refine .no rfl ?_ | refine .exit rfl ?_ | refine .ret rfl ?_) | (show EG _ _ _ _ _ _ _ _ _; first | refine .mov rfl rfl ?_ | refine .lload rfl rfl rfl rfl ?_ | refine .laddr rfl rfl rfl ?_ | (show EG _ _ (⟨_, .bin _ _ _, _, _⟩ :: _) _ _ _ _ _ _; first | refine .lssT rfl rfl rfl (by omega) ?_ | refine .lssF rfl rfl rfl (by omega) ?_) | refine .app rfl rfl rfl (hap) ?_ | refine .skip rfl ?_ | refine .fin ?_ | refine .go rfl rfl rfl ?_))
      exact ⟨rfl, hC5, hx05⟩
     ·by_cases c2 : c.A < top
      ·rw [hno fun h => by have := h.2.1; omega]
       repeat' (first | (show ER _ _ _ _ _ _ _; first | refine .seq ?_ | refine .reg ?_ | refine .yes rfl ?_ | refine .no rfl ?_ | refine .exit rfl ?_ | refine .ret rfl ?_) | (show EG _ _ _ _ _ _ _ _ _; first | refine .mov rfl rfl ?_ | refine .lload rfl rfl rfl rfl ?_ | refine .laddr rfl rfl rfl ?_ | (show EG _ _ (⟨_, .bin _ _ _, _, _⟩ :: _) _ _ _ _ _ _; first | refine .lssF rfl rfl rfl (by omega) ?_ | refine .gtrT rfl rfl rfl (by omega) ?_) | refine .app rfl rfl rfl (hap) ?_ | refine .skip rfl ?_ | refine .fin ?_ | refine .go rfl rfl rfl ?_))
       exact ⟨rfl, hC5, hx05⟩
      ·have fin : ∀ is', is = is' → ¬ (is' = true ∧ lkN l = 0) → (b = true → ans = 0) ∧ (b = false → ans = 2) := fun is' h1 h2 =>
        ⟨fun h => hyes ⟨by omega, by omega, by rw [h1]; exact h2, rfl, hb.1 h⟩, fun h => hno fun hh => by rw [hb.2 hh.2.2.2.2] at h; cases h⟩
       cases is with
       | false =>
         have fin := fin false rfl (by simp)
         cases b with
         | true =>
           rw [fin.1 rfl]
           repeat' (first | (show ER _ _ _ _ _ _ _; first | refine .seq ?_ | refine .reg ?_ | refine .no rfl ?_ | refine .skip ?_ | refine .exit rfl ?_ | refine .ret rfl ?_) | (show EG _ _ _ _ _ _ _ _ _; first | refine .mov rfl rfl ?_ | refine .lload rfl rfl rfl rfl ?_ | refine .laddr rfl rfl rfl ?_ | (show EG _ _ (⟨_, .bin _ _ _, _, _⟩ :: _) _ _ _ _ _ _; first | refine .lssF rfl rfl rfl (by omega) ?_ | refine .gtrF rfl rfl rfl (by omega) ?_ | refine .neqF rfl rfl rfl (by omega) ?_) | (show EG _ _ (⟨_, .call _ _, _, _⟩ :: _) _ _ _ _ _ _; first | refine .call rfl rfl (hPC _) ?_ | refine .call rfl rfl (hSP) ?_) | refine .app rfl rfl rfl (hap) ?_ | refine .skip rfl ?_ | refine .fin ?_ | refine .go rfl rfl rfl ?_))
           exact ⟨rfl, hC6, hx6⟩
         | false =>
           rw [fin.2 rfl]
           repeat' (first | (show ER _ _ _ _ _ _ _; first | refine .seq ?_ | refine .reg ?_ | refine .yes rfl ?_ | refine .no rfl ?_ | refine .exit rfl ?_ | refine .ret rfl ?_) | (show EG _ _ _ _ _ _ _ _ _; first | refine .mov rfl rfl ?_ | refine .lload rfl rfl rfl rfl ?_ | refine .laddr rfl rfl rfl ?_ | (show EG _ _ (⟨_, .bin _ _ _, _, _⟩ :: _) _ _ _ _ _ _; first | refine .lssF rfl rfl rfl (by omega) ?_ | refine .gtrF rfl rfl rfl (by omega) ?_ | refine .neqF rfl rfl rfl (by omega) ?_) | (show EG _ _ (⟨_, .call _ _, _, _⟩ :: _) _ _ _ _ _ _; first | refine .call rfl rfl (hPC _) ?_ | refine .call rfl rfl (hSP) ?_) | refine .app rfl rfl rfl (hap) ?_ | refine .skip rfl ?_ | refine .fin ?_ | refine .go rfl rfl rfl ?_))
           exact ⟨rfl, hC6, hx6⟩
       | true =>
         by_cases c3 : lkN l = 0
         ·rw [hno fun h => h.2.2.1 ⟨rfl, c3⟩]
          repeat' (first | (show ER _ _ _ _ _ _ _; first | refine .seq ?_ | refine .reg ?_ | refine .yes rfl ?_ | refine .no rfl ?_ | refine .exit rfl ?_ | refine .ret rfl ?_) | (show EG _ _ _ _ _ _ _ _ _; first | refine .mov rfl rfl ?_ | refine .lload rfl rfl rfl rfl ?_ | refine .laddr rfl rfl rfl ?_ | (show EG _ _ (⟨_, .bin _ _ _, _, _⟩ :: _) _ _ _ _ _ _; first | refine .lssF rfl rfl rfl (by omega) ?_ | refine .gtrF rfl rfl rfl (by omega) ?_ | refine .eqlT rfl rfl rfl (by omega) ?_) | refine .app rfl rfl rfl (hap) ?_ | refine .skip rfl ?_ | refine .fin ?_ | refine .go rfl rfl rfl ?_))
          exact ⟨rfl, hC5, hx05⟩
         ·have fin := fin true rfl (by simp [c3])
          cases b with
          | true =>
            rw [fin.1 rfl]
            repeat' (first | (show ER _ _ _ _ _ _ _; first | refine .seq ?_ | refine .reg ?_ | refine .no rfl ?_ | refine .skip ?_ | refine .exit rfl ?_ | refine .ret rfl ?_) | (show EG _ _ _ _ _ _ _ _ _; first | refine .mov rfl rfl ?_ | refine .lload rfl rfl rfl rfl ?_ | refine .laddr rfl rfl rfl ?_ | (show EG _ _ (⟨_, .bin _ _ _, _, _⟩ :: _) _ _ _ _ _ _; first | refine .lssF rfl rfl rfl (by omega) ?_ | refine .gtrF rfl rfl rfl (by omega) ?_ | refine .eqlF rfl rfl rfl (by omega) ?_ | refine .neqF rfl rfl rfl (by omega) ?_) | (show EG _ _ (⟨_, .call _ _, _, _⟩ :: _) _ _ _ _ _ _; first | refine .call rfl rfl (hPC _) ?_ | refine .call rfl rfl (hSP) ?_) | refine .app rfl rfl rfl (hap) ?_ | refine .fin ?_ | refine .go rfl rfl rfl ?_))
            exact ⟨rfl, hC6, hx6⟩
          | false =>
            rw [fin.2 rfl]
            repeat' (first | (show ER _ _ _ _ _ _ _; first | refine .seq ?_ | refine .reg ?_ | refine .yes rfl ?_ | refine .no rfl ?_ | refine .exit rfl ?_ | refine .ret rfl ?_) | (show EG _ _ _ _ _ _ _ _ _; first | refine .mov rfl rfl ?_ | refine .lload rfl rfl rfl rfl ?_ | refine .laddr rfl rfl rfl ?_ | (show EG _ _ (⟨_, .bin _ _ _, _, _⟩ :: _) _ _ _ _ _ _; first | refine .lssF rfl rfl rfl (by omega) ?_ | refine .gtrF rfl rfl rfl (by omega) ?_ | refine .eqlF rfl rfl rfl (by omega) ?_ | refine .neqF rfl rfl rfl (by omega) ?_) | (show EG _ _ (⟨_, .call _ _, _, _⟩ :: _) _ _ _ _ _ _; first | refine .call rfl rfl (hPC _) ?_ | refine .call rfl rfl (hSP) ?_) | refine .app rfl rfl rfl (hap) ?_ | refine .fin ?_ | refine .go rfl rfl rfl ?_))
            exact ⟨rfl, hC6, hx6⟩
    ·have hn2 : ans = 2 := hno fun h => by have := h.2.2.2.1; cases this
     rw [hn2]
     by_cases c1 : top < 0
     ·repeat' (first | (show ER _ _ _ _ _ _ _; first | refine .seq ?_ | refine .reg ?_ | refine .yes rfl ?_ | refine .no rfl ?_ | refine .exit rfl ?_ | refine .ret rfl ?_) | (show EG _ _ _ _ _ _ _ _ _; first | refine .mov rfl rfl ?_ | refine .lload rfl rfl rfl rfl ?_ | refine .laddr rfl rfl rfl ?_ | (show EG _ _ (⟨_, .bin _ _ _, _, _⟩ :: _) _ _ _ _ _ _; first | refine .lssT rfl rfl rfl (by omega) ?_ | refine .lssF rfl rfl rfl (by omega) ?_) | refine .app rfl rfl rfl (hap) ?_ | refine .skip rfl ?_ | refine .fin ?_ | refine .go rfl rfl rfl ?_))
      exact ⟨rfl, hC5, hx05⟩
     ·by_cases c2 : c.A < top
      ·repeat' (first | (show ER _ _ _ _ _ _ _; first | refine .seq ?_ | refine .reg ?_ | refine .yes rfl ?_ | refine .no rfl ?_ | refine .exit rfl ?_ | refine .ret rfl ?_) | (show EG _ _ _ _ _ _ _ _ _; first | refine .mov rfl rfl ?_ | refine .lload rfl rfl rfl rfl ?_ | refine .laddr rfl rfl rfl ?_ | (show EG _ _ (⟨_, .bin _ _ _, _, _⟩ :: _) _ _ _ _ _ _; first | refine .lssF rfl rfl rfl (by omega) ?_ | refine .gtrT rfl rfl rfl (by omega) ?_) | refine .app rfl rfl rfl (hap) ?_ | refine .skip rfl ?_ | refine .fin ?_ | refine .go rfl rfl rfl ?_))
       exact ⟨rfl, hC5, hx05⟩
      ·cases is with
       | false =>
         repeat' (first | (show ER _ _ _ _ _ _ _; first | refine .seq ?_ | refine .reg ?_ | refine .yes rfl ?_ | refine .no rfl ?_ | refine .exit rfl ?_ | refine .ret rfl ?_) | (show EG _ _ _ _ _ _ _ _ _; first | refine .mov rfl rfl ?_ | refine .lload rfl rfl rfl rfl ?_ | refine .laddr rfl rfl rfl ?_ | (show EG _ _ (⟨_, .bin _ _ _, _, _⟩ :: _) _ _ _ _ _ _; first | refine .lssF rfl rfl rfl (by omega) ?_ | refine .gtrF rfl rfl rfl (by omega) ?_ | refine .neqT rfl rfl rfl (by omega) ?_) | refine .call rfl rfl (hPC _) ?_ | refine .app rfl rfl rfl (hap) ?_ | refine .skip rfl ?_ | refine .fin ?_ | refine .go rfl rfl rfl ?_))
         exact ⟨rfl, hC5, hx05⟩
       | true =>
         by_cases c3 : lkN l = 0
         ·repeat' (first | (show ER _ _ _ _ _ _ _; first | refine .seq ?_ | refine .reg ?_ | refine .yes rfl ?_ | refine .no rfl ?_ | refine .exit rfl ?_ | refine .ret rfl ?_) | (show EG _ _ _ _ _ _ _ _ _; first | refine .mov rfl rfl ?_ | refine .lload rfl rfl rfl rfl ?_ | refine .laddr rfl rfl rfl ?_ | (show EG _ _ (⟨_, .bin _ _ _, _, _⟩ :: _) _ _ _ _ _ _; first | refine .lssF rfl rfl rfl (by omega) ?_ | refine .gtrF rfl rfl rfl (by omega) ?_ | refine .eqlT rfl rfl rfl (by omega) ?_) | refine .app rfl rfl rfl (hap) ?_ | refine .skip rfl ?_ | refine .fin ?_ | refine .go rfl rfl rfl ?_))
          exact ⟨rfl, hC5, hx05⟩
         ·repeat' (first | (show ER _ _ _ _ _ _ _; first | refine .seq ?_ | refine .reg ?_ | refine .yes rfl ?_ | refine .no rfl ?_ | refine .exit rfl ?_ | refine .ret rfl ?_) | (show EG _ _ _ _ _ _ _ _ _; first | refine .mov rfl rfl ?_ | refine .lload rfl rfl rfl rfl ?_ | refine .laddr rfl rfl rfl ?_ | (show EG _ _ (⟨_, .bin _ _ _, _, _⟩ :: _) _ _ _ _ _ _; first | refine .lssF rfl rfl rfl (by omega) ?_ | refine .gtrF rfl rfl rfl (by omega) ?_ | refine .eqlF rfl rfl rfl (by omega) ?_ | refine .neqT rfl rfl rfl (by omega) ?_) | refine .call rfl rfl (hPC _) ?_ | refine .app rfl rfl rfl (hap) ?_ | refine .skip rfl ?_ | refine .fin ?_ | refine .go rfl rfl rfl ?_))
          exact ⟨rfl, hC5, hx05⟩
  ·rw [chkI_bad hE]
   have hE2 : allE ws c = 1 ∨ allE ws c = 2 := by
    unfold allE at hE ⊢
    split
    ·rename_i hp
     rw [if_pos hp] at hE
     unfold fdE at hE ⊢
     split
     ·rename_i h2; rw [if_pos h2] at hE; exact absurd rfl hE
     ·exact .inr rfl
    ·exact .inl rfl
   rcases hE2 with e | e
   ·rw [e] at hA ⊢
    repeat' (first | (show ER _ _ _ _ _ _ _; first | refine .seq ?_ | refine .reg ?_ | refine .yes rfl ?_ | refine .ret rfl ?_) | (show EG _ _ _ _ _ _ _ _ _; first | refine .mov rfl rfl ?_ | refine .lload rfl rfl rfl rfl ?_ | refine .laddr rfl rfl rfl ?_ | refine .neqT rfl rfl rfl (by omega) ?_ | refine .call rfl rfl (hA) ?_ | refine .fin ?_ | refine .go rfl rfl rfl ?_))
    exact ⟨rfl, hC1, hx1⟩
   ·rw [e] at hA ⊢
    repeat' (first | (show ER _ _ _ _ _ _ _; first | refine .seq ?_ | refine .reg ?_ | refine .yes rfl ?_ | refine .ret rfl ?_) | (show EG _ _ _ _ _ _ _ _ _; first | refine .mov rfl rfl ?_ | refine .lload rfl rfl rfl rfl ?_ | refine .laddr rfl rfl rfl ?_ | refine .neqT rfl rfl rfl (by omega) ?_ | refine .call rfl rfl (hA) ?_ | refine .fin ?_ | refine .go rfl rfl rfl ?_))
    exact ⟨rfl, hC1, hx1⟩
 obtain ⟨u, H', h1, rfl, h2⟩ := key
 exact ⟨H', h1, h2⟩
end
end Go.Proofs.YtgnkcpkdlkabkaaGreat

