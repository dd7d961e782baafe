/- Objects in their order: picked out of the plan seat's texts by a program. -/
import Derived.Test.YtgnkcpkdlkabkaaGreatAuditP3

set_option linter.unusedVariables false
set_option linter.unusedSimpArgs false
namespace Go.Proofs.YtgnkcpkdlkabkaaGreat
open Go Go.Ir

abbrev symB : ICode := F.slices_symMergeCmpFunc_plan_Object.body

section

variable {H : Heap} {lo b cap nn : Nat}

def SymIH (H : Heap) (lo b cap nn d : Nat) : Prop := ∀ (l : List Obj) (a m e : Nat), l.length = nn → e - a < d → a < m → m < e → e ≤ nn → Srt l a m → Srt l m e →
 ∃ v H', callR En lo Id.slices_symMergeCmpFunc_plan_Object [dat b nn cap, N a, N m, N e, FB] (hw H b l) = some (v, H') ∧ ∃ l', H' = hw H b l' ∧ Same a e l l' ∧ Srt l' a e

variable {l l1 l2 : List Obj} {a m e q s t d : Nat} {Q : Value → Heap → Prop}

theorem sym_t11 (f0 : Fr) (hn : nn ≤ 10000) (hl : l2.length = nn) (h1 : q ≤ t) (h2 : t ≤ e) (he : e ≤ nn) (ih : SymIH H lo b cap nn d) (hd : e - q < d) (p1 : Srt l2 q t) (p2 : Srt l2 t e)
  (fin : ∀ l3, Same q e l2 l3 → Srt l3 q e → Q (.tuple #[]) (hw H b l3)) :
  ER En lo [.code (tailC 11 symB)] ((0, dat b nn cap) :: (3, N e) :: (4, FB) :: (18, N q) :: (24, N t) :: f0) (hw H b l2) [] Q := by
 by_cases c : q < t ∧ t < e
 ·refine Exists.elim (ih _ _ _ _ hl hd c.1 c.2 he p1 p2) fun v hq => Exists.elim hq fun H' hq => ?_
  have hcal := hq.1
  refine Exists.elim hq.2 fun l3 hq => ?_
  have hH := hq.1
  subst hH
  repeat' (first | (show ER _ _ _ _ _ _ _; first | refine .seq ?_ | refine .reg ?_ | refine .yes rfl ?_ | refine .no rfl ?_ | refine .skip ?_ | refine .nil rfl ?_) | (show EG _ _ _ _ _ _ _ _ _; first | refine .mov rfl rfl ?_ | refine .lss rfl rfl rfl (fun hc => ?_) (fun hc => ?_) | refine .call rfl rfl (hcal) ?_ | refine .skip rfl ?_ | refine .fin ?_ | refine .go rfl rfl rfl ?_))
  all_goals first | (exfalso; omega) | exact fin l3 hq.2.1 hq.2.2
 ·have hs : Srt l2 q e := by
   by_cases e1 : q = t
   ·rw [e1]; exact p2
   ·have : t = e := by omega
    rw [← this]; exact p1
  repeat' (first | (show ER _ _ _ _ _ _ _; first | refine .seq ?_ | refine .reg ?_ | refine .yes rfl ?_ | refine .no rfl ?_ | refine .skip ?_ | refine .nil rfl ?_) | (show EG _ _ _ _ _ _ _ _ _; first | refine .mov rfl rfl ?_ | refine .lss rfl rfl rfl (fun hc => ?_) (fun hc => ?_) | refine .skip rfl ?_ | refine .fin ?_ | refine .go rfl rfl rfl ?_))
  all_goals first | (exfalso; omega) | exact fin l2 (.refl _ _ _) hs

theorem sym_t10 (f0 : Fr) (hn : nn ≤ 10000) (hl : l1.length = nn) (h0 : a ≤ s) (h0' : s ≤ q) (h1 : q ≤ t) (h2 : t ≤ e) (he : e ≤ nn) (ha : a < q) (hqe : q < e) (ih : SymIH H lo b cap nn d) (hd : e - a ≤ d)
  (p0 : Srt l1 a s) (p0' : Srt l1 s q) (p1 : Srt l1 q t) (p2 : Srt l1 t e)
  (fin : ∀ l2 l3, Same a q l1 l2 → Srt l2 a q → Same q e l2 l3 → Srt l3 q e → Q (.tuple #[]) (hw H b l3)) :
  ER En lo [.code (tailC 10 symB)] ((0, dat b nn cap) :: (1, N a) :: (3, N e) :: (4, FB) :: (18, N q) :: (20, N s) :: (24, N t) :: f0) (hw H b l1) [] Q := by
 have next : ∀ (l2 : List Obj) (f0 : Fr), Same a q l1 l2 → Srt l2 a q → ER En lo [.code (tailC 11 symB)] ((0, dat b nn cap) :: (3, N e) :: (4, FB) :: (18, N q) :: (24, N t) :: f0) (hw H b l2) [] Q := fun l2 f0 hS hT =>
  sym_t11 f0 hn (hS.len.trans hl) h1 h2 he ih (by omega) (fun i j g1 g2 g3 => by rw [hS.out i (by omega), hS.out j (by omega)]; exact p1 i j g1 g2 g3) (fun i j g1 g2 g3 => by rw [hS.out i (by omega), hS.out j (by omega)]; exact p2 i j g1 g2 g3)
   (fun l3 k1 k2 => fin l2 l3 hS hT k1 k2)
 refine .seq ?_
 by_cases c : a < s ∧ s < q
 ·refine Exists.elim (ih _ _ _ _ hl (by omega) c.1 c.2 (by omega) p0 p0') fun v hq => Exists.elim hq fun H' hq => ?_
  have hcal := hq.1
  refine Exists.elim hq.2 fun l3 hq => ?_
  have hH := hq.1
  subst hH
  have nx := fun f0 => next l3 f0 hq.2.1 hq.2.2
  repeat' (first | (show ER _ _ _ _ _ _ _; first | (exact ER.fe' (nx _) (.cons rfl (.cons rfl (.cons rfl (.cons rfl (.cons rfl (FE.refl _))))))) | refine .seq ?_ | refine .reg ?_ | refine .yes rfl ?_ | refine .no rfl ?_ | refine .skip ?_ | refine .nil rfl ?_) | (show EG _ _ _ _ _ _ _ _ _; first | refine .mov rfl rfl ?_ | refine .lss rfl rfl rfl (fun hc => ?_) (fun hc => ?_) | refine .call rfl rfl (hcal) ?_ | refine .skip rfl ?_ | refine .fin ?_ | refine .go rfl rfl rfl ?_))
  all_goals (exfalso; omega)
 ·have hs : Srt l1 a q := by
   by_cases e1 : a = s
   ·rw [e1]; exact p0'
   ·have : s = q := by omega
    rw [← this]; exact p0
  have nx := fun f0 => next l1 f0 (.refl _ _ _) hs
  repeat' (first | (show ER _ _ _ _ _ _ _; first | (exact ER.fe' (nx _) (.cons rfl (.cons rfl (.cons rfl (.cons rfl (.cons rfl (FE.refl _))))))) | refine .seq ?_ | refine .reg ?_ | refine .yes rfl ?_ | refine .no rfl ?_ | refine .skip ?_) | (show EG _ _ _ _ _ _ _ _ _; first | refine .mov rfl rfl ?_ | refine .lss rfl rfl rfl (fun hc => ?_) (fun hc => ?_) | refine .skip rfl ?_ | refine .fin ?_ | refine .go rfl rfl rfl ?_))
  all_goals (exfalso; omega)

theorem sym_t9 (f0 : Fr) (hlo : lo ≤ b) (hb : b < H.length) (hn : nn ≤ 10000) (hl : l.length = nn) (h1 : s ≤ m) (h2 : s ≤ q) (has : a ≤ s) (hte : q + m - s ≤ e) (hm : m < e) (he : e ≤ nn) (ha : a < q) (hqe : q < e) (ih : SymIH H lo b cap nn d) (hd : e - a ≤ d)
  (hA : Srt l a m) (hB : Srt l m e) (c1 : s = a ∨ q + m - s = e ∨ Le (gt l (s - 1)) (gt l (q + m - s))) (c2 : q = s ∨ s = m ∨ Le (gt l (q + m - s - 1)) (gt l s))
  (fin : ∀ l3, Same a e l l3 → Srt l3 a e → Q (.tuple #[]) (hw H b l3)) :
  ER En lo [.code (tailC 9 symB)] ((0, dat b nn cap) :: (1, N a) :: (2, N m) :: (3, N e) :: (4, FB) :: (18, N q) :: (20, N s) :: (24, N (q + m - s)) :: f0) (hw H b l) [] Q := by
 have next : ∀ (l1 : List Obj) (f0 : Fr), Same a e l l1 → (∀ k, gt l1 k = rotF (gt l) s m (q + m - s) k) →
   ER En lo [.code (tailC 10 symB)] ((0, dat b nn cap) :: (1, N a) :: (3, N e) :: (4, FB) :: (18, N q) :: (20, N s) :: (24, N (q + m - s)) :: f0) (hw H b l1) [] Q := fun l1 f0 hS hr => by
  obtain ⟨g1, g2, g3, g4⟩ := rot_sorted hr h1 h2 has hte hA hB
  exact sym_t10 f0 hn (hS.len.trans hl) has h2 (by omega) hte he ha hqe ih hd g1 g2 g3 g4 fun l2 l3 k1 k2 k3 k4 => by
   obtain ⟨m1, m2⟩ := halves hS (fun i j => rot_cross hr h1 h2 has hte hA hB c1 c2) (by omega) (by omega) k1 k2 k3 k4
   exact fin l3 m1 m2
 refine .seq ?_
 by_cases c : s < m ∧ m < q + m - s
 ·have hR := rotate_spec (H := H) (b := b) (cap := cap) lo hlo hb (l := l) (by omega) c.1 c.2 (by omega)
  rw [hl] at hR
  refine Exists.elim hR fun v hq => Exists.elim hq fun H' hq => ?_
  have hcal := hq.1
  refine Exists.elim hq.2 fun l1 hq => ?_
  have hH := hq.1
  subst hH
  have nx := fun f0 => next l1 f0 (hq.2.1.mono has hte) hq.2.2
  repeat' (first | (show ER _ _ _ _ _ _ _; first | (exact ER.fe' (nx _) (.cons rfl (.cons rfl (.cons rfl (.cons rfl (.cons rfl (.cons rfl (.cons rfl (FE.refl _))))))))) | refine .seq ?_ | refine .reg ?_ | refine .yes rfl ?_ | refine .no rfl ?_ | refine .skip ?_ | refine .nil rfl ?_) | (show EG _ _ _ _ _ _ _ _ _; first | refine .mov rfl rfl ?_ | refine .lss rfl rfl rfl (fun hc => ?_) (fun hc => ?_) | refine .call rfl rfl (hcal) ?_ | refine .skip rfl ?_ | refine .fin ?_ | refine .go rfl rfl rfl ?_))
  all_goals (exfalso; omega)
 ·have nx := fun f0 => next l f0 (.refl _ _ _) (fun k => (rot_id (by omega) h1 (by omega) k).symm)
  repeat' (first | (show ER _ _ _ _ _ _ _; first | (exact ER.fe' (nx _) (.cons rfl (.cons rfl (.cons rfl (.cons rfl (.cons rfl (.cons rfl (.cons rfl (FE.refl _))))))))) | refine .seq ?_ | refine .reg ?_ | refine .yes rfl ?_ | refine .no rfl ?_ | refine .skip ?_) | (show EG _ _ _ _ _ _ _ _ _; first | refine .mov rfl rfl ?_ | refine .lss rfl rfl rfl (fun hc => ?_) (fun hc => ?_) | refine .skip rfl ?_ | refine .fin ?_ | refine .go rfl rfl rfl ?_))
  all_goals (exfalso; omega)

theorem sym_t6 (f0 : Fr) (hlo : lo ≤ b) (hb : b < H.length) (hn : nn ≤ 10000) (hl : l.length = nn) (ham : a < m) (hm : m < e) (he : e ≤ nn) (hq1 : 2 * q ≤ a + e) (hq2 : a + e ≤ 2 * q + 1) (hbig : a + 1 < m) (hbig2 : m + 1 < e)
  {s0 r0 : Nat} (hK : (q < m ∧ s0 = q + m - e ∧ r0 = q) ∨ (m ≤ q ∧ s0 = a ∧ r0 = m)) (ih : SymIH H lo b cap nn d) (hd : e - a ≤ d) (hA : Srt l a m) (hB : Srt l m e)
  (fin : ∀ l3, Same a e l l3 → Srt l3 a e → Q (.tuple #[]) (hw H b l3)) :
  ER En lo [.code (tailC 6 symB)] ((0, dat b nn cap) :: (1, N a) :: (2, N m) :: (3, N e) :: (4, FB) :: (18, N q) :: (19, N (q + m)) :: (20, N s0) :: (21, N r0) :: f0) (hw H b l) [] Q := by
 repeat' (first | (show ER _ _ _ _ _ _ _; first | refine .seq ?_ | refine .reg ?_ | refine .block ?_) | (show EG _ _ _ _ _ _ _ _ _; first | refine .mov rfl rfl ?_ | refine .subN (b := 1) rfl rfl rfl (by omega) ?_ | refine .fin ?_))
 refine .loop (fun z f H' => ∃ s r : Nat, z + s = r ∧ s0 ≤ s ∧ r ≤ r0 ∧ f = [(0, dat b nn cap), (1, N a), (2, N m), (3, N e), (4, FB), (18, N q), (19, N (q + m)), (20, N s), (21, N r), (22, N (q + m - 1))] ∧ H' = hw H b l ∧
   (s = s0 ∨ Le (gt l (s - 1)) (gt l (q + m - s))) ∧ (r = r0 ∨ Le (gt l (q + m - 1 - r)) (gt l r))) (n := r0 - s0)
  ⟨s0, r0, by omega, by omega, by omega, rfl, rfl, .inl rfl, .inl rfl⟩ ?_
 rintro z f H' ⟨s, r, hz, hs, hr, rfl, rfl, hL, hR⟩ next
 have nx := fun f0 (hsr : s = r) => sym_t9 (Q := Q) f0 hlo hb hn hl (s := s) (q := q) (m := m) (a := a) (e := e) (by omega) (by omega) (by omega) (by omega) hm he (by omega) (by omega) ih hd hA hB
  (by rcases hL with hL | hL
      ·rcases hK with hK | hK
       ·exact .inr (.inl (by omega))
       ·exact .inl (by omega)
      ·exact .inr (.inr hL))
  (by rcases hR with hR | hR
      ·rcases hK with hK | hK
       ·exact .inl (by omega)
       ·exact .inr (.inl (by omega))
      ·refine .inr (.inr ?_)
       rw [show q + m - s - 1 = q + m - 1 - r by omega, hsr]; exact hR) fin
 repeat' (first | (show ER _ _ _ _ _ _ _; first | (exact ER.fe' (nx _ (by omega)) (.cons rfl (.cons rfl (.cons rfl (.cons rfl (.cons rfl (.cons rfl (.cons rfl (.cons rfl (FE.refl _)))))))))) | refine .seq ?_ | refine .reg ?_ | refine .yes rfl ?_ | refine .no rfl ?_ | refine .skip ?_ | refine .block ?_ | refine .endB ?_ | refine .exit rfl ?_) | (show EG _ _ _ _ _ _ _ _ _; first | refine .mov rfl rfl ?_ | (show EG _ _ (⟨_, .bin _ _ _, _, _⟩ :: _) _ _ _ _ _ _; first | refine .lss rfl rfl rfl (fun hc => ?_) (fun hc => ?_) | refine .addN rfl rfl rfl (by omega) ?_ | refine .addN (b := 1) rfl rfl rfl (by omega) ?_ | refine .subN rfl rfl rfl (by omega) ?_ | refine .halfU rfl rfl ?_) | refine .load rfl rfl (hw_load hb (by omega)) ?_ | refine .iaddr rfl rfl rfl (by omega) ?_ | refine .callv rfl rfl rfl rfl (byPlace_spec _ _ _ _) ?_ | refine .toU rfl rfl (by omega) ?_ | refine .toI rfl rfl (by omega) ?_ | refine .fin ?_ | refine .go rfl rfl rfl ?_))
 ·exact next ((s + r) / 2 - s) _ _ (by omega) ⟨s, (s + r) / 2, by omega, hs, by omega, rfl, rfl, hL, .inr (.of_lt ((place_lt _ _).1 ‹_›))⟩
 ·refine next (r - ((s + r) / 2 + 1)) _ _ (by omega) ⟨(s + r) / 2 + 1, r, by omega, by omega, hr, rfl, rfl, .inr ?_, hR⟩
  rw [show q + m - ((s + r) / 2 + 1) = q + m - 1 - (s + r) / 2 by omega]
  exact fun hc => ‹¬ placeI _ _ < 0› ((place_lt _ _).2 hc)

theorem sym_c1 (hlo : lo ≤ b) (hb : b < H.length) (hn : nn ≤ 10000) (hl : l.length = nn) (h1 : a < m) (h2 : m < e) (he : e ≤ nn) (hA : Srt l a m) (hB : Srt l m e) (c1 : m - a = 1) : ∃ v H', callR En lo Id.slices_symMergeCmpFunc_plan_Object [dat b nn cap, N a, N m, N e, FB] (hw H b l) = some (v, H') ∧ ∃ l', H' = hw H b l' ∧ Same a e l l' ∧ Srt l' a e := by
 refine call_ex rfl Fn.slices_symMergeCmpFunc_plan_Object rfl rfl ?_
 repeat' (first | (show ER _ _ _ _ _ _ _; first | refine .seq ?_ | refine .reg ?_ | refine .yes rfl ?_ | refine .block ?_) | (show EG _ _ _ _ _ _ _ _ _; first | refine .mov rfl rfl ?_ | (show EG _ _ (⟨_, .bin _ _ _, _, _⟩ :: _) _ _ _ _ _ _; first | refine .eqlT rfl rfl rfl (by omega) ?_ | refine .subN rfl rfl rfl (by omega) ?_) | refine .fin ?_))
 refine .loop (fun z f H' => ∃ i j : Nat, z + i = j ∧ m ≤ i ∧ j ≤ e ∧ f = [(0, dat b nn cap), (1, N a), (4, FB), (10, N i), (11, N j)] ∧ H' = hw H b l ∧
   (∀ p, m ≤ p → p < i → Le (gt l p) (gt l a)) ∧ (∀ p, j ≤ p → p < e → Le (gt l a) (gt l p))) (n := e - m)
  ⟨m, e, by omega, by omega, by omega, rfl, rfl, fun p g1 g2 => by omega, fun p g1 g2 => by omega⟩ ?_
 rintro z f H' ⟨i, j, hz, hi, hj, rfl, rfl, hL, hR⟩ next
 repeat' (first | (show ER _ _ _ _ _ _ _; first | refine .seq ?_ | refine .reg ?_ | refine .yes rfl ?_ | refine .no rfl ?_ | refine .skip ?_ | refine .block ?_ | refine .endB ?_ | refine .exit rfl ?_) | (show EG _ _ _ _ _ _ _ _ _; first | refine .mov rfl rfl ?_ | (show EG _ _ (⟨_, .bin _ _ _, _, _⟩ :: _) _ _ _ _ _ _; first | refine .lss rfl rfl rfl (fun hc => ?_) (fun hc => ?_) | refine .addN rfl rfl rfl (by omega) ?_ | refine .addN (b := 1) rfl rfl rfl (by omega) ?_ | refine .halfU rfl rfl ?_) | refine .load rfl rfl (hw_load hb (by omega)) ?_ | refine .iaddr rfl rfl rfl (by omega) ?_ | refine .callv rfl rfl rfl rfl (byPlace_spec _ _ _ _) ?_ | refine .toU rfl rfl (by omega) ?_ | refine .toI rfl rfl (by omega) ?_ | refine .fin ?_))
 ·refine next (j - ((i + j) / 2 + 1)) _ _ (by omega) ⟨(i + j) / 2 + 1, j, by omega, by omega, hj, rfl, rfl, fun p g1 g2 => ?_, hR⟩
  exact Le.trans (y := gt l ((i + j) / 2)) (hB.at_le g1 (by omega) (by omega)) (.of_lt ((place_lt _ _).1 hc))
 ·refine next ((i + j) / 2 - i) _ _ (by omega) ⟨i, (i + j) / 2, by omega, hi, by omega, rfl, rfl, hL, fun p g1 g2 => ?_⟩
  exact Le.trans (y := gt l ((i + j) / 2)) (fun hn => hc ((place_lt _ _).2 hn)) (hB.at_le (by omega) g1 g2)
 ·refine .loop (fun z f H' => ∃ (k : Nat) (l1 : List Obj), z + k = i - 1 ∧ a ≤ k ∧ f = [(0, dat b nn cap), (10, N i), (13, N k)] ∧ H' = hw H b l1 ∧ Same a e l l1 ∧
    (∀ q, gt l1 q = if a ≤ q ∧ q < k then gt l (q + 1) else if q = k then gt l a else gt l q)) (n := i - 1 - a)
   ⟨a, l, by omega, by omega, rfl, rfl, .refl _ _ _, fun q => by rw [if_neg (by omega)]; split <;> simp_all⟩ ?_
  rintro z f H' ⟨k, l1, hz, hk, rfl, rfl, hS, hg⟩ next
  have hll := hS.len
  repeat' (first | (show ER _ _ _ _ _ _ _; first | refine .seq ?_ | refine .reg ?_ | refine .yes rfl ?_ | refine .no rfl ?_ | refine .skip ?_ | refine .block ?_ | refine .endB ?_ | refine .exit rfl ?_ | refine .ret rfl ?_) | (show EG _ _ _ _ _ _ _ _ _; first | refine .mov rfl rfl ?_ | (show EG _ _ (⟨_, .bin _ _ _, _, _⟩ :: _) _ _ _ _ _ _; first | refine .lss rfl rfl rfl (fun hc => ?_) (fun hc => ?_) | refine .addN (b := 1) rfl rfl rfl (by omega) ?_ | refine .subN (b := 1) rfl rfl rfl (by omega) ?_) | refine .load rfl rfl (hw_load hb (by omega)) ?_ | refine .iaddr rfl rfl rfl (by omega) ?_ | refine .store rfl rfl rfl rfl rfl (hw_store hlo hb (by omega)) ?_ | refine .store rfl rfl rfl rfl rfl (hw_store hlo hb (by rw [List.length_set]; omega)) ?_ | refine .fin ?_))
  ·refine next (z - 1) _ _ (by omega) ⟨k + 1, sw l1 k (k + 1), by omega, by omega, rfl, rfl, hS.trans (Same.sw (by omega) (by omega) (by omega) (by omega) (by omega)), fun q => ?_⟩
   rw [gt_sw (by omega) (by omega), hg, hg, hg]
   by_cases e1 : q = k + 1
   ·rw [if_pos e1, if_neg (by omega), if_pos rfl, if_neg (by omega), if_pos e1]
   ·rw [if_neg e1]
    by_cases e2 : q = k
    ·rw [if_pos e2, if_neg (by omega), if_neg (by omega), if_pos (by omega), e2]
    ·rw [if_neg e2]
     by_cases e3 : a ≤ q ∧ q < k
     ·rw [if_pos e3, if_pos (by omega)]
     ·rw [if_neg e3, if_neg e2, if_neg (by omega), if_neg (by omega)]
  ·refine ⟨l1, rfl, hS, ?_⟩
   have hki : k = i - 1 := by omega
   subst hki
   exact one_first (s := i) (fun p g1 g2 => hL p (by omega) g2) (fun p g1 g2 => hR p (by omega) g2) (by rw [show a + 1 = m by omega]; exact hB) (by omega) (by omega) hg

theorem sym_c2 (hlo : lo ≤ b) (hb : b < H.length) (hn : nn ≤ 10000) (hl : l.length = nn) (h1 : a < m) (h2 : m < e) (he : e ≤ nn) (hA : Srt l a m) (hB : Srt l m e) (c1 : ¬ m - a = 1) (c2 : e - m = 1) : ∃ v H', callR En lo Id.slices_symMergeCmpFunc_plan_Object [dat b nn cap, N a, N m, N e, FB] (hw H b l) = some (v, H') ∧ ∃ l', H' = hw H b l' ∧ Same a e l l' ∧ Srt l' a e := by
 refine call_ex rfl Fn.slices_symMergeCmpFunc_plan_Object rfl rfl ?_
 repeat' (first | (show ER _ _ _ _ _ _ _; first | refine .seq ?_ | refine .reg ?_ | refine .yes rfl ?_ | refine .no rfl ?_ | refine .skip ?_ | refine .block ?_) | (show EG _ _ _ _ _ _ _ _ _; first | refine .mov rfl rfl ?_ | (show EG _ _ (⟨_, .bin _ _ _, _, _⟩ :: _) _ _ _ _ _ _; first | refine .eqlT rfl rfl rfl (by omega) ?_ | refine .eqlF rfl rfl rfl (by omega) ?_ | refine .subN rfl rfl rfl (by omega) ?_) | refine .fin ?_))
 refine .loop (fun z f H' => ∃ i j : Nat, z + i = j ∧ a ≤ i ∧ j ≤ m ∧ f = [(0, dat b nn cap), (2, N m), (4, FB), (14, N i), (15, N j)] ∧ H' = hw H b l ∧
   (∀ p, a ≤ p → p < i → Le (gt l p) (gt l m)) ∧ (∀ p, j ≤ p → p < m → Le (gt l m) (gt l p))) (n := m - a)
  ⟨a, m, by omega, by omega, by omega, rfl, rfl, fun p g1 g2 => by omega, fun p g1 g2 => by omega⟩ ?_
 rintro z f H' ⟨i, j, hz, hi, hj, rfl, rfl, hL, hR⟩ next
 repeat' (first | (show ER _ _ _ _ _ _ _; first | refine .seq ?_ | refine .reg ?_ | refine .yes rfl ?_ | refine .no rfl ?_ | refine .skip ?_ | refine .block ?_ | refine .endB ?_ | refine .exit rfl ?_) | (show EG _ _ _ _ _ _ _ _ _; first | refine .mov rfl rfl ?_ | (show EG _ _ (⟨_, .bin _ _ _, _, _⟩ :: _) _ _ _ _ _ _; first | refine .lss rfl rfl rfl (fun hc => ?_) (fun hc => ?_) | refine .addN rfl rfl rfl (by omega) ?_ | refine .addN (b := 1) rfl rfl rfl (by omega) ?_ | refine .halfU rfl rfl ?_) | refine .load rfl rfl (hw_load hb (by omega)) ?_ | refine .iaddr rfl rfl rfl (by omega) ?_ | refine .callv rfl rfl rfl rfl (byPlace_spec _ _ _ _) ?_ | refine .toU rfl rfl (by omega) ?_ | refine .toI rfl rfl (by omega) ?_ | refine .fin ?_ | refine .go rfl rfl rfl ?_))
 ·refine next ((i + j) / 2 - i) _ _ (by omega) ⟨i, (i + j) / 2, by omega, hi, by omega, rfl, rfl, hL, fun p g1 g2 => ?_⟩
  exact Le.trans (y := gt l ((i + j) / 2)) (.of_lt ((place_lt _ _).1 hc)) (hA.at_le (by omega) g1 g2)
 ·refine next (j - ((i + j) / 2 + 1)) _ _ (by omega) ⟨(i + j) / 2 + 1, j, by omega, by omega, hj, rfl, rfl, fun p g1 g2 => ?_, hR⟩
  exact Le.trans (y := gt l ((i + j) / 2)) (hA.at_le g1 (by omega) (by omega)) (fun hn => hc ((place_lt _ _).2 hn))
 ·refine .loop (fun z f H' => ∃ (k : Nat) (l1 : List Obj), z + i = k ∧ k ≤ m ∧ f = [(0, dat b nn cap), (14, N i), (17, N k)] ∧ H' = hw H b l1 ∧ Same a e l l1 ∧
    (∀ q, gt l1 q = if k < q ∧ q ≤ m then gt l (q - 1) else if q = k then gt l m else gt l q)) (n := m - i)
   ⟨m, l, by omega, by omega, rfl, rfl, .refl _ _ _, fun q => by rw [if_neg (by omega)]; split <;> simp_all⟩ ?_
  rintro z f H' ⟨k, l1, hz, hk, rfl, rfl, hS, hg⟩ next
  have hll := hS.len
  repeat' (first | (show ER _ _ _ _ _ _ _; first | refine .seq ?_ | refine .reg ?_ | refine .yes rfl ?_ | refine .no rfl ?_ | refine .skip ?_ | refine .block ?_ | refine .endB ?_ | refine .exit rfl ?_ | refine .ret rfl ?_) | (show EG _ _ _ _ _ _ _ _ _; first | refine .mov rfl rfl ?_ | (show EG _ _ (⟨_, .bin _ _ _, _, _⟩ :: _) _ _ _ _ _ _; first | refine .gtr rfl rfl rfl (fun hc => ?_) (fun hc => ?_) | refine .subN (b := 1) rfl rfl rfl (by omega) ?_) | refine .load rfl rfl (hw_load hb (by omega)) ?_ | refine .iaddr rfl rfl rfl (by omega) ?_ | refine .store rfl rfl rfl rfl rfl (hw_store hlo hb (by omega)) ?_ | refine .store rfl rfl rfl rfl rfl (hw_store hlo hb (by rw [List.length_set]; omega)) ?_ | refine .fin ?_))
  ·refine next (z - 1) _ _ (by omega) ⟨k - 1, sw l1 k (k - 1), by omega, by omega, rfl, rfl, hS.trans (Same.sw (by omega) (by omega) (by omega) (by omega) (by omega)), fun q => ?_⟩
   rw [gt_sw (by omega) (by omega), hg, hg, hg]
   by_cases e1 : q = k - 1
   ·rw [if_pos e1, if_neg (by omega), if_pos rfl, if_neg (by omega), if_pos e1]
   ·rw [if_neg e1]
    by_cases e2 : q = k
    ·rw [if_pos e2, if_neg (by omega), if_neg (by omega), if_pos (by omega), e2]
    ·rw [if_neg e2]
     by_cases e3 : k < q ∧ q ≤ m
     ·rw [if_pos e3, if_pos (by omega)]
     ·rw [if_neg e3, if_neg e2, if_neg (by omega), if_neg e1]
  ·refine ⟨l1, rfl, hS, ?_⟩
   have hki : k = i := by omega
   subst hki
   have hem : e = m + 1 := by omega
   rw [hem]
   exact one_last (s := k) hL (fun p g1 g2 => hR p (by omega) g2) hA (by omega) (by omega) hg

theorem sym_c3 (hlo : lo ≤ b) (hb : b < H.length) (hn : nn ≤ 10000) (hl : l.length = nn) (h1 : a < m) (h2 : m < e) (he : e ≤ nn) (hA : Srt l a m) (hB : Srt l m e) (c1 : ¬ m - a = 1) (c2 : ¬ e - m = 1) (ih : SymIH H lo b cap nn d) (hd : e - a < d + 1) : ∃ v H', callR En lo Id.slices_symMergeCmpFunc_plan_Object [dat b nn cap, N a, N m, N e, FB] (hw H b l) = some (v, H') ∧ ∃ l', H' = hw H b l' ∧ Same a e l l' ∧ Srt l' a e := by
 refine call_ex rfl Fn.slices_symMergeCmpFunc_plan_Object rfl rfl ?_
 have nx := fun (f0 : Fr) (s0 r0 : Nat) hK => sym_t6 (Q := fun v H' => ∃ l', H' = hw H b l' ∧ Same a e l l' ∧ Srt l' a e) (q := (a + e) / 2) f0 hlo hb hn hl h1 h2 he (by omega) (by omega) (by omega) (by omega) (s0 := s0) (r0 := r0) hK ih (by omega) hA hB (fun l3 g1 g2 => ⟨l3, rfl, g1, g2⟩)
 repeat' (first | (show ER _ _ _ _ _ _ _; first | (exact ER.fe' (nx _ ((a + e) / 2 + m - e) ((a + e) / 2) (by omega)) (.cons rfl (.cons rfl (.cons rfl (.cons rfl (.cons rfl (.cons rfl (.cons rfl (.cons rfl (.cons rfl (FE.refl _))))))))))) | (exact ER.fe' (nx _ a m (by omega)) (.cons rfl (.cons rfl (.cons rfl (.cons rfl (.cons rfl (.cons rfl (.cons rfl (.cons rfl (.cons rfl (FE.refl _))))))))))) | refine .seq ?_ | refine .reg ?_ | refine .yes rfl ?_ | refine .no rfl ?_ | refine .skip ?_) | (show EG _ _ _ _ _ _ _ _ _; first | refine .mov rfl rfl ?_ | (show EG _ _ (⟨_, .bin _ _ _, _, _⟩ :: _) _ _ _ _ _ _; first | refine .gtr rfl rfl rfl (fun hc => ?_) (fun hc => ?_) | refine .eqlF rfl rfl rfl (by omega) ?_ | refine .addN rfl rfl rfl (by omega) ?_ | refine .subN rfl rfl rfl (by omega) ?_ | refine .halfU rfl rfl ?_) | refine .toU rfl rfl (by omega) ?_ | refine .toI rfl rfl (by omega) ?_ | refine .fin ?_))

theorem sym_all (hlo : lo ≤ b) (hb : b < H.length) (hn : nn ≤ 10000) : ∀ d, SymIH H lo b cap nn d
 | 0 => fun l a m e hl hd => by omega
 | d + 1 => fun l a m e hl hd h1 h2 he hA hB => by
   by_cases c1 : m - a = 1
   ·exact sym_c1 hlo hb hn hl h1 h2 he hA hB c1
   ·by_cases c2 : e - m = 1
    ·exact sym_c2 hlo hb hn hl h1 h2 he hA hB c1 c2
    ·exact sym_c3 hlo hb hn hl h1 h2 he hA hB c1 c2 (sym_all hlo hb hn d) hd

end

section

variable {H : Heap} {lo b cap nn : Nat}

abbrev stB : ICode := F.slices_stableCmpFunc_plan_Object.body

def loopB : ICode → ICode
 | .block _ (.loop _ b) => b
 | c => c

theorem st_round20 {K : List Ir.Item} {rs : List IRes} {Q : Value → Heap → Prop} (hlo : lo ≤ b) (hb : b < H.length) (hn : nn ≤ 74) {l l1 : List Obj} (hl : l.length = nn) (cb : 20 < nn) (hS : Same 0 nn l l1) (hO : ∀ i j, i < j → j < nn → i / 20 = j / 20 → Le (gt l1 i) (gt l1 j))
  (next : ∀ (l3 : List Obj) (f' : Fr), keep [0, 1, 2, 6] f' = [(0, dat b nn cap), (1, N nn), (2, FB), (6, N 40)] → Same 0 nn l l3 → (∀ i j, i < j → j < nn → i / 40 = j / 40 → Le (gt l3 i) (gt l3 j)) → ER En lo K f' (hw H b l3) rs Q) :
  ER En lo (.code (loopB (tailC 4 stB)) :: K) [(0, dat b nn cap), (1, N nn), (2, FB), (6, N 20)] (hw H b l1) rs Q := by
 have hll := hS.len
 repeat' (first | (show ER _ _ _ _ _ _ _; first | refine .seq ?_ | refine .reg ?_ | refine .yes rfl ?_ | refine .skip ?_ | refine .block ?_) | (show EG _ _ _ _ _ _ _ _ _; first | refine .mov rfl rfl ?_ | (show EG _ _ (⟨_, .bin _ _ _, _, _⟩ :: _) _ _ _ _ _ _; first | refine .lssT rfl rfl rfl (by omega) ?_ | refine .mulN (a := 2) rfl rfl rfl (by omega) ?_) | refine .fin ?_))
 refine .loop (fun z f H' => ∃ (a : Nat) (l2 : List Obj), z + a = nn + 40 ∧ a % 40 = 0 ∧ a ≤ nn ∧ f = [(0, dat b nn cap), (1, N nn), (2, FB), (6, N 20), (7, N a), (8, N (a + 40))] ∧ H' = hw H b l2 ∧ Same 0 nn l l2 ∧
   (∀ i j, i < j → j < nn → i / 20 = j / 20 → Le (gt l2 i) (gt l2 j)) ∧ (∀ i j, i < j → j < a → i / 40 = j / 40 → Le (gt l2 i) (gt l2 j))) (n := nn + 40)
  ⟨0, l1, by omega, by omega, by omega, rfl, rfl, hS, hO, fun i j g1 g2 => by omega⟩ ?_
 rintro z f H' ⟨a, l2, hz, hmod, han, rfl, rfl, hS2, hD, hE⟩ next2
 have hll2 := hS2.len
 by_cases c : a + 40 ≤ nn
 ·refine Exists.elim (sym_all (H := H) (lo := lo) (b := b) (cap := cap) hlo hb (nn := nn) (by omega) 41 l2 a (a + 20) (a + 40) (by omega) (by omega) (by omega) (by omega) c (fun i j g1 g2 g3 => hD i j g2 (by omega) (by omega)) (fun i j g1 g2 g3 => hD i j g2 (by omega) (by omega))) fun v hq => Exists.elim hq fun H' hq => ?_
  have hcal := hq.1
  refine Exists.elim hq.2 fun l3 hq => ?_
  have hH := hq.1
  subst hH
  have hT := hq.2.1
  have hU := hq.2.2
  repeat' (first | (show ER _ _ _ _ _ _ _; first | refine .seq ?_ | refine .reg ?_ | refine .yes rfl ?_ | refine .skip ?_ | refine .block ?_ | refine .endB ?_) | (show EG _ _ _ _ _ _ _ _ _; first | refine .mov rfl rfl ?_ | (show EG _ _ (⟨_, .bin _ _ _, _, _⟩ :: _) _ _ _ _ _ _; first | refine .leqT rfl rfl rfl (by omega) ?_ | refine .addN rfl rfl rfl (by omega) ?_ | refine .mulN (a := 2) rfl rfl rfl (by omega) ?_) | refine .call rfl rfl (hcal) ?_ | refine .fin ?_))
  refine next2 (z - 40) _ _ (by omega) ⟨a + 40, l3, by omega, by omega, by omega, rfl, rfl, hS2.trans (hT.mono (by omega) (by omega)), fun i j g1 g2 g3 => ?_, fun i j g1 g2 g3 => ?_⟩
  ·by_cases e1 : a ≤ i ∧ j < a + 40
   ·exact hU i j e1.1 g1 e1.2
   ·rw [hT.out i (by omega), hT.out j (by omega)]; exact hD i j g1 g2 g3
  ·by_cases e1 : a ≤ i
   ·exact hU i j e1 g1 g2
   ·rw [hT.out i (by omega), hT.out j (by omega)]; exact hE i j g1 (by omega) g3
 ·by_cases c2 : a + 20 < nn
  ·refine Exists.elim (sym_all (H := H) (lo := lo) (b := b) (cap := cap) hlo hb (nn := nn) (by omega) 41 l2 a (a + 20) nn (by omega) (by omega) (by omega) c2 (by omega) (fun i j g1 g2 g3 => hD i j g2 (by omega) (by omega)) (fun i j g1 g2 g3 => hD i j g2 (by omega) (by omega))) fun v hq => Exists.elim hq fun H' hq => ?_
   have hcal := hq.1
   refine Exists.elim hq.2 fun l3 hq => ?_
   have hH := hq.1
   subst hH
   have hT := hq.2.1
   have hU := hq.2.2
   repeat' (first | (show ER _ _ _ _ _ _ _; first | refine .seq ?_ | refine .reg ?_ | refine .yes rfl ?_ | refine .no rfl ?_ | refine .endB ?_ | refine .exit rfl ?_) | (show EG _ _ _ _ _ _ _ _ _; first | refine .mov rfl rfl ?_ | (show EG _ _ (⟨_, .bin _ _ _, _, _⟩ :: _) _ _ _ _ _ _; first | refine .lssT rfl rfl rfl (by omega) ?_ | refine .leqF rfl rfl rfl (by omega) ?_ | refine .addN rfl rfl rfl (by omega) ?_ | refine .mulN (b := 2) rfl rfl rfl (by omega) ?_) | refine .call rfl rfl (hcal) ?_ | refine .fin ?_))
   refine next l3 _ rfl (hS2.trans (hT.mono (by omega) (by omega))) (fun i j g1 g2 g3 => ?_)
   by_cases e1 : a ≤ i
   ·exact hU i j e1 g1 g2
   ·rw [hT.out i (by omega), hT.out j (by omega)]; exact hE i j g1 (by omega) g3
  ·repeat' (first | (show ER _ _ _ _ _ _ _; first | refine .seq ?_ | refine .reg ?_ | refine .no rfl ?_ | refine .skip ?_ | refine .endB ?_ | refine .exit rfl ?_) | (show EG _ _ _ _ _ _ _ _ _; first | refine .mov rfl rfl ?_ | (show EG _ _ (⟨_, .bin _ _ _, _, _⟩ :: _) _ _ _ _ _ _; first | refine .lssF rfl rfl rfl (by omega) ?_ | refine .leqF rfl rfl rfl (by omega) ?_ | refine .addN rfl rfl rfl (by omega) ?_ | refine .mulN (b := 2) rfl rfl rfl (by omega) ?_) | refine .fin ?_))
   refine next l2 _ rfl hS2 (fun i j g1 g2 g3 => ?_)
   by_cases e1 : a ≤ i
   ·exact hD i j g1 g2 (by omega)
   ·exact hE i j g1 (by omega) g3

theorem st_round40 {K : List Ir.Item} {rs : List IRes} {Q : Value → Heap → Prop} (hlo : lo ≤ b) (hb : b < H.length) (hn : nn ≤ 74) {l l1 : List Obj} (hl : l.length = nn) (cb : 40 < nn) (hS : Same 0 nn l l1) (hO : ∀ i j, i < j → j < nn → i / 40 = j / 40 → Le (gt l1 i) (gt l1 j))
  (next : ∀ (l3 : List Obj) (f' : Fr), keep [0, 1, 2, 6] f' = [(0, dat b nn cap), (1, N nn), (2, FB), (6, N 80)] → Same 0 nn l l3 → (∀ i j, i < j → j < nn → i / 80 = j / 80 → Le (gt l3 i) (gt l3 j)) → ER En lo K f' (hw H b l3) rs Q) :
  ER En lo (.code (loopB (tailC 4 stB)) :: K) [(0, dat b nn cap), (1, N nn), (2, FB), (6, N 40)] (hw H b l1) rs Q := by
 have hll := hS.len
 repeat' (first | (show ER _ _ _ _ _ _ _; first | refine .seq ?_ | refine .reg ?_ | refine .yes rfl ?_ | refine .skip ?_ | refine .block ?_) | (show EG _ _ _ _ _ _ _ _ _; first | refine .mov rfl rfl ?_ | (show EG _ _ (⟨_, .bin _ _ _, _, _⟩ :: _) _ _ _ _ _ _; first | refine .lssT rfl rfl rfl (by omega) ?_ | refine .mulN (a := 2) rfl rfl rfl (by omega) ?_) | refine .fin ?_))
 refine .loop (fun z f H' => ∃ (a : Nat) (l2 : List Obj), z + a = nn + 80 ∧ a % 80 = 0 ∧ a ≤ nn ∧ f = [(0, dat b nn cap), (1, N nn), (2, FB), (6, N 40), (7, N a), (8, N (a + 80))] ∧ H' = hw H b l2 ∧ Same 0 nn l l2 ∧
   (∀ i j, i < j → j < nn → i / 40 = j / 40 → Le (gt l2 i) (gt l2 j)) ∧ (∀ i j, i < j → j < a → i / 80 = j / 80 → Le (gt l2 i) (gt l2 j))) (n := nn + 80)
  ⟨0, l1, by omega, by omega, by omega, rfl, rfl, hS, hO, fun i j g1 g2 => by omega⟩ ?_
 rintro z f H' ⟨a, l2, hz, hmod, han, rfl, rfl, hS2, hD, hE⟩ next2
 have hll2 := hS2.len
 by_cases c : a + 80 ≤ nn
 ·refine Exists.elim (sym_all (H := H) (lo := lo) (b := b) (cap := cap) hlo hb (nn := nn) (by omega) 81 l2 a (a + 40) (a + 80) (by omega) (by omega) (by omega) (by omega) c (fun i j g1 g2 g3 => hD i j g2 (by omega) (by omega)) (fun i j g1 g2 g3 => hD i j g2 (by omega) (by omega))) fun v hq => Exists.elim hq fun H' hq => ?_
  have hcal := hq.1
  refine Exists.elim hq.2 fun l3 hq => ?_
  have hH := hq.1
  subst hH
  have hT := hq.2.1
  have hU := hq.2.2
  repeat' (first | (show ER _ _ _ _ _ _ _; first | refine .seq ?_ | refine .reg ?_ | refine .yes rfl ?_ | refine .skip ?_ | refine .block ?_ | refine .endB ?_) | (show EG _ _ _ _ _ _ _ _ _; first | refine .mov rfl rfl ?_ | (show EG _ _ (⟨_, .bin _ _ _, _, _⟩ :: _) _ _ _ _ _ _; first | refine .leqT rfl rfl rfl (by omega) ?_ | refine .addN rfl rfl rfl (by omega) ?_ | refine .mulN (a := 2) rfl rfl rfl (by omega) ?_) | refine .call rfl rfl (hcal) ?_ | refine .fin ?_))
  refine next2 (z - 80) _ _ (by omega) ⟨a + 80, l3, by omega, by omega, by omega, rfl, rfl, hS2.trans (hT.mono (by omega) (by omega)), fun i j g1 g2 g3 => ?_, fun i j g1 g2 g3 => ?_⟩
  ·by_cases e1 : a ≤ i ∧ j < a + 80
   ·exact hU i j e1.1 g1 e1.2
   ·rw [hT.out i (by omega), hT.out j (by omega)]; exact hD i j g1 g2 g3
  ·by_cases e1 : a ≤ i
   ·exact hU i j e1 g1 g2
   ·rw [hT.out i (by omega), hT.out j (by omega)]; exact hE i j g1 (by omega) g3
 ·by_cases c2 : a + 40 < nn
  ·refine Exists.elim (sym_all (H := H) (lo := lo) (b := b) (cap := cap) hlo hb (nn := nn) (by omega) 81 l2 a (a + 40) nn (by omega) (by omega) (by omega) c2 (by omega) (fun i j g1 g2 g3 => hD i j g2 (by omega) (by omega)) (fun i j g1 g2 g3 => hD i j g2 (by omega) (by omega))) fun v hq => Exists.elim hq fun H' hq => ?_
   have hcal := hq.1
   refine Exists.elim hq.2 fun l3 hq => ?_
   have hH := hq.1
   subst hH
   have hT := hq.2.1
   have hU := hq.2.2
   repeat' (first | (show ER _ _ _ _ _ _ _; first | refine .seq ?_ | refine .reg ?_ | refine .yes rfl ?_ | refine .no rfl ?_ | refine .endB ?_ | refine .exit rfl ?_) | (show EG _ _ _ _ _ _ _ _ _; first | refine .mov rfl rfl ?_ | (show EG _ _ (⟨_, .bin _ _ _, _, _⟩ :: _) _ _ _ _ _ _; first | refine .lssT rfl rfl rfl (by omega) ?_ | refine .leqF rfl rfl rfl (by omega) ?_ | refine .addN rfl rfl rfl (by omega) ?_ | refine .mulN (b := 2) rfl rfl rfl (by omega) ?_) | refine .call rfl rfl (hcal) ?_ | refine .fin ?_))
   refine next l3 _ rfl (hS2.trans (hT.mono (by omega) (by omega))) (fun i j g1 g2 g3 => ?_)
   by_cases e1 : a ≤ i
   ·exact hU i j e1 g1 g2
   ·rw [hT.out i (by omega), hT.out j (by omega)]; exact hE i j g1 (by omega) g3
  ·exfalso; omega

theorem stable_spec (hlo : lo ≤ b) (hb : b < H.length) (hn : nn ≤ 74) {l : List Obj} (hl : l.length = nn) :
  ∃ v H', callR En lo Id.slices_stableCmpFunc_plan_Object [dat b nn cap, N nn, FB] (hw H b l) = some (v, H') ∧ ∃ l', H' = hw H b l' ∧ Same 0 nn l l' ∧ Srt l' 0 nn := by
 refine call_ex rfl Fn.slices_stableCmpFunc_plan_Object rfl rfl ?_
 repeat' (first | (show ER _ _ _ _ _ _ _; first | refine .seq ?_ | refine .reg ?_ | refine .block ?_) | (show EG _ _ _ _ _ _ _ _ _; first | refine .mov rfl rfl ?_ | refine .fin ?_))
 refine .loop (fun z f H' => ∃ (a : Nat) (l1 : List Obj), z + a = nn + 20 ∧ a % 20 = 0 ∧ a ≤ nn ∧ f = [(0, dat b nn cap), (1, N nn), (2, FB), (6, N 20), (7, N a), (8, N (a + 20))] ∧ H' = hw H b l1 ∧ Same 0 nn l l1 ∧
   (∀ i j, i < j → j < a → i / 20 = j / 20 → Le (gt l1 i) (gt l1 j))) (n := nn + 20)
  ⟨0, l, by omega, by omega, by omega, rfl, rfl, .refl _ _ _, fun i j g1 g2 => by omega⟩ ?_
 rintro z f H' ⟨a, l1, hz, hmod, han, rfl, rfl, hS, hO⟩ next
 have hll := hS.len
 by_cases c : a + 20 ≤ nn
 ·have hI := ins_spec (H := H) (lo := lo) (b := b) (cap := cap) hlo hb (l := l1) (by omega) (a := a) (e := a + 20) (by omega) (by omega)
  rw [hll, hl] at hI
  refine Exists.elim hI fun v hq => Exists.elim hq fun H' hq => ?_
  have hcal := hq.1
  refine Exists.elim hq.2 fun l2 hq => ?_
  have hH := hq.1
  subst hH
  have hT := hq.2.1
  have hU := hq.2.2
  repeat' (first | (show ER _ _ _ _ _ _ _; first | refine .seq ?_ | refine .reg ?_ | refine .yes rfl ?_ | refine .skip ?_ | refine .block ?_ | refine .endB ?_) | (show EG _ _ _ _ _ _ _ _ _; first | refine .mov rfl rfl ?_ | (show EG _ _ (⟨_, .bin _ _ _, _, _⟩ :: _) _ _ _ _ _ _; first | refine .leqT rfl rfl rfl (by omega) ?_ | refine .addN rfl rfl rfl (by omega) ?_) | refine .call rfl rfl (hcal) ?_ | refine .fin ?_))
  refine next (z - 20) _ _ (by omega) ⟨a + 20, l2, by omega, by omega, by omega, rfl, rfl, hS.trans (hT.mono (by omega) (by omega)), fun i j g1 g2 g3 => ?_⟩
  by_cases e1 : a ≤ i
  ·exact hU i j e1 g1 g2
  ·rw [hT.out i (by omega), hT.out j (by omega)]; exact hO i j g1 (by omega) g3
 ·have hI := ins_spec (H := H) (lo := lo) (b := b) (cap := cap) hlo hb (l := l1) (by omega) (a := a) (e := nn) (by omega) (by omega)
  rw [hll, hl] at hI
  refine Exists.elim hI fun v hq => Exists.elim hq fun H' hq => ?_
  have hcal := hq.1
  refine Exists.elim hq.2 fun l2 hq => ?_
  have hH := hq.1
  subst hH
  have hT := hq.2.1
  have hU := hq.2.2
  repeat' (first | (show ER _ _ _ _ _ _ _; first | refine .seq ?_ | refine .reg ?_ | refine .no rfl ?_ | refine .block ?_ | refine .exit rfl ?_) | (show EG _ _ _ _ _ _ _ _ _; first | refine .mov rfl rfl ?_ | refine .leqF rfl rfl rfl (by omega) ?_ | refine .call rfl rfl (hcal) ?_ | refine .fin ?_))
  refine .loop (fun z f H' => ∃ (bs : Nat) (l1 : List Obj), z = 100 - bs ∧ (bs = 20 ∨ bs = 40 ∨ bs = 80) ∧ f = [(0, dat b nn cap), (1, N nn), (2, FB), (6, N bs)] ∧ H' = hw H b l1 ∧ Same 0 nn l l1 ∧
    (∀ i j, i < j → j < nn → i / bs = j / bs → Le (gt l1 i) (gt l1 j))) (n := 80)
   ⟨20, l2, rfl, .inl rfl, rfl, rfl, hS.trans (hT.mono (by omega) (by omega)), fun i j g1 g2 g3 => ?_⟩ ?_
  ·by_cases e1 : a ≤ i
   ·exact hU i j e1 g1 g2
   ·rw [hT.out i (by omega), hT.out j (by omega)]; exact hO i j g1 (by omega) g3
  clear next hI hT hU hO hS hll
  rintro z f H' ⟨bs, l1, rfl, hbs, rfl, rfl, hS, hO⟩ next
  have hll := hS.len
  by_cases cb : nn ≤ bs
  ·repeat' (first | (show ER _ _ _ _ _ _ _; first | refine .seq ?_ | refine .reg ?_ | refine .no rfl ?_ | refine .exit rfl ?_ | refine .nil rfl ?_) | (show EG _ _ _ _ _ _ _ _ _; first | refine .mov rfl rfl ?_ | refine .lssF rfl rfl rfl (by omega) ?_ | refine .fin ?_))
   refine ⟨l1, rfl, hS, fun i j g1 g2 g3 => hO i j g2 g3 ?_⟩
   rw [Nat.div_eq_of_lt (by omega), Nat.div_eq_of_lt (by omega)]
  rcases hbs with hbs | hbs | hbs
  ·subst hbs
   exact st_round20 (l := l) hlo hb hn hl (by omega) hS hO fun l3 f' g1 g2 g3 => next 60 f' _ (by omega) ⟨40, l3, rfl, by omega, g1, rfl, g2, g3⟩
  ·subst hbs
   exact st_round40 (l := l) hlo hb hn hl (by omega) hS hO fun l3 f' g1 g2 g3 => next 20 f' _ (by omega) ⟨80, l3, rfl, by omega, g1, rfl, g2, g3⟩
  ·omega

theorem sortFn_spec (hlo : lo ≤ b) (hb : b < H.length) (hn : nn ≤ 74) {l : List Obj} (hl : l.length = nn) :
  ∃ l', callR En lo Id.slices_SortStableFunc_Lplan_Object [dat b nn cap, FB] (hw H b l) = some (.tuple #[], hw H b l') ∧ Same 0 nn l l' ∧ Srt l' 0 nn := by
 refine Exists.elim (stable_spec (cap := cap) hlo hb hn hl) fun v hq => Exists.elim hq fun H' hq => ?_
 have hcal := hq.1
 refine Exists.elim hq.2 fun l2 hq => ?_
 have hH := hq.1
 subst hH
 refine ⟨l2, ?_, hq.2⟩
 refine call_of rfl Fn.slices_SortStableFunc_Lplan_Object rfl rfl ?_
 repeat' (first | (show ER _ _ _ _ _ _ _; first | refine .reg ?_ | refine .nil rfl ?_) | (show EG _ _ _ _ _ _ _ _ _; first | refine .mov rfl rfl ?_ | refine .call rfl rfl (hcal) ?_ | refine .fin ?_ | refine .go rfl rfl rfl ?_))
 rfl

end

theorem sortFn_nil (lo : Nat) (h : Heap) : callR En lo Id.slices_SortStableFunc_Lplan_Object [.slice none 0 0, FB] h = some (.tuple #[], h) := callR_iff.2 ⟨300, by kernel_rfl⟩

theorem clone_spec (lo : Nat) {h : Heap} {v : Value} {l : List Obj} (hv : Sl h 4 v (css l)) (h0 : l = [] → v = .slice none 0 0) (hl : l.length ≤ 1000) :
  callR En lo Id.slices_Clone_Lplan_Object [v] h = some (made h 4 (css l)) := by
 refine call_scr rfl Fn.slices_Clone_Lplan_Object rfl rfl ?_
 rcases hv.2 with ⟨h1, base, cap, h2⟩ | ⟨a, cap, h1, h2⟩
 ·have : l = [] := by cases l with | nil => rfl | cons _ _ => simp [css] at h1
  subst this
  rw [h0 rfl]
  repeat' (first | (show ER _ _ _ _ _ _ _; first | refine .seq ?_ | refine .reg ?_ | refine .yes rfl ?_ | refine .ret rfl ?_) | (show EG _ _ _ _ _ _ _ _ _; first | refine .mov rfl rfl ?_ | refine .fin ?_ | refine .go rfl rfl rfl ?_))
  rfl
 ·rw [css_length] at h1
  by_cases hne : l = []
  ·subst hne
   rw [h0 rfl]
   repeat' (first | (show ER _ _ _ _ _ _ _; first | refine .seq ?_ | refine .reg ?_ | refine .yes rfl ?_ | refine .ret rfl ?_) | (show EG _ _ _ _ _ _ _ _ _; first | refine .mov rfl rfl ?_ | refine .fin ?_ | refine .go rfl rfl rfl ?_))
   rfl
  ·have hpos : 0 < l.length := List.length_pos_iff.2 hne
   subst h1
   have hs : srcCells (h ++ [Blk.row [] false]) 4 l.length (.slice (some a) l.length cap) = some (css l).flatten := by
    unfold srcCells
    simp only
    rw [if_neg (by omega)]
    rw [css_length] at h2
    exact ldN_ext ((Ext.refl h).app _) h2
   have ha : iappend h.length 4 32 (h ++ [Blk.row [] false]) (.slice (some ⟨h.length, 0, none⟩) 0 0) (.slice (some a) l.length cap) = some (.slice (some (loose (h.length + 1) 0)) l.length 4, h ++ [Blk.row [] false] ++ [Blk.row (css l).flatten false]) := by
    simp only [iappend, lenV, hs]
    rw [if_pos (.inl ⟨by omega, by omega⟩), if_neg (by omega)]
    simp [srcCells]
   repeat' (first | (show ER _ _ _ _ _ _ _; first | refine .seq ?_ | refine .reg ?_ | refine .no rfl ?_ | refine .skip ?_ | refine .ret rfl ?_) | (show EG _ _ _ _ _ _ _ _ _; first | refine .mov rfl rfl ?_ | refine .app rfl rfl rfl (ha) ?_ | refine .fin ?_ | refine .go rfl rfl rfl ?_))
   refine Out.tidy ⟨css_len l, .inr ⟨by simpa [css] using hne, h.length + 1, by rw [css_length], by omega, by simp⟩⟩ (css_flat l)

theorem planSort_spec (lo : Nat) {h : Heap} {v : Value} {l : List Obj} (hv : Sl h 4 v (css l)) (h0 : l = [] → v = .slice none 0 0) (hl : l.length ≤ 74) :
  callR En lo Id.plan_Sort [v] h = some (made h 4 (css (sortR l))) := by
 have hC := fun lo => clone_spec lo hv h0 (by omega)
 refine call_scr rfl Fn.plan_Sort rfl rfl ?_
 by_cases hne : l = []
 ·subst hne
  rw [show made h 4 (css []) = (.slice none 0 0, h) from rfl] at hC
  repeat' (first | (show ER _ _ _ _ _ _ _; first | refine .seq ?_ | refine .reg ?_ | refine .ret rfl ?_) | (show EG _ _ _ _ _ _ _ _ _; first | refine .mov rfl rfl ?_ | (show EG _ _ (⟨_, .call _ _, _, _⟩ :: _) _ _ _ _ _ _; first | refine .call rfl rfl (hC _) ?_ | refine .call rfl rfl (sortFn_nil _ _) ?_) | refine .fin ?_))
  rfl
 ·have hm : made h 4 (css l) = (dat h.length l.length 4, hw (h ++ [.row (css l).flatten false]) h.length l) := by
   unfold made
   rw [if_neg (by simpa [css] using hne), css_length]
   simp [dat, hw]
  rw [hm] at hC
  refine Exists.elim (sortFn_spec (H := h ++ [.row (css l).flatten false]) (lo := h.length) (b := h.length) (cap := 4) (Nat.le_refl _) (by simp) hl rfl) fun l' hq => ?_
  have hS := hq.1
  have hsame := hq.2.1
  have hsrt := hq.2.2
  have hlen := hsame.len
  have hl' : l' = sortR l := sorted_is hsame.perm (by rw [hlen]; exact hsrt)
  repeat' (first | (show ER _ _ _ _ _ _ _; first | refine .seq ?_ | refine .reg ?_ | refine .ret rfl ?_) | (show EG _ _ _ _ _ _ _ _ _; first | refine .mov rfl rfl ?_ | (show EG _ _ (⟨_, .call _ _, _, _⟩ :: _) _ _ _ _ _ _; first | refine .call rfl rfl (hC _) ?_ | refine .call rfl rfl (hS) ?_) | refine .fin ?_))
  rw [← hl', ← hlen]
  refine Out.tidy ⟨css_len l', .inr ⟨by intro hc; apply hne; have := congrArg List.length hc; rw [css_length, hlen] at this; exact List.length_eq_zero_iff.1 this, h.length, by rw [css_length]; rfl, Nat.le_refl _, by simp [hw]⟩⟩ (css_flat l')
end Go.Proofs.YtgnkcpkdlkabkaaGreat

/- Objects in their order: picked out of the plan seat's texts by a program. -/
set_option linter.unusedVariables false
set_option linter.unusedSimpArgs false
namespace Go.Proofs.YtgnkcpkdlkabkaaGreat
open Go Go.Ir

def hasB (x : Obj) (t : Int) : Bool := decide (x.o ≤ t) && decide (0 ≤ IntKind.i64.wrap (t - x.o)) && decide (IntKind.i64.wrap (t - x.o) < x.n)

section

variable {prims : List (Nat × Prim)}

end

def shareB (x y : Obj) : Bool := decide (0 < x.n) && (decide (0 < y.n) && (hasB x y.o || hasB y x.o))

section

variable {prims : List (Nat × Prim)}

end

def apartP (l : List Obj) : Prop := ∀ (i k : Nat) (x y : Obj), k < i → l[i]? = some x → l[k]? = some y → shareB x y = false

open Classical in
noncomputable def apartB (l : List Obj) : Bool := decide (apartP l)

open Classical in
theorem apartB_true {l : List Obj} (h : apartP l) : apartB l = true := by unfold apartB; exact decide_eq_true h

open Classical in
theorem apartB_false {l : List Obj} (h : ¬ apartP l) : apartB l = false := by unfold apartB; exact decide_eq_false h

section

variable {prims : List (Nat × Prim)}

end

def fineP (arena : Int) (x : Obj) : Prop := 0 ≤ x.o ∧ 1 ≤ x.n ∧ x.n ≤ 4096 ∧ x.o ≤ IntKind.i64.wrap (arena - x.n)

def okP (arena : Int) (l : List Obj) : Prop := 0 ≤ arena ∧ arena ≤ 4096 ∧ apartP l ∧ ∀ (i : Nat) (x : Obj), l[i]? = some x → fineP arena x

open Classical in
noncomputable def okN (arena : Int) (l : List Obj) : Int := if okP arena l then 0 else 1

open Classical in
theorem okN_0 {arena : Int} {l : List Obj} (h : okP arena l) : okN arena l = 0 := by unfold okN; exact if_pos h

open Classical in
theorem okN_1 {arena : Int} {l : List Obj} (h : ¬ okP arena l) : okN arena l = 1 := by unfold okN; exact if_neg h

section

variable {lo : Nat} {h : Heap}

theorem begins_spec (lo : Nat) (h : Heap) (a b : Obj) : callR En lo Id.plan_begins [.agg a.cs.toArray, .agg b.cs.toArray] h = some (.bool (hasB b a.o), h) := by
 refine call_scr rfl Fn.plan_begins rfl rfl ?_
 repeat' (first | (show ER _ _ _ _ _ _ _; first | refine .seq ?_ | refine .reg ?_ | refine .ret rfl ?_) | (show EG _ _ _ _ _ _ _ _ _; first | refine .mov rfl rfl ?_ | refine .lload rfl rfl rfl rfl ?_ | refine .laddr rfl rfl rfl ?_ | (show EG _ _ (⟨_, .bin _ _ _, _, _⟩ :: _) _ _ _ _ _ _; first | refine .lss rfl rfl rfl (fun hc => ?_) (fun hc => ?_) | refine .geq rfl rfl rfl (fun hc => ?_) (fun hc => ?_)) | refine .skip rfl ?_ | refine .fin ?_ | refine .go rfl rfl rfl ?_))
 all_goals (refine tidyB ?_; simp [hasB, *])

def wrongB (arena : Int) (x : Obj) : Bool := decide (x.o < 0) || decide (x.n < 1) || decide (4096 < x.n) || decide (IntKind.i64.wrap (arena - x.n) < x.o)

theorem check1_spec (lo : Nat) {h : Heap} {a : Addr} {arena : Int} (hld : loadV h none a = some (.int .i64 arena)) (x : Obj) :
  callR En lo Id.plan_Check_1 [.agg x.cs.toArray, .pointer (some a)] h = some (.bool (wrongB arena x), h) := by
 refine call_scr rfl Fn.plan_Check_1 rfl rfl ?_
 repeat' (first | (show ER _ _ _ _ _ _ _; first | refine .seq ?_ | refine .reg ?_ | refine .ret rfl ?_) | (show EG _ _ _ _ _ _ _ _ _; first | refine .mov rfl rfl ?_ | refine .lload rfl rfl rfl rfl ?_ | refine .laddr rfl rfl rfl ?_ | (show EG _ _ (⟨_, .bin _ _ _, _, _⟩ :: _) _ _ _ _ _ _; first | refine .lss rfl rfl rfl (fun hc => ?_) (fun hc => ?_) | refine .gtr rfl rfl rfl (fun hc => ?_) (fun hc => ?_)) | refine .load rfl rfl (hld) ?_ | refine .skip rfl ?_ | refine .fin ?_ | refine .go rfl rfl rfl ?_))
 all_goals (refine tidyB ?_; simp [wrongB, *])

theorem apart1_spec (lo : Nat) (h : Heap) (x : Obj) : callR En lo Id.plan_Apart_1 [.agg x.cs.toArray] h = some (.bool (decide (x.n < 1)), h) := by
 refine call_scr rfl Fn.plan_Apart_1 rfl rfl ?_
 repeat' (first | (show ER _ _ _ _ _ _ _; first | refine .seq ?_ | refine .reg ?_ | refine .ret rfl ?_) | (show EG _ _ _ _ _ _ _ _ _; first | refine .mov rfl rfl ?_ | refine .lload rfl rfl rfl rfl ?_ | refine .laddr rfl rfl rfl ?_ | refine .lss rfl rfl rfl (fun hc => ?_) (fun hc => ?_) | refine .fin ?_ | refine .go rfl rfl rfl ?_))
 all_goals (refine tidyB ?_; simp [*])

theorem apart2_spec (lo : Nat) {h : Heap} {a : Addr} {x : Obj} (hld : loadV h (some 4) a = some (.agg x.cs.toArray)) (y : Obj) :
  callR En lo Id.plan_Apart_2 [.agg y.cs.toArray, .pointer (some a)] h = some (.bool (hasB y x.o || hasB x y.o), h) := by
 refine call_scr rfl Fn.plan_Apart_2 rfl rfl ?_
 repeat' (first | (show ER _ _ _ _ _ _ _; first | refine .seq ?_ | refine .reg ?_ | refine .ret rfl ?_) | (show EG _ _ _ _ _ _ _ _ _; first | refine .mov rfl rfl ?_ | refine .lload rfl rfl rfl rfl ?_ | refine .load rfl rfl (hld) ?_ | (show EG _ _ (⟨_, .call _ _, _, _⟩ :: _) _ _ _ _ _ _; first | refine .callb rfl rfl (begins_spec _ _ x y) (fun hc => ?_) (fun hc => ?_) | refine .callb rfl rfl (begins_spec _ _ y x) (fun hc => ?_) (fun hc => ?_)) | refine .skip rfl ?_ | refine .fin ?_ | refine .go rfl rfl rfl ?_))
 all_goals (refine tidyB ?_; simp [*])

end

structure Mv where
 s : Int
 f : Int
 t : Int
 n : Int

def Mv.cs (x : Mv) : List Value := [.int .i64 x.s, .int .i64 x.f, .int .i64 x.t, .int .i64 x.n]

theorem okN_cases (arena : Int) (l : List Obj) : okN arena l = 0 ∨ okN arena l = 1 := by
 by_cases h : okP arena l
 ·exact .inl (okN_0 h)
 ·exact .inr (okN_1 h)

def idxF (p : Obj → Bool) : List Obj → Nat → Int
 | [], _ => -1
 | x :: r, i => if p x then (i : Int) else idxF p r (i + 1)

theorem idxF_any (p : Obj → Bool) : ∀ (l : List Obj) (i : Nat), decide (0 ≤ idxF p l i) = l.any p
 | [], i => rfl
 | x :: r, i => by
   unfold idxF
   rw [List.any_cons]
   cases h : p x with
   | true => simp
   | false => simpa [h] using idxF_any p r (i + 1)

theorem idxF_at (p : Obj → Bool) : ∀ (l : List Obj) (i : Nat), (idxF p l i = -1 ∧ ∀ x ∈ l, p x = false) ∨ ∃ k, k < l.length ∧ idxF p l i = ((i + k : Nat) : Int) ∧ (∀ x ∈ l.take k, p x = false) ∧ p (gt l k) = true
 | [], i => .inl ⟨rfl, fun x h => by cases h⟩
 | x :: r, i => by
   unfold idxF
   cases h : p x with
   | true => exact .inr ⟨0, by simp, by simp, fun y hy => by simp at hy, h⟩
   | false =>
     rcases idxF_at p r (i + 1) with ⟨h1, h2⟩ | ⟨k, h1, h2, h3, h4⟩
     ·refine .inl ⟨by simpa using h1, fun y hy => ?_⟩
      rcases List.mem_cons.1 hy with rfl | hy
      ·exact h
      ·exact h2 y hy
     ·refine .inr ⟨k + 1, by simpa using h1, by simp [h2]; omega, fun y hy => ?_, h4⟩
      rw [List.take_succ_cons] at hy
      rcases List.mem_cons.1 hy with rfl | hy
      ·exact h
      ·exact h3 y hy

section

variable {h : Heap} {v : Value} {l : List Obj} {g : Nat} {caps : List Value} {p : Obj → Bool}

theorem index_spec (lo : Nat) (hv : Sl h 4 v (css l)) (hl : l.length ≤ 1000) (hp : ∀ lo x, callR En lo g (.agg x.cs.toArray :: caps) h = some (.bool (p x), h)) :
  callR En lo Id.slices_IndexFunc_Lplan_Object [v, .func (.func g) #[] caps.toArray] h = some (.int .i64 (idxF p l 0), h) := by
 refine Exists.elim hv.len fun base hq => Exists.elim hq fun cap hve => ?_
 rw [css_length] at hve
 refine call_scr rfl Fn.slices_IndexFunc_Lplan_Object rfl rfl ?_
 subst hve
 repeat' (first | (show ER _ _ _ _ _ _ _; first | refine .seq ?_ | refine .reg ?_ | refine .block ?_) | (show EG _ _ _ _ _ _ _ _ _; first | refine .mov rfl rfl ?_ | refine .fin ?_ | refine .go rfl rfl rfl ?_))
 refine .loop (fun n f H => H = h ∧ ∃ i : Nat, n + i = l.length ∧ f = [(0, .slice base l.length cap), (1, .func (.func g) #[] caps.toArray), (7, N l.length), (8, N i)] ∧ idxF p l 0 = idxF p (l.drop i) i) (n := l.length)
  ⟨rfl, 0, rfl, rfl, rfl⟩ ?_
 rintro n f H ⟨rfl, i, hn, rfl, hI⟩ next
 by_cases hi : i < l.length
 ·have hgi : l[i]? = some l[i] := List.getElem?_eq_getElem hi
  have hd : l.drop i = l[i] :: l.drop (i + 1) := List.drop_eq_getElem_cons hi
  refine Exists.elim (css_row hv hgi) fun a hq => Exists.elim hq fun cap' hq => ?_
  have hva := hq.1
  have q0 := hq.2.1
  injection hva with e1 e2 e3
  subst e1
  generalize l[i] = x at q0 hd
  repeat' (first | (show ER _ _ _ _ _ _ _; first | refine .seq ?_ | refine .reg ?_ | refine .yes rfl ?_ | refine .no rfl ?_ | refine .skip ?_ | refine .block ?_ | refine .endB ?_ | refine .ret rfl ?_) | (show EG _ _ _ _ _ _ _ _ _; first | refine .mov rfl rfl ?_ | (show EG _ _ (⟨_, .bin _ _ _, _, _⟩ :: _) _ _ _ _ _ _; first | refine .lssT rfl rfl rfl (by omega) ?_ | refine .addN (b := 1) rfl rfl rfl (by omega) ?_) | refine .load rfl rfl (q0) ?_ | refine .iaddr rfl rfl rfl (by omega) ?_ | refine .callvb rfl rfl rfl rfl (hp _ x) (fun hc => ?_) (fun hc => ?_) | refine .fin ?_))
  ·refine tidyI ?_
   rw [hI, hd, idxF, if_pos ‹_›]
  ·refine next (n - 1) _ _ (by omega) ⟨rfl, i + 1, by omega, rfl, ?_⟩
   rw [hI, hd, idxF, if_neg (by simp [*])]
 ·repeat' (first | (show ER _ _ _ _ _ _ _; first | refine .seq ?_ | refine .reg ?_ | refine .no rfl ?_ | refine .exit rfl ?_ | refine .ret rfl ?_) | (show EG _ _ _ _ _ _ _ _ _; first | refine .mov rfl rfl ?_ | refine .lssF rfl rfl rfl (by omega) ?_ | refine .fin ?_))
  refine tidyI ?_
  rw [hI, List.drop_of_length_le (by omega)]
  rfl

theorem contains_spec (lo : Nat) (hv : Sl h 4 v (css l)) (hl : l.length ≤ 1000) (hp : ∀ lo x, callR En lo g (.agg x.cs.toArray :: caps) h = some (.bool (p x), h)) :
  callR En lo Id.slices_ContainsFunc_Lplan_Object [v, .func (.func g) #[] caps.toArray] h = some (.bool (l.any p), h) := by
 refine call_scr rfl Fn.slices_ContainsFunc_Lplan_Object rfl rfl ?_
 have ha := idxF_any p l 0
 repeat' (first | (show ER _ _ _ _ _ _ _; first | refine .seq ?_ | refine .reg ?_ | refine .ret rfl ?_) | (show EG _ _ _ _ _ _ _ _ _; first | refine .mov rfl rfl ?_ | refine .geq rfl rfl rfl (fun hc => ?_) (fun hc => ?_) | refine .call rfl rfl (index_spec _ hv hl hp) ?_ | refine .fin ?_))
 ·exact tidyB (by rw [← ha, decide_eq_true ‹_›])
 ·exact tidyB (by rw [← ha, decide_eq_false ‹_›])

end


section

variable {E : Env} {lo : Nat} {os : List IOper} {f : Fr} {h h' : Heap} {hs hs' : List Heap} {v : Value} {k : List Ir.Item} {rs : List IRes} {Q : Value → Heap → Prop} {d : Nat} {g : Option (Nat × Bool)}

variable {x y : Operand} {b n i esz : Nat}

theorem EG.upTo (hw : want g f = some true) (hx : ev f x = some (.slice (some (loose b 0)) n esz)) (hy : ev f y = some (N i)) (hi : i ≤ n) (c : EG E lo os hs k ((d, .slice (some (loose b 0)) i esz) :: f) h rs Q) :
  EG E lo (⟨some d, .slice esz x none (some y) none, g, 0⟩ :: os) hs k f h rs Q := .go hw (by
   simp only [iop, hx, evo, hy, islice, loose, if_true, ibounds, ibMax, ibHigh, ibound, ibLow]
   rw [if_pos ⟨by omega, by omega⟩]
   simp) rfl c

theorem EG.fromOn (hw : want g f = some true) (hx : ev f x = some (.slice (some (loose b 0)) n esz)) (hy : ev f y = some (N i)) (hi : i ≤ n) (c : EG E lo os hs k ((d, .slice (some (loose b (i * esz))) (n - i) esz) :: f) h rs Q) :
  EG E lo (⟨some d, .slice esz x (some y) none none, g, 0⟩ :: os) hs k f h rs Q := .go hw (by
   simp only [iop, hx, evo, hy, islice, loose, if_true, ibounds, ibMax, ibHigh, ibound, ibLow]
   rw [if_pos ⟨by omega, by omega⟩]
   simp) rfl c

end

theorem repeatL_len {cs : List Value} : ∀ n, (repeatL cs n).length = n * cs.length
 | 0 => by simp [repeatL]
 | n + 1 => by
   have ih := repeatL_len (cs := cs) n
   simp only [repeatL, List.length_append, ih]
   rw [Nat.add_mul]; omega

section

variable {H : Heap} {lo b : Nat} {l : List Obj}

theorem css_take {l : List Obj} {i : Nat} (hi : i ≤ l.length) : (css (l.take i)).flatten = (css l).flatten.take (i * 4) := by
 have e : (css l).flatten = (css (l.take i)).flatten ++ (css (l.drop i)).flatten := by
  rw [← List.flatten_append]
  congr 1
  simp only [css, ← List.map_append, List.take_append_drop]
 have hlen : (css (l.take i)).flatten.length = i * 4 := by rw [flat_len (css_len _), css_length, List.length_take, Nat.min_eq_left hi]
 rw [e, ← hlen, List.take_left]

theorem sl_take {h : Heap} {cap : Nat} {l : List Obj} (hv : Sl h 4 (.slice (some (loose b 0)) l.length cap) (css l)) {i : Nat} (hi : i ≤ l.length) : Sl h 4 (.slice (some (loose b 0)) i cap) (css (l.take i)) := by
 refine ⟨css_len _, ?_⟩
 have hlt : (l.take i).length = i := by rw [List.length_take]; omega
 rcases hv.2 with ⟨h1, base, cap', h2⟩ | ⟨a, cap', h1, h2⟩
 ·have : l = [] := by cases l with | nil => rfl | cons _ _ => simp [css] at h1
  subst this
  refine .inl ⟨by simp [css], some (loose b 0), cap, ?_⟩
  simp at hi
  rw [hi]
 ·rw [css_length] at h1 h2
  injection h1 with e1 e2 e3
  injection e1 with e1
  subst e1
  refine .inr ⟨loose b 0, cap, by rw [css_length, hlt], ?_⟩
  obtain ⟨cs, ro, hb, g1, g2⟩ := ldN_some h2
  rw [css_length, hlt, ldN_of hb (by omega)]
  rw [css_take hi, g2, List.take_take, Nat.min_eq_left (by omega)]

theorem clr_store {n : Nat} (hlo : lo ≤ b) (hb : b < H.length) {i : Nat} (hn : l.length = i + n) :
  stN lo (hw H b l) ⟨b, i * 4, none⟩ (repeatL [.int .i64 0, .int .i64 0, .int .i64 0, .bool false] n) = some (hw H b (l.take i ++ List.replicate n dflt)) := by
 have e1 : (hw H b l)[b]? = some (.row (css l).flatten false) := by simp [hw, hb]
 have hfl : (css l).flatten.length = l.length * 4 := by rw [flat_len (css_len l), css_length]
 have hr : repeatL [.int .i64 0, .int .i64 0, .int .i64 0, .bool false] n = (css (List.replicate n dflt)).flatten := by
  induction n with
  | zero => rfl
  | succ n ih =>
    have : ∀ m, repeatL [Value.int .i64 0, .int .i64 0, .int .i64 0, .bool false] m = (css (List.replicate m dflt)).flatten := by
     intro m
     induction m with
     | zero => rfl
     | succ m ih =>
       simp only [repeatL, ih, List.replicate_succ, css, List.map_cons, List.flatten_cons]
       rfl
    exact this _
 have hlen : (repeatL [Value.int .i64 0, .int .i64 0, .int .i64 0, .bool false] n).length = n * 4 := repeatL_len n
 have hlt : (l.take i).length = i := by rw [List.length_take]; omega
 unfold stN
 simp only [e1]
 rw [if_pos hlo, if_pos trivial, if_pos (by rw [hfl, hlen]; show i * 4 + n * 4 ≤ _; omega)]
 have hs : splice (css l).flatten (i * 4) (repeatL [.int .i64 0, .int .i64 0, .int .i64 0, .bool false] n) = (css (l.take i ++ List.replicate n dflt)).flatten := by
  unfold splice
  rw [hlen, List.drop_of_length_le (by rw [hfl]; omega), List.append_nil, hr]
  rw [show css (l.take i ++ List.replicate n dflt) = css (l.take i) ++ css (List.replicate n dflt) by simp [css], List.flatten_append, css_take (by omega)]
 rw [hs]
 simp [hw]

end
end Go.Proofs.YtgnkcpkdlkabkaaGreat

/- Objects in their order: picked out of the plan seat's texts by a program. -/
set_option linter.unusedVariables false
set_option linter.unusedSimpArgs false
namespace Go.Proofs.YtgnkcpkdlkabkaaGreat
open Go Go.Ir

def big (x : Obj) : Bool := !decide (x.n < 1)

abbrev FA : Value := .func (.func Id.plan_Apart_1) #[] #[]

section

variable {H : Heap} {lo b : Nat} {l : List Obj}

theorem filter_take_succ {l : List Obj} {j : Nat} (hj : j < l.length) : (l.take (j + 1)).filter big = (l.take j).filter big ++ (if big (gt l j) then [gt l j] else []) := by
 rw [List.take_succ_eq_append_getElem hj, List.filter_append]
 congr 1
 have : gt l j = l[j] := by simp [gt, hj]
 rw [this]
 cases h : big l[j] <;> simp [h]

theorem take_set_succ {l : List Obj} {i : Nat} {x : Obj} (hi : i < l.length) : (l.set i x).take (i + 1) = l.take i ++ [x] := by
 rw [List.take_succ_eq_append_getElem (by simpa using hi), List.take_set, List.set_eq_of_length_le (by simp; omega)]
 simp

theorem delete_spec (hlo : lo ≤ b) (hb : b < H.length) (hl : l.length ≤ 1000) :
  ∃ v H', callR En lo Id.slices_DeleteFunc_Lplan_Object [dat b l.length 4, FA] (hw H b l) = some (v, H') ∧ v = dat b (l.filter big).length 4 ∧ Sl H' 4 v (css (l.filter big)) ∧ H.length = H'.length := by
 have hI := fun lo => index_spec (g := Id.plan_Apart_1) (caps := []) (p := fun x => decide (x.n < 1)) lo (hw_sl (cap := 4) (l := l) hb) hl (fun lo x => apart1_spec lo _ x)
 refine call_ex rfl Fn.slices_DeleteFunc_Lplan_Object rfl rfl ?_
 rcases idxF_at (fun x => decide (x.n < 1)) l 0 with ⟨h1, h2⟩ | ⟨k, h1, h2, h3, h4⟩
 ·rw [h1] at hI
  have hf : l.filter big = l := List.filter_eq_self.2 fun x hx => by have := h2 x hx; simp only [big, this]; rfl
  repeat' (first | (show ER _ _ _ _ _ _ _; first | refine .seq ?_ | refine .reg ?_ | refine .yes rfl ?_ | refine .ret rfl ?_) | (show EG _ _ _ _ _ _ _ _ _; first | refine .mov rfl rfl ?_ | refine .eqlT rfl rfl rfl (by omega) ?_ | refine .call rfl rfl (hI _) ?_ | refine .fin ?_))
  rw [hf]
  exact ⟨rfl, hw_sl hb, (hw_len ..).symm⟩
 ·rw [h2] at hI
  repeat' (first | (show ER _ _ _ _ _ _ _; first | refine .seq ?_ | refine .reg ?_ | refine .no rfl ?_ | refine .skip ?_ | refine .block ?_) | (show EG _ _ _ _ _ _ _ _ _; first | refine .mov rfl rfl ?_ | (show EG _ _ (⟨_, .bin _ _ _, _, _⟩ :: _) _ _ _ _ _ _; first | refine .eqlF rfl rfl rfl (by omega) ?_ | refine .addN (b := 1) rfl rfl rfl (by omega) ?_) | refine .call rfl rfl (hI _) ?_ | refine .fin ?_))
  refine .loop (fun z f H' => ∃ (i j : Nat) (l1 : List Obj), z + j = l.length ∧ i < j ∧ l1.length = l.length ∧ f = [(0, dat b l.length 4), (1, FA), (5, N i), (6, N j)] ∧ H' = hw H b l1 ∧
    l1.take i = (l.take j).filter big ∧ ∀ q, j ≤ q → gt l1 q = gt l q) (n := l.length - (k + 1))
   ⟨0 + k, 0 + k + 1, l, by omega, by omega, rfl, rfl, rfl, ?_, fun _ _ => rfl⟩ ?_
  ·rw [Nat.zero_add, filter_take_succ h1]
   have hbk : big (gt l k) = false := by simp only [big, h4]; rfl
   rw [hbk]
   have : (l.take k).filter big = l.take k := List.filter_eq_self.2 fun x hx => by have := h3 x hx; simp only [big, this]; rfl
   rw [this]
   simp
  rintro z f H' ⟨i, j, l1, hz, hij, hll, rfl, rfl, hT, hG⟩ next
  by_cases hj : j < l.length
  ·have hgj := hG j (Nat.le_refl _)
   have hft := filter_take_succ hj
   repeat' (first | (show ER _ _ _ _ _ _ _; first | refine .seq ?_ | refine .reg ?_ | refine .yes rfl ?_ | refine .no rfl ?_ | refine .skip ?_ | refine .block ?_ | refine .endB ?_) | (show EG _ _ _ _ _ _ _ _ _; first | refine .mov rfl rfl ?_ | refine .lload rfl rfl rfl rfl ?_ | (show EG _ _ (⟨_, .bin _ _ _, _, _⟩ :: _) _ _ _ _ _ _; first | refine .lssT rfl rfl rfl (by omega) ?_ | refine .addN (b := 1) rfl rfl rfl (by omega) ?_) | refine .load rfl rfl (hw_load hb (by omega)) ?_ | refine .iaddr rfl rfl rfl (by omega) ?_ | refine .callvb rfl rfl rfl rfl (apart1_spec _ _ (gt l1 j)) (fun hc => ?_) (fun hc => ?_) | refine .store rfl rfl rfl rfl rfl (hw_store hlo hb (by omega)) ?_ | refine .fin ?_ | refine .go rfl rfl rfl ?_))
   ·refine next (z - 1) _ _ (by omega) ⟨i, j + 1, l1, by omega, by omega, hll, rfl, rfl, ?_, fun q hq => hG q (by omega)⟩
    rw [hft, ← hgj, show big (gt l1 j) = false by simp only [big, hc]; rfl, hT]
    simp
   ·refine next (z - 1) _ _ (by omega) ⟨i + 1, j + 1, l1.set i (gt l1 j), by omega, by omega, by rw [List.length_set]; exact hll, rfl, rfl, ?_, fun q hq => ?_⟩
    ·rw [hft, ← hgj, show big (gt l1 j) = true by simp only [big, hc]; rfl, take_set_succ (by omega), hT]
     rfl
    ·rw [gt_set, if_neg (by omega)]; exact hG q (by omega)
  ·have hjl : j = l.length := by omega
   rw [hjl, List.take_length] at hT
   repeat' (first | (show ER _ _ _ _ _ _ _; first | refine .seq ?_ | refine .reg ?_ | refine .no rfl ?_ | refine .exit rfl ?_ | refine .ret rfl ?_) | (show EG _ _ _ _ _ _ _ _ _; first | refine .mov rfl rfl ?_ | refine .lssF rfl rfl rfl (by omega) ?_ | refine EG.fromOn rfl rfl rfl (by omega) ?_ | refine EG.upTo rfl rfl rfl (by omega) ?_ | refine .clr rfl rfl (by omega) (clr_store hlo hb (by omega)) ?_ | refine .fin ?_ | refine .go rfl rfl rfl ?_))
   have hlen : (l1.take i ++ List.replicate (l.length - i) dflt).length = l.length := by simp; omega
   have hs := hw_sl (cap := 4) (l := l1.take i ++ List.replicate (l.length - i) dflt) (b := b) hb
   have ht := sl_take hs (i := i) (by omega)
   have hti : (l1.take i ++ List.replicate (l.length - i) dflt).take i = l.filter big := by
    rw [List.take_append_of_le_length (by simp; omega), List.take_take, Nat.min_self, hT]
   rw [hti] at ht
   have hfl : (l.filter big).length = i := by rw [← hT, List.length_take]; omega
   exact ⟨by rw [hfl]; rfl, ht, (hw_len ..).symm⟩

end


def touch (y x : Obj) : Bool := hasB y x.o || hasB x y.o

def planOk (ls : List Obj) : Prop := ∀ i x, ls[i]? = some x → (ls.take i).any (fun y => touch y x) = false

theorem shareB_comm (x y : Obj) : shareB x y = shareB y x := by
 unfold shareB
 rw [Bool.or_comm]
 cases decide (0 < x.n) <;> cases decide (0 < y.n) <;> rfl

theorem shareB_big {x y : Obj} (hx : big x = true) (hy : big y = true) : shareB x y = touch y x := by
 have h1 : 0 < x.n := by simp [big] at hx; omega
 have h2 : 0 < y.n := by simp [big] at hy; omega
 simp only [shareB, touch, h1, h2, decide_true, Bool.true_and]
 rw [Bool.or_comm]

theorem shareB_small {x y : Obj} (h : big x = false ∨ big y = false) : shareB x y = false := by
 unfold shareB
 rcases h with h | h
 ·have : ¬ 0 < x.n := by simp [big] at h; omega
  simp [this]
 ·have : ¬ 0 < y.n := by simp [big] at h; omega
  simp [this]

theorem apartP_pairs (l : List Obj) : apartP l ↔ l.Pairwise (fun y x => shareB x y = false) := by
 rw [List.pairwise_iff_getElem]
 constructor
 ·intro h i j hi hj hij
  exact h j i _ _ hij (List.getElem?_eq_getElem hj) (List.getElem?_eq_getElem hi)
 ·intro h i k x y hk hx hy
  obtain ⟨hi, rfl⟩ := List.getElem?_eq_some_iff.1 hx
  obtain ⟨hk', rfl⟩ := List.getElem?_eq_some_iff.1 hy
  exact h k i hk' hi hk

theorem planOk_pairs (l : List Obj) : planOk l ↔ l.Pairwise (fun y x => touch y x = false) := by
 rw [List.pairwise_iff_getElem]
 constructor
 ·intro h i j hi hj hij
  have := List.any_eq_false.1 (h j _ (List.getElem?_eq_getElem hj)) l[i] (List.mem_iff_getElem.2 ⟨i, by rw [List.length_take]; omega, by simp⟩)
  simpa using this
 ·intro h i x hx
  obtain ⟨hi, rfl⟩ := List.getElem?_eq_some_iff.1 hx
  rw [List.any_eq_false]
  intro y hy
  obtain ⟨k, hk, rfl⟩ := List.mem_iff_getElem.1 hy
  rw [List.length_take] at hk
  have := h k i (by omega) hi (by omega)
  simp only [List.getElem_take, this]
  decide

theorem bridge (l : List Obj) : planOk ((sortR l).filter big) ↔ apartP l := by
 rw [planOk_pairs, apartP_pairs, ← (sortR_perm l).pairwise_iff (R := fun y x => shareB x y = false) (fun {x y} h => by rw [shareB_comm]; exact h)]
 rw [List.pairwise_filter]
 constructor
 ·intro h
  refine h.imp fun {y x} hxy => ?_
  cases hx : big x with
  | false => exact shareB_small (.inl hx)
  | true =>
    cases hy : big y with
    | false => exact shareB_small (.inr hy)
    | true => rw [shareB_big hx hy]; exact hxy hy hx
 ·intro h
  refine h.imp fun {y x} hxy hy hx => ?_
  rw [← shareB_big hx hy]; exact hxy

theorem obox_store {H : Heap} {lo : Nat} {cs : List Value} {x : Obj} (hlo : lo ≤ H.length) (hc : cs.length = 4) : stN lo (H ++ [Blk.row cs false]) ⟨H.length, 0, none⟩ (vcells (.agg x.cs.toArray)) = some (H ++ [Blk.row x.cs false]) := by
 unfold stN
 simp only [List.getElem?_concat_length]
 rw [if_pos hlo, if_pos trivial, if_pos (by rw [hc]; exact Nat.le_refl 4)]
 have : splice cs 0 (vcells (.agg x.cs.toArray)) = x.cs := by
  unfold splice
  rw [List.drop_of_length_le (by rw [hc]; exact Nat.le_refl 4)]
  rfl
 rw [this]
 simp

theorem obox_load {H : Heap} {x : Obj} : loadV (H ++ [Blk.row x.cs false]) (some 4) ⟨H.length, 0, none⟩ = some (.agg x.cs.toArray) := by
 unfold loadV
 simp only
 rw [ldN_whole (a := ⟨H.length, 0, none⟩) (n := 4) (cs := x.cs) (ro := false) List.getElem?_concat_length rfl rfl]

theorem planApart_nil (lo : Nat) (h : Heap) : callR En lo Id.plan_Apart [.slice none 0 0] h = some (.bool true, h) := callR_iff.2 ⟨500, by kernel_rfl⟩

theorem planApart_spec (lo : Nat) {h : Heap} {v : Value} {l : List Obj} (hv : Sl h 4 v (css l)) (h0 : l = [] → v = .slice none 0 0) (hl : l.length ≤ 74) :
  callR En lo Id.plan_Apart [v] h = some (.bool (apartB l), h) := by
 by_cases hne : l = []
 ·subst hne
  rw [h0 rfl, apartB_true (fun i k x y _ hx => by simp at hx)]
  exact planApart_nil _ _
 have hS := fun lo => planSort_spec lo hv h0 hl
 have hslen := sortR_len l
 have hbr := bridge l
 have hm : made h 4 (css (sortR l)) = (dat h.length (sortR l).length 4, hw (h ++ [.row (css (sortR l)).flatten false]) h.length (sortR l)) := by
  unfold made
  rw [if_neg (by intro hc; apply hne; have := congrArg List.length hc; rw [css_length, hslen] at this; exact List.length_eq_zero_iff.1 this), css_length]
  simp [dat, hw]
 rw [hm] at hS
 generalize hH : h ++ [Blk.row (css (sortR l)).flatten false] = H at hS
 have hHl : H.length = h.length + 1 := by rw [← hH]; simp
 generalize sortR l = so at hS hslen hbr
 refine Exists.elim (delete_spec (H := H) (lo := h.length) (b := h.length) (l := so) (Nat.le_refl _) (by omega) (by omega)) fun w hq => Exists.elim hq fun H1 hq => ?_
 have hD := hq.1
 have hw := hq.2.1
 have hs1 := hq.2.2.1
 have hl1 := hq.2.2.2
 have hfl : (so.filter big).length ≤ so.length := List.length_filter_le ..
 generalize so.filter big = ls at hw hs1 hbr hfl
 subst hw
 refine call_scr rfl Fn.plan_Apart rfl rfl ?_
 repeat' (first | (show ER _ _ _ _ _ _ _; first | refine .seq ?_ | refine .reg ?_ | refine .block ?_) | (show EG _ _ _ _ _ _ _ _ _; first | refine .mov rfl rfl ?_ | (show EG _ _ (⟨_, .call _ _, _, _⟩ :: _) _ _ _ _ _ _; first | refine .call rfl rfl (hS _) ?_ | refine .call rfl rfl (hD) ?_) | refine .fin ?_ | refine .go rfl rfl rfl ?_))
 refine .loop (fun z f Hc => ∃ i : Nat, z + i = ls.length ∧ f = [(3, dat h.length ls.length 4), (9, dat h.length ls.length 4), (10, N ls.length), (11, N i)] ∧ Ext H1 Hc ∧ ∀ i' x, i' < i → ls[i']? = some x → (ls.take i').any (fun y => touch y x) = false) (n := ls.length)
  ⟨0, by omega, rfl, .refl _, fun i' x hi => by omega⟩ ?_
 rintro z f Hc ⟨i, hz, rfl, hx, hI⟩ next
 by_cases hi : i < ls.length
 ·have hgi := gt_get hi
  have hsc := hs1.ext hx
  have hx1 := hx.1
  refine Exists.elim (css_row hsc hgi) fun a hq => Exists.elim hq fun cap' hq => ?_
  have hva := hq.1
  have q0 := hq.2.1
  injection hva with e1 e2 e3
  injection e1 with e1
  subst e1
  generalize gt ls i = x at hgi q0
  have hsl := (sl_take hsc (i := i) (by omega)).ext ((Ext.refl Hc).app [Blk.row x.cs false])
  have hC := fun lo => contains_spec (g := Id.plan_Apart_2) (caps := [.pointer (some ⟨Hc.length, 0, none⟩)]) (p := fun y => touch y x) lo hsl (by rw [List.length_take]; omega) (fun lo y => apart2_spec lo obox_load y)
  repeat' (first | (show ER _ _ _ _ _ _ _; first | refine .seq ?_ | refine .reg ?_ | refine .yes rfl ?_ | refine .no rfl ?_ | refine .skip ?_ | refine .block ?_ | refine .endB ?_ | refine .ret rfl ?_) | (show EG _ _ _ _ _ _ _ _ _; first | refine .mov rfl rfl ?_ | (show EG _ _ (⟨_, .bin _ _ _, _, _⟩ :: _) _ _ _ _ _ _; first | refine .lssT rfl rfl rfl (by omega) ?_ | refine .addN (b := 1) rfl rfl rfl (by omega) ?_) | refine .load rfl rfl (q0) ?_ | refine .callb rfl rfl (hC _) (fun hc => ?_) (fun hc => ?_) | refine .iaddr rfl rfl rfl (by omega) ?_ | refine .store rfl rfl rfl rfl rfl (obox_store (by omega) rfl) ?_ | refine EG.upTo rfl rfl rfl (by omega) ?_ | refine .fin ?_ | refine .go rfl rfl rfl ?_))
  ·refine tidyB ?_
   rw [apartB_false]
   intro hA
   have := hbr.2 hA i x hgi
   rw [hc] at this
   cases this
  ·refine next (z - 1) _ _ (by omega) ⟨i + 1, by omega, rfl, hx.app _, fun i' y hi' hy => ?_⟩
   by_cases e : i' = i
   ·subst e
    rw [hgi] at hy
    injection hy with hy
    subst hy
    exact hc
   ·exact hI i' y (by omega) hy
 ·repeat' (first | (show ER _ _ _ _ _ _ _; first | refine .seq ?_ | refine .reg ?_ | refine .no rfl ?_ | refine .exit rfl ?_ | refine .ret rfl ?_) | (show EG _ _ _ _ _ _ _ _ _; first | refine .mov rfl rfl ?_ | refine .lssF rfl rfl rfl (by omega) ?_ | refine .fin ?_))
  refine tidyB ?_
  rw [apartB_true]
  exact hbr.1 fun i' x hx' => hI i' x (by have := (List.getElem?_eq_some_iff.1 hx').1; omega) hx'

theorem box1_load {H : Heap} {u : Value} : loadV (H ++ [Blk.row [u] false]) none ⟨H.length, 0, none⟩ = some u := by
 simp [loadV, ld1, hrow]

theorem wrongB_fine (arena : Int) (x : Obj) : wrongB arena x = false ↔ fineP arena x := by
 unfold wrongB fineP
 simp
 omega

theorem planCheck_spec (lo : Nat) {h : Heap} {v : Value} {l : List Obj} {arena : Int} (hv : Sl h 4 v (css l)) (h0 : l = [] → v = .slice none 0 0) (hl : l.length ≤ 74) :
  callR En lo Id.plan_Check [v, .int .i64 arena] h = some (.int .i64 (okN arena l), h) := by
 have hsb := hv.ext ((Ext.refl h).app [Blk.row [.int .i64 arena] false])
 have hC := fun lo => contains_spec (g := Id.plan_Check_1) (caps := [.pointer (some ⟨h.length, 0, none⟩)]) (p := wrongB arena) lo hsb (by omega) (fun lo y => check1_spec lo box1_load y)
 have hA := fun lo => planApart_spec lo hsb h0 hl
 refine call_scr rfl Fn.plan_Check rfl rfl ?_
 repeat' (first | (show ER _ _ _ _ _ _ _; first | refine .seq ?_ | refine .reg ?_ | refine .yes rfl ?_ | refine .no rfl ?_ | refine .skip ?_ | refine .ret rfl ?_) | (show EG _ _ _ _ _ _ _ _ _; first | refine .mov rfl rfl ?_ | (show EG _ _ (⟨_, .bin _ _ _, _, _⟩ :: _) _ _ _ _ _ _; first | refine .lss rfl rfl rfl (fun hc => ?_) (fun hc => ?_) | refine .gtr rfl rfl rfl (fun hc => ?_) (fun hc => ?_)) | refine .load rfl rfl (box1_load) ?_ | (show EG _ _ (⟨_, .call _ _, _, _⟩ :: _) _ _ _ _ _ _; first | refine .callb rfl rfl (hC _) (fun hc => ?_) (fun hc => ?_) | refine .callb rfl rfl (hA _) (fun hc => ?_) (fun hc => ?_)) | refine .skip rfl ?_ | refine .fin ?_ | refine .go rfl rfl rfl ?_))
 ·exact tidyI (okN_1 (fun hk => by have := hk.1; omega)).symm
 ·exact tidyI (okN_1 (fun hk => by have := hk.2.1; omega)).symm
 ·refine tidyI (okN_1 (fun hk => ?_)).symm
  obtain ⟨x, hx, hw⟩ := List.any_eq_true.1 hc
  obtain ⟨i, hi, rfl⟩ := List.mem_iff_getElem.1 hx
  have := (wrongB_fine arena _).2 (hk.2.2.2 i _ (List.getElem?_eq_getElem hi))
  rw [this] at hw
  cases hw
 ·rename_i ha hany
  refine tidyI (okN_0 ⟨by omega, by omega, Classical.byContradiction (fun hn => by rw [apartB_false hn] at hc; cases hc), fun i x hx => ?_⟩).symm
  refine (wrongB_fine arena x).1 ?_
  have := List.any_eq_false.1 hany x (List.mem_of_getElem? hx)
  simpa using this
 ·exact tidyI (okN_1 (fun hk => by rw [apartB_true hk.2.2.1] at hc; cases hc)).symm
end Go.Proofs.YtgnkcpkdlkabkaaGreat

