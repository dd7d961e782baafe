/- Ops; a new thread. -/
import Derived.Test.YtnfcohmbcgfhbaaGreatThreadP
import Derived.Test.YtnfcohmbcgfhbaaGreatThreadE
import Derived.SizedLaws

set_option linter.unusedVariables false
set_option linter.unusedSimpArgs false
namespace Go.Proofs.YtnfcohmbcgfhbaaGreat
open Go Go.Ir

structure Op4 where
 d : Int
 h : Int
 f : Int
 n : Int
def Op4.cs (t : Op4) : List Value := [I t.d, I t.h, I t.f, I t.n]
def ocs (l : List Op4) : List (List Value) := l.map Op4.cs
theorem ocs_length (l : List Op4) : (ocs l).length = l.length := by simp [ocs]

theorem ops_clone (lo : Nat) {h : Heap} {v : Value} {es : List (List Value)} (hlo : lo ≤ h.length) (hv : Sl h 4 v es) (ht : TightV v es.length) (hb : es.length * 32 ≤ 2 ^ 47) :
  ∃ v' H', callR En lo Id.slices_Clone_Lapi_Op [v] h = some (v', H') ∧ Ext h H' ∧ Sl H' 4 v' es ∧ ∃ b c, v' = .slice b es.length c := by
 rcases ht with ⟨rfl, h0⟩ | ⟨a, cap, rfl, hs, hc⟩
 ·have he : es = [] := List.length_eq_zero_iff.1 h0
  subst he
  refine ⟨.slice none 0 0, h, ?_, .refl _, hv, none, 0, rfl⟩
  refine call_of rfl Fn.slices_Clone_Lapi_Op rfl rfl ?_
  repeat' (first | (show ER _ _ _ _ _ _ _; first | refine .seq ?_ | refine .reg ?_ | refine .yes rfl ?_ | refine .no rfl ?_ | refine .skip ?_ | refine .block ?_ | refine .endB ?_ | refine .exit rfl ?_ | refine .br rfl (fun hc => ?_) (fun hc => ?_) | refine .scope ?_ | refine .inScope ?_ | refine .label ?_ | refine .ret rfl ?_ | refine .nil rfl ?_) | (show EG _ _ _ _ _ _ _ _ _; first | refine .mov rfl rfl ?_ | refine .lload rfl rfl rfl rfl ?_ | refine .laddr rfl rfl rfl ?_ | (show EG _ _ (⟨_, .bin _ _ _, _, _⟩ :: _) _ _ _ _ _ _; first | refine .lss rfl rfl rfl (fun hc => ?_) (fun hc => ?_) | refine .leq rfl rfl rfl (fun hc => ?_) (fun hc => ?_) | refine .gtr rfl rfl rfl (fun hc => ?_) (fun hc => ?_) | refine .geq rfl rfl rfl (fun hc => ?_) (fun hc => ?_) | refine .eql rfl rfl rfl (fun hc => ?_) (fun hc => ?_) | refine .neq rfl rfl rfl (fun hc => ?_) (fun hc => ?_)) | refine .skip rfl ?_ | refine .fin ?_ | refine .go rfl rfl rfl ?_ | refine .gono rfl rfl rfl ?_ | refine .skipn rfl ?_))
  rfl
 ·have hx : Ext h (h ++ [Blk.row [] false]) := (Ext.refl h).app _
  by_cases h0 : es.length = 0
  ·have he : es = [] := List.length_eq_zero_iff.1 h0
   subst he
   have ha : iappend lo 4 32 (h ++ [Blk.row [] false]) (.slice (some ⟨h.length, 0, none⟩) 0 0) (.slice (some a) 0 cap) = some (.slice (some ⟨h.length, 0, none⟩) 0 0, h ++ [Blk.row [] false]) := by
    simp [iappend, lenV, srcCells]
   refine ⟨.slice (some ⟨h.length, 0, none⟩) 0 0, h ++ [Blk.row [] false], ?_, hx, ⟨hv.1, .inl ⟨rfl, _, _, rfl⟩⟩, _, _, rfl⟩
   refine call_of rfl Fn.slices_Clone_Lapi_Op rfl rfl ?_
   repeat' (first | (show ER _ _ _ _ _ _ _; first | refine .seq ?_ | refine .reg ?_ | refine .yes rfl ?_ | refine .no rfl ?_ | refine .skip ?_ | refine .block ?_ | refine .endB ?_ | refine .exit rfl ?_ | refine .br rfl (fun hc => ?_) (fun hc => ?_) | refine .scope ?_ | refine .inScope ?_ | refine .label ?_ | refine .ret rfl ?_ | refine .nil rfl ?_) | (show EG _ _ _ _ _ _ _ _ _; first | refine .mov rfl rfl ?_ | refine .lload rfl rfl rfl rfl ?_ | refine .laddr rfl rfl rfl ?_ | (show EG _ _ (⟨_, .bin _ _ _, _, _⟩ :: _) _ _ _ _ _ _; first | refine .lss rfl rfl rfl (fun hc => ?_) (fun hc => ?_) | refine .leq rfl rfl rfl (fun hc => ?_) (fun hc => ?_) | refine .gtr rfl rfl rfl (fun hc => ?_) (fun hc => ?_) | refine .geq rfl rfl rfl (fun hc => ?_) (fun hc => ?_) | refine .eql rfl rfl rfl (fun hc => ?_) (fun hc => ?_) | refine .neq rfl rfl rfl (fun hc => ?_) (fun hc => ?_)) | refine .app rfl rfl rfl (ha) ?_ | refine .skip rfl ?_ | refine .fin ?_ | refine .go rfl rfl rfl ?_ | refine .gono rfl rfl rfl ?_ | refine .skipn rfl ?_))
   rfl
  ·rcases hv.2 with ⟨h1, _⟩ | ⟨a', cap', h1, h2⟩
   ·rw [h1] at h0; exact absurd rfl h0
   ·injection h1 with e1 _ e3
    injection e1 with e1
    subst e1 e3
    have hsr : srcCells (h ++ [Blk.row [] false]) 4 es.length (.slice (some a) es.length cap) = some es.flatten := by
     unfold srcCells
     simp only
     rw [if_neg h0]
     exact ldN_ext hx h2
    have ha : iappend lo 4 32 (h ++ [Blk.row [] false]) (.slice (some ⟨h.length, 0, none⟩) 0 0) (.slice (some a) es.length cap) = some (.slice (some (loose (h.length + 1) 0)) es.length 4, h ++ [Blk.row [] false] ++ [Blk.row es.flatten false]) := by
     simp only [iappend, lenV, hsr]
     rw [if_pos (.inr ⟨trivial, rfl, by omega, by omega⟩), if_neg (by omega)]
     simp [srcCells]
    refine ⟨.slice (some (loose (h.length + 1) 0)) es.length 4, h ++ [Blk.row [] false] ++ [Blk.row es.flatten false], ?_, hx.app _, ⟨hv.1, .inr ⟨_, _, rfl, ldN_whole (a := loose (h.length + 1) 0) (cs := es.flatten) (ro := false) (by
     show (h ++ [Blk.row [] false] ++ [Blk.row es.flatten false])[h.length + 1]? = _
     rw [List.getElem?_append_right (by simp)]; simp) rfl (flat_len hv.1).symm⟩⟩, _, _, rfl⟩
    refine call_of rfl Fn.slices_Clone_Lapi_Op rfl rfl ?_
    repeat' (first | (show ER _ _ _ _ _ _ _; first | refine .seq ?_ | refine .reg ?_ | refine .yes rfl ?_ | refine .no rfl ?_ | refine .skip ?_ | refine .block ?_ | refine .endB ?_ | refine .exit rfl ?_ | refine .br rfl (fun hc => ?_) (fun hc => ?_) | refine .scope ?_ | refine .inScope ?_ | refine .label ?_ | refine .ret rfl ?_ | refine .nil rfl ?_) | (show EG _ _ _ _ _ _ _ _ _; first | refine .mov rfl rfl ?_ | refine .lload rfl rfl rfl rfl ?_ | refine .laddr rfl rfl rfl ?_ | (show EG _ _ (⟨_, .bin _ _ _, _, _⟩ :: _) _ _ _ _ _ _; first | refine .lss rfl rfl rfl (fun hc => ?_) (fun hc => ?_) | refine .leq rfl rfl rfl (fun hc => ?_) (fun hc => ?_) | refine .gtr rfl rfl rfl (fun hc => ?_) (fun hc => ?_) | refine .geq rfl rfl rfl (fun hc => ?_) (fun hc => ?_) | refine .eql rfl rfl rfl (fun hc => ?_) (fun hc => ?_) | refine .neq rfl rfl rfl (fun hc => ?_) (fun hc => ?_)) | refine .app rfl rfl rfl (ha) ?_ | refine .skip rfl ?_ | refine .fin ?_ | refine .go rfl rfl rfl ?_ | refine .gono rfl rfl rfl ?_ | refine .skipn rfl ?_))
    rfl

structure TNew (H : Heap) (b : Nat) (ov : Value) : Prop where
 row : ∃ r, H[b]? = some (.row r false) ∧ r[4]? = some ov ∧ r[5]? = some (I 0)
theorem TNew.l4 {H : Heap} {b : Nat} {ov : Value} (t : TNew H b ov) : loadV H none ⟨b, 0 + 4, none⟩ = some ov := by
 obtain ⟨r, h1, h2, h3⟩ := t.row
 exact ld_row h1 h2
theorem TNew.l5 {H : Heap} {b : Nat} {ov : Value} (t : TNew H b ov) : loadV H none ⟨b, 0 + 5, none⟩ = some (I 0) := by
 obtain ⟨r, h1, h2, h3⟩ := t.row
 exact ld_row h1 h3
theorem TNew.ext {H H' : Heap} {b : Nat} {ov : Value} (t : TNew H b ov) (e : Ext H H') : TNew H' b ov := by
 obtain ⟨r, h1, h2⟩ := t.row
 exact ⟨r, (e.2 b (hlt_of h1)).trans h1, h2⟩

def trow0 (c : Cfg) (num : Int) (ov : Value) : List Value := [I c.A, I c.S, I c.T, I num, ov, I 0, .pointer none, .nilIface, .pointer none, I 0, I 0]

theorem tnew_spec (lo : Nat) {h : Heap} {v : Value} {es : List (List Value)} (c : Cfg) (num : Int) (hlo : lo ≤ h.length) (hv : Sl h 4 v es) (ht : TightV v es.length) (hb : es.length * 32 ≤ 2 ^ 47) :
  ∃ H' b k cap, callR En lo Id.thread_New [.agg c.cs.toArray, I num, v] h = some (.pointer (some ⟨h.length, 0, none⟩), H') ∧ Ext h H' ∧ TNew H' h.length (.slice b k cap) ∧ (num < 0 → k = 0) := by
 have hx : Ext h (h ++ [.row (trow0 c num (.slice none 0 0)) false]) := (Ext.refl h).app _
 by_cases hm : c.may
 ·have hO := fun lo => of_spec' lo (h ++ [.row (trow0 c num (.slice none 0 0)) false]) hm
  have hN := fun lo => note_spec lo (h ++ [.row (trow0 c num (.slice none 0 0)) false]) hm num
  have hm' := hm
  unfold Cfg.may at hm'
  by_cases hn : 0 ≤ num ∧ num < c.T
  ·have hge : 0 ≤ noteI c num := by unfold noteI; rw [if_pos hn]; omega
   generalize noteI c num = nn at hN hge
   obtain ⟨v', H1, hC, hx1, hs1, b, k, hvb⟩ := ops_clone lo (h := h ++ [.row (trow0 c num (.slice none 0 0)) false]) (v := v) (es := es) (by rw [List.length_append]; omega) (hv.ext hx) ht hb
   have hr : H1[h.length]? = some (.row (trow0 c num (.slice none 0 0)) false) := by
    rw [hx1.2 h.length (by rw [List.length_append, List.length_singleton]; omega)]
    exact List.getElem?_concat_length
   subst hvb
   have hst : stN lo H1 ⟨h.length, 0 + 4, none⟩ (vcells (.slice b es.length k)) = some (H1.set h.length (.row (trow0 c num (.slice b es.length k)) false)) := st_row hr hlo (Nat.le_of_ble_eq_true rfl) rfl
   refine ⟨H1.set h.length (.row (trow0 c num (.slice b es.length k)) false), b, es.length, k, ?_, ⟨by rw [List.length_set]; exact Nat.le_trans hx.1 hx1.1, fun i hi => ?_⟩, ⟨_, hs_same (hlt_of hr), rfl, rfl⟩, fun hh => by omega⟩
   ·refine call_of rfl Fn.thread_New rfl rfl ?_
    repeat' (first | (show ER _ _ _ _ _ _ _; first | refine .seq ?_ | refine .reg ?_ | refine .yes rfl ?_ | refine .no rfl ?_ | refine .skip ?_ | refine .block ?_ | refine .endB ?_ | refine .exit rfl ?_ | refine .br rfl (fun hc => ?_) (fun hc => ?_) | refine .scope ?_ | refine .inScope ?_ | refine .label ?_ | refine .ret rfl ?_ | refine .nil rfl ?_) | (show EG _ _ _ _ _ _ _ _ _; first | refine .mov rfl rfl ?_ | refine .lload rfl rfl rfl rfl ?_ | refine .laddr rfl rfl rfl ?_ | (show EG _ _ (⟨_, .bin _ _ _, _, _⟩ :: _) _ _ _ _ _ _; first | refine .lss rfl rfl rfl (fun hc => ?_) (fun hc => ?_) | refine .leq rfl rfl rfl (fun hc => ?_) (fun hc => ?_) | refine .gtr rfl rfl rfl (fun hc => ?_) (fun hc => ?_) | refine .geqT rfl rfl rfl (by omega) ?_ | refine .geqF rfl rfl rfl (by omega) ?_ | refine .eqlT rfl rfl rfl (by omega) ?_ | refine .eqlF rfl rfl rfl (by omega) ?_ | refine .neq rfl rfl rfl (fun hc => ?_) (fun hc => ?_)) | (show EG _ _ (⟨_, .call _ _, _, _⟩ :: _) _ _ _ _ _ _; first | refine .call rfl rfl (hO _) ?_ | refine .call rfl rfl (hN _) ?_ | refine .call rfl rfl (hC) ?_) | refine .store rfl rfl rfl rfl rfl hst ?_ | refine .skip rfl ?_ | refine .fin ?_ | refine .go rfl rfl rfl ?_ | refine .gono rfl rfl rfl ?_ | refine .skipn rfl ?_))
    rfl
   ·rw [List.getElem?_set_ne (by omega), hx1.2 i (by rw [List.length_append]; omega), hx.2 i hi]
  ·have hlt : noteI c num = -1 := by unfold noteI; rw [if_neg hn]
   rw [hlt] at hN
   refine ⟨_, none, 0, 0, ?_, hx, ⟨_, List.getElem?_concat_length, rfl, rfl⟩, fun _ => rfl⟩
   refine call_of rfl Fn.thread_New rfl rfl ?_
   repeat' (first | (show ER _ _ _ _ _ _ _; first | refine .seq ?_ | refine .reg ?_ | refine .yes rfl ?_ | refine .no rfl ?_ | refine .skip ?_ | refine .block ?_ | refine .endB ?_ | refine .exit rfl ?_ | refine .br rfl (fun hc => ?_) (fun hc => ?_) | refine .scope ?_ | refine .inScope ?_ | refine .label ?_ | refine .ret rfl ?_ | refine .nil rfl ?_) | (show EG _ _ _ _ _ _ _ _ _; first | refine .mov rfl rfl ?_ | refine .lload rfl rfl rfl rfl ?_ | refine .laddr rfl rfl rfl ?_ | (show EG _ _ (⟨_, .bin _ _ _, _, _⟩ :: _) _ _ _ _ _ _; first | refine .lss rfl rfl rfl (fun hc => ?_) (fun hc => ?_) | refine .leq rfl rfl rfl (fun hc => ?_) (fun hc => ?_) | refine .gtr rfl rfl rfl (fun hc => ?_) (fun hc => ?_) | refine .geqT rfl rfl rfl (by omega) ?_ | refine .geqF rfl rfl rfl (by omega) ?_ | refine .eqlT rfl rfl rfl (by omega) ?_ | refine .eqlF rfl rfl rfl (by omega) ?_ | refine .neq rfl rfl rfl (fun hc => ?_) (fun hc => ?_)) | (show EG _ _ (⟨_, .call _ _, _, _⟩ :: _) _ _ _ _ _ _; first | refine .call rfl rfl (hO _) ?_ | refine .call rfl rfl (hN _) ?_) | refine .skip rfl ?_ | refine .fin ?_ | refine .go rfl rfl rfl ?_ | refine .gono rfl rfl rfl ?_ | refine .skipn rfl ?_))
   rfl
 ·have hO := fun lo => of_spec lo (h ++ [.row (trow0 c num (.slice none 0 0)) false]) c
  unfold layV at hO
  rw [if_neg hm, if_neg hm] at hO
  refine ⟨_, none, 0, 0, ?_, hx, ⟨_, List.getElem?_concat_length, rfl, rfl⟩, fun _ => rfl⟩
  refine call_of rfl Fn.thread_New rfl rfl ?_
  repeat' (first | (show ER _ _ _ _ _ _ _; first | refine .seq ?_ | refine .reg ?_ | refine .yes rfl ?_ | refine .no rfl ?_ | refine .skip ?_ | refine .block ?_ | refine .endB ?_ | refine .exit rfl ?_ | refine .br rfl (fun hc => ?_) (fun hc => ?_) | refine .scope ?_ | refine .inScope ?_ | refine .label ?_ | refine .ret rfl ?_ | refine .nil rfl ?_) | (show EG _ _ _ _ _ _ _ _ _; first | refine .mov rfl rfl ?_ | refine .lload rfl rfl rfl rfl ?_ | refine .laddr rfl rfl rfl ?_ | (show EG _ _ (⟨_, .bin _ _ _, _, _⟩ :: _) _ _ _ _ _ _; first | refine .lss rfl rfl rfl (fun hc => ?_) (fun hc => ?_) | refine .leq rfl rfl rfl (fun hc => ?_) (fun hc => ?_) | refine .gtr rfl rfl rfl (fun hc => ?_) (fun hc => ?_) | refine .geqT rfl rfl rfl (by omega) ?_ | refine .geqF rfl rfl rfl (by omega) ?_ | refine .eqlT rfl rfl rfl (by omega) ?_ | refine .eqlF rfl rfl rfl (by omega) ?_ | refine .neq rfl rfl rfl (fun hc => ?_) (fun hc => ?_)) | refine .call rfl rfl (hO _) ?_ | refine .skip rfl ?_ | refine .fin ?_ | refine .go rfl rfl rfl ?_ | refine .gono rfl rfl rfl ?_ | refine .skipn rfl ?_))
  rfl

section
variable {lo : Nat} {H : Heap}
theorem thn_holds (lo : Nat) (H : Heap) : callR En lo Id.thread_Thread_Holds [.pointer none] H = some (.tuple #[I 0, I 0, .bool false], H) := callR_iff.2 ⟨60, by kernel_rfl⟩
theorem thn_done (lo : Nat) (H : Heap) : callR En lo Id.thread_Thread_Done [.pointer none] H = some (.bool true, H) := callR_iff.2 ⟨60, by kernel_rfl⟩
theorem thn_busy (lo : Nat) (H : Heap) : callR En lo Id.thread_Thread_Busy [.pointer none] H = some (.bool false, H) := callR_iff.2 ⟨60, by kernel_rfl⟩
theorem thn_step (lo : Nat) (H : Heap) (m : Value) : callR En lo Id.thread_Thread_Step [.pointer none, m] H = some (.slice none 0 0, H) := by
 have hD := fun lo => thn_done lo H
 refine call_of rfl Fn.thread_Thread_Step rfl rfl ?_
 repeat' (first | (show ER _ _ _ _ _ _ _; first | refine .seq ?_ | refine .reg ?_ | refine .yes rfl ?_ | refine .no rfl ?_ | refine .skip ?_ | refine .block ?_ | refine .endB ?_ | refine .exit rfl ?_ | refine .br rfl (fun hc => ?_) (fun hc => ?_) | refine .scope ?_ | refine .inScope ?_ | refine .label ?_ | refine .ret rfl ?_ | refine .nil rfl ?_) | (show EG _ _ _ _ _ _ _ _ _; first | refine .mov rfl rfl ?_ | refine .lload rfl rfl rfl rfl ?_ | refine .laddr rfl rfl rfl ?_ | (show EG _ _ (⟨_, .bin _ _ _, _, _⟩ :: _) _ _ _ _ _ _; first | refine .lss rfl rfl rfl (fun hc => ?_) (fun hc => ?_) | refine .leq rfl rfl rfl (fun hc => ?_) (fun hc => ?_) | refine .gtr rfl rfl rfl (fun hc => ?_) (fun hc => ?_) | refine .geq rfl rfl rfl (fun hc => ?_) (fun hc => ?_) | refine .eql rfl rfl rfl (fun hc => ?_) (fun hc => ?_) | refine .neq rfl rfl rfl (fun hc => ?_) (fun hc => ?_)) | refine .call rfl rfl (hD _) ?_ | refine .skip rfl ?_ | refine .fin ?_ | refine .go rfl rfl rfl ?_ | refine .gono rfl rfl rfl ?_ | refine .skipn rfl ?_))
 rfl

variable {b k cap : Nat} {ba : Option Addr}
theorem th_done (t : TNew H b (.slice ba k cap)) (lo : Nat) : callR En lo Id.thread_Thread_Done [.pointer (some ⟨b, 0, none⟩)] H = some (.bool (decide (k = 0)), H) := by
 have l4 := t.l4
 refine call_of rfl Fn.thread_Thread_Done rfl rfl ?_
 by_cases hk : k = 0
 ·rw [decide_eq_true hk]
  repeat' (first | (show ER _ _ _ _ _ _ _; first | refine .seq ?_ | refine .reg ?_ | refine .yes rfl ?_ | refine .no rfl ?_ | refine .skip ?_ | refine .block ?_ | refine .endB ?_ | refine .exit rfl ?_ | refine .br rfl (fun hc => ?_) (fun hc => ?_) | refine .scope ?_ | refine .inScope ?_ | refine .label ?_ | refine .ret rfl ?_ | refine .nil rfl ?_) | (show EG _ _ _ _ _ _ _ _ _; first | refine .mov rfl rfl ?_ | refine .lload rfl rfl rfl rfl ?_ | refine .laddr rfl rfl rfl ?_ | (show EG _ _ (⟨_, .bin _ _ _, _, _⟩ :: _) _ _ _ _ _ _; first | refine .lss rfl rfl rfl (fun hc => ?_) (fun hc => ?_) | refine .leq rfl rfl rfl (fun hc => ?_) (fun hc => ?_) | refine .gtr rfl rfl rfl (fun hc => ?_) (fun hc => ?_) | refine .geq rfl rfl rfl (fun hc => ?_) (fun hc => ?_) | refine .eqlT rfl rfl rfl (by omega) ?_ | refine .eqlF rfl rfl rfl (by omega) ?_ | refine .neq rfl rfl rfl (fun hc => ?_) (fun hc => ?_)) | refine .load rfl rfl (l4) ?_ | refine .skip rfl ?_ | refine .fin ?_ | refine .go rfl rfl rfl ?_ | refine .gono rfl rfl rfl ?_ | refine .skipn rfl ?_))
  rfl
 ·rw [decide_eq_false hk]
  repeat' (first | (show ER _ _ _ _ _ _ _; first | refine .seq ?_ | refine .reg ?_ | refine .yes rfl ?_ | refine .no rfl ?_ | refine .skip ?_ | refine .block ?_ | refine .endB ?_ | refine .exit rfl ?_ | refine .br rfl (fun hc => ?_) (fun hc => ?_) | refine .scope ?_ | refine .inScope ?_ | refine .label ?_ | refine .ret rfl ?_ | refine .nil rfl ?_) | (show EG _ _ _ _ _ _ _ _ _; first | refine .mov rfl rfl ?_ | refine .lload rfl rfl rfl rfl ?_ | refine .laddr rfl rfl rfl ?_ | (show EG _ _ (⟨_, .bin _ _ _, _, _⟩ :: _) _ _ _ _ _ _; first | refine .lss rfl rfl rfl (fun hc => ?_) (fun hc => ?_) | refine .leq rfl rfl rfl (fun hc => ?_) (fun hc => ?_) | refine .gtr rfl rfl rfl (fun hc => ?_) (fun hc => ?_) | refine .geq rfl rfl rfl (fun hc => ?_) (fun hc => ?_) | refine .eqlT rfl rfl rfl (by omega) ?_ | refine .eqlF rfl rfl rfl (by omega) ?_ | refine .neq rfl rfl rfl (fun hc => ?_) (fun hc => ?_)) | refine .load rfl rfl (l4) ?_ | refine .skip rfl ?_ | refine .fin ?_ | refine .go rfl rfl rfl ?_ | refine .gono rfl rfl rfl ?_ | refine .skipn rfl ?_))
  rfl
theorem th_busy {ov : Value} (t : TNew H b ov) (lo : Nat) : callR En lo Id.thread_Thread_Busy [.pointer (some ⟨b, 0, none⟩)] H = some (.bool false, H) := by
 have l5 := t.l5
 refine call_of rfl Fn.thread_Thread_Busy rfl rfl ?_
 repeat' (first | (show ER _ _ _ _ _ _ _; first | refine .seq ?_ | refine .reg ?_ | refine .yes rfl ?_ | refine .no rfl ?_ | refine .skip ?_ | refine .block ?_ | refine .endB ?_ | refine .exit rfl ?_ | refine .br rfl (fun hc => ?_) (fun hc => ?_) | refine .scope ?_ | refine .inScope ?_ | refine .label ?_ | refine .ret rfl ?_ | refine .nil rfl ?_) | (show EG _ _ _ _ _ _ _ _ _; first | refine .mov rfl rfl ?_ | refine .lload rfl rfl rfl rfl ?_ | refine .laddr rfl rfl rfl ?_ | (show EG _ _ (⟨_, .bin _ _ _, _, _⟩ :: _) _ _ _ _ _ _; first | refine .lss rfl rfl rfl (fun hc => ?_) (fun hc => ?_) | refine .leq rfl rfl rfl (fun hc => ?_) (fun hc => ?_) | refine .gtr rfl rfl rfl (fun hc => ?_) (fun hc => ?_) | refine .geq rfl rfl rfl (fun hc => ?_) (fun hc => ?_) | refine .eql rfl rfl rfl (fun hc => ?_) (fun hc => ?_) | refine .neqT rfl rfl rfl (by omega) ?_ | refine .neqF rfl rfl rfl (by omega) ?_) | refine .load rfl rfl (l5) ?_ | refine .skip rfl ?_ | refine .fin ?_ | refine .go rfl rfl rfl ?_ | refine .gono rfl rfl rfl ?_ | refine .skipn rfl ?_))
 rfl
theorem th_step_done (t : TNew H b (.slice ba 0 cap)) (lo : Nat) (m : Value) : callR En lo Id.thread_Thread_Step [.pointer (some ⟨b, 0, none⟩), m] H = some (.slice none 0 0, H) := by
 have hD := th_done t
 rw [decide_eq_true rfl] at hD
 refine call_of rfl Fn.thread_Thread_Step rfl rfl ?_
 repeat' (first | (show ER _ _ _ _ _ _ _; first | refine .seq ?_ | refine .reg ?_ | refine .yes rfl ?_ | refine .no rfl ?_ | refine .skip ?_ | refine .block ?_ | refine .endB ?_ | refine .exit rfl ?_ | refine .br rfl (fun hc => ?_) (fun hc => ?_) | refine .scope ?_ | refine .inScope ?_ | refine .label ?_ | refine .ret rfl ?_ | refine .nil rfl ?_) | (show EG _ _ _ _ _ _ _ _ _; first | refine .mov rfl rfl ?_ | refine .lload rfl rfl rfl rfl ?_ | refine .laddr rfl rfl rfl ?_ | (show EG _ _ (⟨_, .bin _ _ _, _, _⟩ :: _) _ _ _ _ _ _; first | refine .lss rfl rfl rfl (fun hc => ?_) (fun hc => ?_) | refine .leq rfl rfl rfl (fun hc => ?_) (fun hc => ?_) | refine .gtr rfl rfl rfl (fun hc => ?_) (fun hc => ?_) | refine .geq rfl rfl rfl (fun hc => ?_) (fun hc => ?_) | refine .eql rfl rfl rfl (fun hc => ?_) (fun hc => ?_) | refine .neq rfl rfl rfl (fun hc => ?_) (fun hc => ?_)) | refine .call rfl rfl (hD _) ?_ | refine .skip rfl ?_ | refine .fin ?_ | refine .go rfl rfl rfl ?_ | refine .gono rfl rfl rfl ?_ | refine .skipn rfl ?_))
 rfl
theorem th_step_nil (t : TNew H b (.slice ba k cap)) (lo : Nat) : callR En lo Id.thread_Thread_Step [.pointer (some ⟨b, 0, none⟩), .nilIface] H = some (.slice none 0 0, H) := by
 have hD := th_done t
 refine call_of rfl Fn.thread_Thread_Step rfl rfl ?_
 by_cases hk : k = 0
 ·rw [decide_eq_true hk] at hD
  repeat' (first | (show ER _ _ _ _ _ _ _; first | refine .seq ?_ | refine .reg ?_ | refine .yes rfl ?_ | refine .no rfl ?_ | refine .skip ?_ | refine .block ?_ | refine .endB ?_ | refine .exit rfl ?_ | refine .br rfl (fun hc => ?_) (fun hc => ?_) | refine .scope ?_ | refine .inScope ?_ | refine .label ?_ | refine .ret rfl ?_ | refine .nil rfl ?_) | (show EG _ _ _ _ _ _ _ _ _; first | refine .mov rfl rfl ?_ | refine .lload rfl rfl rfl rfl ?_ | refine .laddr rfl rfl rfl ?_ | (show EG _ _ (⟨_, .bin _ _ _, _, _⟩ :: _) _ _ _ _ _ _; first | refine .lss rfl rfl rfl (fun hc => ?_) (fun hc => ?_) | refine .leq rfl rfl rfl (fun hc => ?_) (fun hc => ?_) | refine .gtr rfl rfl rfl (fun hc => ?_) (fun hc => ?_) | refine .geq rfl rfl rfl (fun hc => ?_) (fun hc => ?_) | refine .eql rfl rfl rfl (fun hc => ?_) (fun hc => ?_) | refine .neq rfl rfl rfl (fun hc => ?_) (fun hc => ?_)) | refine .call rfl rfl (hD _) ?_ | refine .skip rfl ?_ | refine .fin ?_ | refine .go rfl rfl rfl ?_ | refine .gono rfl rfl rfl ?_ | refine .skipn rfl ?_))
  rfl
 ·rw [decide_eq_false hk] at hD
  repeat' (first | (show ER _ _ _ _ _ _ _; first | refine .seq ?_ | refine .reg ?_ | refine .yes rfl ?_ | refine .no rfl ?_ | refine .skip ?_ | refine .block ?_ | refine .endB ?_ | refine .exit rfl ?_ | refine .br rfl (fun hc => ?_) (fun hc => ?_) | refine .scope ?_ | refine .inScope ?_ | refine .label ?_ | refine .ret rfl ?_ | refine .nil rfl ?_) | (show EG _ _ _ _ _ _ _ _ _; first | refine .mov rfl rfl ?_ | refine .lload rfl rfl rfl rfl ?_ | refine .laddr rfl rfl rfl ?_ | (show EG _ _ (⟨_, .bin _ _ _, _, _⟩ :: _) _ _ _ _ _ _; first | refine .lss rfl rfl rfl (fun hc => ?_) (fun hc => ?_) | refine .leq rfl rfl rfl (fun hc => ?_) (fun hc => ?_) | refine .gtr rfl rfl rfl (fun hc => ?_) (fun hc => ?_) | refine .geq rfl rfl rfl (fun hc => ?_) (fun hc => ?_) | refine .eql rfl rfl rfl (fun hc => ?_) (fun hc => ?_) | refine .neq rfl rfl rfl (fun hc => ?_) (fun hc => ?_)) | refine .call rfl rfl (hD _) ?_ | refine .skip rfl ?_ | refine .fin ?_ | refine .go rfl rfl rfl ?_ | refine .gono rfl rfl rfl ?_ | refine .skipn rfl ?_))
  rfl
end

theorem start_any (lo : Nat) (h : Heap) (c : Cfg) (hlo : lo ≤ h.length) : ∃ v H', callR En lo Id.sidingslaw19_start [.agg c.cs.toArray] h = some (v, H') ∧ Ext h H' := by
 by_cases hm : c.may
 ·obtain ⟨H', h1, _, h2, _⟩ := start_may lo h hm hlo
  exact ⟨_, _, h1, h2⟩
 ·exact ⟨_, _, start_not lo h hm, .refl _⟩

theorem nil_run (c : Cfg) {h : Heap} {v : Value} {l : List Op4} (hv : Sl h 4 v (ocs l)) (ht : TightV v l.length) (hb : l.length * 32 ≤ 2 ^ 47) : ∃ h', callR En 0 Id.sidingslaw19_ThreadNil [.agg c.cs.toArray, v] h = some (.bool true, h') := by
 have key : ∃ u h', callR En 0 Id.sidingslaw19_ThreadNil [.agg c.cs.toArray, v] h = some (u, h') ∧ u = .bool true := by
  refine call_ex rfl Fn.sidingslaw19_ThreadNil rfl rfl ?_
  rw [← ocs_length] at ht hb
  refine Exists.elim (tnew_spec 0 c (-1) (Nat.zero_le _) hv ht hb) fun H1 hq => Exists.elim hq fun b1 hq => Exists.elim hq fun k1 hq => Exists.elim hq fun c1 hq => ?_
  have hN1 := hq.1
  have hx1 := hq.2.1
  have t1 := hq.2.2.1
  have e1 := hq.2.2.2 (by decide)
  clear hq
  subst e1
  refine Exists.elim (tnew_spec 0 c 0 (Nat.zero_le _) (hv.ext hx1) ht hb) fun H2 hq => Exists.elim hq fun b2 hq => Exists.elim hq fun k2 hq => Exists.elim hq fun c2 hq => ?_
  have hN2 := hq.1
  have hx2 := hq.2.1
  have t2 := hq.2.2.1
  clear hq
  have hX := fun lo => th_step_nil t2 lo
  refine Exists.elim (start_any 0 H2 c (Nat.zero_le _)) fun m1 hq => Exists.elim hq fun H3 hq => ?_
  have hS1 := hq.1
  have hx3 := hq.2
  clear hq
  have t13 := (t1.ext hx2).ext hx3
  have hD1 := fun lo => th_done t13 lo
  rw [decide_eq_true rfl] at hD1
  refine Exists.elim (start_any 0 H3 c (Nat.zero_le _)) fun m2 hq => Exists.elim hq fun H4 hq => ?_
  have hS2 := hq.1
  have hx4 := hq.2
  clear hq
  have t14 := t13.ext hx4
  have hD2 := fun lo m => th_step_done t14 lo m
  have hB := fun lo => th_busy ((t2.ext hx3).ext hx4) lo
  repeat' (first | (show ER _ _ _ _ _ _ _; first | refine .seq ?_ | refine .reg ?_ | refine .yes rfl ?_ | refine .no rfl ?_ | refine .skip ?_ | refine .block ?_ | refine .endB ?_ | refine .exit rfl ?_ | refine .br rfl (fun hc => ?_) (fun hc => ?_) | refine .scope ?_ | refine .inScope ?_ | refine .label ?_ | refine .ret rfl ?_ | refine .nil rfl ?_) | (show EG _ _ _ _ _ _ _ _ _; first | refine .mov rfl rfl ?_ | refine .lload rfl rfl rfl rfl ?_ | refine .laddr rfl rfl rfl ?_ | (show EG _ _ (⟨_, .bin _ _ _, _, _⟩ :: _) _ _ _ _ _ _; first | refine .lss rfl rfl rfl (fun hc => ?_) (fun hc => ?_) | refine .leq rfl rfl rfl (fun hc => ?_) (fun hc => ?_) | refine .gtr rfl rfl rfl (fun hc => ?_) (fun hc => ?_) | refine .geq rfl rfl rfl (fun hc => ?_) (fun hc => ?_) | refine .eqlT rfl rfl rfl (by omega) ?_ | refine .eqlF rfl rfl rfl (by omega) ?_ | refine .neq rfl rfl rfl (fun hc => ?_) (fun hc => ?_)) | (show EG _ _ (⟨_, .call _ _, _, _⟩ :: _) _ _ _ _ _ _; first | refine .call rfl rfl (thn_holds _ _) ?_ | refine .call rfl rfl (thn_done _ _) ?_ | refine .call rfl rfl (thn_busy _ _) ?_ | refine .call rfl rfl (thn_step _ _ _) ?_ | refine .call rfl rfl (hN1) ?_ | refine .call rfl rfl (hN2) ?_ | refine .call rfl rfl (hX _) ?_ | refine .call rfl rfl (hS1) ?_ | refine .call rfl rfl (hS2) ?_ | refine .call rfl rfl (hD1 _) ?_ | refine .call rfl rfl (hD2 _ _) ?_ | refine .call rfl rfl (hB _) ?_ | refine .call rfl rfl (live_c _ _) ?_) | refine .skip rfl ?_ | refine .fin ?_ | refine .go rfl rfl rfl ?_ | refine .gono rfl rfl rfl ?_ | refine .skipn rfl ?_))
  rfl
 obtain ⟨u, h', h1, rfl⟩ := key
 exact ⟨h', h1⟩
end Go.Proofs.YtnfcohmbcgfhbaaGreat

/- Ops as an argument. -/
set_option linter.unusedVariables false
set_option linter.unusedSimpArgs false
set_option linter.constructorNameAsVariable false
namespace Go.Proofs.YtnfcohmbcgfhbaaGreat
open Go Go.Ir Go.ChangeShapes Go.WideShapes

theorem bytesOf40 : Tryz.prog.bytesOf 40 = 32 := by kernel_rfl
theorem cellsOf40 : Tryz.prog.cellsOf 40 = 4 := by kernel_rfl
theorem open_T40 {H : Type} {enc : TypeId × Value → H} {W : World} {base : Nat} {spare : Nat → Bool} {held : Bool} {n : Nat} {cs : List Value} {x : DataW H × List MemPlace} (h : DataW.trod enc Tryz.prog W base spare held n 40 cs = some x) :
  ∃ (a0 : Int) (a1 : Int) (a2 : Int) (a3 : Int), cs = [.int .i64 a0, .int .i64 a1, .int .i64 a2, .int .i64 a3] := by
 obtain ⟨xs, m, _, _, hlen, hxl, hf⟩ := DataW.trod_struct Tryz.underlying40 h
 rw [cellsOf40] at hlen
 have hx : xs.length = 4 := hxl
 have g0 : DataW.trod enc Tryz.prog W base spare held m 3 ((cs.drop 0).take (Tryz.prog.cellsOf 3)) = xs[0]? := hf 0 _ rfl
 rw [cellsOf3, List.getElem?_eq_getElem (by omega)] at g0
 have g1 : DataW.trod enc Tryz.prog W base spare held m 3 ((cs.drop 1).take (Tryz.prog.cellsOf 3)) = xs[1]? := hf 1 _ rfl
 rw [cellsOf3, List.getElem?_eq_getElem (by omega)] at g1
 have g2 : DataW.trod enc Tryz.prog W base spare held m 3 ((cs.drop 2).take (Tryz.prog.cellsOf 3)) = xs[2]? := hf 2 _ rfl
 rw [cellsOf3, List.getElem?_eq_getElem (by omega)] at g2
 have g3 : DataW.trod enc Tryz.prog W base spare held m 3 ((cs.drop 3).take (Tryz.prog.cellsOf 3)) = xs[3]? := hf 3 _ rfl
 rw [cellsOf3, List.getElem?_eq_getElem (by omega)] at g3
 obtain ⟨b0, e0, _, _⟩ := DataW.trod_int Tryz.underlying3 g0
 obtain ⟨b1, e1, _, _⟩ := DataW.trod_int Tryz.underlying3 g1
 obtain ⟨b2, e2, _, _⟩ := DataW.trod_int Tryz.underlying3 g2
 obtain ⟨b3, e3, _, _⟩ := DataW.trod_int Tryz.underlying3 g3
 refine ⟨b0, b1, b2, b3, List.ext_getElem? fun i => ?_⟩
 match i with
 | 0 => exact take1 cs e0
 | 1 => exact take1 cs e1
 | 2 => exact take1 cs e2
 | 3 => exact take1 cs e3
 | i + 4 => rw [List.getElem?_eq_none (by omega)]; rfl



section
variable {H : Type} {enc : TypeId × Value → H} {W : World} {base : Nat} {spare : Nat → Bool} {held : Bool} {n : Nat} {cs : List Value} {x : DataW H × List MemPlace}
theorem open_op (h : DataW.trod enc Tryz.prog W base spare held n 40 cs = some x) : ∃ t : Op4, cs = t.cs := by
 obtain ⟨a0, a1, a2, a3, rfl⟩ := open_T40 h
 exact ⟨⟨a0, a1, a2, a3⟩, rfl⟩
instance : Inhabited Op4 := ⟨⟨0, 0, 0, 0⟩⟩
set_option maxRecDepth 8000 in
theorem open_ops {E : Emb} {h : Heap} (s : Sim W.heap.size W E h W) (hro : RoH h) {b0 : Nat} {r : Reach} {v0 : Value} {d0 : DataW H} {p0 : List MemPlace} (hval : Value.okWide Tryz.prog W r b0 24 v0) (hd : DataW.Trod enc Tryz.prog W base spare held 24 v0 d0 p0) :
  ∃ E' h' v l, Sim W.heap.size W E' h' W ∧ E.le E' ∧ RoH h' ∧ Ext h h' ∧ VR E' v v0 ∧ Sl h' 4 v (ocs l) ∧ TightV v l.length :=
 open_row Op4.cs Tryz.underlying24 cellsOf40 (by decide) (fun a => ⟨rfl, rfl, rfl⟩) open_op s hro hval hd
theorem row_reach {P : Program} {S T : Nat} {ts : List TypeId} {ds : List (DataW H)} (hsz : (DataW.weightsEach P ts ds).all (· ≤ reachBytes) = true) {j : Nat} {E : Emb} {v v0 : Value} {d0 : DataW H} {p0 : List MemPlace} {k : Nat} (ht : ts[j]? = some S) (hdd : ds[j]? = some d0)
  (hu : P.underlying S = some (.slice T)) (hd : DataW.Trod enc P W base spare held S v0 d0 p0) (hv : VR E v v0) (ht' : TightV v k) : k * P.bytesOf T ≤ 2 ^ 47 := by
 rcases ht' with ⟨_, rfl⟩ | ⟨a, cap, rfl, hs, _⟩
 ·omega
 ·have : ∃ c cap', v0 = .slice (some c) k cap' := by
   cases hv with
   | slice _ c _ _ e0 _ _ _ _ => exact ⟨c, _, rfl⟩
   | loose _ c _ _ _ e0 hsp _ _ _ => rw [hs] at hsp; cases hsp
  obtain ⟨c, cap1, rfl⟩ := this
  obtain ⟨fu, hk⟩ := hd
  rcases Deep.open_slice hu hk with ⟨hc, _⟩ | ⟨a', len', cap', m, k', D, Pl, hc, _, _, _, _, hx, _⟩
  ·simp [Value.cells] at hc
  ·have hc : Value.slice (some c) k cap1 = .slice (some a') len' cap' := by simpa [Value.cells] using hc
   injection hc with e1 e2 e3
   subst e2
   injection hx with hx _
   subst hx
   have h1 := sized_slice hsz ht hdd hu
   rw [List.length_map, List.length_range] at h1
   have h2 : k * P.bytesOf T ≤ (k + ((List.range (m - k)).map fun j => D (k + j)).length) * P.bytesOf T := Nat.mul_le_mul_right _ (Nat.le_add_right _ _)
   have h3 := reachBytes_lt
   omega
end
end Go.Proofs.YtnfcohmbcgfhbaaGreat

