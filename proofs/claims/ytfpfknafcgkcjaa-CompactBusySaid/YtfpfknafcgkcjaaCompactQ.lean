/- Cells as they are at first; a pass that is none: the law's run. -/
import Derived.Test.YtfpfknafcgkcjaaCompactP

set_option linter.unusedVariables false
set_option linter.unusedSimpArgs false
namespace Go.Proofs.Ytfpfknafcgkcjaa
open Go Go.Ir

theorem start_may (lo : Nat) (h : Heap) {c : Cfg} (hm : c.may) (hlo : lo ≤ h.length) :
  ∃ H', callR En lo Id.sidingslaw18_start [.agg c.cs.toArray] h = some (ptrC (newC h), H') ∧ IsC H' (newC h) (startL c) (List.replicate c.A.toNat 0) ∧ Ext h H' ∧ H'.length = h.length + 3 := by
 have hm' := hm
 unfold Cfg.may at hm'
 have hW := fun lo => words_spec lo h c
 rw [if_pos hm] at hW
 refine Exists.elim (show ∃ nw : Nat, wordsI c = nw ∧ 1 ≤ nw ∧ nw ≤ 4096 from ⟨(wordsI c).toNat, by unfold wordsI; omega, by unfold wordsI; omega, by unfold wordsI; omega⟩) fun nw hnw => ?_
 refine Exists.elim (show ∃ nb : Nat, c.A = nb ∧ nb ≤ 4096 from ⟨c.A.toNat, by omega, by omega⟩) fun nb hnb => ?_
 have hN : ∀ lo, callR En lo Id.cells_New [I (wordsI c), I c.A] h = some (ptrC (newC h), newH h nw nb) := fun lo => by
  rw [hnw.1, hnb.1]; exact new_spec lo h hnw.2.1 hnw.2.2 hnb.2
 have hnh := newH_is h nw nb
 have hl : (newH h nw nb).length = h.length + 3 := by simp [newH]
 refine Exists.elim (start_spec (lo := lo) hm hnh.1 ⟨by simp [newC]; omega, by simp [newC]; omega⟩ (by rw [List.length_replicate, hnw.1]; simp) (by rw [List.length_replicate, hnb.1])) fun H' hq => ?_
 have hS := hq.1
 have hC := hq.2.1
 have ho := hq.2.2
 clear hq
 refine ⟨H', ?_, by rw [hnb.1]; exact hC, ⟨by rw [ho.len, hl]; omega, fun i hi => ?_⟩, by rw [ho.len, hl]⟩
 ·refine call_of rfl Fn.sidingslaw18_start rfl rfl ?_
  repeat' (first | (show ER _ _ _ _ _ _ _; first | refine ER.seq ?_ | refine ER.reg ?_ | refine ER.yes rfl ?_ | refine ER.no rfl ?_ | refine ER.skip ?_ | refine ER.block ?_ | refine ER.endB ?_ | refine ER.exit rfl ?_ | refine ER.br rfl (fun hc => ?_) (fun hc => ?_) | refine ER.scope ?_ | refine ER.inScope ?_ | refine ER.label ?_ | refine ER.ret rfl ?_ | refine ER.nil rfl ?_) | (show EG _ _ _ _ _ _ _ _ _; first | refine EG.mov rfl rfl ?_ | refine EG.lload rfl rfl rfl rfl ?_ | refine EG.laddr rfl rfl rfl ?_ | (show EG _ _ (⟨_, .bin _ _ _, _, _⟩ :: _) _ _ _ _ _ _; first | refine EG.lss rfl rfl rfl (fun hc => ?_) (fun hc => ?_) | refine EG.leq rfl rfl rfl (fun hc => ?_) (fun hc => ?_) | refine EG.gtr rfl rfl rfl (fun hc => ?_) (fun hc => ?_) | refine EG.geq rfl rfl rfl (fun hc => ?_) (fun hc => ?_) | refine EG.eql rfl rfl rfl (fun hc => ?_) (fun hc => ?_) | refine EG.neqT rfl rfl rfl (by omega) ?_ | refine EG.neqF rfl rfl rfl (by omega) ?_) | (show EG _ _ (⟨_, .call _ _, _, _⟩ :: _) _ _ _ _ _ _; first | refine EG.call rfl rfl (hW _) ?_ | refine EG.call rfl rfl (hN _) ?_ | refine EG.call rfl rfl (hS) ?_) | refine EG.skip rfl ?_ | refine EG.fin ?_ | refine EG.go rfl rfl rfl ?_ | refine EG.gono rfl rfl rfl ?_ | refine EG.skipn rfl ?_))
  rfl
 ·rw [ho.same i (by simp [newC]; omega)]
  exact hnh.2.2 i hi

theorem start_not (lo : Nat) (h : Heap) {c : Cfg} (hm : ¬ c.may) : callR En lo Id.sidingslaw18_start [.agg c.cs.toArray] h = some (.pointer none, h) := by
 have hW := fun lo => words_spec lo h c
 rw [if_neg hm] at hW
 have hc := fun lo => cmay_spec lo h 0 c.A
 rw [show (inB 0 1 4096 && inB c.A 0 4096) = false by simp [inB]] at hc
 have hN : ∀ lo, callR En lo Id.cells_New [I 0, I c.A] h = some (.pointer none, h) := fun lo => by
  refine call_of rfl Fn.cells_New rfl rfl ?_
  repeat' (first | (show ER _ _ _ _ _ _ _; first | refine ER.seq ?_ | refine ER.reg ?_ | refine ER.yes rfl ?_ | refine ER.no rfl ?_ | refine ER.skip ?_ | refine ER.block ?_ | refine ER.endB ?_ | refine ER.exit rfl ?_ | refine ER.br rfl (fun hc => ?_) (fun hc => ?_) | refine ER.scope ?_ | refine ER.inScope ?_ | refine ER.label ?_ | refine ER.ret rfl ?_ | refine ER.nil rfl ?_) | (show EG _ _ _ _ _ _ _ _ _; first | refine EG.mov rfl rfl ?_ | refine EG.lload rfl rfl rfl rfl ?_ | refine EG.laddr rfl rfl rfl ?_ | (show EG _ _ (⟨_, .bin _ _ _, _, _⟩ :: _) _ _ _ _ _ _; first | refine EG.lss rfl rfl rfl (fun hc => ?_) (fun hc => ?_) | refine EG.leq rfl rfl rfl (fun hc => ?_) (fun hc => ?_) | refine EG.gtr rfl rfl rfl (fun hc => ?_) (fun hc => ?_) | refine EG.geq rfl rfl rfl (fun hc => ?_) (fun hc => ?_) | refine EG.eql rfl rfl rfl (fun hc => ?_) (fun hc => ?_) | refine EG.neq rfl rfl rfl (fun hc => ?_) (fun hc => ?_)) | refine EG.call rfl rfl (hc _) ?_ | refine EG.skip rfl ?_ | refine EG.fin ?_ | refine EG.go rfl rfl rfl ?_ | refine EG.gono rfl rfl rfl ?_ | refine EG.skipn rfl ?_))
  rfl
 refine call_of rfl Fn.sidingslaw18_start rfl rfl ?_
 repeat' (first | (show ER _ _ _ _ _ _ _; first | refine ER.seq ?_ | refine ER.reg ?_ | refine ER.yes rfl ?_ | refine ER.no rfl ?_ | refine ER.skip ?_ | refine ER.block ?_ | refine ER.endB ?_ | refine ER.exit rfl ?_ | refine ER.br rfl (fun hc => ?_) (fun hc => ?_) | refine ER.scope ?_ | refine ER.inScope ?_ | refine ER.label ?_ | refine ER.ret rfl ?_ | refine ER.nil rfl ?_) | (show EG _ _ _ _ _ _ _ _ _; first | refine EG.mov rfl rfl ?_ | refine EG.lload rfl rfl rfl rfl ?_ | refine EG.laddr rfl rfl rfl ?_ | (show EG _ _ (⟨_, .bin _ _ _, _, _⟩ :: _) _ _ _ _ _ _; first | refine EG.lss rfl rfl rfl (fun hc => ?_) (fun hc => ?_) | refine EG.leq rfl rfl rfl (fun hc => ?_) (fun hc => ?_) | refine EG.gtr rfl rfl rfl (fun hc => ?_) (fun hc => ?_) | refine EG.geq rfl rfl rfl (fun hc => ?_) (fun hc => ?_) | refine EG.eql rfl rfl rfl (fun hc => ?_) (fun hc => ?_) | refine EG.neq rfl rfl rfl (fun hc => ?_) (fun hc => ?_)) | (show EG _ _ (⟨_, .call _ _, _, _⟩ :: _) _ _ _ _ _ _; first | refine EG.call rfl rfl (hW _) ?_ | refine EG.call rfl rfl (hN _) ?_) | refine EG.skip rfl ?_ | refine EG.fin ?_ | refine EG.go rfl rfl rfl ?_ | refine EG.gono rfl rfl rfl ?_ | refine EG.skipn rfl ?_))
 rfl

theorem new_ptr (lo : Nat) (h : Heap) (c : Cfg) (hlo : lo ≤ h.length) : ∃ b H', callR En lo Id.compact_New [.agg c.cs.toArray] h = some (.pointer (some ⟨b, 0, none⟩), H') := by
 have hO := fun lo => of_spec lo h c
 by_cases hm : c.may
 ·rw [if_pos hm, layV_pos hm] at hO
  have key : ∃ v H', callR En lo Id.compact_New [.agg c.cs.toArray] h = some (v, H') ∧ ∃ b, v = .pointer (some ⟨b, 0, none⟩) := by
   refine call_ex rfl Fn.compact_New rfl rfl ?_
   repeat' (first | (show ER _ _ _ _ _ _ _; first | refine ER.seq ?_ | refine ER.reg ?_ | refine ER.yes rfl ?_ | refine ER.no rfl ?_ | refine ER.skip ?_ | refine ER.block ?_ | refine ER.endB ?_ | refine ER.exit rfl ?_ | refine ER.br rfl (fun hc => ?_) (fun hc => ?_) | refine ER.scope ?_ | refine ER.inScope ?_ | refine ER.label ?_ | refine ER.ret rfl ?_ | refine ER.nil rfl ?_) | (show EG _ _ _ _ _ _ _ _ _; first | refine EG.mov rfl rfl ?_ | refine EG.lload rfl rfl rfl rfl ?_ | refine EG.laddr rfl rfl rfl ?_ | (show EG _ _ (⟨_, .bin _ _ _, _, _⟩ :: _) _ _ _ _ _ _; first | refine EG.lss rfl rfl rfl (fun hc => ?_) (fun hc => ?_) | refine EG.leq rfl rfl rfl (fun hc => ?_) (fun hc => ?_) | refine EG.gtr rfl rfl rfl (fun hc => ?_) (fun hc => ?_) | refine EG.geq rfl rfl rfl (fun hc => ?_) (fun hc => ?_) | refine EG.eql rfl rfl rfl (fun hc => ?_) (fun hc => ?_) | refine EG.neqT rfl rfl rfl (by omega) ?_ | refine EG.neqF rfl rfl rfl (by omega) ?_) | refine EG.call rfl rfl (hO _) ?_ | refine EG.skip rfl ?_ | refine EG.fin ?_ | refine EG.go rfl rfl rfl ?_ | refine EG.gono rfl rfl rfl ?_ | refine EG.skipn rfl ?_))
   exact ⟨_, rfl⟩
  obtain ⟨v, H', h1, b, rfl⟩ := key
  exact ⟨b, H', h1⟩
 ·unfold layV at hO
  rw [if_neg hm, if_neg hm] at hO
  have key : ∃ v H', callR En lo Id.compact_New [.agg c.cs.toArray] h = some (v, H') ∧ ∃ b, v = .pointer (some ⟨b, 0, none⟩) := by
   refine call_ex rfl Fn.compact_New rfl rfl ?_
   repeat' (first | (show ER _ _ _ _ _ _ _; first | refine ER.seq ?_ | refine ER.reg ?_ | refine ER.yes rfl ?_ | refine ER.no rfl ?_ | refine ER.skip ?_ | refine ER.block ?_ | refine ER.endB ?_ | refine ER.exit rfl ?_ | refine ER.br rfl (fun hc => ?_) (fun hc => ?_) | refine ER.scope ?_ | refine ER.inScope ?_ | refine ER.label ?_ | refine ER.ret rfl ?_ | refine ER.nil rfl ?_) | (show EG _ _ _ _ _ _ _ _ _; first | refine EG.mov rfl rfl ?_ | refine EG.lload rfl rfl rfl rfl ?_ | refine EG.laddr rfl rfl rfl ?_ | (show EG _ _ (⟨_, .bin _ _ _, _, _⟩ :: _) _ _ _ _ _ _; first | refine EG.lss rfl rfl rfl (fun hc => ?_) (fun hc => ?_) | refine EG.leq rfl rfl rfl (fun hc => ?_) (fun hc => ?_) | refine EG.gtr rfl rfl rfl (fun hc => ?_) (fun hc => ?_) | refine EG.geq rfl rfl rfl (fun hc => ?_) (fun hc => ?_) | refine EG.eql rfl rfl rfl (fun hc => ?_) (fun hc => ?_) | refine EG.neqT rfl rfl rfl (by omega) ?_ | refine EG.neqF rfl rfl rfl (by omega) ?_) | refine EG.call rfl rfl (hO _) ?_ | refine EG.store rfl rfl rfl rfl rfl (st_row List.getElem?_concat_length hlo (Nat.le_of_ble_eq_true rfl) rfl) ?_ | refine EG.skip rfl ?_ | refine EG.fin ?_ | refine EG.go rfl rfl rfl ?_ | refine EG.gono rfl rfl rfl ?_ | refine EG.skipn rfl ?_))
   exact ⟨_, rfl⟩
  obtain ⟨v, H', h1, b, rfl⟩ := key
  exact ⟨b, H', h1⟩

theorem step_nilM (lo : Nat) (h : Heap) (v : Value) : callR En lo Id.compact_Machine_Step [.pointer none, .iface cellsT v] h = some (.tuple #[.agg #[I 1, I 0], .bool true], h) := callR_iff.2 ⟨60, by kernel_rfl⟩
theorem step_nilC (lo : Nat) (h : Heap) (b : Nat) : callR En lo Id.compact_Machine_Step [.pointer (some ⟨b, 0, none⟩), .nilIface] h = some (.tuple #[.agg #[I 1, I 0], .bool true], h) := callR_iff.2 ⟨60, by kernel_rfl⟩
theorem moving_nil (lo : Nat) (h : Heap) : callR En lo Id.compact_Machine_Moving [.pointer none] h = some (.tuple #[.agg #[I 0, I 0, I 0, I 0], .bool false], h) := callR_iff.2 ⟨60, by kernel_rfl⟩
theorem lowered_nil (lo : Nat) (h : Heap) : callR En lo Id.compact_Machine_Lowered [.pointer none] h = some (.bool false, h) := callR_iff.2 ⟨60, by kernel_rfl⟩

theorem nil_run (c : Cfg) : ∃ h', callR En 0 Id.sidingslaw18_CompactNil [.agg c.cs.toArray] [] = some (.bool true, h') := by
 have key : ∃ u h', callR En 0 Id.sidingslaw18_CompactNil [.agg c.cs.toArray] [] = some (u, h') ∧ u = .bool true := by
  refine call_ex rfl Fn.sidingslaw18_CompactNil rfl rfl ?_
  have hst : ∃ v H1, callR En 0 Id.sidingslaw18_start [.agg c.cs.toArray] [] = some (v, H1) := by
   by_cases hm : c.may
   ·obtain ⟨H', h1, _⟩ := start_may 0 [] hm (Nat.le_refl _)
    exact ⟨_, _, h1⟩
   ·exact ⟨_, _, start_not 0 [] hm⟩
  refine Exists.elim hst fun v hq => Exists.elim hq fun H1 hS => ?_
  refine Exists.elim (new_ptr 0 H1 c (Nat.zero_le _)) fun b hq => Exists.elim hq fun H2 hN => ?_
  repeat' (first | (show ER _ _ _ _ _ _ _; first | refine ER.seq ?_ | refine ER.reg ?_ | refine ER.yes rfl ?_ | refine ER.no rfl ?_ | refine ER.skip ?_ | refine ER.block ?_ | refine ER.endB ?_ | refine ER.exit rfl ?_ | refine ER.br rfl (fun hc => ?_) (fun hc => ?_) | refine ER.scope ?_ | refine ER.inScope ?_ | refine ER.label ?_ | refine ER.ret rfl ?_ | refine ER.nil rfl ?_) | (show EG _ _ _ _ _ _ _ _ _; first | refine EG.mov rfl rfl ?_ | refine EG.lload rfl rfl rfl rfl ?_ | refine EG.laddr rfl rfl rfl ?_ | (show EG _ _ (⟨_, .bin _ _ _, _, _⟩ :: _) _ _ _ _ _ _; first | refine EG.lss rfl rfl rfl (fun hc => ?_) (fun hc => ?_) | refine EG.leq rfl rfl rfl (fun hc => ?_) (fun hc => ?_) | refine EG.gtr rfl rfl rfl (fun hc => ?_) (fun hc => ?_) | refine EG.geq rfl rfl rfl (fun hc => ?_) (fun hc => ?_) | refine EG.eql rfl rfl rfl (fun hc => ?_) (fun hc => ?_) | refine EG.neq rfl rfl rfl (fun hc => ?_) (fun hc => ?_)) | (show EG _ _ (⟨_, .call _ _, _, _⟩ :: _) _ _ _ _ _ _; first | refine EG.call rfl rfl (hS) ?_ | refine EG.call rfl rfl (hN) ?_ | refine EG.call rfl rfl (step_nilM _ _ _) ?_ | refine EG.call rfl rfl (step_nilC _ _ _) ?_ | refine EG.call rfl rfl (moving_nil _ _) ?_ | refine EG.call rfl rfl (lowered_nil _ _) ?_ | refine EG.call rfl rfl (live_c _ _) ?_) | refine EG.skip rfl ?_ | refine EG.fin ?_ | refine EG.go rfl rfl rfl ?_ | refine EG.gono rfl rfl rfl ?_ | refine EG.skipn rfl ?_))
  rfl
 obtain ⟨u, h', h1, rfl⟩ := key
 exact ⟨h', h1⟩
end Go.Proofs.Ytfpfknafcgkcjaa
