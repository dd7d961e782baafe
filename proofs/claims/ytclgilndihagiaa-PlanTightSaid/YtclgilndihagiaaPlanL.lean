/- Where any objects go: the law's run. -/
import Derived.Test.YtclgilndihagiaaPlanR

set_option linter.unusedVariables false
set_option linter.unusedSimpArgs false
namespace Go.Proofs.Ytclgilndihagiaa
open Go Go.Ir

theorem live_c (lo : Nat) (h : Heap) : callR En lo Id.sidingslaw17_live [] h = some (.bool true, h) := callR_iff.2 ⟨1, by kernel_rfl⟩

theorem own_sp (lo : Nat) {h : Heap} {v : Value} {l : List Obj} (hv : Sl h 4 v (css l)) (hl : l.length ≤ 64) : callR En lo Id.sidingslaw17_own [v] h = some (made h 4 (css l)) := own_spec pr rfl hv hl

theorem made_nil {h : Heap} {l : List Obj} (h0 : l = []) : (made h 4 (css l)).1 = .slice none 0 0 := by subst h0; rfl

theorem slides_run {h : Heap} {v : Value} {l : List Obj} {arena : Int} (hv : Sl h 4 v (css l)) : ∃ h', callR En 0 Id.sidingslaw17_PlanSlides [v, .int .i64 arena] h = some (.bool true, h') := by
  have key : ∃ u h', callR En 0 Id.sidingslaw17_PlanSlides [v, .int .i64 arena] h = some (u, h') ∧ u = .bool true := by
    refine call_ex rfl Fn.sidingslaw17_PlanSlides rfl rfl ?_
    refine Exists.elim hv.len fun base hq => Exists.elim hq fun cap hve => ?_
    rw [css_length] at hve
    by_cases hl : l.length ≤ 64
    · have hO := fun lo => own_sp lo hv hl
      have h1 := made_sl (h := h) (css_len l)
      have h1n := fun h0 => made_nil (h := h) (l := l) h0
      generalize made h 4 (css l) = p1 at hO h1 h1n
      obtain ⟨v1, hp1⟩ := p1
      simp only at h1 h1n
      have hP := fun lo => planSlide_spec lo (arena := arena) h1.1 h1n hl
      have hR := fun lo (hh : Heap) (e : Ext h hh) => refSlide_spec lo (arena := arena) (hv.ext e) (by omega)
      have hsl := slideL_len (sortR l)
      rw [sortR_len] at hsl
      subst hve
      rcases okN_cases arena l with h0 | h0
      · simp only [h0, slideR, if_true] at hP hR
        have h2 := made_sl (h := hp1) (mcs_len (slideL (sortR l)).1)
        generalize made hp1 4 (mcs (slideL (sortR l)).1) = p2 at hP h2
        obtain ⟨v2, hp2⟩ := p2
        simp only at hP h2
        have hR2 := fun lo => hR lo hp2 (h1.2.trans h2.2)
        have h3 := made_sl (h := hp2) (mcs_len (slideL (sortR l)).1)
        generalize made hp2 4 (mcs (slideL (sortR l)).1) = p3 at hR2 h3
        obtain ⟨v3, hp3⟩ := p3
        simp only at hR2 h3
        have hM := fun lo => moves_spec lo (h2.1.ext h3.2) (by omega)
        have h4 := made_sl (h := hp3) (mcs_len (slideL (sortR l)).1)
        generalize made hp3 4 (mcs (slideL (sortR l)).1) = p4 at hM h4
        obtain ⟨v4, hp4⟩ := p4
        simp only at hM h4
        have hE := fun lo => Moves_spec lo h4.1 (h3.1.ext h4.2) (by omega)
        repeat' (first | (show EndsR _ _ _ _ _ _ _; first | refine EndsR.seq ?_ | refine EndsR.reg ?_ | refine EndsR.yes rfl ?_ | refine EndsR.no rfl ?_ | refine EndsR.skip ?_ | refine EndsR.block ?_ | refine EndsR.endB ?_ | refine EndsR.exit rfl ?_ | refine EndsR.br rfl (fun hc => ?_) (fun hc => ?_) | refine EndsR.scope ?_ | refine EndsR.inScope ?_ | refine EndsR.label ?_ | refine EndsR.ret rfl ?_ | refine EndsR.nil rfl ?_) | (show EndsG _ _ _ _ _ _ _ _ _; first | refine EndsG.mov rfl rfl ?_ | refine EndsG.lload rfl rfl rfl rfl ?_ | refine EndsG.laddr rfl rfl rfl ?_ | refine EndsG.lss rfl rfl rfl (fun hc => ?_) (fun hc => ?_) | refine EndsG.leq rfl rfl rfl (fun hc => ?_) (fun hc => ?_) | refine EndsG.geq rfl rfl rfl (fun hc => ?_) (fun hc => ?_) | refine EndsG.neq rfl rfl rfl (fun hc => ?_) (fun hc => ?_) | refine EndsG.call rfl rfl (hO _) ?_ | refine EndsG.call rfl rfl (hP _) ?_ | refine EndsG.call rfl rfl (hR2 _) ?_ | refine EndsG.call rfl rfl (hM _) ?_ | refine EndsG.call rfl rfl (hE _) ?_ | refine EndsG.call rfl rfl (live_c _ _) ?_ | refine EndsG.gtrT rfl rfl rfl (by omega) ?_ | refine EndsG.gtrF rfl rfl rfl (by omega) ?_ | refine EndsG.eqlT rfl rfl rfl (by omega) ?_ | refine EndsG.eqlF rfl rfl rfl (by omega) ?_ | refine EndsG.skip rfl ?_ | refine EndsG.fin ?_ | refine EndsG.go rfl rfl rfl ?_ | refine EndsG.gono rfl rfl rfl ?_ | refine EndsG.skipn rfl ?_))
        rfl
      · simp only [h0, slideR] at hP hR
        rw [if_neg (by decide)] at hP
        have hR2 := fun lo => hR lo hp1 h1.2
        rw [if_neg (by decide)] at hR2
        have hnil : Sl hp1 4 (.slice none 0 0) (mcs []) := ⟨fun e he => (by cases he), .inl ⟨rfl, none, 0, rfl⟩⟩
        have hM := fun lo => moves_spec lo hnil (by simp)
        have hE := fun lo => Moves_spec lo hnil hnil (by simp)
        rw [show made hp1 4 (mcs []) = (.slice none 0 0, hp1) from rfl] at hM
        repeat' (first | (show EndsR _ _ _ _ _ _ _; first | refine EndsR.seq ?_ | refine EndsR.reg ?_ | refine EndsR.yes rfl ?_ | refine EndsR.no rfl ?_ | refine EndsR.skip ?_ | refine EndsR.block ?_ | refine EndsR.endB ?_ | refine EndsR.exit rfl ?_ | refine EndsR.br rfl (fun hc => ?_) (fun hc => ?_) | refine EndsR.scope ?_ | refine EndsR.inScope ?_ | refine EndsR.label ?_ | refine EndsR.ret rfl ?_ | refine EndsR.nil rfl ?_) | (show EndsG _ _ _ _ _ _ _ _ _; first | refine EndsG.mov rfl rfl ?_ | refine EndsG.lload rfl rfl rfl rfl ?_ | refine EndsG.laddr rfl rfl rfl ?_ | refine EndsG.lss rfl rfl rfl (fun hc => ?_) (fun hc => ?_) | refine EndsG.leq rfl rfl rfl (fun hc => ?_) (fun hc => ?_) | refine EndsG.geq rfl rfl rfl (fun hc => ?_) (fun hc => ?_) | refine EndsG.neq rfl rfl rfl (fun hc => ?_) (fun hc => ?_) | refine EndsG.call rfl rfl (hO _) ?_ | refine EndsG.call rfl rfl (hP _) ?_ | refine EndsG.call rfl rfl (hR2 _) ?_ | refine EndsG.call rfl rfl (hM _) ?_ | refine EndsG.call rfl rfl (hE _) ?_ | refine EndsG.call rfl rfl (live_c _ _) ?_ | refine EndsG.gtrT rfl rfl rfl (by omega) ?_ | refine EndsG.gtrF rfl rfl rfl (by omega) ?_ | refine EndsG.eqlT rfl rfl rfl (by omega) ?_ | refine EndsG.eqlF rfl rfl rfl (by omega) ?_ | refine EndsG.skip rfl ?_ | refine EndsG.fin ?_ | refine EndsG.go rfl rfl rfl ?_ | refine EndsG.gono rfl rfl rfl ?_ | refine EndsG.skipn rfl ?_))
        rfl
    · subst hve
      repeat' (first | (show EndsR _ _ _ _ _ _ _; first | refine EndsR.seq ?_ | refine EndsR.reg ?_ | refine EndsR.yes rfl ?_ | refine EndsR.no rfl ?_ | refine EndsR.skip ?_ | refine EndsR.block ?_ | refine EndsR.endB ?_ | refine EndsR.exit rfl ?_ | refine EndsR.br rfl (fun hc => ?_) (fun hc => ?_) | refine EndsR.scope ?_ | refine EndsR.inScope ?_ | refine EndsR.label ?_ | refine EndsR.ret rfl ?_ | refine EndsR.nil rfl ?_) | (show EndsG _ _ _ _ _ _ _ _ _; first | refine EndsG.mov rfl rfl ?_ | refine EndsG.lload rfl rfl rfl rfl ?_ | refine EndsG.laddr rfl rfl rfl ?_ | refine EndsG.lss rfl rfl rfl (fun hc => ?_) (fun hc => ?_) | refine EndsG.leq rfl rfl rfl (fun hc => ?_) (fun hc => ?_) | refine EndsG.geq rfl rfl rfl (fun hc => ?_) (fun hc => ?_) | refine EndsG.eql rfl rfl rfl (fun hc => ?_) (fun hc => ?_) | refine EndsG.neq rfl rfl rfl (fun hc => ?_) (fun hc => ?_) | refine EndsG.call rfl rfl (live_c _ _) ?_ | refine EndsG.gtrT rfl rfl rfl (by omega) ?_ | refine EndsG.gtrF rfl rfl rfl (by omega) ?_ | refine EndsG.skip rfl ?_ | refine EndsG.fin ?_ | refine EndsG.go rfl rfl rfl ?_ | refine EndsG.gono rfl rfl rfl ?_ | refine EndsG.skipn rfl ?_))
      rfl
  obtain ⟨u, h', h1, rfl⟩ := key
  exact ⟨h', h1⟩
end Go.Proofs.Ytclgilndihagiaa
