/- Calls of one thread are one before the other: the law's run. -/
import Derived.Test.YtgdlplhglpinaaaEventP

set_option linter.unusedVariables false
set_option linter.unusedSimpArgs false
namespace Go.Proofs.Ytgdlplhglpinaaa
open Go Go.Ir

theorem dnN_take {C : List Cl} {i : Nat} {c : Cl} (h : C[i]? = some c) : dnN (C.take (i + 1)) = dnN (C.take i) + (if c.dn then 1 else 0) := by
  obtain ⟨hi, he⟩ := List.getElem?_eq_some_iff.1 h
  rw [List.take_succ_eq_append_getElem hi, he]
  simp [dnN, List.countP_append]

/-- What a call's cells are, of a row of calls. -/
theorem ccs_cells {h : Heap} {v : Value} {C : List Cl} (hv : Sl h 10 v (ccs C)) (h0 : 0 < C.length) : ∃ a cap, v = .slice (some a) C.length cap ∧ ∀ (i : Nat) (c : Cl), C[i]? = some c →
    loadV h none ⟨a.block, a.off + i * 10 + 0, none⟩ = some (.int .i64 c.th) ∧ loadV h none ⟨a.block, a.off + i * 10 + 7, none⟩ = some (.bool c.dn) ∧
    loadV h none ⟨a.block, a.off + i * 10 + 8, none⟩ = some (.int .i64 c.fr) ∧ loadV h none ⟨a.block, a.off + i * 10 + 9, none⟩ = some (.int .i64 c.to) ∧ loadV h (some 10) ⟨a.block, a.off + i * 10, none⟩ = some (.agg c.cs.toArray) := by
  obtain ⟨a, cap, h1, h2⟩ := hv.row (ccs_ne h0)
  rw [ccs_length] at h1
  refine ⟨a, cap, h1, fun i c hc => ?_⟩
  obtain ⟨g1, g2⟩ := h2 i _ (ccs_get hc)
  exact ⟨g1 0 _ rfl, g1 7 _ rfl, g1 8 _ rfl, g1 9 _ rfl, g2⟩

theorem callsV_sl {h : Heap} {C : List Cl} : Sl (callsV h (some C)).2 10 (made h 10 (ccs C)).1 (ccs C) ∧ Ext h (callsV h (some C)).2 := made_sl (ccs_len C)

set_option maxHeartbeats 1600000 in
theorem turns_run {h : Heap} {v : Value} {l : List Ev} (hv : Sl h 8 v (ecs l)) : ∃ h', callR En 0 Id.sidingslaw08_EventTurns [v] h = some (.bool true, h') := by
  have key : ∃ u h', callR En 0 Id.sidingslaw08_EventTurns [v] h = some (u, h') ∧ u = .bool true := by
    refine call_ex rfl Fn.sidingslaw08_EventTurns rfl rfl ?_
    refine Exists.elim hv.len fun base hq => Exists.elim hq fun cap hve => ?_
    rw [ecs_length] at hve
    by_cases hl : l.length ≤ 60
    · have hC := fun lo => calls_spec lo hv (by omega)
      have hK := fun lo => check_spec lo hv (by omega)
      cases hr : callsP l with
      | none =>
        rw [hr] at hC hK
        have hC : ∀ lo, callR En lo Id.event_Calls [v] h = some (.tuple #[.slice none 0 0, .int .i64 2], h) := hC
        have hK : ∀ lo, callR En lo Id.event_Check [v] h = some (.int .i64 2, h) := hK
        subst hve
        repeat' (first | (show EndsR _ _ _ _ _ _ _; first | refine EndsR.seq ?_ | refine EndsR.reg ?_ | refine EndsR.yes rfl ?_ | refine EndsR.no rfl ?_ | refine EndsR.skip ?_ | refine EndsR.block ?_ | refine EndsR.endB ?_ | refine EndsR.exit rfl ?_ | refine EndsR.br rfl (fun hc => ?_) (fun hc => ?_) | refine EndsR.scope ?_ | refine EndsR.inScope ?_ | refine EndsR.label ?_ | refine EndsR.ret rfl ?_ | refine EndsR.nil rfl ?_) | (show EndsG _ _ _ _ _ _ _ _ _; first | refine EndsG.mov rfl rfl ?_ | refine EndsG.lload rfl rfl rfl rfl ?_ | refine EndsG.laddr rfl rfl rfl ?_ | (show EndsG _ _ (⟨_, .bin _ _ _, _, _⟩ :: _) _ _ _ _ _ _; first | refine EndsG.lss rfl rfl rfl (fun hc => ?_) (fun hc => ?_) | refine EndsG.leq rfl rfl rfl (fun hc => ?_) (fun hc => ?_) | refine EndsG.gtrT rfl rfl rfl (by omega) ?_ | refine EndsG.gtrF rfl rfl rfl (by omega) ?_ | refine EndsG.geq rfl rfl rfl (fun hc => ?_) (fun hc => ?_) | refine EndsG.eqlT rfl rfl rfl (by omega) ?_ | refine EndsG.eqlF rfl rfl rfl (by omega) ?_ | refine EndsG.neqT rfl rfl rfl (by omega) ?_ | refine EndsG.neqF rfl rfl rfl (by omega) ?_) | (show EndsG _ _ (⟨_, .call _ _, _, _⟩ :: _) _ _ _ _ _ _; first | refine EndsG.call rfl rfl (hC _) ?_ | refine EndsG.call rfl rfl (hK _) ?_ | refine EndsG.call rfl rfl (live_c _ _) ?_) | refine EndsG.skip rfl ?_ | refine EndsG.fin ?_ | refine EndsG.go rfl rfl rfl ?_ | refine EndsG.gono rfl rfl rfl ?_ | refine EndsG.skipn rfl ?_))
        rfl
      | some C =>
        rw [hr] at hC
        refine Exists.elim (inv_calls hr) fun W hI => ?_
        have hms := callsV_sl (h := h) (C := C)
        have hC : ∀ lo, callR En lo Id.event_Calls [v] h = some (.tuple #[(made h 10 (ccs C)).1, .int .i64 0], (callsV h (some C)).2) := hC
        generalize (callsV h (some C)).2 = h2 at hC hms
        generalize (made h 10 (ccs C)).1 = v2 at hC hms
        have hcount := hI.count
        have hv2 := hms.1
        refine Exists.elim hv2.len fun b2 hq => Exists.elim hq fun cap2 hve2 => ?_
        rw [ccs_length] at hve2
        subst hve hve2
        repeat' (first | (show EndsR _ _ _ _ _ _ _; first | refine EndsR.seq ?_ | refine EndsR.reg ?_ | refine EndsR.yes rfl ?_ | refine EndsR.no rfl ?_ | refine EndsR.skip ?_ | refine EndsR.block ?_ | refine EndsR.endB ?_ | refine EndsR.exit rfl ?_ | refine EndsR.br rfl (fun hc => ?_) (fun hc => ?_) | refine EndsR.scope ?_ | refine EndsR.inScope ?_ | refine EndsR.label ?_ | refine EndsR.ret rfl ?_ | refine EndsR.nil rfl ?_) | (show EndsG _ _ _ _ _ _ _ _ _; first | refine EndsG.mov rfl rfl ?_ | refine EndsG.lload rfl rfl rfl rfl ?_ | refine EndsG.laddr rfl rfl rfl ?_ | (show EndsG _ _ (⟨_, .bin _ _ _, _, _⟩ :: _) _ _ _ _ _ _; first | refine EndsG.lss rfl rfl rfl (fun hc => ?_) (fun hc => ?_) | refine EndsG.leq rfl rfl rfl (fun hc => ?_) (fun hc => ?_) | refine EndsG.gtrT rfl rfl rfl (by omega) ?_ | refine EndsG.gtrF rfl rfl rfl (by omega) ?_ | refine EndsG.geq rfl rfl rfl (fun hc => ?_) (fun hc => ?_) | refine EndsG.eql rfl rfl rfl (fun hc => ?_) (fun hc => ?_) | refine EndsG.neqT rfl rfl rfl (by omega) ?_ | refine EndsG.neqF rfl rfl rfl (by omega) ?_) | refine EndsG.call rfl rfl (hC _) ?_ | refine EndsG.skip rfl ?_ | refine EndsG.fin ?_ | refine EndsG.go rfl rfl rfl ?_ | refine EndsG.gono rfl rfl rfl ?_ | refine EndsG.skipn rfl ?_))
        refine .loop (fun n f H => H = h2 ∧ ∃ i : Nat, n + i = C.length ∧ f = [(0, .slice base l.length cap), (3, .slice b2 C.length cap2), (5, N (i + dnN (C.take i))), (6, N i)]) (n := C.length) ⟨rfl, 0, rfl, rfl⟩ ?_
        rintro n f H ⟨rfl, i, hn, rfl⟩ next
        have hdl : dnN (C.take i) ≤ 60 := by
          have : dnN (C.take i) ≤ (C.take i).length := List.countP_le_length
          rw [List.length_take] at this
          omega
        by_cases hi : i < C.length
        · have hgi : C[i]? = some C[i] := List.getElem?_eq_getElem hi
          generalize C[i] = c at hgi
          refine Exists.elim (ccs_cells hv2 (by omega)) fun a hq => Exists.elim hq fun cap' hq => ?_
          have hva := hq.1
          have hld := hq.2
          injection hva with e1 e2 e3
          subst e1
          have hd := dnN_take hgi
          have l0 := (hld i c hgi).1
          have l7 := (hld i c hgi).2.1
          have l8 := (hld i c hgi).2.2.1
          have lA := (hld i c hgi).2.2.2.2
          cases hdn : c.dn
          all_goals
            rw [hdn] at l7 hd
            repeat' (first | (show EndsR _ _ _ _ _ _ _; first | refine EndsR.seq ?_ | refine EndsR.reg ?_ | refine EndsR.yes rfl ?_ | refine EndsR.no rfl ?_ | refine EndsR.skip ?_ | refine EndsR.block ?_ | refine EndsR.endB ?_ | refine EndsR.exit rfl ?_ | refine EndsR.br rfl (fun hc => ?_) (fun hc => ?_) | refine EndsR.scope ?_ | refine EndsR.inScope ?_ | refine EndsR.label ?_ | refine EndsR.ret rfl ?_ | refine EndsR.nil rfl ?_) | (show EndsG _ _ _ _ _ _ _ _ _; first | refine EndsG.mov rfl rfl ?_ | refine EndsG.lload rfl rfl rfl rfl ?_ | refine EndsG.laddr rfl rfl rfl ?_ | (show EndsG _ _ (⟨_, .bin _ _ _, _, _⟩ :: _) _ _ _ _ _ _; first | refine EndsG.lssT rfl rfl rfl (by omega) ?_ | refine EndsG.lssF rfl rfl rfl (by omega) ?_ | refine EndsG.leq rfl rfl rfl (fun hc => ?_) (fun hc => ?_) | refine EndsG.gtr rfl rfl rfl (fun hc => ?_) (fun hc => ?_) | refine EndsG.geq rfl rfl rfl (fun hc => ?_) (fun hc => ?_) | refine EndsG.eql rfl rfl rfl (fun hc => ?_) (fun hc => ?_) | refine EndsG.neq rfl rfl rfl (fun hc => ?_) (fun hc => ?_) | refine EndsG.addN rfl rfl rfl (by omega) ?_ | refine EndsG.addN (b := 1) rfl rfl rfl (by omega) ?_ | refine EndsG.subN rfl rfl rfl (by omega) ?_ | refine EndsG.subN (b := 1) rfl rfl rfl (by omega) ?_) | refine EndsG.load rfl rfl (l7) ?_ | refine EndsG.iaddr rfl rfl rfl (hi) ?_ | refine EndsG.skip rfl ?_ | refine EndsG.fin ?_ | refine EndsG.go rfl rfl rfl ?_ | refine EndsG.gono rfl rfl rfl ?_ | refine EndsG.skipn rfl ?_))
            refine .loop (fun m f H' => H' = H ∧ ∃ k : Nat, m + k = i ∧ f = [(0, .slice base l.length cap), (3, .slice (some a) C.length cap2), (5, N (i + 1 + dnN (C.take (i + 1)))), (6, N i), (7, N k)]) (n := i)
              ⟨rfl, 0, rfl, by first | (rw [hd, show i + 1 + (dnN (C.take i) + if true = true then 1 else 0) = i + dnN (C.take i) + 1 + 1 by simp; omega]; rfl) | (rw [hd, show i + 1 + (dnN (C.take i) + if false = true then 1 else 0) = i + dnN (C.take i) + 1 by simp; omega]; rfl)⟩ ?_
            rintro m f H' ⟨rfl, k, hm, rfl⟩ nextk
            by_cases hk : k < i
            · have hkC : k < C.length := by omega
              have hgk : C[k]? = some C[k] := List.getElem?_eq_getElem hkC
              generalize C[k] = d at hgk
              have hf := hI.rise k i d c hk hgk hgi
              have ht := hI.turn k i d c hk hgk hgi
              have k0 := (hld k d hgk).1
              have k7 := (hld k d hgk).2.1
              have k8 := (hld k d hgk).2.2.1
              have kA := (hld k d hgk).2.2.2.2
              clear hld
              by_cases hth : d.th = c.th
              · have hB : ∀ lo, callR En lo Id.event_Before [.agg d.cs.toArray, .agg c.cs.toArray] H' = some (.bool true, H') := fun lo => by
                  rw [before_spec, befB, (ht hth).1, decide_eq_true (ht hth).2]; rfl
                rw [(ht hth).1] at k7
                repeat' (first | (show EndsR _ _ _ _ _ _ _; first | refine EndsR.seq ?_ | refine EndsR.reg ?_ | refine EndsR.yes rfl ?_ | refine EndsR.no rfl ?_ | refine EndsR.skip ?_ | refine EndsR.block ?_ | refine EndsR.endB ?_ | refine EndsR.exit rfl ?_ | refine EndsR.br rfl (fun hc => ?_) (fun hc => ?_) | refine EndsR.scope ?_ | refine EndsR.inScope ?_ | refine EndsR.label ?_ | refine EndsR.ret rfl ?_ | refine EndsR.nil rfl ?_) | (show EndsG _ _ _ _ _ _ _ _ _; first | refine EndsG.mov rfl rfl ?_ | refine EndsG.lload rfl rfl rfl rfl ?_ | refine EndsG.laddr rfl rfl rfl ?_ | (show EndsG _ _ (⟨_, .bin _ _ _, _, _⟩ :: _) _ _ _ _ _ _; first | refine EndsG.lssT rfl rfl rfl (by omega) ?_ | refine EndsG.lssF rfl rfl rfl (by omega) ?_ | refine EndsG.leq rfl rfl rfl (fun hc => ?_) (fun hc => ?_) | refine EndsG.gtr rfl rfl rfl (fun hc => ?_) (fun hc => ?_) | refine EndsG.geqT rfl rfl rfl (by omega) ?_ | refine EndsG.geqF rfl rfl rfl (by omega) ?_ | refine EndsG.eqlT rfl rfl rfl (by omega) ?_ | refine EndsG.eqlF rfl rfl rfl (by omega) ?_ | refine EndsG.neq rfl rfl rfl (fun hc => ?_) (fun hc => ?_) | refine EndsG.addN rfl rfl rfl (by omega) ?_ | refine EndsG.addN (b := 1) rfl rfl rfl (by omega) ?_ | refine EndsG.subN rfl rfl rfl (by omega) ?_ | refine EndsG.subN (b := 1) rfl rfl rfl (by omega) ?_) | (show EndsG _ _ (⟨_, .load _ _, _, _⟩ :: _) _ _ _ _ _ _; first | refine EndsG.load rfl rfl (k0) ?_ | refine EndsG.load rfl rfl (l0) ?_ | refine EndsG.load rfl rfl (k7) ?_ | refine EndsG.load rfl rfl (kA) ?_ | refine EndsG.load rfl rfl (lA) ?_ | refine EndsG.load rfl rfl (k8) ?_ | refine EndsG.load rfl rfl (l8) ?_) | refine EndsG.call rfl rfl (hB _) ?_ | (show EndsG _ _ (⟨_, .iaddr _ _ _ _, _, _⟩ :: _) _ _ _ _ _ _; first | refine EndsG.iaddr rfl rfl rfl (hi) ?_ | refine EndsG.iaddr rfl rfl rfl (hkC) ?_) | refine EndsG.skip rfl ?_ | refine EndsG.fin ?_ | refine EndsG.go rfl rfl rfl ?_ | refine EndsG.gono rfl rfl rfl ?_ | refine EndsG.skipn rfl ?_))
                exact nextk (m - 1) _ _ (by omega) ⟨rfl, k + 1, by omega, rfl⟩
              · repeat' (first | (show EndsR _ _ _ _ _ _ _; first | refine EndsR.seq ?_ | refine EndsR.reg ?_ | refine EndsR.yes rfl ?_ | refine EndsR.no rfl ?_ | refine EndsR.skip ?_ | refine EndsR.block ?_ | refine EndsR.endB ?_ | refine EndsR.exit rfl ?_ | refine EndsR.br rfl (fun hc => ?_) (fun hc => ?_) | refine EndsR.scope ?_ | refine EndsR.inScope ?_ | refine EndsR.label ?_ | refine EndsR.ret rfl ?_ | refine EndsR.nil rfl ?_) | (show EndsG _ _ _ _ _ _ _ _ _; first | refine EndsG.mov rfl rfl ?_ | refine EndsG.lload rfl rfl rfl rfl ?_ | refine EndsG.laddr rfl rfl rfl ?_ | (show EndsG _ _ (⟨_, .bin _ _ _, _, _⟩ :: _) _ _ _ _ _ _; first | refine EndsG.lssT rfl rfl rfl (by omega) ?_ | refine EndsG.lssF rfl rfl rfl (by omega) ?_ | refine EndsG.leq rfl rfl rfl (fun hc => ?_) (fun hc => ?_) | refine EndsG.gtr rfl rfl rfl (fun hc => ?_) (fun hc => ?_) | refine EndsG.geqT rfl rfl rfl (by omega) ?_ | refine EndsG.geqF rfl rfl rfl (by omega) ?_ | refine EndsG.eqlT rfl rfl rfl (by omega) ?_ | refine EndsG.eqlF rfl rfl rfl (by omega) ?_ | refine EndsG.neq rfl rfl rfl (fun hc => ?_) (fun hc => ?_) | refine EndsG.addN rfl rfl rfl (by omega) ?_ | refine EndsG.addN (b := 1) rfl rfl rfl (by omega) ?_ | refine EndsG.subN rfl rfl rfl (by omega) ?_ | refine EndsG.subN (b := 1) rfl rfl rfl (by omega) ?_) | (show EndsG _ _ (⟨_, .load _ _, _, _⟩ :: _) _ _ _ _ _ _; first | refine EndsG.load rfl rfl (k0) ?_ | refine EndsG.load rfl rfl (l0) ?_ | refine EndsG.load rfl rfl (k8) ?_ | refine EndsG.load rfl rfl (l8) ?_) | (show EndsG _ _ (⟨_, .iaddr _ _ _ _, _, _⟩ :: _) _ _ _ _ _ _; first | refine EndsG.iaddr rfl rfl rfl (hi) ?_ | refine EndsG.iaddr rfl rfl rfl (hkC) ?_) | refine EndsG.skip rfl ?_ | refine EndsG.fin ?_ | refine EndsG.go rfl rfl rfl ?_ | refine EndsG.gono rfl rfl rfl ?_ | refine EndsG.skipn rfl ?_))
                exact nextk (m - 1) _ _ (by omega) ⟨rfl, k + 1, by omega, rfl⟩
            · repeat' (first | (show EndsR _ _ _ _ _ _ _; first | refine EndsR.seq ?_ | refine EndsR.reg ?_ | refine EndsR.yes rfl ?_ | refine EndsR.no rfl ?_ | refine EndsR.skip ?_ | refine EndsR.block ?_ | refine EndsR.endB ?_ | refine EndsR.exit rfl ?_ | refine EndsR.br rfl (fun hc => ?_) (fun hc => ?_) | refine EndsR.scope ?_ | refine EndsR.inScope ?_ | refine EndsR.label ?_ | refine EndsR.ret rfl ?_ | refine EndsR.nil rfl ?_) | (show EndsG _ _ _ _ _ _ _ _ _; first | refine EndsG.mov rfl rfl ?_ | refine EndsG.lload rfl rfl rfl rfl ?_ | refine EndsG.laddr rfl rfl rfl ?_ | (show EndsG _ _ (⟨_, .bin _ _ _, _, _⟩ :: _) _ _ _ _ _ _; first | refine EndsG.lssT rfl rfl rfl (by omega) ?_ | refine EndsG.lssF rfl rfl rfl (by omega) ?_ | refine EndsG.leq rfl rfl rfl (fun hc => ?_) (fun hc => ?_) | refine EndsG.gtr rfl rfl rfl (fun hc => ?_) (fun hc => ?_) | refine EndsG.geq rfl rfl rfl (fun hc => ?_) (fun hc => ?_) | refine EndsG.eql rfl rfl rfl (fun hc => ?_) (fun hc => ?_) | refine EndsG.neq rfl rfl rfl (fun hc => ?_) (fun hc => ?_) | refine EndsG.addN rfl rfl rfl (by omega) ?_ | refine EndsG.addN (b := 1) rfl rfl rfl (by omega) ?_ | refine EndsG.subN rfl rfl rfl (by omega) ?_ | refine EndsG.subN (b := 1) rfl rfl rfl (by omega) ?_) | refine EndsG.skip rfl ?_ | refine EndsG.fin ?_ | refine EndsG.go rfl rfl rfl ?_ | refine EndsG.gono rfl rfl rfl ?_ | refine EndsG.skipn rfl ?_))
              exact next (n - 1) _ _ (by omega) ⟨rfl, i + 1, by omega, rfl⟩
        · have hfull : ((i + dnN (C.take i) : Nat) : Int) = (l.length : Int) := by
            rw [List.take_of_length_le (by omega)]; omega
          repeat' (first | (show EndsR _ _ _ _ _ _ _; first | refine EndsR.seq ?_ | refine EndsR.reg ?_ | refine EndsR.yes rfl ?_ | refine EndsR.no rfl ?_ | refine EndsR.skip ?_ | refine EndsR.block ?_ | refine EndsR.endB ?_ | refine EndsR.exit rfl ?_ | refine EndsR.br rfl (fun hc => ?_) (fun hc => ?_) | refine EndsR.scope ?_ | refine EndsR.inScope ?_ | refine EndsR.label ?_ | refine EndsR.ret rfl ?_ | refine EndsR.nil rfl ?_) | (show EndsG _ _ _ _ _ _ _ _ _; first | refine EndsG.mov rfl rfl ?_ | refine EndsG.lload rfl rfl rfl rfl ?_ | refine EndsG.laddr rfl rfl rfl ?_ | (show EndsG _ _ (⟨_, .bin _ _ _, _, _⟩ :: _) _ _ _ _ _ _; first | refine EndsG.lssT rfl rfl rfl (by omega) ?_ | refine EndsG.lssF rfl rfl rfl (by omega) ?_ | refine EndsG.leq rfl rfl rfl (fun hc => ?_) (fun hc => ?_) | refine EndsG.gtr rfl rfl rfl (fun hc => ?_) (fun hc => ?_) | refine EndsG.geq rfl rfl rfl (fun hc => ?_) (fun hc => ?_) | refine EndsG.eqlT rfl rfl rfl (by omega) ?_ | refine EndsG.eqlF rfl rfl rfl (by omega) ?_ | refine EndsG.neq rfl rfl rfl (fun hc => ?_) (fun hc => ?_)) | refine EndsG.call rfl rfl (live_c _ _) ?_ | refine EndsG.skip rfl ?_ | refine EndsG.fin ?_ | refine EndsG.go rfl rfl rfl ?_ | refine EndsG.gono rfl rfl rfl ?_ | refine EndsG.skipn rfl ?_))
          rfl
    · subst hve
      repeat' (first | (show EndsR _ _ _ _ _ _ _; first | refine EndsR.seq ?_ | refine EndsR.reg ?_ | refine EndsR.yes rfl ?_ | refine EndsR.no rfl ?_ | refine EndsR.skip ?_ | refine EndsR.block ?_ | refine EndsR.endB ?_ | refine EndsR.exit rfl ?_ | refine EndsR.br rfl (fun hc => ?_) (fun hc => ?_) | refine EndsR.scope ?_ | refine EndsR.inScope ?_ | refine EndsR.label ?_ | refine EndsR.ret rfl ?_ | refine EndsR.nil rfl ?_) | (show EndsG _ _ _ _ _ _ _ _ _; first | refine EndsG.mov rfl rfl ?_ | refine EndsG.lload rfl rfl rfl rfl ?_ | refine EndsG.laddr rfl rfl rfl ?_ | (show EndsG _ _ (⟨_, .bin _ _ _, _, _⟩ :: _) _ _ _ _ _ _; first | refine EndsG.lss rfl rfl rfl (fun hc => ?_) (fun hc => ?_) | refine EndsG.leq rfl rfl rfl (fun hc => ?_) (fun hc => ?_) | refine EndsG.gtrT rfl rfl rfl (by omega) ?_ | refine EndsG.gtrF rfl rfl rfl (by omega) ?_ | refine EndsG.geq rfl rfl rfl (fun hc => ?_) (fun hc => ?_) | refine EndsG.eql rfl rfl rfl (fun hc => ?_) (fun hc => ?_) | refine EndsG.neq rfl rfl rfl (fun hc => ?_) (fun hc => ?_)) | refine EndsG.call rfl rfl (live_c _ _) ?_ | refine EndsG.skip rfl ?_ | refine EndsG.fin ?_ | refine EndsG.go rfl rfl rfl ?_ | refine EndsG.gono rfl rfl rfl ?_ | refine EndsG.skipn rfl ?_))
      rfl
  obtain ⟨u, h', h1, rfl⟩ := key
  exact ⟨h', h1⟩
end Go.Proofs.Ytgdlplhglpinaaa

/- Histories that are cut off: the law's run. -/
set_option linter.unusedVariables false
set_option linter.unusedSimpArgs false
namespace Go.Proofs.Ytgdlplhglpinaaa
open Go Go.Ir

theorem ecs_take {l : List Ev} {m : Nat} : (ecs l).take m = ecs (l.take m) := by simp [ecs, List.map_take]

theorem ccs_op {h : Heap} {v : Value} {C : List Cl} (hv : Sl h 10 v (ccs C)) {a : Addr} {len cap : Nat} (he : v = .slice (some a) len cap) {i : Nat} {c : Cl} (hc : C[i]? = some c) :
    loadV h (some 4) ⟨a.block, a.off + i * 10 + 1, none⟩ = some (.agg #[.int .i64 c.od, .int .i64 c.oh, .int .i64 c.oo, .int .i64 c.on]) := hv.part (ccs_get hc) (by decide) he

set_option maxHeartbeats 1600000 in
theorem cut_run {h : Heap} {v : Value} {l : List Ev} {m : Int} (hv : Sl h 8 v (ecs l)) (hT : TightV v l.length) : ∃ h', callR En 0 Id.sidingslaw08_EventCut [v, .int .i64 m] h = some (.bool true, h') := by
  have key : ∃ u h', callR En 0 Id.sidingslaw08_EventCut [v, .int .i64 m] h = some (u, h') ∧ u = .bool true := by
    refine call_ex rfl Fn.sidingslaw08_EventCut rfl rfl ?_
    refine Exists.elim hv.len fun base hq => Exists.elim hq fun cap hve => ?_
    rw [ecs_length] at hve
    by_cases hl : l.length ≤ 60
    · by_cases hm0 : m < 0
      · subst hve
        repeat' (first | (show EndsR _ _ _ _ _ _ _; first | refine EndsR.seq ?_ | refine EndsR.reg ?_ | refine EndsR.yes rfl ?_ | refine EndsR.no rfl ?_ | refine EndsR.skip ?_ | refine EndsR.block ?_ | refine EndsR.endB ?_ | refine EndsR.exit rfl ?_ | refine EndsR.br rfl (fun hc => ?_) (fun hc => ?_) | refine EndsR.scope ?_ | refine EndsR.inScope ?_ | refine EndsR.label ?_ | refine EndsR.ret rfl ?_ | refine EndsR.nil rfl ?_) | (show EndsG _ _ _ _ _ _ _ _ _; first | refine EndsG.mov rfl rfl ?_ | refine EndsG.lload rfl rfl rfl rfl ?_ | refine EndsG.laddr rfl rfl rfl ?_ | (show EndsG _ _ (⟨_, .bin _ _ _, _, _⟩ :: _) _ _ _ _ _ _; first | refine EndsG.lssT rfl rfl rfl (by omega) ?_ | refine EndsG.lssF rfl rfl rfl (by omega) ?_ | refine EndsG.leq rfl rfl rfl (fun hc => ?_) (fun hc => ?_) | refine EndsG.gtrT rfl rfl rfl (by omega) ?_ | refine EndsG.gtrF rfl rfl rfl (by omega) ?_ | refine EndsG.geq rfl rfl rfl (fun hc => ?_) (fun hc => ?_) | refine EndsG.eql rfl rfl rfl (fun hc => ?_) (fun hc => ?_) | refine EndsG.neq rfl rfl rfl (fun hc => ?_) (fun hc => ?_)) | refine EndsG.call rfl rfl (live_c _ _) ?_ | refine EndsG.skip rfl ?_ | refine EndsG.fin ?_ | refine EndsG.go rfl rfl rfl ?_ | refine EndsG.gono rfl rfl rfl ?_ | refine EndsG.skipn rfl ?_))
        rfl
      · by_cases hm1 : (l.length : Int) < m
        · subst hve
          repeat' (first | (show EndsR _ _ _ _ _ _ _; first | refine EndsR.seq ?_ | refine EndsR.reg ?_ | refine EndsR.yes rfl ?_ | refine EndsR.no rfl ?_ | refine EndsR.skip ?_ | refine EndsR.block ?_ | refine EndsR.endB ?_ | refine EndsR.exit rfl ?_ | refine EndsR.br rfl (fun hc => ?_) (fun hc => ?_) | refine EndsR.scope ?_ | refine EndsR.inScope ?_ | refine EndsR.label ?_ | refine EndsR.ret rfl ?_ | refine EndsR.nil rfl ?_) | (show EndsG _ _ _ _ _ _ _ _ _; first | refine EndsG.mov rfl rfl ?_ | refine EndsG.lload rfl rfl rfl rfl ?_ | refine EndsG.laddr rfl rfl rfl ?_ | (show EndsG _ _ (⟨_, .bin _ _ _, _, _⟩ :: _) _ _ _ _ _ _; first | refine EndsG.lssT rfl rfl rfl (by omega) ?_ | refine EndsG.lssF rfl rfl rfl (by omega) ?_ | refine EndsG.leq rfl rfl rfl (fun hc => ?_) (fun hc => ?_) | refine EndsG.gtrT rfl rfl rfl (by omega) ?_ | refine EndsG.gtrF rfl rfl rfl (by omega) ?_ | refine EndsG.geq rfl rfl rfl (fun hc => ?_) (fun hc => ?_) | refine EndsG.eql rfl rfl rfl (fun hc => ?_) (fun hc => ?_) | refine EndsG.neq rfl rfl rfl (fun hc => ?_) (fun hc => ?_)) | refine EndsG.call rfl rfl (live_c _ _) ?_ | refine EndsG.skip rfl ?_ | refine EndsG.fin ?_ | refine EndsG.go rfl rfl rfl ?_ | refine EndsG.gono rfl rfl rfl ?_ | refine EndsG.skipn rfl ?_))
          rfl
        · refine Exists.elim (show ∃ k : Nat, m = k from ⟨m.toNat, by omega⟩) fun k hk => ?_
          subst hk
          have hK := fun lo => check_spec lo hv (by omega)
          cases hr : callsP l with
          | none =>
            rw [hr] at hK
            have hK : ∀ lo, callR En lo Id.event_Check [v] h = some (.int .i64 2, h) := hK
            subst hve
            repeat' (first | (show EndsR _ _ _ _ _ _ _; first | refine EndsR.seq ?_ | refine EndsR.reg ?_ | refine EndsR.yes rfl ?_ | refine EndsR.no rfl ?_ | refine EndsR.skip ?_ | refine EndsR.block ?_ | refine EndsR.endB ?_ | refine EndsR.exit rfl ?_ | refine EndsR.br rfl (fun hc => ?_) (fun hc => ?_) | refine EndsR.scope ?_ | refine EndsR.inScope ?_ | refine EndsR.label ?_ | refine EndsR.ret rfl ?_ | refine EndsR.nil rfl ?_) | (show EndsG _ _ _ _ _ _ _ _ _; first | refine EndsG.mov rfl rfl ?_ | refine EndsG.lload rfl rfl rfl rfl ?_ | refine EndsG.laddr rfl rfl rfl ?_ | (show EndsG _ _ (⟨_, .bin _ _ _, _, _⟩ :: _) _ _ _ _ _ _; first | refine EndsG.lssT rfl rfl rfl (by omega) ?_ | refine EndsG.lssF rfl rfl rfl (by omega) ?_ | refine EndsG.leq rfl rfl rfl (fun hc => ?_) (fun hc => ?_) | refine EndsG.gtrT rfl rfl rfl (by omega) ?_ | refine EndsG.gtrF rfl rfl rfl (by omega) ?_ | refine EndsG.geq rfl rfl rfl (fun hc => ?_) (fun hc => ?_) | refine EndsG.eql rfl rfl rfl (fun hc => ?_) (fun hc => ?_) | refine EndsG.neqT rfl rfl rfl (by omega) ?_ | refine EndsG.neqF rfl rfl rfl (by omega) ?_) | (show EndsG _ _ (⟨_, .call _ _, _, _⟩ :: _) _ _ _ _ _ _; first | refine EndsG.call rfl rfl (hK _) ?_ | refine EndsG.call rfl rfl (live_c _ _) ?_) | refine EndsG.skip rfl ?_ | refine EndsG.fin ?_ | refine EndsG.go rfl rfl rfl ?_ | refine EndsG.gono rfl rfl rfl ?_ | refine EndsG.skipn rfl ?_))
            rfl
          | some A =>
            rw [hr] at hK
            have hK : ∀ lo, callR En lo Id.event_Check [v] h = some (.int .i64 0, h) := hK
            have hC := fun lo => calls_spec lo hv (by omega)
            rw [hr] at hC
            have hA1 := callsV_sl (h := h) (C := A)
            have hC : ∀ lo, callR En lo Id.event_Calls [v] h = some (.tuple #[(made h 10 (ccs A)).1, .int .i64 0], (callsV h (some A)).2) := hC
            generalize (callsV h (some A)).2 = h2 at hC hA1
            generalize (made h 10 (ccs A)).1 = vA at hC hA1
            refine Exists.elim (hv.take (hT.imp (fun x => ⟨x.1, by rw [ecs_length]; exact x.2⟩) (fun x => by rw [ecs_length]; exact x)) (k := k) (by rw [ecs_length]; omega)) fun v' hv' => ?_
            have hsl := hv'.1
            have hvs := hv'.2.1.ext hA1.2
            rw [ecs_take] at hvs
            refine Exists.elim (cut_law (m := k) (by omega) hr) fun B hB => ?_
            have hD := fun lo => calls_spec lo hvs (by rw [List.length_take]; omega)
            rw [hB.1] at hD
            have hB1 := callsV_sl (h := h2) (C := B)
            have hD : ∀ lo, callR En lo Id.event_Calls [v'] h2 = some (.tuple #[(made h2 10 (ccs B)).1, .int .i64 0], (callsV h2 (some B)).2) := hD
            generalize (callsV h2 (some B)).2 = h3 at hD hB1
            generalize (made h2 10 (ccs B)).1 = vB at hD hB1
            have sA := hA1.1.ext hB1.2
            have sB := hB1.1
            refine Exists.elim sA.len fun bA hq => Exists.elim hq fun cA hvA => ?_
            refine Exists.elim sB.len fun bB hq => Exists.elim hq fun cB hvB => ?_
            rw [ccs_length] at hvA hvB
            have hle := hB.2.1
            have hlaw := hB.2.2
            clear hB hA1 hB1
            subst hve hvA hvB
            repeat' (first | (show EndsR _ _ _ _ _ _ _; first | refine EndsR.seq ?_ | refine EndsR.reg ?_ | refine EndsR.yes rfl ?_ | refine EndsR.no rfl ?_ | refine EndsR.skip ?_ | refine EndsR.block ?_ | refine EndsR.endB ?_ | refine EndsR.exit rfl ?_ | refine EndsR.br rfl (fun hc => ?_) (fun hc => ?_) | refine EndsR.scope ?_ | refine EndsR.inScope ?_ | refine EndsR.label ?_ | refine EndsR.ret rfl ?_ | refine EndsR.nil rfl ?_) | (show EndsG _ _ _ _ _ _ _ _ _; first | refine EndsG.mov rfl rfl ?_ | refine EndsG.lload rfl rfl rfl rfl ?_ | refine EndsG.laddr rfl rfl rfl ?_ | (show EndsG _ _ (⟨_, .bin _ _ _, _, _⟩ :: _) _ _ _ _ _ _; first | refine EndsG.lssT rfl rfl rfl (by omega) ?_ | refine EndsG.lssF rfl rfl rfl (by omega) ?_ | refine EndsG.leq rfl rfl rfl (fun hc => ?_) (fun hc => ?_) | refine EndsG.gtrT rfl rfl rfl (by omega) ?_ | refine EndsG.gtrF rfl rfl rfl (by omega) ?_ | refine EndsG.geq rfl rfl rfl (fun hc => ?_) (fun hc => ?_) | refine EndsG.eql rfl rfl rfl (fun hc => ?_) (fun hc => ?_) | refine EndsG.neqT rfl rfl rfl (by omega) ?_ | refine EndsG.neqF rfl rfl rfl (by omega) ?_) | (show EndsG _ _ (⟨_, .call _ _, _, _⟩ :: _) _ _ _ _ _ _; first | refine EndsG.call rfl rfl (hK _) ?_ | refine EndsG.call rfl rfl (hC _) ?_ | refine EndsG.call rfl rfl (hD _) ?_) | refine EndsG.slTo rfl rfl rfl hsl ?_ | refine EndsG.skip rfl ?_ | refine EndsG.fin ?_ | refine EndsG.go rfl rfl rfl ?_ | refine EndsG.gono rfl rfl rfl ?_ | refine EndsG.skipn rfl ?_))
            refine .loop (fun n f H => H = h3 ∧ ∃ i : Nat, n + i = A.length ∧ f = [(1, N k), (5, .slice bA A.length cA), (7, .slice bB B.length cB), (9, N i)]) (n := A.length) ⟨rfl, 0, rfl, rfl⟩ ?_
            rintro n f H ⟨rfl, i, hn, rfl⟩ next
            have hCl : A.length ≤ 60 := by
              refine Exists.elim (inv_calls hr) fun W hI => ?_
              have := hI.count
              omega
            by_cases hi : i < A.length
            · have hgi : A[i]? = some A[i] := List.getElem?_eq_getElem hi
              generalize A[i] = a at hgi
              have hlw := hlaw i a hgi
              refine Exists.elim (ccs_cells sA (by omega)) fun ab hq => Exists.elim hq fun cap' hq => ?_
              have hva := hq.1
              injection hva with e1 e2 e3
              subst e1
              have A8 := (hq.2 i a hgi).2.2.1
              have A7 := (hq.2 i a hgi).2.1
              have A9 := (hq.2 i a hgi).2.2.2.1
              have A1 := ccs_op sA rfl hgi
              by_cases hiB : i < B.length
              · have hgb : B[i]? = some B[i] := List.getElem?_eq_getElem hiB
                generalize B[i] = b at hgb
                have hb := hlw.2 b hgb
                have hfr := hlw.1.2 hiB
                refine Exists.elim (ccs_cells sB (by omega)) fun bb hq2 => Exists.elim hq2 fun cap2 hq2 => ?_
                have hvb := hq2.1
                injection hvb with e4 e5 e6
                subst e4
                have B8 := (hq2.2 i b hgb).2.2.1
                have B7 := (hq2.2 i b hgb).2.1
                have B1 := ccs_op sB rfl hgb
                rw [hb.1.1, hb.1.2.1, hb.1.2.2.1, hb.1.2.2.2] at B1
                rw [hb.2.1] at B8
                rw [hb.2.2] at B7
                cases hdn : a.dn with
                | false =>
                  rw [hdn] at A7 B7
                  have B7 : loadV H none ⟨bb.block, bb.off + i * 10 + 7, none⟩ = some (.bool false) := B7
                  repeat' (first | (show EndsR _ _ _ _ _ _ _; first | refine EndsR.seq ?_ | refine EndsR.reg ?_ | refine EndsR.yes rfl ?_ | refine EndsR.no rfl ?_ | refine EndsR.skip ?_ | refine EndsR.block ?_ | refine EndsR.endB ?_ | refine EndsR.exit rfl ?_ | refine EndsR.br rfl (fun hc => ?_) (fun hc => ?_) | refine EndsR.scope ?_ | refine EndsR.inScope ?_ | refine EndsR.label ?_ | refine EndsR.ret rfl ?_ | refine EndsR.nil rfl ?_) | (show EndsG _ _ _ _ _ _ _ _ _; first | refine EndsG.mov rfl rfl ?_ | refine EndsG.lload rfl rfl rfl rfl ?_ | refine EndsG.laddr rfl rfl rfl ?_ | (show EndsG _ _ (⟨_, .bin _ _ _, _, _⟩ :: _) _ _ _ _ _ _; first | refine EndsG.lssT rfl rfl rfl (by omega) ?_ | refine EndsG.lssF rfl rfl rfl (by omega) ?_ | refine EndsG.leq rfl rfl rfl (fun hc => ?_) (fun hc => ?_) | refine EndsG.gtr rfl rfl rfl (fun hc => ?_) (fun hc => ?_) | refine EndsG.geqT rfl rfl rfl (by omega) ?_ | refine EndsG.geqF rfl rfl rfl (by omega) ?_ | refine EndsG.eql rfl rfl rfl (fun hc => ?_) (fun hc => ?_) | refine EndsG.neqT rfl rfl rfl (by omega) ?_ | refine EndsG.neqF rfl rfl rfl (by omega) ?_ | refine EndsG.addN rfl rfl rfl (by omega) ?_ | refine EndsG.addN (b := 1) rfl rfl rfl (by omega) ?_ | refine EndsG.subN rfl rfl rfl (by omega) ?_ | refine EndsG.subN (b := 1) rfl rfl rfl (by omega) ?_) | (show EndsG _ _ (⟨_, .load _ _, _, _⟩ :: _) _ _ _ _ _ _; first | refine EndsG.load rfl rfl (A8) ?_ | refine EndsG.load rfl rfl (A7) ?_ | refine EndsG.load rfl rfl (A1) ?_ | refine EndsG.load rfl rfl (B8) ?_ | refine EndsG.load rfl rfl (B7) ?_ | refine EndsG.load rfl rfl (B1) ?_) | (show EndsG _ _ (⟨_, .iaddr _ _ _ _, _, _⟩ :: _) _ _ _ _ _ _; first | refine EndsG.iaddr rfl rfl rfl (hi) ?_ | refine EndsG.iaddr rfl rfl rfl (hiB) ?_) | refine EndsG.eqc rfl rfl rfl rfl (fun hc => ?_) (fun hc => ?_) | refine EndsG.skip rfl ?_ | refine EndsG.fin ?_ | refine EndsG.go rfl rfl rfl ?_ | refine EndsG.gono rfl rfl rfl ?_ | refine EndsG.skipn rfl ?_))
                  · simp at hc
                  · exact next (n - 1) _ _ (by omega) ⟨rfl, i + 1, by omega, rfl⟩
                | true =>
                  rw [hdn] at A7 B7
                  by_cases hto : a.to < (k : Int)
                  · rw [decide_eq_true hto] at B7
                    have B7 : loadV H none ⟨bb.block, bb.off + i * 10 + 7, none⟩ = some (.bool true) := B7
                    repeat' (first | (show EndsR _ _ _ _ _ _ _; first | refine EndsR.seq ?_ | refine EndsR.reg ?_ | refine EndsR.yes rfl ?_ | refine EndsR.no rfl ?_ | refine EndsR.skip ?_ | refine EndsR.block ?_ | refine EndsR.endB ?_ | refine EndsR.exit rfl ?_ | refine EndsR.br rfl (fun hc => ?_) (fun hc => ?_) | refine EndsR.scope ?_ | refine EndsR.inScope ?_ | refine EndsR.label ?_ | refine EndsR.ret rfl ?_ | refine EndsR.nil rfl ?_) | (show EndsG _ _ _ _ _ _ _ _ _; first | refine EndsG.mov rfl rfl ?_ | refine EndsG.lload rfl rfl rfl rfl ?_ | refine EndsG.laddr rfl rfl rfl ?_ | (show EndsG _ _ (⟨_, .bin _ _ _, _, _⟩ :: _) _ _ _ _ _ _; first | refine EndsG.lssT rfl rfl rfl (by omega) ?_ | refine EndsG.lssF rfl rfl rfl (by omega) ?_ | refine EndsG.leq rfl rfl rfl (fun hc => ?_) (fun hc => ?_) | refine EndsG.gtr rfl rfl rfl (fun hc => ?_) (fun hc => ?_) | refine EndsG.geqT rfl rfl rfl (by omega) ?_ | refine EndsG.geqF rfl rfl rfl (by omega) ?_ | refine EndsG.eql rfl rfl rfl (fun hc => ?_) (fun hc => ?_) | refine EndsG.neqT rfl rfl rfl (by omega) ?_ | refine EndsG.neqF rfl rfl rfl (by omega) ?_ | refine EndsG.addN rfl rfl rfl (by omega) ?_ | refine EndsG.addN (b := 1) rfl rfl rfl (by omega) ?_ | refine EndsG.subN rfl rfl rfl (by omega) ?_ | refine EndsG.subN (b := 1) rfl rfl rfl (by omega) ?_) | (show EndsG _ _ (⟨_, .load _ _, _, _⟩ :: _) _ _ _ _ _ _; first | refine EndsG.load rfl rfl (A8) ?_ | refine EndsG.load rfl rfl (A7) ?_ | refine EndsG.load rfl rfl (A9) ?_ | refine EndsG.load rfl rfl (A1) ?_ | refine EndsG.load rfl rfl (B8) ?_ | refine EndsG.load rfl rfl (B7) ?_ | refine EndsG.load rfl rfl (B1) ?_) | (show EndsG _ _ (⟨_, .iaddr _ _ _ _, _, _⟩ :: _) _ _ _ _ _ _; first | refine EndsG.iaddr rfl rfl rfl (hi) ?_ | refine EndsG.iaddr rfl rfl rfl (hiB) ?_) | refine EndsG.eqc rfl rfl rfl rfl (fun hc => ?_) (fun hc => ?_) | refine EndsG.skip rfl ?_ | refine EndsG.fin ?_ | refine EndsG.go rfl rfl rfl ?_ | refine EndsG.gono rfl rfl rfl ?_ | refine EndsG.skipn rfl ?_))
                    · simp at hc
                    · exact next (n - 1) _ _ (by omega) ⟨rfl, i + 1, by omega, rfl⟩
                  · rw [decide_eq_false hto] at B7
                    have B7 : loadV H none ⟨bb.block, bb.off + i * 10 + 7, none⟩ = some (.bool false) := B7
                    repeat' (first | (show EndsR _ _ _ _ _ _ _; first | refine EndsR.seq ?_ | refine EndsR.reg ?_ | refine EndsR.yes rfl ?_ | refine EndsR.no rfl ?_ | refine EndsR.skip ?_ | refine EndsR.block ?_ | refine EndsR.endB ?_ | refine EndsR.exit rfl ?_ | refine EndsR.br rfl (fun hc => ?_) (fun hc => ?_) | refine EndsR.scope ?_ | refine EndsR.inScope ?_ | refine EndsR.label ?_ | refine EndsR.ret rfl ?_ | refine EndsR.nil rfl ?_) | (show EndsG _ _ _ _ _ _ _ _ _; first | refine EndsG.mov rfl rfl ?_ | refine EndsG.lload rfl rfl rfl rfl ?_ | refine EndsG.laddr rfl rfl rfl ?_ | (show EndsG _ _ (⟨_, .bin _ _ _, _, _⟩ :: _) _ _ _ _ _ _; first | refine EndsG.lssT rfl rfl rfl (by omega) ?_ | refine EndsG.lssF rfl rfl rfl (by omega) ?_ | refine EndsG.leq rfl rfl rfl (fun hc => ?_) (fun hc => ?_) | refine EndsG.gtr rfl rfl rfl (fun hc => ?_) (fun hc => ?_) | refine EndsG.geqT rfl rfl rfl (by omega) ?_ | refine EndsG.geqF rfl rfl rfl (by omega) ?_ | refine EndsG.eql rfl rfl rfl (fun hc => ?_) (fun hc => ?_) | refine EndsG.neqT rfl rfl rfl (by omega) ?_ | refine EndsG.neqF rfl rfl rfl (by omega) ?_ | refine EndsG.addN rfl rfl rfl (by omega) ?_ | refine EndsG.addN (b := 1) rfl rfl rfl (by omega) ?_ | refine EndsG.subN rfl rfl rfl (by omega) ?_ | refine EndsG.subN (b := 1) rfl rfl rfl (by omega) ?_) | (show EndsG _ _ (⟨_, .load _ _, _, _⟩ :: _) _ _ _ _ _ _; first | refine EndsG.load rfl rfl (A8) ?_ | refine EndsG.load rfl rfl (A7) ?_ | refine EndsG.load rfl rfl (A9) ?_ | refine EndsG.load rfl rfl (A1) ?_ | refine EndsG.load rfl rfl (B8) ?_ | refine EndsG.load rfl rfl (B7) ?_ | refine EndsG.load rfl rfl (B1) ?_) | (show EndsG _ _ (⟨_, .iaddr _ _ _ _, _, _⟩ :: _) _ _ _ _ _ _; first | refine EndsG.iaddr rfl rfl rfl (hi) ?_ | refine EndsG.iaddr rfl rfl rfl (hiB) ?_) | refine EndsG.eqc rfl rfl rfl rfl (fun hc => ?_) (fun hc => ?_) | refine EndsG.skip rfl ?_ | refine EndsG.fin ?_ | refine EndsG.go rfl rfl rfl ?_ | refine EndsG.gono rfl rfl rfl ?_ | refine EndsG.skipn rfl ?_))
                    · simp at hc
                    · exact next (n - 1) _ _ (by omega) ⟨rfl, i + 1, by omega, rfl⟩
              · have hfr : ¬ a.fr < (k : Int) := fun hh => hiB (hlw.1.1 hh)
                repeat' (first | (show EndsR _ _ _ _ _ _ _; first | refine EndsR.seq ?_ | refine EndsR.reg ?_ | refine EndsR.yes rfl ?_ | refine EndsR.no rfl ?_ | refine EndsR.skip ?_ | refine EndsR.block ?_ | refine EndsR.endB ?_ | refine EndsR.exit rfl ?_ | refine EndsR.br rfl (fun hc => ?_) (fun hc => ?_) | refine EndsR.scope ?_ | refine EndsR.inScope ?_ | refine EndsR.label ?_ | refine EndsR.ret rfl ?_ | refine EndsR.nil rfl ?_) | (show EndsG _ _ _ _ _ _ _ _ _; first | refine EndsG.mov rfl rfl ?_ | refine EndsG.lload rfl rfl rfl rfl ?_ | refine EndsG.laddr rfl rfl rfl ?_ | (show EndsG _ _ (⟨_, .bin _ _ _, _, _⟩ :: _) _ _ _ _ _ _; first | refine EndsG.lssT rfl rfl rfl (by omega) ?_ | refine EndsG.lssF rfl rfl rfl (by omega) ?_ | refine EndsG.leq rfl rfl rfl (fun hc => ?_) (fun hc => ?_) | refine EndsG.gtr rfl rfl rfl (fun hc => ?_) (fun hc => ?_) | refine EndsG.geqT rfl rfl rfl (by omega) ?_ | refine EndsG.geqF rfl rfl rfl (by omega) ?_ | refine EndsG.eql rfl rfl rfl (fun hc => ?_) (fun hc => ?_) | refine EndsG.neq rfl rfl rfl (fun hc => ?_) (fun hc => ?_) | refine EndsG.addN rfl rfl rfl (by omega) ?_ | refine EndsG.addN (b := 1) rfl rfl rfl (by omega) ?_ | refine EndsG.subN rfl rfl rfl (by omega) ?_ | refine EndsG.subN (b := 1) rfl rfl rfl (by omega) ?_) | refine EndsG.load rfl rfl (A8) ?_ | refine EndsG.iaddr rfl rfl rfl (hi) ?_ | refine EndsG.skip rfl ?_ | refine EndsG.fin ?_ | refine EndsG.go rfl rfl rfl ?_ | refine EndsG.gono rfl rfl rfl ?_ | refine EndsG.skipn rfl ?_))
                exact next (n - 1) _ _ (by omega) ⟨rfl, i + 1, by omega, rfl⟩
            · repeat' (first | (show EndsR _ _ _ _ _ _ _; first | refine EndsR.seq ?_ | refine EndsR.reg ?_ | refine EndsR.yes rfl ?_ | refine EndsR.no rfl ?_ | refine EndsR.skip ?_ | refine EndsR.block ?_ | refine EndsR.endB ?_ | refine EndsR.exit rfl ?_ | refine EndsR.br rfl (fun hc => ?_) (fun hc => ?_) | refine EndsR.scope ?_ | refine EndsR.inScope ?_ | refine EndsR.label ?_ | refine EndsR.ret rfl ?_ | refine EndsR.nil rfl ?_) | (show EndsG _ _ _ _ _ _ _ _ _; first | refine EndsG.mov rfl rfl ?_ | refine EndsG.lload rfl rfl rfl rfl ?_ | refine EndsG.laddr rfl rfl rfl ?_ | (show EndsG _ _ (⟨_, .bin _ _ _, _, _⟩ :: _) _ _ _ _ _ _; first | refine EndsG.lssT rfl rfl rfl (by omega) ?_ | refine EndsG.lssF rfl rfl rfl (by omega) ?_ | refine EndsG.leq rfl rfl rfl (fun hc => ?_) (fun hc => ?_) | refine EndsG.gtr rfl rfl rfl (fun hc => ?_) (fun hc => ?_) | refine EndsG.geq rfl rfl rfl (fun hc => ?_) (fun hc => ?_) | refine EndsG.eql rfl rfl rfl (fun hc => ?_) (fun hc => ?_) | refine EndsG.neq rfl rfl rfl (fun hc => ?_) (fun hc => ?_)) | refine EndsG.call rfl rfl (live_c _ _) ?_ | refine EndsG.skip rfl ?_ | refine EndsG.fin ?_ | refine EndsG.go rfl rfl rfl ?_ | refine EndsG.gono rfl rfl rfl ?_ | refine EndsG.skipn rfl ?_))
              rfl
    · subst hve
      repeat' (first | (show EndsR _ _ _ _ _ _ _; first | refine EndsR.seq ?_ | refine EndsR.reg ?_ | refine EndsR.yes rfl ?_ | refine EndsR.no rfl ?_ | refine EndsR.skip ?_ | refine EndsR.block ?_ | refine EndsR.endB ?_ | refine EndsR.exit rfl ?_ | refine EndsR.br rfl (fun hc => ?_) (fun hc => ?_) | refine EndsR.scope ?_ | refine EndsR.inScope ?_ | refine EndsR.label ?_ | refine EndsR.ret rfl ?_ | refine EndsR.nil rfl ?_) | (show EndsG _ _ _ _ _ _ _ _ _; first | refine EndsG.mov rfl rfl ?_ | refine EndsG.lload rfl rfl rfl rfl ?_ | refine EndsG.laddr rfl rfl rfl ?_ | (show EndsG _ _ (⟨_, .bin _ _ _, _, _⟩ :: _) _ _ _ _ _ _; first | refine EndsG.lss rfl rfl rfl (fun hc => ?_) (fun hc => ?_) | refine EndsG.leq rfl rfl rfl (fun hc => ?_) (fun hc => ?_) | refine EndsG.gtrT rfl rfl rfl (by omega) ?_ | refine EndsG.gtrF rfl rfl rfl (by omega) ?_ | refine EndsG.geq rfl rfl rfl (fun hc => ?_) (fun hc => ?_) | refine EndsG.eql rfl rfl rfl (fun hc => ?_) (fun hc => ?_) | refine EndsG.neq rfl rfl rfl (fun hc => ?_) (fun hc => ?_)) | refine EndsG.call rfl rfl (live_c _ _) ?_ | refine EndsG.skip rfl ?_ | refine EndsG.fin ?_ | refine EndsG.go rfl rfl rfl ?_ | refine EndsG.gono rfl rfl rfl ?_ | refine EndsG.skipn rfl ?_))
      rfl
  obtain ⟨u, h', h1, rfl⟩ := key
  exact ⟨h', h1⟩
end Go.Proofs.Ytgdlplhglpinaaa

/- Of two threads' histories, one behind the other: the law's run. -/
set_option linter.unusedVariables false
set_option linter.unusedSimpArgs false
namespace Go.Proofs.Ytgdlplhglpinaaa
open Go Go.Ir

theorem ecs_cells {h : Heap} {v : Value} {l : List Ev} (hv : Sl h 8 v (ecs l)) (h0 : 0 < l.length) : ∃ a cap, v = .slice (some a) l.length cap ∧ ∀ (i : Nat) (e : Ev), l[i]? = some e →
    loadV h none ⟨a.block, a.off + i * 8 + 0, none⟩ = some (.int .i64 e.th) ∧ loadV h none ⟨a.block, a.off + i * 8 + 1, none⟩ = some (.bool e.bk) ∧ loadV h (some 8) ⟨a.block, a.off + i * 8, none⟩ = some (.agg e.cs.toArray) := by
  obtain ⟨a, cap, h1, h2⟩ := hv.row (fun e => by have := congrArg List.length e; rw [ecs_length, List.length_nil] at this; omega)
  rw [ecs_length] at h1
  refine ⟨a, cap, h1, fun i c hc => ?_⟩
  obtain ⟨g1, g2⟩ := h2 i _ (ecs_get hc)
  exact ⟨g1 0 _ rfl, g1 1 _ rfl, g2⟩

theorem ecs_app (l k : List Ev) : ecs l ++ ecs k = ecs (l ++ k) := by simp [ecs]
theorem ecs_one (l : List Ev) (x : Ev) : ecs l ++ [x.cs] = ecs (l ++ [x]) := by simp [ecs]

/-- The law's last part: calls held against each other. -/
theorem apart_tail {H : Heap} {v : Value} {A : List Cl} {f : Fr} (hs : Sl H 10 v (ccs A)) (hl : A.length ≤ 1000)
    (law : ∀ (i j : Nat) (a b : Cl), A[i]? = some a → A[j]? = some b → a.th < 2 → 2 ≤ b.th → befB a b = a.dn) :
    EndsR En 0 [.code (tailC 7 F.sidingslaw08_EventApart.body)] ((8, v) :: (9, .int .i64 0) :: f) H F.sidingslaw08_EventApart.res (fun v h' => v = .bool true) := by
  refine Exists.elim hs.len fun base hq => Exists.elim hq fun cap hve => ?_
  rw [ccs_length] at hve
  subst hve
  repeat' (first | (show EndsR _ _ _ _ _ _ _; first | refine EndsR.seq ?_ | refine EndsR.reg ?_ | refine EndsR.yes rfl ?_ | refine EndsR.no rfl ?_ | refine EndsR.skip ?_ | refine EndsR.block ?_ | refine EndsR.endB ?_ | refine EndsR.exit rfl ?_ | refine EndsR.br rfl (fun hc => ?_) (fun hc => ?_) | refine EndsR.scope ?_ | refine EndsR.inScope ?_ | refine EndsR.label ?_ | refine EndsR.ret rfl ?_ | refine EndsR.nil rfl ?_) | (show EndsG _ _ _ _ _ _ _ _ _; first | refine EndsG.mov rfl rfl ?_ | refine EndsG.lload rfl rfl rfl rfl ?_ | refine EndsG.laddr rfl rfl rfl ?_ | (show EndsG _ _ (⟨_, .bin _ _ _, _, _⟩ :: _) _ _ _ _ _ _; first | refine EndsG.lss rfl rfl rfl (fun hc => ?_) (fun hc => ?_) | refine EndsG.leq rfl rfl rfl (fun hc => ?_) (fun hc => ?_) | refine EndsG.gtr rfl rfl rfl (fun hc => ?_) (fun hc => ?_) | refine EndsG.geq rfl rfl rfl (fun hc => ?_) (fun hc => ?_) | refine EndsG.eql rfl rfl rfl (fun hc => ?_) (fun hc => ?_) | refine EndsG.neq rfl rfl rfl (fun hc => ?_) (fun hc => ?_)) | refine EndsG.skip rfl ?_ | refine EndsG.fin ?_ | refine EndsG.go rfl rfl rfl ?_ | refine EndsG.gono rfl rfl rfl ?_ | refine EndsG.skipn rfl ?_))
  refine .loop (fun n f H' => H' = H ∧ ∃ i : Nat, n + i = A.length ∧ f = [(8, .slice base A.length cap), (9, .int .i64 0), (10, N i)]) (n := A.length) ⟨rfl, 0, rfl, rfl⟩ ?_
  rintro n f H' ⟨rfl, i, hn, rfl⟩ next
  by_cases hi : i < A.length
  · have hgi : A[i]? = some A[i] := List.getElem?_eq_getElem hi
    generalize A[i] = a at hgi
    refine Exists.elim (ccs_cells hs (by omega)) fun ab hq => Exists.elim hq fun cap' hq => ?_
    have hva := hq.1
    have hld := hq.2
    injection hva with e1 e2 e3
    subst e1
    have A0 := (hld i a hgi).1
    have A7 := (hld i a hgi).2.1
    have AA := (hld i a hgi).2.2.2.2
    repeat' (first | (show EndsR _ _ _ _ _ _ _; first | refine EndsR.seq ?_ | refine EndsR.reg ?_ | refine EndsR.yes rfl ?_ | refine EndsR.no rfl ?_ | refine EndsR.skip ?_ | refine EndsR.block ?_ | refine EndsR.endB ?_ | refine EndsR.exit rfl ?_ | refine EndsR.br rfl (fun hc => ?_) (fun hc => ?_) | refine EndsR.scope ?_ | refine EndsR.inScope ?_ | refine EndsR.label ?_ | refine EndsR.ret rfl ?_ | refine EndsR.nil rfl ?_) | (show EndsG _ _ _ _ _ _ _ _ _; first | refine EndsG.mov rfl rfl ?_ | refine EndsG.lload rfl rfl rfl rfl ?_ | refine EndsG.laddr rfl rfl rfl ?_ | (show EndsG _ _ (⟨_, .bin _ _ _, _, _⟩ :: _) _ _ _ _ _ _; first | refine EndsG.lssT rfl rfl rfl (by omega) ?_ | refine EndsG.lssF rfl rfl rfl (by omega) ?_ | refine EndsG.leq rfl rfl rfl (fun hc => ?_) (fun hc => ?_) | refine EndsG.gtr rfl rfl rfl (fun hc => ?_) (fun hc => ?_) | refine EndsG.geq rfl rfl rfl (fun hc => ?_) (fun hc => ?_) | refine EndsG.eql rfl rfl rfl (fun hc => ?_) (fun hc => ?_) | refine EndsG.neq rfl rfl rfl (fun hc => ?_) (fun hc => ?_)) | refine EndsG.skip rfl ?_ | refine EndsG.fin ?_ | refine EndsG.go rfl rfl rfl ?_ | refine EndsG.gono rfl rfl rfl ?_ | refine EndsG.skipn rfl ?_))
    refine .loop (fun m f H'' => H'' = H' ∧ ∃ j : Nat, m + j = A.length ∧ f = [(8, .slice (some ab) A.length cap), (9, .int .i64 0), (10, N i), (11, N j)]) (n := A.length) ⟨rfl, 0, rfl, rfl⟩ ?_
    rintro m f H'' ⟨rfl, j, hm, rfl⟩ nextj
    by_cases hj : j < A.length
    · have hgj : A[j]? = some A[j] := List.getElem?_eq_getElem hj
      generalize A[j] = b at hgj
      have B0 := (hld j b hgj).1
      have BA := (hld j b hgj).2.2.2.2
      have hlw := law i j a b hgi hgj
      clear hld hq
      by_cases ha : a.th < 2
      · by_cases hb : 2 ≤ b.th
        · have hB : ∀ lo, callR En lo Id.event_Before [.agg a.cs.toArray, .agg b.cs.toArray] H'' = some (.bool a.dn, H'') := fun lo => by rw [before_spec, hlw ha hb]
          cases hdn : a.dn
          all_goals
            rw [hdn] at A7 hB
            repeat' (first | (show EndsR _ _ _ _ _ _ _; first | refine EndsR.seq ?_ | refine EndsR.reg ?_ | refine EndsR.yes rfl ?_ | refine EndsR.no rfl ?_ | refine EndsR.skip ?_ | refine EndsR.block ?_ | refine EndsR.endB ?_ | refine EndsR.exit rfl ?_ | refine EndsR.br rfl (fun hc => ?_) (fun hc => ?_) | refine EndsR.scope ?_ | refine EndsR.inScope ?_ | refine EndsR.label ?_ | refine EndsR.ret rfl ?_ | refine EndsR.nil rfl ?_) | (show EndsG _ _ _ _ _ _ _ _ _; first | refine EndsG.mov rfl rfl ?_ | refine EndsG.lload rfl rfl rfl rfl ?_ | refine EndsG.laddr rfl rfl rfl ?_ | (show EndsG _ _ (⟨_, .bin _ _ _, _, _⟩ :: _) _ _ _ _ _ _; first | refine EndsG.lssT rfl rfl rfl (by omega) ?_ | refine EndsG.lssF rfl rfl rfl (by omega) ?_ | refine EndsG.leq rfl rfl rfl (fun hc => ?_) (fun hc => ?_) | refine EndsG.gtr rfl rfl rfl (fun hc => ?_) (fun hc => ?_) | refine EndsG.geqT rfl rfl rfl (by omega) ?_ | refine EndsG.geqF rfl rfl rfl (by omega) ?_ | refine EndsG.eql rfl rfl rfl (fun hc => ?_) (fun hc => ?_) | refine EndsG.neq rfl rfl rfl (fun hc => ?_) (fun hc => ?_) | refine EndsG.addN rfl rfl rfl (by omega) ?_ | refine EndsG.addN (b := 1) rfl rfl rfl (by omega) ?_ | refine EndsG.subN rfl rfl rfl (by omega) ?_ | refine EndsG.subN (b := 1) rfl rfl rfl (by omega) ?_) | (show EndsG _ _ (⟨_, .load _ _, _, _⟩ :: _) _ _ _ _ _ _; first | refine EndsG.load rfl rfl (A0) ?_ | refine EndsG.load rfl rfl (B0) ?_ | refine EndsG.load rfl rfl (AA) ?_ | refine EndsG.load rfl rfl (BA) ?_) | refine EndsG.call rfl rfl (hB _) ?_ | (show EndsG _ _ (⟨_, .iaddr _ _ _ _, _, _⟩ :: _) _ _ _ _ _ _; first | refine EndsG.iaddr rfl rfl rfl (hi) ?_ | refine EndsG.iaddr rfl rfl rfl (hj) ?_) | refine EndsG.loadc rfl rfl A7 (one_take A7) rfl ?_ | refine EndsG.skip rfl ?_ | refine EndsG.fin ?_ | refine EndsG.go rfl rfl rfl ?_ | refine EndsG.gono rfl rfl rfl ?_ | refine EndsG.skipn rfl ?_))
            exact nextj (m - 1) _ _ (by omega) ⟨rfl, j + 1, by omega, rfl⟩
        · repeat' (first | (show EndsR _ _ _ _ _ _ _; first | refine EndsR.seq ?_ | refine EndsR.reg ?_ | refine EndsR.yes rfl ?_ | refine EndsR.no rfl ?_ | refine EndsR.skip ?_ | refine EndsR.block ?_ | refine EndsR.endB ?_ | refine EndsR.exit rfl ?_ | refine EndsR.br rfl (fun hc => ?_) (fun hc => ?_) | refine EndsR.scope ?_ | refine EndsR.inScope ?_ | refine EndsR.label ?_ | refine EndsR.ret rfl ?_ | refine EndsR.nil rfl ?_) | (show EndsG _ _ _ _ _ _ _ _ _; first | refine EndsG.mov rfl rfl ?_ | refine EndsG.lload rfl rfl rfl rfl ?_ | refine EndsG.laddr rfl rfl rfl ?_ | (show EndsG _ _ (⟨_, .bin _ _ _, _, _⟩ :: _) _ _ _ _ _ _; first | refine EndsG.lssT rfl rfl rfl (by omega) ?_ | refine EndsG.lssF rfl rfl rfl (by omega) ?_ | refine EndsG.leq rfl rfl rfl (fun hc => ?_) (fun hc => ?_) | refine EndsG.gtr rfl rfl rfl (fun hc => ?_) (fun hc => ?_) | refine EndsG.geqT rfl rfl rfl (by omega) ?_ | refine EndsG.geqF rfl rfl rfl (by omega) ?_ | refine EndsG.eql rfl rfl rfl (fun hc => ?_) (fun hc => ?_) | refine EndsG.neq rfl rfl rfl (fun hc => ?_) (fun hc => ?_) | refine EndsG.addN rfl rfl rfl (by omega) ?_ | refine EndsG.addN (b := 1) rfl rfl rfl (by omega) ?_ | refine EndsG.subN rfl rfl rfl (by omega) ?_ | refine EndsG.subN (b := 1) rfl rfl rfl (by omega) ?_) | (show EndsG _ _ (⟨_, .load _ _, _, _⟩ :: _) _ _ _ _ _ _; first | refine EndsG.load rfl rfl (A0) ?_ | refine EndsG.load rfl rfl (B0) ?_) | (show EndsG _ _ (⟨_, .iaddr _ _ _ _, _, _⟩ :: _) _ _ _ _ _ _; first | refine EndsG.iaddr rfl rfl rfl (hi) ?_ | refine EndsG.iaddr rfl rfl rfl (hj) ?_) | refine EndsG.skip rfl ?_ | refine EndsG.fin ?_ | refine EndsG.go rfl rfl rfl ?_ | refine EndsG.gono rfl rfl rfl ?_ | refine EndsG.skipn rfl ?_))
          exact nextj (m - 1) _ _ (by omega) ⟨rfl, j + 1, by omega, rfl⟩
      · repeat' (first | (show EndsR _ _ _ _ _ _ _; first | refine EndsR.seq ?_ | refine EndsR.reg ?_ | refine EndsR.yes rfl ?_ | refine EndsR.no rfl ?_ | refine EndsR.skip ?_ | refine EndsR.block ?_ | refine EndsR.endB ?_ | refine EndsR.exit rfl ?_ | refine EndsR.br rfl (fun hc => ?_) (fun hc => ?_) | refine EndsR.scope ?_ | refine EndsR.inScope ?_ | refine EndsR.label ?_ | refine EndsR.ret rfl ?_ | refine EndsR.nil rfl ?_) | (show EndsG _ _ _ _ _ _ _ _ _; first | refine EndsG.mov rfl rfl ?_ | refine EndsG.lload rfl rfl rfl rfl ?_ | refine EndsG.laddr rfl rfl rfl ?_ | (show EndsG _ _ (⟨_, .bin _ _ _, _, _⟩ :: _) _ _ _ _ _ _; first | refine EndsG.lssT rfl rfl rfl (by omega) ?_ | refine EndsG.lssF rfl rfl rfl (by omega) ?_ | refine EndsG.leq rfl rfl rfl (fun hc => ?_) (fun hc => ?_) | refine EndsG.gtr rfl rfl rfl (fun hc => ?_) (fun hc => ?_) | refine EndsG.geq rfl rfl rfl (fun hc => ?_) (fun hc => ?_) | refine EndsG.eql rfl rfl rfl (fun hc => ?_) (fun hc => ?_) | refine EndsG.neq rfl rfl rfl (fun hc => ?_) (fun hc => ?_) | refine EndsG.addN rfl rfl rfl (by omega) ?_ | refine EndsG.addN (b := 1) rfl rfl rfl (by omega) ?_ | refine EndsG.subN rfl rfl rfl (by omega) ?_ | refine EndsG.subN (b := 1) rfl rfl rfl (by omega) ?_) | refine EndsG.load rfl rfl (A0) ?_ | refine EndsG.iaddr rfl rfl rfl (hi) ?_ | refine EndsG.skip rfl ?_ | refine EndsG.fin ?_ | refine EndsG.go rfl rfl rfl ?_ | refine EndsG.gono rfl rfl rfl ?_ | refine EndsG.skipn rfl ?_))
        exact nextj (m - 1) _ _ (by omega) ⟨rfl, j + 1, by omega, rfl⟩
    · repeat' (first | (show EndsR _ _ _ _ _ _ _; first | refine EndsR.seq ?_ | refine EndsR.reg ?_ | refine EndsR.yes rfl ?_ | refine EndsR.no rfl ?_ | refine EndsR.skip ?_ | refine EndsR.block ?_ | refine EndsR.endB ?_ | refine EndsR.exit rfl ?_ | refine EndsR.br rfl (fun hc => ?_) (fun hc => ?_) | refine EndsR.scope ?_ | refine EndsR.inScope ?_ | refine EndsR.label ?_ | refine EndsR.ret rfl ?_ | refine EndsR.nil rfl ?_) | (show EndsG _ _ _ _ _ _ _ _ _; first | refine EndsG.mov rfl rfl ?_ | refine EndsG.lload rfl rfl rfl rfl ?_ | refine EndsG.laddr rfl rfl rfl ?_ | (show EndsG _ _ (⟨_, .bin _ _ _, _, _⟩ :: _) _ _ _ _ _ _; first | refine EndsG.lssT rfl rfl rfl (by omega) ?_ | refine EndsG.lssF rfl rfl rfl (by omega) ?_ | refine EndsG.leq rfl rfl rfl (fun hc => ?_) (fun hc => ?_) | refine EndsG.gtr rfl rfl rfl (fun hc => ?_) (fun hc => ?_) | refine EndsG.geq rfl rfl rfl (fun hc => ?_) (fun hc => ?_) | refine EndsG.eql rfl rfl rfl (fun hc => ?_) (fun hc => ?_) | refine EndsG.neq rfl rfl rfl (fun hc => ?_) (fun hc => ?_) | refine EndsG.addN rfl rfl rfl (by omega) ?_ | refine EndsG.addN (b := 1) rfl rfl rfl (by omega) ?_ | refine EndsG.subN rfl rfl rfl (by omega) ?_ | refine EndsG.subN (b := 1) rfl rfl rfl (by omega) ?_) | refine EndsG.skip rfl ?_ | refine EndsG.fin ?_ | refine EndsG.go rfl rfl rfl ?_ | refine EndsG.gono rfl rfl rfl ?_ | refine EndsG.skipn rfl ?_))
      exact next (n - 1) _ _ (by omega) ⟨rfl, i + 1, by omega, rfl⟩
  · repeat' (first | (show EndsR _ _ _ _ _ _ _; first | refine EndsR.seq ?_ | refine EndsR.reg ?_ | refine EndsR.yes rfl ?_ | refine EndsR.no rfl ?_ | refine EndsR.skip ?_ | refine EndsR.block ?_ | refine EndsR.endB ?_ | refine EndsR.exit rfl ?_ | refine EndsR.br rfl (fun hc => ?_) (fun hc => ?_) | refine EndsR.scope ?_ | refine EndsR.inScope ?_ | refine EndsR.label ?_ | refine EndsR.ret rfl ?_ | refine EndsR.nil rfl ?_) | (show EndsG _ _ _ _ _ _ _ _ _; first | refine EndsG.mov rfl rfl ?_ | refine EndsG.lload rfl rfl rfl rfl ?_ | refine EndsG.laddr rfl rfl rfl ?_ | (show EndsG _ _ (⟨_, .bin _ _ _, _, _⟩ :: _) _ _ _ _ _ _; first | refine EndsG.lssT rfl rfl rfl (by omega) ?_ | refine EndsG.lssF rfl rfl rfl (by omega) ?_ | refine EndsG.leq rfl rfl rfl (fun hc => ?_) (fun hc => ?_) | refine EndsG.gtr rfl rfl rfl (fun hc => ?_) (fun hc => ?_) | refine EndsG.geq rfl rfl rfl (fun hc => ?_) (fun hc => ?_) | refine EndsG.eqlT rfl rfl rfl (by omega) ?_ | refine EndsG.eqlF rfl rfl rfl (by omega) ?_ | refine EndsG.neq rfl rfl rfl (fun hc => ?_) (fun hc => ?_)) | refine EndsG.call rfl rfl (live_c _ _) ?_ | refine EndsG.skip rfl ?_ | refine EndsG.fin ?_ | refine EndsG.go rfl rfl rfl ?_ | refine EndsG.gono rfl rfl rfl ?_ | refine EndsG.skipn rfl ?_))
    rfl

set_option maxHeartbeats 1600000 in
theorem apart_run {h : Heap} {v w : Value} {l k : List Ev} (hv : Sl h 8 v (ecs l)) (hw : Sl h 8 w (ecs k)) : ∃ h', callR En 0 Id.sidingslaw08_EventApart [v, w] h = some (.bool true, h') := by
  have key : ∃ u h', callR En 0 Id.sidingslaw08_EventApart [v, w] h = some (u, h') ∧ u = .bool true := by
    refine call_ex rfl Fn.sidingslaw08_EventApart rfl rfl ?_
    refine Exists.elim hv.len fun base hq => Exists.elim hq fun cap hve => ?_
    refine Exists.elim hw.len fun bw hq => Exists.elim hq fun cw hwe => ?_
    rw [ecs_length] at hve hwe
    by_cases hl : l.length ≤ 20
    · by_cases hk : k.length ≤ 20
      · have hK := fun lo => check_spec lo hv (by omega)
        have hJ := fun lo => check_spec lo hw (by omega)
        cases hr : callsP l with
        | none =>
          rw [hr] at hK
          have hK : ∀ lo, callR En lo Id.event_Check [v] h = some (.int .i64 2, h) := hK
          subst hve hwe
          repeat' (first | (show EndsR _ _ _ _ _ _ _; first | refine EndsR.seq ?_ | refine EndsR.reg ?_ | refine EndsR.yes rfl ?_ | refine EndsR.no rfl ?_ | refine EndsR.skip ?_ | refine EndsR.block ?_ | refine EndsR.endB ?_ | refine EndsR.exit rfl ?_ | refine EndsR.br rfl (fun hc => ?_) (fun hc => ?_) | refine EndsR.scope ?_ | refine EndsR.inScope ?_ | refine EndsR.label ?_ | refine EndsR.ret rfl ?_ | refine EndsR.nil rfl ?_) | (show EndsG _ _ _ _ _ _ _ _ _; first | refine EndsG.mov rfl rfl ?_ | refine EndsG.lload rfl rfl rfl rfl ?_ | refine EndsG.laddr rfl rfl rfl ?_ | (show EndsG _ _ (⟨_, .bin _ _ _, _, _⟩ :: _) _ _ _ _ _ _; first | refine EndsG.lss rfl rfl rfl (fun hc => ?_) (fun hc => ?_) | refine EndsG.leq rfl rfl rfl (fun hc => ?_) (fun hc => ?_) | refine EndsG.gtrT rfl rfl rfl (by omega) ?_ | refine EndsG.gtrF rfl rfl rfl (by omega) ?_ | refine EndsG.geq rfl rfl rfl (fun hc => ?_) (fun hc => ?_) | refine EndsG.eql rfl rfl rfl (fun hc => ?_) (fun hc => ?_) | refine EndsG.neqT rfl rfl rfl (by omega) ?_ | refine EndsG.neqF rfl rfl rfl (by omega) ?_) | (show EndsG _ _ (⟨_, .call _ _, _, _⟩ :: _) _ _ _ _ _ _; first | refine EndsG.call rfl rfl (hK _) ?_ | refine EndsG.call rfl rfl (live_c _ _) ?_) | refine EndsG.skip rfl ?_ | refine EndsG.fin ?_ | refine EndsG.go rfl rfl rfl ?_ | refine EndsG.gono rfl rfl rfl ?_ | refine EndsG.skipn rfl ?_))
          rfl
        | some C =>
          rw [hr] at hK
          have hK : ∀ lo, callR En lo Id.event_Check [v] h = some (.int .i64 0, h) := hK
          cases hr2 : callsP k with
          | none =>
            rw [hr2] at hJ
            have hJ : ∀ lo, callR En lo Id.event_Check [w] h = some (.int .i64 2, h) := hJ
            subst hve hwe
            repeat' (first | (show EndsR _ _ _ _ _ _ _; first | refine EndsR.seq ?_ | refine EndsR.reg ?_ | refine EndsR.yes rfl ?_ | refine EndsR.no rfl ?_ | refine EndsR.skip ?_ | refine EndsR.block ?_ | refine EndsR.endB ?_ | refine EndsR.exit rfl ?_ | refine EndsR.br rfl (fun hc => ?_) (fun hc => ?_) | refine EndsR.scope ?_ | refine EndsR.inScope ?_ | refine EndsR.label ?_ | refine EndsR.ret rfl ?_ | refine EndsR.nil rfl ?_) | (show EndsG _ _ _ _ _ _ _ _ _; first | refine EndsG.mov rfl rfl ?_ | refine EndsG.lload rfl rfl rfl rfl ?_ | refine EndsG.laddr rfl rfl rfl ?_ | (show EndsG _ _ (⟨_, .bin _ _ _, _, _⟩ :: _) _ _ _ _ _ _; first | refine EndsG.lss rfl rfl rfl (fun hc => ?_) (fun hc => ?_) | refine EndsG.leq rfl rfl rfl (fun hc => ?_) (fun hc => ?_) | refine EndsG.gtrT rfl rfl rfl (by omega) ?_ | refine EndsG.gtrF rfl rfl rfl (by omega) ?_ | refine EndsG.geq rfl rfl rfl (fun hc => ?_) (fun hc => ?_) | refine EndsG.eql rfl rfl rfl (fun hc => ?_) (fun hc => ?_) | refine EndsG.neqT rfl rfl rfl (by omega) ?_ | refine EndsG.neqF rfl rfl rfl (by omega) ?_) | (show EndsG _ _ (⟨_, .call _ _, _, _⟩ :: _) _ _ _ _ _ _; first | refine EndsG.call rfl rfl (hK _) ?_ | refine EndsG.call rfl rfl (hJ _) ?_ | refine EndsG.call rfl rfl (live_c _ _) ?_) | refine EndsG.skip rfl ?_ | refine EndsG.fin ?_ | refine EndsG.go rfl rfl rfl ?_ | refine EndsG.gono rfl rfl rfl ?_ | refine EndsG.skipn rfl ?_))
            rfl
          | some D =>
            rw [hr2] at hJ
            have hJ : ∀ lo, callR En lo Id.event_Check [w] h = some (.int .i64 0, h) := hJ
            subst hve hwe
            repeat' (first | (show EndsR _ _ _ _ _ _ _; first | refine EndsR.seq ?_ | refine EndsR.reg ?_ | refine EndsR.yes rfl ?_ | refine EndsR.no rfl ?_ | refine EndsR.skip ?_ | refine EndsR.block ?_ | refine EndsR.endB ?_ | refine EndsR.exit rfl ?_ | refine EndsR.br rfl (fun hc => ?_) (fun hc => ?_) | refine EndsR.scope ?_ | refine EndsR.inScope ?_ | refine EndsR.label ?_ | refine EndsR.ret rfl ?_ | refine EndsR.nil rfl ?_) | (show EndsG _ _ _ _ _ _ _ _ _; first | refine EndsG.mov rfl rfl ?_ | refine EndsG.lload rfl rfl rfl rfl ?_ | refine EndsG.laddr rfl rfl rfl ?_ | (show EndsG _ _ (⟨_, .bin _ _ _, _, _⟩ :: _) _ _ _ _ _ _; first | refine EndsG.lss rfl rfl rfl (fun hc => ?_) (fun hc => ?_) | refine EndsG.leq rfl rfl rfl (fun hc => ?_) (fun hc => ?_) | refine EndsG.gtrT rfl rfl rfl (by omega) ?_ | refine EndsG.gtrF rfl rfl rfl (by omega) ?_ | refine EndsG.geq rfl rfl rfl (fun hc => ?_) (fun hc => ?_) | refine EndsG.eql rfl rfl rfl (fun hc => ?_) (fun hc => ?_) | refine EndsG.neqT rfl rfl rfl (by omega) ?_ | refine EndsG.neqF rfl rfl rfl (by omega) ?_) | (show EndsG _ _ (⟨_, .call _ _, _, _⟩ :: _) _ _ _ _ _ _; first | refine EndsG.call rfl rfl (hK _) ?_ | refine EndsG.call rfl rfl (hJ _) ?_) | refine EndsG.skip rfl ?_ | refine EndsG.fin ?_ | refine EndsG.go rfl rfl rfl ?_ | refine EndsG.gono rfl rfl rfl ?_ | refine EndsG.skipn rfl ?_))
            refine .loop (fun n f H => H = h ∧ ∃ i : Nat, n + i = l.length ∧ f = [(0, .slice base l.length cap), (1, .slice bw k.length cw), (5, N i)] ∧ ∀ e ∈ l.take i, ¬ 1 < e.th) (n := l.length) ⟨rfl, 0, rfl, rfl, by simp⟩ ?_
            rintro n f H ⟨rfl, i, hn, rfl, hI⟩ next
            by_cases hi : i < l.length
            · have hgi : l[i]? = some l[i] := List.getElem?_eq_getElem hi
              have htk := List.take_succ_eq_append_getElem hi
              generalize l[i] = e at hgi htk
              refine Exists.elim (ecs_cells hv (by omega)) fun a hq => Exists.elim hq fun cap' hq => ?_
              have hva := hq.1
              injection hva with e1 e2 e3
              subst e1
              have A0 := (hq.2 i e hgi).1
              by_cases hg : 1 < e.th
              · repeat' (first | (show EndsR _ _ _ _ _ _ _; first | refine EndsR.seq ?_ | refine EndsR.reg ?_ | refine EndsR.yes rfl ?_ | refine EndsR.no rfl ?_ | refine EndsR.skip ?_ | refine EndsR.block ?_ | refine EndsR.endB ?_ | refine EndsR.exit rfl ?_ | refine EndsR.br rfl (fun hc => ?_) (fun hc => ?_) | refine EndsR.scope ?_ | refine EndsR.inScope ?_ | refine EndsR.label ?_ | refine EndsR.ret rfl ?_ | refine EndsR.nil rfl ?_) | (show EndsG _ _ _ _ _ _ _ _ _; first | refine EndsG.mov rfl rfl ?_ | refine EndsG.lload rfl rfl rfl rfl ?_ | refine EndsG.laddr rfl rfl rfl ?_ | (show EndsG _ _ (⟨_, .bin _ _ _, _, _⟩ :: _) _ _ _ _ _ _; first | refine EndsG.lssT rfl rfl rfl (by omega) ?_ | refine EndsG.lssF rfl rfl rfl (by omega) ?_ | refine EndsG.leq rfl rfl rfl (fun hc => ?_) (fun hc => ?_) | refine EndsG.gtrT rfl rfl rfl (by omega) ?_ | refine EndsG.gtrF rfl rfl rfl (by omega) ?_ | refine EndsG.geq rfl rfl rfl (fun hc => ?_) (fun hc => ?_) | refine EndsG.eql rfl rfl rfl (fun hc => ?_) (fun hc => ?_) | refine EndsG.neq rfl rfl rfl (fun hc => ?_) (fun hc => ?_)) | refine EndsG.load rfl rfl (A0) ?_ | refine EndsG.call rfl rfl (live_c _ _) ?_ | refine EndsG.iaddr rfl rfl rfl (hi) ?_ | refine EndsG.skip rfl ?_ | refine EndsG.fin ?_ | refine EndsG.go rfl rfl rfl ?_ | refine EndsG.gono rfl rfl rfl ?_ | refine EndsG.skipn rfl ?_))
                rfl
              · repeat' (first | (show EndsR _ _ _ _ _ _ _; first | refine EndsR.seq ?_ | refine EndsR.reg ?_ | refine EndsR.yes rfl ?_ | refine EndsR.no rfl ?_ | refine EndsR.skip ?_ | refine EndsR.block ?_ | refine EndsR.endB ?_ | refine EndsR.exit rfl ?_ | refine EndsR.br rfl (fun hc => ?_) (fun hc => ?_) | refine EndsR.scope ?_ | refine EndsR.inScope ?_ | refine EndsR.label ?_ | refine EndsR.ret rfl ?_ | refine EndsR.nil rfl ?_) | (show EndsG _ _ _ _ _ _ _ _ _; first | refine EndsG.mov rfl rfl ?_ | refine EndsG.lload rfl rfl rfl rfl ?_ | refine EndsG.laddr rfl rfl rfl ?_ | (show EndsG _ _ (⟨_, .bin _ _ _, _, _⟩ :: _) _ _ _ _ _ _; first | refine EndsG.lssT rfl rfl rfl (by omega) ?_ | refine EndsG.lssF rfl rfl rfl (by omega) ?_ | refine EndsG.leq rfl rfl rfl (fun hc => ?_) (fun hc => ?_) | refine EndsG.gtrT rfl rfl rfl (by omega) ?_ | refine EndsG.gtrF rfl rfl rfl (by omega) ?_ | refine EndsG.geq rfl rfl rfl (fun hc => ?_) (fun hc => ?_) | refine EndsG.eql rfl rfl rfl (fun hc => ?_) (fun hc => ?_) | refine EndsG.neq rfl rfl rfl (fun hc => ?_) (fun hc => ?_) | refine EndsG.addN rfl rfl rfl (by omega) ?_ | refine EndsG.addN (b := 1) rfl rfl rfl (by omega) ?_ | refine EndsG.subN rfl rfl rfl (by omega) ?_ | refine EndsG.subN (b := 1) rfl rfl rfl (by omega) ?_) | refine EndsG.load rfl rfl (A0) ?_ | refine EndsG.iaddr rfl rfl rfl (hi) ?_ | refine EndsG.skip rfl ?_ | refine EndsG.fin ?_ | refine EndsG.go rfl rfl rfl ?_ | refine EndsG.gono rfl rfl rfl ?_ | refine EndsG.skipn rfl ?_))
                refine next (n - 1) _ _ (by omega) ⟨rfl, i + 1, by omega, rfl, fun x hx => ?_⟩
                rw [htk] at hx
                rcases List.mem_append.1 hx with hx | hx
                · exact hI x hx
                · simp at hx; subst hx; exact hg
            · rw [List.take_of_length_le (by omega)] at hI
              clear next
              have hb : 64 ≤ 2 ^ 12 := by decide
              refine Exists.elim ((Out.nil H H.length 8).more (l0 := 0) hv (Nat.zero_le _) (Nat.le_refl _) (by rw [ecs_length]; simp; omega) hb) fun o hq => Exists.elim hq fun H1 hq => ?_
              have hap := hq.1
              have ho := hq.2.1
              have hx := hq.2.2 H (Nat.le_refl _) (.refl _)
              rw [List.nil_append] at ho
              clear hq
              repeat' (first | (show EndsR _ _ _ _ _ _ _; first | refine EndsR.seq ?_ | refine EndsR.reg ?_ | refine EndsR.yes rfl ?_ | refine EndsR.no rfl ?_ | refine EndsR.skip ?_ | refine EndsR.block ?_ | refine EndsR.endB ?_ | refine EndsR.exit rfl ?_ | refine EndsR.br rfl (fun hc => ?_) (fun hc => ?_) | refine EndsR.scope ?_ | refine EndsR.inScope ?_ | refine EndsR.label ?_ | refine EndsR.ret rfl ?_ | refine EndsR.nil rfl ?_) | (show EndsG _ _ _ _ _ _ _ _ _; first | refine EndsG.mov rfl rfl ?_ | refine EndsG.lload rfl rfl rfl rfl ?_ | refine EndsG.laddr rfl rfl rfl ?_ | (show EndsG _ _ (⟨_, .bin _ _ _, _, _⟩ :: _) _ _ _ _ _ _; first | refine EndsG.lssT rfl rfl rfl (by omega) ?_ | refine EndsG.lssF rfl rfl rfl (by omega) ?_ | refine EndsG.leq rfl rfl rfl (fun hc => ?_) (fun hc => ?_) | refine EndsG.gtr rfl rfl rfl (fun hc => ?_) (fun hc => ?_) | refine EndsG.geq rfl rfl rfl (fun hc => ?_) (fun hc => ?_) | refine EndsG.eql rfl rfl rfl (fun hc => ?_) (fun hc => ?_) | refine EndsG.neq rfl rfl rfl (fun hc => ?_) (fun hc => ?_)) | refine EndsG.app rfl rfl rfl (hap) ?_ | refine EndsG.skip rfl ?_ | refine EndsG.fin ?_ | refine EndsG.go rfl rfl rfl ?_ | refine EndsG.gono rfl rfl rfl ?_ | refine EndsG.skipn rfl ?_))
              refine .loop (fun n f H2 => ∃ (j : Nat) (o : Value), n + j = k.length ∧ f = [(1, .slice bw k.length cw), (6, o), (7, N j)] ∧ Out H2 H.length 8 o (ecs (l ++ k.take j)) ∧ Ext H H2 ∧ ∀ e ∈ k.take j, ¬ e.th < 2) (n := k.length)
                ⟨0, o, rfl, rfl, by simpa using ho, hx, by simp⟩ ?_
              rintro n f H2 ⟨j, o2, hn2, rfl, ho2, hx2, hJ2⟩ next
              by_cases hj : j < k.length
              · have hgj : k[j]? = some k[j] := List.getElem?_eq_getElem hj
                have htk := List.take_succ_eq_append_getElem hj
                generalize k[j] = e at hgj htk
                refine Exists.elim (ecs_cells (hw.ext hx2) (by omega)) fun a hq => Exists.elim hq fun cap' hq => ?_
                have hva := hq.1
                injection hva with e1 e2 e3
                subst e1
                have B0 := (hq.2 j e hgj).1
                have B8 := (hq.2 j e hgj).2.2
                by_cases hg : e.th < 2
                · repeat' (first | (show EndsR _ _ _ _ _ _ _; first | refine EndsR.seq ?_ | refine EndsR.reg ?_ | refine EndsR.yes rfl ?_ | refine EndsR.no rfl ?_ | refine EndsR.skip ?_ | refine EndsR.block ?_ | refine EndsR.endB ?_ | refine EndsR.exit rfl ?_ | refine EndsR.br rfl (fun hc => ?_) (fun hc => ?_) | refine EndsR.scope ?_ | refine EndsR.inScope ?_ | refine EndsR.label ?_ | refine EndsR.ret rfl ?_ | refine EndsR.nil rfl ?_) | (show EndsG _ _ _ _ _ _ _ _ _; first | refine EndsG.mov rfl rfl ?_ | refine EndsG.lload rfl rfl rfl rfl ?_ | refine EndsG.laddr rfl rfl rfl ?_ | (show EndsG _ _ (⟨_, .bin _ _ _, _, _⟩ :: _) _ _ _ _ _ _; first | refine EndsG.lssT rfl rfl rfl (by omega) ?_ | refine EndsG.lssF rfl rfl rfl (by omega) ?_ | refine EndsG.leq rfl rfl rfl (fun hc => ?_) (fun hc => ?_) | refine EndsG.gtr rfl rfl rfl (fun hc => ?_) (fun hc => ?_) | refine EndsG.geq rfl rfl rfl (fun hc => ?_) (fun hc => ?_) | refine EndsG.eql rfl rfl rfl (fun hc => ?_) (fun hc => ?_) | refine EndsG.neq rfl rfl rfl (fun hc => ?_) (fun hc => ?_)) | refine EndsG.load rfl rfl (B0) ?_ | refine EndsG.call rfl rfl (live_c _ _) ?_ | refine EndsG.iaddr rfl rfl rfl (hj) ?_ | refine EndsG.skip rfl ?_ | refine EndsG.fin ?_ | refine EndsG.go rfl rfl rfl ?_ | refine EndsG.gono rfl rfl rfl ?_ | refine EndsG.skipn rfl ?_))
                  rfl
                · have hpl : (ecs (l ++ k.take j)).length + 1 ≤ 2 ^ 30 := by rw [ecs_length, List.length_append, List.length_take]; omega
                  refine Exists.elim (ho2.push2 (l0 := 0) (bytes := 64) (e := e.cs) rfl (Nat.zero_le _) hx2.1 hpl hb) fun o' hq1 => Exists.elim hq1 fun H' hq2 => ?_
                  have hap2 := hq2.1
                  have ho' := hq2.2.1
                  have hx' := hq2.2.2 H (Nat.le_refl _) hx2
                  rw [ecs_one, List.append_assoc, ← htk] at ho'
                  repeat' (first | (show EndsR _ _ _ _ _ _ _; first | refine EndsR.seq ?_ | refine EndsR.reg ?_ | refine EndsR.yes rfl ?_ | refine EndsR.no rfl ?_ | refine EndsR.skip ?_ | refine EndsR.block ?_ | refine EndsR.endB ?_ | refine EndsR.exit rfl ?_ | refine EndsR.br rfl (fun hc => ?_) (fun hc => ?_) | refine EndsR.scope ?_ | refine EndsR.inScope ?_ | refine EndsR.label ?_ | refine EndsR.ret rfl ?_ | refine EndsR.nil rfl ?_) | (show EndsG _ _ _ _ _ _ _ _ _; first | refine EndsG.mov rfl rfl ?_ | refine EndsG.lload rfl rfl rfl rfl ?_ | refine EndsG.laddr rfl rfl rfl ?_ | (show EndsG _ _ (⟨_, .bin _ _ _, _, _⟩ :: _) _ _ _ _ _ _; first | refine EndsG.lssT rfl rfl rfl (by omega) ?_ | refine EndsG.lssF rfl rfl rfl (by omega) ?_ | refine EndsG.leq rfl rfl rfl (fun hc => ?_) (fun hc => ?_) | refine EndsG.gtr rfl rfl rfl (fun hc => ?_) (fun hc => ?_) | refine EndsG.geq rfl rfl rfl (fun hc => ?_) (fun hc => ?_) | refine EndsG.eql rfl rfl rfl (fun hc => ?_) (fun hc => ?_) | refine EndsG.neq rfl rfl rfl (fun hc => ?_) (fun hc => ?_) | refine EndsG.addN rfl rfl rfl (by omega) ?_ | refine EndsG.addN (b := 1) rfl rfl rfl (by omega) ?_ | refine EndsG.subN rfl rfl rfl (by omega) ?_ | refine EndsG.subN (b := 1) rfl rfl rfl (by omega) ?_) | (show EndsG _ _ (⟨_, .load _ _, _, _⟩ :: _) _ _ _ _ _ _; first | refine EndsG.load rfl rfl (B0) ?_ | refine EndsG.load rfl rfl (B8) ?_) | refine EndsG.iaddr rfl rfl rfl (hj) ?_ | refine EndsG.app rfl rfl rfl (hap2) ?_ | refine EndsG.skip rfl ?_ | refine EndsG.fin ?_ | refine EndsG.go rfl rfl rfl ?_ | refine EndsG.gono rfl rfl rfl ?_ | refine EndsG.skipn rfl ?_))
                  refine next (n - 1) _ _ (by omega) ⟨j + 1, o', by omega, rfl, ho', hx', fun x hx => ?_⟩
                  rw [htk] at hx
                  rcases List.mem_append.1 hx with hx | hx
                  · exact hJ2 x hx
                  · simp at hx; subst hx; exact hg
              · rw [List.take_of_length_le (by omega)] at ho2 hJ2
                clear next
                refine Exists.elim (apart_law hr hr2 hI hJ2) fun A hA => ?_
                have hD := fun lo => calls_spec lo ho2.sl (by rw [List.length_append]; omega)
                rw [hA.1] at hD
                have hB1 := callsV_sl (h := H2) (C := A)
                have hD : ∀ lo, callR En lo Id.event_Calls [o2] H2 = some (.tuple #[(made H2 10 (ccs A)).1, .int .i64 0], (callsV H2 (some A)).2) := hD
                generalize (callsV H2 (some A)).2 = h3 at hD hB1
                generalize (made H2 10 (ccs A)).1 = vA at hD hB1
                have hlA : A.length ≤ 1000 := by
                  refine Exists.elim (inv_calls hA.1) fun W hI => ?_
                  have := hI.count
                  rw [List.length_append] at this
                  omega
                have hT := fun f => apart_tail (f := f) hB1.1 hlA hA.2
                repeat' (first | (show EndsR _ _ _ _ _ _ _; first | exact (hT _).fe' (.cons rfl (.cons rfl (.refl _))) | refine EndsR.seq ?_ | refine EndsR.reg ?_ | refine EndsR.yes rfl ?_ | refine EndsR.no rfl ?_ | refine EndsR.skip ?_ | refine EndsR.block ?_ | refine EndsR.endB ?_ | refine EndsR.exit rfl ?_ | refine EndsR.br rfl (fun hc => ?_) (fun hc => ?_) | refine EndsR.scope ?_ | refine EndsR.inScope ?_ | refine EndsR.label ?_ | refine EndsR.ret rfl ?_ | refine EndsR.nil rfl ?_) | (show EndsG _ _ _ _ _ _ _ _ _; first | refine EndsG.mov rfl rfl ?_ | refine EndsG.lload rfl rfl rfl rfl ?_ | refine EndsG.laddr rfl rfl rfl ?_ | (show EndsG _ _ (⟨_, .bin _ _ _, _, _⟩ :: _) _ _ _ _ _ _; first | refine EndsG.lssT rfl rfl rfl (by omega) ?_ | refine EndsG.lssF rfl rfl rfl (by omega) ?_ | refine EndsG.leq rfl rfl rfl (fun hc => ?_) (fun hc => ?_) | refine EndsG.gtr rfl rfl rfl (fun hc => ?_) (fun hc => ?_) | refine EndsG.geq rfl rfl rfl (fun hc => ?_) (fun hc => ?_) | refine EndsG.eql rfl rfl rfl (fun hc => ?_) (fun hc => ?_) | refine EndsG.neq rfl rfl rfl (fun hc => ?_) (fun hc => ?_)) | refine EndsG.call rfl rfl (hD _) ?_ | refine EndsG.skip rfl ?_ | refine EndsG.fin ?_ | refine EndsG.go rfl rfl rfl ?_ | refine EndsG.gono rfl rfl rfl ?_ | refine EndsG.skipn rfl ?_))
      · subst hve hwe
        repeat' (first | (show EndsR _ _ _ _ _ _ _; first | refine EndsR.seq ?_ | refine EndsR.reg ?_ | refine EndsR.yes rfl ?_ | refine EndsR.no rfl ?_ | refine EndsR.skip ?_ | refine EndsR.block ?_ | refine EndsR.endB ?_ | refine EndsR.exit rfl ?_ | refine EndsR.br rfl (fun hc => ?_) (fun hc => ?_) | refine EndsR.scope ?_ | refine EndsR.inScope ?_ | refine EndsR.label ?_ | refine EndsR.ret rfl ?_ | refine EndsR.nil rfl ?_) | (show EndsG _ _ _ _ _ _ _ _ _; first | refine EndsG.mov rfl rfl ?_ | refine EndsG.lload rfl rfl rfl rfl ?_ | refine EndsG.laddr rfl rfl rfl ?_ | (show EndsG _ _ (⟨_, .bin _ _ _, _, _⟩ :: _) _ _ _ _ _ _; first | refine EndsG.lss rfl rfl rfl (fun hc => ?_) (fun hc => ?_) | refine EndsG.leq rfl rfl rfl (fun hc => ?_) (fun hc => ?_) | refine EndsG.gtrT rfl rfl rfl (by omega) ?_ | refine EndsG.gtrF rfl rfl rfl (by omega) ?_ | refine EndsG.geq rfl rfl rfl (fun hc => ?_) (fun hc => ?_) | refine EndsG.eql rfl rfl rfl (fun hc => ?_) (fun hc => ?_) | refine EndsG.neq rfl rfl rfl (fun hc => ?_) (fun hc => ?_)) | refine EndsG.call rfl rfl (live_c _ _) ?_ | refine EndsG.skip rfl ?_ | refine EndsG.fin ?_ | refine EndsG.go rfl rfl rfl ?_ | refine EndsG.gono rfl rfl rfl ?_ | refine EndsG.skipn rfl ?_))
        rfl
    · subst hve hwe
      repeat' (first | (show EndsR _ _ _ _ _ _ _; first | refine EndsR.seq ?_ | refine EndsR.reg ?_ | refine EndsR.yes rfl ?_ | refine EndsR.no rfl ?_ | refine EndsR.skip ?_ | refine EndsR.block ?_ | refine EndsR.endB ?_ | refine EndsR.exit rfl ?_ | refine EndsR.br rfl (fun hc => ?_) (fun hc => ?_) | refine EndsR.scope ?_ | refine EndsR.inScope ?_ | refine EndsR.label ?_ | refine EndsR.ret rfl ?_ | refine EndsR.nil rfl ?_) | (show EndsG _ _ _ _ _ _ _ _ _; first | refine EndsG.mov rfl rfl ?_ | refine EndsG.lload rfl rfl rfl rfl ?_ | refine EndsG.laddr rfl rfl rfl ?_ | (show EndsG _ _ (⟨_, .bin _ _ _, _, _⟩ :: _) _ _ _ _ _ _; first | refine EndsG.lss rfl rfl rfl (fun hc => ?_) (fun hc => ?_) | refine EndsG.leq rfl rfl rfl (fun hc => ?_) (fun hc => ?_) | refine EndsG.gtrT rfl rfl rfl (by omega) ?_ | refine EndsG.gtrF rfl rfl rfl (by omega) ?_ | refine EndsG.geq rfl rfl rfl (fun hc => ?_) (fun hc => ?_) | refine EndsG.eql rfl rfl rfl (fun hc => ?_) (fun hc => ?_) | refine EndsG.neq rfl rfl rfl (fun hc => ?_) (fun hc => ?_)) | refine EndsG.call rfl rfl (live_c _ _) ?_ | refine EndsG.skip rfl ?_ | refine EndsG.fin ?_ | refine EndsG.go rfl rfl rfl ?_ | refine EndsG.gono rfl rfl rfl ?_ | refine EndsG.skipn rfl ?_))
      rfl
  obtain ⟨u, h', h1, rfl⟩ := key
  exact ⟨h', h1⟩
end Go.Proofs.Ytgdlplhglpinaaa
