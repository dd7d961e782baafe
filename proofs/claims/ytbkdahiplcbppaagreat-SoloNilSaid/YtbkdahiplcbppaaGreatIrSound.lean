/- Calls: the interpreter's word holds of the machine. -/
import Derived.Test.YtbkdahiplcbppaaGreatIrMain
set_option linter.unusedVariables false
set_option linter.unusedSimpArgs false
namespace Go.Ir

mutual
theorem VR.cut {E E' : Emb} {n : Nat} (hd : ∀ i e, E i = some e → i < n) : ∀ {v c c' : Value}, VR E v c → VR E' v c' → VR (res E' n) v c'
  | _, _, _, .any _, .any c => .any c
  | _, _, _, .bool b, .bool _ => .bool b
  | _, _, _, .int k n, .int _ _ => .int k n
  | _, _, _, .float k n, .float _ _ => .float k n
  | _, _, _, .complex k n m, .complex _ _ _ => .complex k n m
  | _, _, _, .string s, .string _ => .string s
  | _, _, _, .ptr0, .ptr0 => .ptr0
  | _, _, _, .ptr a c e hs he hc, .ptr _ c' e' hs' he' hc' => .ptr a c' e' hs (by rw [res_lt (hd _ _ he)]; exact he') hc'
  | _, _, _, .slice0, .slice0 => .slice0
  | _, _, _, .slice a c n cap e hs he hn hc, .slice _ c' _ _ e' hs' he' hn' hc' => .slice a c' n cap e' hs (by rw [res_lt (hd _ _ he)]; exact he') hn hc'
  | _, _, _, .slice a c n cap e hs he hn hc, .loose _ c' _ _ cap' e' hs' he' hn' hc' => by rw [hs] at hs'; cases hs'
  | _, _, _, .loose a c n k cap e hs he hn hc, .slice _ c' _ _ e' hs' he' hn' hc' => by rw [hs] at hs'; cases hs'
  | _, _, _, .loose a c n k cap e hs he hn hc, .loose _ c' _ _ cap' e' hs' he' hn' hc' => .loose a c' n k cap' e' hs (by rw [res_lt (hd _ _ he)]; exact he') hn' hc'
  | _, _, _, .map0, .map0 => .map0
  | _, _, _, .map r c e he hc, .map _ c' e' he' hc' => .map r c' e' (by rw [res_lt (hd _ _ he)]; exact he') hc'
  | _, _, _, .func fn f f' c c' hf hc, .func _ _ g' _ d' hf' hc' => .func fn f g' c d' (VRs.cut hd hf hf') (VRs.cut hd hc hc')
  | _, _, _, .nilFunc, .nilFunc => .nilFunc
  | _, _, _, .iface t v c hv, .iface _ _ c' hv' => .iface t v c' (VR.cut hd hv hv')
  | _, _, _, .nilIface, .nilIface => .nilIface
  | _, _, _, .agg c c' hc, .agg _ d hc' => .agg c d (VRs.cut hd hc hc')
  | _, _, _, .tuple c c' hc, .tuple _ d hc' => .tuple c d (VRs.cut hd hc hc')
theorem VRs.cut {E E' : Emb} {n : Nat} (hd : ∀ i e, E i = some e → i < n) : ∀ {vs cs cs' : List Value}, VRs E vs cs → VRs E' vs cs' → VRs (res E' n) vs cs'
  | _, _, _, .nil, .nil => .nil
  | _, _, _, .cons v c vs cs hv hs, .cons _ c' _ cs' hv' hs' => .cons v c' vs cs' (VR.cut hd hv hv') (VRs.cut hd hs hs')
end

theorem MR.cut {E E' : Emb} {n : Nat} (hd : ∀ i e, E i = some e → i < n) : ∀ {es : List (Value × Value)} {xs xs' : List MapEntry}, MR E es xs → MR E' es xs' → MR (res E' n) es xs'
  | _, _, _, .nil, .nil => .nil
  | _, _, _, .cons k m v x es xs hk hv h, .cons _ _ _ x' _ xs' hk' hv' h' => .cons k m v x' es xs' hk' (hv.cut hd hv') (h.cut hd h')

theorem BR.cut {B0 : Nat} {E E' : Emb} {w w' : World} {x x' : Ent} {k : Blk} {n : Nat} (hd : ∀ i e, E i = some e → i < n) (h : BR B0 E w x k) (h' : BR B0 E' w' x' k) : BR B0 (res E' n) w' x' k := by
  cases k with
  | row cs ro =>
    obtain ⟨C, t, fz, h1, h2, h4, h5, h6, h7⟩ := h
    obtain ⟨C', t', fz', g1, g2, g4, g5, g6, g7⟩ := h'
    exact ⟨C', t', fz', g1, g2, g4, h5.cut hd g5, g6, g7⟩
  | map es =>
    obtain ⟨M, clk, h1, h2, h3⟩ := h
    obtain ⟨M', clk', g1, g2, g3⟩ := h'
    exact ⟨M', clk', g1, h2.cut hd g2, g3⟩
  | dead => trivial

section
variable {P : Program} {B0 : Nat} {w0 w w' : World} {Em E' : Emb} {h h' : Heap}

theorem Sim.cut (s : Sim B0 w0 Em h w) (s' : Sim B0 w0 E' h' w') (hlen : h.length ≤ h'.length) (hpre : ∀ i, i < h.length → h'[i]? = h[i]?) : Sim B0 w0 (res E' h.length) h w' := by
  have hd : ∀ i e, Em i = some e → i < h.length := fun i e he => by
    rcases Nat.lt_or_ge i h.length with hi | hi
    · exact hi
    · rw [s.out i hi] at he; cases he
  have hlt : ∀ {i : Nat} {k : Blk}, h[i]? = some k → i < h.length := fun hk => (List.getElem?_eq_some_iff.1 hk).1
  refine ⟨s'.below, fun i hi => res_ge hi, fun i hi => ?_, fun i k hi hk => ?_, fun i j x y hij hx hy he => ?_⟩
  · rw [res_lt (hlt hi)]; exact s'.dead i (by rw [hpre i (hlt hi)]; exact hi)
  · obtain ⟨y, hy, hb⟩ := s.live i k hi hk
    obtain ⟨x, hx, hb'⟩ := s'.live i k (by rw [hpre i (hlt hi)]; exact hi) hk
    exact ⟨x, by rw [res_lt (hlt hi)]; exact hx, hb.cut hd hb'⟩
  · obtain ⟨i1, i2⟩ := res_some hx
    obtain ⟨j1, j2⟩ := res_some hy
    have := s'.inj i j x y hij i2 j2 he
    rw [hpre i i1, hpre j j1] at this
    exact this

theorem Later.cut (s : Sim B0 w0 Em h w) (l : Later Em w E' w') {E2 : Emb} (hle : (res E' h.length).le E2) (hfrom : ∀ i x, E2 i = some (some x) → ∃ j, E' j = some (some x)) : Later Em w E2 w' := by
  refine ⟨fun i e he => ?_, fun i x hx => ?_, l.size, l.kept⟩
  · have hi : i < h.length := by
      rcases Nat.lt_or_ge i h.length with hi | hi
      · exact hi
      · rw [s.out i hi] at he; cases he
    rcases l.le i e he with h1 | h1
    · exact hle i e (by rw [res_lt hi]; exact h1)
    · rcases hle i none (by rw [res_lt hi]; exact h1) with h2 | h2 <;> exact .inr h2
  · obtain ⟨j, hj⟩ := hfrom i x hx
    exact l.new j x hj

structure TS (B0 : Nat) (w0 : World) (E' : Emb) (h h' : Heap) (w' : World) (acc : Heap) (E2 : Emb) : Prop where
  sim : Sim B0 w0 E2 acc w'
  le : (res E' h.length).le E2
  frm : ∀ i x, E2 i = some (some x) → ∃ j, E' j = some (some x)
  base : acc.length = h.length → E2 = res E' h.length ∧ acc = h

theorem tidy1_ok (s : Sim B0 w0 Em h w) (s' : Sim B0 w0 E' h' w') (hlen : h.length ≤ h'.length) (hpre : ∀ i, i < h.length → h'[i]? = h[i]?) {acc acc2 : Heap} {E2 : Emb} (ts : TS B0 w0 E' h h' w' acc E2)
    {v v2 c : Value} (ht : tidy1 h.length h' v acc = some (v2, acc2)) (hv : VR E' v c) : ∃ E3, TS B0 w0 E' h h' w' acc2 E3 ∧ E2.le E3 ∧ VR E3 v2 c := by
  have hflat : ∀ {u : Value}, flatV u = true → VR E' u c → c = u := fun {u} hf hv => by
    cases u with
    | agg cs => cases hv with
      | agg _ c' h => have := h.eq_flat (by simpa [flatV] using hf); rw [Array.toList_inj.1 this]
    | tuple cs => cases hv with
      | tuple _ c' h => have := h.eq_flat (by simpa [flatV] using hf); rw [Array.toList_inj.1 this]
    | _ => exact hv.eq_flat1 (by simpa [flatV] using hf)
  unfold tidy1 at ht
  split at ht
  · rename_i a len cap
    split at ht
    · rename_i hlt
      injection ht with ht; injection ht with e1 e2; subst e1 e2
      refine ⟨E2, ts, Emb.le_refl _, ?_⟩
      refine VR.mono ts.le ?_
      cases hv with
      | slice _ c n cap e hs he hn hc => exact .slice a c _ _ e hs (by rw [res_lt hlt]; exact he) hn hc
      | loose _ c n k cap e hs he hn hc => exact .loose a c _ _ cap e hs (by rw [res_lt hlt]; exact he) hn hc
    · rename_i hge
      split at ht <;> try (cases ht; done)
      rename_i cs ro hrow
      obtain ⟨⟨hfl, hal⟩, ht⟩ := ifSome ht
      injection ht with e1 e2; subst e1 e2
      obtain ⟨hE2, hacc⟩ := ts.base hal
      subst hacc hE2
      obtain ⟨x, hx, hb⟩ := s'.live a.block _ hrow (by simp)
      have hput : (res E' acc.length).le ((res E' acc.length).put acc.length (some x)) := Emb.le_put (res_ge (Nat.le_refl _))
      have hsim := ts.sim
      have hbr : BR B0 ((res E' acc.length).put acc.length (some x)) w' x (.row cs ro) := by
        obtain ⟨C, t, fz, h1, h2, h4, h5, h6, h7⟩ := hb
        exact ⟨C, t, fz, h1, h2, h4, by rw [h5.eq_flat hfl]; exact VRs.flat hfl, h6, h7⟩
      refine ⟨(res E' acc.length).put acc.length (some x), ⟨⟨hsim.below, fun i hi => ?_, fun i hi => ?_, fun i k hi hk => ?_, fun i j y z hij hy hz he => ?_⟩, hput, fun i y hy => ?_, fun hh => by simp at hh⟩, hput, ?_⟩
      · simp at hi
        rw [Emb.put_other (by omega)]; exact res_ge (by omega)
      · rw [List.getElem?_append] at hi
        split at hi
        · rename_i hl; rw [Emb.put_other (by omega)]; exact hsim.dead i hi
        · rcases Nat.eq_zero_or_pos (i - acc.length) with h0 | h0
          · simp [h0] at hi
          · rw [List.getElem?_eq_none (by simp; omega)] at hi; cases hi
      · rw [List.getElem?_append] at hi
        split at hi
        · rename_i hl
          rw [Emb.put_other (by omega)]
          obtain ⟨y, hy, hb⟩ := hsim.live i k hi hk
          exact ⟨y, hy, hb.mono hput⟩
        · rcases Nat.eq_zero_or_pos (i - acc.length) with h0 | h0
          · have hie : i = acc.length := by omega
            simp [h0] at hi
            subst hi hie
            exact ⟨x, Emb.put_same, hbr⟩
          · rw [List.getElem?_eq_none (by simp; omega)] at hi; cases hi
      · have cross : ∀ {i y}, (res E' acc.length) i = some (some y) → y.b = x.b → isRo (acc ++ [Blk.row cs ro])[i]? = true ∧ isRo (acc ++ [Blk.row cs ro])[acc.length]? = true := fun {i y} hy he => by
          obtain ⟨i1, i2⟩ := res_some hy
          obtain ⟨k1, k2⟩ := s'.inj i a.block y x (by omega) i2 hx he
          rw [hpre i i1] at k1
          rw [hrow] at k2
          rw [List.getElem?_append_left i1, List.getElem?_append_right (Nat.le_refl _)]
          exact ⟨k1, by simpa using k2⟩
        by_cases h1 : i = acc.length
        · subst h1
          rw [Emb.put_same] at hy
          injection hy with hy; injection hy with hy; subst hy
          rw [Emb.put_other (fun e => hij e.symm)] at hz
          exact (cross hz he.symm).symm
        · by_cases h2 : j = acc.length
          · subst h2
            rw [Emb.put_same] at hz
            injection hz with hz; injection hz with hz; subst hz
            rw [Emb.put_other h1] at hy
            exact cross hy he
          · rw [Emb.put_other h1] at hy
            rw [Emb.put_other h2] at hz
            have := hsim.inj i j y z hij hy hz he
            rw [List.getElem?_append_left (res_some hy).1, List.getElem?_append_left (res_some hz).1]
            exact this
      · by_cases h1 : i = acc.length
        · subst h1
          rw [Emb.put_same] at hy
          injection hy with hy; injection hy with hy; subst hy
          exact ⟨a.block, hx⟩
        · rw [Emb.put_other h1] at hy
          exact ⟨i, (res_some hy).2⟩
      · cases hv with
        | slice _ c n cap e hs he hn hc =>
          rw [hx] at he
          injection he with he; subst he
          exact .slice _ c _ _ (some x) hs Emb.put_same hn (fun y hy hp => hc y hy hp)
        | loose _ c n k cap e hs he hn hc =>
          rw [hx] at he
          injection he with he; subst he
          exact .loose _ c _ _ cap (some x) hs Emb.put_same hn (fun y hy => hc y hy)
  · obtain ⟨hf, ht⟩ := ifSome ht
    injection ht with e1 e2; subst e1 e2
    refine ⟨E2, ts, Emb.le_refl _, ?_⟩
    rw [hflat hf hv]
    exact VR.flat hf

theorem tidyL_ok (s : Sim B0 w0 Em h w) (s' : Sim B0 w0 E' h' w') (hlen : h.length ≤ h'.length) (hpre : ∀ i, i < h.length → h'[i]? = h[i]?) : ∀ {vs vs2 cs : List Value} {acc acc2 : Heap} {E2 : Emb},
    TS B0 w0 E' h h' w' acc E2 → tidyL h.length h' vs acc = some (vs2, acc2) → VRs E' vs cs → ∃ E3, TS B0 w0 E' h h' w' acc2 E3 ∧ E2.le E3 ∧ VRs E3 vs2 cs
  | [], vs2, cs, acc, acc2, E2, ts, ht, hv => by
    simp [tidyL] at ht
    obtain ⟨rfl, rfl⟩ := ht
    cases hv
    exact ⟨E2, ts, Emb.le_refl _, .nil⟩
  | v :: vs, vs2, cs, acc, acc2, E2, ts, ht, hv => by
    simp only [tidyL] at ht
    split at ht <;> try (cases ht; done)
    rename_i v1 acc1 h1
    split at ht <;> try (cases ht; done)
    rename_i vs1 acc3 h2
    injection ht with ht; injection ht with e1 e2; subst e1 e2
    cases hv with
    | cons _ c _ cs g1 g2 =>
      obtain ⟨E3, t3, l3, r3⟩ := tidy1_ok s s' hlen hpre ts h1 g1
      obtain ⟨E4, t4, l4, r4⟩ := tidyL_ok s s' hlen hpre t3 h2 g2
      exact ⟨E4, t4, Emb.le_trans l3 l4, .cons _ _ _ _ (r3.mono l4) r4⟩

theorem tidy_ok (s : Sim B0 w0 Em h w) (s' : Sim B0 w0 E' h' w') (l : Later Em w E' w') (hlen : h.length ≤ h'.length) (hpre : ∀ i, i < h.length → h'[i]? = h[i]?) {v v2 c : Value} {h2 : Heap}
    (ht : tidy h v h' = some (v2, h2)) (hv : VR E' v c) : ∃ E2, Sim B0 w0 E2 h2 w' ∧ Later Em w E2 w' ∧ VR E2 v2 c := by
  have t0 : TS B0 w0 E' h h' w' h (res E' h.length) := ⟨s.cut s' hlen hpre, Emb.le_refl _, fun i x hx => ⟨i, (res_some hx).2⟩, fun _ => ⟨rfl, rfl⟩⟩
  unfold tidy at ht
  split at ht
  · split at ht <;> try (cases ht; done)
    rename_i vs1 acc h1
    injection ht with ht; injection ht with e1 e2; subst e1 e2
    cases hv with
    | tuple _ c' hc =>
      obtain ⟨E3, t3, l3, r3⟩ := tidyL_ok s s' hlen hpre t0 h1 hc
      exact ⟨E3, t3.sim, Later.cut s l t3.le t3.frm, .tuple _ _ (by simpa using r3)⟩
  · obtain ⟨E3, t3, l3, r3⟩ := tidy1_ok s s' hlen hpre t0 ht hv
    exact ⟨E3, t3.sim, Later.cut s l t3.le t3.frm, r3⟩

end

theorem fget_number : ∀ {vs : List Value} {n t : Nat} {v : Value}, fget (number n vs) t = some v → n ≤ t ∧ vs[t - n]? = some v
  | [], n, t, v, h => by simp [number, fget] at h
  | u :: vs, n, t, v, h => by
    simp only [number, fget] at h
    split at h
    · rename_i e; subst e; injection h with h; subst h; simp
    · rename_i hne
      obtain ⟨h1, h2⟩ := fget_number h
      refine ⟨by omega, ?_⟩
      rw [show t - n = (t - (n + 1)) + 1 by omega]
      simpa using h2

def PrimOk (P : Program) (g : Nat) (p : Prim) : Prop := ∀ (B0 : Nat) (w0 : World) (lo : Nat), B0 ≤ w0.heap.size → ∀ vs h v h', p lo vs h = some (v, h') →
  Enters P g ∧ ∀ (E : Emb) (w : World) (cs : Array Value), Sim B0 w0 E h w → VRs E vs cs.toList → Calls P g cs w fun e w' => ∃ c E', e = .returned c ∧ Sim B0 w0 E' h' w' ∧ Later E w E' w' ∧ VR E' v c

structure EnvOk (P : Program) (E : Env) : Prop where
  kp : PrimKp E
  prim : ∀ g p, E.prim g = some p → PrimOk P g p
  fn : ∀ g fn, E.prim g = none → E.fn g = some fn → ∃ F hint, P.funcs[g]? = some F ∧ cFunc P F hint = some fn

theorem body_ok {P : Program} {E : Env} {n lo g : Nat} (hx : ExOk P E n) {F : Func} {hint : Hint} {fn : IFunc} (hF : P.funcs[g]? = some F) (hc : cFunc P F hint = some fn) {args : List Value} {h h' : Heap} {f' : Fr} {v : Value}
    (hargs : args.length = fn.nargs) (he : exN E n lo [.code fn.body] (number 0 args) h = some (f', h')) (hr : results fn.res f' h' = some v) {B0 : Nat} {w0 : World} (hB0 : B0 ≤ w0.heap.size) :
    Enters P g ∧ ∀ (Em : Emb) (w : World) (cs : Array Value), Sim B0 w0 Em h w → VRs Em args cs.toList →
      Calls P g cs w fun e w' => ∃ c E', e = .returned c ∧ Sim B0 w0 E' h' w' ∧ Later Em w E' w' ∧ VR E' v c := by
  unfold cFunc at hc
  split at hc <;> try (cases hc; done)
  rename_i b hb
  split at hc <;> try (cases hc; done)
  rename_i hname
  split at hc <;> try (cases hc; done)
  rename_i hlb
  split at hc <;> try (cases hc; done)
  rename_i b' rs hcc hrs
  injection hc with hc
  subst hc
  simp only at hargs he hr
  simp only [Bool.and_eq_true, List.all_eq_true, decide_eq_true_eq] at hlb
  refine ⟨fun args w => ?_, fun Em w cs s hcs => ?_⟩
  · simp only [callFunc, Sem.run_bind, run_program, Result.andThen_ok, hF, hname, hb, Option.isNone_some]
    rfl
  · intro callers
    have hlen := hcs.length
    simp at hlen
    let a0 : Act := { tmps := cs ++ Array.replicate (F.ntmps - cs.size) undef, defers := [] }
    have hgt : ∀ {t v}, fget (number 0 args) t = some v → t < args.length ∧ args[t]? = some v := fun hf => by
      obtain ⟨_, h2⟩ := fget_number hf
      simp at h2
      exact ⟨(List.getElem?_eq_some_iff.1 h2).1, h2⟩
    have hnl : ∀ {t v}, fget (number 0 args) t = some v → hint.lb.contains t = true → False := fun {t v} hf hl => by
      obtain ⟨h1, _⟩ := hgt hf
      have := hlb.1 t (by simpa using hl)
      omega
    have fr : Fram B0 w0 hint.lb F.ntmps Em w [] Em (fun _ => 0) (number 0 args) h a0 w := by
      refine ⟨s, fun t v hl hf => ?_, fun t v hl hf => (hnl hf hl).elim, fun t t' v v' hl hl' _ hf => (hnl hf hl).elim, Later.refl _ _, ?_, rfl⟩
      · obtain ⟨h1, h2⟩ := hgt hf
        obtain ⟨c, h3, h4⟩ := hcs.get h2
        have : a0.tmps.getD t undef = c := by
          simp only [a0, Array.getD_eq_getD_getElem?]
          rw [Array.getElem?_append_left (by omega)]
          have h3' : cs[t]? = some c := by simpa using h3
          rw [h3']; rfl
        rw [this]; exact h4
      · simp only [a0, Array.size_append, Array.size_replicate]
        omega
    let bf : Frame := { (default : Frame) with fn := g, kind := .normal }
    have henter : Frame.enter P g cs .normal = bf.at a0 [.code b] := by
      simp [Frame.enter, Frame.at, hF, hb, bf, a0]
    obtain ⟨a', w', Em', bx', todo, fr', hst⟩ := hx B0 w0 hint.lb F.ntmps Em w [] hB0 lo _ _ _ _ _ he [.code b] Em _ a0 w (.cons _ _ _ _ (.code b b' _ _ hcc) .nil) fr bf callers
    obtain ⟨c, hrun, hvr⟩ := results_ok (P := P) fr' hrs hr
    refine ⟨.returned c, w', { bf.at a' todo with mode := .returning }, ⟨c, Em', rfl, fr'.sim, fr'.later, hvr⟩, ?_, rfl, rfl, fr'.defers, rfl, F, hF, hrun⟩
    rw [henter]
    exact hst

/-- What the interpreter says of a call holds of the machine. -/
theorem calls_ok {P : Program} {E : Env} (ok : EnvOk P E) (hmix : P.follows .mixedOrders = true) : ∀ n, CallsOk P E n := by
  intro n
  induction n using Nat.strongRecOn with
  | _ n ih =>
    have hx := exN_ok (P := P) E ok.kp hmix n (fun m hm => ih m hm)
    intro B0 w0 lo hB0 g vs h v h' hv
    unfold callW at hv
    split at hv
    · rename_i p hp; exact ok.prim g p hp B0 w0 lo hB0 vs h v h' hv
    · rename_i hp
      split at hv <;> try (cases hv; done)
      rename_i fn hfn
      split at hv <;> try (cases hv; done)
      rename_i hargs
      split at hv <;> try (cases hv; done)
      rename_i f1 h1 he
      split at hv <;> try (cases hv; done)
      rename_i v1 hr
      obtain ⟨F, hint, hF, hcf⟩ := ok.fn g fn hp hfn
      obtain ⟨hen, hcalls⟩ := body_ok hx hF hcf (by omega) he hr hB0
      refine ⟨hen, fun Em w cs s hcs => ?_⟩
      by_cases hs : fn.scr = true
      · rw [if_pos hs] at hv
        rw [if_pos hs] at he
        have hk := exN_kp ok.kp n _ _ _ _ _ _ he
        refine Calls.mono (hcalls Em w cs s hcs) fun e w' hh => ?_
        obtain ⟨c, E', rfl, g1, g2, g3⟩ := hh
        obtain ⟨E2, k1, k2, k3⟩ := tidy_ok s g1 g2 hk.len (fun i hi => hk.keep (Nat.le_refl _) i hi) hv g3
        exact ⟨c, E2, rfl, k1, k2, k3⟩
      · rw [if_neg hs] at hv
        injection hv with hv; injection hv with e1 e2; subst e1 e2
        exact hcalls Em w cs s hcs

end Go.Ir
