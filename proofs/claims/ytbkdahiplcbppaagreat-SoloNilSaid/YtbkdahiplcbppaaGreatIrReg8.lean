/- Regions, eighth part: new blocks, effects; one operation more. -/
import Derived.Test.YtbkdahiplcbppaaGreatIrReg7
set_option linter.unusedVariables false
set_option linter.unusedSimpArgs false
namespace Go.Ir

theorem later_mk (E : Emb) (w : World) (obj : Obj) {i : Nat} {x : Ent} (hi : E i = none) (hx : x.b = w.heap.size) : Later E w (E.put i (some x)) (w.alloc obj) :=
  ⟨Emb.le_put hi, fun j y hy => by
    by_cases hj : j = i
    · subst hj; rw [Emb.put_same] at hy; injection hy with hy; injection hy with hy; subst hy; exact .inr (by omega)
    · rw [Emb.put_other hj] at hy; exact .inl ⟨j, y, hy, rfl⟩, by show w.heap.size ≤ (w.heap.push obj).size; simp, fun b' hb' hn => Go.RowKit.Below.heap_alloc _ _ _ hb'⟩

section
variable {call : CallF} {lo : Nat} {cc : List COper} {ck : Nat → Nat} {f0 : Fr} {h0 : Heap}
variable {P : Program} {B0 : Nat} {w0 : World} {LB : List Nat} {nt : Nat} {ops : List Oper} {Ef : Emb} {wf : World} {D : List Deferred} {T : Tr call lo cc ck f0 h0} {S : Nat → Bool} {E : Emb} {bx : Nat → Nat} {b : Nat} {a : Act} {w : World}

theorem res_put {n i : Nat} {e : Option Ent} (h : E i = none) : (res E n).le (res (E.put i e) n) := res_mono fun j _ e' he' => by
  by_cases hj : j = i
  · subst hj; rw [h] at he'; cases he'
  · rw [Emb.put_other hj]; exact .inl he'

/-- A new block lies ready. -/
theorem Inv.made (inv : Inv B0 w0 LB nt Ef wf D T S E bx b a w) (hm : CallMono call) (wf' : Wf P LB nt ops cc) {p : Nat} {c : COper} (hc : cc[p]? = some c) (hS : S p = false) (r : Rdy cc ck S p c)
    (hB0 : B0 ≤ w0.heap.size) (hal : isAlloc c.io = true) (hW : T.W p = true) {blk : Blk} {cv : Value} {obj : Obj} {x : Ent} (e1 : T.H (p + 1) = T.H p ++ [blk]) (e2 : blk ≠ .dead) (e4 : x.b = w.heap.size)
    (e5 : ∀ F', (res E (T.L p)).le F' → BR B0 F' (w.alloc obj) x blk) (e6 : ∀ F' : Emb, F' (T.H p).length = some (some x) → VR F' (T.V p) cv) :
    Inv B0 w0 LB nt Ef wf D T (addS S p) (E.put (T.L p) (some x)) bx b (a.put c.o.dst cv) (w.alloc obj) := by
  have hp : p < cc.length := (List.getElem?_eq_some_iff.1 hc).1
  obtain ⟨o1, o2, o3, o4, o5, o6, o7⟩ := wf'.op p c hc
  have hbp := inv.b_le hc hS r (by simp [hal])
  have hL : T.L (p + 1) = T.L p + 1 := by simp [Tr.L, e1]
  have hfree : E (T.L p) = none := inv.free hm hp hS hbp (Nat.le_refl _) (.inl (by omega))
  have hdst : c.dst = c.o.dst := by
    unfold COper.dst
    split
    · rename_i s b' off n x hio; rw [hio] at hal; cases hal
    · rfl
  have hnl : ∀ t, c.dst = some t → LB.contains t = false := fun t ht => by
    rw [hdst] at ht
    cases h : LB.contains t with
    | false => rfl
    | true =>
      obtain ⟨y, hy⟩ := (o3 t ht).1 h
      rw [hy] at hal; cases hal
  have hlt : ∀ e, c.o.dst = some e → e < a.tmps.size := fun e he => by rw [inv.tmps]; exact o2 e he
  have hLb : T.L b ≤ T.L p := T.L_mono hm hbp (by omega)
  have hresb : res (E.put (T.L p) (some x)) (T.L b) = res E (T.L b) := by
    funext i
    by_cases hi : i < T.L b
    · rw [res_lt hi, res_lt hi, Emb.put_other (by omega)]
    · rw [res_ge (by omega), res_ge (by omega)]
  have hld : ∀ {i y}, E i = some (some y) → (w.alloc obj).heap[y.b]? = w.heap[y.b]? := fun hy => Go.RowKit.Below.heap_alloc _ _ _ (inv.lt hy)
  have hin : ∀ j y, (E.put (T.L p) (some x)) j = some (some y) → y = x ∧ j = T.L p ∨ E j = some (some y) := fun j y hy => by
    by_cases hj : j = T.L p
    · subst hj; rw [Emb.put_same] at hy; injection hy with hy; injection hy with hy; exact .inl ⟨hy.symm, rfl⟩
    · rw [Emb.put_other hj] at hy; exact .inr hy
  refine ⟨inv.bn, ?_, fun q c' h1 h2 h3 h4 => ?_, ?_, fun q c' h1 h2 h3 h4 h5 => ?_, fun i hi hE => ?_, fun i j y z hi hij hy hz => ?_, fun t v n hl hnow => ?_, fun t v n hl hnow hnv => ?_,
    fun t t' r1 r2 hl hl' hne' hn hn' hv hv' => ?_, fun q c' sl d off s h1 h2 h3 h4 h5 h6 => ?_, ?_, ?_, ?_⟩
  · rcases inv.last with h | ⟨c', h1, h2, h3⟩
    · exact .inl h
    · exact .inr ⟨c', h1, by simp [addS, h2], h3⟩
  · by_cases hq : q = p
    · subst hq; rw [hc] at h2; injection h2 with h2; subst h2
      cases he : isEff c.io with
      | false => rfl
      | true => cases hio : c.io <;> rw [hio] at he hal <;> simp [isEff] at he <;> simp [isAlloc] at hal
    · rw [addS_other hq] at h3; exact inv.noeff q c' h1 h2 h3 h4
  · rw [hresb]
    exact inv.sim.allocAside (inv.sim.base hB0) obj
  · by_cases hq : q = p
    · subst hq
      exact ⟨x, blk, e1, e2, Emb.put_same, e5 _ (fun i e hi => by
        obtain ⟨g1, g2⟩ := res_some hi
        exact .inl (by rw [res_lt (by omega), Emb.put_other (by omega)]; exact g2))⟩
    · rw [addS_other hq] at h3
      obtain ⟨y, k, g1, g2, g3, g4⟩ := inv.pend q c' h1 h2 h3 h4 h5
      refine ⟨y, k, g1, g2, ?_, (g4.world (hld g3)).mono (res_put hfree)⟩
      rw [Emb.put_other (fun e => by rw [e, hfree] at g3; cases g3)]
      exact g3
  · by_cases hil : i = T.L p
    · exact ⟨p, c, hbp, hc, addS_self, hW, hal, hil⟩
    · rw [Emb.put_other hil] at hE
      obtain ⟨q, c', h1, h2, h3, h4⟩ := inv.only i hi hE
      exact ⟨q, c', h1, h2, by simp [addS, h3], h4⟩
  · rcases hin i y hy with ⟨y1, y2⟩ | hy2
    · rcases hin j z hz with ⟨_, z2⟩ | hz2
      · exact absurd (y2.trans z2.symm) hij
      · have := inv.lt hz2; rw [y1]; omega
    · rcases hin j z hz with ⟨z1, _⟩ | hz2
      · have := inv.lt hy2; rw [z1]; omega
      · exact inv.fresh i j y z hi hij hy2 hz2
  · rw [r.now T hc hS] at hnow
    rw [put_get hlt]
    by_cases hd : c.dst = some t
    · rw [if_pos hd] at hnow
      rw [← hdst, if_pos hd]
      injection hnow with hnow; injection hnow with h1 h2; subst h1 h2
      refine e6 _ ?_
      show res _ _ (T.L p) = _
      rw [res_lt (by omega), Emb.put_same]
    · rw [if_neg hd] at hnow
      rw [← hdst, if_neg hd]
      exact (inv.slot t v n hl hnow).mono (res_put hfree)
  · rw [r.now T hc hS] at hnow
    have hd : ¬ c.dst = some t := fun h => by rw [hnl t h] at hl; cases hl
    rw [if_neg hd] at hnow
    rw [put_get hlt, ← hdst, if_neg hd]
    obtain ⟨g1, g2, g3⟩ := inv.box t v n hl hnow hnv
    refine ⟨(g1.world (Go.RowKit.Below.heap_alloc _ _ _ g1.lt)).mono (res_put hfree), g2, fun j y hy => ?_⟩
    rcases hin j y hy with ⟨rfl, _⟩ | hy
    · have := g1.lt; omega
    · exact g3 j y hy
  · rw [r.now T hc hS, if_neg (fun h => by rw [hnl t h] at hl; cases hl)] at hn
    rw [r.now T hc hS, if_neg (fun h => by rw [hnl t' h] at hl'; cases hl')] at hn'
    exact inv.sep t t' r1 r2 hl hl' hne' hn hn' hv hv'
  · by_cases hq : q = p
    · subst hq; rw [hc] at h1; injection h1 with h1; subst h1
      rw [h4] at hal; cases hal
    · rw [addS_other hq] at h2
      have : ¬ c.o.dst = some s := fun e => hq (h6 p c hc e).symm
      rw [put_get hlt, if_neg this]
      exact inv.der q c' sl d off s h1 h2 h3 h4 h5 h6
  · exact inv.later.trans (later_mk E w obj hfree e4)
  · rw [put_size]; exact inv.tmps
  · rw [put_defers]; exact inv.defers

/-- An effect is done. -/
theorem Inv.done (inv : Inv B0 w0 LB nt Ef wf D T S E bx b a w) (hm : CallMono call) (wf' : Wf P LB nt ops cc) {p : Nat} {c : COper} (hc : cc[p]? = some c) (hS : S p = false) (r : Rdy cc ck S p c)
    (hef : isEff c.io = true) (hW : T.W p = true) {cv : Value} {w' : World} {E1 : Emb} (s : Sim B0 w0 E1 (T.H (p + 1)) w') (hl : Later (res E (T.L p)) w E1 w') (hv : VR E1 (T.V p) cv) :
    ∃ E', Inv B0 w0 LB nt Ef wf D T (addS S p) E' bx (p + 1) (a.put c.o.dst cv) w' := by
  have hp : p < cc.length := (List.getElem?_eq_some_iff.1 hc).1
  obtain ⟨o1, o2, o3, o4, o5, o6, o7⟩ := wf'.op p c hc
  have hbp := inv.b_le hc hS r (by simp [hef])
  have hdst : c.dst = c.o.dst := by
    unfold COper.dst
    split
    · rename_i s b' off n x hio; rw [hio] at hef; cases hef
    · rfl
  have hnl : ∀ t, c.dst = some t → LB.contains t = false := fun t ht => by
    rw [hdst] at ht
    cases h : LB.contains t with
    | false => rfl
    | true =>
      obtain ⟨y, hy⟩ := (o3 t ht).1 h
      rw [hy] at hef; cases hef
  have hlt : ∀ e, c.o.dst = some e → e < a.tmps.size := fun e he => by rw [inv.tmps]; exact o2 e he
  have hLb : T.L b ≤ T.L p := T.L_mono hm hbp (by omega)
  have hLp : T.L p ≤ T.L (p + 1) := T.L_step hm hp
  let E' : Emb := fun i => if i < T.L (p + 1) then E1 i else E i
  have lo' : ∀ i, i < T.L (p + 1) → E' i = E1 i := fun i hi => by simp [E', hi]
  have hi' : ∀ i, T.L (p + 1) ≤ i → E' i = E i := fun i hi => by simp only [E']; rw [if_neg (by omega)]
  have hle : E.le E' := fun i e he => by
    by_cases h1 : i < T.L p
    · rw [lo' i (by omega)]
      exact hl.le i e (by rw [res_lt h1]; exact he)
    · by_cases h2 : i < T.L (p + 1)
      · rw [inv.free hm hp hS hbp (i := i) (by omega) (.inl h2)] at he; cases he
      · rw [hi' i (by omega)]; exact .inl he
  have hler : ∀ n, (res E n).le (res E' n) := fun n => res_mono fun i _ e he => hle i e he
  have hresE : res E' (T.L (p + 1)) = E1 := by
    funext i
    by_cases h1 : i < T.L (p + 1)
    · rw [res_lt h1, lo' i h1]
    · rw [res_ge (by omega), s.out i (by simp only [Tr.L] at h1; omega)]
  -- what E' tells of: what E told of, or what is new
  have hin : ∀ j y, E' j = some (some y) → (∃ j' y', E j' = some (some y') ∧ y'.b = y.b ∧ (j' = j ∨ j' < T.L p)) ∨ w.heap.size ≤ y.b := fun j y hy => by
    by_cases h1 : j < T.L (p + 1)
    · rw [lo' j h1] at hy
      rcases hl.new j y hy with ⟨j', y', g1, g2⟩ | g
      · obtain ⟨g3, g4⟩ := res_some g1
        exact .inl ⟨j', y', g4, g2, .inr g3⟩
      · exact .inr g
    · rw [hi' j (by omega)] at hy
      exact .inl ⟨j, y, hy, rfl, .inl rfl⟩
  have hkeep : ∀ b', b' < w.heap.size → (∀ j y, E j = some (some y) → y.b ≠ b') → w'.heap[b']? = w.heap[b']? := fun b' hb' hn =>
    hl.kept b' hb' fun j y hy => hn j y (res_some hy).2
  have hpk : ∀ i x, T.L (p + 1) ≤ i → E i = some (some x) → w'.heap[x.b]? = w.heap[x.b]? := fun i x hi hx =>
    hl.kept _ (inv.lt hx) fun j y hy => by
      obtain ⟨g1, g2⟩ := res_some hy
      exact (inv.fresh i j x y (by omega) (by omega) hx g2).symm
  have hlater : Later E w E' w' := ⟨hle, fun i x hx => by
    rcases hin i x hx with ⟨j', y', g1, g2, _⟩ | g
    · exact .inl ⟨j', y', g1, g2⟩
    · exact .inr g, hl.size, hkeep⟩
  refine ⟨E', by omega, .inr ⟨c, by simpa using hc, by simpa using addS_self, by simpa using hW, hef⟩, fun q c' h1 h2 h3 h4 => ?_, by rw [hresE]; exact s, fun q c' h1 h2 h3 h4 h5 => ?_, fun i hi hE => ?_,
    fun i j y z hi hij hy hz => ?_, fun t v n hl' hnow => ?_, fun t v n hl' hnow hnv => ?_, fun t t' r1 r2 hl1 hl2 hne' hn hn' hv1 hv' => ?_, fun q c' sl d off s' h1 h2 h3 h4 h5 h6 => ?_, inv.later.trans hlater, ?_, ?_⟩
  · rw [addS_other (by omega)] at h3; exact inv.noeff q c' (by omega) h2 h3 h4
  · rw [addS_other (by omega)] at h3
    obtain ⟨x, k, g1, g2, g3, g4⟩ := inv.pend q c' (by omega) h2 h3 h4 h5
    have hql : q < cc.length := (List.getElem?_eq_some_iff.1 h2).1
    have hLq := T.L_mono hm h1 (Nat.le_of_lt hql)
    exact ⟨x, k, g1, g2, by rw [hi' _ hLq]; exact g3, (g4.world (hpk _ x hLq g3)).mono (hler _)⟩
  · rw [hi' i hi] at hE
    obtain ⟨q, c', h1, h2, h3, h4, h5, h6⟩ := inv.only i (by omega) hE
    have hql : q < cc.length := (List.getElem?_eq_some_iff.1 h2).1
    refine ⟨q, c', ?_, h2, by simp [addS, h3], h4, h5, h6⟩
    rcases Nat.lt_or_ge p q with h | h
    · omega
    · exfalso
      by_cases hqp : q = p
      · subst hqp; rw [hS] at h3; cases h3
      · obtain ⟨x, k, g1, _⟩ := inv.pend q c' h1 h2 h3 h4 h5
        have : T.L (q + 1) = T.L q + 1 := by simp [Tr.L, g1]
        have := T.L_mono hm (show q + 1 ≤ p by omega) (by omega)
        omega
  · rw [hi' i hi] at hy
    rcases hin j z hz with ⟨j', y', g1, g2, g3⟩ | g
    · rw [← g2]
      refine inv.fresh i j' y y' (by omega) ?_ hy g1
      rcases g3 with g3 | g3 <;> omega
    · have := inv.lt hy; omega
  · rw [r.now T hc hS] at hnow
    rw [put_get hlt]
    by_cases hd : c.dst = some t
    · rw [if_pos hd] at hnow
      rw [← hdst, if_pos hd]
      injection hnow with hnow; injection hnow with e1 e2; subst e1 e2
      rw [hresE]; exact hv
    · rw [if_neg hd] at hnow
      rw [← hdst, if_neg hd]
      exact (inv.slot t v n hl' hnow).mono (hler n)
  · rw [r.now T hc hS] at hnow
    have hd : ¬ c.dst = some t := fun h => by rw [hnl t h] at hl'; cases hl'
    rw [if_neg hd] at hnow
    rw [put_get hlt, ← hdst, if_neg hd]
    obtain ⟨g1, g2, g3⟩ := inv.box t v n hl' hnow hnv
    refine ⟨(g1.world (hkeep _ g1.lt g3)).mono (hler n), g2, fun j y hy => ?_⟩
    rcases hin j y hy with ⟨j', y', k1, k2, _⟩ | k
    · rw [← k2]; exact g3 j' y' k1
    · have := g1.lt; omega
  · rw [r.now T hc hS, if_neg (fun h => by rw [hnl t h] at hl1; cases hl1)] at hn
    rw [r.now T hc hS, if_neg (fun h => by rw [hnl t' h] at hl2; cases hl2)] at hn'
    exact inv.sep t t' r1 r2 hl1 hl2 hne' hn hn' hv1 hv'
  · by_cases hq : q = p
    · subst hq; rw [hc] at h1; injection h1 with h1; subst h1
      rw [h4] at hef; cases hef
    · rw [addS_other hq] at h2
      have : ¬ c.o.dst = some s' := fun e => hq (h6 p c hc e).symm
      rw [put_get hlt, if_neg this]
      exact inv.der q c' sl d off s' h1 h2 h3 h4 h5 h6
  · rw [put_size]; exact inv.tmps
  · rw [put_defers]; exact inv.defers

end
end Go.Ir
