/- Slices of slices as an argument. -/
import Derived.Test.YtojjkphkfpeimaaGreatIrD
import Derived.SizedLaws
import Derived.Test.YtojjkphkfpeimaaGreatWorldI
import Derived.Test.YtojjkphkfpeimaaGreatThreadQ3
set_option linter.unusedVariables false
set_option linter.unusedSimpArgs false

namespace Go.Ir
open Go Go.ChangeShapes Go.WideShapes

theorem qrl {P : Program} {S T n : Nat} {α : Type} [Inhabited α] (f : α → List Value) (hu : P.underlying S = some (.slice T)) (hcl : P.cellsOf T = n) (hn : 0 < n) (hf : ∀ a, (f a).length = n ∧ (f a).all flat1 = true ∧ (f a).all qad = true)
  {H : Type} {enc : TypeId × Value → H} {W : World} {spare : Nat → Bool} {held : Bool}
  (op : ∀ {base k : Nat} {cs : List Value} {x : DataW H × List MemPlace}, DataW.trod enc P W base spare held k T cs = some x → ∃ a, cs = f a)
  {E : Emb} {h : qab} (s : Sim W.heap.size W E h W) (hro : RoH h) {base k : Nat} {v0 : Value} {x : DataW H × List MemPlace} (hk : DataW.trod enc P W base spare held k S [v0] = some x) (hz : ∀ w ∈ x.1.weights P S, w ≤ reachBytes) :
  ∃ E' h' v l, Sim W.heap.size W E' h' W ∧ E.le E' ∧ RoH h' ∧ Ext h h' ∧ VR E' v v0 ∧ Sl h' n v (List.map f l) ∧ qit v l.length ∧ l.length * P.bytesOf T ≤ reachBytes := by
 rcases Deep.open_slice hu hk with ⟨hc, _⟩ | ⟨a, len, cap, m, k', D, Pl, hc, _, hlc, _, hm, hx, hX⟩
 ·injection hc with hc
  subst hc
  exact ⟨E, h, .slice none 0 0, [], s, Emb.le_refl E, hro, .refl _, .slice0, ⟨fun e he => (by cases he), .inl ⟨rfl, none, 0, rfl⟩⟩, .inl ⟨rfl, rfl⟩, by simp⟩
 ·injection hc with hc
  subst hc
  simp only [hcl] at hX
  have hlm : len ≤ m := by
   rw [hm]; split <;> omega
  have hbd : len * P.bytesOf T ≤ reachBytes := by
   have := hz ((((List.range len).map D).length + ((List.range (m - len)).map fun j => D (len + j)).length) * P.bytesOf T) (by rw [hx]; simp [DataW.weights, hu])
   rw [List.length_map, List.length_range] at this
   exact Nat.le_trans (Nat.mul_le_mul_right _ (Nat.le_add_right _ _)) this
  obtain ⟨X, hXX⟩ := Deep.choose_lt (α := List Value) (n := len) (p := fun i cs => (∃ o : α, cs = f o) ∧ ∀ j, j < n → W.cell? (a.add (i * n + j)) = cs[j]?) (fun i hi => by
   obtain ⟨cs', g1, g2⟩ := hX i (by omega)
   obtain ⟨_, _, g3⟩ := World.cells?_some g1
   refine ⟨cs', op g2, fun j hj => ?_⟩
   have := g3 j hj
   rw [Deep.add_add] at this
   exact this)
  obtain ⟨O, hO⟩ := Deep.choose_lt (α := α) (n := len) (p := fun i o => X i = f o) (fun i hi => (hXX i hi).1)
  obtain ⟨E', h', v, s1, s2, s3, s4, s5, s6, s7⟩ := qiB (a := a) (len := len) (cap := cap) (n := n) s hro hlc X hn (fun i hi => by rw [hO i hi]; exact ⟨(hf _).1, (hf _).2.2⟩) (fun i j x hi hj => by
   have hjn : j < n := by
    have := (List.getElem?_eq_some_iff.1 hj).1
    rw [hO i hi, (hf _).1] at this
    exact this
   refine ⟨x, by rw [(hXX i hi).2 j hjn, hj], VR.flat ?_⟩
   rw [hO i hi] at hj
   have := List.all_eq_true.1 (hf (O i)).2.1 x (List.mem_of_getElem? hj)
   unfold qae
   split <;> simp_all [flat1])
  refine ⟨E', h', v, (List.range len).map O, s1, s2, s3, s4, s5, ?_, by simpa using s7, by rw [List.length_map, List.length_range]; exact hbd⟩
  have : List.map f ((List.range len).map O) = (List.range len).map X := by
   rw [List.map_map]
   exact List.map_congr_left fun i hi => (hO i (by simpa using hi)).symm
  rw [this]
  exact s6

theorem qrm {H : Type} {P : Program} {e : TypeId} : ∀ {l : List (DataW H)} {d : DataW H}, d ∈ l → ∀ w ∈ d.weights P e, w ∈ DataW.weightsAll P e l
 | [], _, h, _, _ => by cases h
 | a :: r, d, h, w, hw => by
   unfold DataW.weightsAll
   rcases List.mem_cons.1 h with rfl | h
   ·exact List.mem_append_left _ hw
   ·exact List.mem_append_right _ (qrm h w hw)

theorem qrn {P : Program} {S T U n : Nat} {α : Type} [Inhabited α] (f : α → List Value) (hu : P.underlying S = some (.slice T)) (hu1 : P.underlying T = some (.slice U)) (hcT : P.cellsOf T = 1) (hcl : P.cellsOf U = n) (hn : 0 < n) (hf : ∀ a, (f a).length = n ∧ (f a).all flat1 = true ∧ (f a).all qad = true)
  {H : Type} {enc : TypeId × Value → H} {W : World} {spare : Nat → Bool} {held : Bool}
  (op : ∀ {base k : Nat} {cs : List Value} {x : DataW H × List MemPlace}, DataW.trod enc P W base spare held k U cs = some x → ∃ a, cs = f a)
  {E : Emb} {h : qab} (s : Sim W.heap.size W E h W) (hro : RoH h) {b0 base : Nat} {r : Reach} {v0 : Value} {d0 : DataW H} {p0 : List MemPlace} (hval : Value.okWide P W r b0 S v0) (hd : DataW.Trod enc P W base spare held S v0 d0 p0) (hz : ∀ w ∈ d0.weights P S, w ≤ reachBytes) :
  ∃ E' h' v, ∃ l : List (Value × List α), Sim W.heap.size W E' h' W ∧ E.le E' ∧ RoH h' ∧ Ext h h' ∧ VR E' v v0 ∧ Sl h' 1 v (l.map fun p => [p.1]) ∧ qit v l.length ∧ l.length * P.bytesOf T ≤ reachBytes ∧
   ∀ p ∈ l, Sl h' n p.1 (List.map f p.2) ∧ qit p.1 p.2.length ∧ p.2.length * P.bytesOf U ≤ reachBytes := by
 obtain ⟨p, len, cap, rfl⟩ := okWide_slice hu hval
 obtain ⟨k, hk⟩ := hd
 rcases Deep.open_slice1 hu hcT hk with ⟨hc, _⟩ | ⟨a, len', cap', m, k', C, D, Pl, hc, _, hlc, _, hm, hx, hX⟩
 ·have hc : Value.slice p len cap = .slice none 0 0 := by simpa [Value.cells] using hc
  injection hc with e1 e2 e3
  subst e1 e2 e3
  exact ⟨E, h, .slice none 0 0, [], s, Emb.le_refl E, hro, .refl _, .slice0, ⟨fun e he => (by cases he), .inl ⟨rfl, none, 0, rfl⟩⟩, .inl ⟨rfl, rfl⟩, by simp, fun p hp => (by cases hp)⟩
 ·have hc : Value.slice p len cap = .slice (some a) len' cap' := by simpa [Value.cells] using hc
  injection hc with e1 e2 e3
  subst e1 e2 e3
  injection hx with hx _
  subst hx
  have hlm : len ≤ m := by
   rw [hm]; split <;> omega
  have hzi : ∀ i, i < len → ∀ w ∈ (D i).weights P T, w ≤ reachBytes := fun i hi w hw => by
   refine hz w ?_
   simp only [DataW.weights, hu]
   refine List.mem_cons_of_mem _ (List.mem_append_left _ (qrm (List.mem_map.2 ⟨i, by simpa using hi, rfl⟩) w hw))
  have key : ∀ k, k ≤ len → ∃ E' h', ∃ (V : Nat → Value) (L : Nat → List α), Sim W.heap.size W E' h' W ∧ E.le E' ∧ RoH h' ∧ Ext h h' ∧
    ∀ i, i < k → VR E' (V i) (C i) ∧ Sl h' n (V i) ((L i).map f) ∧ qit (V i) (L i).length ∧ (L i).length * P.bytesOf U ≤ reachBytes := by
   intro k
   induction k with
   | zero => exact fun _ => ⟨E, h, fun _ => .slice none 0 0, fun _ => [], s, Emb.le_refl E, hro, .refl _, fun i hi => absurd hi (Nat.not_lt_zero i)⟩
   | succ k ih =>
     intro hk1
     obtain ⟨E1, h1, V, L, s1, le1, ro1, ex1, al1⟩ := ih (by omega)
     obtain ⟨E2, h2, v, l, s2, le2, ro2, ex2, vr2, sl2, ti2, bd2⟩ := qrl f hu1 hcl hn hf op s1 ro1 (hX k (by omega)).2 (hzi k (by omega))
     refine ⟨E2, h2, fun i => if i = k then v else V i, fun i => if i = k then l else L i, s2, Emb.le_trans le1 le2, ro2, ex1.trans ex2, fun i hi => ?_⟩
     by_cases he : i = k
     ·subst he
      simp only [if_true]
      exact ⟨vr2, sl2, ti2, bd2⟩
     ·simp only [if_neg he]
      obtain ⟨g1, g2, g3, g4⟩ := al1 i (by omega)
      exact ⟨g1.mono le2, g2.ext ex2, g3, g4⟩
  obtain ⟨E1, h1, V, L, s1, le1, ro1, ex1, al1⟩ := key len (Nat.le_refl _)
  obtain ⟨E2, h2, v, q1, q2, q3, q4, q5, q6, q7⟩ := qiB (a := a) (len := len) (cap := cap) (n := 1) s1 ro1 hlc (fun i => [V i]) (by decide) (fun i hi => ⟨rfl, by
   obtain ⟨b, c, hb⟩ := (al1 i hi).2.1.len
   simp only [hb]
   rfl⟩) (fun i j x hi hj => by
   have hj0 : j = 0 := by
    have := (List.getElem?_eq_some_iff.1 hj).1
    simp at this
    omega
   subst hj0
   injection hj with hj
   subst hj
   exact ⟨C i, by rw [Nat.mul_one, Nat.add_zero]; exact (hX i (by omega)).1, (al1 i hi).1⟩)
  refine ⟨E2, h2, v, (List.range len).map fun i => (V i, L i), q1, Emb.le_trans le1 q2, q3, ex1.trans q4, q5, ?_, by simpa using q7, ?_, fun p hp => ?_⟩
  ·rw [List.map_map]; exact q6
  ·have := hz ((((List.range len).map D).length + ((List.range (m - len)).map fun j => D (len + j)).length) * P.bytesOf T) (by simp [DataW.weights, hu])
   rw [List.length_map, List.length_range] at this ⊢
   exact Nat.le_trans (Nat.mul_le_mul_right _ (Nat.le_add_right _ _)) this
  ·obtain ⟨i, hi, rfl⟩ := List.mem_map.1 hp
   obtain ⟨g1, g2, g3, g4⟩ := al1 i (by simpa using hi)
   exact ⟨g2.ext q4, g3, g4⟩
end Go.Ir

/- Of two worlds behind the same picks; what is asked of both. -/
namespace Go.Proofs.YtojjkphkfpeimaaGreat
open Go Go.Ir

theorem qro {h : qab} {c : Cfg} {v w : Value} {l : List (Value × List Op4)} {ks : List Int} (hm : c.may) (hv : Pgs h v l) (hl : (l.length : Int) ≤ c.T) (hw : Sl h 1 w (kcs ks)) (hk : ks.length ≤ 1000) :
  ∃ H' g' B cb pb M ka kh tv hv, qfV En 0 Id.zcu [.agg #[I c.A, I c.S, I c.T], v, w] h = some (qke B, H') ∧ WInv H' g' c cb B (qqX c (w0 c l) ks) pb M ka kh tv hv ∧ Old h H' g' ∧ h.length ≤ B := by
 have key : ∃ u H', qfV En 0 Id.zcu [.agg #[I c.A, I c.S, I c.T], v, w] h = some (u, H') ∧ ∃ g' B cb pb M ka kh tv hv, u = qke B ∧ WInv H' g' c cb B (qqX c (w0 c l) ks) pb M ka kh tv hv ∧ Old h H' g' ∧ h.length ≤ B := by
  refine Exists.elim hw.len fun wb hq => Exists.elim hq fun wc hwe => ?_
  rw [qqH] at hwe
  refine Exists.elim (qqU hm hv hl) fun H1 hq => Exists.elim hq fun g1 hq => Exists.elim hq fun B hq => Exists.elim hq fun cb hq => Exists.elim hq fun pb hq => Exists.elim hq fun M hq => Exists.elim hq fun ka hq => Exists.elim hq fun tv hq => ?_
  have hN := hq.1
  have hW1 := hq.2.1
  have hO1 := hq.2.2.1
  have hB0 := hq.2.2.2
  clear hq
  subst hwe
  refine qii rfl Fn.zcu rfl rfl ?_
  repeat' (first | (show ER _ _ _ _ _ _ _; first | refine .seq ?_ | refine .reg ?_ | refine .yes rfl ?_ | refine .no rfl ?_ | refine .skip ?_ | refine .block ?_ | refine .endB ?_ | refine .exit rfl ?_ | refine .br rfl (fun hc => ?_) (fun hc => ?_) | refine .scope ?_ | refine .inScope ?_ | refine .label ?_ | refine .ret rfl ?_ | refine .nil rfl ?_) | (show EG _ _ _ _ _ _ _ _ _; first | refine .mov rfl rfl ?_ | refine .lload rfl rfl rfl rfl ?_ | refine .laddr rfl rfl rfl ?_ | (show EG _ _ (⟨_, .bin _ _ _, _, _⟩ :: _) _ _ _ _ _ _; first | refine .lss rfl rfl rfl (fun hc => ?_) (fun hc => ?_) | refine .leq rfl rfl rfl (fun hc => ?_) (fun hc => ?_) | refine .gtr rfl rfl rfl (fun hc => ?_) (fun hc => ?_) | refine .geq rfl rfl rfl (fun hc => ?_) (fun hc => ?_) | refine .eql rfl rfl rfl (fun hc => ?_) (fun hc => ?_) | refine .neqT rfl rfl rfl (by omega) ?_ | refine .neqF rfl rfl rfl (by omega) ?_) | refine .call rfl rfl (hN) ?_ | refine .skip rfl ?_ | refine .fin ?_ | refine .go rfl rfl rfl ?_ | refine .gono rfl rfl rfl ?_ | refine .skipn rfl ?_))
  refine .loop (fun n f H => ∃ (i : Nat) (g : Nat → Nat) (M kh : Nat) (hv : Value), n + i = ks.length ∧ f = [(2, .slice wb ks.length wc), (7, qke B), (9, N i)] ∧
   WInv H g c cb B (qqX c (w0 c l) (ks.take i)) pb M ka kh tv hv ∧ Old h H g) (n := ks.length)
   ⟨0, g1, M, 0, _, rfl, rfl, hW1, hO1⟩ ?_
  clear hW1 hO1 hN
  rintro n f H ⟨i, g, M, kh, hv, hn, rfl, hW, hO⟩ next
  by_cases hi : i < ks.length
  ·have hgi : ks[i]? = some ks[i] := List.getElem?_eq_getElem hi
   generalize ks[i] = q at hgi
   refine Exists.elim (qqI (hw.ext hO.ext) hgi) fun ad hq => Exists.elim hq fun cap' hq => ?_
   have hva := hq.1
   have I0 := hq.2
   clear hq
   injection hva with e1 e2 e3
   subst e1
   have hev := qq0 c (w0 c l) (ks.take i)
   have h30 : (ks.take i).length ≤ 1000 := by rw [List.length_take]; omega
   have h00 : (w0 c l).evs.length = 0 := rfl
   refine Exists.elim (qqT hm hW q (by omega)) fun H2 hq => Exists.elim hq fun g2 hq => Exists.elim hq fun M2 hq => Exists.elim hq fun kh2 hq => Exists.elim hq fun hv2 hq => ?_
   have hP := hq.1
   have hW2 := hq.2.1
   have hc2 := hq.2.2
   clear hq
   rw [← qqY hgi] at hW2
   generalize (qqR c (qqX c (w0 c l) (ks.take i)) q).2 = pr at hP
   repeat' (first | (show ER _ _ _ _ _ _ _; first | refine .seq ?_ | refine .reg ?_ | refine .yes rfl ?_ | refine .no rfl ?_ | refine .skip ?_ | refine .block ?_ | refine .endB ?_ | refine .exit rfl ?_ | refine .br rfl (fun hc => ?_) (fun hc => ?_) | refine .scope ?_ | refine .inScope ?_ | refine .label ?_ | refine .ret rfl ?_ | refine .nil rfl ?_) | (show EG _ _ _ _ _ _ _ _ _; first | refine .mov rfl rfl ?_ | refine .lload rfl rfl rfl rfl ?_ | refine .laddr rfl rfl rfl ?_ | (show EG _ _ (⟨_, .bin _ _ _, _, _⟩ :: _) _ _ _ _ _ _; first | refine .lssT rfl rfl rfl (by omega) ?_ | refine .lssF rfl rfl rfl (by omega) ?_ | refine .leq rfl rfl rfl (fun hc => ?_) (fun hc => ?_) | refine .gtr rfl rfl rfl (fun hc => ?_) (fun hc => ?_) | refine .geq rfl rfl rfl (fun hc => ?_) (fun hc => ?_) | refine .eql rfl rfl rfl (fun hc => ?_) (fun hc => ?_) | refine .neq rfl rfl rfl (fun hc => ?_) (fun hc => ?_) | refine .addN rfl rfl rfl (by omega) ?_ | refine .addN (b := 1) rfl rfl rfl (by omega) ?_ | refine .subN rfl rfl rfl (by omega) ?_ | refine .subN (b := 1) rfl rfl rfl (by omega) ?_) | refine .load rfl rfl (I0) ?_ | refine .call rfl rfl (hP) ?_ | refine .iaddr rfl rfl rfl (hi) ?_ | refine .skip rfl ?_ | refine .fin ?_ | refine .go rfl rfl rfl ?_ | refine .gono rfl rfl rfl ?_ | refine .skipn rfl ?_))
   exact next (n - 1) _ _ (by omega) ⟨i + 1, g2, M2, kh2, hv2, by omega, rfl, hW2, hO.calm hc2⟩
  ·have hil : i = ks.length := by omega
   rw [hil, List.take_length] at hW
   repeat' (first | (show ER _ _ _ _ _ _ _; first | refine .seq ?_ | refine .reg ?_ | refine .yes rfl ?_ | refine .no rfl ?_ | refine .skip ?_ | refine .block ?_ | refine .endB ?_ | refine .exit rfl ?_ | refine .br rfl (fun hc => ?_) (fun hc => ?_) | refine .scope ?_ | refine .inScope ?_ | refine .label ?_ | refine .ret rfl ?_ | refine .nil rfl ?_) | (show EG _ _ _ _ _ _ _ _ _; first | refine .mov rfl rfl ?_ | refine .lload rfl rfl rfl rfl ?_ | refine .laddr rfl rfl rfl ?_ | (show EG _ _ (⟨_, .bin _ _ _, _, _⟩ :: _) _ _ _ _ _ _; first | refine .lssT rfl rfl rfl (by omega) ?_ | refine .lssF rfl rfl rfl (by omega) ?_ | refine .leq rfl rfl rfl (fun hc => ?_) (fun hc => ?_) | refine .gtr rfl rfl rfl (fun hc => ?_) (fun hc => ?_) | refine .geq rfl rfl rfl (fun hc => ?_) (fun hc => ?_) | refine .eql rfl rfl rfl (fun hc => ?_) (fun hc => ?_) | refine .neq rfl rfl rfl (fun hc => ?_) (fun hc => ?_)) | refine .skip rfl ?_ | refine .fin ?_ | refine .go rfl rfl rfl ?_ | refine .gono rfl rfl rfl ?_ | refine .skipn rfl ?_))
   exact ⟨g, B, cb, pb, M, ka, kh, tv, hv, rfl, hW, hO, hB0⟩
 obtain ⟨u, H', h1, g', B, cb, pb, M, ka, kh, tv, hv, rfl, h2⟩ := key
 exact ⟨H', g', B, cb, pb, M, ka, kh, tv, hv, h1, h2⟩
theorem qrp {h : qab} {c : Cfg} {v w : Value} {l : List (Value × List Op4)} (hv : Pgs h v l) (hn : ¬ c.may ∨ c.T < (l.length : Int)) : qfV En 0 Id.zcu [.agg #[I c.A, I c.S, I c.T], v, w] h = some (.pointer none, h) := by
 have hN := qqW hv hn
 refine qgx rfl Fn.zcu rfl rfl ?_
 repeat' (first | (show ER _ _ _ _ _ _ _; first | refine .seq ?_ | refine .reg ?_ | refine .yes rfl ?_ | refine .no rfl ?_ | refine .skip ?_ | refine .block ?_ | refine .endB ?_ | refine .exit rfl ?_ | refine .br rfl (fun hc => ?_) (fun hc => ?_) | refine .scope ?_ | refine .inScope ?_ | refine .label ?_ | refine .ret rfl ?_ | refine .nil rfl ?_) | (show EG _ _ _ _ _ _ _ _ _; first | refine .mov rfl rfl ?_ | refine .lload rfl rfl rfl rfl ?_ | refine .laddr rfl rfl rfl ?_ | (show EG _ _ (⟨_, .bin _ _ _, _, _⟩ :: _) _ _ _ _ _ _; first | refine .lss rfl rfl rfl (fun hc => ?_) (fun hc => ?_) | refine .leq rfl rfl rfl (fun hc => ?_) (fun hc => ?_) | refine .gtr rfl rfl rfl (fun hc => ?_) (fun hc => ?_) | refine .geq rfl rfl rfl (fun hc => ?_) (fun hc => ?_) | refine .eql rfl rfl rfl (fun hc => ?_) (fun hc => ?_) | refine .neqT rfl rfl rfl (by omega) ?_ | refine .neqF rfl rfl rfl (by omega) ?_) | refine .call rfl rfl (hN) ?_ | refine .skip rfl ?_ | refine .fin ?_ | refine .go rfl rfl rfl ?_ | refine .gono rfl rfl rfl ?_ | refine .skipn rfl ?_))
 rfl

structure WView (H : qab) (ps : List Nat) (c : Cfg) (cb : CB) (B : Nat) (w : Wst) (pb : List Nat) (M ka kh : Nat) (tv hv : Value) : Prop where
 row : H[B]? = some (.row (qqO c cb tv hv M w.pa w.mo w.lw) false)
 arr : Arr H tv pb ka
 out : OutB H hv w.evs kh
 len : pb.length = w.ts.length
 th : ∀ (i : Nat) t b, w.ts[i]? = some t → pb[i]? = some b → b ∉ ps ∧ ∃ ov ev mv av a k, H[b]? = some (.row (qpy c t ov ev mv av) false) ∧ ov = .slice a t.ops.length k
 nB : B ∉ ps
 na : pb ≠ [] → ka ∉ ps
 nh : w.evs ≠ [] → kh ∉ ps
theorem WInv.view {H : qab} {g : Nat → Nat} {c : Cfg} {cb : CB} {B : Nat} {w : Wst} {pb : List Nat} {M ka kh : Nat} {tv hv : Value} (h : WInv H g c cb B w pb M ka kh tv hv) {ps : List Nat} (hp : ∀ p ∈ ps, H.length ≤ p ∨ g p = 0 ∨ g p = 2) : WView H ps c cb B w pb M ka kh tv hv := by
 have no : ∀ {x : Nat}, x < H.length → g x ≠ 0 → g x ≠ 2 → x ∉ ps := fun {x} hx h0 h2 hm => by
  rcases hp x hm with q | q | q
  ·omega
  ·exact h0 q
  ·exact h2 q
 refine ⟨h.row, h.arr, h.out, h.p.len, fun i t b ht hb => ?_, no (qip h.row) (by rw [h.gB]; decide) (by rw [h.gB]; decide), fun q => no (h.arr.lt q) (by rw [(h.ga q).1]; decide) (by rw [(h.ga q).1]; decide), fun q => no (h.out.lt q) (by rw [(h.gh q).1]; decide) (by rw [(h.gh q).1]; decide)⟩
 obtain ⟨own, ob, hT, ho, _⟩ := h.p.th i t b ht hb
 obtain ⟨ov, ev, mv, av, hr, hops, _⟩ := hT.row
 obtain ⟨a, k, e⟩ := hops.len
 have hb' := ho b hT.mem
 exact ⟨no hb'.1 (by omega) (by omega), ov, ev, mv, av, a, k, hr, e⟩
section
variable {H H' : qab} {ps : List Nat} {c : Cfg} {cb : CB} {B : Nat} {w : Wst} {pb : List Nat} {M ka kh : Nat} {tv hv : Value}
theorem WView.keep (h : WView H ps c cb B w pb M ka kh tv hv) (hk : ∀ x, x < H.length → x ∉ ps → H'[x]? = H[x]?) : WView H' ps c cb B w pb M ka kh tv hv := by
 refine ⟨(hk B (qip h.row) h.nB).trans h.row, h.arr.keep fun q => hk ka (h.arr.lt q) (h.na q), h.out.keep fun q => hk kh (h.out.lt q) (h.nh q), h.len, fun i t b ht hb => ?_, h.nB, h.na, h.nh⟩
 obtain ⟨h1, ov, ev, mv, av, a, k, h2, h3⟩ := h.th i t b ht hb
 exact ⟨h1, ov, ev, mv, av, a, k, (hk b (qip h2) h1).trans h2, h3⟩
theorem WView.cells (h : WView H ps c cb B w pb M ka kh tv hv) : qfV En 0 Id.zdn [qke B] H = some (qiY cb, H) := by
 have l0 : qav H none ⟨B, 0 + 0, none⟩ = some (qiY cb) := qiq h.row rfl
 refine qgx rfl Fn.zdn rfl rfl ?_
 repeat' (first | (show ER _ _ _ _ _ _ _; first | refine .seq ?_ | refine .reg ?_ | refine .yes rfl ?_ | refine .no rfl ?_ | refine .skip ?_ | refine .block ?_ | refine .endB ?_ | refine .exit rfl ?_ | refine .br rfl (fun hc => ?_) (fun hc => ?_) | refine .scope ?_ | refine .inScope ?_ | refine .label ?_ | refine .ret rfl ?_ | refine .nil rfl ?_) | (show EG _ _ _ _ _ _ _ _ _; first | refine .mov rfl rfl ?_ | refine .lload rfl rfl rfl rfl ?_ | refine .laddr rfl rfl rfl ?_ | (show EG _ _ (⟨_, .bin _ _ _, _, _⟩ :: _) _ _ _ _ _ _; first | refine .lss rfl rfl rfl (fun hc => ?_) (fun hc => ?_) | refine .leq rfl rfl rfl (fun hc => ?_) (fun hc => ?_) | refine .gtr rfl rfl rfl (fun hc => ?_) (fun hc => ?_) | refine .geq rfl rfl rfl (fun hc => ?_) (fun hc => ?_) | refine .eql rfl rfl rfl (fun hc => ?_) (fun hc => ?_) | refine .neq rfl rfl rfl (fun hc => ?_) (fun hc => ?_)) | refine .load rfl rfl (l0) ?_ | refine .skip rfl ?_ | refine .fin ?_ | refine .go rfl rfl rfl ?_ | refine .gono rfl rfl rfl ?_ | refine .skipn rfl ?_))
 rfl

theorem qrq {es : List (List Value)} (o : OutB H hv es kh) (hn : es.length ≤ 100000) : ∃ v' H', qfV En 0 Id.zcO [hv] H = some (v', H') ∧ Ext H H' ∧ Sl H' 8 v' es := by
 rcases o.2 with ⟨rfl, rfl⟩ | ⟨h0, rfl, h3⟩
 ·refine ⟨.slice none 0 0, H, ?_, .refl _, ⟨by simp, .inl ⟨rfl, none, 0, rfl⟩⟩⟩
  refine qgx rfl Fn.zcO rfl rfl ?_
  repeat' (first | (show ER _ _ _ _ _ _ _; first | refine .seq ?_ | refine .reg ?_ | refine .yes rfl ?_ | refine .no rfl ?_ | refine .skip ?_ | refine .block ?_ | refine .endB ?_ | refine .exit rfl ?_ | refine .br rfl (fun hc => ?_) (fun hc => ?_) | refine .scope ?_ | refine .inScope ?_ | refine .label ?_ | refine .ret rfl ?_ | refine .nil rfl ?_) | (show EG _ _ _ _ _ _ _ _ _; first | refine .mov rfl rfl ?_ | refine .lload rfl rfl rfl rfl ?_ | refine .laddr rfl rfl rfl ?_ | (show EG _ _ (⟨_, .bin _ _ _, _, _⟩ :: _) _ _ _ _ _ _; first | refine .lss rfl rfl rfl (fun hc => ?_) (fun hc => ?_) | refine .leq rfl rfl rfl (fun hc => ?_) (fun hc => ?_) | refine .gtr rfl rfl rfl (fun hc => ?_) (fun hc => ?_) | refine .geq rfl rfl rfl (fun hc => ?_) (fun hc => ?_) | refine .eql rfl rfl rfl (fun hc => ?_) (fun hc => ?_) | refine .neq rfl rfl rfl (fun hc => ?_) (fun hc => ?_)) | refine .skip rfl ?_ | refine .fin ?_ | refine .go rfl rfl rfl ?_ | refine .gono rfl rfl rfl ?_ | refine .skipn rfl ?_))
  rfl
 ·have hel : ¬ es.length = 0 := fun e => h0 (List.length_eq_zero_iff.1 e)
  have hx : Ext H (H ++ [Blk.row [] false]) := (Ext.refl H).app _
  have hold : qaD (H ++ [Blk.row [] false]) 8 es.length (.slice (some (loose kh 0)) es.length 8) = some es.flatten := by
   unfold qaD
   simp only
   rw [if_neg hel]
   exact qgE (a := loose kh 0) ((hx.2 kh (qip h3)).trans h3) rfl (qgA o.1).symm
  have ha : qaF 0 8 64 (H ++ [Blk.row [] false]) (.slice (some ⟨H.length, 0, none⟩) 0 0) (.slice (some (loose kh 0)) es.length 8) = some (.slice (some (loose (H.length + 1) 0)) es.length 8, H ++ [Blk.row [] false] ++ [Blk.row es.flatten false]) := by
   simp only [qaF, qaC, hold, Nat.zero_add]
   rw [if_pos (.inl ⟨by omega, by decide⟩), if_neg hel]
   simp [qaD, h0]
  refine ⟨.slice (some (loose (H.length + 1) 0)) es.length 8, H ++ [Blk.row [] false] ++ [Blk.row es.flatten false], ?_, hx.app _, ⟨o.1, .inr ⟨_, _, rfl, ?_⟩⟩⟩
  ·refine qgx rfl Fn.zcO rfl rfl ?_
   repeat' (first | (show ER _ _ _ _ _ _ _; first | refine .seq ?_ | refine .reg ?_ | refine .yes rfl ?_ | refine .no rfl ?_ | refine .skip ?_ | refine .block ?_ | refine .endB ?_ | refine .exit rfl ?_ | refine .br rfl (fun hc => ?_) (fun hc => ?_) | refine .scope ?_ | refine .inScope ?_ | refine .label ?_ | refine .ret rfl ?_ | refine .nil rfl ?_) | (show EG _ _ _ _ _ _ _ _ _; first | refine .mov rfl rfl ?_ | refine .lload rfl rfl rfl rfl ?_ | refine .laddr rfl rfl rfl ?_ | (show EG _ _ (⟨_, .bin _ _ _, _, _⟩ :: _) _ _ _ _ _ _; first | refine .lss rfl rfl rfl (fun hc => ?_) (fun hc => ?_) | refine .leq rfl rfl rfl (fun hc => ?_) (fun hc => ?_) | refine .gtr rfl rfl rfl (fun hc => ?_) (fun hc => ?_) | refine .geq rfl rfl rfl (fun hc => ?_) (fun hc => ?_) | refine .eqlT rfl rfl rfl (by omega) ?_ | refine .eqlF rfl rfl rfl (by omega) ?_ | refine .neq rfl rfl rfl (fun hc => ?_) (fun hc => ?_)) | refine .app rfl rfl rfl (ha) ?_ | refine .skip rfl ?_ | refine .fin ?_ | refine .go rfl rfl rfl ?_ | refine .gono rfl rfl rfl ?_ | refine .skipn rfl ?_))
   rfl
  ·exact qgE (a := loose (H.length + 1) 0) (ro := false) (by
    show (H ++ [Blk.row [] false] ++ [Blk.row es.flatten false])[H.length + 1]? = _
    rw [← show (H ++ [Blk.row [] false]).length = H.length + 1 by simp]
    exact List.getElem?_concat_length) rfl (qgA o.1).symm
theorem WView.history (h : WView H ps c cb B w pb M ka kh tv hv) (hn : w.evs.length ≤ 100000) : ∃ v' H', qfV En 0 Id.zds [qke B] H = some (v', H') ∧ Ext H H' ∧ Sl H' 8 v' w.evs := by
 obtain ⟨v', H', h1, h2, h3⟩ := qrq h.out hn
 refine ⟨v', H', ?_, h2, h3⟩
 have l6 : qav H none ⟨B, 0 + 6, none⟩ = some hv := qiq h.row rfl
 refine qgx rfl Fn.zds rfl rfl ?_
 repeat' (first | (show ER _ _ _ _ _ _ _; first | refine .seq ?_ | refine .reg ?_ | refine .yes rfl ?_ | refine .no rfl ?_ | refine .skip ?_ | refine .block ?_ | refine .endB ?_ | refine .exit rfl ?_ | refine .br rfl (fun hc => ?_) (fun hc => ?_) | refine .scope ?_ | refine .inScope ?_ | refine .label ?_ | refine .ret rfl ?_ | refine .nil rfl ?_) | (show EG _ _ _ _ _ _ _ _ _; first | refine .mov rfl rfl ?_ | refine .lload rfl rfl rfl rfl ?_ | refine .laddr rfl rfl rfl ?_ | (show EG _ _ (⟨_, .bin _ _ _, _, _⟩ :: _) _ _ _ _ _ _; first | refine .lss rfl rfl rfl (fun hc => ?_) (fun hc => ?_) | refine .leq rfl rfl rfl (fun hc => ?_) (fun hc => ?_) | refine .gtr rfl rfl rfl (fun hc => ?_) (fun hc => ?_) | refine .geq rfl rfl rfl (fun hc => ?_) (fun hc => ?_) | refine .eql rfl rfl rfl (fun hc => ?_) (fun hc => ?_) | refine .neq rfl rfl rfl (fun hc => ?_) (fun hc => ?_)) | refine .load rfl rfl (l6) ?_ | refine .call rfl rfl (h1) ?_ | refine .skip rfl ?_ | refine .fin ?_ | refine .go rfl rfl rfl ?_ | refine .gono rfl rfl rfl ?_ | refine .skipn rfl ?_))
 rfl

def doneW (w : Wst) : Bool := w.ts.all fun t => t.ops.isEmpty
theorem qrr (h : WView H ps c cb B w pb M ka kh tv hv) {i b : Nat} {t : Th} (ht : w.ts[i]? = some t) (hb : pb[i]? = some b) : qfV En 0 Id.zdr [qke b] H = some (.bool (!t.ops.isEmpty), H) := by
 obtain ⟨_, ov, ev, mv, av, a, k, hr, e⟩ := h.th i t b ht hb
 have hD : qfV En 0 Id.zdi [qke b] H = some (.bool t.ops.isEmpty, H) := by
  cases ho : t.ops with
  | nil => rw [ho] at e; exact qpG hr e
  | cons o r => rw [ho] at e; exact qpH hr e
 generalize t.ops.isEmpty = bb at hD ⊢
 refine qgx rfl Fn.zdr rfl rfl ?_
 repeat' (first | (show ER _ _ _ _ _ _ _; first | refine .seq ?_ | refine .reg ?_ | refine .yes rfl ?_ | refine .no rfl ?_ | refine .skip ?_ | refine .block ?_ | refine .endB ?_ | refine .exit rfl ?_ | refine .br rfl (fun hc => ?_) (fun hc => ?_) | refine .scope ?_ | refine .inScope ?_ | refine .label ?_ | refine .ret rfl ?_ | refine .nil rfl ?_) | (show EG _ _ _ _ _ _ _ _ _; first | refine .mov rfl rfl ?_ | refine .lload rfl rfl rfl rfl ?_ | refine .laddr rfl rfl rfl ?_ | (show EG _ _ (⟨_, .bin _ _ _, _, _⟩ :: _) _ _ _ _ _ _; first | refine .lss rfl rfl rfl (fun hc => ?_) (fun hc => ?_) | refine .leq rfl rfl rfl (fun hc => ?_) (fun hc => ?_) | refine .gtr rfl rfl rfl (fun hc => ?_) (fun hc => ?_) | refine .geq rfl rfl rfl (fun hc => ?_) (fun hc => ?_) | refine .eql rfl rfl rfl (fun hc => ?_) (fun hc => ?_) | refine .neq rfl rfl rfl (fun hc => ?_) (fun hc => ?_)) | refine .call rfl rfl (hD) ?_ | refine .skip rfl ?_ | refine .fin ?_ | refine .go rfl rfl rfl ?_ | refine .gono rfl rfl rfl ?_ | refine .skipn rfl ?_))
 rfl
abbrev qrs : Value := .func (.func Id.zdr) #[] #[]
theorem qrt (h : WView H ps c cb B w pb M ka kh tv hv) (hl : pb.length ≤ 1000) : ∃ r : Int, qfV En 0 Id.zcS [tv, qrs] H = some (I r, H) ∧ decide (0 ≤ r) = !doneW w := by
 have key : ∃ u H', qfV En 0 Id.zcS [tv, qrs] H = some (u, H') ∧ H' = H ∧ ∃ r : Int, u = I r ∧ decide (0 ≤ r) = !doneW w := by
  refine Exists.elim h.arr.len fun ab hq => Exists.elim hq fun ac hae => ?_
  have har := h.arr
  have hln := h.len
  have hU := fun i b t a1 a2 => qrr (i := i) (b := b) (t := t) h a1 a2
  clear h
  subst hae
  refine qii rfl Fn.zcS rfl rfl ?_
  repeat' (first | (show ER _ _ _ _ _ _ _; first | refine .seq ?_ | refine .reg ?_ | refine .yes rfl ?_ | refine .no rfl ?_ | refine .skip ?_ | refine .block ?_ | refine .endB ?_ | refine .exit rfl ?_ | refine .br rfl (fun hc => ?_) (fun hc => ?_) | refine .scope ?_ | refine .inScope ?_ | refine .label ?_ | refine .ret rfl ?_ | refine .nil rfl ?_) | (show EG _ _ _ _ _ _ _ _ _; first | refine .mov rfl rfl ?_ | refine .lload rfl rfl rfl rfl ?_ | refine .laddr rfl rfl rfl ?_ | (show EG _ _ (⟨_, .bin _ _ _, _, _⟩ :: _) _ _ _ _ _ _; first | refine .lss rfl rfl rfl (fun hc => ?_) (fun hc => ?_) | refine .leq rfl rfl rfl (fun hc => ?_) (fun hc => ?_) | refine .gtr rfl rfl rfl (fun hc => ?_) (fun hc => ?_) | refine .geq rfl rfl rfl (fun hc => ?_) (fun hc => ?_) | refine .eql rfl rfl rfl (fun hc => ?_) (fun hc => ?_) | refine .neq rfl rfl rfl (fun hc => ?_) (fun hc => ?_)) | refine .skip rfl ?_ | refine .fin ?_ | refine .go rfl rfl rfl ?_ | refine .gono rfl rfl rfl ?_ | refine .skipn rfl ?_))
  refine .loop (fun n f H1 => ∃ (i : Nat), n + i = pb.length ∧ f = [(0, .slice ab pb.length ac), (1, qrs), (7, N pb.length), (8, N i)] ∧ H1 = H ∧ ∀ t ∈ w.ts.take i, t.ops = []) (n := pb.length) ⟨0, rfl, rfl, rfl, by simp⟩ ?_
  rintro n f H1 ⟨i, hn, rfl, rfl, hall⟩ next
  by_cases hi : i < pb.length
  ·have hgp : pb[i]? = some pb[i] := List.getElem?_eq_getElem hi
   have hit : i < w.ts.length := by omega
   have hgt : w.ts[i]? = some w.ts[i] := List.getElem?_eq_getElem hit
   have htk : w.ts.take (i + 1) = w.ts.take i ++ [w.ts[i]] := List.take_succ_eq_append_getElem hit
   generalize pb[i] = b at hgp
   generalize w.ts[i] = t at hgt htk
   have hA := har.at hgp
   have ea := hA.1
   injection ea with e1 _ e3
   subst e1 e3
   have A0 := hA.2 _ rfl
   have hD := hU i b t hgt hgp
   cases ho : t.ops with
   | nil =>
     rw [ho] at hD
     simp only [List.isEmpty_nil, Bool.not_true] at hD
     repeat' (first | (show ER _ _ _ _ _ _ _; first | refine .seq ?_ | refine .reg ?_ | refine .yes rfl ?_ | refine .no rfl ?_ | refine .skip ?_ | refine .block ?_ | refine .endB ?_ | refine .exit rfl ?_ | refine .br rfl (fun hc => ?_) (fun hc => ?_) | refine .scope ?_ | refine .inScope ?_ | refine .label ?_ | refine .ret rfl ?_ | refine .nil rfl ?_) | (show EG _ _ _ _ _ _ _ _ _; first | refine .mov rfl rfl ?_ | refine .lload rfl rfl rfl rfl ?_ | refine .laddr rfl rfl rfl ?_ | (show EG _ _ (⟨_, .bin _ _ _, _, _⟩ :: _) _ _ _ _ _ _; first | refine .lssT rfl rfl rfl (by omega) ?_ | refine .lssF rfl rfl rfl (by omega) ?_ | refine .leq rfl rfl rfl (fun hc => ?_) (fun hc => ?_) | refine .gtr rfl rfl rfl (fun hc => ?_) (fun hc => ?_) | refine .geq rfl rfl rfl (fun hc => ?_) (fun hc => ?_) | refine .eql rfl rfl rfl (fun hc => ?_) (fun hc => ?_) | refine .neq rfl rfl rfl (fun hc => ?_) (fun hc => ?_) | refine .addN rfl rfl rfl (by omega) ?_ | refine .addN (b := 1) rfl rfl rfl (by omega) ?_ | refine .subN rfl rfl rfl (by omega) ?_ | refine .subN (b := 1) rfl rfl rfl (by omega) ?_) | refine .load rfl rfl (A0) ?_ | refine .iaddr rfl rfl rfl (hi) ?_ | refine .callv rfl rfl rfl rfl (hD) ?_ | refine .skip rfl ?_ | refine .fin ?_ | refine .go rfl rfl rfl ?_ | refine .gono rfl rfl rfl ?_ | refine .skipn rfl ?_))
     refine next (n - 1) _ _ (by omega) ⟨i + 1, by omega, rfl, rfl, fun u hu => ?_⟩
     rw [htk] at hu
     rcases List.mem_append.1 hu with q | q
     ·exact hall u q
     ·rw [List.mem_singleton] at q; rw [q]; exact ho
   | cons o r =>
     rw [ho] at hD
     simp only [List.isEmpty_cons, Bool.not_false] at hD
     repeat' (first | (show ER _ _ _ _ _ _ _; first | refine .seq ?_ | refine .reg ?_ | refine .yes rfl ?_ | refine .no rfl ?_ | refine .skip ?_ | refine .block ?_ | refine .endB ?_ | refine .exit rfl ?_ | refine .br rfl (fun hc => ?_) (fun hc => ?_) | refine .scope ?_ | refine .inScope ?_ | refine .label ?_ | refine .ret rfl ?_ | refine .nil rfl ?_) | (show EG _ _ _ _ _ _ _ _ _; first | refine .mov rfl rfl ?_ | refine .lload rfl rfl rfl rfl ?_ | refine .laddr rfl rfl rfl ?_ | (show EG _ _ (⟨_, .bin _ _ _, _, _⟩ :: _) _ _ _ _ _ _; first | refine .lssT rfl rfl rfl (by omega) ?_ | refine .lssF rfl rfl rfl (by omega) ?_ | refine .leq rfl rfl rfl (fun hc => ?_) (fun hc => ?_) | refine .gtr rfl rfl rfl (fun hc => ?_) (fun hc => ?_) | refine .geq rfl rfl rfl (fun hc => ?_) (fun hc => ?_) | refine .eql rfl rfl rfl (fun hc => ?_) (fun hc => ?_) | refine .neq rfl rfl rfl (fun hc => ?_) (fun hc => ?_)) | refine .load rfl rfl (A0) ?_ | refine .iaddr rfl rfl rfl (hi) ?_ | refine .callv rfl rfl rfl rfl (hD) ?_ | refine .skip rfl ?_ | refine .fin ?_ | refine .go rfl rfl rfl ?_ | refine .gono rfl rfl rfl ?_ | refine .skipn rfl ?_))
     refine ⟨rfl, i, rfl, ?_⟩
     have hd : doneW w = false := by
      unfold doneW
      rw [List.all_eq_false]
      exact ⟨t, List.mem_of_getElem? hgt, by rw [ho]; simp⟩
     rw [hd, decide_eq_true (by omega)]; rfl
  ·have hil : i = w.ts.length := by omega
   rw [hil, List.take_length] at hall
   repeat' (first | (show ER _ _ _ _ _ _ _; first | refine .seq ?_ | refine .reg ?_ | refine .yes rfl ?_ | refine .no rfl ?_ | refine .skip ?_ | refine .block ?_ | refine .endB ?_ | refine .exit rfl ?_ | refine .br rfl (fun hc => ?_) (fun hc => ?_) | refine .scope ?_ | refine .inScope ?_ | refine .label ?_ | refine .ret rfl ?_ | refine .nil rfl ?_) | (show EG _ _ _ _ _ _ _ _ _; first | refine .mov rfl rfl ?_ | refine .lload rfl rfl rfl rfl ?_ | refine .laddr rfl rfl rfl ?_ | (show EG _ _ (⟨_, .bin _ _ _, _, _⟩ :: _) _ _ _ _ _ _; first | refine .lssT rfl rfl rfl (by omega) ?_ | refine .lssF rfl rfl rfl (by omega) ?_ | refine .leq rfl rfl rfl (fun hc => ?_) (fun hc => ?_) | refine .gtr rfl rfl rfl (fun hc => ?_) (fun hc => ?_) | refine .geq rfl rfl rfl (fun hc => ?_) (fun hc => ?_) | refine .eql rfl rfl rfl (fun hc => ?_) (fun hc => ?_) | refine .neq rfl rfl rfl (fun hc => ?_) (fun hc => ?_)) | refine .skip rfl ?_ | refine .fin ?_ | refine .go rfl rfl rfl ?_ | refine .gono rfl rfl rfl ?_ | refine .skipn rfl ?_))
   refine ⟨rfl, -1, rfl, ?_⟩
   have hd : doneW w = true := by
    unfold doneW
    rw [List.all_eq_true]
    intro t ht
    rw [hall t ht]; rfl
   rw [hd, decide_eq_false (by omega)]; rfl
 obtain ⟨u, _, h1, rfl, r, rfl, h2⟩ := key
 exact ⟨r, h1, h2⟩
theorem WView.done (h : WView H ps c cb B w pb M ka kh tv hv) (hl : pb.length ≤ 1000) : qfV En 0 Id.zdq [qke B] H = some (.bool (doneW w), H) := by
 obtain ⟨r, hI, hr⟩ := qrt h hl
 have l4 : qav H none ⟨B, 0 + 4, none⟩ = some tv := qiq h.row rfl
 obtain ⟨ab, ac, hae⟩ := h.arr.len
 subst hae
 have hC : qfV En 0 Id.zcR [.slice ab pb.length ac, qrs] H = some (.bool (!doneW w), H) := by
  rw [← hr]
  by_cases h0 : 0 ≤ r
  ·rw [decide_eq_true h0]
   refine qgx rfl Fn.zcR rfl rfl ?_
   repeat' (first | (show ER _ _ _ _ _ _ _; first | refine .seq ?_ | refine .reg ?_ | refine .yes rfl ?_ | refine .no rfl ?_ | refine .skip ?_ | refine .block ?_ | refine .endB ?_ | refine .exit rfl ?_ | refine .br rfl (fun hc => ?_) (fun hc => ?_) | refine .scope ?_ | refine .inScope ?_ | refine .label ?_ | refine .ret rfl ?_ | refine .nil rfl ?_) | (show EG _ _ _ _ _ _ _ _ _; first | refine .mov rfl rfl ?_ | refine .lload rfl rfl rfl rfl ?_ | refine .laddr rfl rfl rfl ?_ | (show EG _ _ (⟨_, .bin _ _ _, _, _⟩ :: _) _ _ _ _ _ _; first | refine .lss rfl rfl rfl (fun hc => ?_) (fun hc => ?_) | refine .leq rfl rfl rfl (fun hc => ?_) (fun hc => ?_) | refine .gtr rfl rfl rfl (fun hc => ?_) (fun hc => ?_) | refine .geqT rfl rfl rfl (by omega) ?_ | refine .geqF rfl rfl rfl (by omega) ?_ | refine .eql rfl rfl rfl (fun hc => ?_) (fun hc => ?_) | refine .neq rfl rfl rfl (fun hc => ?_) (fun hc => ?_)) | refine .call rfl rfl (hI) ?_ | refine .skip rfl ?_ | refine .fin ?_ | refine .go rfl rfl rfl ?_ | refine .gono rfl rfl rfl ?_ | refine .skipn rfl ?_))
   rfl
  ·rw [decide_eq_false h0]
   refine qgx rfl Fn.zcR rfl rfl ?_
   repeat' (first | (show ER _ _ _ _ _ _ _; first | refine .seq ?_ | refine .reg ?_ | refine .yes rfl ?_ | refine .no rfl ?_ | refine .skip ?_ | refine .block ?_ | refine .endB ?_ | refine .exit rfl ?_ | refine .br rfl (fun hc => ?_) (fun hc => ?_) | refine .scope ?_ | refine .inScope ?_ | refine .label ?_ | refine .ret rfl ?_ | refine .nil rfl ?_) | (show EG _ _ _ _ _ _ _ _ _; first | refine .mov rfl rfl ?_ | refine .lload rfl rfl rfl rfl ?_ | refine .laddr rfl rfl rfl ?_ | (show EG _ _ (⟨_, .bin _ _ _, _, _⟩ :: _) _ _ _ _ _ _; first | refine .lss rfl rfl rfl (fun hc => ?_) (fun hc => ?_) | refine .leq rfl rfl rfl (fun hc => ?_) (fun hc => ?_) | refine .gtr rfl rfl rfl (fun hc => ?_) (fun hc => ?_) | refine .geqT rfl rfl rfl (by omega) ?_ | refine .geqF rfl rfl rfl (by omega) ?_ | refine .eql rfl rfl rfl (fun hc => ?_) (fun hc => ?_) | refine .neq rfl rfl rfl (fun hc => ?_) (fun hc => ?_)) | refine .call rfl rfl (hI) ?_ | refine .skip rfl ?_ | refine .fin ?_ | refine .go rfl rfl rfl ?_ | refine .gono rfl rfl rfl ?_ | refine .skipn rfl ?_))
   rfl
 have hn : (!(!doneW w)) = doneW w := Bool.not_not _
 generalize doneW w = bb at hC hn ⊢
 cases bb
 all_goals
  refine qgx rfl Fn.zdq rfl rfl ?_
  repeat' (first | (show ER _ _ _ _ _ _ _; first | refine .seq ?_ | refine .reg ?_ | refine .yes rfl ?_ | refine .no rfl ?_ | refine .skip ?_ | refine .block ?_ | refine .endB ?_ | refine .exit rfl ?_ | refine .br rfl (fun hc => ?_) (fun hc => ?_) | refine .scope ?_ | refine .inScope ?_ | refine .label ?_ | refine .ret rfl ?_ | refine .nil rfl ?_) | (show EG _ _ _ _ _ _ _ _ _; first | refine .mov rfl rfl ?_ | refine .lload rfl rfl rfl rfl ?_ | refine .laddr rfl rfl rfl ?_ | (show EG _ _ (⟨_, .bin _ _ _, _, _⟩ :: _) _ _ _ _ _ _; first | refine .lss rfl rfl rfl (fun hc => ?_) (fun hc => ?_) | refine .leq rfl rfl rfl (fun hc => ?_) (fun hc => ?_) | refine .gtr rfl rfl rfl (fun hc => ?_) (fun hc => ?_) | refine .geq rfl rfl rfl (fun hc => ?_) (fun hc => ?_) | refine .eql rfl rfl rfl (fun hc => ?_) (fun hc => ?_) | refine .neq rfl rfl rfl (fun hc => ?_) (fun hc => ?_)) | refine .load rfl rfl (l4) ?_ | refine .call rfl rfl (hC) ?_ | refine .skip rfl ?_ | refine .fin ?_ | refine .go rfl rfl rfl ?_ | refine .gono rfl rfl rfl ?_ | refine .skipn rfl ?_))
  rfl
end
end Go.Proofs.YtojjkphkfpeimaaGreat

