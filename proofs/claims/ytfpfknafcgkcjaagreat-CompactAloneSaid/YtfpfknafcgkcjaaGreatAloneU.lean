/- A pass: looking, locking, laying. -/
import Derived.Test.YtfpfknafcgkcjaaGreatAloneT

set_option linter.unusedVariables false
set_option linter.unusedSimpArgs false
namespace Go.Proofs.YtfpfknafcgkcjaaGreat
open Go Go.Ir

def chA (w : Int) (f : Ent → Ent) : Int :=
 match unpackE w with
 | none => 0
 | some e => if e.lv then (if (f e).may then (packN (f e) : Int) else 0) else 0
def chB (w : Int) (f : Ent → Ent) : Int :=
 match unpackE w with
 | none => 2
 | some e => if e.lv then (if (f e).may then 0 else 1) else 1
theorem chV_eq (w : Int) (f : Ent → Ent) : chV w f = .tuple #[I (chA w f), I (chB w f)] := by
 unfold chV chA chB pkV
 cases unpackE w with
 | none => rfl
 | some e =>
   simp only
   cases e.lv with
   | false => rfl
   | true =>
     simp only [if_true]
     split <;> rfl

theorem two_take {P : Heap → Prop} {H1 H2 : Heap} {hs : List Heap} (h1 : P H1) (h2 : P H2) : ∀ h0 ∈ (H1 :: H2 :: hs).take 2, P h0 := fun h0 hm => by
 simp at hm
 rcases hm with rfl | rfl
 ·exact h1
 ·exact h2
theorem same_i (a : Int) : sameV (I a) (I a) = true := by simp [sameV, same1]
theorem same_lay (a b : Int) : sameV (lay a b) (lay a b) = true := by simp [lay, sameV, sameL, same1]

def lockF (e : Ent) : Ent := { e with lk := true }
def moveF (to : Int) (e : Ent) : Ent := { e with o := to, lk := false }
def maxI (a b : Int) : Int := if a < b then b else a

section
variable {lo : Nat} {H : Heap} {own : List Nat} {M : Nat} {m : Mc} {ov tv : Value}

theorem object_spec (h : McAt H own M m ov tv) {k : Nat} {o : Obj} (hk : m.att = k) (ho : m.objs[k]? = some o) : callR En lo Id.compact_Machine_object [ptrB M] H = some (.agg o.cs.toArray, H) := by
 have hr := h.row
 have l14 : loadV H none ⟨M, 0 + 14, none⟩ = some ov := ld_row hr rfl
 have l79 : loadV H none ⟨M, 0 + 79, none⟩ = some (N k) := (ld_row hr rfl).trans (by rw [hk])
 obtain ⟨a, cap, hv, hld, _⟩ := css_row h.objs.sl ho
 have hkl : k < m.objs.length := (List.getElem?_eq_some_iff.1 ho).1
 subst hv
 refine call_of rfl Fn.compact_Machine_object rfl rfl ?_
 repeat' (first | (show ER _ _ _ _ _ _ _; first | refine .seq ?_ | refine .reg ?_ | refine .yes rfl ?_ | refine .no rfl ?_ | refine .skip ?_ | refine .block ?_ | refine .endB ?_ | refine .exit rfl ?_ | refine .br rfl (fun hc => ?_) (fun hc => ?_) | refine .scope ?_ | refine .inScope ?_ | refine .label ?_ | refine .ret rfl ?_ | refine .nil rfl ?_) | (show EG _ _ _ _ _ _ _ _ _; first | refine .mov rfl rfl ?_ | refine .lload rfl rfl rfl rfl ?_ | refine .laddr rfl rfl rfl ?_ | (show EG _ _ (⟨_, .bin _ _ _, _, _⟩ :: _) _ _ _ _ _ _; first | refine .lss rfl rfl rfl (fun hc => ?_) (fun hc => ?_) | refine .leq rfl rfl rfl (fun hc => ?_) (fun hc => ?_) | refine .gtr rfl rfl rfl (fun hc => ?_) (fun hc => ?_) | refine .geq rfl rfl rfl (fun hc => ?_) (fun hc => ?_) | refine .eql rfl rfl rfl (fun hc => ?_) (fun hc => ?_) | refine .neq rfl rfl rfl (fun hc => ?_) (fun hc => ?_)) | (show EG _ _ (⟨_, .load _ _, _, _⟩ :: _) _ _ _ _ _ _; first | refine .load rfl rfl (l14) ?_ | refine .load rfl rfl (l79) ?_ | refine .load rfl rfl (hld) ?_) | refine .iaddr rfl rfl rfl (hkl) ?_ | refine .skip rfl ?_ | refine .fin ?_ | refine .go rfl rfl rfl ?_ | refine .gono rfl rfl rfl ?_ | refine .skipn rfl ?_))
 rfl

def passedM (m : Mc) : Mc × Option Int := behM { m with att := w64 (m.att + 1) }
theorem passed_spec (h : McAt H own M m ov tv) (hm : m.c.may) (hloM : lo ≤ M) : ∃ v H', callR En lo Id.compact_Machine_passed [ptrB M] H = some (v, H') ∧ Post H own M (passedM m) own v H' := by
 have hr := h.row
 have l79 : loadV H none ⟨M, 0 + 79, none⟩ = some (I m.att) := ld_row hr rfl
 have hst : stN lo H ⟨M, 0 + 79, none⟩ (vcells (I (w64 (m.att + 1)))) = some (H.set M (.row (mrow { m with att := w64 (m.att + 1) } ov tv) false)) := st_row hr hloM (Nat.le_of_ble_eq_true rfl) rfl
 have h1 := h.put (m' := { m with att := w64 (m.att + 1) }) rfl rfl rfl rfl
 obtain ⟨v, H4, hB, hpost⟩ := behind_spec h1 hm hloM
 refine ⟨v, H4, ?_, Post.pre ((Chg.refl _ _).set h.mem) hpost⟩
 have hv := hpost.1
 generalize (behM { m with att := w64 (m.att + 1) }).2 = rr at hv
 refine call_of rfl Fn.compact_Machine_passed rfl rfl ?_
 subst hv
 cases rr
 all_goals
  repeat' (first | (show ER _ _ _ _ _ _ _; first | refine .seq ?_ | refine .reg ?_ | refine .yes rfl ?_ | refine .no rfl ?_ | refine .skip ?_ | refine .block ?_ | refine .endB ?_ | refine .exit rfl ?_ | refine .br rfl (fun hc => ?_) (fun hc => ?_) | refine .scope ?_ | refine .inScope ?_ | refine .label ?_ | refine .ret rfl ?_ | refine .nil rfl ?_) | (show EG _ _ _ _ _ _ _ _ _; first | refine .mov rfl rfl ?_ | refine .lload rfl rfl rfl rfl ?_ | refine .laddr rfl rfl rfl ?_ | (show EG _ _ (⟨_, .bin _ _ _, _, _⟩ :: _) _ _ _ _ _ _; first | refine .lss rfl rfl rfl (fun hc => ?_) (fun hc => ?_) | refine .leq rfl rfl rfl (fun hc => ?_) (fun hc => ?_) | refine .gtr rfl rfl rfl (fun hc => ?_) (fun hc => ?_) | refine .geq rfl rfl rfl (fun hc => ?_) (fun hc => ?_) | refine .eql rfl rfl rfl (fun hc => ?_) (fun hc => ?_) | refine .neq rfl rfl rfl (fun hc => ?_) (fun hc => ?_)) | refine .load rfl rfl (l79) ?_ | refine .call rfl rfl (hB) ?_ | refine .store rfl rfl rfl rfl rfl hst ?_ | refine .skip rfl ?_ | refine .fin ?_ | refine .go rfl rfl rfl ?_ | refine .gono rfl rfl rfl ?_ | refine .skipn rfl ?_))
  rfl

def lookM (m : Mc) (ws : List Int) (o : Obj) : Mc × Option Int :=
 match unpackE (getI ws (slotI m.c o.s 0)) with
 | none => passedM { m with word := getI ws (slotI m.c o.s 0) }
 | some e =>
   if e.lv = false ∨ e.g ≠ m.g o.s.toNat ∨ e.o ≠ o.o then passedM { m with word := getI ws (slotI m.c o.s 0) }
   else if 0 < e.p + e.u ∨ e.lk = true ∨ e.o ≤ m.dest then passedM { m with word := getI ws (slotI m.c o.s 0), dest := maxI m.dest (w64 (o.o + o.n)) }
   else onM { m with word := getI ws (slotI m.c o.s 0) } 6

set_option maxHeartbeats 1600000 in
theorem look_spec {cb : CB} {ws bs : List Int} (h : McAt H own M m ov tv) (hC : IsC H cb ws bs) (d : Disj own cb) (hm : m.c.may) (hloM : lo ≤ M) (hlc : lo ≤ cb.P) {k : Nat} {o : Obj} (hk : m.att = k) (ho : m.objs[k]? = some o) (hs : 0 ≤ o.s ∧ o.s < 64) :
  ∃ v H', callR En lo Id.compact_Machine_look [ptrB M, ifC cb] H = some (v, H') ∧ PostC H own M cb (lookM m ws o) ws bs v H' := by
 have hr := h.row
 have l0 := m_lay hr
 have hO := fun lo => object_spec (lo := lo) h hk ho
 obtain ⟨s, hsn⟩ : ∃ s : Nat, o.s = s := ⟨o.s.toNat, by omega⟩
 have hs64 : s < 64 := by omega
 have hE := fun lo => entry_spec lo H hm o.s
 obtain ⟨H1, hL, hC1, ho1⟩ := load_spec hC hlc (slotI m.c o.s 0)
 have h1 := h.chg (Chg.of ho1) d.notP
 have hr1 := h1.row
 generalize hw : getI ws (slotI m.c o.s 0) = w at hL
 have hst : stN lo H1 ⟨M, 0 + 81, none⟩ (vcells (I w)) = some (H1.set M (.row (mrow { m with word := w } ov tv) false)) := st_row hr1 hloM (Nat.le_of_ble_eq_true rfl) rfl
 have h2 : McAt (H1.set M (.row (mrow { m with word := w } ov tv) false)) own M { m with word := w } ov tv := h1.put rfl rfl rfl rfl
 have c2 : Chg own H1 (H1.set M (.row (mrow { m with word := w } ov tv) false)) := (Chg.refl _ _).set h.mem
 generalize H1.set M (.row (mrow { m with word := w } ov tv) false) = H2 at hst h2 c2
 have hr2 := h2.row
 have k81 : loadV H2 none ⟨M, 0 + 81, none⟩ = some (I w) := ld_row hr2 rfl
 have kg : loadV H2 none ⟨M, 0 + 15 + s * 1, none⟩ = some (I (m.g s)) := ld_row hr2 (mrow_getg _ _ _ hs64)
 have k80 : loadV H2 none ⟨M, 0 + 80, none⟩ = some (I m.dest) := ld_row hr2 rfl
 have hU := fun lo => unpack_spec lo H2 w
 unfold lookM
 rw [hw]
 have hcs : o.cs = [N s, I o.o, I o.n, .bool o.fx] := by unfold Obj.cs; rw [hsn]
 have hsl : slotI m.c o.s 0 = slotI m.c s 0 := by rw [hsn]
 rw [hsl] at hL
 rw [hcs] at hO
 rw [hsn] at hE
 have hsnn : o.s.toNat = s := by omega
 rw [hsnn]
 have bad : ∀ (rr : Mc × Option Int), rr = passedM { m with word := w } → ∃ v H', callR En lo Id.compact_Machine_passed [ptrB M] H2 = some (v, H') ∧ Post H1 own M rr own v H' := fun rr hrr => by
  obtain ⟨v, H4, hB, hpost⟩ := passed_spec h2 hm hloM
  exact ⟨v, H4, hB, by rw [hrr]; exact Post.pre c2 hpost⟩
 cases hu : unpackE w with
 | none =>
   rw [hu] at hU
   obtain ⟨v, H4, hB, hpost⟩ := bad _ rfl
   refine ⟨v, H4, ?_, PostC.mk2 d ho1 (by simp) hC1 hpost⟩
   have hv := hpost.1
   generalize (passedM { m with word := w }).2 = rr at hv
   refine call_of rfl Fn.compact_Machine_look rfl rfl ?_
   subst hv
   cases rr
   all_goals
    repeat' (first | (show ER _ _ _ _ _ _ _; first | refine .seq ?_ | refine .reg ?_ | refine .yes rfl ?_ | refine .no rfl ?_ | refine .skip ?_ | refine .block ?_ | refine .endB ?_ | refine .exit rfl ?_ | refine .br rfl (fun hc => ?_) (fun hc => ?_) | refine .scope ?_ | refine .inScope ?_ | refine .label ?_ | refine .ret rfl ?_ | refine .nil rfl ?_) | (show EG _ _ _ _ _ _ _ _ _; first | refine .mov rfl rfl ?_ | refine .lload rfl rfl rfl rfl ?_ | refine .laddr rfl rfl rfl ?_ | (show EG _ _ (⟨_, .bin _ _ _, _, _⟩ :: _) _ _ _ _ _ _; first | refine .lss rfl rfl rfl (fun hc => ?_) (fun hc => ?_) | refine .leq rfl rfl rfl (fun hc => ?_) (fun hc => ?_) | refine .gtr rfl rfl rfl (fun hc => ?_) (fun hc => ?_) | refine .geq rfl rfl rfl (fun hc => ?_) (fun hc => ?_) | refine .eql rfl rfl rfl (fun hc => ?_) (fun hc => ?_) | refine .neqT rfl rfl rfl (by omega) ?_ | refine .neqF rfl rfl rfl (by omega) ?_) | (show EG _ _ (⟨_, .load _ _, _, _⟩ :: _) _ _ _ _ _ _; first | refine .load rfl rfl (l0) ?_ | refine .load rfl rfl (k81) ?_) | (show EG _ _ (⟨_, .call _ _, _, _⟩ :: _) _ _ _ _ _ _; first | refine .call rfl rfl (hO _) ?_ | refine .call rfl rfl (hE _) ?_ | refine .call rfl rfl (hU _) ?_ | refine .call rfl rfl (hB) ?_) | refine .inv rfl rfl rfl rfl (hL) ?_ | refine .store rfl rfl rfl rfl rfl hst ?_ | refine .skip rfl ?_ | refine .fin ?_ | refine .go rfl rfl rfl ?_ | refine .gono rfl rfl rfl ?_ | refine .skipn rfl ?_))
    rfl
 | some e =>
   rw [hu] at hU
   have hmay := (pack_unpack hu).2
   unfold Ent.may at hmay
   obtain ⟨eo, eg, ep, eu, lk, lv⟩ := e
   simp only at hmay ⊢
   have hU : ∀ lo, callR En lo Id.entry_Unpack [I w] H2 = some (.tuple #[.agg #[I eo, I eg, I ep, I eu, .bool lk, .bool lv], I 0], H2) := hU
   have hpu : IntKind.i64.wrap (ep + eu) = ep + eu := wrap_id (by omega) (by omega)
   by_cases hb : lv = false ∨ eg ≠ m.g s ∨ eo ≠ o.o
   ·rw [if_pos hb]
    obtain ⟨v, H4, hB, hpost⟩ := bad _ rfl
    refine ⟨v, H4, ?_, PostC.mk2 d ho1 (by simp) hC1 hpost⟩
    have hv := hpost.1
    generalize (passedM { m with word := w }).2 = rr at hv
    refine call_of rfl Fn.compact_Machine_look rfl rfl ?_
    subst hv
    cases lv
    ·cases rr
     all_goals
      repeat' (first | (show ER _ _ _ _ _ _ _; first | refine .seq ?_ | refine .reg ?_ | refine .yes rfl ?_ | refine .no rfl ?_ | refine .skip ?_ | refine .block ?_ | refine .endB ?_ | refine .exit rfl ?_ | refine .br rfl (fun hc => ?_) (fun hc => ?_) | refine .scope ?_ | refine .inScope ?_ | refine .label ?_ | refine .ret rfl ?_ | refine .nil rfl ?_) | (show EG _ _ _ _ _ _ _ _ _; first | refine .mov rfl rfl ?_ | refine .lload rfl rfl rfl rfl ?_ | refine .laddr rfl rfl rfl ?_ | (show EG _ _ (⟨_, .bin _ _ _, _, _⟩ :: _) _ _ _ _ _ _; first | refine .lss rfl rfl rfl (fun hc => ?_) (fun hc => ?_) | refine .leq rfl rfl rfl (fun hc => ?_) (fun hc => ?_) | refine .gtr rfl rfl rfl (fun hc => ?_) (fun hc => ?_) | refine .geq rfl rfl rfl (fun hc => ?_) (fun hc => ?_) | refine .eql rfl rfl rfl (fun hc => ?_) (fun hc => ?_) | refine .neqT rfl rfl rfl (by omega) ?_ | refine .neqF rfl rfl rfl (by omega) ?_) | (show EG _ _ (⟨_, .load _ _, _, _⟩ :: _) _ _ _ _ _ _; first | refine .load rfl rfl (l0) ?_ | refine .load rfl rfl (k81) ?_ | refine .load rfl rfl (kg) ?_) | (show EG _ _ (⟨_, .call _ _, _, _⟩ :: _) _ _ _ _ _ _; first | refine .call rfl rfl (hO _) ?_ | refine .call rfl rfl (hE _) ?_ | refine .call rfl rfl (hU _) ?_ | refine .call rfl rfl (hB) ?_) | refine .iaddrA rfl rfl rfl (hs64) ?_ | refine .inv rfl rfl rfl rfl (hL) ?_ | refine .store rfl rfl rfl rfl rfl hst ?_ | refine .skip rfl ?_ | refine .fin ?_ | refine .go rfl rfl rfl ?_ | refine .gono rfl rfl rfl ?_ | refine .skipn rfl ?_))
      rfl
    ·by_cases hg : eg = m.g s
     ·have hoo : ¬ eo = o.o := by
       rcases hb with h3 | h3 | h3
       ·cases h3
       ·exact absurd hg h3
       ·exact h3
      cases rr
      all_goals
       repeat' (first | (show ER _ _ _ _ _ _ _; first | refine .seq ?_ | refine .reg ?_ | refine .yes rfl ?_ | refine .no rfl ?_ | refine .skip ?_ | refine .block ?_ | refine .endB ?_ | refine .exit rfl ?_ | refine .br rfl (fun hc => ?_) (fun hc => ?_) | refine .scope ?_ | refine .inScope ?_ | refine .label ?_ | refine .ret rfl ?_ | refine .nil rfl ?_) | (show EG _ _ _ _ _ _ _ _ _; first | refine .mov rfl rfl ?_ | refine .lload rfl rfl rfl rfl ?_ | refine .laddr rfl rfl rfl ?_ | (show EG _ _ (⟨_, .bin _ _ _, _, _⟩ :: _) _ _ _ _ _ _; first | refine .lss rfl rfl rfl (fun hc => ?_) (fun hc => ?_) | refine .leq rfl rfl rfl (fun hc => ?_) (fun hc => ?_) | refine .gtr rfl rfl rfl (fun hc => ?_) (fun hc => ?_) | refine .geq rfl rfl rfl (fun hc => ?_) (fun hc => ?_) | refine .eql rfl rfl rfl (fun hc => ?_) (fun hc => ?_) | refine .neqT rfl rfl rfl (by omega) ?_ | refine .neqF rfl rfl rfl (by omega) ?_) | (show EG _ _ (⟨_, .load _ _, _, _⟩ :: _) _ _ _ _ _ _; first | refine .load rfl rfl (l0) ?_ | refine .load rfl rfl (k81) ?_ | refine .load rfl rfl (kg) ?_) | (show EG _ _ (⟨_, .call _ _, _, _⟩ :: _) _ _ _ _ _ _; first | refine .call rfl rfl (hO _) ?_ | refine .call rfl rfl (hE _) ?_ | refine .call rfl rfl (hU _) ?_ | refine .call rfl rfl (hB) ?_) | refine .iaddrA rfl rfl rfl (hs64) ?_ | refine .inv rfl rfl rfl rfl (hL) ?_ | refine .store rfl rfl rfl rfl rfl hst ?_ | refine .skip rfl ?_ | refine .fin ?_ | refine .go rfl rfl rfl ?_ | refine .gono rfl rfl rfl ?_ | refine .skipn rfl ?_))
       rfl
     ·cases rr
      all_goals
       repeat' (first | (show ER _ _ _ _ _ _ _; first | refine .seq ?_ | refine .reg ?_ | refine .yes rfl ?_ | refine .no rfl ?_ | refine .skip ?_ | refine .block ?_ | refine .endB ?_ | refine .exit rfl ?_ | refine .br rfl (fun hc => ?_) (fun hc => ?_) | refine .scope ?_ | refine .inScope ?_ | refine .label ?_ | refine .ret rfl ?_ | refine .nil rfl ?_) | (show EG _ _ _ _ _ _ _ _ _; first | refine .mov rfl rfl ?_ | refine .lload rfl rfl rfl rfl ?_ | refine .laddr rfl rfl rfl ?_ | (show EG _ _ (⟨_, .bin _ _ _, _, _⟩ :: _) _ _ _ _ _ _; first | refine .lss rfl rfl rfl (fun hc => ?_) (fun hc => ?_) | refine .leq rfl rfl rfl (fun hc => ?_) (fun hc => ?_) | refine .gtr rfl rfl rfl (fun hc => ?_) (fun hc => ?_) | refine .geq rfl rfl rfl (fun hc => ?_) (fun hc => ?_) | refine .eql rfl rfl rfl (fun hc => ?_) (fun hc => ?_) | refine .neqT rfl rfl rfl (by omega) ?_ | refine .neqF rfl rfl rfl (by omega) ?_) | (show EG _ _ (⟨_, .load _ _, _, _⟩ :: _) _ _ _ _ _ _; first | refine .load rfl rfl (l0) ?_ | refine .load rfl rfl (k81) ?_ | refine .load rfl rfl (kg) ?_) | (show EG _ _ (⟨_, .call _ _, _, _⟩ :: _) _ _ _ _ _ _; first | refine .call rfl rfl (hO _) ?_ | refine .call rfl rfl (hE _) ?_ | refine .call rfl rfl (hU _) ?_ | refine .call rfl rfl (hB) ?_) | refine .iaddrA rfl rfl rfl (hs64) ?_ | refine .inv rfl rfl rfl rfl (hL) ?_ | refine .store rfl rfl rfl rfl rfl hst ?_ | refine .skip rfl ?_ | refine .fin ?_ | refine .go rfl rfl rfl ?_ | refine .gono rfl rfl rfl ?_ | refine .skipn rfl ?_))
       rfl
   ·rw [if_neg hb]
    have hlv : lv = true := by
     cases lv with
     | true => rfl
     | false => exact absurd (.inl rfl) hb
    have hg : eg = m.g s := Decidable.byContradiction fun h3 => hb (.inr (.inl h3))
    have hoo : eo = o.o := Decidable.byContradiction fun h3 => hb (.inr (.inr h3))
    subst hlv
    clear hb
    by_cases hf : 0 < ep + eu ∨ lk = true ∨ eo ≤ m.dest
    ·rw [if_pos hf]
     have hst3 : stN lo H2 ⟨M, 0 + 80, none⟩ (vcells (I (maxI m.dest (w64 (o.o + o.n))))) = some (H2.set M (.row (mrow { m with word := w, dest := maxI m.dest (w64 (o.o + o.n)) } ov tv) false)) := st_row hr2 hloM (Nat.le_of_ble_eq_true rfl) rfl
     have h3 : McAt (H2.set M (.row (mrow { m with word := w, dest := maxI m.dest (w64 (o.o + o.n)) } ov tv) false)) own M { m with word := w, dest := maxI m.dest (w64 (o.o + o.n)) } ov tv := h2.put rfl rfl rfl rfl
     obtain ⟨v, H4, hB, hpost⟩ := passed_spec h3 hm hloM
     refine ⟨v, H4, ?_, PostC.mk2 d ho1 (by simp) hC1 (Post.pre (c2.set h.mem) hpost)⟩
     have hv := hpost.1
     generalize (passedM { m with word := w, dest := maxI m.dest (w64 (o.o + o.n)) }).2 = rr at hv
     refine call_of rfl Fn.compact_Machine_look rfl rfl ?_
     subst hv
     by_cases hp : 0 < ep + eu
     ·cases rr
      all_goals
       repeat' (first | (show ER _ _ _ _ _ _ _; first | refine .seq ?_ | refine .reg ?_ | refine .yes rfl ?_ | refine .no rfl ?_ | refine .skip ?_ | refine .block ?_ | refine .endB ?_ | refine .exit rfl ?_ | refine .br rfl (fun hc => ?_) (fun hc => ?_) | refine .scope ?_ | refine .inScope ?_ | refine .label ?_ | refine .ret rfl ?_ | refine .nil rfl ?_) | (show EG _ _ _ _ _ _ _ _ _; first | refine .mov rfl rfl ?_ | refine .lload rfl rfl rfl rfl ?_ | refine .laddr rfl rfl rfl ?_ | (show EG _ _ (⟨_, .bin _ _ _, _, _⟩ :: _) _ _ _ _ _ _; first | refine .lss rfl rfl rfl (fun hc => ?_) (fun hc => ?_) | refine .leqT rfl rfl rfl (by omega) ?_ | refine .leqF rfl rfl rfl (by omega) ?_ | refine .gtrT rfl rfl rfl (by omega) ?_ | refine .gtrF rfl rfl rfl (by omega) ?_ | refine .geq rfl rfl rfl (fun hc => ?_) (fun hc => ?_) | refine .eql rfl rfl rfl (fun hc => ?_) (fun hc => ?_) | refine .neqT rfl rfl rfl (by omega) ?_ | refine .neqF rfl rfl rfl (by omega) ?_) | (show EG _ _ (⟨_, .load _ _, _, _⟩ :: _) _ _ _ _ _ _; first | refine .load rfl rfl (l0) ?_ | refine .load rfl rfl (k81) ?_ | refine .load rfl rfl (kg) ?_ | refine .load rfl rfl (k80) ?_) | (show EG _ _ (⟨_, .call _ _, _, _⟩ :: _) _ _ _ _ _ _; first | refine .call rfl rfl (hO _) ?_ | refine .call rfl rfl (hE _) ?_ | refine .call rfl rfl (hU _) ?_ | refine .call rfl rfl (hB) ?_) | refine .iaddrA rfl rfl rfl (hs64) ?_ | refine .inv rfl rfl rfl rfl (hL) ?_ | refine .store rfl rfl rfl rfl rfl hst ?_ | refine .store rfl rfl rfl rfl rfl hst3 ?_ | refine .skip rfl ?_ | refine .fin ?_ | refine .go rfl rfl rfl ?_ | refine .gono rfl rfl rfl ?_ | refine .skipn rfl ?_))
       rfl
     ·cases lk
      ·have hd : eo ≤ m.dest := by
        rcases hf with h3 | h3 | h3
        ·exact absurd h3 hp
        ·cases h3
        ·exact h3
       cases rr
       all_goals
        repeat' (first | (show ER _ _ _ _ _ _ _; first | refine .seq ?_ | refine .reg ?_ | refine .yes rfl ?_ | refine .no rfl ?_ | refine .skip ?_ | refine .block ?_ | refine .endB ?_ | refine .exit rfl ?_ | refine .br rfl (fun hc => ?_) (fun hc => ?_) | refine .scope ?_ | refine .inScope ?_ | refine .label ?_ | refine .ret rfl ?_ | refine .nil rfl ?_) | (show EG _ _ _ _ _ _ _ _ _; first | refine .mov rfl rfl ?_ | refine .lload rfl rfl rfl rfl ?_ | refine .laddr rfl rfl rfl ?_ | (show EG _ _ (⟨_, .bin _ _ _, _, _⟩ :: _) _ _ _ _ _ _; first | refine .lss rfl rfl rfl (fun hc => ?_) (fun hc => ?_) | refine .leqT rfl rfl rfl (by omega) ?_ | refine .leqF rfl rfl rfl (by omega) ?_ | refine .gtrT rfl rfl rfl (by omega) ?_ | refine .gtrF rfl rfl rfl (by omega) ?_ | refine .geq rfl rfl rfl (fun hc => ?_) (fun hc => ?_) | refine .eql rfl rfl rfl (fun hc => ?_) (fun hc => ?_) | refine .neqT rfl rfl rfl (by omega) ?_ | refine .neqF rfl rfl rfl (by omega) ?_) | (show EG _ _ (⟨_, .load _ _, _, _⟩ :: _) _ _ _ _ _ _; first | refine .load rfl rfl (l0) ?_ | refine .load rfl rfl (k81) ?_ | refine .load rfl rfl (kg) ?_ | refine .load rfl rfl (k80) ?_) | (show EG _ _ (⟨_, .call _ _, _, _⟩ :: _) _ _ _ _ _ _; first | refine .call rfl rfl (hO _) ?_ | refine .call rfl rfl (hE _) ?_ | refine .call rfl rfl (hU _) ?_ | refine .call rfl rfl (hB) ?_) | refine .iaddrA rfl rfl rfl (hs64) ?_ | refine .inv rfl rfl rfl rfl (hL) ?_ | refine .store rfl rfl rfl rfl rfl hst ?_ | refine .store rfl rfl rfl rfl rfl hst3 ?_ | refine .skip rfl ?_ | refine .fin ?_ | refine .go rfl rfl rfl ?_ | refine .gono rfl rfl rfl ?_ | refine .skipn rfl ?_))
        rfl
      ·cases rr
       all_goals
        repeat' (first | (show ER _ _ _ _ _ _ _; first | refine .seq ?_ | refine .reg ?_ | refine .yes rfl ?_ | refine .no rfl ?_ | refine .skip ?_ | refine .block ?_ | refine .endB ?_ | refine .exit rfl ?_ | refine .br rfl (fun hc => ?_) (fun hc => ?_) | refine .scope ?_ | refine .inScope ?_ | refine .label ?_ | refine .ret rfl ?_ | refine .nil rfl ?_) | (show EG _ _ _ _ _ _ _ _ _; first | refine .mov rfl rfl ?_ | refine .lload rfl rfl rfl rfl ?_ | refine .laddr rfl rfl rfl ?_ | (show EG _ _ (⟨_, .bin _ _ _, _, _⟩ :: _) _ _ _ _ _ _; first | refine .lss rfl rfl rfl (fun hc => ?_) (fun hc => ?_) | refine .leqT rfl rfl rfl (by omega) ?_ | refine .leqF rfl rfl rfl (by omega) ?_ | refine .gtrT rfl rfl rfl (by omega) ?_ | refine .gtrF rfl rfl rfl (by omega) ?_ | refine .geq rfl rfl rfl (fun hc => ?_) (fun hc => ?_) | refine .eql rfl rfl rfl (fun hc => ?_) (fun hc => ?_) | refine .neqT rfl rfl rfl (by omega) ?_ | refine .neqF rfl rfl rfl (by omega) ?_) | (show EG _ _ (⟨_, .load _ _, _, _⟩ :: _) _ _ _ _ _ _; first | refine .load rfl rfl (l0) ?_ | refine .load rfl rfl (k81) ?_ | refine .load rfl rfl (kg) ?_ | refine .load rfl rfl (k80) ?_) | (show EG _ _ (⟨_, .call _ _, _, _⟩ :: _) _ _ _ _ _ _; first | refine .call rfl rfl (hO _) ?_ | refine .call rfl rfl (hE _) ?_ | refine .call rfl rfl (hU _) ?_ | refine .call rfl rfl (hB) ?_) | refine .iaddrA rfl rfl rfl (hs64) ?_ | refine .inv rfl rfl rfl rfl (hL) ?_ | refine .store rfl rfl rfl rfl rfl hst ?_ | refine .store rfl rfl rfl rfl rfl hst3 ?_ | refine .skip rfl ?_ | refine .fin ?_ | refine .go rfl rfl rfl ?_ | refine .gono rfl rfl rfl ?_ | refine .skipn rfl ?_))
        rfl
    ·rw [if_neg hf]
     have hp : ¬ 0 < ep + eu := fun h3 => hf (.inl h3)
     have hlk : lk = false := by
      cases lk with
      | false => rfl
      | true => exact absurd (.inr (.inl rfl)) hf
     have hd : ¬ eo ≤ m.dest := fun h3 => hf (.inr (.inr h3))
     subst hlk
     have hN := on_spec (lo := lo) hr2 hloM 6
     refine ⟨resV none, _, ?_, PostC.mk2 d ho1 (by simp) hC1 ⟨rfl, own, ov, tv, h2.put (m' := { m with word := w, next := 6 }) rfl rfl rfl rfl, c2.set h.mem, fun b hb => .inl hb⟩⟩
     refine call_of rfl Fn.compact_Machine_look rfl rfl ?_
     repeat' (first | (show ER _ _ _ _ _ _ _; first | refine .seq ?_ | refine .reg ?_ | refine .yes rfl ?_ | refine .no rfl ?_ | refine .skip ?_ | refine .block ?_ | refine .endB ?_ | refine .exit rfl ?_ | refine .br rfl (fun hc => ?_) (fun hc => ?_) | refine .scope ?_ | refine .inScope ?_ | refine .label ?_ | refine .ret rfl ?_ | refine .nil rfl ?_) | (show EG _ _ _ _ _ _ _ _ _; first | refine .mov rfl rfl ?_ | refine .lload rfl rfl rfl rfl ?_ | refine .laddr rfl rfl rfl ?_ | (show EG _ _ (⟨_, .bin _ _ _, _, _⟩ :: _) _ _ _ _ _ _; first | refine .lss rfl rfl rfl (fun hc => ?_) (fun hc => ?_) | refine .leqT rfl rfl rfl (by omega) ?_ | refine .leqF rfl rfl rfl (by omega) ?_ | refine .gtrT rfl rfl rfl (by omega) ?_ | refine .gtrF rfl rfl rfl (by omega) ?_ | refine .geq rfl rfl rfl (fun hc => ?_) (fun hc => ?_) | refine .eql rfl rfl rfl (fun hc => ?_) (fun hc => ?_) | refine .neqT rfl rfl rfl (by omega) ?_ | refine .neqF rfl rfl rfl (by omega) ?_) | (show EG _ _ (⟨_, .load _ _, _, _⟩ :: _) _ _ _ _ _ _; first | refine .load rfl rfl (l0) ?_ | refine .load rfl rfl (k81) ?_ | refine .load rfl rfl (kg) ?_ | refine .load rfl rfl (k80) ?_) | (show EG _ _ (⟨_, .call _ _, _, _⟩ :: _) _ _ _ _ _ _; first | refine .call rfl rfl (hO _) ?_ | refine .call rfl rfl (hE _) ?_ | refine .call rfl rfl (hU _) ?_ | refine .call rfl rfl (hN) ?_) | refine .iaddrA rfl rfl rfl (hs64) ?_ | refine .inv rfl rfl rfl rfl (hL) ?_ | refine .store rfl rfl rfl rfl rfl hst ?_ | refine .skip rfl ?_ | refine .fin ?_ | refine .go rfl rfl rfl ?_ | refine .gono rfl rfl rfl ?_ | refine .skipn rfl ?_))
     rfl
end
end Go.Proofs.YtfpfknafcgkcjaaGreat

/- A pass: locking, laying, storing. -/
set_option linter.unusedVariables false
set_option linter.unusedSimpArgs false
namespace Go.Proofs.YtfpfknafcgkcjaaGreat
open Go Go.Ir

section
variable {lo : Nat} {H : Heap} {own : List Nat} {M : Nat} {m : Mc} {ov tv : Value}

def lockM (m : Mc) (ws : List Int) (o : Obj) : (Mc × Option Int) × List Int :=
 if casB ws (slotI m.c o.s 0) m.word then (onM { m with word := chA m.word lockF, i := 0 } 7, setI ws (slotI m.c o.s 0) (chA m.word lockF)) else (onM m 5, ws)

theorem lock_spec' {cb : CB} {ws bs : List Int} (h : McAt H own M m ov tv) (hC : IsC H cb ws bs) (d : Disj own cb) (hm : m.c.may) (hloM : lo ≤ M) (hlc : lo ≤ cb.P ∧ lo ≤ cb.W) {k : Nat} {o : Obj} (hk : m.att = k) (ho : m.objs[k]? = some o) :
  ∃ v H', callR En lo Id.compact_Machine_lock [ptrB M, ifC cb] H = some (v, H') ∧ PostC H own M cb (lockM m ws o).1 (lockM m ws o).2 bs v H' := by
 have hr := h.row
 have l0 := m_lay hr
 have l81 : loadV H none ⟨M, 0 + 81, none⟩ = some (I m.word) := ld_row hr rfl
 have hO := fun lo => object_spec (lo := lo) h hk ho
 have hE := fun lo => entry_spec lo H hm o.s
 have hK : ∀ lo, callR En lo Id.entry_Lock [I m.word, .bool true] H = some (.tuple #[I (chA m.word lockF), I (chB m.word lockF)], H) := fun lo => by rw [lock_spec, ← chV_eq]; rfl
 obtain ⟨H1, hL, hC1, ho1⟩ := cas_spec hC hlc.1 hlc.2 (slotI m.c o.s 0) m.word (chA m.word lockF)
 have h1 := h.chg (Chg.of ho1) d.notPW
 have hr1 := h1.row
 unfold lockM
 cases hb : casB ws (slotI m.c o.s 0) m.word with
 | false =>
   rw [hb] at hL hC1
   rw [if_neg (by decide)] at hC1
   rw [if_neg (by decide)]
   have hN := on_spec (lo := lo) hr1 hloM 5
   refine ⟨resV none, _, ?_, PostC.mk2 d ho1 (by simp) hC1 ⟨rfl, own, ov, tv, h1.put (m' := { m with next := 5 }) rfl rfl rfl rfl, (Chg.refl _ _).set h.mem, fun b hb => .inl hb⟩⟩
   refine call_of rfl Fn.compact_Machine_lock rfl rfl ?_
   repeat' (first | (show ER _ _ _ _ _ _ _; first | refine .seq ?_ | refine .reg ?_ | refine .yes rfl ?_ | refine .no rfl ?_ | refine .skip ?_ | refine .block ?_ | refine .endB ?_ | refine .exit rfl ?_ | refine .br rfl (fun hc => ?_) (fun hc => ?_) | refine .scope ?_ | refine .inScope ?_ | refine .label ?_ | refine .ret rfl ?_ | refine .nil rfl ?_) | (show EG _ _ _ _ _ _ _ _ _; first | refine .mov rfl rfl ?_ | refine .lload rfl rfl rfl rfl ?_ | refine .laddr rfl rfl rfl ?_ | (show EG _ _ (⟨_, .bin _ _ _, _, _⟩ :: _) _ _ _ _ _ _; first | refine .lss rfl rfl rfl (fun hc => ?_) (fun hc => ?_) | refine .leq rfl rfl rfl (fun hc => ?_) (fun hc => ?_) | refine .gtr rfl rfl rfl (fun hc => ?_) (fun hc => ?_) | refine .geq rfl rfl rfl (fun hc => ?_) (fun hc => ?_) | refine .eql rfl rfl rfl (fun hc => ?_) (fun hc => ?_) | refine .neq rfl rfl rfl (fun hc => ?_) (fun hc => ?_)) | (show EG _ _ (⟨_, .load _ _, _, _⟩ :: _) _ _ _ _ _ _; first | refine .load rfl rfl (l0) ?_ | refine .load rfl rfl (l81) ?_) | (show EG _ _ (⟨_, .call _ _, _, _⟩ :: _) _ _ _ _ _ _; first | refine .call rfl rfl (hO _) ?_ | refine .call rfl rfl (hE _) ?_ | refine .call rfl rfl (hK _) ?_ | refine .call rfl rfl (hN) ?_) | refine .inv rfl rfl rfl rfl (hL) ?_ | refine .loadc rfl rfl l0 (one_take l0) (same_lay _ _) ?_ | refine .loadc rfl rfl l81 (two_take l81 l81) (same_i _) ?_ | refine .skip rfl ?_ | refine .fin ?_ | refine .go rfl rfl rfl ?_ | refine .gono rfl rfl rfl ?_ | refine .skipn rfl ?_))
   rfl
 | true =>
   rw [hb] at hL hC1
   rw [if_pos rfl] at hC1
   rw [if_pos rfl]
   have hs1 : stN lo H1 ⟨M, 0 + 81, none⟩ (vcells (I (chA m.word lockF))) = some (H1.set M (.row (mrow { m with word := chA m.word lockF } ov tv) false)) := st_row hr1 hloM (Nat.le_of_ble_eq_true rfl) rfl
   have h2 : McAt (H1.set M (.row (mrow { m with word := chA m.word lockF } ov tv) false)) own M { m with word := chA m.word lockF } ov tv := h1.put rfl rfl rfl rfl
   have c2 : Chg own H1 (H1.set M (.row (mrow { m with word := chA m.word lockF } ov tv) false)) := (Chg.refl _ _).set h.mem
   generalize H1.set M (.row (mrow { m with word := chA m.word lockF } ov tv) false) = H2 at hs1 h2 c2
   have hs2 : stN lo H2 ⟨M, 0 + 82, none⟩ (vcells (I 0)) = some (H2.set M (.row (mrow { m with word := chA m.word lockF, i := 0 } ov tv) false)) := st_row h2.row hloM (Nat.le_of_ble_eq_true rfl) rfl
   have h3 : McAt (H2.set M (.row (mrow { m with word := chA m.word lockF, i := 0 } ov tv) false)) own M { m with word := chA m.word lockF, i := 0 } ov tv := h2.put rfl rfl rfl rfl
   have c3 := c2.set (k := .row (mrow { m with word := chA m.word lockF, i := 0 } ov tv) false) h.mem
   generalize H2.set M (.row (mrow { m with word := chA m.word lockF, i := 0 } ov tv) false) = H3 at hs2 h3 c3
   have hN := on_spec (lo := lo) h3.row hloM 7
   refine ⟨resV none, _, ?_, PostC.mk2 d ho1 (by simp) hC1 ⟨rfl, own, ov, tv, h3.put (m' := { m with word := chA m.word lockF, i := 0, next := 7 }) rfl rfl rfl rfl, c3.set h.mem, fun b hb => .inl hb⟩⟩
   refine call_of rfl Fn.compact_Machine_lock rfl rfl ?_
   repeat' (first | (show ER _ _ _ _ _ _ _; first | refine .seq ?_ | refine .reg ?_ | refine .yes rfl ?_ | refine .no rfl ?_ | refine .skip ?_ | refine .block ?_ | refine .endB ?_ | refine .exit rfl ?_ | refine .br rfl (fun hc => ?_) (fun hc => ?_) | refine .scope ?_ | refine .inScope ?_ | refine .label ?_ | refine .ret rfl ?_ | refine .nil rfl ?_) | (show EG _ _ _ _ _ _ _ _ _; first | refine .mov rfl rfl ?_ | refine .lload rfl rfl rfl rfl ?_ | refine .laddr rfl rfl rfl ?_ | (show EG _ _ (⟨_, .bin _ _ _, _, _⟩ :: _) _ _ _ _ _ _; first | refine .lss rfl rfl rfl (fun hc => ?_) (fun hc => ?_) | refine .leq rfl rfl rfl (fun hc => ?_) (fun hc => ?_) | refine .gtr rfl rfl rfl (fun hc => ?_) (fun hc => ?_) | refine .geq rfl rfl rfl (fun hc => ?_) (fun hc => ?_) | refine .eql rfl rfl rfl (fun hc => ?_) (fun hc => ?_) | refine .neq rfl rfl rfl (fun hc => ?_) (fun hc => ?_)) | (show EG _ _ (⟨_, .load _ _, _, _⟩ :: _) _ _ _ _ _ _; first | refine .load rfl rfl (l0) ?_ | refine .load rfl rfl (l81) ?_) | (show EG _ _ (⟨_, .call _ _, _, _⟩ :: _) _ _ _ _ _ _; first | refine .call rfl rfl (hO _) ?_ | refine .call rfl rfl (hE _) ?_ | refine .call rfl rfl (hK _) ?_ | refine .call rfl rfl (hN) ?_) | refine .inv rfl rfl rfl rfl (hL) ?_ | refine .loadc rfl rfl l0 (one_take l0) (same_lay _ _) ?_ | refine .loadc rfl rfl l81 (two_take l81 l81) (same_i _) ?_ | refine .store rfl rfl rfl rfl rfl hs1 ?_ | refine .store rfl rfl rfl rfl rfl hs2 ?_ | refine .skip rfl ?_ | refine .fin ?_ | refine .go rfl rfl rfl ?_ | refine .gono rfl rfl rfl ?_ | refine .skipn rfl ?_))
   rfl

def layM (m : Mc) (bs : List Int) (o : Obj) : (Mc × Option Int) × List Int :=
 (onM { m with i := w64 (m.i + 1) } (if w64 (m.i + 1) < o.n then 7 else 9), setI bs (w64 (m.dest + m.i)) (byteI m.b))

theorem lay_spec {cb : CB} {ws bs : List Int} (h : McAt H own M m ov tv) (hC : IsC H cb ws bs) (d : Disj own cb) (hloM : lo ≤ M) (hlc : lo ≤ cb.P ∧ lo ≤ cb.Y) {k : Nat} {o : Obj} (hk : m.att = k) (ho : m.objs[k]? = some o) :
  ∃ v H', callR En lo Id.compact_Machine_lay [ptrB M, ifC cb] H = some (v, H') ∧ PostC H own M cb (layM m bs o).1 ws (layM m bs o).2 v H' := by
 have hr := h.row
 have l80 : loadV H none ⟨M, 0 + 80, none⟩ = some (I m.dest) := ld_row hr rfl
 have l82 : loadV H none ⟨M, 0 + 82, none⟩ = some (I m.i) := ld_row hr rfl
 have l83 : loadV H none ⟨M, 0 + 83, none⟩ = some (I m.b) := ld_row hr rfl
 obtain ⟨H1, hL, hC1, ho1⟩ := setByte_spec hC hlc.1 hlc.2 (w64 (m.dest + m.i)) m.b
 have h1 := h.chg (Chg.of ho1) d.notPY
 have hr1 := h1.row
 have k82 : loadV H1 none ⟨M, 0 + 82, none⟩ = some (I m.i) := ld_row hr1 rfl
 have hs1 : stN lo H1 ⟨M, 0 + 82, none⟩ (vcells (I (w64 (m.i + 1)))) = some (H1.set M (.row (mrow { m with i := w64 (m.i + 1) } ov tv) false)) := st_row hr1 hloM (Nat.le_of_ble_eq_true rfl) rfl
 have h2 : McAt (H1.set M (.row (mrow { m with i := w64 (m.i + 1) } ov tv) false)) own M { m with i := w64 (m.i + 1) } ov tv := h1.put rfl rfl rfl rfl
 have c2 : Chg own H1 (H1.set M (.row (mrow { m with i := w64 (m.i + 1) } ov tv) false)) := (Chg.refl _ _).set h.mem
 generalize H1.set M (.row (mrow { m with i := w64 (m.i + 1) } ov tv) false) = H2 at hs1 h2 c2
 have q82 : loadV H2 none ⟨M, 0 + 82, none⟩ = some (I (w64 (m.i + 1))) := ld_row h2.row rfl
 have hO := fun lo => object_spec (lo := lo) h2 hk ho
 have hN := fun n => on_spec (lo := lo) h2.row hloM n
 unfold layM
 by_cases hc : w64 (m.i + 1) < o.n
 ·rw [if_pos hc]
  refine ⟨resV none, _, ?_, PostC.mk2 d ho1 (by simp) hC1 ⟨rfl, own, ov, tv, h2.put (m' := { m with i := w64 (m.i + 1), next := 7 }) rfl rfl rfl rfl, c2.set h.mem, fun b hb => .inl hb⟩⟩
  refine call_of rfl Fn.compact_Machine_lay rfl rfl ?_
  repeat' (first | (show ER _ _ _ _ _ _ _; first | refine .seq ?_ | refine .reg ?_ | refine .yes rfl ?_ | refine .no rfl ?_ | refine .skip ?_ | refine .block ?_ | refine .endB ?_ | refine .exit rfl ?_ | refine .br rfl (fun hc => ?_) (fun hc => ?_) | refine .scope ?_ | refine .inScope ?_ | refine .label ?_ | refine .ret rfl ?_ | refine .nil rfl ?_) | (show EG _ _ _ _ _ _ _ _ _; first | refine .mov rfl rfl ?_ | refine .lload rfl rfl rfl rfl ?_ | refine .laddr rfl rfl rfl ?_ | (show EG _ _ (⟨_, .bin _ _ _, _, _⟩ :: _) _ _ _ _ _ _; first | refine .lssT rfl rfl rfl (by omega) ?_ | refine .lssF rfl rfl rfl (by omega) ?_ | refine .leq rfl rfl rfl (fun hc => ?_) (fun hc => ?_) | refine .gtr rfl rfl rfl (fun hc => ?_) (fun hc => ?_) | refine .geq rfl rfl rfl (fun hc => ?_) (fun hc => ?_) | refine .eql rfl rfl rfl (fun hc => ?_) (fun hc => ?_) | refine .neq rfl rfl rfl (fun hc => ?_) (fun hc => ?_)) | (show EG _ _ (⟨_, .load _ _, _, _⟩ :: _) _ _ _ _ _ _; first | refine .load rfl rfl (l80) ?_ | refine .load rfl rfl (l82) ?_ | refine .load rfl rfl (l83) ?_ | refine .load rfl rfl (k82) ?_) | (show EG _ _ (⟨_, .call _ _, _, _⟩ :: _) _ _ _ _ _ _; first | refine .call rfl rfl (hO _) ?_ | refine .call rfl rfl (hN _) ?_) | refine .inv rfl rfl rfl rfl (hL) ?_ | refine .loadc rfl rfl q82 (one_take q82) (same_i _) ?_ | refine .store rfl rfl rfl rfl rfl hs1 ?_ | refine .skip rfl ?_ | refine .fin ?_ | refine .go rfl rfl rfl ?_ | refine .gono rfl rfl rfl ?_ | refine .skipn rfl ?_))
  rfl
 ·rw [if_neg hc]
  refine ⟨resV none, _, ?_, PostC.mk2 d ho1 (by simp) hC1 ⟨rfl, own, ov, tv, h2.put (m' := { m with i := w64 (m.i + 1), next := 9 }) rfl rfl rfl rfl, c2.set h.mem, fun b hb => .inl hb⟩⟩
  refine call_of rfl Fn.compact_Machine_lay rfl rfl ?_
  repeat' (first | (show ER _ _ _ _ _ _ _; first | refine .seq ?_ | refine .reg ?_ | refine .yes rfl ?_ | refine .no rfl ?_ | refine .skip ?_ | refine .block ?_ | refine .endB ?_ | refine .exit rfl ?_ | refine .br rfl (fun hc => ?_) (fun hc => ?_) | refine .scope ?_ | refine .inScope ?_ | refine .label ?_ | refine .ret rfl ?_ | refine .nil rfl ?_) | (show EG _ _ _ _ _ _ _ _ _; first | refine .mov rfl rfl ?_ | refine .lload rfl rfl rfl rfl ?_ | refine .laddr rfl rfl rfl ?_ | (show EG _ _ (⟨_, .bin _ _ _, _, _⟩ :: _) _ _ _ _ _ _; first | refine .lssT rfl rfl rfl (by omega) ?_ | refine .lssF rfl rfl rfl (by omega) ?_ | refine .leq rfl rfl rfl (fun hc => ?_) (fun hc => ?_) | refine .gtr rfl rfl rfl (fun hc => ?_) (fun hc => ?_) | refine .geq rfl rfl rfl (fun hc => ?_) (fun hc => ?_) | refine .eql rfl rfl rfl (fun hc => ?_) (fun hc => ?_) | refine .neq rfl rfl rfl (fun hc => ?_) (fun hc => ?_)) | (show EG _ _ (⟨_, .load _ _, _, _⟩ :: _) _ _ _ _ _ _; first | refine .load rfl rfl (l80) ?_ | refine .load rfl rfl (l82) ?_ | refine .load rfl rfl (l83) ?_ | refine .load rfl rfl (k82) ?_) | (show EG _ _ (⟨_, .call _ _, _, _⟩ :: _) _ _ _ _ _ _; first | refine .call rfl rfl (hO _) ?_ | refine .call rfl rfl (hN _) ?_) | refine .inv rfl rfl rfl rfl (hL) ?_ | refine .loadc rfl rfl q82 (one_take q82) (same_i _) ?_ | refine .store rfl rfl rfl rfl rfl hs1 ?_ | refine .skip rfl ?_ | refine .fin ?_ | refine .go rfl rfl rfl ?_ | refine .gono rfl rfl rfl ?_ | refine .skipn rfl ?_))
  rfl

def storeM (m : Mc) (ws : List Int) (o : Obj) : (Mc × Option Int) × List Int :=
 (passedM { m with dest := w64 (m.dest + o.n), moved := w64 (m.moved + 1) }, setI ws (slotI m.c o.s 0) (chA m.word (moveF m.dest)))

theorem store_spec' {cb : CB} {ws bs : List Int} (h : McAt H own M m ov tv) (hC : IsC H cb ws bs) (d : Disj own cb) (hm : m.c.may) (hloM : lo ≤ M) (hlc : lo ≤ cb.P ∧ lo ≤ cb.W) {k : Nat} {o : Obj} (hk : m.att = k) (ho : m.objs[k]? = some o) :
  ∃ v H', callR En lo Id.compact_Machine_store [ptrB M, ifC cb] H = some (v, H') ∧ PostC H own M cb (storeM m ws o).1 (storeM m ws o).2 bs v H' := by
 have hr := h.row
 have l0 := m_lay hr
 have l80 : loadV H none ⟨M, 0 + 80, none⟩ = some (I m.dest) := ld_row hr rfl
 have l81 : loadV H none ⟨M, 0 + 81, none⟩ = some (I m.word) := ld_row hr rfl
 have hO := fun lo => object_spec (lo := lo) h hk ho
 have hE := fun lo => entry_spec lo H hm o.s
 have hK : ∀ lo, callR En lo Id.entry_Move [I m.word, I m.dest] H = some (.tuple #[I (chA m.word (moveF m.dest)), I (chB m.word (moveF m.dest))], H) := fun lo => by rw [move_spec, ← chV_eq]; rfl
 obtain ⟨H1, hL, hC1, ho1⟩ := store_spec hC hlc.1 hlc.2 (slotI m.c o.s 0) (chA m.word (moveF m.dest))
 have h1 := h.chg (Chg.of ho1) d.notPW
 have hr1 := h1.row
 have hO1 := fun lo => object_spec (lo := lo) h1 hk ho
 have k80 : loadV H1 none ⟨M, 0 + 80, none⟩ = some (I m.dest) := ld_row hr1 rfl
 have hs1 : stN lo H1 ⟨M, 0 + 80, none⟩ (vcells (I (w64 (m.dest + o.n)))) = some (H1.set M (.row (mrow { m with dest := w64 (m.dest + o.n) } ov tv) false)) := st_row hr1 hloM (Nat.le_of_ble_eq_true rfl) rfl
 have h2 : McAt (H1.set M (.row (mrow { m with dest := w64 (m.dest + o.n) } ov tv) false)) own M { m with dest := w64 (m.dest + o.n) } ov tv := h1.put rfl rfl rfl rfl
 have c2 : Chg own H1 (H1.set M (.row (mrow { m with dest := w64 (m.dest + o.n) } ov tv) false)) := (Chg.refl _ _).set h.mem
 generalize H1.set M (.row (mrow { m with dest := w64 (m.dest + o.n) } ov tv) false) = H2 at hs1 h2 c2
 have q84 : loadV H2 none ⟨M, 0 + 84, none⟩ = some (I m.moved) := ld_row h2.row rfl
 have hs2 : stN lo H2 ⟨M, 0 + 84, none⟩ (vcells (I (w64 (m.moved + 1)))) = some (H2.set M (.row (mrow { m with dest := w64 (m.dest + o.n), moved := w64 (m.moved + 1) } ov tv) false)) := st_row h2.row hloM (Nat.le_of_ble_eq_true rfl) rfl
 have h3 : McAt (H2.set M (.row (mrow { m with dest := w64 (m.dest + o.n), moved := w64 (m.moved + 1) } ov tv) false)) own M { m with dest := w64 (m.dest + o.n), moved := w64 (m.moved + 1) } ov tv := h2.put rfl rfl rfl rfl
 have c3 := c2.set (k := .row (mrow { m with dest := w64 (m.dest + o.n), moved := w64 (m.moved + 1) } ov tv) false) h.mem
 generalize H2.set M (.row (mrow { m with dest := w64 (m.dest + o.n), moved := w64 (m.moved + 1) } ov tv) false) = H3 at hs2 h3 c3
 obtain ⟨v, H4, hB, hpost⟩ := passed_spec h3 hm hloM
 refine ⟨v, H4, ?_, PostC.mk2 d ho1 (by simp) hC1 (Post.pre c3 hpost)⟩
 have hv := hpost.1
 generalize (passedM { m with dest := w64 (m.dest + o.n), moved := w64 (m.moved + 1) }).2 = rr at hv
 refine call_of rfl Fn.compact_Machine_store rfl rfl ?_
 subst hv
 cases rr
 all_goals
  repeat' (first | (show ER _ _ _ _ _ _ _; first | refine .seq ?_ | refine .reg ?_ | refine .yes rfl ?_ | refine .no rfl ?_ | refine .skip ?_ | refine .block ?_ | refine .endB ?_ | refine .exit rfl ?_ | refine .br rfl (fun hc => ?_) (fun hc => ?_) | refine .scope ?_ | refine .inScope ?_ | refine .label ?_ | refine .ret rfl ?_ | refine .nil rfl ?_) | (show EG _ _ _ _ _ _ _ _ _; first | refine .mov rfl rfl ?_ | refine .lload rfl rfl rfl rfl ?_ | refine .laddr rfl rfl rfl ?_ | (show EG _ _ (⟨_, .bin _ _ _, _, _⟩ :: _) _ _ _ _ _ _; first | refine .lss rfl rfl rfl (fun hc => ?_) (fun hc => ?_) | refine .leq rfl rfl rfl (fun hc => ?_) (fun hc => ?_) | refine .gtr rfl rfl rfl (fun hc => ?_) (fun hc => ?_) | refine .geq rfl rfl rfl (fun hc => ?_) (fun hc => ?_) | refine .eql rfl rfl rfl (fun hc => ?_) (fun hc => ?_) | refine .neq rfl rfl rfl (fun hc => ?_) (fun hc => ?_)) | (show EG _ _ (⟨_, .load _ _, _, _⟩ :: _) _ _ _ _ _ _; first | refine .load rfl rfl (l0) ?_ | refine .load rfl rfl (l80) ?_ | refine .load rfl rfl (l81) ?_ | refine .load rfl rfl (q84) ?_) | (show EG _ _ (⟨_, .call _ _, _, _⟩ :: _) _ _ _ _ _ _; first | refine .call rfl rfl (hO _) ?_ | refine .call rfl rfl (hO1 _) ?_ | refine .call rfl rfl (hE _) ?_ | refine .call rfl rfl (hK _) ?_ | refine .call rfl rfl (hB) ?_) | refine .inv rfl rfl rfl rfl (hL) ?_ | refine .loadc rfl rfl l0 (one_take l0) (same_lay _ _) ?_ | refine .loadc rfl rfl k80 (one_take k80) (same_i _) ?_ | refine .store rfl rfl rfl rfl rfl hs1 ?_ | refine .store rfl rfl rfl rfl rfl hs2 ?_ | refine .skip rfl ?_ | refine .fin ?_ | refine .go rfl rfl rfl ?_ | refine .gono rfl rfl rfl ?_ | refine .skipn rfl ?_))
  rfl

def olderB (w e : Int) : Bool := decide (0 < w) && decide (w64 (w - 1) < e)
theorem inside_spec (lo : Nat) (h : Heap) (w : Int) : callR En lo Id.head_Inside [I w] h = some (if 0 < w then .tuple #[I (w64 (w - 1)), .bool true] else .tuple #[I 0, .bool false], h) := by
 refine call_scr rfl Fn.head_Inside rfl rfl ?_
 by_cases hw : 0 < w
 ·rw [if_pos hw]
  repeat' (first | (show ER _ _ _ _ _ _ _; first | refine .seq ?_ | refine .reg ?_ | refine .yes rfl ?_ | refine .no rfl ?_ | refine .skip ?_ | refine .block ?_ | refine .endB ?_ | refine .exit rfl ?_ | refine .br rfl (fun hc => ?_) (fun hc => ?_) | refine .scope ?_ | refine .inScope ?_ | refine .label ?_ | refine .ret rfl ?_ | refine .nil rfl ?_) | (show EG _ _ _ _ _ _ _ _ _; first | refine .mov rfl rfl ?_ | refine .lload rfl rfl rfl rfl ?_ | refine .laddr rfl rfl rfl ?_ | (show EG _ _ (⟨_, .bin _ _ _, _, _⟩ :: _) _ _ _ _ _ _; first | refine .lss rfl rfl rfl (fun hc => ?_) (fun hc => ?_) | refine .leqT rfl rfl rfl (by omega) ?_ | refine .leqF rfl rfl rfl (by omega) ?_ | refine .gtr rfl rfl rfl (fun hc => ?_) (fun hc => ?_) | refine .geq rfl rfl rfl (fun hc => ?_) (fun hc => ?_) | refine .eql rfl rfl rfl (fun hc => ?_) (fun hc => ?_) | refine .neq rfl rfl rfl (fun hc => ?_) (fun hc => ?_)) | refine .skip rfl ?_ | refine .fin ?_ | refine .go rfl rfl rfl ?_ | refine .gono rfl rfl rfl ?_ | refine .skipn rfl ?_))
  rfl
 ·rw [if_neg hw]
  repeat' (first | (show ER _ _ _ _ _ _ _; first | refine .seq ?_ | refine .reg ?_ | refine .yes rfl ?_ | refine .no rfl ?_ | refine .skip ?_ | refine .block ?_ | refine .endB ?_ | refine .exit rfl ?_ | refine .br rfl (fun hc => ?_) (fun hc => ?_) | refine .scope ?_ | refine .inScope ?_ | refine .label ?_ | refine .ret rfl ?_ | refine .nil rfl ?_) | (show EG _ _ _ _ _ _ _ _ _; first | refine .mov rfl rfl ?_ | refine .lload rfl rfl rfl rfl ?_ | refine .laddr rfl rfl rfl ?_ | (show EG _ _ (⟨_, .bin _ _ _, _, _⟩ :: _) _ _ _ _ _ _; first | refine .lss rfl rfl rfl (fun hc => ?_) (fun hc => ?_) | refine .leqT rfl rfl rfl (by omega) ?_ | refine .leqF rfl rfl rfl (by omega) ?_ | refine .gtr rfl rfl rfl (fun hc => ?_) (fun hc => ?_) | refine .geq rfl rfl rfl (fun hc => ?_) (fun hc => ?_) | refine .eql rfl rfl rfl (fun hc => ?_) (fun hc => ?_) | refine .neq rfl rfl rfl (fun hc => ?_) (fun hc => ?_)) | refine .skip rfl ?_ | refine .fin ?_ | refine .go rfl rfl rfl ?_ | refine .gono rfl rfl rfl ?_ | refine .skipn rfl ?_))
  rfl
theorem older_spec (lo : Nat) (h : Heap) (w e : Int) : callR En lo Id.head_Older [I w, I e] h = some (.bool (olderB w e), h) := by
 have hI := fun lo => inside_spec lo h w
 refine call_scr rfl Fn.head_Older rfl rfl ?_
 unfold olderB
 by_cases hw : 0 < w
 ·rw [if_pos hw] at hI
  rw [decide_eq_true hw]
  repeat' (first | (show ER _ _ _ _ _ _ _; first | refine .seq ?_ | refine .reg ?_ | refine .yes rfl ?_ | refine .no rfl ?_ | refine .skip ?_ | refine .block ?_ | refine .endB ?_ | refine .exit rfl ?_ | refine .br rfl (fun hc => ?_) (fun hc => ?_) | refine .scope ?_ | refine .inScope ?_ | refine .label ?_ | refine .ret rfl ?_ | refine .nil rfl ?_) | (show EG _ _ _ _ _ _ _ _ _; first | refine .mov rfl rfl ?_ | refine .lload rfl rfl rfl rfl ?_ | refine .laddr rfl rfl rfl ?_ | (show EG _ _ (⟨_, .bin _ _ _, _, _⟩ :: _) _ _ _ _ _ _; first | refine .lss rfl rfl rfl (fun hc => ?_) (fun hc => ?_) | refine .leq rfl rfl rfl (fun hc => ?_) (fun hc => ?_) | refine .gtr rfl rfl rfl (fun hc => ?_) (fun hc => ?_) | refine .geq rfl rfl rfl (fun hc => ?_) (fun hc => ?_) | refine .eql rfl rfl rfl (fun hc => ?_) (fun hc => ?_) | refine .neq rfl rfl rfl (fun hc => ?_) (fun hc => ?_)) | refine .call rfl rfl (hI _) ?_ | refine .skip rfl ?_ | refine .fin ?_ | refine .go rfl rfl rfl ?_ | refine .gono rfl rfl rfl ?_ | refine .skipn rfl ?_))
  all_goals (refine tidyB ?_; simp [*])
 ·rw [if_neg hw] at hI
  rw [decide_eq_false hw]
  repeat' (first | (show ER _ _ _ _ _ _ _; first | refine .seq ?_ | refine .reg ?_ | refine .yes rfl ?_ | refine .no rfl ?_ | refine .skip ?_ | refine .block ?_ | refine .endB ?_ | refine .exit rfl ?_ | refine .br rfl (fun hc => ?_) (fun hc => ?_) | refine .scope ?_ | refine .inScope ?_ | refine .label ?_ | refine .ret rfl ?_ | refine .nil rfl ?_) | (show EG _ _ _ _ _ _ _ _ _; first | refine .mov rfl rfl ?_ | refine .lload rfl rfl rfl rfl ?_ | refine .laddr rfl rfl rfl ?_ | (show EG _ _ (⟨_, .bin _ _ _, _, _⟩ :: _) _ _ _ _ _ _; first | refine .lss rfl rfl rfl (fun hc => ?_) (fun hc => ?_) | refine .leq rfl rfl rfl (fun hc => ?_) (fun hc => ?_) | refine .gtr rfl rfl rfl (fun hc => ?_) (fun hc => ?_) | refine .geq rfl rfl rfl (fun hc => ?_) (fun hc => ?_) | refine .eql rfl rfl rfl (fun hc => ?_) (fun hc => ?_) | refine .neq rfl rfl rfl (fun hc => ?_) (fun hc => ?_)) | refine .call rfl rfl (hI _) ?_ | refine .skip rfl ?_ | refine .fin ?_ | refine .go rfl rfl rfl ?_ | refine .gono rfl rfl rfl ?_ | refine .skipn rfl ?_))
  rfl

def tnStep (c : Cfg) (t : Tn) (ws : List Int) : (Tn × Bool × Bool) × List Int :=
 if t.nx = 0 then ((t, false, true), ws)
 else if t.nx = 1 then (({ t with ep := getI ws 3, nx := 2 }, false, false), ws)
 else if t.nx = 2 then (({ t with nx := if casB ws 3 t.ep then 3 else 1 }, false, false), if casB ws 3 t.ep then setI ws 3 (w64 (t.ep + 1)) else ws)
 else if t.nx = 3 then
  (if olderB (getI ws (noteI c t.ak)) (w64 (t.ep + 1)) = true ∨ w64 (t.ak + 1) = c.T then ({ t with ak := w64 (t.ak + 1), nx := 0 }, !olderB (getI ws (noteI c t.ak)) (w64 (t.ep + 1)), true)
   else ({ t with ak := w64 (t.ak + 1) }, false, false), ws)
 else ((t, false, false), ws)

set_option maxHeartbeats 3200000 in
theorem tn_spec {cb : CB} {ws bs : List Int} {b : Nat} {c : Cfg} {t : Tn} (h : H[b]? = some (.row (trow c t) false)) (hC : IsC H cb ws bs) (hd : b ≠ cb.P ∧ b ≠ cb.W ∧ b ≠ cb.Y) (hm : c.may) (hlo : lo ≤ b) (hlc : lo ≤ cb.P ∧ lo ≤ cb.W) :
  ∃ H', callR En lo Id.epoch_Turn_Step [ptrB b, ifC cb] H = some (.tuple #[.bool (tnStep c t ws).1.2.1, .bool (tnStep c t ws).1.2.2], H') ∧ H'[b]? = some (.row (trow c (tnStep c t ws).1.1) false) ∧ IsC H' cb (tnStep c t ws).2 bs ∧ Only [b, cb.P, cb.W] H H' := by
 have hbl := hlt_of h
 have l3 : loadV H none ⟨b, 0 + 3, none⟩ = some (I t.nx) := ld_row h rfl
 have l0 : loadV H (some 2) ⟨b, 0 + 0, none⟩ = some (lay c.T c.S) := ldN_row h (Nat.le_of_ble_eq_true rfl) rfl
 unfold tnStep
 by_cases h0 : t.nx = 0
 ·rw [if_pos h0]
  refine ⟨H, ?_, h, hC, .refl _ _⟩
  refine call_of rfl Fn.epoch_Turn_Step rfl rfl ?_
  repeat' (first | (show ER _ _ _ _ _ _ _; first | refine .seq ?_ | refine .reg ?_ | refine .yes rfl ?_ | refine .no rfl ?_ | refine .skip ?_ | refine .block ?_ | refine .endB ?_ | refine .exit rfl ?_ | refine .br rfl (fun hc => ?_) (fun hc => ?_) | refine .scope ?_ | refine .inScope ?_ | refine .label ?_ | refine .ret rfl ?_ | refine .nil rfl ?_) | (show EG _ _ _ _ _ _ _ _ _; first | refine .mov rfl rfl ?_ | refine .lload rfl rfl rfl rfl ?_ | refine .laddr rfl rfl rfl ?_ | (show EG _ _ (⟨_, .bin _ _ _, _, _⟩ :: _) _ _ _ _ _ _; first | refine .lss rfl rfl rfl (fun hc => ?_) (fun hc => ?_) | refine .leq rfl rfl rfl (fun hc => ?_) (fun hc => ?_) | refine .gtr rfl rfl rfl (fun hc => ?_) (fun hc => ?_) | refine .geq rfl rfl rfl (fun hc => ?_) (fun hc => ?_) | refine .eqlT rfl rfl rfl (by omega) ?_ | refine .eqlF rfl rfl rfl (by omega) ?_ | refine .neq rfl rfl rfl (fun hc => ?_) (fun hc => ?_)) | refine .load rfl rfl (l3) ?_ | refine .skip rfl ?_ | refine .fin ?_ | refine .go rfl rfl rfl ?_ | refine .gono rfl rfl rfl ?_ | refine .skipn rfl ?_))
  rfl
 ·rw [if_neg h0]
  have hEp := fun lo (hh : Heap) => epoch_spec lo hh hm
  by_cases h1 : t.nx = 1
  ·rw [if_pos h1]
   obtain ⟨H1, hL, hC1, ho1⟩ := load_spec hC hlc.1 3
   have hr1 : H1[b]? = some (.row (trow c t) false) := by rw [ho1.same b (by simpa using hd.1)]; exact h
   have s1 : stN lo H1 ⟨b, 0 + 4, none⟩ (vcells (I (getI ws 3))) = some (H1.set b (.row (trow c { t with ep := getI ws 3 }) false)) := st_row hr1 hlo (Nat.le_of_ble_eq_true rfl) rfl
   have s2 : stN lo (H1.set b (.row (trow c { t with ep := getI ws 3 }) false)) ⟨b, 0 + 3, none⟩ (vcells (I 2)) = some (H1.set b (.row (trow c { t with ep := getI ws 3, nx := 2 }) false)) :=
    (st_row (hs_same (hlt_of hr1)) hlo (Nat.le_of_ble_eq_true rfl) rfl).trans (by rw [List.set_set]; rfl)
   refine ⟨_, ?_, hs_same (hlt_of hr1), ?_, (ho1.mono (by simp)).set (by simp)⟩
   ·refine call_of rfl Fn.epoch_Turn_Step rfl rfl ?_
    repeat' (first | (show ER _ _ _ _ _ _ _; first | refine .seq ?_ | refine .reg ?_ | refine .yes rfl ?_ | refine .no rfl ?_ | refine .skip ?_ | refine .block ?_ | refine .endB ?_ | refine .exit rfl ?_ | refine .br rfl (fun hc => ?_) (fun hc => ?_) | refine .scope ?_ | refine .inScope ?_ | refine .label ?_ | refine .ret rfl ?_ | refine .nil rfl ?_) | (show EG _ _ _ _ _ _ _ _ _; first | refine .mov rfl rfl ?_ | refine .lload rfl rfl rfl rfl ?_ | refine .laddr rfl rfl rfl ?_ | (show EG _ _ (⟨_, .bin _ _ _, _, _⟩ :: _) _ _ _ _ _ _; first | refine .lss rfl rfl rfl (fun hc => ?_) (fun hc => ?_) | refine .leq rfl rfl rfl (fun hc => ?_) (fun hc => ?_) | refine .gtr rfl rfl rfl (fun hc => ?_) (fun hc => ?_) | refine .geq rfl rfl rfl (fun hc => ?_) (fun hc => ?_) | refine .eqlT rfl rfl rfl (by omega) ?_ | refine .eqlF rfl rfl rfl (by omega) ?_ | refine .neq rfl rfl rfl (fun hc => ?_) (fun hc => ?_)) | (show EG _ _ (⟨_, .load _ _, _, _⟩ :: _) _ _ _ _ _ _; first | refine .load rfl rfl (l3) ?_ | refine .load rfl rfl (l0) ?_) | refine .call rfl rfl (hEp _ _) ?_ | refine .inv rfl rfl rfl rfl (hL) ?_ | refine .store rfl rfl rfl rfl rfl s1 ?_ | refine .store rfl rfl rfl rfl rfl s2 ?_ | refine .skip rfl ?_ | refine .fin ?_ | refine .go rfl rfl rfl ?_ | refine .gono rfl rfl rfl ?_ | refine .skipn rfl ?_))
    rfl
   ·exact hC1.chg ((Chg.refl [b] _).set (by simp)) (by simp [hd.1.symm, hd.2.1.symm, hd.2.2.symm])
  ·rw [if_neg h1]
   by_cases h2 : t.nx = 2
   ·rw [if_pos h2]
    have s0 : stN lo H ⟨b, 0 + 3, none⟩ (vcells (I 1)) = some (H.set b (.row (trow c { t with nx := 1 }) false)) := st_row h hlo (Nat.le_of_ble_eq_true rfl) rfl
    have hr0 : (H.set b (.row (trow c { t with nx := 1 }) false))[b]? = some (.row (trow c { t with nx := 1 }) false) := hs_same hbl
    have hC0 : IsC (H.set b (.row (trow c { t with nx := 1 }) false)) cb ws bs := hC.chg ((Chg.refl [b] _).set (by simp)) (by simp [hd.1.symm, hd.2.1.symm, hd.2.2.symm])
    have o0 : Only [b, cb.P, cb.W] H (H.set b (.row (trow c { t with nx := 1 }) false)) := (Only.refl _ _).set (by simp)
    generalize H.set b (.row (trow c { t with nx := 1 }) false) = H0 at s0 hr0 hC0 o0
    have q4 : loadV H0 none ⟨b, 0 + 4, none⟩ = some (I t.ep) := ld_row hr0 rfl
    have q0 : loadV H0 (some 2) ⟨b, 0 + 0, none⟩ = some (lay c.T c.S) := ldN_row hr0 (Nat.le_of_ble_eq_true rfl) rfl
    obtain ⟨H1, hL, hC1, ho1⟩ := cas_spec hC0 hlc.1 hlc.2 3 t.ep (w64 (t.ep + 1))
    have hr1 : H1[b]? = some (.row (trow c { t with nx := 1 }) false) := by rw [ho1.same b (by simp [hd.1, hd.2.1])]; exact hr0
    have o1 := o0.trans (ho1.mono (by simp))
    cases hb : casB ws 3 t.ep with
    | false =>
      rw [hb] at hL hC1
      rw [if_neg (by decide)] at hC1
      refine ⟨_, ?_, hr1, hC1, o1⟩
      refine call_of rfl Fn.epoch_Turn_Step rfl rfl ?_
      repeat' (first | (show ER _ _ _ _ _ _ _; first | refine .seq ?_ | refine .reg ?_ | refine .yes rfl ?_ | refine .no rfl ?_ | refine .skip ?_ | refine .block ?_ | refine .endB ?_ | refine .exit rfl ?_ | refine .br rfl (fun hc => ?_) (fun hc => ?_) | refine .scope ?_ | refine .inScope ?_ | refine .label ?_ | refine .ret rfl ?_ | refine .nil rfl ?_) | (show EG _ _ _ _ _ _ _ _ _; first | refine .mov rfl rfl ?_ | refine .lload rfl rfl rfl rfl ?_ | refine .laddr rfl rfl rfl ?_ | (show EG _ _ (⟨_, .bin _ _ _, _, _⟩ :: _) _ _ _ _ _ _; first | refine .lss rfl rfl rfl (fun hc => ?_) (fun hc => ?_) | refine .leq rfl rfl rfl (fun hc => ?_) (fun hc => ?_) | refine .gtr rfl rfl rfl (fun hc => ?_) (fun hc => ?_) | refine .geq rfl rfl rfl (fun hc => ?_) (fun hc => ?_) | refine .eqlT rfl rfl rfl (by omega) ?_ | refine .eqlF rfl rfl rfl (by omega) ?_ | refine .neq rfl rfl rfl (fun hc => ?_) (fun hc => ?_)) | (show EG _ _ (⟨_, .load _ _, _, _⟩ :: _) _ _ _ _ _ _; first | refine .load rfl rfl (l3) ?_ | refine .load rfl rfl (q0) ?_) | refine .call rfl rfl (hEp _ _) ?_ | refine .inv rfl rfl rfl rfl (hL) ?_ | refine .store rfl rfl rfl rfl rfl s0 ?_ | refine .loadc rfl rfl q4 (one_take q4) (same_i _) ?_ | refine .skip rfl ?_ | refine .fin ?_ | refine .go rfl rfl rfl ?_ | refine .gono rfl rfl rfl ?_ | refine .skipn rfl ?_))
      rfl
    | true =>
      rw [hb] at hL hC1
      rw [if_pos rfl] at hC1
      have s1 : stN lo H1 ⟨b, 0 + 3, none⟩ (vcells (I 3)) = some (H1.set b (.row (trow c { t with nx := 3 }) false)) := st_row hr1 hlo (Nat.le_of_ble_eq_true rfl) rfl
      refine ⟨_, ?_, hs_same (hlt_of hr1), hC1.chg ((Chg.refl [b] _).set (by simp)) (by simp [hd.1.symm, hd.2.1.symm, hd.2.2.symm]), o1.set (by simp)⟩
      refine call_of rfl Fn.epoch_Turn_Step rfl rfl ?_
      repeat' (first | (show ER _ _ _ _ _ _ _; first | refine .seq ?_ | refine .reg ?_ | refine .yes rfl ?_ | refine .no rfl ?_ | refine .skip ?_ | refine .block ?_ | refine .endB ?_ | refine .exit rfl ?_ | refine .br rfl (fun hc => ?_) (fun hc => ?_) | refine .scope ?_ | refine .inScope ?_ | refine .label ?_ | refine .ret rfl ?_ | refine .nil rfl ?_) | (show EG _ _ _ _ _ _ _ _ _; first | refine .mov rfl rfl ?_ | refine .lload rfl rfl rfl rfl ?_ | refine .laddr rfl rfl rfl ?_ | (show EG _ _ (⟨_, .bin _ _ _, _, _⟩ :: _) _ _ _ _ _ _; first | refine .lss rfl rfl rfl (fun hc => ?_) (fun hc => ?_) | refine .leq rfl rfl rfl (fun hc => ?_) (fun hc => ?_) | refine .gtr rfl rfl rfl (fun hc => ?_) (fun hc => ?_) | refine .geq rfl rfl rfl (fun hc => ?_) (fun hc => ?_) | refine .eqlT rfl rfl rfl (by omega) ?_ | refine .eqlF rfl rfl rfl (by omega) ?_ | refine .neq rfl rfl rfl (fun hc => ?_) (fun hc => ?_)) | (show EG _ _ (⟨_, .load _ _, _, _⟩ :: _) _ _ _ _ _ _; first | refine .load rfl rfl (l3) ?_ | refine .load rfl rfl (q0) ?_) | refine .call rfl rfl (hEp _ _) ?_ | refine .inv rfl rfl rfl rfl (hL) ?_ | refine .store rfl rfl rfl rfl rfl s0 ?_ | refine .store rfl rfl rfl rfl rfl s1 ?_ | refine .loadc rfl rfl q4 (one_take q4) (same_i _) ?_ | refine .skip rfl ?_ | refine .fin ?_ | refine .go rfl rfl rfl ?_ | refine .gono rfl rfl rfl ?_ | refine .skipn rfl ?_))
      rfl
   ·rw [if_neg h2]
    by_cases h3 : t.nx = 3
    ·rw [if_pos h3]
     have l5 : loadV H none ⟨b, 0 + 5, none⟩ = some (I t.ak) := ld_row h rfl
     have l4 : loadV H none ⟨b, 0 + 4, none⟩ = some (I t.ep) := ld_row h rfl
     have hNo := fun lo => note_spec lo H hm t.ak
     obtain ⟨H1, hL, hC1, ho1⟩ := load_spec hC hlc.1 (noteI c t.ak)
     have hr1 : H1[b]? = some (.row (trow c t) false) := by rw [ho1.same b (by simpa using hd.1)]; exact h
     have o1 : Only [b, cb.P, cb.W] H H1 := ho1.mono (by simp)
     have k4 : loadV H1 none ⟨b, 0 + 4, none⟩ = some (I t.ep) := ld_row hr1 rfl
     have k5 : loadV H1 none ⟨b, 0 + 5, none⟩ = some (I t.ak) := ld_row hr1 rfl
     have hOl := fun lo => older_spec lo H1 (getI ws (noteI c t.ak)) (w64 (t.ep + 1))
     generalize olderB (getI ws (noteI c t.ak)) (w64 (t.ep + 1)) = ol at hOl
     have s1 : stN lo H1 ⟨b, 0 + 5, none⟩ (vcells (I (w64 (t.ak + 1)))) = some (H1.set b (.row (trow c { t with ak := w64 (t.ak + 1) }) false)) := st_row hr1 hlo (Nat.le_of_ble_eq_true rfl) rfl
     have hr2 : (H1.set b (.row (trow c { t with ak := w64 (t.ak + 1) }) false))[b]? = some (.row (trow c { t with ak := w64 (t.ak + 1) }) false) := hs_same (hlt_of hr1)
     have hC2 : IsC (H1.set b (.row (trow c { t with ak := w64 (t.ak + 1) }) false)) cb ws bs := hC1.chg ((Chg.refl [b] _).set (by simp)) (by simp [hd.1.symm, hd.2.1.symm, hd.2.2.symm])
     have o2 := o1.set (k := .row (trow c { t with ak := w64 (t.ak + 1) }) false) (show b ∈ [b, cb.P, cb.W] by simp)
     generalize H1.set b (.row (trow c { t with ak := w64 (t.ak + 1) }) false) = H2 at s1 hr2 hC2 o2
     have q5 : loadV H2 none ⟨b, 0 + 5, none⟩ = some (I (w64 (t.ak + 1))) := ld_row hr2 rfl
     have q2 : loadV H2 none ⟨b, 0 + 2, none⟩ = some (I c.T) := ld_row hr2 rfl
     have s2 : stN lo H2 ⟨b, 0 + 3, none⟩ (vcells (I 0)) = some (H2.set b (.row (trow c { t with ak := w64 (t.ak + 1), nx := 0 }) false)) := st_row hr2 hlo (Nat.le_of_ble_eq_true rfl) rfl
     have hC3 : IsC (H2.set b (.row (trow c { t with ak := w64 (t.ak + 1), nx := 0 }) false)) cb ws bs := hC2.chg ((Chg.refl [b] _).set (by simp)) (by simp [hd.1.symm, hd.2.1.symm, hd.2.2.symm])
     by_cases hT : w64 (t.ak + 1) = c.T
     ·rw [if_pos (.inr hT)]
      refine ⟨_, ?_, hs_same (hlt_of hr2), hC3, o2.set (by simp)⟩
      refine call_of rfl Fn.epoch_Turn_Step rfl rfl ?_
      cases ol
      all_goals
       repeat' (first | (show ER _ _ _ _ _ _ _; first | refine .seq ?_ | refine .reg ?_ | refine .yes rfl ?_ | refine .no rfl ?_ | refine .skip ?_ | refine .block ?_ | refine .endB ?_ | refine .exit rfl ?_ | refine .br rfl (fun hc => ?_) (fun hc => ?_) | refine .scope ?_ | refine .inScope ?_ | refine .label ?_ | refine .ret rfl ?_ | refine .nil rfl ?_) | (show EG _ _ _ _ _ _ _ _ _; first | refine .mov rfl rfl ?_ | refine .lload rfl rfl rfl rfl ?_ | refine .laddr rfl rfl rfl ?_ | (show EG _ _ (⟨_, .bin _ _ _, _, _⟩ :: _) _ _ _ _ _ _; first | refine .lss rfl rfl rfl (fun hc => ?_) (fun hc => ?_) | refine .leq rfl rfl rfl (fun hc => ?_) (fun hc => ?_) | refine .gtr rfl rfl rfl (fun hc => ?_) (fun hc => ?_) | refine .geq rfl rfl rfl (fun hc => ?_) (fun hc => ?_) | refine .eqlT rfl rfl rfl (by omega) ?_ | refine .eqlF rfl rfl rfl (by omega) ?_ | refine .neq rfl rfl rfl (fun hc => ?_) (fun hc => ?_)) | (show EG _ _ (⟨_, .load _ _, _, _⟩ :: _) _ _ _ _ _ _; first | refine .load rfl rfl (l3) ?_ | refine .load rfl rfl (l0) ?_ | refine .load rfl rfl (l5) ?_ | refine .load rfl rfl (k5) ?_ | refine .load rfl rfl (q5) ?_ | refine .load rfl rfl (q2) ?_) | (show EG _ _ (⟨_, .call _ _, _, _⟩ :: _) _ _ _ _ _ _; first | refine .call rfl rfl (hNo _) ?_ | refine .call rfl rfl (hOl _) ?_) | refine .inv rfl rfl rfl rfl (hL) ?_ | refine .store rfl rfl rfl rfl rfl s1 ?_ | refine .store rfl rfl rfl rfl rfl s2 ?_ | refine .loadc rfl rfl k4 (two_take l4 l4) (same_i _) ?_ | refine .skip rfl ?_ | refine .fin ?_ | refine .go rfl rfl rfl ?_ | refine .gono rfl rfl rfl ?_ | refine .skipn rfl ?_))
       rfl
     ·cases ol with
      | true =>
        rw [if_pos (.inl rfl)]
        refine ⟨_, ?_, hs_same (hlt_of hr2), hC3, o2.set (by simp)⟩
        refine call_of rfl Fn.epoch_Turn_Step rfl rfl ?_
        repeat' (first | (show ER _ _ _ _ _ _ _; first | refine .seq ?_ | refine .reg ?_ | refine .yes rfl ?_ | refine .no rfl ?_ | refine .skip ?_ | refine .block ?_ | refine .endB ?_ | refine .exit rfl ?_ | refine .br rfl (fun hc => ?_) (fun hc => ?_) | refine .scope ?_ | refine .inScope ?_ | refine .label ?_ | refine .ret rfl ?_ | refine .nil rfl ?_) | (show EG _ _ _ _ _ _ _ _ _; first | refine .mov rfl rfl ?_ | refine .lload rfl rfl rfl rfl ?_ | refine .laddr rfl rfl rfl ?_ | (show EG _ _ (⟨_, .bin _ _ _, _, _⟩ :: _) _ _ _ _ _ _; first | refine .lss rfl rfl rfl (fun hc => ?_) (fun hc => ?_) | refine .leq rfl rfl rfl (fun hc => ?_) (fun hc => ?_) | refine .gtr rfl rfl rfl (fun hc => ?_) (fun hc => ?_) | refine .geq rfl rfl rfl (fun hc => ?_) (fun hc => ?_) | refine .eqlT rfl rfl rfl (by omega) ?_ | refine .eqlF rfl rfl rfl (by omega) ?_ | refine .neq rfl rfl rfl (fun hc => ?_) (fun hc => ?_)) | (show EG _ _ (⟨_, .load _ _, _, _⟩ :: _) _ _ _ _ _ _; first | refine .load rfl rfl (l3) ?_ | refine .load rfl rfl (l0) ?_ | refine .load rfl rfl (l5) ?_ | refine .load rfl rfl (k5) ?_ | refine .load rfl rfl (q5) ?_ | refine .load rfl rfl (q2) ?_) | (show EG _ _ (⟨_, .call _ _, _, _⟩ :: _) _ _ _ _ _ _; first | refine .call rfl rfl (hNo _) ?_ | refine .call rfl rfl (hOl _) ?_) | refine .inv rfl rfl rfl rfl (hL) ?_ | refine .store rfl rfl rfl rfl rfl s1 ?_ | refine .store rfl rfl rfl rfl rfl s2 ?_ | refine .loadc rfl rfl k4 (two_take l4 l4) (same_i _) ?_ | refine .skip rfl ?_ | refine .fin ?_ | refine .go rfl rfl rfl ?_ | refine .gono rfl rfl rfl ?_ | refine .skipn rfl ?_))
        rfl
      | false =>
        rw [if_neg (fun hh => hh.elim (fun e => by cases e) hT)]
        refine ⟨_, ?_, hr2, hC2, o2⟩
        refine call_of rfl Fn.epoch_Turn_Step rfl rfl ?_
        repeat' (first | (show ER _ _ _ _ _ _ _; first | refine .seq ?_ | refine .reg ?_ | refine .yes rfl ?_ | refine .no rfl ?_ | refine .skip ?_ | refine .block ?_ | refine .endB ?_ | refine .exit rfl ?_ | refine .br rfl (fun hc => ?_) (fun hc => ?_) | refine .scope ?_ | refine .inScope ?_ | refine .label ?_ | refine .ret rfl ?_ | refine .nil rfl ?_) | (show EG _ _ _ _ _ _ _ _ _; first | refine .mov rfl rfl ?_ | refine .lload rfl rfl rfl rfl ?_ | refine .laddr rfl rfl rfl ?_ | (show EG _ _ (⟨_, .bin _ _ _, _, _⟩ :: _) _ _ _ _ _ _; first | refine .lss rfl rfl rfl (fun hc => ?_) (fun hc => ?_) | refine .leq rfl rfl rfl (fun hc => ?_) (fun hc => ?_) | refine .gtr rfl rfl rfl (fun hc => ?_) (fun hc => ?_) | refine .geq rfl rfl rfl (fun hc => ?_) (fun hc => ?_) | refine .eqlT rfl rfl rfl (by omega) ?_ | refine .eqlF rfl rfl rfl (by omega) ?_ | refine .neq rfl rfl rfl (fun hc => ?_) (fun hc => ?_)) | (show EG _ _ (⟨_, .load _ _, _, _⟩ :: _) _ _ _ _ _ _; first | refine .load rfl rfl (l3) ?_ | refine .load rfl rfl (l0) ?_ | refine .load rfl rfl (l5) ?_ | refine .load rfl rfl (k5) ?_ | refine .load rfl rfl (q5) ?_ | refine .load rfl rfl (q2) ?_) | (show EG _ _ (⟨_, .call _ _, _, _⟩ :: _) _ _ _ _ _ _; first | refine .call rfl rfl (hNo _) ?_ | refine .call rfl rfl (hOl _) ?_) | refine .inv rfl rfl rfl rfl (hL) ?_ | refine .store rfl rfl rfl rfl rfl s1 ?_ | refine .loadc rfl rfl k4 (two_take l4 l4) (same_i _) ?_ | refine .skip rfl ?_ | refine .fin ?_ | refine .go rfl rfl rfl ?_ | refine .gono rfl rfl rfl ?_ | refine .skipn rfl ?_))
        rfl
    ·rw [if_neg h3]
     refine ⟨H, ?_, h, hC, .refl _ _⟩
     refine call_of rfl Fn.epoch_Turn_Step rfl rfl ?_
     repeat' (first | (show ER _ _ _ _ _ _ _; first | refine .seq ?_ | refine .reg ?_ | refine .yes rfl ?_ | refine .no rfl ?_ | refine .skip ?_ | refine .block ?_ | refine .endB ?_ | refine .exit rfl ?_ | refine .br rfl (fun hc => ?_) (fun hc => ?_) | refine .scope ?_ | refine .inScope ?_ | refine .label ?_ | refine .ret rfl ?_ | refine .nil rfl ?_) | (show EG _ _ _ _ _ _ _ _ _; first | refine .mov rfl rfl ?_ | refine .lload rfl rfl rfl rfl ?_ | refine .laddr rfl rfl rfl ?_ | (show EG _ _ (⟨_, .bin _ _ _, _, _⟩ :: _) _ _ _ _ _ _; first | refine .lss rfl rfl rfl (fun hc => ?_) (fun hc => ?_) | refine .leq rfl rfl rfl (fun hc => ?_) (fun hc => ?_) | refine .gtr rfl rfl rfl (fun hc => ?_) (fun hc => ?_) | refine .geq rfl rfl rfl (fun hc => ?_) (fun hc => ?_) | refine .eqlT rfl rfl rfl (by omega) ?_ | refine .eqlF rfl rfl rfl (by omega) ?_ | refine .neq rfl rfl rfl (fun hc => ?_) (fun hc => ?_)) | refine .load rfl rfl (l3) ?_ | refine .skip rfl ?_ | refine .fin ?_ | refine .go rfl rfl rfl ?_ | refine .gono rfl rfl rfl ?_ | refine .skipn rfl ?_))
     rfl
end
end Go.Proofs.YtfpfknafcgkcjaaGreat

/- A pass: each step. -/
set_option linter.unusedVariables false
set_option linter.unusedSimpArgs false
namespace Go.Proofs.YtfpfknafcgkcjaaGreat
open Go Go.Ir

section
variable {lo : Nat} {H : Heap} {own : List Nat} {M : Nat} {m : Mc} {ov tv : Value}

def turnM (m : Mc) (t : Tn) (ws : List Int) : (Mc × Option Int) × List Int :=
 (if (tnStep m.c t ws).1.2.2 = false then onM { m with turn := some (tnStep m.c t ws).1.1 } 10
  else if (tnStep m.c t ws).1.2.1 = false then endM { m with turn := some (tnStep m.c t ws).1.1 }
  else onM { m with turn := some (tnStep m.c t ws).1.1 } 11, (tnStep m.c t ws).2)

theorem turn_spec' {cb : CB} {ws bs : List Int} {t : Tn} (h : McAt H own M m ov tv) (ht : m.turn = some t) (hC : IsC H cb ws bs) (d : Disj own cb) (hm : m.c.may) (hlo : ∀ b ∈ own, lo ≤ b) (hlc : lo ≤ cb.P ∧ lo ≤ cb.W) :
  ∃ v H', callR En lo Id.compact_Machine_turn [ptrB M, ifC cb] H = some (v, H') ∧ PostC H own M cb (turnM m t ws).1 (turnM m t ws).2 bs v H' := by
 have hloM := hlo M h.mem
 obtain ⟨b, hb1, hb2, htv, hb3⟩ : ∃ b, b ∈ own ∧ b ≠ M ∧ tv = ptrB b ∧ H[b]? = some (.row (trow m.c t) false) := by
  rcases h.turn with ⟨g, _⟩ | ⟨t', b, g1, g2, g3, g4, g5⟩
  ·rw [ht] at g; cases g
  ·rw [ht] at g1; injection g1 with g1; subst g1; exact ⟨b, g2, g3, g4, g5⟩
 obtain ⟨H1, hL, hr1, hC1, ho1⟩ := tn_spec hb3 hC (d b hb1) hm (hlo b hb1) hlc
 have l85 : loadV H none ⟨M, 0 + 85, none⟩ = some tv := ld_row h.row rfl
 have hMn : M ∉ [b, cb.P, cb.W] := by
  have := d M h.mem
  simp only [List.mem_cons, List.not_mem_nil, or_false]
  rintro (g | g | g)
  ·exact hb2 g.symm
  ·exact this.1 g
  ·exact this.2.1 g
 have h1 : McAt H1 own M { m with turn := some (tnStep m.c t ws).1.1 } ov tv := by
  refine ⟨by rw [ho1.same M hMn]; exact h.row, ?_, .inr ⟨_, b, rfl, hb1, hb2, htv, hr1⟩, h.mem, fun x hx => by rw [ho1.len]; exact h.lt x hx⟩
  rcases h.objs with g | ⟨g0, x, g1, g2, g3, g4⟩
  ·exact .inl g
  ·have hxb : x ≠ b := fun e => by
    subst e
    rw [g4] at hb3
    injection hb3 with hb3
    injection hb3 with hb3
    have := congrArg List.length hb3
    rw [flat_len (css_len m.objs), css_length] at this
    simp [trow] at this
    omega
   refine .inr ⟨g0, x, g1, g2, g3, ?_⟩
   rw [ho1.same x (by
    have := d x g1
    simp only [List.mem_cons, List.not_mem_nil, or_false]
    rintro (g | g | g)
    ·exact hxb g
    ·exact this.1 g
    ·exact this.2.1 g)]
   exact g4
 have cS : Chg (cellsS own cb) H H1 := (Chg.of ho1).mono fun x hx => by
  unfold cellsS
  simp only [List.mem_cons, List.not_mem_nil, or_false] at hx
  simp only [List.mem_append, List.mem_cons, List.not_mem_nil, or_false]
  rcases hx with g | g | g
  ·exact .inl (g ▸ hb1)
  ·exact .inr (.inl g)
  ·exact .inr (.inr (.inl g))
 have fin : ∀ {r : Mc × Option Int} {v : Value} {H' : Heap}, Post H1 own M r own v H' → PostC H own M cb r (tnStep m.c t ws).2 bs v H' := fun {r v H'} p => by
  refine ⟨Post.pre cS (p.mono fun x hx => by unfold cellsS; simp [hx]), ?_⟩
  obtain ⟨p1, own', ov', tv', p2, p3, p4⟩ := p
  exact hC1.chg p3 d.cells
 subst htv
 unfold turnM
 generalize hst : tnStep m.c t ws = st at hL h1 fin
 obtain ⟨⟨t', is, dn⟩, ws'⟩ := st
 simp only at hL h1 fin ⊢
 cases dn with
 | false =>
   rw [if_pos rfl]
   have hN := on_spec (lo := lo) h1.row hloM 10
   refine ⟨resV none, _, ?_, fin ⟨rfl, own, ov, _, h1.put (m' := { m with turn := some t', next := 10 }) rfl rfl rfl rfl, (Chg.refl _ _).set h.mem, fun b hb => .inl hb⟩⟩
   refine call_of rfl Fn.compact_Machine_turn rfl rfl ?_
   repeat' (first | (show ER _ _ _ _ _ _ _; first | refine .seq ?_ | refine .reg ?_ | refine .yes rfl ?_ | refine .no rfl ?_ | refine .skip ?_ | refine .block ?_ | refine .endB ?_ | refine .exit rfl ?_ | refine .br rfl (fun hc => ?_) (fun hc => ?_) | refine .scope ?_ | refine .inScope ?_ | refine .label ?_ | refine .ret rfl ?_ | refine .nil rfl ?_) | (show EG _ _ _ _ _ _ _ _ _; first | refine .mov rfl rfl ?_ | refine .lload rfl rfl rfl rfl ?_ | refine .laddr rfl rfl rfl ?_ | (show EG _ _ (⟨_, .bin _ _ _, _, _⟩ :: _) _ _ _ _ _ _; first | refine .lss rfl rfl rfl (fun hc => ?_) (fun hc => ?_) | refine .leq rfl rfl rfl (fun hc => ?_) (fun hc => ?_) | refine .gtr rfl rfl rfl (fun hc => ?_) (fun hc => ?_) | refine .geq rfl rfl rfl (fun hc => ?_) (fun hc => ?_) | refine .eql rfl rfl rfl (fun hc => ?_) (fun hc => ?_) | refine .neq rfl rfl rfl (fun hc => ?_) (fun hc => ?_)) | refine .load rfl rfl (l85) ?_ | (show EG _ _ (⟨_, .call _ _, _, _⟩ :: _) _ _ _ _ _ _; first | refine .call rfl rfl (hL) ?_ | refine .call rfl rfl (hN) ?_) | refine .skip rfl ?_ | refine .fin ?_ | refine .go rfl rfl rfl ?_ | refine .gono rfl rfl rfl ?_ | refine .skipn rfl ?_))
   rfl
 | true =>
   rw [if_neg (by decide)]
   cases is with
   | false =>
     rw [if_pos rfl]
     have hN := end_spec (lo := lo) h1.row hloM
     refine ⟨resV (some m.moved), _, ?_, fin ⟨rfl, own, ov, _, h1.put (m' := { m with turn := some t', next := 0 }) rfl rfl rfl rfl, (Chg.refl _ _).set h.mem, fun b hb => .inl hb⟩⟩
     refine call_of rfl Fn.compact_Machine_turn rfl rfl ?_
     repeat' (first | (show ER _ _ _ _ _ _ _; first | refine .seq ?_ | refine .reg ?_ | refine .yes rfl ?_ | refine .no rfl ?_ | refine .skip ?_ | refine .block ?_ | refine .endB ?_ | refine .exit rfl ?_ | refine .br rfl (fun hc => ?_) (fun hc => ?_) | refine .scope ?_ | refine .inScope ?_ | refine .label ?_ | refine .ret rfl ?_ | refine .nil rfl ?_) | (show EG _ _ _ _ _ _ _ _ _; first | refine .mov rfl rfl ?_ | refine .lload rfl rfl rfl rfl ?_ | refine .laddr rfl rfl rfl ?_ | (show EG _ _ (⟨_, .bin _ _ _, _, _⟩ :: _) _ _ _ _ _ _; first | refine .lss rfl rfl rfl (fun hc => ?_) (fun hc => ?_) | refine .leq rfl rfl rfl (fun hc => ?_) (fun hc => ?_) | refine .gtr rfl rfl rfl (fun hc => ?_) (fun hc => ?_) | refine .geq rfl rfl rfl (fun hc => ?_) (fun hc => ?_) | refine .eql rfl rfl rfl (fun hc => ?_) (fun hc => ?_) | refine .neq rfl rfl rfl (fun hc => ?_) (fun hc => ?_)) | refine .load rfl rfl (l85) ?_ | (show EG _ _ (⟨_, .call _ _, _, _⟩ :: _) _ _ _ _ _ _; first | refine .call rfl rfl (hL) ?_ | refine .call rfl rfl (hN) ?_) | refine .skip rfl ?_ | refine .fin ?_ | refine .go rfl rfl rfl ?_ | refine .gono rfl rfl rfl ?_ | refine .skipn rfl ?_))
     rfl
   | true =>
     rw [if_neg (by decide)]
     have hN := on_spec (lo := lo) h1.row hloM 11
     refine ⟨resV none, _, ?_, fin ⟨rfl, own, ov, _, h1.put (m' := { m with turn := some t', next := 11 }) rfl rfl rfl rfl, (Chg.refl _ _).set h.mem, fun b hb => .inl hb⟩⟩
     refine call_of rfl Fn.compact_Machine_turn rfl rfl ?_
     repeat' (first | (show ER _ _ _ _ _ _ _; first | refine .seq ?_ | refine .reg ?_ | refine .yes rfl ?_ | refine .no rfl ?_ | refine .skip ?_ | refine .block ?_ | refine .endB ?_ | refine .exit rfl ?_ | refine .br rfl (fun hc => ?_) (fun hc => ?_) | refine .scope ?_ | refine .inScope ?_ | refine .label ?_ | refine .ret rfl ?_ | refine .nil rfl ?_) | (show EG _ _ _ _ _ _ _ _ _; first | refine .mov rfl rfl ?_ | refine .lload rfl rfl rfl rfl ?_ | refine .laddr rfl rfl rfl ?_ | (show EG _ _ (⟨_, .bin _ _ _, _, _⟩ :: _) _ _ _ _ _ _; first | refine .lss rfl rfl rfl (fun hc => ?_) (fun hc => ?_) | refine .leq rfl rfl rfl (fun hc => ?_) (fun hc => ?_) | refine .gtr rfl rfl rfl (fun hc => ?_) (fun hc => ?_) | refine .geq rfl rfl rfl (fun hc => ?_) (fun hc => ?_) | refine .eql rfl rfl rfl (fun hc => ?_) (fun hc => ?_) | refine .neq rfl rfl rfl (fun hc => ?_) (fun hc => ?_)) | refine .load rfl rfl (l85) ?_ | (show EG _ _ (⟨_, .call _ _, _, _⟩ :: _) _ _ _ _ _ _; first | refine .call rfl rfl (hL) ?_ | refine .call rfl rfl (hN) ?_) | refine .skip rfl ?_ | refine .fin ?_ | refine .go rfl rfl rfl ?_ | refine .gono rfl rfl rfl ?_ | refine .skipn rfl ?_))
     rfl

structure Mc.wf (m : Mc) : Prop where
 may : m.c.may
 next : 0 ≤ m.next ∧ m.next ≤ 11
 scan : m.next ≤ 4 → m.turn = none ∧ 0 ≤ m.slot ∧ m.slot < m.c.S ∧ m.objs.length ≤ m.slot
 objs : ∀ o ∈ m.objs, 0 ≤ o.s ∧ o.s < m.c.S
 at_ : 0 ≤ m.att
 look : 5 ≤ m.next → m.next ≤ 9 → m.att < m.objs.length
 turn : m.next = 10 → m.turn ≠ none

def curO (m : Mc) : Obj := m.objs.getD m.att.toNat ⟨0, 0, 0, false⟩

def stepM (m : Mc) (ws bs : List Int) : (Mc × Option Int) × List Int × List Int :=
 if m.next = 1 then (onM { m with top := getI ws 0 } 2, ws, bs)
 else if m.next = 2 then (if getI ws 2 ≠ 0 then endM m else onM m 3, ws, bs)
 else if m.next = 3 then (scanM m ws, ws, bs)
 else if m.next = 4 then (measureM m ws, ws, bs)
 else if m.next = 5 then (lookM m ws (curO m), ws, bs)
 else if m.next = 6 then ((lockM m ws (curO m)).1, (lockM m ws (curO m)).2, bs)
 else if m.next = 7 then (onM { m with b := getI bs (w64 ((curO m).o + m.i)) } 8, ws, bs)
 else if m.next = 8 then ((layM m bs (curO m)).1, ws, (layM m bs (curO m)).2)
 else if m.next = 9 then ((storeM m ws (curO m)).1, (storeM m ws (curO m)).2, bs)
 else if m.next = 10 then ((turnM m (m.turn.getD ⟨0, 0, 0⟩) ws).1, (turnM m (m.turn.getD ⟨0, 0, 0⟩) ws).2, bs)
 else (endM { m with low := casB ws 0 m.top }, if casB ws 0 m.top then setI ws 0 m.dest else ws, bs)

set_option maxHeartbeats 3200000 in
theorem step_spec {cb : CB} {ws bs : List Int} (h : McAt H own M m ov tv) (hw : m.wf) (hC : IsC H cb ws bs) (d : Disj own cb) (hlo : ∀ b ∈ own, lo ≤ b) (hlc : lo ≤ cb.P ∧ lo ≤ cb.W ∧ lo ≤ cb.Y) (h0 : m.next ≠ 0) :
  ∃ v H', callR En lo Id.compact_Machine_Step [ptrB M, ifC cb] H = some (v, H') ∧ PostC H own M cb (stepM m ws bs).1 (stepM m ws bs).2.1 (stepM m ws bs).2.2 v H' := by
 have hm := hw.may
 have hm' := hm
 unfold Cfg.may at hm'
 have hloM := hlo M h.mem
 have hr := h.row
 have l5 : loadV H none ⟨M, 0 + 5, none⟩ = some (I m.next) := ld_row hr rfl
 have l0 := m_lay hr
 have sub : ∀ {g : Nat} {r : Mc × Option Int} {w' b' : List Int} (v : Value), v = resV r.2 → ∃ o, v = resV o := fun v hv => ⟨_, hv⟩
 have hat : 5 ≤ m.next → m.next ≤ 9 → ∃ k : Nat, m.att = k ∧ m.objs[k]? = some (curO m) ∧ 0 ≤ (curO m).s ∧ (curO m).s < 64 := fun h5 h9 => by
  have h1 := hw.at_
  have h2 := hw.look h5 h9
  have hk : m.att.toNat < m.objs.length := by omega
  have hg : m.objs[m.att.toNat]? = some (curO m) := by
   unfold curO
   rw [List.getD_eq_getElem?_getD, List.getElem?_eq_getElem hk]; rfl
  have h3 := hw.objs _ (List.mem_of_getElem? hg)
  exact ⟨m.att.toNat, by omega, hg, h3.1, by omega⟩
 unfold stepM
 rcases (show m.next = 1 ∨ m.next = 2 ∨ m.next = 3 ∨ m.next = 4 ∨ m.next = 5 ∨ m.next = 6 ∨ m.next = 7 ∨ m.next = 8 ∨ m.next = 9 ∨ m.next = 10 ∨ m.next = 11 by have := hw.next; omega) with hn | hn | hn | hn | hn | hn | hn | hn | hn | hn | hn
 ·rw [if_pos hn]
  have hF := fun lo => frontier_spec lo H hm
  obtain ⟨H1, hL, hC1, ho1⟩ := load_spec hC hlc.1 0
  have h1 := h.chg (Chg.of ho1) d.notP
  have s1 : stN lo H1 ⟨M, 0 + 6, none⟩ (vcells (I (getI ws 0))) = some (H1.set M (.row (mrow { m with top := getI ws 0 } ov tv) false)) := st_row h1.row hloM (Nat.le_of_ble_eq_true rfl) rfl
  have h2 : McAt (H1.set M (.row (mrow { m with top := getI ws 0 } ov tv) false)) own M { m with top := getI ws 0 } ov tv := h1.put rfl rfl rfl rfl
  have c2 : Chg own H1 (H1.set M (.row (mrow { m with top := getI ws 0 } ov tv) false)) := (Chg.refl _ _).set h.mem
  generalize H1.set M (.row (mrow { m with top := getI ws 0 } ov tv) false) = H2 at s1 h2 c2
  have hN := on_spec (lo := lo) h2.row hloM 2
  refine ⟨resV none, _, ?_, PostC.mk2 d ho1 (by simp) hC1 ⟨rfl, own, ov, tv, h2.put (m' := { m with top := getI ws 0, next := 2 }) rfl rfl rfl rfl, c2.set h.mem, fun b hb => .inl hb⟩⟩
  rw [hn] at l5
  refine call_of rfl Fn.compact_Machine_Step rfl rfl ?_
  repeat' (first | (show ER _ _ _ _ _ _ _; first | refine .seq ?_ | refine .reg ?_ | refine .yes rfl ?_ | refine .no rfl ?_ | refine .skip ?_ | refine .block ?_ | refine .endB ?_ | refine .exit rfl ?_ | refine .br rfl (fun hc => ?_) (fun hc => ?_) | refine .scope ?_ | refine .inScope ?_ | refine .label ?_ | refine .ret rfl ?_ | refine .nil rfl ?_) | (show EG _ _ _ _ _ _ _ _ _; first | refine .mov rfl rfl ?_ | refine .lload rfl rfl rfl rfl ?_ | refine .laddr rfl rfl rfl ?_ | (show EG _ _ (⟨_, .bin _ _ _, _, _⟩ :: _) _ _ _ _ _ _; first | refine .lss rfl rfl rfl (fun hc => ?_) (fun hc => ?_) | refine .leq rfl rfl rfl (fun hc => ?_) (fun hc => ?_) | refine .gtr rfl rfl rfl (fun hc => ?_) (fun hc => ?_) | refine .geq rfl rfl rfl (fun hc => ?_) (fun hc => ?_) | refine .eqlT rfl rfl rfl (by omega) ?_ | refine .eqlF rfl rfl rfl (by omega) ?_ | refine .neq rfl rfl rfl (fun hc => ?_) (fun hc => ?_)) | (show EG _ _ (⟨_, .load _ _, _, _⟩ :: _) _ _ _ _ _ _; first | refine .load rfl rfl (l5) ?_ | refine .load rfl rfl (l0) ?_) | (show EG _ _ (⟨_, .call _ _, _, _⟩ :: _) _ _ _ _ _ _; first | refine .call rfl rfl (hF _) ?_ | refine .call rfl rfl (hN) ?_) | refine .inv rfl rfl rfl rfl (hL) ?_ | refine .store rfl rfl rfl rfl rfl s1 ?_ | refine .skip rfl ?_ | refine .fin ?_ | refine .go rfl rfl rfl ?_ | refine .gono rfl rfl rfl ?_ | refine .skipn rfl ?_))
  rfl
 ·rw [if_neg (by omega), if_pos hn]
  have hF := fun lo => pending_spec lo H hm
  obtain ⟨H1, hL, hC1, ho1⟩ := load_spec hC hlc.1 2
  have h1 := h.chg (Chg.of ho1) d.notP
  rw [hn] at l5
  by_cases hp : getI ws 2 ≠ 0
  ·rw [if_pos hp]
   have hN := end_spec (lo := lo) h1.row hloM
   refine ⟨resV (some m.moved), _, ?_, PostC.mk2 d ho1 (by simp) hC1 ⟨rfl, own, ov, tv, h1.put (m' := { m with next := 0 }) rfl rfl rfl rfl, (Chg.refl _ _).set h.mem, fun b hb => .inl hb⟩⟩
   refine call_of rfl Fn.compact_Machine_Step rfl rfl ?_
   repeat' (first | (show ER _ _ _ _ _ _ _; first | refine .seq ?_ | refine .reg ?_ | refine .yes rfl ?_ | refine .no rfl ?_ | refine .skip ?_ | refine .block ?_ | refine .endB ?_ | refine .exit rfl ?_ | refine .br rfl (fun hc => ?_) (fun hc => ?_) | refine .scope ?_ | refine .inScope ?_ | refine .label ?_ | refine .ret rfl ?_ | refine .nil rfl ?_) | (show EG _ _ _ _ _ _ _ _ _; first | refine .mov rfl rfl ?_ | refine .lload rfl rfl rfl rfl ?_ | refine .laddr rfl rfl rfl ?_ | (show EG _ _ (⟨_, .bin _ _ _, _, _⟩ :: _) _ _ _ _ _ _; first | refine .lss rfl rfl rfl (fun hc => ?_) (fun hc => ?_) | refine .leq rfl rfl rfl (fun hc => ?_) (fun hc => ?_) | refine .gtr rfl rfl rfl (fun hc => ?_) (fun hc => ?_) | refine .geq rfl rfl rfl (fun hc => ?_) (fun hc => ?_) | refine .eqlT rfl rfl rfl (by omega) ?_ | refine .eqlF rfl rfl rfl (by omega) ?_ | refine .neqT rfl rfl rfl (by omega) ?_ | refine .neqF rfl rfl rfl (by omega) ?_) | (show EG _ _ (⟨_, .load _ _, _, _⟩ :: _) _ _ _ _ _ _; first | refine .load rfl rfl (l5) ?_ | refine .load rfl rfl (l0) ?_) | (show EG _ _ (⟨_, .call _ _, _, _⟩ :: _) _ _ _ _ _ _; first | refine .call rfl rfl (hF _) ?_ | refine .call rfl rfl (hN) ?_) | refine .inv rfl rfl rfl rfl (hL) ?_ | refine .skip rfl ?_ | refine .fin ?_ | refine .go rfl rfl rfl ?_ | refine .gono rfl rfl rfl ?_ | refine .skipn rfl ?_))
   rfl
  ·rw [if_neg hp]
   have hN := on_spec (lo := lo) h1.row hloM 3
   refine ⟨resV none, _, ?_, PostC.mk2 d ho1 (by simp) hC1 ⟨rfl, own, ov, tv, h1.put (m' := { m with next := 3 }) rfl rfl rfl rfl, (Chg.refl _ _).set h.mem, fun b hb => .inl hb⟩⟩
   refine call_of rfl Fn.compact_Machine_Step rfl rfl ?_
   repeat' (first | (show ER _ _ _ _ _ _ _; first | refine .seq ?_ | refine .reg ?_ | refine .yes rfl ?_ | refine .no rfl ?_ | refine .skip ?_ | refine .block ?_ | refine .endB ?_ | refine .exit rfl ?_ | refine .br rfl (fun hc => ?_) (fun hc => ?_) | refine .scope ?_ | refine .inScope ?_ | refine .label ?_ | refine .ret rfl ?_ | refine .nil rfl ?_) | (show EG _ _ _ _ _ _ _ _ _; first | refine .mov rfl rfl ?_ | refine .lload rfl rfl rfl rfl ?_ | refine .laddr rfl rfl rfl ?_ | (show EG _ _ (⟨_, .bin _ _ _, _, _⟩ :: _) _ _ _ _ _ _; first | refine .lss rfl rfl rfl (fun hc => ?_) (fun hc => ?_) | refine .leq rfl rfl rfl (fun hc => ?_) (fun hc => ?_) | refine .gtr rfl rfl rfl (fun hc => ?_) (fun hc => ?_) | refine .geq rfl rfl rfl (fun hc => ?_) (fun hc => ?_) | refine .eqlT rfl rfl rfl (by omega) ?_ | refine .eqlF rfl rfl rfl (by omega) ?_ | refine .neqT rfl rfl rfl (by omega) ?_ | refine .neqF rfl rfl rfl (by omega) ?_) | (show EG _ _ (⟨_, .load _ _, _, _⟩ :: _) _ _ _ _ _ _; first | refine .load rfl rfl (l5) ?_ | refine .load rfl rfl (l0) ?_) | (show EG _ _ (⟨_, .call _ _, _, _⟩ :: _) _ _ _ _ _ _; first | refine .call rfl rfl (hF _) ?_ | refine .call rfl rfl (hN) ?_) | refine .inv rfl rfl rfl rfl (hL) ?_ | refine .skip rfl ?_ | refine .fin ?_ | refine .go rfl rfl rfl ?_ | refine .gono rfl rfl rfl ?_ | refine .skipn rfl ?_))
   rfl
 ·rw [if_neg (by omega), if_neg (by omega), if_pos hn]
  have hs := hw.scan (by omega)
  obtain ⟨v, H', hB, hp⟩ := scan_spec h hC d hm hlo hlc.1 (by omega)
  refine ⟨v, H', ?_, hp⟩
  have hv := hp.1.1
  generalize (scanM m ws).2 = rr at hv
  rw [hn] at l5
  refine call_of rfl Fn.compact_Machine_Step rfl rfl ?_
  subst hv
  cases rr
  all_goals
   repeat' (first | (show ER _ _ _ _ _ _ _; first | refine .seq ?_ | refine .reg ?_ | refine .yes rfl ?_ | refine .no rfl ?_ | refine .skip ?_ | refine .block ?_ | refine .endB ?_ | refine .exit rfl ?_ | refine .br rfl (fun hc => ?_) (fun hc => ?_) | refine .scope ?_ | refine .inScope ?_ | refine .label ?_ | refine .ret rfl ?_ | refine .nil rfl ?_) | (show EG _ _ _ _ _ _ _ _ _; first | refine .mov rfl rfl ?_ | refine .lload rfl rfl rfl rfl ?_ | refine .laddr rfl rfl rfl ?_ | (show EG _ _ (⟨_, .bin _ _ _, _, _⟩ :: _) _ _ _ _ _ _; first | refine .lss rfl rfl rfl (fun hc => ?_) (fun hc => ?_) | refine .leq rfl rfl rfl (fun hc => ?_) (fun hc => ?_) | refine .gtr rfl rfl rfl (fun hc => ?_) (fun hc => ?_) | refine .geq rfl rfl rfl (fun hc => ?_) (fun hc => ?_) | refine .eqlT rfl rfl rfl (by omega) ?_ | refine .eqlF rfl rfl rfl (by omega) ?_ | refine .neq rfl rfl rfl (fun hc => ?_) (fun hc => ?_)) | refine .load rfl rfl (l5) ?_ | refine .call rfl rfl (hB) ?_ | refine .skip rfl ?_ | refine .fin ?_ | refine .go rfl rfl rfl ?_ | refine .gono rfl rfl rfl ?_ | refine .skipn rfl ?_))
   rfl
 ·rw [if_neg (by omega), if_neg (by omega), if_neg (by omega), if_pos hn]
  have hs := hw.scan (by omega)
  obtain ⟨v, H', hB, hp⟩ := measure_spec h hC d hm hlo hlc.1 (by omega) (by omega) hs.1
  refine ⟨v, H', ?_, hp⟩
  have hv := hp.1.1
  generalize (measureM m ws).2 = rr at hv
  rw [hn] at l5
  refine call_of rfl Fn.compact_Machine_Step rfl rfl ?_
  subst hv
  cases rr
  all_goals
   repeat' (first | (show ER _ _ _ _ _ _ _; first | refine .seq ?_ | refine .reg ?_ | refine .yes rfl ?_ | refine .no rfl ?_ | refine .skip ?_ | refine .block ?_ | refine .endB ?_ | refine .exit rfl ?_ | refine .br rfl (fun hc => ?_) (fun hc => ?_) | refine .scope ?_ | refine .inScope ?_ | refine .label ?_ | refine .ret rfl ?_ | refine .nil rfl ?_) | (show EG _ _ _ _ _ _ _ _ _; first | refine .mov rfl rfl ?_ | refine .lload rfl rfl rfl rfl ?_ | refine .laddr rfl rfl rfl ?_ | (show EG _ _ (⟨_, .bin _ _ _, _, _⟩ :: _) _ _ _ _ _ _; first | refine .lss rfl rfl rfl (fun hc => ?_) (fun hc => ?_) | refine .leq rfl rfl rfl (fun hc => ?_) (fun hc => ?_) | refine .gtr rfl rfl rfl (fun hc => ?_) (fun hc => ?_) | refine .geq rfl rfl rfl (fun hc => ?_) (fun hc => ?_) | refine .eqlT rfl rfl rfl (by omega) ?_ | refine .eqlF rfl rfl rfl (by omega) ?_ | refine .neq rfl rfl rfl (fun hc => ?_) (fun hc => ?_)) | refine .load rfl rfl (l5) ?_ | refine .call rfl rfl (hB) ?_ | refine .skip rfl ?_ | refine .fin ?_ | refine .go rfl rfl rfl ?_ | refine .gono rfl rfl rfl ?_ | refine .skipn rfl ?_))
   rfl
 ·rw [if_neg (by omega), if_neg (by omega), if_neg (by omega), if_neg (by omega), if_pos hn]
  obtain ⟨k, hk, ho, hos⟩ := hat (by omega) (by omega)
  obtain ⟨v, H', hB, hp⟩ := look_spec h hC d hm hloM hlc.1 hk ho hos
  refine ⟨v, H', ?_, hp⟩
  have hv := hp.1.1
  generalize (lookM m ws (curO m)).2 = rr at hv
  rw [hn] at l5
  refine call_of rfl Fn.compact_Machine_Step rfl rfl ?_
  subst hv
  cases rr
  all_goals
   repeat' (first | (show ER _ _ _ _ _ _ _; first | refine .seq ?_ | refine .reg ?_ | refine .yes rfl ?_ | refine .no rfl ?_ | refine .skip ?_ | refine .block ?_ | refine .endB ?_ | refine .exit rfl ?_ | refine .br rfl (fun hc => ?_) (fun hc => ?_) | refine .scope ?_ | refine .inScope ?_ | refine .label ?_ | refine .ret rfl ?_ | refine .nil rfl ?_) | (show EG _ _ _ _ _ _ _ _ _; first | refine .mov rfl rfl ?_ | refine .lload rfl rfl rfl rfl ?_ | refine .laddr rfl rfl rfl ?_ | (show EG _ _ (⟨_, .bin _ _ _, _, _⟩ :: _) _ _ _ _ _ _; first | refine .lss rfl rfl rfl (fun hc => ?_) (fun hc => ?_) | refine .leq rfl rfl rfl (fun hc => ?_) (fun hc => ?_) | refine .gtr rfl rfl rfl (fun hc => ?_) (fun hc => ?_) | refine .geq rfl rfl rfl (fun hc => ?_) (fun hc => ?_) | refine .eqlT rfl rfl rfl (by omega) ?_ | refine .eqlF rfl rfl rfl (by omega) ?_ | refine .neq rfl rfl rfl (fun hc => ?_) (fun hc => ?_)) | refine .load rfl rfl (l5) ?_ | refine .call rfl rfl (hB) ?_ | refine .skip rfl ?_ | refine .fin ?_ | refine .go rfl rfl rfl ?_ | refine .gono rfl rfl rfl ?_ | refine .skipn rfl ?_))
   rfl
 ·rw [if_neg (by omega), if_neg (by omega), if_neg (by omega), if_neg (by omega), if_neg (by omega), if_pos hn]
  obtain ⟨k, hk, ho, hos⟩ := hat (by omega) (by omega)
  obtain ⟨v, H', hB, hp⟩ := lock_spec' h hC d hm hloM ⟨hlc.1, hlc.2.1⟩ hk ho
  refine ⟨v, H', ?_, hp⟩
  have hv := hp.1.1
  generalize (lockM m ws (curO m)).1.2 = rr at hv
  rw [hn] at l5
  refine call_of rfl Fn.compact_Machine_Step rfl rfl ?_
  subst hv
  cases rr
  all_goals
   repeat' (first | (show ER _ _ _ _ _ _ _; first | refine .seq ?_ | refine .reg ?_ | refine .yes rfl ?_ | refine .no rfl ?_ | refine .skip ?_ | refine .block ?_ | refine .endB ?_ | refine .exit rfl ?_ | refine .br rfl (fun hc => ?_) (fun hc => ?_) | refine .scope ?_ | refine .inScope ?_ | refine .label ?_ | refine .ret rfl ?_ | refine .nil rfl ?_) | (show EG _ _ _ _ _ _ _ _ _; first | refine .mov rfl rfl ?_ | refine .lload rfl rfl rfl rfl ?_ | refine .laddr rfl rfl rfl ?_ | (show EG _ _ (⟨_, .bin _ _ _, _, _⟩ :: _) _ _ _ _ _ _; first | refine .lss rfl rfl rfl (fun hc => ?_) (fun hc => ?_) | refine .leq rfl rfl rfl (fun hc => ?_) (fun hc => ?_) | refine .gtr rfl rfl rfl (fun hc => ?_) (fun hc => ?_) | refine .geq rfl rfl rfl (fun hc => ?_) (fun hc => ?_) | refine .eqlT rfl rfl rfl (by omega) ?_ | refine .eqlF rfl rfl rfl (by omega) ?_ | refine .neq rfl rfl rfl (fun hc => ?_) (fun hc => ?_)) | refine .load rfl rfl (l5) ?_ | refine .call rfl rfl (hB) ?_ | refine .skip rfl ?_ | refine .fin ?_ | refine .go rfl rfl rfl ?_ | refine .gono rfl rfl rfl ?_ | refine .skipn rfl ?_))
   rfl
 ·rw [if_neg (by omega), if_neg (by omega), if_neg (by omega), if_neg (by omega), if_neg (by omega), if_neg (by omega), if_pos hn]
  obtain ⟨k, hk, ho, hos⟩ := hat (by omega) (by omega)
  have hO := fun lo => object_spec (lo := lo) h hk ho
  have l82 : loadV H none ⟨M, 0 + 82, none⟩ = some (I m.i) := ld_row hr rfl
  obtain ⟨H1, hL, hC1, ho1⟩ := byte_spec hC hlc.1 (w64 ((curO m).o + m.i))
  have h1 := h.chg (Chg.of ho1) d.notP
  have s1 : stN lo H1 ⟨M, 0 + 83, none⟩ (vcells (I (getI bs (w64 ((curO m).o + m.i))))) = some (H1.set M (.row (mrow { m with b := getI bs (w64 ((curO m).o + m.i)) } ov tv) false)) := st_row h1.row hloM (Nat.le_of_ble_eq_true rfl) rfl
  have h2 : McAt (H1.set M (.row (mrow { m with b := getI bs (w64 ((curO m).o + m.i)) } ov tv) false)) own M { m with b := getI bs (w64 ((curO m).o + m.i)) } ov tv := h1.put rfl rfl rfl rfl
  have c2 : Chg own H1 (H1.set M (.row (mrow { m with b := getI bs (w64 ((curO m).o + m.i)) } ov tv) false)) := (Chg.refl _ _).set h.mem
  generalize H1.set M (.row (mrow { m with b := getI bs (w64 ((curO m).o + m.i)) } ov tv) false) = H2 at s1 h2 c2
  have hN := on_spec (lo := lo) h2.row hloM 8
  refine ⟨resV none, _, ?_, PostC.mk2 d ho1 (by simp) hC1 ⟨rfl, own, ov, tv, h2.put (m' := { m with b := getI bs (w64 ((curO m).o + m.i)), next := 8 }) rfl rfl rfl rfl, c2.set h.mem, fun b hb => .inl hb⟩⟩
  rw [hn] at l5
  refine call_of rfl Fn.compact_Machine_Step rfl rfl ?_
  repeat' (first | (show ER _ _ _ _ _ _ _; first | refine .seq ?_ | refine .reg ?_ | refine .yes rfl ?_ | refine .no rfl ?_ | refine .skip ?_ | refine .block ?_ | refine .endB ?_ | refine .exit rfl ?_ | refine .br rfl (fun hc => ?_) (fun hc => ?_) | refine .scope ?_ | refine .inScope ?_ | refine .label ?_ | refine .ret rfl ?_ | refine .nil rfl ?_) | (show EG _ _ _ _ _ _ _ _ _; first | refine .mov rfl rfl ?_ | refine .lload rfl rfl rfl rfl ?_ | refine .laddr rfl rfl rfl ?_ | (show EG _ _ (⟨_, .bin _ _ _, _, _⟩ :: _) _ _ _ _ _ _; first | refine .lss rfl rfl rfl (fun hc => ?_) (fun hc => ?_) | refine .leq rfl rfl rfl (fun hc => ?_) (fun hc => ?_) | refine .gtr rfl rfl rfl (fun hc => ?_) (fun hc => ?_) | refine .geq rfl rfl rfl (fun hc => ?_) (fun hc => ?_) | refine .eqlT rfl rfl rfl (by omega) ?_ | refine .eqlF rfl rfl rfl (by omega) ?_ | refine .neq rfl rfl rfl (fun hc => ?_) (fun hc => ?_)) | refine .load rfl rfl (l5) ?_ | (show EG _ _ (⟨_, .call _ _, _, _⟩ :: _) _ _ _ _ _ _; first | refine .call rfl rfl (hO _) ?_ | refine .call rfl rfl (hN) ?_) | refine .inv rfl rfl rfl rfl (hL) ?_ | refine .store rfl rfl rfl rfl rfl s1 ?_ | refine .loadc rfl rfl l82 (one_take l82) (same_i _) ?_ | refine .skip rfl ?_ | refine .fin ?_ | refine .go rfl rfl rfl ?_ | refine .gono rfl rfl rfl ?_ | refine .skipn rfl ?_))
  rfl
 ·rw [if_neg (by omega), if_neg (by omega), if_neg (by omega), if_neg (by omega), if_neg (by omega), if_neg (by omega), if_neg (by omega), if_pos hn]
  obtain ⟨k, hk, ho, hos⟩ := hat (by omega) (by omega)
  obtain ⟨v, H', hB, hp⟩ := lay_spec h hC d hloM ⟨hlc.1, hlc.2.2⟩ hk ho
  refine ⟨v, H', ?_, hp⟩
  have hv := hp.1.1
  generalize (layM m bs (curO m)).1.2 = rr at hv
  rw [hn] at l5
  refine call_of rfl Fn.compact_Machine_Step rfl rfl ?_
  subst hv
  cases rr
  all_goals
   repeat' (first | (show ER _ _ _ _ _ _ _; first | refine .seq ?_ | refine .reg ?_ | refine .yes rfl ?_ | refine .no rfl ?_ | refine .skip ?_ | refine .block ?_ | refine .endB ?_ | refine .exit rfl ?_ | refine .br rfl (fun hc => ?_) (fun hc => ?_) | refine .scope ?_ | refine .inScope ?_ | refine .label ?_ | refine .ret rfl ?_ | refine .nil rfl ?_) | (show EG _ _ _ _ _ _ _ _ _; first | refine .mov rfl rfl ?_ | refine .lload rfl rfl rfl rfl ?_ | refine .laddr rfl rfl rfl ?_ | (show EG _ _ (⟨_, .bin _ _ _, _, _⟩ :: _) _ _ _ _ _ _; first | refine .lss rfl rfl rfl (fun hc => ?_) (fun hc => ?_) | refine .leq rfl rfl rfl (fun hc => ?_) (fun hc => ?_) | refine .gtr rfl rfl rfl (fun hc => ?_) (fun hc => ?_) | refine .geq rfl rfl rfl (fun hc => ?_) (fun hc => ?_) | refine .eqlT rfl rfl rfl (by omega) ?_ | refine .eqlF rfl rfl rfl (by omega) ?_ | refine .neq rfl rfl rfl (fun hc => ?_) (fun hc => ?_)) | refine .load rfl rfl (l5) ?_ | refine .call rfl rfl (hB) ?_ | refine .skip rfl ?_ | refine .fin ?_ | refine .go rfl rfl rfl ?_ | refine .gono rfl rfl rfl ?_ | refine .skipn rfl ?_))
   rfl
 ·rw [if_neg (by omega), if_neg (by omega), if_neg (by omega), if_neg (by omega), if_neg (by omega), if_neg (by omega), if_neg (by omega), if_neg (by omega), if_pos hn]
  obtain ⟨k, hk, ho, hos⟩ := hat (by omega) (by omega)
  obtain ⟨v, H', hB, hp⟩ := store_spec' h hC d hm hloM ⟨hlc.1, hlc.2.1⟩ hk ho
  refine ⟨v, H', ?_, hp⟩
  have hv := hp.1.1
  generalize (storeM m ws (curO m)).1.2 = rr at hv
  rw [hn] at l5
  refine call_of rfl Fn.compact_Machine_Step rfl rfl ?_
  subst hv
  cases rr
  all_goals
   repeat' (first | (show ER _ _ _ _ _ _ _; first | refine .seq ?_ | refine .reg ?_ | refine .yes rfl ?_ | refine .no rfl ?_ | refine .skip ?_ | refine .block ?_ | refine .endB ?_ | refine .exit rfl ?_ | refine .br rfl (fun hc => ?_) (fun hc => ?_) | refine .scope ?_ | refine .inScope ?_ | refine .label ?_ | refine .ret rfl ?_ | refine .nil rfl ?_) | (show EG _ _ _ _ _ _ _ _ _; first | refine .mov rfl rfl ?_ | refine .lload rfl rfl rfl rfl ?_ | refine .laddr rfl rfl rfl ?_ | (show EG _ _ (⟨_, .bin _ _ _, _, _⟩ :: _) _ _ _ _ _ _; first | refine .lss rfl rfl rfl (fun hc => ?_) (fun hc => ?_) | refine .leq rfl rfl rfl (fun hc => ?_) (fun hc => ?_) | refine .gtr rfl rfl rfl (fun hc => ?_) (fun hc => ?_) | refine .geq rfl rfl rfl (fun hc => ?_) (fun hc => ?_) | refine .eqlT rfl rfl rfl (by omega) ?_ | refine .eqlF rfl rfl rfl (by omega) ?_ | refine .neq rfl rfl rfl (fun hc => ?_) (fun hc => ?_)) | refine .load rfl rfl (l5) ?_ | refine .call rfl rfl (hB) ?_ | refine .skip rfl ?_ | refine .fin ?_ | refine .go rfl rfl rfl ?_ | refine .gono rfl rfl rfl ?_ | refine .skipn rfl ?_))
   rfl
 ·rw [if_neg (by omega), if_neg (by omega), if_neg (by omega), if_neg (by omega), if_neg (by omega), if_neg (by omega), if_neg (by omega), if_neg (by omega), if_neg (by omega), if_pos hn]
  obtain ⟨t, ht⟩ : ∃ t, m.turn = some t := by
   cases hmt : m.turn with
   | none => exact absurd hmt (hw.turn hn)
   | some t => exact ⟨t, rfl⟩
  obtain ⟨v, H', hB, hp⟩ := turn_spec' h ht hC d hm hlo ⟨hlc.1, hlc.2.1⟩
  rw [ht]
  refine ⟨v, H', ?_, hp⟩
  have hv := hp.1.1
  generalize (turnM m t ws).1.2 = rr at hv
  rw [hn] at l5
  refine call_of rfl Fn.compact_Machine_Step rfl rfl ?_
  subst hv
  cases rr
  all_goals
   repeat' (first | (show ER _ _ _ _ _ _ _; first | refine .seq ?_ | refine .reg ?_ | refine .yes rfl ?_ | refine .no rfl ?_ | refine .skip ?_ | refine .block ?_ | refine .endB ?_ | refine .exit rfl ?_ | refine .br rfl (fun hc => ?_) (fun hc => ?_) | refine .scope ?_ | refine .inScope ?_ | refine .label ?_ | refine .ret rfl ?_ | refine .nil rfl ?_) | (show EG _ _ _ _ _ _ _ _ _; first | refine .mov rfl rfl ?_ | refine .lload rfl rfl rfl rfl ?_ | refine .laddr rfl rfl rfl ?_ | (show EG _ _ (⟨_, .bin _ _ _, _, _⟩ :: _) _ _ _ _ _ _; first | refine .lss rfl rfl rfl (fun hc => ?_) (fun hc => ?_) | refine .leq rfl rfl rfl (fun hc => ?_) (fun hc => ?_) | refine .gtr rfl rfl rfl (fun hc => ?_) (fun hc => ?_) | refine .geq rfl rfl rfl (fun hc => ?_) (fun hc => ?_) | refine .eqlT rfl rfl rfl (by omega) ?_ | refine .eqlF rfl rfl rfl (by omega) ?_ | refine .neq rfl rfl rfl (fun hc => ?_) (fun hc => ?_)) | refine .load rfl rfl (l5) ?_ | refine .call rfl rfl (hB) ?_ | refine .skip rfl ?_ | refine .fin ?_ | refine .go rfl rfl rfl ?_ | refine .gono rfl rfl rfl ?_ | refine .skipn rfl ?_))
   rfl
 ·rw [if_neg (by omega), if_neg (by omega), if_neg (by omega), if_neg (by omega), if_neg (by omega), if_neg (by omega), if_neg (by omega), if_neg (by omega), if_neg (by omega), if_neg (by omega)]
  have hF := fun lo => frontier_spec lo H hm
  have l6 : loadV H none ⟨M, 0 + 6, none⟩ = some (I m.top) := ld_row hr rfl
  have l80 : loadV H none ⟨M, 0 + 80, none⟩ = some (I m.dest) := ld_row hr rfl
  obtain ⟨H1, hL, hC1, ho1⟩ := cas_spec hC hlc.1 hlc.2.1 0 m.top m.dest
  have h1 := h.chg (Chg.of ho1) d.notPW
  generalize casB ws 0 m.top = cs at hL hC1
  have s1 : stN lo H1 ⟨M, 0 + 86, none⟩ (vcells (.bool cs)) = some (H1.set M (.row (mrow { m with low := cs } ov tv) false)) := st_row h1.row hloM (Nat.le_of_ble_eq_true rfl) rfl
  have h2 : McAt (H1.set M (.row (mrow { m with low := cs } ov tv) false)) own M { m with low := cs } ov tv := h1.put rfl rfl rfl rfl
  have c2 : Chg own H1 (H1.set M (.row (mrow { m with low := cs } ov tv) false)) := (Chg.refl _ _).set h.mem
  generalize H1.set M (.row (mrow { m with low := cs } ov tv) false) = H2 at s1 h2 c2
  have hN := end_spec (lo := lo) h2.row hloM
  refine ⟨resV (some m.moved), _, ?_, PostC.mk2 d ho1 (by simp) hC1 ⟨rfl, own, ov, tv, h2.put (m' := { m with low := cs, next := 0 }) rfl rfl rfl rfl, c2.set h.mem, fun b hb => .inl hb⟩⟩
  rw [hn] at l5
  refine call_of rfl Fn.compact_Machine_Step rfl rfl ?_
  repeat' (first | (show ER _ _ _ _ _ _ _; first | refine .seq ?_ | refine .reg ?_ | refine .yes rfl ?_ | refine .no rfl ?_ | refine .skip ?_ | refine .block ?_ | refine .endB ?_ | refine .exit rfl ?_ | refine .br rfl (fun hc => ?_) (fun hc => ?_) | refine .scope ?_ | refine .inScope ?_ | refine .label ?_ | refine .ret rfl ?_ | refine .nil rfl ?_) | (show EG _ _ _ _ _ _ _ _ _; first | refine .mov rfl rfl ?_ | refine .lload rfl rfl rfl rfl ?_ | refine .laddr rfl rfl rfl ?_ | (show EG _ _ (⟨_, .bin _ _ _, _, _⟩ :: _) _ _ _ _ _ _; first | refine .lss rfl rfl rfl (fun hc => ?_) (fun hc => ?_) | refine .leq rfl rfl rfl (fun hc => ?_) (fun hc => ?_) | refine .gtr rfl rfl rfl (fun hc => ?_) (fun hc => ?_) | refine .geq rfl rfl rfl (fun hc => ?_) (fun hc => ?_) | refine .eqlT rfl rfl rfl (by omega) ?_ | refine .eqlF rfl rfl rfl (by omega) ?_ | refine .neq rfl rfl rfl (fun hc => ?_) (fun hc => ?_)) | (show EG _ _ (⟨_, .load _ _, _, _⟩ :: _) _ _ _ _ _ _; first | refine .load rfl rfl (l5) ?_ | refine .load rfl rfl (l0) ?_) | (show EG _ _ (⟨_, .call _ _, _, _⟩ :: _) _ _ _ _ _ _; first | refine .call rfl rfl (hF _) ?_ | refine .call rfl rfl (hN) ?_) | refine .inv rfl rfl rfl rfl (hL) ?_ | refine .store rfl rfl rfl rfl rfl s1 ?_ | refine .loadc rfl rfl l6 (one_take l6) (same_i _) ?_ | refine .loadc rfl rfl l80 (one_take l80) (same_i _) ?_ | refine .skip rfl ?_ | refine .fin ?_ | refine .go rfl rfl rfl ?_ | refine .gono rfl rfl rfl ?_ | refine .skipn rfl ?_))
  rfl
end
end Go.Proofs.YtfpfknafcgkcjaaGreat

