/- The document's entries: packed, and sizes rounded. -/
import Derived.Test.YtfpfknafcgkcjaaGreatAloneR
import Derived.Test.YtfpfknafcgkcjaaGreatAloneQ
import Derived.Test.YtfpfknafcgkcjaaGreatAloneU

set_option linter.unusedVariables false
set_option linter.unusedSimpArgs false
namespace Go.Proofs.YtfpfknafcgkcjaaGreat
open Go Go.Ir

theorem shl_u {f : Fr} {call : CallF} {lo : Nat} {h : Heap} {x y : Operand} {n k : Nat} {j : IntKind} (hx : ev f x = some (N n)) (hy : ev f y = some (.int j (k : Nat))) (hk : k ≤ 62) (hb : n * 2 ^ k < 2 ^ 62) : iop call lo (.bin .shl x y) f h = some (N (n * 2 ^ k), h) := by
 simp only [iop, hx, hy, ibin, isShift, if_true, ishift]
 rw [if_neg (by omega)]
 have : min ((k : Int).toNat) IntKind.i64.bits = k := by show min _ 64 = _; omega
 rw [this, show ((n : Int) * 2 ^ k) = ((n * 2 ^ k : Nat) : Int) by simp, wrap64_nat hb]

set_option maxHeartbeats 1600000 in
theorem rmay_spec (lo : Nat) (h : Heap) (e : Ent) : callR En lo Id.sidingsref02_May [.agg e.cs.toArray] h = some (.bool (decide e.may), h) := by
 obtain ⟨o, g, p, u, lk, lv⟩ := e
 have hcs : (Ent.mk o g p u lk lv).cs = [I o, I g, I p, I u, .bool lk, .bool lv] := rfl
 rw [hcs]
 refine call_scr rfl Fn.sidingsref02_May rfl rfl ?_
 cases lk
 all_goals
  cases lv
  all_goals
   repeat' (first | (show ER _ _ _ _ _ _ _; first | refine .seq ?_ | refine .reg ?_ | refine .yes rfl ?_ | refine .no rfl ?_ | refine .skip ?_ | refine .block ?_ | refine .endB ?_ | refine .exit rfl ?_ | refine .br rfl (fun hc => ?_) (fun hc => ?_) | refine .scope ?_ | refine .inScope ?_ | refine .label ?_ | refine .ret rfl ?_ | refine .nil rfl ?_) | (show EG _ _ _ _ _ _ _ _ _; first | refine .mov rfl rfl ?_ | refine .lload rfl rfl rfl rfl ?_ | refine .laddr rfl rfl rfl ?_ | (show EG _ _ (⟨_, .bin _ _ _, _, _⟩ :: _) _ _ _ _ _ _; first | refine .lss rfl rfl rfl (fun hc => ?_) (fun hc => ?_) | refine .leq rfl rfl rfl (fun hc => ?_) (fun hc => ?_) | refine .gtr rfl rfl rfl (fun hc => ?_) (fun hc => ?_) | refine .geq rfl rfl rfl (fun hc => ?_) (fun hc => ?_) | refine .eql rfl rfl rfl (fun hc => ?_) (fun hc => ?_) | refine .neq rfl rfl rfl (fun hc => ?_) (fun hc => ?_)) | refine .skip rfl ?_ | refine .fin ?_ | refine .go rfl rfl rfl ?_ | refine .gono rfl rfl rfl ?_ | refine .skipn rfl ?_))
   all_goals
    refine tidyB ?_
    first
    | (refine (decide_eq_true ?_).symm; unfold Ent.may; simp <;> omega)
    | (refine (decide_eq_false ?_).symm; intro hh; unfold Ent.may at hh; simp at hh <;> omega)

theorem rbit_spec (lo : Nat) (h : Heap) (b : Bool) : callR En lo Id.sidingsref02_bit [.bool b] h = some (N (bitN b), h) := by
 refine call_scr rfl Fn.sidingsref02_bit rfl rfl ?_
 cases b
 all_goals
  repeat' (first | (show ER _ _ _ _ _ _ _; first | refine .seq ?_ | refine .reg ?_ | refine .yes rfl ?_ | refine .no rfl ?_ | refine .skip ?_ | refine .block ?_ | refine .endB ?_ | refine .exit rfl ?_ | refine .br rfl (fun hc => ?_) (fun hc => ?_) | refine .scope ?_ | refine .inScope ?_ | refine .label ?_ | refine .ret rfl ?_ | refine .nil rfl ?_) | (show EG _ _ _ _ _ _ _ _ _; first | refine .mov rfl rfl ?_ | refine .lload rfl rfl rfl rfl ?_ | refine .laddr rfl rfl rfl ?_ | (show EG _ _ (⟨_, .bin _ _ _, _, _⟩ :: _) _ _ _ _ _ _; first | refine .lss rfl rfl rfl (fun hc => ?_) (fun hc => ?_) | refine .leq rfl rfl rfl (fun hc => ?_) (fun hc => ?_) | refine .gtr rfl rfl rfl (fun hc => ?_) (fun hc => ?_) | refine .geq rfl rfl rfl (fun hc => ?_) (fun hc => ?_) | refine .eql rfl rfl rfl (fun hc => ?_) (fun hc => ?_) | refine .neq rfl rfl rfl (fun hc => ?_) (fun hc => ?_)) | refine .skip rfl ?_ | refine .fin ?_ | refine .go rfl rfl rfl ?_ | refine .gono rfl rfl rfl ?_ | refine .skipn rfl ?_))
  rfl

theorem rpack_spec (lo : Nat) (h : Heap) (e : Ent) : callR En lo Id.sidingsref02_Pack [.agg e.cs.toArray] h = some (pkV e, h) := by
 have hE := fun lo => rmay_spec lo h e
 unfold pkV
 by_cases hm : e.may
 ·rw [if_pos hm]
  rw [decide_eq_true hm] at hE
  have hm' := hm
  unfold Ent.may at hm'
  have b4 : bitN e.lk ≤ 1 := by unfold bitN; split <;> decide
  have b5 : bitN e.lv ≤ 1 := by unfold bitN; split <;> decide
  have hB4 := fun lo => rbit_spec lo h e.lk
  have hB5 := fun lo => rbit_spec lo h e.lv
  have i0 : e.o = ((vals e 0 : Nat) : Int) := by simp only [vals]; omega
  have i1 : e.g = ((vals e 1 : Nat) : Int) := by simp only [vals]; omega
  have i2 : e.p = ((vals e 2 : Nat) : Int) := by simp only [vals]; omega
  have i3 : e.u = ((vals e 3 : Nat) : Int) := by simp only [vals]; omega
  have v0 : vals e 0 < 2 ^ 20 := by simp only [vals]; omega
  have v1 : vals e 1 < 2 ^ 20 := by simp only [vals]; omega
  have v2 : vals e 2 < 2 ^ 4 := by simp only [vals]; omega
  have v3 : vals e 3 < 2 ^ 4 := by simp only [vals]; omega
  have hcs : e.cs = [N (vals e 0), N (vals e 1), N (vals e 2), N (vals e 3), .bool e.lk, .bool e.lv] := by
   unfold Ent.cs
   rw [i0, i1, i2, i3]
  have hres : packN e = vals e 0 + vals e 1 * 2 ^ 20 + vals e 2 * 2 ^ 40 + vals e 3 * 2 ^ 44 + bitN e.lk * 2 ^ 48 + bitN e.lv * 2 ^ 49 := rfl
  rw [hres]
  rw [hcs] at hE ⊢
  generalize vals e 0 = a0 at *
  generalize vals e 1 = a1 at *
  generalize vals e 2 = a2 at *
  generalize vals e 3 = a3 at *
  generalize bitN e.lk = a4 at *
  generalize bitN e.lv = a5 at *
  refine call_scr rfl Fn.sidingsref02_Pack rfl rfl ?_
  repeat' (first | (show ER _ _ _ _ _ _ _; first | refine .seq ?_ | refine .reg ?_ | refine .yes rfl ?_ | refine .no rfl ?_ | refine .skip ?_ | refine .block ?_ | refine .endB ?_ | refine .exit rfl ?_ | refine .br rfl (fun hc => ?_) (fun hc => ?_) | refine .scope ?_ | refine .inScope ?_ | refine .label ?_ | refine .ret rfl ?_ | refine .nil rfl ?_) | (show EG _ _ _ _ _ _ _ _ _; first | refine .mov rfl rfl ?_ | refine .lload rfl rfl rfl rfl ?_ | refine .laddr rfl rfl rfl ?_ | (show EG _ _ (⟨_, .bin _ _ _, _, _⟩ :: _) _ _ _ _ _ _; first | refine .lss rfl rfl rfl (fun hc => ?_) (fun hc => ?_) | refine .leq rfl rfl rfl (fun hc => ?_) (fun hc => ?_) | refine .gtr rfl rfl rfl (fun hc => ?_) (fun hc => ?_) | refine .geq rfl rfl rfl (fun hc => ?_) (fun hc => ?_) | refine .eql rfl rfl rfl (fun hc => ?_) (fun hc => ?_) | refine .neq rfl rfl rfl (fun hc => ?_) (fun hc => ?_) | refine .addN rfl rfl rfl (by omega) ?_ | refine .addN (b := 1) rfl rfl rfl (by omega) ?_ | refine .subN rfl rfl rfl (by omega) ?_ | refine .subN (b := 1) rfl rfl rfl (by omega) ?_) | (show EG _ _ (⟨_, .call _ _, _, _⟩ :: _) _ _ _ _ _ _; first | refine .call rfl rfl (hE _) ?_ | refine .call rfl rfl (hB4 _) ?_ | refine .call rfl rfl (hB5 _) ?_) | refine .go rfl (shl_u (k := 20) rfl rfl (by decide) (by omega)) rfl ?_ | refine .go rfl (shl_u (k := 40) rfl rfl (by decide) (by omega)) rfl ?_ | refine .go rfl (shl_u (k := 44) rfl rfl (by decide) (by omega)) rfl ?_ | refine .go rfl (shl_u (k := 48) rfl rfl (by decide) (by omega)) rfl ?_ | refine .go rfl (shl_u (k := 49) rfl rfl (by decide) (by omega)) rfl ?_ | refine .skip rfl ?_ | refine .fin ?_ | refine .go rfl rfl rfl ?_ | refine .gono rfl rfl rfl ?_ | refine .skipn rfl ?_))
  rfl
 ·rw [if_neg hm]
  rw [decide_eq_false hm] at hE
  refine call_scr rfl Fn.sidingsref02_Pack rfl rfl ?_
  repeat' (first | (show ER _ _ _ _ _ _ _; first | refine .seq ?_ | refine .reg ?_ | refine .yes rfl ?_ | refine .no rfl ?_ | refine .skip ?_ | refine .block ?_ | refine .endB ?_ | refine .exit rfl ?_ | refine .br rfl (fun hc => ?_) (fun hc => ?_) | refine .scope ?_ | refine .inScope ?_ | refine .label ?_ | refine .ret rfl ?_ | refine .nil rfl ?_) | (show EG _ _ _ _ _ _ _ _ _; first | refine .mov rfl rfl ?_ | refine .lload rfl rfl rfl rfl ?_ | refine .laddr rfl rfl rfl ?_ | (show EG _ _ (⟨_, .bin _ _ _, _, _⟩ :: _) _ _ _ _ _ _; first | refine .lss rfl rfl rfl (fun hc => ?_) (fun hc => ?_) | refine .leq rfl rfl rfl (fun hc => ?_) (fun hc => ?_) | refine .gtr rfl rfl rfl (fun hc => ?_) (fun hc => ?_) | refine .geq rfl rfl rfl (fun hc => ?_) (fun hc => ?_) | refine .eql rfl rfl rfl (fun hc => ?_) (fun hc => ?_) | refine .neq rfl rfl rfl (fun hc => ?_) (fun hc => ?_)) | refine .call rfl rfl (hE _) ?_ | refine .skip rfl ?_ | refine .fin ?_ | refine .go rfl rfl rfl ?_ | refine .gono rfl rfl rfl ?_ | refine .skipn rfl ?_))
  rfl

theorem rround_spec (lo : Nat) (h : Heap) (n : Int) : callR En lo Id.sidingsref03_Round [I n] h = some (roundV n, h) := by
 refine call_scr rfl Fn.sidingsref03_Round rfl rfl ?_
 unfold roundV
 by_cases hr : 1 ≤ n ∧ n ≤ 256
 ·rw [if_pos hr]
  obtain ⟨k, hk⟩ : ∃ k : Nat, n = k := ⟨n.toNat, by omega⟩
  subst hk
  repeat' (first | (show ER _ _ _ _ _ _ _; first | refine .seq ?_ | refine .reg ?_ | refine .yes rfl ?_ | refine .no rfl ?_ | refine .skip ?_ | refine .block ?_ | refine .endB ?_ | refine .exit rfl ?_ | refine .br rfl (fun hc => ?_) (fun hc => ?_) | refine .scope ?_ | refine .inScope ?_ | refine .label ?_ | refine .ret rfl ?_ | refine .nil rfl ?_) | (show EG _ _ _ _ _ _ _ _ _; first | refine .mov rfl rfl ?_ | refine .lload rfl rfl rfl rfl ?_ | refine .laddr rfl rfl rfl ?_ | (show EG _ _ (⟨_, .bin _ _ _, _, _⟩ :: _) _ _ _ _ _ _; first | refine .lssT rfl rfl rfl (by omega) ?_ | refine .lssF rfl rfl rfl (by omega) ?_ | refine .leq rfl rfl rfl (fun hc => ?_) (fun hc => ?_) | refine .gtrT rfl rfl rfl (by omega) ?_ | refine .gtrF rfl rfl rfl (by omega) ?_ | refine .geq rfl rfl rfl (fun hc => ?_) (fun hc => ?_) | refine .eql rfl rfl rfl (fun hc => ?_) (fun hc => ?_) | refine .neq rfl rfl rfl (fun hc => ?_) (fun hc => ?_)) | refine .skip rfl ?_ | refine .fin ?_ | refine .go rfl rfl rfl ?_ | refine .gono rfl rfl rfl ?_ | refine .skipn rfl ?_))
  refine .loop (fun m f H => H = h ∧ ∃ j : Nat, m + j = (k + 7) / 8 * 8 ∧ k ≤ j ∧ f = [(0, N j)]) (n := (k + 7) / 8 * 8 - k) ⟨rfl, k, by omega, Nat.le_refl _, rfl⟩ ?_
  rintro m f H ⟨rfl, j, hm, hkj, rfl⟩ next
  by_cases hj : j % 8 = 0
  ·have hjr : roundI (k : Int) = (j : Int) := by unfold roundI; omega
   repeat' (first | (show ER _ _ _ _ _ _ _; first | refine .seq ?_ | refine .reg ?_ | refine .yes rfl ?_ | refine .no rfl ?_ | refine .skip ?_ | refine .block ?_ | refine .endB ?_ | refine .exit rfl ?_ | refine .br rfl (fun hc => ?_) (fun hc => ?_) | refine .scope ?_ | refine .inScope ?_ | refine .label ?_ | refine .ret rfl ?_ | refine .nil rfl ?_) | (show EG _ _ _ _ _ _ _ _ _; first | refine .mov rfl rfl ?_ | refine .lload rfl rfl rfl rfl ?_ | refine .laddr rfl rfl rfl ?_ | (show EG _ _ (⟨_, .bin _ _ _, _, _⟩ :: _) _ _ _ _ _ _; first | refine .lss rfl rfl rfl (fun hc => ?_) (fun hc => ?_) | refine .leq rfl rfl rfl (fun hc => ?_) (fun hc => ?_) | refine .gtr rfl rfl rfl (fun hc => ?_) (fun hc => ?_) | refine .geq rfl rfl rfl (fun hc => ?_) (fun hc => ?_) | refine .eql rfl rfl rfl (fun hc => ?_) (fun hc => ?_) | refine .neqT rfl rfl rfl (by omega) ?_ | refine .neqF rfl rfl rfl (by omega) ?_ | refine .addN rfl rfl rfl (by omega) ?_ | refine .addN (b := 1) rfl rfl rfl (by omega) ?_ | refine .subN rfl rfl rfl (by omega) ?_ | refine .subN (b := 1) rfl rfl rfl (by omega) ?_) | refine .remN (b := 8) rfl rfl rfl (by decide) ?_ | refine .skip rfl ?_ | refine .fin ?_ | refine .go rfl rfl rfl ?_ | refine .gono rfl rfl rfl ?_ | refine .skipn rfl ?_))
   rw [hjr]; rfl
  ·repeat' (first | (show ER _ _ _ _ _ _ _; first | refine .seq ?_ | refine .reg ?_ | refine .yes rfl ?_ | refine .no rfl ?_ | refine .skip ?_ | refine .block ?_ | refine .endB ?_ | refine .exit rfl ?_ | refine .br rfl (fun hc => ?_) (fun hc => ?_) | refine .scope ?_ | refine .inScope ?_ | refine .label ?_ | refine .ret rfl ?_ | refine .nil rfl ?_) | (show EG _ _ _ _ _ _ _ _ _; first | refine .mov rfl rfl ?_ | refine .lload rfl rfl rfl rfl ?_ | refine .laddr rfl rfl rfl ?_ | (show EG _ _ (⟨_, .bin _ _ _, _, _⟩ :: _) _ _ _ _ _ _; first | refine .lss rfl rfl rfl (fun hc => ?_) (fun hc => ?_) | refine .leq rfl rfl rfl (fun hc => ?_) (fun hc => ?_) | refine .gtr rfl rfl rfl (fun hc => ?_) (fun hc => ?_) | refine .geq rfl rfl rfl (fun hc => ?_) (fun hc => ?_) | refine .eql rfl rfl rfl (fun hc => ?_) (fun hc => ?_) | refine .neqT rfl rfl rfl (by omega) ?_ | refine .neqF rfl rfl rfl (by omega) ?_ | refine .addN rfl rfl rfl (by omega) ?_ | refine .addN (b := 1) rfl rfl rfl (by omega) ?_ | refine .subN rfl rfl rfl (by omega) ?_ | refine .subN (b := 1) rfl rfl rfl (by omega) ?_) | refine .remN (b := 8) rfl rfl rfl (by decide) ?_ | refine .skip rfl ?_ | refine .fin ?_ | refine .go rfl rfl rfl ?_ | refine .gono rfl rfl rfl ?_ | refine .skipn rfl ?_))
   exact next (m - 1) _ _ (by omega) ⟨rfl, j + 1, by omega, by omega, rfl⟩
 ·rw [if_neg hr]
  repeat' (first | (show ER _ _ _ _ _ _ _; first | refine .seq ?_ | refine .reg ?_ | refine .yes rfl ?_ | refine .no rfl ?_ | refine .skip ?_ | refine .block ?_ | refine .endB ?_ | refine .exit rfl ?_ | refine .br rfl (fun hc => ?_) (fun hc => ?_) | refine .scope ?_ | refine .inScope ?_ | refine .label ?_ | refine .ret rfl ?_ | refine .nil rfl ?_) | (show EG _ _ _ _ _ _ _ _ _; first | refine .mov rfl rfl ?_ | refine .lload rfl rfl rfl rfl ?_ | refine .laddr rfl rfl rfl ?_ | (show EG _ _ (⟨_, .bin _ _ _, _, _⟩ :: _) _ _ _ _ _ _; first | refine .lss rfl rfl rfl (fun hc => ?_) (fun hc => ?_) | refine .leq rfl rfl rfl (fun hc => ?_) (fun hc => ?_) | refine .gtr rfl rfl rfl (fun hc => ?_) (fun hc => ?_) | refine .geq rfl rfl rfl (fun hc => ?_) (fun hc => ?_) | refine .eql rfl rfl rfl (fun hc => ?_) (fun hc => ?_) | refine .neq rfl rfl rfl (fun hc => ?_) (fun hc => ?_)) | refine .skip rfl ?_ | refine .fin ?_ | refine .go rfl rfl rfl ?_ | refine .gono rfl rfl rfl ?_ | refine .skipn rfl ?_))
  all_goals first | rfl | (exfalso; omega)
end Go.Proofs.YtfpfknafcgkcjaaGreat

/- Objects, laid in cells. -/
set_option linter.unusedVariables false
set_option linter.unusedSimpArgs false
namespace Go.Proofs.YtfpfknafcgkcjaaGreat
open Go Go.Ir

structure Th where
 z : Int
 f : Int
 g : Int
 p : Int
def Th.cs (t : Th) : List Value := [I t.z, I t.f, I t.g, I t.p]
def tcs (l : List Th) : List (List Value) := l.map Th.cs
theorem tcs_length (l : List Th) : (tcs l).length = l.length := by simp [tcs]
theorem tcs_get {l : List Th} {i : Nat} {x : Th} (h : l[i]? = some x) : (tcs l)[i]? = some x.cs := by simp [tcs, h]

def fillB (bs : List Int) (a : Nat) (f : Int) : Nat → List Int
 | 0 => bs
 | k + 1 => setI (fillB bs a f k) ((a + k : Nat) : Int) (byteI (w64 (f + (k : Nat))))

structure LaySt where
 a : Nat
 ws : List Int
 bs : List Int
 ob : List Obj

def okTh (A a : Nat) (t : Th) : Prop := 1 ≤ t.z ∧ t.z ≤ 256 ∧ 0 ≤ t.g ∧ t.g ≤ 100 ∧ 0 ≤ t.p ∧ t.p ≤ 7 ∧ (a : Int) + 8 * t.g + roundI t.z ≤ A
instance (A a : Nat) (t : Th) : Decidable (okTh A a t) := by unfold okTh; infer_instance
def entTh (a i : Nat) (t : Th) : Ent := ⟨(a : Int) + 8 * t.g, i, t.p, 0, false, true⟩
def layOne (A T i : Nat) (t : Th) (s : LaySt) : LaySt :=
 ⟨s.a + 8 * t.g.toNat + (roundI t.z).toNat, setI (setI s.ws ((4 + T + 3 * i : Nat) : Int) (packN (entTh s.a i t) : Nat)) ((5 + T + 3 * i : Nat) : Int) t.z, fillB s.bs (s.a + 8 * t.g.toNat) t.f (roundI t.z).toNat,
   s.ob ++ [⟨i, (s.a : Int) + 8 * t.g, roundI t.z, decide (0 < t.p)⟩]⟩
def layAll (A T : Nat) : List Th → Nat → LaySt → Option LaySt
 | [], _, s => some s
 | t :: r, i, s => if okTh A s.a t then layAll A T r (i + 1) (layOne A T i t s) else none
def layR (A S T : Nat) (l : List Th) (tail : Int) (ws bs : List Int) : Option LaySt :=
 if l.length ≤ S ∧ 0 ≤ tail ∧ tail ≤ 100 then (layAll A T l 0 ⟨0, ws, bs, []⟩).map fun s => { s with ws := setI s.ws 0 (min ((s.a : Int) + 8 * tail) A) } else none

theorem th_cells {h : Heap} {v : Value} {l : List Th} (hv : Sl h 4 v (tcs l)) (h0 : 0 < l.length) : ∃ a cap, v = .slice (some a) l.length cap ∧ ∀ (i : Nat) (t : Th), l[i]? = some t →
  loadV h none ⟨a.block, a.off + i * 4 + 0, none⟩ = some (I t.z) ∧ loadV h none ⟨a.block, a.off + i * 4 + 1, none⟩ = some (I t.f) ∧ loadV h none ⟨a.block, a.off + i * 4 + 2, none⟩ = some (I t.g) ∧ loadV h none ⟨a.block, a.off + i * 4 + 3, none⟩ = some (I t.p) := by
 obtain ⟨a, cap, h1, h2⟩ := hv.row (fun e => by have := congrArg List.length e; rw [tcs_length, List.length_nil] at this; omega)
 rw [tcs_length] at h1
 refine ⟨a, cap, h1, fun i t ht => ?_⟩
 have g := (h2 i _ (tcs_get ht)).1
 exact ⟨g 0 _ rfl, g 1 _ rfl, g 2 _ rfl, g 3 _ rfl⟩

theorem Out.only {lo n : Nat} {H H' : Heap} {v : Value} {es : List (List Value)} {S : List Nat} (o : Out H lo n v es) (h : Only S H H') (hS : ∀ b ∈ S, b < lo) : Out H' lo n v es := by
 refine ⟨o.1, ?_⟩
 rcases o.2 with h1 | ⟨h0, b, h1, h2, h3⟩
 ·exact .inl h1
 ·exact .inr ⟨h0, b, h1, h2, by rw [h.same b (fun hb => by have := hS b hb; omega)]; exact h3⟩

def Kept (cb : CB) (h H : Heap) : Prop := h.length ≤ H.length ∧ ∀ i, i < h.length → i ∉ [cb.P, cb.W, cb.Y] → H[i]? = h[i]?
theorem Kept.refl (cb : CB) (h : Heap) : Kept cb h h := ⟨Nat.le_refl _, fun _ _ _ => rfl⟩
theorem Kept.only {cb : CB} {h H H' : Heap} {S : List Nat} (k : Kept cb h H) (o : Only S H H') (hS : ∀ b ∈ S, b ∈ [cb.P, cb.W, cb.Y]) : Kept cb h H' := ⟨by rw [o.len]; exact k.1, fun i hi hn => (o.same i fun hm => hn (hS i hm)).trans (k.2 i hi hn)⟩
theorem Kept.ext {cb : CB} {h H H' : Heap} (k : Kept cb h H) (e : Ext H H') : Kept cb h H' := ⟨Nat.le_trans k.1 e.1, fun i hi hn => (e.2 i (Nat.lt_of_lt_of_le hi k.1)).trans (k.2 i hi hn)⟩
theorem Kept.sl {cb : CB} {h H : Heap} (k : Kept cb h H) {n : Nat} {v : Value} {es : List (List Value)} (s : Sl h n v es) (hv : ∀ a len cap, v = .slice (some a) len cap → a.block ∉ [cb.P, cb.W, cb.Y]) : Sl H n v es := by
 refine ⟨s.1, ?_⟩
 rcases s.2 with h1 | ⟨a, cap, h1, h2⟩
 ·exact .inl h1
 ·refine .inr ⟨a, cap, h1, ?_⟩
  obtain ⟨cs, ro, hb, h3, h4⟩ := ldN_some h2
  have : H[a.block]? = some (.row cs ro) := by rw [k.2 _ (hlt_of hb) (hv _ _ _ h1)]; exact hb
  rw [ldN_of this h3, h4]

theorem entTh_may {A a i : Nat} {t : Th} (h : okTh A a t) (hA : A ≤ 4096) (hi : i ≤ 1000) : (entTh a i t).may := by
 unfold okTh at h
 unfold entTh Ent.may
 have : 0 ≤ roundI t.z := by unfold roundI; omega
 simp
 omega
end Go.Proofs.YtfpfknafcgkcjaaGreat

/- Objects, laid in cells: the run. -/
set_option linter.unusedVariables false
set_option linter.unusedSimpArgs false
namespace Go.Proofs.YtfpfknafcgkcjaaGreat
open Go Go.Ir

theorem ld_same {h H : Heap} {a : Addr} {n : Option Nat} (e : H[a.block]? = h[a.block]?) : loadV H n a = loadV h n a := by
 cases n <;> simp only [loadV, ld1, ldN, hrow, e]

def LayQ (cb : CB) (h : Heap) (r : Option LaySt) (u : Value) (H' : Heap) : Prop :=
 match r with
 | none => u = .tuple #[.slice none 0 0, .bool false]
 | some s => ∃ ov, u = .tuple #[ov, .bool true] ∧ IsC H' cb s.ws s.bs ∧ Sl H' 4 ov (css s.ob) ∧ Kept cb h H' ∧ (s.ob = [] → ov = .slice none 0 0) ∧ ∀ a len cap, ov = .slice (some a) len cap → h.length ≤ a.block

set_option maxHeartbeats 6400000 in
theorem lay_spec' {cb : CB} {h : Heap} {v : Value} {l : List Th} {A S T : Nat} {tail : Int} {ws bs : List Int} (hm : Cfg.may ⟨A, S, T⟩) (hC : IsC h cb ws bs) (hv : Sl h 4 v (tcs l)) (hvb : 0 < l.length → ∀ a len cap, v = .slice (some a) len cap → a.block ∉ [cb.P, cb.W, cb.Y])
  (hl : l.length ≤ 20) : ∃ u H', callR En 0 Id.sidingslaw18_lay [ptrC cb, .agg #[N A, N S, N T], v, I tail] h = some (u, H') ∧ LayQ cb h (layR A S T l tail ws bs) u H' := by
 have hPl := hlt_of hC.p.choose_spec
 have hWl := hlt_of hC.w
 have hYl := hlt_of hC.y
 refine call_ex rfl Fn.sidingslaw18_lay rfl rfl ?_
 refine Exists.elim hv.len fun base hq => Exists.elim hq fun cap hve => ?_
 rw [tcs_length] at hve
 unfold Cfg.may at hm
 simp only at hm
 unfold layR
 by_cases hg1 : l.length ≤ S
 ·by_cases hg2 : tail < 0
  ·rw [if_neg (by omega)]
   subst hve
   repeat' (first | (show ER _ _ _ _ _ _ _; first | refine .seq ?_ | refine .reg ?_ | refine .yes rfl ?_ | refine .no rfl ?_ | refine .skip ?_ | refine .block ?_ | refine .endB ?_ | refine .exit rfl ?_ | refine .br rfl (fun hc => ?_) (fun hc => ?_) | refine .scope ?_ | refine .inScope ?_ | refine .label ?_ | refine .ret rfl ?_ | refine .nil rfl ?_) | (show EG _ _ _ _ _ _ _ _ _; first | refine .mov rfl rfl ?_ | refine .lload rfl rfl rfl rfl ?_ | refine .laddr rfl rfl rfl ?_ | (show EG _ _ (⟨_, .bin _ _ _, _, _⟩ :: _) _ _ _ _ _ _; first | refine .lssT rfl rfl rfl (by omega) ?_ | refine .lssF rfl rfl rfl (by omega) ?_ | refine .leq rfl rfl rfl (fun hc => ?_) (fun hc => ?_) | refine .gtrT rfl rfl rfl (by omega) ?_ | refine .gtrF rfl rfl rfl (by omega) ?_ | refine .geq rfl rfl rfl (fun hc => ?_) (fun hc => ?_) | refine .eql rfl rfl rfl (fun hc => ?_) (fun hc => ?_) | refine .neq rfl rfl rfl (fun hc => ?_) (fun hc => ?_)) | refine .skip rfl ?_ | refine .fin ?_ | refine .go rfl rfl rfl ?_ | refine .gono rfl rfl rfl ?_ | refine .skipn rfl ?_))
   rfl
  ·by_cases hg3 : 100 < tail
   ·rw [if_neg (by omega)]
    subst hve
    repeat' (first | (show ER _ _ _ _ _ _ _; first | refine .seq ?_ | refine .reg ?_ | refine .yes rfl ?_ | refine .no rfl ?_ | refine .skip ?_ | refine .block ?_ | refine .endB ?_ | refine .exit rfl ?_ | refine .br rfl (fun hc => ?_) (fun hc => ?_) | refine .scope ?_ | refine .inScope ?_ | refine .label ?_ | refine .ret rfl ?_ | refine .nil rfl ?_) | (show EG _ _ _ _ _ _ _ _ _; first | refine .mov rfl rfl ?_ | refine .lload rfl rfl rfl rfl ?_ | refine .laddr rfl rfl rfl ?_ | (show EG _ _ (⟨_, .bin _ _ _, _, _⟩ :: _) _ _ _ _ _ _; first | refine .lssT rfl rfl rfl (by omega) ?_ | refine .lssF rfl rfl rfl (by omega) ?_ | refine .leq rfl rfl rfl (fun hc => ?_) (fun hc => ?_) | refine .gtrT rfl rfl rfl (by omega) ?_ | refine .gtrF rfl rfl rfl (by omega) ?_ | refine .geq rfl rfl rfl (fun hc => ?_) (fun hc => ?_) | refine .eql rfl rfl rfl (fun hc => ?_) (fun hc => ?_) | refine .neq rfl rfl rfl (fun hc => ?_) (fun hc => ?_)) | refine .skip rfl ?_ | refine .fin ?_ | refine .go rfl rfl rfl ?_ | refine .gono rfl rfl rfl ?_ | refine .skipn rfl ?_))
    rfl
   ·rw [if_pos ⟨hg1, by omega, by omega⟩]
    refine Exists.elim (show ∃ tl : Nat, tail = tl from ⟨tail.toNat, by omega⟩) fun tl htl => ?_
    subst htl
    have hTc : 0 < l.length → ∃ a, base = some a ∧ a.block ∉ [cb.P, cb.W, cb.Y] ∧ a.block < h.length ∧ ∀ (i : Nat) (t : Th), l[i]? = some t → loadV h none ⟨a.block, a.off + i * 4 + 0, none⟩ = some (I t.z) ∧ loadV h none ⟨a.block, a.off + i * 4 + 1, none⟩ = some (I t.f) ∧ loadV h none ⟨a.block, a.off + i * 4 + 2, none⟩ = some (I t.g) ∧ loadV h none ⟨a.block, a.off + i * 4 + 3, none⟩ = some (I t.p) := fun h0 => by
     obtain ⟨a, cap', hva, hld⟩ := th_cells hv h0
     rw [hve] at hva
     injection hva with e1 e2 e3
     refine ⟨a, e1, hvb h0 a _ _ (by rw [hve, e1]), ?_, hld⟩
     have := (hld 0 _ (List.getElem?_eq_getElem h0)).1
     simp only [loadV, ld1, hrow] at this
     exact Decidable.byContradiction fun hn => by
      rw [List.getElem?_eq_none (by omega)] at this
      cases this
    subst hve
    repeat' (first | (show ER _ _ _ _ _ _ _; first | refine .seq ?_ | refine .reg ?_ | refine .yes rfl ?_ | refine .no rfl ?_ | refine .skip ?_ | refine .block ?_ | refine .endB ?_ | refine .exit rfl ?_ | refine .br rfl (fun hc => ?_) (fun hc => ?_) | refine .scope ?_ | refine .inScope ?_ | refine .label ?_ | refine .ret rfl ?_ | refine .nil rfl ?_) | (show EG _ _ _ _ _ _ _ _ _; first | refine .mov rfl rfl ?_ | refine .lload rfl rfl rfl rfl ?_ | refine .laddr rfl rfl rfl ?_ | (show EG _ _ (⟨_, .bin _ _ _, _, _⟩ :: _) _ _ _ _ _ _; first | refine .lssT rfl rfl rfl (by omega) ?_ | refine .lssF rfl rfl rfl (by omega) ?_ | refine .leq rfl rfl rfl (fun hc => ?_) (fun hc => ?_) | refine .gtrT rfl rfl rfl (by omega) ?_ | refine .gtrF rfl rfl rfl (by omega) ?_ | refine .geq rfl rfl rfl (fun hc => ?_) (fun hc => ?_) | refine .eql rfl rfl rfl (fun hc => ?_) (fun hc => ?_) | refine .neq rfl rfl rfl (fun hc => ?_) (fun hc => ?_)) | refine .skip rfl ?_ | refine .fin ?_ | refine .go rfl rfl rfl ?_ | refine .gono rfl rfl rfl ?_ | refine .skipn rfl ?_))
    refine .loop (fun n f H => ∃ (i : Nat) (s : LaySt) (o : Value), n + i = l.length ∧ f = [(0, ptrC cb), (2, .slice base l.length cap), (3, N tl), (5, .agg #[N A, N S, N T]), (10, o), (11, N s.a), (12, N i)] ∧ IsC H cb s.ws s.bs ∧ Kept cb h H ∧ Out H h.length 4 o (css s.ob) ∧ s.a ≤ A ∧ s.ob.length = i ∧
      layAll A T l 0 ⟨0, ws, bs, []⟩ = layAll A T (l.drop i) i s) (n := l.length)
     ⟨0, ⟨0, ws, bs, []⟩, _, rfl, rfl, hC, .refl _ _, Out.nil _ _ _, Nat.zero_le _, rfl, rfl⟩ ?_
    rintro n f H ⟨i, s, o, hn, rfl, hCs, hk, ho, hsa, hob, hres⟩ next
    by_cases hi : i < l.length
    ·have hgi : l[i]? = some l[i] := List.getElem?_eq_getElem hi
     have hd : l.drop i = l[i] :: l.drop (i + 1) := List.drop_eq_getElem_cons hi
     generalize l[i] = t at hgi hd
     rw [hd, layAll] at hres
     refine Exists.elim (hTc (by omega)) fun a hq => ?_
     have hab := hq.1
     have hld := hq.2.2.2 i t hgi
     have hkeep : ∀ {H' : Heap}, Kept cb h H' → H'[a.block]? = h[a.block]? := fun {H'} k => k.2 _ hq.2.2.1 hq.2.1
     clear hTc hq
     subst hab
     have L0 : ∀ {H' : Heap}, Kept cb h H' → loadV H' none ⟨a.block, a.off + i * 4 + 0, none⟩ = some (I t.z) := fun k => (ld_same (a := ⟨a.block, a.off + i * 4 + 0, none⟩) (hkeep k)).trans hld.1
     have L1 : ∀ {H' : Heap}, Kept cb h H' → loadV H' none ⟨a.block, a.off + i * 4 + 1, none⟩ = some (I t.f) := fun k => (ld_same (a := ⟨a.block, a.off + i * 4 + 1, none⟩) (hkeep k)).trans hld.2.1
     have L2 : ∀ {H' : Heap}, Kept cb h H' → loadV H' none ⟨a.block, a.off + i * 4 + 2, none⟩ = some (I t.g) := fun k => (ld_same (a := ⟨a.block, a.off + i * 4 + 2, none⟩) (hkeep k)).trans hld.2.2.1
     have L3 : ∀ {H' : Heap}, Kept cb h H' → loadV H' none ⟨a.block, a.off + i * 4 + 3, none⟩ = some (I t.p) := fun k => (ld_same (a := ⟨a.block, a.off + i * 4 + 3, none⟩) (hkeep k)).trans hld.2.2.2
     have hR := fun lo => rround_spec lo H t.z
     unfold roundV at hR
     have fail : ¬ okTh A s.a t → ∀ H', LayQ cb h ((layAll A T l 0 ⟨0, ws, bs, []⟩).map fun s => { s with ws := setI s.ws 0 (min ((s.a : Int) + 8 * (tl : Int)) A) }) (.tuple #[.slice none 0 0, .bool false]) H' := fun hno H' => by
      rw [hres, if_neg hno]; exact rfl
     have l0 := L0 hk
     have l2 := L2 hk
     have l3 := L3 hk
     by_cases h1 : 1 ≤ t.z ∧ t.z ≤ 256
     ·rw [if_pos h1] at hR
      by_cases h2a : t.g < 0
      ·repeat' (first | (show ER _ _ _ _ _ _ _; first | refine .seq ?_ | refine .reg ?_ | refine .yes rfl ?_ | refine .no rfl ?_ | refine .skip ?_ | refine .block ?_ | refine .endB ?_ | refine .exit rfl ?_ | refine .br rfl (fun hc => ?_) (fun hc => ?_) | refine .scope ?_ | refine .inScope ?_ | refine .label ?_ | refine .ret rfl ?_ | refine .nil rfl ?_) | (show EG _ _ _ _ _ _ _ _ _; first | refine .mov rfl rfl ?_ | refine .lload rfl rfl rfl rfl ?_ | refine .laddr rfl rfl rfl ?_ | (show EG _ _ (⟨_, .bin _ _ _, _, _⟩ :: _) _ _ _ _ _ _; first | refine .lssT rfl rfl rfl (by omega) ?_ | refine .lssF rfl rfl rfl (by omega) ?_ | refine .leq rfl rfl rfl (fun hc => ?_) (fun hc => ?_) | refine .gtrT rfl rfl rfl (by omega) ?_ | refine .gtrF rfl rfl rfl (by omega) ?_ | refine .geq rfl rfl rfl (fun hc => ?_) (fun hc => ?_) | refine .eql rfl rfl rfl (fun hc => ?_) (fun hc => ?_) | refine .neqT rfl rfl rfl (by omega) ?_ | refine .neqF rfl rfl rfl (by omega) ?_) | (show EG _ _ (⟨_, .load _ _, _, _⟩ :: _) _ _ _ _ _ _; first | refine .load rfl rfl (l0) ?_ | refine .load rfl rfl (l2) ?_ | refine .load rfl rfl (l3) ?_) | refine .call rfl rfl (hR _) ?_ | refine .iaddr rfl rfl rfl (hi) ?_ | refine .skip rfl ?_ | refine .fin ?_ | refine .go rfl rfl rfl ?_ | refine .gono rfl rfl rfl ?_ | refine .skipn rfl ?_))
       exact fail (by unfold okTh; omega) _
      ·by_cases h2b : 100 < t.g
       ·repeat' (first | (show ER _ _ _ _ _ _ _; first | refine .seq ?_ | refine .reg ?_ | refine .yes rfl ?_ | refine .no rfl ?_ | refine .skip ?_ | refine .block ?_ | refine .endB ?_ | refine .exit rfl ?_ | refine .br rfl (fun hc => ?_) (fun hc => ?_) | refine .scope ?_ | refine .inScope ?_ | refine .label ?_ | refine .ret rfl ?_ | refine .nil rfl ?_) | (show EG _ _ _ _ _ _ _ _ _; first | refine .mov rfl rfl ?_ | refine .lload rfl rfl rfl rfl ?_ | refine .laddr rfl rfl rfl ?_ | (show EG _ _ (⟨_, .bin _ _ _, _, _⟩ :: _) _ _ _ _ _ _; first | refine .lssT rfl rfl rfl (by omega) ?_ | refine .lssF rfl rfl rfl (by omega) ?_ | refine .leq rfl rfl rfl (fun hc => ?_) (fun hc => ?_) | refine .gtrT rfl rfl rfl (by omega) ?_ | refine .gtrF rfl rfl rfl (by omega) ?_ | refine .geq rfl rfl rfl (fun hc => ?_) (fun hc => ?_) | refine .eql rfl rfl rfl (fun hc => ?_) (fun hc => ?_) | refine .neqT rfl rfl rfl (by omega) ?_ | refine .neqF rfl rfl rfl (by omega) ?_) | (show EG _ _ (⟨_, .load _ _, _, _⟩ :: _) _ _ _ _ _ _; first | refine .load rfl rfl (l0) ?_ | refine .load rfl rfl (l2) ?_ | refine .load rfl rfl (l3) ?_) | refine .call rfl rfl (hR _) ?_ | refine .iaddr rfl rfl rfl (hi) ?_ | refine .skip rfl ?_ | refine .fin ?_ | refine .go rfl rfl rfl ?_ | refine .gono rfl rfl rfl ?_ | refine .skipn rfl ?_))
        exact fail (by unfold okTh; omega) _
       ·by_cases h3a : t.p < 0
        ·repeat' (first | (show ER _ _ _ _ _ _ _; first | refine .seq ?_ | refine .reg ?_ | refine .yes rfl ?_ | refine .no rfl ?_ | refine .skip ?_ | refine .block ?_ | refine .endB ?_ | refine .exit rfl ?_ | refine .br rfl (fun hc => ?_) (fun hc => ?_) | refine .scope ?_ | refine .inScope ?_ | refine .label ?_ | refine .ret rfl ?_ | refine .nil rfl ?_) | (show EG _ _ _ _ _ _ _ _ _; first | refine .mov rfl rfl ?_ | refine .lload rfl rfl rfl rfl ?_ | refine .laddr rfl rfl rfl ?_ | (show EG _ _ (⟨_, .bin _ _ _, _, _⟩ :: _) _ _ _ _ _ _; first | refine .lssT rfl rfl rfl (by omega) ?_ | refine .lssF rfl rfl rfl (by omega) ?_ | refine .leq rfl rfl rfl (fun hc => ?_) (fun hc => ?_) | refine .gtrT rfl rfl rfl (by omega) ?_ | refine .gtrF rfl rfl rfl (by omega) ?_ | refine .geq rfl rfl rfl (fun hc => ?_) (fun hc => ?_) | refine .eql rfl rfl rfl (fun hc => ?_) (fun hc => ?_) | refine .neqT rfl rfl rfl (by omega) ?_ | refine .neqF rfl rfl rfl (by omega) ?_) | (show EG _ _ (⟨_, .load _ _, _, _⟩ :: _) _ _ _ _ _ _; first | refine .load rfl rfl (l0) ?_ | refine .load rfl rfl (l2) ?_ | refine .load rfl rfl (l3) ?_) | refine .call rfl rfl (hR _) ?_ | refine .iaddr rfl rfl rfl (hi) ?_ | refine .skip rfl ?_ | refine .fin ?_ | refine .go rfl rfl rfl ?_ | refine .gono rfl rfl rfl ?_ | refine .skipn rfl ?_))
         exact fail (by unfold okTh; omega) _
        ·by_cases h3b : 7 < t.p
         ·repeat' (first | (show ER _ _ _ _ _ _ _; first | refine .seq ?_ | refine .reg ?_ | refine .yes rfl ?_ | refine .no rfl ?_ | refine .skip ?_ | refine .block ?_ | refine .endB ?_ | refine .exit rfl ?_ | refine .br rfl (fun hc => ?_) (fun hc => ?_) | refine .scope ?_ | refine .inScope ?_ | refine .label ?_ | refine .ret rfl ?_ | refine .nil rfl ?_) | (show EG _ _ _ _ _ _ _ _ _; first | refine .mov rfl rfl ?_ | refine .lload rfl rfl rfl rfl ?_ | refine .laddr rfl rfl rfl ?_ | (show EG _ _ (⟨_, .bin _ _ _, _, _⟩ :: _) _ _ _ _ _ _; first | refine .lssT rfl rfl rfl (by omega) ?_ | refine .lssF rfl rfl rfl (by omega) ?_ | refine .leq rfl rfl rfl (fun hc => ?_) (fun hc => ?_) | refine .gtrT rfl rfl rfl (by omega) ?_ | refine .gtrF rfl rfl rfl (by omega) ?_ | refine .geq rfl rfl rfl (fun hc => ?_) (fun hc => ?_) | refine .eql rfl rfl rfl (fun hc => ?_) (fun hc => ?_) | refine .neqT rfl rfl rfl (by omega) ?_ | refine .neqF rfl rfl rfl (by omega) ?_) | (show EG _ _ (⟨_, .load _ _, _, _⟩ :: _) _ _ _ _ _ _; first | refine .load rfl rfl (l0) ?_ | refine .load rfl rfl (l2) ?_ | refine .load rfl rfl (l3) ?_) | refine .call rfl rfl (hR _) ?_ | refine .iaddr rfl rfl rfl (hi) ?_ | refine .skip rfl ?_ | refine .fin ?_ | refine .go rfl rfl rfl ?_ | refine .gono rfl rfl rfl ?_ | refine .skipn rfl ?_))
          exact fail (by unfold okTh; omega) _
         ·refine Exists.elim (show ∃ z g p r : Nat, t.z = z ∧ t.g = g ∧ t.p = p ∧ roundI t.z = r ∧ r ≤ 256 from ⟨t.z.toNat, t.g.toNat, t.p.toNat, (roundI t.z).toNat, by omega, by omega, by omega, by unfold roundI; omega, by unfold roundI; omega⟩) fun z hq => Exists.elim hq fun g hq => Exists.elim hq fun p hq => Exists.elim hq fun r hq => ?_
          have hz := hq.1
          have hg := hq.2.1
          have hp := hq.2.2.1
          have hr := hq.2.2.2.1
          have hr256 := hq.2.2.2.2
          clear hq
          have hR : ∀ lo, callR En lo Id.sidingsref03_Round [N z] H = some (.tuple #[N r, I 0], H) := fun lo => by
           have := hR lo
           rw [hr, hz] at this
           exact this
          have l0 : loadV H none ⟨a.block, a.off + i * 4 + 0, none⟩ = some (N z) := by rw [l0, hz]
          have l2 : loadV H none ⟨a.block, a.off + i * 4 + 2, none⟩ = some (N g) := by rw [l2, hg]
          have l3 : loadV H none ⟨a.block, a.off + i * 4 + 3, none⟩ = some (N p) := by rw [l3, hp]
          by_cases h4 : s.a + 8 * g + r ≤ A
          ·have hok : okTh A s.a t := by unfold okTh; omega
           rw [if_pos hok] at hres
           have hem := entTh_may (i := i) hok (by omega) (by omega)
           have hP := fun lo => rpack_spec lo H (entTh s.a i t)
           unfold pkV at hP
           rw [if_pos hem] at hP
           have hecs : (entTh s.a i t).cs = [N (s.a + 8 * g), N i, N p, I 0, .bool false, .bool true] := by
            unfold entTh Ent.cs
            simp only
            rw [hg, hp]; rfl
           rw [hecs] at hP
           generalize hpk : packN (entTh s.a i t) = pk at hP
           refine Exists.elim (store_spec (lo := 0) hCs (Nat.zero_le _) (Nat.zero_le _) ((4 + T + 3 * i : Nat) : Int) (pk : Nat)) fun H1 hq => ?_
           have hS1 := hq.1
           have hC1 := hq.2.1
           have hk1 := hk.only hq.2.2 (by simp)
           have ho1 := Out.only ho hq.2.2 (by simp; omega)
           clear hq
           have m0 : loadV H1 none ⟨a.block, a.off + i * 4 + 0, none⟩ = some (N z) := by rw [L0 hk1, hz]
           refine Exists.elim (store_spec (lo := 0) hC1 (Nat.zero_le _) (Nat.zero_le _) ((5 + T + 3 * i : Nat) : Int) (z : Nat)) fun H2 hq => ?_
           have hS2 := hq.1
           have hC2 := hq.2.1
           have hk2 := hk1.only hq.2.2 (by simp)
           have ho2 := Out.only ho1 hq.2.2 (by simp; omega)
           clear hq
           repeat' (first | (show ER _ _ _ _ _ _ _; first | refine .seq ?_ | refine .reg ?_ | refine .yes rfl ?_ | refine .no rfl ?_ | refine .skip ?_ | refine .block ?_ | refine .endB ?_ | refine .exit rfl ?_ | refine .br rfl (fun hc => ?_) (fun hc => ?_) | refine .scope ?_ | refine .inScope ?_ | refine .label ?_ | refine .ret rfl ?_ | refine .nil rfl ?_) | (show EG _ _ _ _ _ _ _ _ _; first | refine .mov rfl rfl ?_ | refine .lload rfl rfl rfl rfl ?_ | refine .laddr rfl rfl rfl ?_ | (show EG _ _ (⟨_, .bin _ _ _, _, _⟩ :: _) _ _ _ _ _ _; first | refine .lssT rfl rfl rfl (by omega) ?_ | refine .lssF rfl rfl rfl (by omega) ?_ | refine .leq rfl rfl rfl (fun hc => ?_) (fun hc => ?_) | refine .gtrT rfl rfl rfl (by omega) ?_ | refine .gtrF rfl rfl rfl (by omega) ?_ | refine .geq rfl rfl rfl (fun hc => ?_) (fun hc => ?_) | refine .eql rfl rfl rfl (fun hc => ?_) (fun hc => ?_) | refine .neqT rfl rfl rfl (by omega) ?_ | refine .neqF rfl rfl rfl (by omega) ?_ | refine .addN rfl rfl rfl (by omega) ?_ | refine .addN (b := 1) rfl rfl rfl (by omega) ?_ | refine .subN rfl rfl rfl (by omega) ?_ | refine .subN (b := 1) rfl rfl rfl (by omega) ?_) | (show EG _ _ (⟨_, .load _ _, _, _⟩ :: _) _ _ _ _ _ _; first | refine .load rfl rfl (l0) ?_ | refine .load rfl rfl (l2) ?_ | refine .load rfl rfl (l3) ?_ | refine .load rfl rfl (m0) ?_) | (show EG _ _ (⟨_, .call _ _, _, _⟩ :: _) _ _ _ _ _ _; first | refine .call rfl rfl (hR _) ?_ | refine .call rfl rfl (hP _) ?_ | refine .call rfl rfl (hS1) ?_ | refine .call rfl rfl (hS2) ?_) | refine .iaddr rfl rfl rfl (hi) ?_ | refine .mulN (a := 8) rfl rfl rfl (by omega) ?_ | refine .mulN (a := 3) rfl rfl rfl (by omega) ?_ | refine .addN (a := 4) rfl rfl rfl (by omega) ?_ | refine .addN (a := 5) rfl rfl rfl (by omega) ?_ | refine .skip rfl ?_ | refine .fin ?_ | refine .go rfl rfl rfl ?_ | refine .gono rfl rfl rfl ?_ | refine .skipn rfl ?_))
           refine .loop (fun m f H3 => ∃ (k : Nat), m + k = r ∧ f = [(0, ptrC cb), (2, .slice (some a) l.length cap), (3, N tl), (5, .agg #[N A, N S, N T]), (10, o), (11, N (s.a + 8 * g)), (12, N i), (13, N r), (17, N k)] ∧ IsC H3 cb (setI (setI s.ws ((4 + T + 3 * i : Nat) : Int) (pk : Nat)) ((5 + T + 3 * i : Nat) : Int) (z : Nat)) (fillB s.bs (s.a + 8 * g) t.f k) ∧ Kept cb h H3 ∧ Out H3 h.length 4 o (css s.ob)) (n := r)
            ⟨0, by omega, rfl, hC2, hk2, ho2⟩ ?_
           rintro m f H3 ⟨k, hmk, rfl, hC3, hk3, ho3⟩ nextk
           by_cases hkr : k < r
           ·refine Exists.elim (setByte_spec (lo := 0) hC3 (Nat.zero_le _) (Nat.zero_le _) ((s.a + 8 * g + k : Nat) : Int) (w64 (t.f + (k : Nat)))) fun H4 hq => ?_
            have hS4 := hq.1
            have hC4 := hq.2.1
            have hk4 := hk3.only hq.2.2 (by simp)
            have ho4 := Out.only ho3 hq.2.2 (by simp; omega)
            clear hq
            have n1 := L1 hk3
            repeat' (first | (show ER _ _ _ _ _ _ _; first | refine .seq ?_ | refine .reg ?_ | refine .yes rfl ?_ | refine .no rfl ?_ | refine .skip ?_ | refine .block ?_ | refine .endB ?_ | refine .exit rfl ?_ | refine .br rfl (fun hc => ?_) (fun hc => ?_) | refine .scope ?_ | refine .inScope ?_ | refine .label ?_ | refine .ret rfl ?_ | refine .nil rfl ?_) | (show EG _ _ _ _ _ _ _ _ _; first | refine .mov rfl rfl ?_ | refine .lload rfl rfl rfl rfl ?_ | refine .laddr rfl rfl rfl ?_ | (show EG _ _ (⟨_, .bin _ _ _, _, _⟩ :: _) _ _ _ _ _ _; first | refine .lssT rfl rfl rfl (by omega) ?_ | refine .lssF rfl rfl rfl (by omega) ?_ | refine .leq rfl rfl rfl (fun hc => ?_) (fun hc => ?_) | refine .gtr rfl rfl rfl (fun hc => ?_) (fun hc => ?_) | refine .geq rfl rfl rfl (fun hc => ?_) (fun hc => ?_) | refine .eql rfl rfl rfl (fun hc => ?_) (fun hc => ?_) | refine .neq rfl rfl rfl (fun hc => ?_) (fun hc => ?_) | refine .addN rfl rfl rfl (by omega) ?_ | refine .addN (b := 1) rfl rfl rfl (by omega) ?_ | refine .subN rfl rfl rfl (by omega) ?_ | refine .subN (b := 1) rfl rfl rfl (by omega) ?_) | refine .load rfl rfl (n1) ?_ | refine .call rfl rfl (hS4) ?_ | refine .iaddr rfl rfl rfl (hi) ?_ | refine .skip rfl ?_ | refine .fin ?_ | refine .go rfl rfl rfl ?_ | refine .gono rfl rfl rfl ?_ | refine .skipn rfl ?_))
            exact nextk (m - 1) _ _ (by omega) ⟨k + 1, by omega, rfl, hC4, hk4, ho4⟩
           ·have hkr2 : k = r := by omega
            subst hkr2
            have n3 : loadV H3 none ⟨a.block, a.off + i * 4 + 3, none⟩ = some (N p) := by rw [L3 hk3, hp]
            have hpl : (css s.ob).length + 1 ≤ 2 ^ 30 := by rw [css_length]; omega
            have hst : layOne A T i t s = ⟨s.a + 8 * g + k, setI (setI s.ws ((4 + T + 3 * i : Nat) : Int) (pk : Nat)) ((5 + T + 3 * i : Nat) : Int) (z : Nat), fillB s.bs (s.a + 8 * g) t.f k, s.ob ++ [⟨i, ((s.a + 8 * g : Nat) : Int), (k : Nat), decide ((0 : Int) < p)⟩]⟩ := by
             unfold layOne
             rw [hr, hpk, hz, hg, hp, Int.toNat_natCast, Int.toNat_natCast]
             simp
            rw [hst] at hres
            cases hpb : decide ((0 : Int) < p)
            all_goals
             have hpc := hpb
             simp only [decide_eq_true_eq, decide_eq_false_iff_not] at hpc
             rw [hpb] at hres
             refine Exists.elim (ho3.push2 (l0 := 0) (bytes := 32) (e := Obj.cs ⟨(i : Nat), ((s.a + 8 * g : Nat) : Int), (k : Nat), decide ((0 : Int) < p)⟩) rfl (Nat.zero_le _) hk3.1 hpl (by decide)) fun o' hq1 => Exists.elim hq1 fun H5 hq2 => ?_
             have hap := hq2.1
             have ho5 := hq2.2.1
             have hx5 := hq2.2.2
             rw [css_app] at ho5
             rw [hpb] at hap ho5
             have hsame : ∀ j, j < h.length → H5[j]? = H3[j]? := fun j hj => by
              have hT := hx5 (H3.take h.length) (by rw [List.length_take]; omega) (Ext.take H3 _)
              have hl3 := hk3.1
              rw [hT.2 j (by rw [List.length_take]; omega), List.getElem?_take, if_pos hj]
             have hC5 : IsC H5 cb (setI (setI s.ws ((4 + T + 3 * i : Nat) : Int) (pk : Nat)) ((5 + T + 3 * i : Nat) : Int) (z : Nat)) (fillB s.bs (s.a + 8 * g) t.f k) := by
              obtain ⟨st, hp5⟩ := hC3.p
              exact ⟨⟨st, by rw [hsame _ hPl]; exact hp5⟩, by rw [hsame _ hWl]; exact hC3.w, by rw [hsame _ hYl]; exact hC3.y, hC3.pw, hC3.py, hC3.wy, hC3.byte⟩
             have hk5 : Kept cb h H5 := ⟨by
              have := (hx5 (H3.take h.length) (by rw [List.length_take]; omega) (Ext.take H3 _)).1
              rw [List.length_take] at this
              have hl3 := hk3.1
              omega, fun j hj hn => (hsame j hj).trans (hk3.2 j hj hn)⟩
             repeat' (first | (show ER _ _ _ _ _ _ _; first | refine .seq ?_ | refine .reg ?_ | refine .yes rfl ?_ | refine .no rfl ?_ | refine .skip ?_ | refine .block ?_ | refine .endB ?_ | refine .exit rfl ?_ | refine .br rfl (fun hc => ?_) (fun hc => ?_) | refine .scope ?_ | refine .inScope ?_ | refine .label ?_ | refine .ret rfl ?_ | refine .nil rfl ?_) | (show EG _ _ _ _ _ _ _ _ _; first | refine .mov rfl rfl ?_ | refine .lload rfl rfl rfl rfl ?_ | refine .laddr rfl rfl rfl ?_ | (show EG _ _ (⟨_, .bin _ _ _, _, _⟩ :: _) _ _ _ _ _ _; first | refine .lssT rfl rfl rfl (by omega) ?_ | refine .lssF rfl rfl rfl (by omega) ?_ | refine .leq rfl rfl rfl (fun hc => ?_) (fun hc => ?_) | refine .gtrT rfl rfl rfl (by omega) ?_ | refine .gtrF rfl rfl rfl (by omega) ?_ | refine .geq rfl rfl rfl (fun hc => ?_) (fun hc => ?_) | refine .eql rfl rfl rfl (fun hc => ?_) (fun hc => ?_) | refine .neq rfl rfl rfl (fun hc => ?_) (fun hc => ?_) | refine .addN rfl rfl rfl (by omega) ?_ | refine .addN (b := 1) rfl rfl rfl (by omega) ?_ | refine .subN rfl rfl rfl (by omega) ?_ | refine .subN (b := 1) rfl rfl rfl (by omega) ?_) | refine .load rfl rfl (n3) ?_ | refine .iaddr rfl rfl rfl (hi) ?_ | refine .app rfl rfl rfl (hap) ?_ | refine .skip rfl ?_ | refine .fin ?_ | refine .go rfl rfl rfl ?_ | refine .gono rfl rfl rfl ?_ | refine .skipn rfl ?_))
             exact next (n - 1) _ _ (by omega) ⟨i + 1, _, o', by omega, rfl, hC5, hk5, ho5, by show s.a + 8 * g + k ≤ A; omega, by simp [hob], hres⟩
          ·repeat' (first | (show ER _ _ _ _ _ _ _; first | refine .seq ?_ | refine .reg ?_ | refine .yes rfl ?_ | refine .no rfl ?_ | refine .skip ?_ | refine .block ?_ | refine .endB ?_ | refine .exit rfl ?_ | refine .br rfl (fun hc => ?_) (fun hc => ?_) | refine .scope ?_ | refine .inScope ?_ | refine .label ?_ | refine .ret rfl ?_ | refine .nil rfl ?_) | (show EG _ _ _ _ _ _ _ _ _; first | refine .mov rfl rfl ?_ | refine .lload rfl rfl rfl rfl ?_ | refine .laddr rfl rfl rfl ?_ | (show EG _ _ (⟨_, .bin _ _ _, _, _⟩ :: _) _ _ _ _ _ _; first | refine .lssT rfl rfl rfl (by omega) ?_ | refine .lssF rfl rfl rfl (by omega) ?_ | refine .leq rfl rfl rfl (fun hc => ?_) (fun hc => ?_) | refine .gtrT rfl rfl rfl (by omega) ?_ | refine .gtrF rfl rfl rfl (by omega) ?_ | refine .geq rfl rfl rfl (fun hc => ?_) (fun hc => ?_) | refine .eql rfl rfl rfl (fun hc => ?_) (fun hc => ?_) | refine .neqT rfl rfl rfl (by omega) ?_ | refine .neqF rfl rfl rfl (by omega) ?_ | refine .addN rfl rfl rfl (by omega) ?_ | refine .addN (b := 1) rfl rfl rfl (by omega) ?_ | refine .subN rfl rfl rfl (by omega) ?_ | refine .subN (b := 1) rfl rfl rfl (by omega) ?_) | (show EG _ _ (⟨_, .load _ _, _, _⟩ :: _) _ _ _ _ _ _; first | refine .load rfl rfl (l0) ?_ | refine .load rfl rfl (l2) ?_ | refine .load rfl rfl (l3) ?_) | refine .call rfl rfl (hR _) ?_ | refine .iaddr rfl rfl rfl (hi) ?_ | refine .mulN (a := 8) rfl rfl rfl (by omega) ?_ | refine .skip rfl ?_ | refine .fin ?_ | refine .go rfl rfl rfl ?_ | refine .gono rfl rfl rfl ?_ | refine .skipn rfl ?_))
           exact fail (by unfold okTh; omega) _
     ·rw [if_neg h1] at hR
      repeat' (first | (show ER _ _ _ _ _ _ _; first | refine .seq ?_ | refine .reg ?_ | refine .yes rfl ?_ | refine .no rfl ?_ | refine .skip ?_ | refine .block ?_ | refine .endB ?_ | refine .exit rfl ?_ | refine .br rfl (fun hc => ?_) (fun hc => ?_) | refine .scope ?_ | refine .inScope ?_ | refine .label ?_ | refine .ret rfl ?_ | refine .nil rfl ?_) | (show EG _ _ _ _ _ _ _ _ _; first | refine .mov rfl rfl ?_ | refine .lload rfl rfl rfl rfl ?_ | refine .laddr rfl rfl rfl ?_ | (show EG _ _ (⟨_, .bin _ _ _, _, _⟩ :: _) _ _ _ _ _ _; first | refine .lssT rfl rfl rfl (by omega) ?_ | refine .lssF rfl rfl rfl (by omega) ?_ | refine .leq rfl rfl rfl (fun hc => ?_) (fun hc => ?_) | refine .gtrT rfl rfl rfl (by omega) ?_ | refine .gtrF rfl rfl rfl (by omega) ?_ | refine .geq rfl rfl rfl (fun hc => ?_) (fun hc => ?_) | refine .eql rfl rfl rfl (fun hc => ?_) (fun hc => ?_) | refine .neqT rfl rfl rfl (by omega) ?_ | refine .neqF rfl rfl rfl (by omega) ?_) | (show EG _ _ (⟨_, .load _ _, _, _⟩ :: _) _ _ _ _ _ _; first | refine .load rfl rfl (l0) ?_ | refine .load rfl rfl (l2) ?_ | refine .load rfl rfl (l3) ?_) | refine .call rfl rfl (hR _) ?_ | refine .iaddr rfl rfl rfl (hi) ?_ | refine .skip rfl ?_ | refine .fin ?_ | refine .go rfl rfl rfl ?_ | refine .gono rfl rfl rfl ?_ | refine .skipn rfl ?_))
      exact fail (by unfold okTh; omega) _
    ·rw [List.drop_of_length_le (by omega)] at hres
     refine Exists.elim (store_spec (lo := 0) hCs (Nat.zero_le _) (Nat.zero_le _) 0 (min ((s.a : Int) + 8 * (tl : Int)) A)) fun H1 hq => ?_
     have hS1 := hq.1
     have hC1 := hq.2.1
     have hk1 := hk.only hq.2.2 (by simp)
     have ho1 := Out.only ho hq.2.2 (by simp; omega)
     clear hq
     have hmin : ∀ {f : Fr} {call : CallF} {x y : Operand}, ev f x = some (N (s.a + 8 * tl)) → ev f y = some (N A) → iop call 0 (.min [x, y]) f H = some (I (min ((s.a : Int) + 8 * (tl : Int)) A), H) := fun {f call x y} hx hy => by
      have hmx : minL .i64 ((s.a + 8 * tl : Nat) : Int) [N A] = some (min ((s.a : Int) + 8 * (tl : Int)) A) := by
       simp only [minL, if_true]
       congr 1
       split <;> omega
      simp only [iop, evs, hx, hy]
      show (match minL .i64 ((s.a + 8 * tl : Nat) : Int) [N A] with | some m => some (Value.int .i64 m, H) | none => none) = _
      rw [hmx]
     rw [hres]
     repeat' (first | (show ER _ _ _ _ _ _ _; first | refine .seq ?_ | refine .reg ?_ | refine .yes rfl ?_ | refine .no rfl ?_ | refine .skip ?_ | refine .block ?_ | refine .endB ?_ | refine .exit rfl ?_ | refine .br rfl (fun hc => ?_) (fun hc => ?_) | refine .scope ?_ | refine .inScope ?_ | refine .label ?_ | refine .ret rfl ?_ | refine .nil rfl ?_) | (show EG _ _ _ _ _ _ _ _ _; first | refine .mov rfl rfl ?_ | refine .lload rfl rfl rfl rfl ?_ | refine .laddr rfl rfl rfl ?_ | (show EG _ _ (⟨_, .bin _ _ _, _, _⟩ :: _) _ _ _ _ _ _; first | refine .lssT rfl rfl rfl (by omega) ?_ | refine .lssF rfl rfl rfl (by omega) ?_ | refine .leq rfl rfl rfl (fun hc => ?_) (fun hc => ?_) | refine .gtr rfl rfl rfl (fun hc => ?_) (fun hc => ?_) | refine .geq rfl rfl rfl (fun hc => ?_) (fun hc => ?_) | refine .eql rfl rfl rfl (fun hc => ?_) (fun hc => ?_) | refine .neq rfl rfl rfl (fun hc => ?_) (fun hc => ?_) | refine .addN rfl rfl rfl (by omega) ?_ | refine .addN (b := 1) rfl rfl rfl (by omega) ?_ | refine .subN rfl rfl rfl (by omega) ?_ | refine .subN (b := 1) rfl rfl rfl (by omega) ?_) | refine .call rfl rfl (hS1) ?_ | refine .mulN (a := 8) rfl rfl rfl (by omega) ?_ | refine .go rfl (hmin rfl rfl) rfl ?_ | refine .skip rfl ?_ | refine .fin ?_ | refine .go rfl rfl rfl ?_ | refine .gono rfl rfl rfl ?_ | refine .skipn rfl ?_))
     refine ⟨_, rfl, hC1, ho1.sl, hk1, fun he => ?_, fun a' len' cap' e => ?_⟩
     ·rcases ho1.2 with g | ⟨g, _⟩
      ·exact g.2
      ·exact absurd (by rw [he]; rfl) g
     ·rcases ho1.2 with g | ⟨g, b, g1, g2, _⟩
      ·rw [g.2] at e; cases e
      ·rw [g1] at e
       injection e with e
       injection e with e
       rw [← e]; exact g2
 ·rw [if_neg (by omega)]
  subst hve
  repeat' (first | (show ER _ _ _ _ _ _ _; first | refine .seq ?_ | refine .reg ?_ | refine .yes rfl ?_ | refine .no rfl ?_ | refine .skip ?_ | refine .block ?_ | refine .endB ?_ | refine .exit rfl ?_ | refine .br rfl (fun hc => ?_) (fun hc => ?_) | refine .scope ?_ | refine .inScope ?_ | refine .label ?_ | refine .ret rfl ?_ | refine .nil rfl ?_) | (show EG _ _ _ _ _ _ _ _ _; first | refine .mov rfl rfl ?_ | refine .lload rfl rfl rfl rfl ?_ | refine .laddr rfl rfl rfl ?_ | (show EG _ _ (⟨_, .bin _ _ _, _, _⟩ :: _) _ _ _ _ _ _; first | refine .lss rfl rfl rfl (fun hc => ?_) (fun hc => ?_) | refine .leq rfl rfl rfl (fun hc => ?_) (fun hc => ?_) | refine .gtrT rfl rfl rfl (by omega) ?_ | refine .gtrF rfl rfl rfl (by omega) ?_ | refine .geq rfl rfl rfl (fun hc => ?_) (fun hc => ?_) | refine .eql rfl rfl rfl (fun hc => ?_) (fun hc => ?_) | refine .neq rfl rfl rfl (fun hc => ?_) (fun hc => ?_)) | refine .skip rfl ?_ | refine .fin ?_ | refine .go rfl rfl rfl ?_ | refine .gono rfl rfl rfl ?_ | refine .skipn rfl ?_))
  rfl
end Go.Proofs.YtfpfknafcgkcjaaGreat

