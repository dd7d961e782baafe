/- Cells as they are at first; of the audit seat. -/
import Derived.Test.YtgnkcpkdlkabkaaGreatAuditP1
import Derived.Test.YtgnkcpkdlkabkaaGreatAuditP6
import Derived.Test.YtgnkcpkdlkabkaaGreatAuditP7
import Derived.Test.YtgnkcpkdlkabkaaGreatAuditE
import Derived.OpenShut

set_option linter.unusedVariables false
set_option linter.unusedSimpArgs false
namespace Go.Proofs.YtgnkcpkdlkabkaaGreat
open Go Go.Ir

end Go.Proofs.YtgnkcpkdlkabkaaGreat

/- Cells that have too few words: the law by the program. -/
set_option linter.unusedVariables false
set_option linter.unusedSimpArgs false
namespace Go.Proofs.YtgnkcpkdlkabkaaGreat
open Go Go.Ir

theorem unp0 : unpackE 0 = some ⟨0, 0, 0, 0, false, false⟩ := by
 have h : rawE (0 : Int).toNat = ⟨0, 0, 0, 0, false, false⟩ := by decide
 unfold unpackE
 rw [h]
 exact if_pos ⟨by omega, by omega, by decide⟩
theorem getI_zero (k : Nat) (i : Int) : getI (List.replicate k 0) i = 0 := by
 unfold getI
 split
 ·rw [List.getD_eq_getElem?_getD, List.getElem?_replicate]
  split <;> rfl
 ·rfl
theorem fdL_zero (n : Nat) (c : Cfg) : ∀ k, fdL (List.replicate n 0) c k = some []
 | 0 => rfl
 | k + 1 => by
   rw [fdL, fdL_zero n c k]
   simp only [fdA, fdS, getI_zero, unp0, fdO]
   rfl
theorem allL_zero (n : Nat) (c : Cfg) : allL (List.replicate n 0) c = [] := by
 unfold allL
 split
 ·rw [fdL_zero]; rfl
 ·rfl
theorem allE_zeros (n : Nat) (c : Cfg) : allE (List.replicate n 0) c = if allP (List.replicate n 0) c then 0 else 1 := by
 unfold allE
 rw [fdL_zero]; rfl
theorem rng_zero (n : Nat) : Rng (List.replicate n 0) := fun w hw => by
 rw [(List.mem_replicate.1 hw).2]; omega

theorem len_nil {H : Heap} {n : Nat} {v : Value} {es : List (List Value)} (s : Sl H n v es) (h : es = []) : ∃ b cap, v = .slice b 0 cap := by
 obtain ⟨b, cap, rfl⟩ := s.len
 subst h
 exact ⟨b, cap, rfl⟩

set_option maxHeartbeats 4000000 in
theorem short_run (c : Cfg) (w : Int) (h : Heap) : ∃ h', callR En 0 Id.sidingslaw21_AuditShort [.agg c.cs.toArray, I w] h = some (.bool true, h') := by
 have key : ∃ u h', callR En 0 Id.sidingslaw21_AuditShort [.agg c.cs.toArray, I w] h = some (u, h') ∧ u = .bool true := by
  refine call_ex rfl Fn.sidingslaw21_AuditShort rfl rfl ?_
  by_cases h1 : w < 1
  ·repeat' (first | (show ER _ _ _ _ _ _ _; first | refine .seq ?_ | refine .reg ?_ | refine .yes rfl ?_ | refine .ret rfl ?_) | (show EG _ _ _ _ _ _ _ _ _; first | refine .mov rfl rfl ?_ | refine .lssT rfl rfl rfl (by omega) ?_ | refine .call rfl rfl (live_c _ _) ?_ | refine .skip rfl ?_ | refine .fin ?_ | refine .go rfl rfl rfl ?_))
   rfl
  by_cases h2 : w > 200
  ·repeat' (first | (show ER _ _ _ _ _ _ _; first | refine .seq ?_ | refine .reg ?_ | refine .yes rfl ?_ | refine .ret rfl ?_) | (show EG _ _ _ _ _ _ _ _ _; first | refine .mov rfl rfl ?_ | (show EG _ _ (⟨_, .bin _ _ _, _, _⟩ :: _) _ _ _ _ _ _; first | refine .lssF rfl rfl rfl (by omega) ?_ | refine .gtrT rfl rfl rfl (by omega) ?_) | refine .call rfl rfl (live_c _ _) ?_ | refine .fin ?_ | refine .go rfl rfl rfl ?_))
   rfl
  refine Exists.elim (show ∃ nw : Nat, w = nw ∧ 1 ≤ nw ∧ nw ≤ 200 from ⟨w.toNat, by omega, by omega, by omega⟩) fun nw hq => ?_
  have hw := hq.1
  have hb := hq.2
  clear hq
  subst hw
  have hN : ∀ lo, callR En lo Id.cells_New [I (nw : Int), I 8] h = some (ptrC (newC h), newH h nw 8) := fun lo => new_spec lo h (nb := 8) hb.1 (by omega) (by omega)
  have hn := (newH_is h nw 8).1
  refine Exists.elim (objects_spec (lo := 0) hn (Nat.zero_le _) c) fun v1 hq => Exists.elim hq fun H1 hq => ?_
  have hO := hq.1
  have hC1 := hq.2.1
  have ho1 := hq.2.2.2
  clear hq
  refine Exists.elim (len_nil ho1.sl (by rw [objL, allL_zero]; rfl)) fun b1 hq => Exists.elim hq fun k1 hq => ?_
  subst hq
  refine Exists.elim (bytes_spec (lo := 0) hC1 (Nat.zero_le _) c 0) fun v2 hq => Exists.elim hq fun H2 hq => ?_
  have hB := hq.1
  have hC2 := hq.2.1
  have ho2 := hq.2.2.2
  clear hq
  refine Exists.elim (len_nil ho2.sl (by rw [bytesL, allL_zero]; rfl)) fun b2 hq => Exists.elim hq fun k2 hq => ?_
  subst hq
  have hM := fun lo => may_spec lo H1 c
  have hW := fun lo => words_spec lo H1 c
  by_cases hp : allP (List.replicate nw 0) c
  ·have hm := hp.1
   have hw := hp.2
   rw [List.length_replicate] at hw
   rw [allE_zeros, if_pos hp] at hO
   rw [if_pos hm] at hW
   rw [decide_eq_true hm] at hM
   repeat' (first | (show ER _ _ _ _ _ _ _; first | refine .seq ?_ | refine .reg ?_ | refine .no rfl ?_ | refine .skip ?_ | refine .ret rfl ?_) | (show EG _ _ _ _ _ _ _ _ _; first | refine .mov rfl rfl ?_ | refine .lload rfl rfl rfl rfl ?_ | (show EG _ _ (⟨_, .bin _ _ _, _, _⟩ :: _) _ _ _ _ _ _; first | refine .lssF rfl rfl rfl (by omega) ?_ | refine .gtrF rfl rfl rfl (by omega) ?_ | refine .geqT rfl rfl rfl (by omega) ?_ | refine .eqlT rfl rfl rfl (by omega) ?_) | (show EG _ _ (⟨_, .call _ _, _, _⟩ :: _) _ _ _ _ _ _; first | refine .call rfl rfl (hN _) ?_ | refine .call rfl rfl (hO) ?_ | refine .call rfl rfl (hB) ?_ | refine .call rfl rfl (hM _) ?_ | refine .call rfl rfl (hW _) ?_ | refine .call rfl rfl (live_c _ _) ?_) | refine .skip rfl ?_ | refine .fin ?_ | refine .go rfl rfl rfl ?_))
   rfl
  ·rw [allE_zeros, if_neg hp] at hO
   refine Exists.elim (check_spec (lo := 0) hC2 (Nat.zero_le _) (rng_zero nw) c ⟨.slice none 0 0, ⟨0, 0, 0, 0⟩, false⟩ (hl := []) (by simp) (fun H' _ => (Out.nil H' 0 4).sl)) fun H3 hq => ?_
   have hK := hq.1
   clear hq
   rw [chkI_bad (by rw [allE_zeros, if_neg hp]; decide), allE_zeros, if_neg hp] at hK
   have hK' : callR En 0 Id.audit_Check [.agg #[ifC (newC h), I c.A, I c.S, I c.T, .slice none 0 0, I 0, I 0, I 0, I 0, .bool false]] H2 = some (I 1, H3) := hK
   by_cases hm : c.may
   ·have hw : wordsI c > nw := Int.not_le.1 fun hh => hp ⟨hm, by rw [List.length_replicate]; exact hh⟩
    rw [if_pos hm] at hW
    rw [decide_eq_true hm] at hM
    repeat' (first | (show ER _ _ _ _ _ _ _; first | refine .seq ?_ | refine .reg ?_ | refine .no rfl ?_ | refine .skip ?_ | refine .ret rfl ?_) | (show EG _ _ _ _ _ _ _ _ _; first | refine .mov rfl rfl ?_ | refine .lload rfl rfl rfl rfl ?_ | (show EG _ _ (⟨_, .bin _ _ _, _, _⟩ :: _) _ _ _ _ _ _; first | refine .lssF rfl rfl rfl (by omega) ?_ | refine .gtrF rfl rfl rfl (by omega) ?_ | refine .geqF rfl rfl rfl (by omega) ?_ | refine .eqlT rfl rfl rfl (by omega) ?_ | refine .eqlF rfl rfl rfl (by omega) ?_) | (show EG _ _ (⟨_, .call _ _, _, _⟩ :: _) _ _ _ _ _ _; first | refine .call rfl rfl (hN _) ?_ | refine .call rfl rfl (hO) ?_ | refine .call rfl rfl (hB) ?_ | refine .call rfl rfl (hM _) ?_ | refine .call rfl rfl (hW _) ?_ | refine .call rfl rfl (hK') ?_ | refine .call rfl rfl (live_c _ _) ?_) | refine .fin ?_ | refine .go rfl rfl rfl ?_))
    rfl
   ·rw [if_neg hm] at hW
    rw [decide_eq_false hm] at hM
    repeat' (first | (show ER _ _ _ _ _ _ _; first | refine .seq ?_ | refine .reg ?_ | refine .no rfl ?_ | refine .skip ?_ | refine .ret rfl ?_) | (show EG _ _ _ _ _ _ _ _ _; first | refine .mov rfl rfl ?_ | refine .lload rfl rfl rfl rfl ?_ | (show EG _ _ (⟨_, .bin _ _ _, _, _⟩ :: _) _ _ _ _ _ _; first | refine .lssF rfl rfl rfl (by omega) ?_ | refine .gtrF rfl rfl rfl (by omega) ?_ | refine .eqlT rfl rfl rfl (by omega) ?_ | refine .eqlF rfl rfl rfl (by omega) ?_) | (show EG _ _ (⟨_, .call _ _, _, _⟩ :: _) _ _ _ _ _ _; first | refine .call rfl rfl (hN _) ?_ | refine .call rfl rfl (hO) ?_ | refine .call rfl rfl (hB) ?_ | refine .call rfl rfl (hM _) ?_ | refine .call rfl rfl (hK') ?_ | refine .call rfl rfl (live_c _ _) ?_) | refine .skip rfl ?_ | refine .fin ?_ | refine .go rfl rfl rfl ?_))
    rfl
 obtain ⟨u, h', h1, rfl⟩ := key
 exact ⟨h', h1⟩
end Go.Proofs.YtgnkcpkdlkabkaaGreat

/- Rows of objects copied, and held against each other; the document's cells at first. -/
set_option linter.unusedVariables false
set_option linter.unusedSimpArgs false
namespace Go.Proofs.YtgnkcpkdlkabkaaGreat
open Go Go.Ir

section
variable {lo : Nat} {h : Heap}
end
end Go.Proofs.YtgnkcpkdlkabkaaGreat

/- The document's cells: bytes set, and cells as they are at first. -/
set_option linter.unusedVariables false
set_option linter.unusedSimpArgs false
namespace Go.Ir
open Go
end Go.Ir
namespace Go.Proofs.YtgnkcpkdlkabkaaGreat
open Go Go.Ir

section
variable {lo : Nat} {H : Heap} {c : CB} {ws bs : List Int}
end

end Go.Proofs.YtgnkcpkdlkabkaaGreat

/- What objects any cells have: the law by the program. -/
set_option linter.unusedVariables false
set_option linter.unusedSimpArgs false
namespace Go.Proofs.YtgnkcpkdlkabkaaGreat
open Go Go.Ir

structure Wd where
 i : Int
 t : Int
 ht : -9223372036854775808 ≤ t ∧ t < 9223372036854775808
def Wd.cs (x : Wd) : List Value := [I x.i, I x.t]
instance : Inhabited Wd := ⟨⟨0, 0, by omega⟩⟩
structure Two (L : Nat) (cb db : CB) : Prop where
 a : L ≤ cb.P ∧ L ≤ cb.W ∧ L ≤ cb.Y
 b : L ≤ db.P ∧ L ≤ db.W ∧ L ≤ db.Y
 p : cb.P ≠ db.P ∧ cb.P ≠ db.W ∧ cb.P ≠ db.Y
 w : cb.W ≠ db.P ∧ cb.W ≠ db.W ∧ cb.W ≠ db.Y
 y : cb.Y ≠ db.P ∧ cb.Y ≠ db.W ∧ cb.Y ≠ db.Y

section
variable {L : Nat} {cb db : CB} {h H : Heap} {ws bs ws' bs' : List Int}
structure Ends (H : Heap) (cb db : CB) (c : Cfg) (mv : Mv) (is : Bool) (slot : Int) (hv : Value) (ea ck : Int) where
 v1 : Value
 H1 : Heap
 v2 : Value
 H2 : Heap
 b3 : Option Addr
 n3 : Nat
 k3 : Nat
 H3 : Heap
 v4 : Value
 H4 : Heap
 H5 : Heap
 v6 : Value
 H6 : Heap
 v7 : Value
 H7 : Heap
 c1 : callR En 0 Id.audit_Objects [ifC cb, .agg c.cs.toArray] H = some (.tuple #[v1, I ea], H1)
 c2 : callR En 0 Id.sidingsref21_Objects [ptrC db, .agg c.cs.toArray] H1 = some (.tuple #[v2, I ea], H2)
 c3 : callR En 0 Id.sidingslaw21_own [hv] H2 = some (.slice b3 n3 k3, H3)
 c4 : callR En 0 Id.sidingslaw21_told [v1] H3 = some (v4, H4)
 c5 : callR En 0 Id.sidingsref17_Same [v4, v2] H4 = some (.bool true, H4)
 c6 : callR En 0 Id.audit_Check [staV (ifC cb) c ⟨.slice b3 n3 k3, mv, is⟩] H4 = some (I ck, H5)
 c7 : callR En 0 Id.sidingsref21_Check [ptrC db, .agg c.cs.toArray, hv, .agg mv.cs.toArray, .bool is] H5 = some (I ck, H5)
 c8 : callR En 0 Id.audit_Bytes [ifC cb, .agg c.cs.toArray, I slot] H5 = some (v6, H6)
 c9 : callR En 0 Id.sidingsref21_Bytes [ptrC db, .agg c.cs.toArray, I slot] H6 = some (v7, H7)
 c10 : callR En 0 Id.sidingsref01_Same [v6, v7] H7 = some (.bool true, H7)

end
end Go.Proofs.YtgnkcpkdlkabkaaGreat

/- What objects any cells have: the law's run. -/
set_option linter.unusedVariables false
set_option linter.unusedSimpArgs false
namespace Go.Proofs.YtgnkcpkdlkabkaaGreat
open Go Go.Ir

end Go.Proofs.YtgnkcpkdlkabkaaGreat

/- A case as an argument: a config, words that are spoilt, what is held, a move, whether it is, a slot. -/
set_option linter.unusedVariables false
set_option linter.unusedSimpArgs false
set_option linter.constructorNameAsVariable false
namespace Go.Ir
open Go Go.ChangeShapes Go.WideShapes
end Go.Ir
namespace Go.Proofs.YtgnkcpkdlkabkaaGreat
open Go Go.Ir Go.ChangeShapes Go.WideShapes

theorem cellsOf23 : Tryz.prog.cellsOf 23 = 3 := by kernel_rfl
theorem cellsOf3 : Tryz.prog.cellsOf 3 = 1 := by kernel_rfl
theorem open_T23 {H : Type} {enc : TypeId × Value → H} {W : World} {base : Nat} {spare : Nat → Bool} {held : Bool} {n : Nat} {cs : List Value} {x : DataW H × List MemPlace} (h : DataW.trod enc Tryz.prog W base spare held n 23 cs = some x) :
  ∃ (a0 : Int) (a1 : Int) (a2 : Int), cs = [.int .i64 a0, .int .i64 a1, .int .i64 a2] := by
 obtain ⟨xs, m, _, _, hlen, hxl, hf⟩ := DataW.trod_struct Tryz.underlying23 h
 rw [cellsOf23] at hlen
 have hx : xs.length = 3 := hxl
 have g0 : DataW.trod enc Tryz.prog W base spare held m 3 ((cs.drop 0).take (Tryz.prog.cellsOf 3)) = xs[0]? := hf 0 _ rfl
 rw [cellsOf3, List.getElem?_eq_getElem (by omega)] at g0
 have g1 : DataW.trod enc Tryz.prog W base spare held m 3 ((cs.drop 1).take (Tryz.prog.cellsOf 3)) = xs[1]? := hf 1 _ rfl
 rw [cellsOf3, List.getElem?_eq_getElem (by omega)] at g1
 have g2 : DataW.trod enc Tryz.prog W base spare held m 3 ((cs.drop 2).take (Tryz.prog.cellsOf 3)) = xs[2]? := hf 2 _ rfl
 rw [cellsOf3, List.getElem?_eq_getElem (by omega)] at g2
 obtain ⟨b0, e0, _, _⟩ := DataW.trod_int Tryz.underlying3 g0
 obtain ⟨b1, e1, _, _⟩ := DataW.trod_int Tryz.underlying3 g1
 obtain ⟨b2, e2, _, _⟩ := DataW.trod_int Tryz.underlying3 g2
 refine ⟨b0, b1, b2, List.ext_getElem? fun i => ?_⟩
 match i with
 | 0 => exact take1 cs e0
 | 1 => exact take1 cs e1
 | 2 => exact take1 cs e2
 | i + 3 => rw [List.getElem?_eq_none (by omega)]; rfl


theorem open_cfg {H : Type} {enc : TypeId × Value → H} {W : World} {base : Nat} {spare : Nat → Bool} {held : Bool} {v0 : Value} {d0 : DataW H} {p0 : List MemPlace} {r : Reach} {b : Nat} (hval : Value.okWide Tryz.prog W r b 23 v0) (h : DataW.Trod enc Tryz.prog W base spare held 23 v0 d0 p0) : ∃ c : Cfg, v0 = .agg c.cs.toArray := by
 simp only [Value.okWide, Tryz.underlying23] at hval
 obtain ⟨cs, rfl, _, _⟩ := hval
 obtain ⟨n, hn⟩ := h
 obtain ⟨a0, a1, a2, hc⟩ := open_T23 (cs := cs.toList) (by simpa [Value.cells] using hn)
 exact ⟨⟨a0, a1, a2⟩, congrArg Value.agg (Array.toList_inj.1 hc)⟩

instance : Inhabited Obj := ⟨⟨0, 0, 0, false⟩⟩
section
variable {H : Type} {enc : TypeId × Value → H} {W : World} {base : Nat} {spare : Nat → Bool} {held : Bool} {n : Nat} {cs : List Value} {x : DataW H × List MemPlace}
end
end Go.Proofs.YtgnkcpkdlkabkaaGreat

