/- Entries, packed and unpacked. -/
import Derived.Test.YtgnkcpkdlkabkaaGreatAuditP1

set_option linter.unusedVariables false
set_option linter.unusedSimpArgs false
namespace Go.Proofs.YtgnkcpkdlkabkaaGreat
open Go Go.Ir

def unV : Option Ent → Value
 | some e => .tuple #[.agg e.cs.toArray, I 0]
 | none => .tuple #[.agg Ent.zero.cs.toArray, I 2]

def fv (n : Nat) : Nat → Nat
 | 0 => n / 2 ^ 0 % 2 ^ 20
 | 1 => n / 2 ^ 20 % 2 ^ 20
 | 2 => n / 2 ^ 40 % 2 ^ 4
 | 3 => n / 2 ^ 44 % 2 ^ 4
 | 4 => n / 2 ^ 48 % 2 ^ 1
 | _ => n / 2 ^ 49 % 2 ^ 1
def frow (n i : Nat) : List Value := (List.range 6).map fun j => if j < i then N (fv n j) else I 0

set_option maxHeartbeats 3200000 in
theorem unpack_spec (lo : Nat) (h : Heap) (w : Int) : callR En lo Id.entry_Unpack [I w] h = some (unV (unpackE w), h) := by
 have hF := fun lo h => fields_spec lo h
 by_cases hr : 0 ≤ w ∧ w < 1125899906842624
 ·refine Exists.elim (show ∃ n : Nat, w = n from ⟨w.toNat, by omega⟩) fun n hn => ?_
  subst hn
  have hn62 : n < 2 ^ 62 := by omega
  have g0 : ∀ lo h, callR En lo Id.field_Get [N n, .agg #[I 0, I 20]] h = some (N (fv n 0), h) := fun lo h => get_spec lo h (a := 0) (b := 20) (by decide) (by decide) hn62
  have g1 : ∀ lo h, callR En lo Id.field_Get [N n, .agg #[I 20, I 20]] h = some (N (fv n 1), h) := fun lo h => get_spec lo h (a := 20) (b := 20) (by decide) (by decide) hn62
  have g2 : ∀ lo h, callR En lo Id.field_Get [N n, .agg #[I 40, I 4]] h = some (N (fv n 2), h) := fun lo h => get_spec lo h (a := 40) (b := 4) (by decide) (by decide) hn62
  have g3 : ∀ lo h, callR En lo Id.field_Get [N n, .agg #[I 44, I 4]] h = some (N (fv n 3), h) := fun lo h => get_spec lo h (a := 44) (b := 4) (by decide) (by decide) hn62
  have g4 : ∀ lo h, callR En lo Id.field_Get [N n, .agg #[I 48, I 1]] h = some (N (fv n 4), h) := fun lo h => get_spec lo h (a := 48) (b := 1) (by decide) (by decide) hn62
  have g5 : ∀ lo h, callR En lo Id.field_Get [N n, .agg #[I 49, I 1]] h = some (N (fv n 5), h) := fun lo h => get_spec lo h (a := 49) (b := 1) (by decide) (by decide) hn62
  have hun : unpackE (n : Int) = if (rawE n).may then some (rawE n) else none := by
   unfold unpackE
   rw [Int.toNat_natCast]
   by_cases hm : (rawE n).may
   ·rw [if_pos ⟨by omega, by omega, hm⟩, if_pos hm]
   ·rw [if_neg (fun hh => hm hh.2.2), if_neg hm]
  rw [hun]
  refine call_scr rfl Fn.entry_Unpack rfl rfl ?_
  repeat' (first | (show ER _ _ _ _ _ _ _; first | refine .seq ?_ | refine .reg ?_ | refine .no rfl ?_ | refine .skip ?_ | refine .block ?_) | (show EG _ _ _ _ _ _ _ _ _; first | refine .mov rfl rfl ?_ | (show EG _ _ (⟨_, .bin _ _ _, _, _⟩ :: _) _ _ _ _ _ _; first | refine .lssF rfl rfl rfl (by omega) ?_ | refine .geqF rfl rfl rfl (by omega) ?_) | refine .call rfl rfl (hF _ _) ?_ | refine .fin ?_ | refine .go rfl rfl rfl ?_))
  refine .loop (fun m f H => ∃ i : Nat, m + i = 6 ∧ f = [(0, N n), (2, .agg Ent.zero.cs.toArray), (4, .pointer (some ⟨h.length, 0, none⟩)), (15, .agg #[I 0, I 20, I 20, I 20, I 40, I 4, I 44, I 4, I 48, I 1, I 49, I 1]), (16, N i)] ∧ H = h ++ [.row (frow n i) false]) (n := 6) ⟨0, rfl, rfl, rfl⟩ ?_
  rintro m f H ⟨i, hm, rfl, rfl⟩ next
  have hst : ∀ i, i < 6 → stN h.length (h ++ [.row (frow n i) false]) ⟨h.length, 0 + i * 1, none⟩ (vcells (N (fv n i))) = some (h ++ [.row (frow n (i + 1)) false]) := fun i hi => by
   have e1 : splice (frow n i) (0 + i * 1) [N (fv n i)] = frow n (i + 1) := by
    match i, hi with
    | 0, _ | 1, _ | 2, _ | 3, _ | 4, _ | 5, _ => rfl
   have hcat : (h ++ [Blk.row (frow n i) false])[h.length]? = some (.row (frow n i) false) := List.getElem?_concat_length
   refine (st_row hcat (Nat.le_refl _) (by show 0 + i * 1 + 1 ≤ 6; omega) e1).trans ?_
   exact congrArg some (by rw [List.set_append_right _ _ (Nat.le_refl _), Nat.sub_self]; rfl)
  by_cases hi : i < 6
  ·have hs := hst i hi
   match i, hi with
   | 0, _ | 1, _ | 2, _ | 3, _ | 4, _ | 5, _ =>
     repeat' (first | (show ER _ _ _ _ _ _ _; first | refine .seq ?_ | refine .reg ?_ | refine .yes rfl ?_ | refine .skip ?_ | refine .block ?_ | refine .endB ?_) | (show EG _ _ _ _ _ _ _ _ _; first | refine .mov rfl rfl ?_ | refine .lload rfl rfl rfl rfl ?_ | (show EG _ _ (⟨_, .bin _ _ _, _, _⟩ :: _) _ _ _ _ _ _; first | refine .lssT rfl rfl rfl (by omega) ?_ | refine .addN (b := 1) rfl rfl rfl (by omega) ?_) | (show EG _ _ (⟨_, .call _ _, _, _⟩ :: _) _ _ _ _ _ _; first | refine .call rfl rfl (g0 _ _) ?_ | refine .call rfl rfl (g1 _ _) ?_ | refine .call rfl rfl (g2 _ _) ?_ | refine .call rfl rfl (g3 _ _) ?_ | refine .call rfl rfl (g4 _ _) ?_ | refine .call rfl rfl (g5 _ _) ?_) | refine .store rfl rfl rfl rfl rfl hs ?_ | refine .fin ?_ | refine .go rfl rfl rfl ?_))
     exact next (m - 1) _ _ (by omega) ⟨_, by omega, rfl, rfl⟩
  ·have h6 : i = 6 := by omega
   subst h6
   have hld : ∀ j, j < 6 → loadV (h ++ [.row (frow n 6) false]) none ⟨h.length, 0 + j * 1, none⟩ = some (N (fv n j)) := fun j hj => by
    refine ld_row List.getElem?_concat_length ?_
    match j, hj with
    | 0, _ | 1, _ | 2, _ | 3, _ | 4, _ | 5, _ => rfl
   have l0 := hld 0 (by decide)
   have l1 := hld 1 (by decide)
   have l2 := hld 2 (by decide)
   have l3 := hld 3 (by decide)
   have l4 := hld 4 (by decide)
   have l5 := hld 5 (by decide)
   have hcs : (rawE n).cs = [N (fv n 0), N (fv n 1), N (fv n 2), N (fv n 3), .bool (decide (fv n 4 = 1)), .bool (decide (fv n 5 = 1))] := rfl
   have hE := fun lo h => emay_spec lo h (rawE n)
   rw [hcs] at hE
   have fin : ∀ b4 b5 : Bool, decide (fv n 4 = 1) = b4 → decide (fv n 5 = 1) = b5 → ∀ lo h, callR En lo Id.entry_Entry_may [.agg #[N (fv n 0), N (fv n 1), N (fv n 2), N (fv n 3), .bool b4, .bool b5]] h = some (.bool (decide (rawE n).may), h) := fun b4 b5 e4 e5 lo h => by
    subst e4 e5
    exact hE lo h
   have res : ∀ b4 b5 : Bool, decide (fv n 4 = 1) = b4 → decide (fv n 5 = 1) = b5 → (rawE n).cs = [N (fv n 0), N (fv n 1), N (fv n 2), N (fv n 3), .bool b4, .bool b5] := fun b4 b5 e4 e5 => by
    subst e4 e5
    exact hcs
   by_cases h4 : fv n 4 = 1 <;> by_cases h5 : fv n 5 = 1
   all_goals
    have hf := fin _ _ rfl rfl
    have hr := res _ _ rfl rfl
    first | rw [decide_eq_true h4] at hf hr | rw [decide_eq_false h4] at hf hr
    first | rw [decide_eq_true h5] at hf hr | rw [decide_eq_false h5] at hf hr
    by_cases hm : (rawE n).may
    ·rw [decide_eq_true hm] at hf
     rw [if_pos hm]
     repeat' (first | (show ER _ _ _ _ _ _ _; first | refine .seq ?_ | refine .reg ?_ | refine .no rfl ?_ | refine .skip ?_ | refine .exit rfl ?_ | refine .ret rfl ?_) | (show EG _ _ _ _ _ _ _ _ _; first | refine .mov rfl rfl ?_ | refine .lload rfl rfl rfl rfl ?_ | (show EG _ _ (⟨_, .bin _ _ _, _, _⟩ :: _) _ _ _ _ _ _; first | refine .lssF rfl rfl rfl (by omega) ?_ | refine .eqlT rfl rfl rfl (by omega) ?_ | refine .eqlF rfl rfl rfl (by omega) ?_) | (show EG _ _ (⟨_, .load _ _, _, _⟩ :: _) _ _ _ _ _ _; first | refine .load rfl rfl (l0) ?_ | refine .load rfl rfl (l1) ?_ | refine .load rfl rfl (l2) ?_ | refine .load rfl rfl (l3) ?_ | refine .load rfl rfl (l4) ?_ | refine .load rfl rfl (l5) ?_) | refine .call rfl rfl (hf _ _) ?_ | refine .fin ?_ | refine .go rfl rfl rfl ?_))
     show _ = some (Value.tuple #[.agg (rawE n).cs.toArray, I 0], h)
     rw [hr]
     rfl
    ·rw [decide_eq_false hm] at hf
     rw [if_neg hm]
     repeat' (first | (show ER _ _ _ _ _ _ _; first | refine .seq ?_ | refine .reg ?_ | refine .yes rfl ?_ | refine .no rfl ?_ | refine .exit rfl ?_ | refine .ret rfl ?_) | (show EG _ _ _ _ _ _ _ _ _; first | refine .mov rfl rfl ?_ | refine .lload rfl rfl rfl rfl ?_ | (show EG _ _ (⟨_, .bin _ _ _, _, _⟩ :: _) _ _ _ _ _ _; first | refine .lssF rfl rfl rfl (by omega) ?_ | refine .eqlT rfl rfl rfl (by omega) ?_ | refine .eqlF rfl rfl rfl (by omega) ?_) | (show EG _ _ (⟨_, .load _ _, _, _⟩ :: _) _ _ _ _ _ _; first | refine .load rfl rfl (l0) ?_ | refine .load rfl rfl (l1) ?_ | refine .load rfl rfl (l2) ?_ | refine .load rfl rfl (l3) ?_ | refine .load rfl rfl (l4) ?_ | refine .load rfl rfl (l5) ?_) | refine .call rfl rfl (hf _ _) ?_ | refine .fin ?_ | refine .go rfl rfl rfl ?_))
     rfl
 ·have hun : unpackE w = none := by unfold unpackE; rw [if_neg (fun hh => hr ⟨hh.1, hh.2.1⟩)]
  rw [hun]
  refine call_scr rfl Fn.entry_Unpack rfl rfl ?_
  repeat' (first | (show ER _ _ _ _ _ _ _; first | refine .seq ?_ | refine .reg ?_ | refine .yes rfl ?_ | refine .no rfl ?_ | refine .skip ?_ | refine .ret rfl ?_) | (show EG _ _ _ _ _ _ _ _ _; first | refine .mov rfl rfl ?_ | (show EG _ _ (⟨_, .bin _ _ _, _, _⟩ :: _) _ _ _ _ _ _; first | refine .lss rfl rfl rfl (fun hc => ?_) (fun hc => ?_) | refine .geq rfl rfl rfl (fun hc => ?_) (fun hc => ?_)) | refine .skip rfl ?_ | refine .fin ?_ | refine .go rfl rfl rfl ?_))
  all_goals first | rfl | (exfalso; omega)
end Go.Proofs.YtgnkcpkdlkabkaaGreat

/- Entries, packed; locked, moved; sizes rounded. -/
set_option linter.unusedVariables false
set_option linter.unusedSimpArgs false
namespace Go.Proofs.YtgnkcpkdlkabkaaGreat
open Go Go.Ir

def vals (e : Ent) : Nat → Nat
 | 0 => e.o.toNat
 | 1 => e.g.toNat
 | 2 => e.p.toNat
 | 3 => e.u.toNat
 | 4 => bitN e.lk
 | _ => bitN e.lv
def pw (e : Ent) : Nat → Nat
 | 0 => 0
 | 1 => 0 + vals e 0 * 2 ^ 0
 | 2 => 0 + vals e 0 * 2 ^ 0 + vals e 1 * 2 ^ 20
 | 3 => 0 + vals e 0 * 2 ^ 0 + vals e 1 * 2 ^ 20 + vals e 2 * 2 ^ 40
 | 4 => 0 + vals e 0 * 2 ^ 0 + vals e 1 * 2 ^ 20 + vals e 2 * 2 ^ 40 + vals e 3 * 2 ^ 44
 | 5 => 0 + vals e 0 * 2 ^ 0 + vals e 1 * 2 ^ 20 + vals e 2 * 2 ^ 40 + vals e 3 * 2 ^ 44 + vals e 4 * 2 ^ 48
 | _ => 0 + vals e 0 * 2 ^ 0 + vals e 1 * 2 ^ 20 + vals e 2 * 2 ^ 40 + vals e 3 * 2 ^ 44 + vals e 4 * 2 ^ 48 + vals e 5 * 2 ^ 49

def roundI (n : Int) : Int := (n + 7) / 8 * 8
def roundV (n : Int) : Value := if 1 ≤ n ∧ n ≤ 256 then .tuple #[I (roundI n), I 0] else .tuple #[I 0, I 9]
theorem round_spec (lo : Nat) (h : Heap) (n : Int) : callR En lo Id.handle_Round [I n] h = some (roundV n, h) := by
 refine call_scr rfl Fn.handle_Round rfl rfl ?_
 unfold roundV
 by_cases hr : 1 ≤ n ∧ n ≤ 256
 ·rw [if_pos hr]
  refine Exists.elim (show ∃ k : Nat, n = k from ⟨n.toNat, by omega⟩) fun k hk => ?_
  subst hk
  have hd : ∀ m : Nat, m % 8 = 0 → k ≤ m → m < k + 8 → roundI (k : Int) = (m : Int) := fun m h1 h2 h3 => by unfold roundI; omega
  rcases (show k % 8 = 0 ∨ k % 8 = 1 ∨ k % 8 = 2 ∨ k % 8 = 3 ∨ k % 8 = 4 ∨ k % 8 = 5 ∨ k % 8 = 6 ∨ k % 8 = 7 by omega) with h8 | h8 | h8 | h8 | h8 | h8 | h8 | h8
  all_goals
   repeat' (first | (show ER _ _ _ _ _ _ _; first | refine .goto rfl rfl ?_ | refine .seq ?_ | refine .reg ?_ | refine .yes rfl ?_ | refine .no rfl ?_ | refine .skip ?_ | refine .scope ?_ | refine .label ?_ | refine .ret rfl ?_) | (show EG _ _ _ _ _ _ _ _ _; first | refine .mov rfl rfl ?_ | (show EG _ _ (⟨_, .bin _ _ _, _, _⟩ :: _) _ _ _ _ _ _; first | refine .lssF rfl rfl rfl (by omega) ?_ | refine .gtrF rfl rfl rfl (by omega) ?_ | refine .eqlT rfl rfl rfl (by omega) ?_ | refine .eqlF rfl rfl rfl (by omega) ?_ | refine .addN (b := 1) rfl rfl rfl (by omega) ?_) | refine .remN (b := 8) rfl rfl rfl (by decide) ?_ | refine .fin ?_ | refine .go rfl rfl rfl ?_))
   exact congrArg (fun z => some (Value.tuple #[I z, I 0], h)) (hd _ (by omega) (by omega) (by omega)).symm
 ·rw [if_neg hr]
  repeat' (first | (show ER _ _ _ _ _ _ _; first | refine .seq ?_ | refine .reg ?_ | refine .yes rfl ?_ | refine .no rfl ?_ | refine .skip ?_ | refine .scope ?_ | refine .label ?_ | refine .ret rfl ?_) | (show EG _ _ _ _ _ _ _ _ _; first | refine .mov rfl rfl ?_ | (show EG _ _ (⟨_, .bin _ _ _, _, _⟩ :: _) _ _ _ _ _ _; first | refine .lss rfl rfl rfl (fun hc => ?_) (fun hc => ?_) | refine .gtr rfl rfl rfl (fun hc => ?_) (fun hc => ?_) | refine .eql rfl rfl rfl (fun hc => ?_) (fun hc => ?_)) | refine .skip rfl ?_ | refine .fin ?_ | refine .go rfl rfl rfl ?_))
  all_goals first | rfl | (exfalso; omega)
end Go.Proofs.YtgnkcpkdlkabkaaGreat

/- Heaps that change: small facts. -/
set_option linter.unusedVariables false
set_option linter.unusedSimpArgs false
namespace Go.Proofs.YtgnkcpkdlkabkaaGreat
open Go Go.Ir

structure Chg (S : List Nat) (H H' : Heap) : Prop where
 len : H.length ≤ H'.length
 same : ∀ j, j < H.length → j ∉ S → H'[j]? = H[j]?
theorem Chg.refl (S : List Nat) (H : Heap) : Chg S H H := ⟨Nat.le_refl _, fun _ _ _ => rfl⟩
theorem Chg.of {S : List Nat} {H H' : Heap} (o : Only S H H') : Chg S H H' := ⟨Nat.le_of_eq o.len.symm, fun j _ hj => o.same j hj⟩
theorem Chg.trans {S : List Nat} {H H' H'' : Heap} (a : Chg S H H') (b : Chg S H' H'') : Chg S H H'' := ⟨Nat.le_trans a.len b.len, fun j hl hj => (b.same j (Nat.lt_of_lt_of_le hl a.len) hj).trans (a.same j hl hj)⟩
theorem Chg.mono {S S' : List Nat} {H H' : Heap} (a : Chg S H H') (h : ∀ i ∈ S, i ∈ S') : Chg S' H H' := ⟨a.len, fun j hl hj => a.same j hl fun hs => hj (h j hs)⟩
theorem Chg.set {S : List Nat} {H H' : Heap} (a : Chg S H H') {i : Nat} {k : Blk} (hi : i ∈ S) : Chg S H (H'.set i k) := ⟨by rw [List.length_set]; exact a.len, fun j hl hj => by rw [List.getElem?_set_ne (fun e => hj (by rw [← e]; exact hi))]; exact a.same j hl hj⟩
theorem Chg.app {S : List Nat} {H H' : Heap} (a : Chg S H H') (k : List Blk) : Chg S H (H' ++ k) := ⟨by rw [List.length_append]; have := a.len; omega, fun j hl hj => by rw [List.getElem?_append_left (Nat.lt_of_lt_of_le hl a.len)]; exact a.same j hl hj⟩
theorem Chg.get {S : List Nat} {H H' : Heap} (a : Chg S H H') {i : Nat} {k : Blk} (h : H[i]? = some k) (hi : i ∉ S) : H'[i]? = some k := (a.same i (hlt_of h) hi).trans h

theorem IsC.chg {S : List Nat} {H H' : Heap} {c : CB} {ws bs : List Int} (hC : IsC H c ws bs) (a : Chg S H H') (h : c.P ∉ S ∧ c.W ∉ S ∧ c.Y ∉ S) : IsC H' c ws bs := by
 obtain ⟨st, hp⟩ := hC.p
 exact ⟨⟨st, a.get hp h.1⟩, a.get hC.w h.2.1, a.get hC.y h.2.2, hC.pw, hC.py, hC.wy, hC.byte⟩

theorem IsC.app {H : Heap} {cb : CB} {ws bs : List Int} (h : IsC H cb ws bs) (k : List Blk) : IsC (H ++ k) cb ws bs := h.chg (S := []) ((Chg.refl [] H).app k) (by simp)
end Go.Proofs.YtgnkcpkdlkabkaaGreat

