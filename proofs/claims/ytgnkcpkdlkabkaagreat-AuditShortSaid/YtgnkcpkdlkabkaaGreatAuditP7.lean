/- The document's cells. -/
import Derived.Test.YtgnkcpkdlkabkaaGreatAuditP5
import Derived.Test.YtgnkcpkdlkabkaaGreatAuditP2
import Derived.Test.YtgnkcpkdlkabkaaGreatAuditP6

set_option linter.unusedVariables false
set_option linter.unusedSimpArgs false
namespace Go.Proofs.YtgnkcpkdlkabkaaGreat
open Go Go.Ir

structure IsR (H : Heap) (c : CB) (ws bs : List Int) : Prop where
 p : ∃ st, H[c.P]? = some (.row (prow c ws.length bs.length st) false)
 w : H[c.W]? = some (.row (ints ws) false)
 y : H[c.Y]? = some (.row (ints bs) false)
 pw : c.P ≠ c.W
 py : c.P ≠ c.Y
 wy : c.W ≠ c.Y
 byte : ∀ b ∈ bs, 0 ≤ b ∧ b < 256

theorem IsR.chg {S : List Nat} {H H' : Heap} {c : CB} {ws bs : List Int} (hC : IsR H c ws bs) (a : Chg S H H') (h : c.P ∉ S ∧ c.W ∉ S ∧ c.Y ∉ S) : IsR H' c ws bs := by
 obtain ⟨st, hp⟩ := hC.p
 exact ⟨⟨st, a.get hp h.1⟩, a.get hC.w h.2.1, a.get hC.y h.2.2, hC.pw, hC.py, hC.wy, hC.byte⟩

section
variable {lo : Nat} {H : Heap} {c : CB} {ws bs : List Int}

theorem IsR.p0 (hC : IsR H c ws bs) : loadV H none ⟨c.P, 0 + 0, none⟩ = some (.slice (some ⟨c.W, 0, none⟩) ws.length ws.length) := by
 obtain ⟨st, hp⟩ := hC.p
 exact ld_row hp rfl
theorem IsR.p1 (hC : IsR H c ws bs) : loadV H none ⟨c.P, 0 + 1, none⟩ = some (.slice (some ⟨c.Y, 0, none⟩) bs.length bs.length) := by
 obtain ⟨st, hp⟩ := hC.p
 exact ld_row hp rfl
theorem IsR.w_ld (hC : IsR H c ws bs) {k : Nat} (hk : k < ws.length) : loadV H none ⟨c.W, 0 + k * 1, none⟩ = some (I (ws.getD k 0)) :=
 ld_row hC.w (by rw [Nat.zero_add, Nat.mul_one, ints, List.getElem?_map, getD_of hk]; rfl)
theorem IsR.y_ld (hC : IsR H c ws bs) {k : Nat} (hk : k < bs.length) : loadV H none ⟨c.Y, 0 + k * 1, none⟩ = some (I (bs.getD k 0)) :=
 ld_row hC.y (by rw [Nat.zero_add, Nat.mul_one, ints, List.getElem?_map, getD_of hk]; rfl)
end
end Go.Proofs.YtgnkcpkdlkabkaaGreat

/- The document's layout, and heads. -/
set_option linter.unusedVariables false
set_option linter.unusedSimpArgs false
namespace Go.Ir
open Go
section
variable {E : Env} {lo : Nat} {os : List IOper} {f : Fr} {h : Heap} {hs : List Heap} {k : List Item} {rs : List IRes} {Q : Value → Heap → Prop} {d : Nat} {g : Option (Nat × Bool)} {x y : Operand}
end
end Go.Ir
namespace Go.Proofs.YtgnkcpkdlkabkaaGreat
open Go Go.Ir

section
variable {lo : Nat} {h : Heap} {c : Cfg}
end
end Go.Proofs.YtgnkcpkdlkabkaaGreat

/- The objects of cells, by the document. -/
set_option linter.unusedVariables false
set_option linter.unusedSimpArgs false
namespace Go.Proofs.YtgnkcpkdlkabkaaGreat
open Go Go.Ir

theorem IsR.keep {H H' : Heap} {c : CB} {ws bs : List Int} (hC : IsR H c ws bs) {lo : Nat} (h : ∀ i, i < lo → H'[i]? = H[i]?) (hb : c.P < lo ∧ c.W < lo ∧ c.Y < lo) : IsR H' c ws bs := by
 obtain ⟨st, hp⟩ := hC.p
 exact ⟨⟨st, (h _ hb.1).trans hp⟩, (h _ hb.2.1).trans hC.w, (h _ hb.2.2).trans hC.y, hC.pw, hC.py, hC.wy, hC.byte⟩
theorem IsR.lts {H : Heap} {c : CB} {ws bs : List Int} (hC : IsR H c ws bs) : c.P < H.length ∧ c.W < H.length ∧ c.Y < H.length := by
 obtain ⟨st, hp⟩ := hC.p
 exact ⟨hlt_of hp, hlt_of hC.w, hlt_of hC.y⟩
theorem IsR.ext {H H' : Heap} {c : CB} {ws bs : List Int} (hC : IsR H c ws bs) (e : Ext H H') : IsR H' c ws bs := hC.keep e.2 hC.lts
section
variable {lo : Nat} {H : Heap} {cb : CB} {ws bs : List Int}
end
end Go.Proofs.YtgnkcpkdlkabkaaGreat

/- Free slots, locks, and spare slots, by the document. -/
set_option linter.unusedVariables false
set_option linter.unusedSimpArgs false
namespace Go.Proofs.YtgnkcpkdlkabkaaGreat
open Go Go.Ir

section
variable {lo : Nat} {H : Heap} {cb : CB} {ws bs : List Int} {c : Cfg}
end
end Go.Proofs.YtgnkcpkdlkabkaaGreat

/- Spare slots, and whether cells are sound, by the document. -/
set_option linter.unusedVariables false
set_option linter.unusedSimpArgs false
namespace Go.Proofs.YtgnkcpkdlkabkaaGreat
open Go Go.Ir

section
variable {lo : Nat} {H : Heap} {cb : CB} {ws bs : List Int} {c : Cfg}
end
end Go.Proofs.YtgnkcpkdlkabkaaGreat

/- A slot's bytes, by the document. -/
set_option linter.unusedVariables false
set_option linter.unusedSimpArgs false
namespace Go.Proofs.YtgnkcpkdlkabkaaGreat
open Go Go.Ir

section
variable {lo : Nat} {H : Heap} {cb : CB} {ws bs : List Int}
end
end Go.Proofs.YtgnkcpkdlkabkaaGreat

