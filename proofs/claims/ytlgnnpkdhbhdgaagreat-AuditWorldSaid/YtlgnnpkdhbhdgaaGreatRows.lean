/-
  No cell of these rows narrows 'for every input' (looked for: loops, veiled, ifaces, maps, wideKeys, modest, calm, conditions, laid).
  DERIVED. THE GIVEN ROWS OF THIS SEAT. 4 by the template 'for every input the law returns true; each argument reads behind the call as it read before'; 0 by the template 'total and deterministic' (their statements: YtlgnnpkdhbhdgaaGreatTotals.lean).
  GIVEN WITH THE SEED: the statements are not yours to turn. If you find one false, say at which input.
  Laid BY PROGRAM, IN A SANDBOX (cutbox-rows.mjs): the forced cells as the released guide's own fill.sh prints them over the translation 713ff1833a47f323… (all of the seat's roots in one cut). By AI agents, Wed Nov 11 2026. No macro, syntax, notation, axiom, sorry.
-/
import Derived.Test.YtlgnnpkdhbhdgaaGreatChecked
import GoSem.Claim
import GoSem.ClaimJoined
import GoSem.ClaimMapViews
import Derived.JoinedTies
import Derived.KernelRfl
namespace Go.Proofs.YtlgnnpkdhbhdgaaGreat
/- THE CELL 'sum', in the pinned program and in every row, IS THE sha256 OF THE DUMP (.gsa) THAT YtlgnnpkdhbhdgaaGreatProg.lean LOADS. Nothing in Lean hashes anything: it is a label: what it is worth is what the hold of that sum in a sandbox is worth. -/
noncomputable def Tryz.pinned : Pinned := { name := "ytlgnnpkdhbhdgaagreat", sum := "713ff1833a47f323538e37c593f9ed41659cede1e5196801ce0729d92b710a58", checked := Tryz.checked }
namespace Rows
def none {H : Type} : Left H := { results := [], args := [] }

/-- 'sidingslaw21.AuditWorld': WHATEVER THE INPUT: true; the input reads as it did. -/
def auditWorldSpec : ChangeSpec := { name := "auditWorld", fn := fun _ => fun
  | [d1, d2, d3] => { results := [.lit (.bool true)], args := [d1, d2, d3] }
  | _ => none }
def auditWorldRow : OpenClaim := { program := "ytlgnnpkdhbhdgaagreat", sum := "713ff1833a47f323538e37c593f9ed41659cede1e5196801ce0729d92b710a58", func := "sidings/sidingslaw21.AuditWorld", spec := "auditWorld", unfollowed := true, recurses := true, apart := false }
def AuditWorldSaid : Prop := auditWorldRow.holds Tryz.pinned (OpenSpec.ofChange auditWorldSpec)

/-- ITS FALSE NEIGHBOUR: 'it returns false'. Refute it at one input. -/
def auditWorldWrong : ChangeSpec := { name := "auditWorld", fn := fun _ => fun
  | [d1, d2, d3] => { results := [.lit (.bool false)], args := [d1, d2, d3] }
  | _ => none }
def AuditWorldWrongFalsely : Prop := auditWorldRow.holds Tryz.pinned (OpenSpec.ofChange auditWorldWrong)

/-- 'sidingslaw21.AuditSame': WHATEVER THE INPUT: true; the input reads as it did. -/
def auditSameSpec : ChangeSpec := { name := "auditSame", fn := fun _ => fun
  | [d1, d2, d3] => { results := [.lit (.bool true)], args := [d1, d2, d3] }
  | _ => none }
def auditSameRow : OpenClaim := { program := "ytlgnnpkdhbhdgaagreat", sum := "713ff1833a47f323538e37c593f9ed41659cede1e5196801ce0729d92b710a58", func := "sidings/sidingslaw21.AuditSame", spec := "auditSame", unfollowed := true, recurses := true, apart := false }
def AuditSameSaid : Prop := auditSameRow.holds Tryz.pinned (OpenSpec.ofChange auditSameSpec)

/-- ITS FALSE NEIGHBOUR: 'it returns false'. Refute it at one input. -/
def auditSameWrong : ChangeSpec := { name := "auditSame", fn := fun _ => fun
  | [d1, d2, d3] => { results := [.lit (.bool false)], args := [d1, d2, d3] }
  | _ => none }
def AuditSameWrongFalsely : Prop := auditSameRow.holds Tryz.pinned (OpenSpec.ofChange auditSameWrong)

/-- 'sidingslaw21.AuditBytes': WHATEVER THE INPUT: true; the input reads as it did. -/
def auditBytesSpec : ChangeSpec := { name := "auditBytes", fn := fun _ => fun
  | [d1, d2, d3] => { results := [.lit (.bool true)], args := [d1, d2, d3] }
  | _ => none }
def auditBytesRow : OpenClaim := { program := "ytlgnnpkdhbhdgaagreat", sum := "713ff1833a47f323538e37c593f9ed41659cede1e5196801ce0729d92b710a58", func := "sidings/sidingslaw21.AuditBytes", spec := "auditBytes", unfollowed := true, recurses := true, apart := false }
def AuditBytesSaid : Prop := auditBytesRow.holds Tryz.pinned (OpenSpec.ofChange auditBytesSpec)

/-- ITS FALSE NEIGHBOUR: 'it returns false'. Refute it at one input. -/
def auditBytesWrong : ChangeSpec := { name := "auditBytes", fn := fun _ => fun
  | [d1, d2, d3] => { results := [.lit (.bool false)], args := [d1, d2, d3] }
  | _ => none }
def AuditBytesWrongFalsely : Prop := auditBytesRow.holds Tryz.pinned (OpenSpec.ofChange auditBytesWrong)

/-- 'sidingslaw21.AuditSum': WHATEVER THE INPUT: true; the input reads as it did. -/
def auditSumSpec : ChangeSpec := { name := "auditSum", fn := fun _ => fun
  | [d1, d2, d3] => { results := [.lit (.bool true)], args := [d1, d2, d3] }
  | _ => none }
def auditSumRow : OpenClaim := { program := "ytlgnnpkdhbhdgaagreat", sum := "713ff1833a47f323538e37c593f9ed41659cede1e5196801ce0729d92b710a58", func := "sidings/sidingslaw21.AuditSum", spec := "auditSum", unfollowed := true, recurses := true, apart := false }
def AuditSumSaid : Prop := auditSumRow.holds Tryz.pinned (OpenSpec.ofChange auditSumSpec)

/-- ITS FALSE NEIGHBOUR: 'it returns false'. Refute it at one input. -/
def auditSumWrong : ChangeSpec := { name := "auditSum", fn := fun _ => fun
  | [d1, d2, d3] => { results := [.lit (.bool false)], args := [d1, d2, d3] }
  | _ => none }
def AuditSumWrongFalsely : Prop := auditSumRow.holds Tryz.pinned (OpenSpec.ofChange auditSumWrong)

/- THE SECOND FORM. 'bulk': how many values and letters a reading holds, each counted each time it is reached (what is shared counts as often as it is met; a slice's spare places count too). A statement '..UptoSaid' is the law's where the arguments, and the package variables that the reading takes, are together of bulk at most 1048576: NARROWER than '..Said'. Prove '..Said' where nothing that the law and all that it calls make is longer than what came in: it says more and counts as full. Else prove '..UptoSaid'. A law counts once. -/
mutual
def uptoBulk {H : Type} : DataW H → Nat
  | .lit (.string bytes) => bytes.length + 1
  | .lit _ => 1
  | .nil => 1
  | .ptr d => uptoBulk d + 1
  | .slice elems spare => uptoBulkAll elems + uptoBulkAll spare + 1
  | .agg parts => uptoBulkAll parts + 1
  | .iface _ d => uptoBulk d + 1
  | .map entries => uptoBulkEntries entries + 1
  | .held _ => 1
def uptoBulkAll {H : Type} : List (DataW H) → Nat
  | [] => 0
  | d :: r => uptoBulk d + uptoBulkAll r
def uptoBulkEntries {H : Type} : List (Lit × DataW H) → Nat
  | [] => 0
  | x :: r => uptoBulkEntry x + uptoBulkEntries r
def uptoBulkEntry {H : Type} : Lit × DataW H → Nat
  | (.string bytes, d) => bytes.length + uptoBulk d + 1
  | (_, d) => uptoBulk d + 1
 end
def uptoSmall : (H : Type) → List (DataW H) → Bool := fun _ ds => decide (uptoBulkAll ds ≤ 1048576)
def OpenSpec.upto (s : _root_.Go.ChangeSpec) : _root_.Go.OpenSpec := { _root_.Go.OpenSpec.ofChange s with cond := some uptoSmall }

/-- 'sidingslaw21.AuditWorld', WHERE WHAT IT READS IS OF BULK AT MOST 1048576: true; the input reads as it did. -/
def auditWorldUptoRow : OpenClaim := { program := "ytlgnnpkdhbhdgaagreat", sum := "713ff1833a47f323538e37c593f9ed41659cede1e5196801ce0729d92b710a58", func := "sidings/sidingslaw21.AuditWorld", spec := "auditWorld", unfollowed := true, recurses := true, apart := false, narrowed := true }
def AuditWorldUptoSaid : Prop := auditWorldUptoRow.holds Tryz.pinned (OpenSpec.upto auditWorldSpec)

/-- 'sidingslaw21.AuditSame', WHERE WHAT IT READS IS OF BULK AT MOST 1048576: true; the input reads as it did. -/
def auditSameUptoRow : OpenClaim := { program := "ytlgnnpkdhbhdgaagreat", sum := "713ff1833a47f323538e37c593f9ed41659cede1e5196801ce0729d92b710a58", func := "sidings/sidingslaw21.AuditSame", spec := "auditSame", unfollowed := true, recurses := true, apart := false, narrowed := true }
def AuditSameUptoSaid : Prop := auditSameUptoRow.holds Tryz.pinned (OpenSpec.upto auditSameSpec)

/-- 'sidingslaw21.AuditBytes', WHERE WHAT IT READS IS OF BULK AT MOST 1048576: true; the input reads as it did. -/
def auditBytesUptoRow : OpenClaim := { program := "ytlgnnpkdhbhdgaagreat", sum := "713ff1833a47f323538e37c593f9ed41659cede1e5196801ce0729d92b710a58", func := "sidings/sidingslaw21.AuditBytes", spec := "auditBytes", unfollowed := true, recurses := true, apart := false, narrowed := true }
def AuditBytesUptoSaid : Prop := auditBytesUptoRow.holds Tryz.pinned (OpenSpec.upto auditBytesSpec)

/-- 'sidingslaw21.AuditSum', WHERE WHAT IT READS IS OF BULK AT MOST 1048576: true; the input reads as it did. -/
def auditSumUptoRow : OpenClaim := { program := "ytlgnnpkdhbhdgaagreat", sum := "713ff1833a47f323538e37c593f9ed41659cede1e5196801ce0729d92b710a58", func := "sidings/sidingslaw21.AuditSum", spec := "auditSum", unfollowed := true, recurses := true, apart := false, narrowed := true }
def AuditSumUptoSaid : Prop := auditSumUptoRow.holds Tryz.pinned (OpenSpec.upto auditSumSpec)

end Rows
end Go.Proofs.YtlgnnpkdhbhdgaaGreat
