/-
  No cell of these rows narrows 'for every input' (looked for: loops, veiled, ifaces, maps, wideKeys, modest, calm, conditions, laid).
  DERIVED. THE GIVEN ROWS OF THIS SEAT. 5 by the template 'for every input the law returns true; each argument reads behind the call as it read before'; 0 by the template 'total and deterministic' (their statements: YtfpfknafcgkcjaaTotals.lean).
  GIVEN WITH THE SEED: the statements are not yours to turn. If you find one false, say at which input.
  Laid BY PROGRAM, IN A SANDBOX (cutbox-rows.mjs): the forced cells as the released guide's own fill.sh prints them over the translation fa4a29b82d64c83a… (all of the seat's roots in one cut). By AI agents, Wed Nov 11 2026. No macro, syntax, notation, axiom, sorry.
-/
import Derived.Test.YtfpfknafcgkcjaaChecked
import GoSem.Claim
import GoSem.ClaimJoined
import GoSem.ClaimMapViews
import Derived.JoinedTies
import Derived.KernelRfl
namespace Go.Proofs.Ytfpfknafcgkcjaa
/- THE CELL 'sum', in the pinned program and in every row, IS THE sha256 OF THE DUMP (.gsa) THAT YtfpfknafcgkcjaaProg.lean LOADS. Nothing in Lean hashes anything: it is a label: what it is worth is what the hold of that sum in a sandbox is worth. -/
noncomputable def Try.pinned : Pinned := { name := "ytfpfknafcgkcjaa", sum := "fa4a29b82d64c83acd93205fe0c96a99484176e058aaa0a776f09a50771a528e", checked := Try.checked }
namespace Rows
def none {H : Type} : Left H := { results := [], args := [] }

/-- 'sidingslaw18.CompactEnds': WHATEVER THE INPUT: true; the input reads as it did. -/
def compactEndsSpec : ChangeSpec := { name := "compactEnds", fn := fun _ => fun
  | [d1, d2, d3] => { results := [.lit (.bool true)], args := [d1, d2, d3] }
  | _ => none }
def compactEndsRow : OpenClaim := { program := "ytfpfknafcgkcjaa", sum := "fa4a29b82d64c83acd93205fe0c96a99484176e058aaa0a776f09a50771a528e", func := "sidings/sidingslaw18.CompactEnds", spec := "compactEnds", unfollowed := true, recurses := true, apart := false }
def CompactEndsSaid : Prop := compactEndsRow.holds Try.pinned (OpenSpec.ofChange compactEndsSpec)

/-- ITS FALSE NEIGHBOUR: 'it returns false'. Refute it at one input. -/
def compactEndsWrong : ChangeSpec := { name := "compactEnds", fn := fun _ => fun
  | [d1, d2, d3] => { results := [.lit (.bool false)], args := [d1, d2, d3] }
  | _ => none }
def CompactEndsWrongFalsely : Prop := compactEndsRow.holds Try.pinned (OpenSpec.ofChange compactEndsWrong)

/-- 'sidingslaw18.CompactBusy': WHATEVER THE INPUT: true; the input reads as it did. -/
def compactBusySpec : ChangeSpec := { name := "compactBusy", fn := fun _ => fun
  | [d] => { results := [.lit (.bool true)], args := [d] }
  | _ => none }
def compactBusyRow : OpenClaim := { program := "ytfpfknafcgkcjaa", sum := "fa4a29b82d64c83acd93205fe0c96a99484176e058aaa0a776f09a50771a528e", func := "sidings/sidingslaw18.CompactBusy", spec := "compactBusy", unfollowed := true, recurses := true, apart := false }
def CompactBusySaid : Prop := compactBusyRow.holds Try.pinned (OpenSpec.ofChange compactBusySpec)

/-- ITS FALSE NEIGHBOUR: 'it returns false'. Refute it at one input. -/
def compactBusyWrong : ChangeSpec := { name := "compactBusy", fn := fun _ => fun
  | [d] => { results := [.lit (.bool false)], args := [d] }
  | _ => none }
def CompactBusyWrongFalsely : Prop := compactBusyRow.holds Try.pinned (OpenSpec.ofChange compactBusyWrong)

/-- 'sidingslaw18.CompactTwice': WHATEVER THE INPUT: true; the input reads as it did. -/
def compactTwiceSpec : ChangeSpec := { name := "compactTwice", fn := fun _ => fun
  | [d1, d2, d3] => { results := [.lit (.bool true)], args := [d1, d2, d3] }
  | _ => none }
def compactTwiceRow : OpenClaim := { program := "ytfpfknafcgkcjaa", sum := "fa4a29b82d64c83acd93205fe0c96a99484176e058aaa0a776f09a50771a528e", func := "sidings/sidingslaw18.CompactTwice", spec := "compactTwice", unfollowed := true, recurses := true, apart := false }
def CompactTwiceSaid : Prop := compactTwiceRow.holds Try.pinned (OpenSpec.ofChange compactTwiceSpec)

/-- ITS FALSE NEIGHBOUR: 'it returns false'. Refute it at one input. -/
def compactTwiceWrong : ChangeSpec := { name := "compactTwice", fn := fun _ => fun
  | [d1, d2, d3] => { results := [.lit (.bool false)], args := [d1, d2, d3] }
  | _ => none }
def CompactTwiceWrongFalsely : Prop := compactTwiceRow.holds Try.pinned (OpenSpec.ofChange compactTwiceWrong)

/-- 'sidingslaw18.CompactNil': WHATEVER THE INPUT: true; the input reads as it did. -/
def compactNilSpec : ChangeSpec := { name := "compactNil", fn := fun _ => fun
  | [d] => { results := [.lit (.bool true)], args := [d] }
  | _ => none }
def compactNilRow : OpenClaim := { program := "ytfpfknafcgkcjaa", sum := "fa4a29b82d64c83acd93205fe0c96a99484176e058aaa0a776f09a50771a528e", func := "sidings/sidingslaw18.CompactNil", spec := "compactNil", unfollowed := true, recurses := true, apart := false }
def CompactNilSaid : Prop := compactNilRow.holds Try.pinned (OpenSpec.ofChange compactNilSpec)

/-- ITS FALSE NEIGHBOUR: 'it returns false'. Refute it at one input. -/
def compactNilWrong : ChangeSpec := { name := "compactNil", fn := fun _ => fun
  | [d] => { results := [.lit (.bool false)], args := [d] }
  | _ => none }
def CompactNilWrongFalsely : Prop := compactNilRow.holds Try.pinned (OpenSpec.ofChange compactNilWrong)

/-- 'sidingslaw18.CompactLocks': WHATEVER THE INPUT: true; the input reads as it did. -/
def compactLocksSpec : ChangeSpec := { name := "compactLocks", fn := fun _ => fun
  | [d1, d2, d3] => { results := [.lit (.bool true)], args := [d1, d2, d3] }
  | _ => none }
def compactLocksRow : OpenClaim := { program := "ytfpfknafcgkcjaa", sum := "fa4a29b82d64c83acd93205fe0c96a99484176e058aaa0a776f09a50771a528e", func := "sidings/sidingslaw18.CompactLocks", spec := "compactLocks", unfollowed := true, recurses := true, apart := false }
def CompactLocksSaid : Prop := compactLocksRow.holds Try.pinned (OpenSpec.ofChange compactLocksSpec)

/-- ITS FALSE NEIGHBOUR: 'it returns false'. Refute it at one input. -/
def compactLocksWrong : ChangeSpec := { name := "compactLocks", fn := fun _ => fun
  | [d1, d2, d3] => { results := [.lit (.bool false)], args := [d1, d2, d3] }
  | _ => none }
def CompactLocksWrongFalsely : Prop := compactLocksRow.holds Try.pinned (OpenSpec.ofChange compactLocksWrong)

/- THE SECOND FORM. 'bulk': how many values and letters a reading holds, each counted each time it is reached (what is shared counts as often as it is met; a slice's spare places count too). A statement '..UptoSaid' is the law's where the arguments, and the package variables that the reading takes, are together of bulk at most 1048576: NARROWER than '..Said'. Prove '..Said' where nothing that the law and all that it calls make is longer than what came in: it says more and counts as full. Else prove '..UptoSaid'. A law counts once. -/
mutual
def uptoBulk {H : Type} : DataW H → Nat
  | .lit (.string bytes) => bytes.length + 1
  | .lit _ => 1
  | .nil => 1
  | .ptr d => uptoBulk d + 1
  | .slice elems spare => uptoBulkAll elems + uptoBulkAll spare + 1
  | .agg parts => uptoBulkAll parts + 1
  | .iface _ d => uptoBulk d + 1
  | .map entries => uptoBulkEntries entries + 1
  | .held _ => 1
def uptoBulkAll {H : Type} : List (DataW H) → Nat
  | [] => 0
  | d :: r => uptoBulk d + uptoBulkAll r
def uptoBulkEntries {H : Type} : List (Lit × DataW H) → Nat
  | [] => 0
  | x :: r => uptoBulkEntry x + uptoBulkEntries r
def uptoBulkEntry {H : Type} : Lit × DataW H → Nat
  | (.string bytes, d) => bytes.length + uptoBulk d + 1
  | (_, d) => uptoBulk d + 1
 end
def uptoSmall : (H : Type) → List (DataW H) → Bool := fun _ ds => decide (uptoBulkAll ds ≤ 1048576)
def OpenSpec.upto (s : _root_.Go.ChangeSpec) : _root_.Go.OpenSpec := { _root_.Go.OpenSpec.ofChange s with cond := some uptoSmall }

/-- 'sidingslaw18.CompactEnds', WHERE WHAT IT READS IS OF BULK AT MOST 1048576: true; the input reads as it did. -/
def compactEndsUptoRow : OpenClaim := { program := "ytfpfknafcgkcjaa", sum := "fa4a29b82d64c83acd93205fe0c96a99484176e058aaa0a776f09a50771a528e", func := "sidings/sidingslaw18.CompactEnds", spec := "compactEnds", unfollowed := true, recurses := true, apart := false, narrowed := true }
def CompactEndsUptoSaid : Prop := compactEndsUptoRow.holds Try.pinned (OpenSpec.upto compactEndsSpec)

/-- 'sidingslaw18.CompactBusy', WHERE WHAT IT READS IS OF BULK AT MOST 1048576: true; the input reads as it did. -/
def compactBusyUptoRow : OpenClaim := { program := "ytfpfknafcgkcjaa", sum := "fa4a29b82d64c83acd93205fe0c96a99484176e058aaa0a776f09a50771a528e", func := "sidings/sidingslaw18.CompactBusy", spec := "compactBusy", unfollowed := true, recurses := true, apart := false, narrowed := true }
def CompactBusyUptoSaid : Prop := compactBusyUptoRow.holds Try.pinned (OpenSpec.upto compactBusySpec)

/-- 'sidingslaw18.CompactTwice', WHERE WHAT IT READS IS OF BULK AT MOST 1048576: true; the input reads as it did. -/
def compactTwiceUptoRow : OpenClaim := { program := "ytfpfknafcgkcjaa", sum := "fa4a29b82d64c83acd93205fe0c96a99484176e058aaa0a776f09a50771a528e", func := "sidings/sidingslaw18.CompactTwice", spec := "compactTwice", unfollowed := true, recurses := true, apart := false, narrowed := true }
def CompactTwiceUptoSaid : Prop := compactTwiceUptoRow.holds Try.pinned (OpenSpec.upto compactTwiceSpec)

/-- 'sidingslaw18.CompactNil', WHERE WHAT IT READS IS OF BULK AT MOST 1048576: true; the input reads as it did. -/
def compactNilUptoRow : OpenClaim := { program := "ytfpfknafcgkcjaa", sum := "fa4a29b82d64c83acd93205fe0c96a99484176e058aaa0a776f09a50771a528e", func := "sidings/sidingslaw18.CompactNil", spec := "compactNil", unfollowed := true, recurses := true, apart := false, narrowed := true }
def CompactNilUptoSaid : Prop := compactNilUptoRow.holds Try.pinned (OpenSpec.upto compactNilSpec)

/-- 'sidingslaw18.CompactLocks', WHERE WHAT IT READS IS OF BULK AT MOST 1048576: true; the input reads as it did. -/
def compactLocksUptoRow : OpenClaim := { program := "ytfpfknafcgkcjaa", sum := "fa4a29b82d64c83acd93205fe0c96a99484176e058aaa0a776f09a50771a528e", func := "sidings/sidingslaw18.CompactLocks", spec := "compactLocks", unfollowed := true, recurses := true, apart := false, narrowed := true }
def CompactLocksUptoSaid : Prop := compactLocksUptoRow.holds Try.pinned (OpenSpec.upto compactLocksSpec)

end Rows
end Go.Proofs.Ytfpfknafcgkcjaa
