/-
  No cell of these rows narrows 'for every input' (looked for: loops, veiled, ifaces, maps, wideKeys, modest, calm, conditions, laid).
  DERIVED. THE GIVEN ROWS OF THIS SEAT. 6 by the template 'for every input the law returns true; each argument reads behind the call as it read before'; 0 by the template 'total and deterministic' (their statements: YtgdlplhglpinaaaTotals.lean).
  GIVEN WITH THE SEED: the statements are not yours to turn. If you find one false, say at which input.
  Laid BY PROGRAM, IN A SANDBOX (cutbox-rows.mjs): the forced cells as the released guide's own fill.sh prints them over the translation 5acb0b84211b6e1e… (all of the seat's roots in one cut). By AI agents, Wed Nov 11 2026. No macro, syntax, notation, axiom, sorry.
-/
import Derived.Test.YtgdlplhglpinaaaChecked
import GoSem.Claim
import GoSem.ClaimJoined
import GoSem.ClaimMapViews
import Derived.JoinedTies
import Derived.KernelRfl
namespace Go.Proofs.Ytgdlplhglpinaaa
/- THE CELL 'sum', in the pinned program and in every row, IS THE sha256 OF THE DUMP (.gsa) THAT YtgdlplhglpinaaaProg.lean LOADS. Nothing in Lean hashes anything: it is a label: what it is worth is what the hold of that sum in a sandbox is worth. -/
noncomputable def Try.pinned : Pinned := { name := "ytgdlplhglpinaaa", sum := "5acb0b84211b6e1e501f392e50462f67c0738656252df86bd071d5df5572dd76", checked := Try.checked }
namespace Rows
def none {H : Type} : Left H := { results := [], args := [] }

/-- 'sidingslaw08.EventCalls': WHATEVER THE INPUT: true; the input reads as it did. -/
def eventCallsSpec : ChangeSpec := { name := "eventCalls", fn := fun _ => fun
  | [d] => { results := [.lit (.bool true)], args := [d] }
  | _ => none }
def eventCallsRow : OpenClaim := { program := "ytgdlplhglpinaaa", sum := "5acb0b84211b6e1e501f392e50462f67c0738656252df86bd071d5df5572dd76", func := "sidings/sidingslaw08.EventCalls", spec := "eventCalls", recurses := true, apart := false }
def EventCallsSaid : Prop := eventCallsRow.holds Try.pinned (OpenSpec.ofChange eventCallsSpec)

/-- ITS FALSE NEIGHBOUR: 'it returns false'. Refute it at one input. -/
def eventCallsWrong : ChangeSpec := { name := "eventCalls", fn := fun _ => fun
  | [d] => { results := [.lit (.bool false)], args := [d] }
  | _ => none }
def EventCallsWrongFalsely : Prop := eventCallsRow.holds Try.pinned (OpenSpec.ofChange eventCallsWrong)

/-- 'sidingslaw08.EventBefore': WHATEVER THE INPUT: true; the input reads as it did. -/
def eventBeforeSpec : ChangeSpec := { name := "eventBefore", fn := fun _ => fun
  | [d1, d2] => { results := [.lit (.bool true)], args := [d1, d2] }
  | _ => none }
def eventBeforeRow : OpenClaim := { program := "ytgdlplhglpinaaa", sum := "5acb0b84211b6e1e501f392e50462f67c0738656252df86bd071d5df5572dd76", func := "sidings/sidingslaw08.EventBefore", spec := "eventBefore", recurses := true, apart := false }
def EventBeforeSaid : Prop := eventBeforeRow.holds Try.pinned (OpenSpec.ofChange eventBeforeSpec)

/-- ITS FALSE NEIGHBOUR: 'it returns false'. Refute it at one input. -/
def eventBeforeWrong : ChangeSpec := { name := "eventBefore", fn := fun _ => fun
  | [d1, d2] => { results := [.lit (.bool false)], args := [d1, d2] }
  | _ => none }
def EventBeforeWrongFalsely : Prop := eventBeforeRow.holds Try.pinned (OpenSpec.ofChange eventBeforeWrong)

/-- 'sidingslaw08.EventTurns': WHATEVER THE INPUT: true; the input reads as it did. -/
def eventTurnsSpec : ChangeSpec := { name := "eventTurns", fn := fun _ => fun
  | [d] => { results := [.lit (.bool true)], args := [d] }
  | _ => none }
def eventTurnsRow : OpenClaim := { program := "ytgdlplhglpinaaa", sum := "5acb0b84211b6e1e501f392e50462f67c0738656252df86bd071d5df5572dd76", func := "sidings/sidingslaw08.EventTurns", spec := "eventTurns", recurses := true, apart := false }
def EventTurnsSaid : Prop := eventTurnsRow.holds Try.pinned (OpenSpec.ofChange eventTurnsSpec)

/-- ITS FALSE NEIGHBOUR: 'it returns false'. Refute it at one input. -/
def eventTurnsWrong : ChangeSpec := { name := "eventTurns", fn := fun _ => fun
  | [d] => { results := [.lit (.bool false)], args := [d] }
  | _ => none }
def EventTurnsWrongFalsely : Prop := eventTurnsRow.holds Try.pinned (OpenSpec.ofChange eventTurnsWrong)

/-- 'sidingslaw08.EventCut': WHATEVER THE INPUT: true; the input reads as it did. -/
def eventCutSpec : ChangeSpec := { name := "eventCut", fn := fun _ => fun
  | [d1, d2] => { results := [.lit (.bool true)], args := [d1, d2] }
  | _ => none }
def eventCutRow : OpenClaim := { program := "ytgdlplhglpinaaa", sum := "5acb0b84211b6e1e501f392e50462f67c0738656252df86bd071d5df5572dd76", func := "sidings/sidingslaw08.EventCut", spec := "eventCut", recurses := true, apart := false }
def EventCutSaid : Prop := eventCutRow.holds Try.pinned (OpenSpec.ofChange eventCutSpec)

/-- ITS FALSE NEIGHBOUR: 'it returns false'. Refute it at one input. -/
def eventCutWrong : ChangeSpec := { name := "eventCut", fn := fun _ => fun
  | [d1, d2] => { results := [.lit (.bool false)], args := [d1, d2] }
  | _ => none }
def EventCutWrongFalsely : Prop := eventCutRow.holds Try.pinned (OpenSpec.ofChange eventCutWrong)

/-- 'sidingslaw08.EventApart': WHATEVER THE INPUT: true; the input reads as it did. -/
def eventApartSpec : ChangeSpec := { name := "eventApart", fn := fun _ => fun
  | [d1, d2] => { results := [.lit (.bool true)], args := [d1, d2] }
  | _ => none }
def eventApartRow : OpenClaim := { program := "ytgdlplhglpinaaa", sum := "5acb0b84211b6e1e501f392e50462f67c0738656252df86bd071d5df5572dd76", func := "sidings/sidingslaw08.EventApart", spec := "eventApart", recurses := true, apart := false }
def EventApartSaid : Prop := eventApartRow.holds Try.pinned (OpenSpec.ofChange eventApartSpec)

/-- ITS FALSE NEIGHBOUR: 'it returns false'. Refute it at one input. -/
def eventApartWrong : ChangeSpec := { name := "eventApart", fn := fun _ => fun
  | [d1, d2] => { results := [.lit (.bool false)], args := [d1, d2] }
  | _ => none }
def EventApartWrongFalsely : Prop := eventApartRow.holds Try.pinned (OpenSpec.ofChange eventApartWrong)

/-- 'sidingslaw08.EventHandles': WHATEVER THE INPUT: true; the input reads as it did. -/
def eventHandlesSpec : ChangeSpec := { name := "eventHandles", fn := fun _ => fun
  | [d1, d2] => { results := [.lit (.bool true)], args := [d1, d2] }
  | _ => none }
def eventHandlesRow : OpenClaim := { program := "ytgdlplhglpinaaa", sum := "5acb0b84211b6e1e501f392e50462f67c0738656252df86bd071d5df5572dd76", func := "sidings/sidingslaw08.EventHandles", spec := "eventHandles", recurses := true, apart := false }
def EventHandlesSaid : Prop := eventHandlesRow.holds Try.pinned (OpenSpec.ofChange eventHandlesSpec)

/-- ITS FALSE NEIGHBOUR: 'it returns false'. Refute it at one input. -/
def eventHandlesWrong : ChangeSpec := { name := "eventHandles", fn := fun _ => fun
  | [d1, d2] => { results := [.lit (.bool false)], args := [d1, d2] }
  | _ => none }
def EventHandlesWrongFalsely : Prop := eventHandlesRow.holds Try.pinned (OpenSpec.ofChange eventHandlesWrong)

/- THE SECOND FORM. 'bulk': how many values and letters a reading holds, each counted each time it is reached (what is shared counts as often as it is met; a slice's spare places count too). A statement '..UptoSaid' is the law's where the arguments, and the package variables that the reading takes, are together of bulk at most 1048576: NARROWER than '..Said'. Prove '..Said' where nothing that the law and all that it calls make is longer than what came in: it says more and counts as full. Else prove '..UptoSaid'. A law counts once. -/
mutual
def uptoBulk {H : Type} : DataW H → Nat
  | .lit (.string bytes) => bytes.length + 1
  | .lit _ => 1
  | .nil => 1
  | .ptr d => uptoBulk d + 1
  | .slice elems spare => uptoBulkAll elems + uptoBulkAll spare + 1
  | .agg parts => uptoBulkAll parts + 1
  | .iface _ d => uptoBulk d + 1
  | .map entries => uptoBulkEntries entries + 1
  | .held _ => 1
def uptoBulkAll {H : Type} : List (DataW H) → Nat
  | [] => 0
  | d :: r => uptoBulk d + uptoBulkAll r
def uptoBulkEntries {H : Type} : List (Lit × DataW H) → Nat
  | [] => 0
  | x :: r => uptoBulkEntry x + uptoBulkEntries r
def uptoBulkEntry {H : Type} : Lit × DataW H → Nat
  | (.string bytes, d) => bytes.length + uptoBulk d + 1
  | (_, d) => uptoBulk d + 1
 end
def uptoSmall : (H : Type) → List (DataW H) → Bool := fun _ ds => decide (uptoBulkAll ds ≤ 1048576)
def OpenSpec.upto (s : _root_.Go.ChangeSpec) : _root_.Go.OpenSpec := { _root_.Go.OpenSpec.ofChange s with cond := some uptoSmall }

/-- 'sidingslaw08.EventCalls', WHERE WHAT IT READS IS OF BULK AT MOST 1048576: true; the input reads as it did. -/
def eventCallsUptoRow : OpenClaim := { program := "ytgdlplhglpinaaa", sum := "5acb0b84211b6e1e501f392e50462f67c0738656252df86bd071d5df5572dd76", func := "sidings/sidingslaw08.EventCalls", spec := "eventCalls", recurses := true, apart := false, narrowed := true }
def EventCallsUptoSaid : Prop := eventCallsUptoRow.holds Try.pinned (OpenSpec.upto eventCallsSpec)

/-- 'sidingslaw08.EventBefore', WHERE WHAT IT READS IS OF BULK AT MOST 1048576: true; the input reads as it did. -/
def eventBeforeUptoRow : OpenClaim := { program := "ytgdlplhglpinaaa", sum := "5acb0b84211b6e1e501f392e50462f67c0738656252df86bd071d5df5572dd76", func := "sidings/sidingslaw08.EventBefore", spec := "eventBefore", recurses := true, apart := false, narrowed := true }
def EventBeforeUptoSaid : Prop := eventBeforeUptoRow.holds Try.pinned (OpenSpec.upto eventBeforeSpec)

/-- 'sidingslaw08.EventTurns', WHERE WHAT IT READS IS OF BULK AT MOST 1048576: true; the input reads as it did. -/
def eventTurnsUptoRow : OpenClaim := { program := "ytgdlplhglpinaaa", sum := "5acb0b84211b6e1e501f392e50462f67c0738656252df86bd071d5df5572dd76", func := "sidings/sidingslaw08.EventTurns", spec := "eventTurns", recurses := true, apart := false, narrowed := true }
def EventTurnsUptoSaid : Prop := eventTurnsUptoRow.holds Try.pinned (OpenSpec.upto eventTurnsSpec)

/-- 'sidingslaw08.EventCut', WHERE WHAT IT READS IS OF BULK AT MOST 1048576: true; the input reads as it did. -/
def eventCutUptoRow : OpenClaim := { program := "ytgdlplhglpinaaa", sum := "5acb0b84211b6e1e501f392e50462f67c0738656252df86bd071d5df5572dd76", func := "sidings/sidingslaw08.EventCut", spec := "eventCut", recurses := true, apart := false, narrowed := true }
def EventCutUptoSaid : Prop := eventCutUptoRow.holds Try.pinned (OpenSpec.upto eventCutSpec)

/-- 'sidingslaw08.EventApart', WHERE WHAT IT READS IS OF BULK AT MOST 1048576: true; the input reads as it did. -/
def eventApartUptoRow : OpenClaim := { program := "ytgdlplhglpinaaa", sum := "5acb0b84211b6e1e501f392e50462f67c0738656252df86bd071d5df5572dd76", func := "sidings/sidingslaw08.EventApart", spec := "eventApart", recurses := true, apart := false, narrowed := true }
def EventApartUptoSaid : Prop := eventApartUptoRow.holds Try.pinned (OpenSpec.upto eventApartSpec)

/-- 'sidingslaw08.EventHandles', WHERE WHAT IT READS IS OF BULK AT MOST 1048576: true; the input reads as it did. -/
def eventHandlesUptoRow : OpenClaim := { program := "ytgdlplhglpinaaa", sum := "5acb0b84211b6e1e501f392e50462f67c0738656252df86bd071d5df5572dd76", func := "sidings/sidingslaw08.EventHandles", spec := "eventHandles", recurses := true, apart := false, narrowed := true }
def EventHandlesUptoSaid : Prop := eventHandlesUptoRow.holds Try.pinned (OpenSpec.upto eventHandlesSpec)

end Rows
end Go.Proofs.Ytgdlplhglpinaaa
