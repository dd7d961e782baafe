/-
  No cell of these rows narrows 'for every input' (looked for: loops, veiled, ifaces, maps, wideKeys, modest, calm, conditions, laid).
  DERIVED. THE GIVEN ROWS OF THIS SEAT. 4 by the template 'for every input the law returns true; each argument reads behind the call as it read before'; 0 by the template 'total and deterministic' (their statements: YtclgilndihagiaaTotals.lean).
  GIVEN WITH THE SEED: the statements are not yours to turn. If you find one false, say at which input.
  Laid BY PROGRAM, IN A SANDBOX (cutbox-rows.mjs): the forced cells as the released guide's own fill.sh prints them over the translation 9106aef981d38490… (all of the seat's roots in one cut). By AI agents, Wed Nov 11 2026. No macro, syntax, notation, axiom, sorry.
-/
import Derived.Test.YtclgilndihagiaaChecked
import GoSem.Claim
import GoSem.ClaimJoined
import GoSem.ClaimMapViews
import Derived.JoinedTies
import Derived.KernelRfl
namespace Go.Proofs.Ytclgilndihagiaa
/- THE CELL 'sum', in the pinned program and in every row, IS THE sha256 OF THE DUMP (.gsa) THAT YtclgilndihagiaaProg.lean LOADS. Nothing in Lean hashes anything: it is a label: what it is worth is what the hold of that sum in a sandbox is worth. -/
noncomputable def Try.pinned : Pinned := { name := "ytclgilndihagiaa", sum := "9106aef981d384904fe3c91c8a43ade99a43f25455355fd07939f7092ac5a148", checked := Try.checked }
namespace Rows
def none {H : Type} : Left H := { results := [], args := [] }

/-- 'sidingslaw17.PlanSlides': WHATEVER THE INPUT: true; the input reads as it did. -/
def planSlidesSpec : ChangeSpec := { name := "planSlides", fn := fun _ => fun
  | [d1, d2] => { results := [.lit (.bool true)], args := [d1, d2] }
  | _ => none }
def planSlidesRow : OpenClaim := { program := "ytclgilndihagiaa", sum := "9106aef981d384904fe3c91c8a43ade99a43f25455355fd07939f7092ac5a148", func := "sidings/sidingslaw17.PlanSlides", spec := "planSlides", unfollowed := true, recurses := true, apart := false }
def PlanSlidesSaid : Prop := planSlidesRow.holds Try.pinned (OpenSpec.ofChange planSlidesSpec)

/-- ITS FALSE NEIGHBOUR: 'it returns false'. Refute it at one input. -/
def planSlidesWrong : ChangeSpec := { name := "planSlides", fn := fun _ => fun
  | [d1, d2] => { results := [.lit (.bool false)], args := [d1, d2] }
  | _ => none }
def PlanSlidesWrongFalsely : Prop := planSlidesRow.holds Try.pinned (OpenSpec.ofChange planSlidesWrong)

/-- 'sidingslaw17.PlanOrder': WHATEVER THE INPUT: true; the input reads as it did. -/
def planOrderSpec : ChangeSpec := { name := "planOrder", fn := fun _ => fun
  | [d1, d2] => { results := [.lit (.bool true)], args := [d1, d2] }
  | _ => none }
def planOrderRow : OpenClaim := { program := "ytclgilndihagiaa", sum := "9106aef981d384904fe3c91c8a43ade99a43f25455355fd07939f7092ac5a148", func := "sidings/sidingslaw17.PlanOrder", spec := "planOrder", unfollowed := true, recurses := true, apart := false }
def PlanOrderSaid : Prop := planOrderRow.holds Try.pinned (OpenSpec.ofChange planOrderSpec)

/-- ITS FALSE NEIGHBOUR: 'it returns false'. Refute it at one input. -/
def planOrderWrong : ChangeSpec := { name := "planOrder", fn := fun _ => fun
  | [d1, d2] => { results := [.lit (.bool false)], args := [d1, d2] }
  | _ => none }
def PlanOrderWrongFalsely : Prop := planOrderRow.holds Try.pinned (OpenSpec.ofChange planOrderWrong)

/-- 'sidingslaw17.PlanTight': WHATEVER THE INPUT: true; the input reads as it did. -/
def planTightSpec : ChangeSpec := { name := "planTight", fn := fun _ => fun
  | [d1, d2] => { results := [.lit (.bool true)], args := [d1, d2] }
  | _ => none }
def planTightRow : OpenClaim := { program := "ytclgilndihagiaa", sum := "9106aef981d384904fe3c91c8a43ade99a43f25455355fd07939f7092ac5a148", func := "sidings/sidingslaw17.PlanTight", spec := "planTight", unfollowed := true, recurses := true, apart := false }
def PlanTightSaid : Prop := planTightRow.holds Try.pinned (OpenSpec.ofChange planTightSpec)

/-- ITS FALSE NEIGHBOUR: 'it returns false'. Refute it at one input. -/
def planTightWrong : ChangeSpec := { name := "planTight", fn := fun _ => fun
  | [d1, d2] => { results := [.lit (.bool false)], args := [d1, d2] }
  | _ => none }
def PlanTightWrongFalsely : Prop := planTightRow.holds Try.pinned (OpenSpec.ofChange planTightWrong)

/-- 'sidingslaw17.PlanFixed': WHATEVER THE INPUT: true; the input reads as it did. -/
def planFixedSpec : ChangeSpec := { name := "planFixed", fn := fun _ => fun
  | [d1, d2] => { results := [.lit (.bool true)], args := [d1, d2] }
  | _ => none }
def planFixedRow : OpenClaim := { program := "ytclgilndihagiaa", sum := "9106aef981d384904fe3c91c8a43ade99a43f25455355fd07939f7092ac5a148", func := "sidings/sidingslaw17.PlanFixed", spec := "planFixed", unfollowed := true, recurses := true, apart := false }
def PlanFixedSaid : Prop := planFixedRow.holds Try.pinned (OpenSpec.ofChange planFixedSpec)

/-- ITS FALSE NEIGHBOUR: 'it returns false'. Refute it at one input. -/
def planFixedWrong : ChangeSpec := { name := "planFixed", fn := fun _ => fun
  | [d1, d2] => { results := [.lit (.bool false)], args := [d1, d2] }
  | _ => none }
def PlanFixedWrongFalsely : Prop := planFixedRow.holds Try.pinned (OpenSpec.ofChange planFixedWrong)

/- THE SECOND FORM. 'bulk': how many values and letters a reading holds, each counted each time it is reached (what is shared counts as often as it is met; a slice's spare places count too). A statement '..UptoSaid' is the law's where the arguments, and the package variables that the reading takes, are together of bulk at most 1048576: NARROWER than '..Said'. Prove '..Said' where nothing that the law and all that it calls make is longer than what came in: it says more and counts as full. Else prove '..UptoSaid'. A law counts once. -/
mutual
def uptoBulk {H : Type} : DataW H → Nat
  | .lit (.string bytes) => bytes.length + 1
  | .lit _ => 1
  | .nil => 1
  | .ptr d => uptoBulk d + 1
  | .slice elems spare => uptoBulkAll elems + uptoBulkAll spare + 1
  | .agg parts => uptoBulkAll parts + 1
  | .iface _ d => uptoBulk d + 1
  | .map entries => uptoBulkEntries entries + 1
  | .held _ => 1
def uptoBulkAll {H : Type} : List (DataW H) → Nat
  | [] => 0
  | d :: r => uptoBulk d + uptoBulkAll r
def uptoBulkEntries {H : Type} : List (Lit × DataW H) → Nat
  | [] => 0
  | x :: r => uptoBulkEntry x + uptoBulkEntries r
def uptoBulkEntry {H : Type} : Lit × DataW H → Nat
  | (.string bytes, d) => bytes.length + uptoBulk d + 1
  | (_, d) => uptoBulk d + 1
 end
def uptoSmall : (H : Type) → List (DataW H) → Bool := fun _ ds => decide (uptoBulkAll ds ≤ 1048576)
def OpenSpec.upto (s : _root_.Go.ChangeSpec) : _root_.Go.OpenSpec := { _root_.Go.OpenSpec.ofChange s with cond := some uptoSmall }

/-- 'sidingslaw17.PlanSlides', WHERE WHAT IT READS IS OF BULK AT MOST 1048576: true; the input reads as it did. -/
def planSlidesUptoRow : OpenClaim := { program := "ytclgilndihagiaa", sum := "9106aef981d384904fe3c91c8a43ade99a43f25455355fd07939f7092ac5a148", func := "sidings/sidingslaw17.PlanSlides", spec := "planSlides", unfollowed := true, recurses := true, apart := false, narrowed := true }
def PlanSlidesUptoSaid : Prop := planSlidesUptoRow.holds Try.pinned (OpenSpec.upto planSlidesSpec)

/-- 'sidingslaw17.PlanOrder', WHERE WHAT IT READS IS OF BULK AT MOST 1048576: true; the input reads as it did. -/
def planOrderUptoRow : OpenClaim := { program := "ytclgilndihagiaa", sum := "9106aef981d384904fe3c91c8a43ade99a43f25455355fd07939f7092ac5a148", func := "sidings/sidingslaw17.PlanOrder", spec := "planOrder", unfollowed := true, recurses := true, apart := false, narrowed := true }
def PlanOrderUptoSaid : Prop := planOrderUptoRow.holds Try.pinned (OpenSpec.upto planOrderSpec)

/-- 'sidingslaw17.PlanTight', WHERE WHAT IT READS IS OF BULK AT MOST 1048576: true; the input reads as it did. -/
def planTightUptoRow : OpenClaim := { program := "ytclgilndihagiaa", sum := "9106aef981d384904fe3c91c8a43ade99a43f25455355fd07939f7092ac5a148", func := "sidings/sidingslaw17.PlanTight", spec := "planTight", unfollowed := true, recurses := true, apart := false, narrowed := true }
def PlanTightUptoSaid : Prop := planTightUptoRow.holds Try.pinned (OpenSpec.upto planTightSpec)

/-- 'sidingslaw17.PlanFixed', WHERE WHAT IT READS IS OF BULK AT MOST 1048576: true; the input reads as it did. -/
def planFixedUptoRow : OpenClaim := { program := "ytclgilndihagiaa", sum := "9106aef981d384904fe3c91c8a43ade99a43f25455355fd07939f7092ac5a148", func := "sidings/sidingslaw17.PlanFixed", spec := "planFixed", unfollowed := true, recurses := true, apart := false, narrowed := true }
def PlanFixedUptoSaid : Prop := planFixedUptoRow.holds Try.pinned (OpenSpec.upto planFixedSpec)

end Rows
end Go.Proofs.Ytclgilndihagiaa
