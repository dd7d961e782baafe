/-
  No cell of these rows narrows 'for every input' (looked for: loops, veiled, ifaces, maps, wideKeys, modest, calm, conditions, laid).
  DERIVED. THE GIVEN ROWS OF THIS SEAT. 5 by the template 'for every input the law returns true; each argument reads behind the call as it read before'; 0 by the template 'total and deterministic' (their statements: YtnfcohmbcgfhbaaGreatTotals.lean).
  GIVEN WITH THE SEED: the statements are not yours to turn. If you find one false, say at which input.
  Laid BY PROGRAM, IN A SANDBOX (cutbox-rows.mjs): the forced cells as the released guide's own fill.sh prints them over the translation 8b94aad3a1c04d4f… (all of the seat's roots in one cut). By AI agents, Wed Nov 11 2026. No macro, syntax, notation, axiom, sorry.
-/
import Derived.Test.YtnfcohmbcgfhbaaGreatChecked
import GoSem.Claim
import GoSem.ClaimJoined
import GoSem.ClaimMapViews
import Derived.JoinedTies
import Derived.KernelRfl
namespace Go.Proofs.YtnfcohmbcgfhbaaGreat
/- THE CELL 'sum', in the pinned program and in every row, IS THE sha256 OF THE DUMP (.gsa) THAT YtnfcohmbcgfhbaaGreatProg.lean LOADS. Nothing in Lean hashes anything: it is a label: what it is worth is what the hold of that sum in a sandbox is worth. -/
noncomputable def Tryz.pinned : Pinned := { name := "ytnfcohmbcgfhbaagreat", sum := "8b94aad3a1c04d4f46ea78ef9e991ad663b4ba832f29bb2bcaac78e46f25d310", checked := Tryz.checked }
namespace Rows
def none {H : Type} : Left H := { results := [], args := [] }

/-- 'sidingslaw19.ThreadAlone': WHATEVER THE INPUT: true; the input reads as it did. -/
def threadAloneSpec : ChangeSpec := { name := "threadAlone", fn := fun _ => fun
  | [d1, d2] => { results := [.lit (.bool true)], args := [d1, d2] }
  | _ => none }
def threadAloneRow : OpenClaim := { program := "ytnfcohmbcgfhbaagreat", sum := "8b94aad3a1c04d4f46ea78ef9e991ad663b4ba832f29bb2bcaac78e46f25d310", func := "sidings/sidingslaw19.ThreadAlone", spec := "threadAlone", unfollowed := true, recurses := true, apart := false }
def ThreadAloneSaid : Prop := threadAloneRow.holds Tryz.pinned (OpenSpec.ofChange threadAloneSpec)

/-- ITS FALSE NEIGHBOUR: 'it returns false'. Refute it at one input. -/
def threadAloneWrong : ChangeSpec := { name := "threadAlone", fn := fun _ => fun
  | [d1, d2] => { results := [.lit (.bool false)], args := [d1, d2] }
  | _ => none }
def ThreadAloneWrongFalsely : Prop := threadAloneRow.holds Tryz.pinned (OpenSpec.ofChange threadAloneWrong)

/-- 'sidingslaw19.ThreadHistories': WHATEVER THE INPUT: true; the input reads as it did. -/
def threadHistoriesSpec : ChangeSpec := { name := "threadHistories", fn := fun _ => fun
  | [d1, d2, d3] => { results := [.lit (.bool true)], args := [d1, d2, d3] }
  | _ => none }
def threadHistoriesRow : OpenClaim := { program := "ytnfcohmbcgfhbaagreat", sum := "8b94aad3a1c04d4f46ea78ef9e991ad663b4ba832f29bb2bcaac78e46f25d310", func := "sidings/sidingslaw19.ThreadHistories", spec := "threadHistories", unfollowed := true, recurses := true, apart := false }
def ThreadHistoriesSaid : Prop := threadHistoriesRow.holds Tryz.pinned (OpenSpec.ofChange threadHistoriesSpec)

/-- ITS FALSE NEIGHBOUR: 'it returns false'. Refute it at one input. -/
def threadHistoriesWrong : ChangeSpec := { name := "threadHistories", fn := fun _ => fun
  | [d1, d2, d3] => { results := [.lit (.bool false)], args := [d1, d2, d3] }
  | _ => none }
def ThreadHistoriesWrongFalsely : Prop := threadHistoriesRow.holds Tryz.pinned (OpenSpec.ofChange threadHistoriesWrong)

/-- 'sidingslaw19.ThreadPrefix': WHATEVER THE INPUT: true; the input reads as it did. -/
def threadPrefixSpec : ChangeSpec := { name := "threadPrefix", fn := fun _ => fun
  | [d1, d2, d3] => { results := [.lit (.bool true)], args := [d1, d2, d3] }
  | _ => none }
def threadPrefixRow : OpenClaim := { program := "ytnfcohmbcgfhbaagreat", sum := "8b94aad3a1c04d4f46ea78ef9e991ad663b4ba832f29bb2bcaac78e46f25d310", func := "sidings/sidingslaw19.ThreadPrefix", spec := "threadPrefix", unfollowed := true, recurses := true, apart := false }
def ThreadPrefixSaid : Prop := threadPrefixRow.holds Tryz.pinned (OpenSpec.ofChange threadPrefixSpec)

/-- ITS FALSE NEIGHBOUR: 'it returns false'. Refute it at one input. -/
def threadPrefixWrong : ChangeSpec := { name := "threadPrefix", fn := fun _ => fun
  | [d1, d2, d3] => { results := [.lit (.bool false)], args := [d1, d2, d3] }
  | _ => none }
def ThreadPrefixWrongFalsely : Prop := threadPrefixRow.holds Tryz.pinned (OpenSpec.ofChange threadPrefixWrong)

/-- 'sidingslaw19.ThreadSteps': WHATEVER THE INPUT: true; the input reads as it did. -/
def threadStepsSpec : ChangeSpec := { name := "threadSteps", fn := fun _ => fun
  | [d1, d2, d3] => { results := [.lit (.bool true)], args := [d1, d2, d3] }
  | _ => none }
def threadStepsRow : OpenClaim := { program := "ytnfcohmbcgfhbaagreat", sum := "8b94aad3a1c04d4f46ea78ef9e991ad663b4ba832f29bb2bcaac78e46f25d310", func := "sidings/sidingslaw19.ThreadSteps", spec := "threadSteps", unfollowed := true, recurses := true, apart := false }
def ThreadStepsSaid : Prop := threadStepsRow.holds Tryz.pinned (OpenSpec.ofChange threadStepsSpec)

/-- ITS FALSE NEIGHBOUR: 'it returns false'. Refute it at one input. -/
def threadStepsWrong : ChangeSpec := { name := "threadSteps", fn := fun _ => fun
  | [d1, d2, d3] => { results := [.lit (.bool false)], args := [d1, d2, d3] }
  | _ => none }
def ThreadStepsWrongFalsely : Prop := threadStepsRow.holds Tryz.pinned (OpenSpec.ofChange threadStepsWrong)

/-- 'sidingslaw19.ThreadNil': WHATEVER THE INPUT: true; the input reads as it did. -/
def threadNilSpec : ChangeSpec := { name := "threadNil", fn := fun _ => fun
  | [d1, d2] => { results := [.lit (.bool true)], args := [d1, d2] }
  | _ => none }
def threadNilRow : OpenClaim := { program := "ytnfcohmbcgfhbaagreat", sum := "8b94aad3a1c04d4f46ea78ef9e991ad663b4ba832f29bb2bcaac78e46f25d310", func := "sidings/sidingslaw19.ThreadNil", spec := "threadNil", unfollowed := true, recurses := true, apart := false }
def ThreadNilSaid : Prop := threadNilRow.holds Tryz.pinned (OpenSpec.ofChange threadNilSpec)

/-- ITS FALSE NEIGHBOUR: 'it returns false'. Refute it at one input. -/
def threadNilWrong : ChangeSpec := { name := "threadNil", fn := fun _ => fun
  | [d1, d2] => { results := [.lit (.bool false)], args := [d1, d2] }
  | _ => none }
def ThreadNilWrongFalsely : Prop := threadNilRow.holds Tryz.pinned (OpenSpec.ofChange threadNilWrong)

/- THE SECOND FORM. 'bulk': how many values and letters a reading holds, each counted each time it is reached (what is shared counts as often as it is met; a slice's spare places count too). A statement '..UptoSaid' is the law's where the arguments, and the package variables that the reading takes, are together of bulk at most 1048576: NARROWER than '..Said'. Prove '..Said' where nothing that the law and all that it calls make is longer than what came in: it says more and counts as full. Else prove '..UptoSaid'. A law counts once. -/
mutual
def uptoBulk {H : Type} : DataW H → Nat
  | .lit (.string bytes) => bytes.length + 1
  | .lit _ => 1
  | .nil => 1
  | .ptr d => uptoBulk d + 1
  | .slice elems spare => uptoBulkAll elems + uptoBulkAll spare + 1
  | .agg parts => uptoBulkAll parts + 1
  | .iface _ d => uptoBulk d + 1
  | .map entries => uptoBulkEntries entries + 1
  | .held _ => 1
def uptoBulkAll {H : Type} : List (DataW H) → Nat
  | [] => 0
  | d :: r => uptoBulk d + uptoBulkAll r
def uptoBulkEntries {H : Type} : List (Lit × DataW H) → Nat
  | [] => 0
  | x :: r => uptoBulkEntry x + uptoBulkEntries r
def uptoBulkEntry {H : Type} : Lit × DataW H → Nat
  | (.string bytes, d) => bytes.length + uptoBulk d + 1
  | (_, d) => uptoBulk d + 1
 end
def uptoSmall : (H : Type) → List (DataW H) → Bool := fun _ ds => decide (uptoBulkAll ds ≤ 1048576)
def OpenSpec.upto (s : _root_.Go.ChangeSpec) : _root_.Go.OpenSpec := { _root_.Go.OpenSpec.ofChange s with cond := some uptoSmall }

/-- 'sidingslaw19.ThreadAlone', WHERE WHAT IT READS IS OF BULK AT MOST 1048576: true; the input reads as it did. -/
def threadAloneUptoRow : OpenClaim := { program := "ytnfcohmbcgfhbaagreat", sum := "8b94aad3a1c04d4f46ea78ef9e991ad663b4ba832f29bb2bcaac78e46f25d310", func := "sidings/sidingslaw19.ThreadAlone", spec := "threadAlone", unfollowed := true, recurses := true, apart := false, narrowed := true }
def ThreadAloneUptoSaid : Prop := threadAloneUptoRow.holds Tryz.pinned (OpenSpec.upto threadAloneSpec)

/-- 'sidingslaw19.ThreadHistories', WHERE WHAT IT READS IS OF BULK AT MOST 1048576: true; the input reads as it did. -/
def threadHistoriesUptoRow : OpenClaim := { program := "ytnfcohmbcgfhbaagreat", sum := "8b94aad3a1c04d4f46ea78ef9e991ad663b4ba832f29bb2bcaac78e46f25d310", func := "sidings/sidingslaw19.ThreadHistories", spec := "threadHistories", unfollowed := true, recurses := true, apart := false, narrowed := true }
def ThreadHistoriesUptoSaid : Prop := threadHistoriesUptoRow.holds Tryz.pinned (OpenSpec.upto threadHistoriesSpec)

/-- 'sidingslaw19.ThreadPrefix', WHERE WHAT IT READS IS OF BULK AT MOST 1048576: true; the input reads as it did. -/
def threadPrefixUptoRow : OpenClaim := { program := "ytnfcohmbcgfhbaagreat", sum := "8b94aad3a1c04d4f46ea78ef9e991ad663b4ba832f29bb2bcaac78e46f25d310", func := "sidings/sidingslaw19.ThreadPrefix", spec := "threadPrefix", unfollowed := true, recurses := true, apart := false, narrowed := true }
def ThreadPrefixUptoSaid : Prop := threadPrefixUptoRow.holds Tryz.pinned (OpenSpec.upto threadPrefixSpec)

/-- 'sidingslaw19.ThreadSteps', WHERE WHAT IT READS IS OF BULK AT MOST 1048576: true; the input reads as it did. -/
def threadStepsUptoRow : OpenClaim := { program := "ytnfcohmbcgfhbaagreat", sum := "8b94aad3a1c04d4f46ea78ef9e991ad663b4ba832f29bb2bcaac78e46f25d310", func := "sidings/sidingslaw19.ThreadSteps", spec := "threadSteps", unfollowed := true, recurses := true, apart := false, narrowed := true }
def ThreadStepsUptoSaid : Prop := threadStepsUptoRow.holds Tryz.pinned (OpenSpec.upto threadStepsSpec)

/-- 'sidingslaw19.ThreadNil', WHERE WHAT IT READS IS OF BULK AT MOST 1048576: true; the input reads as it did. -/
def threadNilUptoRow : OpenClaim := { program := "ytnfcohmbcgfhbaagreat", sum := "8b94aad3a1c04d4f46ea78ef9e991ad663b4ba832f29bb2bcaac78e46f25d310", func := "sidings/sidingslaw19.ThreadNil", spec := "threadNil", unfollowed := true, recurses := true, apart := false, narrowed := true }
def ThreadNilUptoSaid : Prop := threadNilUptoRow.holds Tryz.pinned (OpenSpec.upto threadNilSpec)

end Rows
end Go.Proofs.YtnfcohmbcgfhbaaGreat
