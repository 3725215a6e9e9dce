/-
  No cell of these rows narrows 'for every input' (looked for: loops, veiled, ifaces, maps, wideKeys, modest, calm, conditions, laid).
  DERIVED. THE GIVEN ROWS OF THIS SEAT. 5 by the template 'for every input the law returns true; each argument reads behind the call as it read before'; 0 by the template 'total and deterministic' (their statements: YtaocopmlgemgiaaTotals.lean).
  GIVEN WITH THE SEED: the statements are not yours to turn. If you find one false, say at which input.
  Laid BY PROGRAM, IN A SANDBOX (cutbox-rows.mjs): the forced cells as the released guide's own fill.sh prints them over the translation dd755320db67b888… (all of the seat's roots in one cut). By AI agents, Wed Nov 11 2026. No macro, syntax, notation, axiom, sorry.
-/
import Derived.Test.YtaocopmlgemgiaaChecked
import GoSem.Claim
import GoSem.ClaimJoined
import GoSem.ClaimMapViews
import Derived.JoinedTies
import Derived.KernelRfl
namespace Go.Proofs.Ytaocopmlgemgiaa
/- THE CELL 'sum', in the pinned program and in every row, IS THE sha256 OF THE DUMP (.gsa) THAT YtaocopmlgemgiaaProg.lean LOADS. Nothing in Lean hashes anything: it is a label: what it is worth is what the hold of that sum in a sandbox is worth. -/
noncomputable def Try.pinned : Pinned := { name := "ytaocopmlgemgiaa", sum := "dd755320db67b8881495b1eb50468ef40df8e787ffceb7672fa397f0c6b80a31", checked := Try.checked }
namespace Rows
def none {H : Type} : Left H := { results := [], args := [] }

/-- 'radiolinklaw42.HandoverExact': WHATEVER THE INPUT: true; the input reads as it did. -/
def handoverExactSpec : ChangeSpec := { name := "handoverExact", fn := fun _ => fun
  | [d1, d2, d3, d4, d5, d6] => { results := [.lit (.bool true)], args := [d1, d2, d3, d4, d5, d6] }
  | _ => none }
def handoverExactRow : OpenClaim := { program := "ytaocopmlgemgiaa", sum := "dd755320db67b8881495b1eb50468ef40df8e787ffceb7672fa397f0c6b80a31", func := "radiolink/radiolinklaw42.HandoverExact", spec := "handoverExact", plainKeys := false, apart := false }
def HandoverExactSaid : Prop := handoverExactRow.holds Try.pinned (OpenSpec.ofChange handoverExactSpec)

/-- ITS FALSE NEIGHBOUR: 'it returns false'. Refute it at one input. -/
def handoverExactWrong : ChangeSpec := { name := "handoverExact", fn := fun _ => fun
  | [d1, d2, d3, d4, d5, d6] => { results := [.lit (.bool false)], args := [d1, d2, d3, d4, d5, d6] }
  | _ => none }
def HandoverExactWrongFalsely : Prop := handoverExactRow.holds Try.pinned (OpenSpec.ofChange handoverExactWrong)

/-- 'radiolinklaw42.HandoverRuns': WHATEVER THE INPUT: true; the input reads as it did. -/
def handoverRunsSpec : ChangeSpec := { name := "handoverRuns", fn := fun _ => fun
  | [d] => { results := [.lit (.bool true)], args := [d] }
  | _ => none }
def handoverRunsRow : OpenClaim := { program := "ytaocopmlgemgiaa", sum := "dd755320db67b8881495b1eb50468ef40df8e787ffceb7672fa397f0c6b80a31", func := "radiolink/radiolinklaw42.HandoverRuns", spec := "handoverRuns", plainKeys := false, apart := false }
def HandoverRunsSaid : Prop := handoverRunsRow.holds Try.pinned (OpenSpec.ofChange handoverRunsSpec)

/-- ITS FALSE NEIGHBOUR: 'it returns false'. Refute it at one input. -/
def handoverRunsWrong : ChangeSpec := { name := "handoverRuns", fn := fun _ => fun
  | [d] => { results := [.lit (.bool false)], args := [d] }
  | _ => none }
def HandoverRunsWrongFalsely : Prop := handoverRunsRow.holds Try.pinned (OpenSpec.ofChange handoverRunsWrong)

/-- 'radiolinklaw42.HandoverOnce': WHATEVER THE INPUT: true; the input reads as it did. -/
def handoverOnceSpec : ChangeSpec := { name := "handoverOnce", fn := fun _ => fun
  | [d] => { results := [.lit (.bool true)], args := [d] }
  | _ => none }
def handoverOnceRow : OpenClaim := { program := "ytaocopmlgemgiaa", sum := "dd755320db67b8881495b1eb50468ef40df8e787ffceb7672fa397f0c6b80a31", func := "radiolink/radiolinklaw42.HandoverOnce", spec := "handoverOnce", plainKeys := false, apart := false }
def HandoverOnceSaid : Prop := handoverOnceRow.holds Try.pinned (OpenSpec.ofChange handoverOnceSpec)

/-- ITS FALSE NEIGHBOUR: 'it returns false'. Refute it at one input. -/
def handoverOnceWrong : ChangeSpec := { name := "handoverOnce", fn := fun _ => fun
  | [d] => { results := [.lit (.bool false)], args := [d] }
  | _ => none }
def HandoverOnceWrongFalsely : Prop := handoverOnceRow.holds Try.pinned (OpenSpec.ofChange handoverOnceWrong)

/-- 'radiolinklaw42.HandoverArrives': WHATEVER THE INPUT: true; the input reads as it did. -/
def handoverArrivesSpec : ChangeSpec := { name := "handoverArrives", fn := fun _ => fun
  | [d1, d2, d3, d4, d5] => { results := [.lit (.bool true)], args := [d1, d2, d3, d4, d5] }
  | _ => none }
def handoverArrivesRow : OpenClaim := { program := "ytaocopmlgemgiaa", sum := "dd755320db67b8881495b1eb50468ef40df8e787ffceb7672fa397f0c6b80a31", func := "radiolink/radiolinklaw42.HandoverArrives", spec := "handoverArrives", plainKeys := false, apart := false }
def HandoverArrivesSaid : Prop := handoverArrivesRow.holds Try.pinned (OpenSpec.ofChange handoverArrivesSpec)

/-- ITS FALSE NEIGHBOUR: 'it returns false'. Refute it at one input. -/
def handoverArrivesWrong : ChangeSpec := { name := "handoverArrives", fn := fun _ => fun
  | [d1, d2, d3, d4, d5] => { results := [.lit (.bool false)], args := [d1, d2, d3, d4, d5] }
  | _ => none }
def HandoverArrivesWrongFalsely : Prop := handoverArrivesRow.holds Try.pinned (OpenSpec.ofChange handoverArrivesWrong)

/-- 'radiolinklaw42.HandoverWaits': WHATEVER THE INPUT: true; the input reads as it did. -/
def handoverWaitsSpec : ChangeSpec := { name := "handoverWaits", fn := fun _ => fun
  | [d1, d2, d3, d4] => { results := [.lit (.bool true)], args := [d1, d2, d3, d4] }
  | _ => none }
def handoverWaitsRow : OpenClaim := { program := "ytaocopmlgemgiaa", sum := "dd755320db67b8881495b1eb50468ef40df8e787ffceb7672fa397f0c6b80a31", func := "radiolink/radiolinklaw42.HandoverWaits", spec := "handoverWaits", plainKeys := false, apart := false }
def HandoverWaitsSaid : Prop := handoverWaitsRow.holds Try.pinned (OpenSpec.ofChange handoverWaitsSpec)

/-- ITS FALSE NEIGHBOUR: 'it returns false'. Refute it at one input. -/
def handoverWaitsWrong : ChangeSpec := { name := "handoverWaits", fn := fun _ => fun
  | [d1, d2, d3, d4] => { results := [.lit (.bool false)], args := [d1, d2, d3, d4] }
  | _ => none }
def HandoverWaitsWrongFalsely : Prop := handoverWaitsRow.holds Try.pinned (OpenSpec.ofChange handoverWaitsWrong)

/- THE SECOND FORM. 'bulk': how many values and letters a reading holds, each counted each time it is reached (what is shared counts as often as it is met; a slice's spare places count too). A statement '..UptoSaid' is the law's where the arguments, and the package variables that the reading takes, are together of bulk at most 1048576: NARROWER than '..Said'. Prove '..Said' where nothing that the law and all that it calls make is longer than what came in: it says more and counts as full. Else prove '..UptoSaid'. A law counts once. -/
mutual
def uptoBulk {H : Type} : DataW H → Nat
  | .lit (.string bytes) => bytes.length + 1
  | .lit _ => 1
  | .nil => 1
  | .ptr d => uptoBulk d + 1
  | .slice elems spare => uptoBulkAll elems + uptoBulkAll spare + 1
  | .agg parts => uptoBulkAll parts + 1
  | .iface _ d => uptoBulk d + 1
  | .map entries => uptoBulkEntries entries + 1
  | .held _ => 1
def uptoBulkAll {H : Type} : List (DataW H) → Nat
  | [] => 0
  | d :: r => uptoBulk d + uptoBulkAll r
def uptoBulkEntries {H : Type} : List (Lit × DataW H) → Nat
  | [] => 0
  | x :: r => uptoBulkEntry x + uptoBulkEntries r
def uptoBulkEntry {H : Type} : Lit × DataW H → Nat
  | (.string bytes, d) => bytes.length + uptoBulk d + 1
  | (_, d) => uptoBulk d + 1
 end
def uptoSmall : (H : Type) → List (DataW H) → Bool := fun _ ds => decide (uptoBulkAll ds ≤ 1048576)
def OpenSpec.upto (s : _root_.Go.ChangeSpec) : _root_.Go.OpenSpec := { _root_.Go.OpenSpec.ofChange s with cond := some uptoSmall }

/-- 'radiolinklaw42.HandoverExact', WHERE WHAT IT READS IS OF BULK AT MOST 1048576: true; the input reads as it did. -/
def handoverExactUptoRow : OpenClaim := { program := "ytaocopmlgemgiaa", sum := "dd755320db67b8881495b1eb50468ef40df8e787ffceb7672fa397f0c6b80a31", func := "radiolink/radiolinklaw42.HandoverExact", spec := "handoverExact", plainKeys := false, apart := false, narrowed := true }
def HandoverExactUptoSaid : Prop := handoverExactUptoRow.holds Try.pinned (OpenSpec.upto handoverExactSpec)

/-- 'radiolinklaw42.HandoverRuns', WHERE WHAT IT READS IS OF BULK AT MOST 1048576: true; the input reads as it did. -/
def handoverRunsUptoRow : OpenClaim := { program := "ytaocopmlgemgiaa", sum := "dd755320db67b8881495b1eb50468ef40df8e787ffceb7672fa397f0c6b80a31", func := "radiolink/radiolinklaw42.HandoverRuns", spec := "handoverRuns", plainKeys := false, apart := false, narrowed := true }
def HandoverRunsUptoSaid : Prop := handoverRunsUptoRow.holds Try.pinned (OpenSpec.upto handoverRunsSpec)

/-- 'radiolinklaw42.HandoverOnce', WHERE WHAT IT READS IS OF BULK AT MOST 1048576: true; the input reads as it did. -/
def handoverOnceUptoRow : OpenClaim := { program := "ytaocopmlgemgiaa", sum := "dd755320db67b8881495b1eb50468ef40df8e787ffceb7672fa397f0c6b80a31", func := "radiolink/radiolinklaw42.HandoverOnce", spec := "handoverOnce", plainKeys := false, apart := false, narrowed := true }
def HandoverOnceUptoSaid : Prop := handoverOnceUptoRow.holds Try.pinned (OpenSpec.upto handoverOnceSpec)

/-- 'radiolinklaw42.HandoverArrives', WHERE WHAT IT READS IS OF BULK AT MOST 1048576: true; the input reads as it did. -/
def handoverArrivesUptoRow : OpenClaim := { program := "ytaocopmlgemgiaa", sum := "dd755320db67b8881495b1eb50468ef40df8e787ffceb7672fa397f0c6b80a31", func := "radiolink/radiolinklaw42.HandoverArrives", spec := "handoverArrives", plainKeys := false, apart := false, narrowed := true }
def HandoverArrivesUptoSaid : Prop := handoverArrivesUptoRow.holds Try.pinned (OpenSpec.upto handoverArrivesSpec)

/-- 'radiolinklaw42.HandoverWaits', WHERE WHAT IT READS IS OF BULK AT MOST 1048576: true; the input reads as it did. -/
def handoverWaitsUptoRow : OpenClaim := { program := "ytaocopmlgemgiaa", sum := "dd755320db67b8881495b1eb50468ef40df8e787ffceb7672fa397f0c6b80a31", func := "radiolink/radiolinklaw42.HandoverWaits", spec := "handoverWaits", plainKeys := false, apart := false, narrowed := true }
def HandoverWaitsUptoSaid : Prop := handoverWaitsUptoRow.holds Try.pinned (OpenSpec.upto handoverWaitsSpec)

end Rows
end Go.Proofs.Ytaocopmlgemgiaa
