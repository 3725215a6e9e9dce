/-
  No cell of these rows narrows 'for every input' (looked for: loops, veiled, ifaces, maps, wideKeys, modest, calm, conditions, laid).
  DERIVED. THE GIVEN ROWS OF THIS SEAT. 4 by the template 'for every input the law returns true; each argument reads behind the call as it read before'; 0 by the template 'total and deterministic' (their statements: YtningnpbamgnhaaTotals.lean).
  GIVEN WITH THE SEED: the statements are not yours to turn. If you find one false, say at which input.
  Laid BY PROGRAM, IN A SANDBOX (cutbox-rows.mjs): the forced cells as the released guide's own fill.sh prints them over the translation 1527e31728d05db9… (all of the seat's roots in one cut). By AI agents, Wed Nov 11 2026. No macro, syntax, notation, axiom, sorry.
-/
import Derived.Test.YtningnpbamgnhaaChecked
import GoSem.Claim
import GoSem.ClaimJoined
import GoSem.ClaimMapViews
import Derived.JoinedTies
import Derived.KernelRfl
namespace Go.Proofs.Ytningnpbamgnhaa
/- THE CELL 'sum', in the pinned program and in every row, IS THE sha256 OF THE DUMP (.gsa) THAT YtningnpbamgnhaaProg.lean LOADS. Nothing in Lean hashes anything: it is a label: what it is worth is what the hold of that sum in a sandbox is worth. -/
noncomputable def Try.pinned : Pinned := { name := "ytningnpbamgnhaa", sum := "1527e31728d05db97a486a1a042c42de8cc75d651fd6372ff724bf04a355f82b", checked := Try.checked }
namespace Rows
def none {H : Type} : Left H := { results := [], args := [] }

/-- 'radiolinklaw30.AdaptGrows': WHATEVER THE INPUT: true; the input reads as it did. -/
def adaptGrowsSpec : ChangeSpec := { name := "adaptGrows", fn := fun _ => fun
  | [d1, d2, d3, d4, d5] => { results := [.lit (.bool true)], args := [d1, d2, d3, d4, d5] }
  | _ => none }
def adaptGrowsRow : OpenClaim := { program := "ytningnpbamgnhaa", sum := "1527e31728d05db97a486a1a042c42de8cc75d651fd6372ff724bf04a355f82b", func := "radiolink/radiolinklaw30.AdaptGrows", spec := "adaptGrows", apart := false }
def AdaptGrowsSaid : Prop := adaptGrowsRow.holds Try.pinned (OpenSpec.ofChange adaptGrowsSpec)

/-- ITS FALSE NEIGHBOUR: 'it returns false'. Refute it at one input. -/
def adaptGrowsWrong : ChangeSpec := { name := "adaptGrows", fn := fun _ => fun
  | [d1, d2, d3, d4, d5] => { results := [.lit (.bool false)], args := [d1, d2, d3, d4, d5] }
  | _ => none }
def AdaptGrowsWrongFalsely : Prop := adaptGrowsRow.holds Try.pinned (OpenSpec.ofChange adaptGrowsWrong)

/-- 'radiolinklaw30.AdaptNeeds': WHATEVER THE INPUT: true; the input reads as it did. -/
def adaptNeedsSpec : ChangeSpec := { name := "adaptNeeds", fn := fun _ => fun
  | [d1, d2] => { results := [.lit (.bool true)], args := [d1, d2] }
  | _ => none }
def adaptNeedsRow : OpenClaim := { program := "ytningnpbamgnhaa", sum := "1527e31728d05db97a486a1a042c42de8cc75d651fd6372ff724bf04a355f82b", func := "radiolink/radiolinklaw30.AdaptNeeds", spec := "adaptNeeds", apart := false }
def AdaptNeedsSaid : Prop := adaptNeedsRow.holds Try.pinned (OpenSpec.ofChange adaptNeedsSpec)

/-- ITS FALSE NEIGHBOUR: 'it returns false'. Refute it at one input. -/
def adaptNeedsWrong : ChangeSpec := { name := "adaptNeeds", fn := fun _ => fun
  | [d1, d2] => { results := [.lit (.bool false)], args := [d1, d2] }
  | _ => none }
def AdaptNeedsWrongFalsely : Prop := adaptNeedsRow.holds Try.pinned (OpenSpec.ofChange adaptNeedsWrong)

/-- 'radiolinklaw30.AdaptExact': WHATEVER THE INPUT: true; the input reads as it did. -/
def adaptExactSpec : ChangeSpec := { name := "adaptExact", fn := fun _ => fun
  | [d1, d2, d3, d4, d5, d6] => { results := [.lit (.bool true)], args := [d1, d2, d3, d4, d5, d6] }
  | _ => none }
def adaptExactRow : OpenClaim := { program := "ytningnpbamgnhaa", sum := "1527e31728d05db97a486a1a042c42de8cc75d651fd6372ff724bf04a355f82b", func := "radiolink/radiolinklaw30.AdaptExact", spec := "adaptExact", apart := false }
def AdaptExactSaid : Prop := adaptExactRow.holds Try.pinned (OpenSpec.ofChange adaptExactSpec)

/-- ITS FALSE NEIGHBOUR: 'it returns false'. Refute it at one input. -/
def adaptExactWrong : ChangeSpec := { name := "adaptExact", fn := fun _ => fun
  | [d1, d2, d3, d4, d5, d6] => { results := [.lit (.bool false)], args := [d1, d2, d3, d4, d5, d6] }
  | _ => none }
def AdaptExactWrongFalsely : Prop := adaptExactRow.holds Try.pinned (OpenSpec.ofChange adaptExactWrong)

/-- 'radiolinklaw30.AdaptLoop': WHATEVER THE INPUT: true; the input reads as it did. -/
def adaptLoopSpec : ChangeSpec := { name := "adaptLoop", fn := fun _ => fun
  | [d1, d2, d3] => { results := [.lit (.bool true)], args := [d1, d2, d3] }
  | _ => none }
def adaptLoopRow : OpenClaim := { program := "ytningnpbamgnhaa", sum := "1527e31728d05db97a486a1a042c42de8cc75d651fd6372ff724bf04a355f82b", func := "radiolink/radiolinklaw30.AdaptLoop", spec := "adaptLoop", apart := false }
def AdaptLoopSaid : Prop := adaptLoopRow.holds Try.pinned (OpenSpec.ofChange adaptLoopSpec)

/-- ITS FALSE NEIGHBOUR: 'it returns false'. Refute it at one input. -/
def adaptLoopWrong : ChangeSpec := { name := "adaptLoop", fn := fun _ => fun
  | [d1, d2, d3] => { results := [.lit (.bool false)], args := [d1, d2, d3] }
  | _ => none }
def AdaptLoopWrongFalsely : Prop := adaptLoopRow.holds Try.pinned (OpenSpec.ofChange adaptLoopWrong)

/- THE SECOND FORM. 'bulk': how many values and letters a reading holds, each counted each time it is reached (what is shared counts as often as it is met; a slice's spare places count too). A statement '..UptoSaid' is the law's where the arguments, and the package variables that the reading takes, are together of bulk at most 1048576: NARROWER than '..Said'. Prove '..Said' where nothing that the law and all that it calls make is longer than what came in: it says more and counts as full. Else prove '..UptoSaid'. A law counts once. -/
mutual
def uptoBulk {H : Type} : DataW H → Nat
  | .lit (.string bytes) => bytes.length + 1
  | .lit _ => 1
  | .nil => 1
  | .ptr d => uptoBulk d + 1
  | .slice elems spare => uptoBulkAll elems + uptoBulkAll spare + 1
  | .agg parts => uptoBulkAll parts + 1
  | .iface _ d => uptoBulk d + 1
  | .map entries => uptoBulkEntries entries + 1
  | .held _ => 1
def uptoBulkAll {H : Type} : List (DataW H) → Nat
  | [] => 0
  | d :: r => uptoBulk d + uptoBulkAll r
def uptoBulkEntries {H : Type} : List (Lit × DataW H) → Nat
  | [] => 0
  | x :: r => uptoBulkEntry x + uptoBulkEntries r
def uptoBulkEntry {H : Type} : Lit × DataW H → Nat
  | (.string bytes, d) => bytes.length + uptoBulk d + 1
  | (_, d) => uptoBulk d + 1
 end
def uptoSmall : (H : Type) → List (DataW H) → Bool := fun _ ds => decide (uptoBulkAll ds ≤ 1048576)
def OpenSpec.upto (s : _root_.Go.ChangeSpec) : _root_.Go.OpenSpec := { _root_.Go.OpenSpec.ofChange s with cond := some uptoSmall }

/-- 'radiolinklaw30.AdaptGrows', WHERE WHAT IT READS IS OF BULK AT MOST 1048576: true; the input reads as it did. -/
def adaptGrowsUptoRow : OpenClaim := { program := "ytningnpbamgnhaa", sum := "1527e31728d05db97a486a1a042c42de8cc75d651fd6372ff724bf04a355f82b", func := "radiolink/radiolinklaw30.AdaptGrows", spec := "adaptGrows", apart := false, narrowed := true }
def AdaptGrowsUptoSaid : Prop := adaptGrowsUptoRow.holds Try.pinned (OpenSpec.upto adaptGrowsSpec)

/-- 'radiolinklaw30.AdaptNeeds', WHERE WHAT IT READS IS OF BULK AT MOST 1048576: true; the input reads as it did. -/
def adaptNeedsUptoRow : OpenClaim := { program := "ytningnpbamgnhaa", sum := "1527e31728d05db97a486a1a042c42de8cc75d651fd6372ff724bf04a355f82b", func := "radiolink/radiolinklaw30.AdaptNeeds", spec := "adaptNeeds", apart := false, narrowed := true }
def AdaptNeedsUptoSaid : Prop := adaptNeedsUptoRow.holds Try.pinned (OpenSpec.upto adaptNeedsSpec)

/-- 'radiolinklaw30.AdaptExact', WHERE WHAT IT READS IS OF BULK AT MOST 1048576: true; the input reads as it did. -/
def adaptExactUptoRow : OpenClaim := { program := "ytningnpbamgnhaa", sum := "1527e31728d05db97a486a1a042c42de8cc75d651fd6372ff724bf04a355f82b", func := "radiolink/radiolinklaw30.AdaptExact", spec := "adaptExact", apart := false, narrowed := true }
def AdaptExactUptoSaid : Prop := adaptExactUptoRow.holds Try.pinned (OpenSpec.upto adaptExactSpec)

/-- 'radiolinklaw30.AdaptLoop', WHERE WHAT IT READS IS OF BULK AT MOST 1048576: true; the input reads as it did. -/
def adaptLoopUptoRow : OpenClaim := { program := "ytningnpbamgnhaa", sum := "1527e31728d05db97a486a1a042c42de8cc75d651fd6372ff724bf04a355f82b", func := "radiolink/radiolinklaw30.AdaptLoop", spec := "adaptLoop", apart := false, narrowed := true }
def AdaptLoopUptoSaid : Prop := adaptLoopUptoRow.holds Try.pinned (OpenSpec.upto adaptLoopSpec)

end Rows
end Go.Proofs.Ytningnpbamgnhaa
