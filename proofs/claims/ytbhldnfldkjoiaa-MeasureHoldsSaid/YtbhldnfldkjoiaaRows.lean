/-
  No cell of these rows narrows 'for every input' (looked for: loops, veiled, ifaces, maps, wideKeys, modest, calm, conditions, laid).
  DERIVED. THE GIVEN ROWS OF THIS SEAT. 5 by the template 'for every input the law returns true; each argument reads behind the call as it read before'; 0 by the template 'total and deterministic' (their statements: YtbhldnfldkjoiaaTotals.lean).
  GIVEN WITH THE SEED: the statements are not yours to turn. If you find one false, say at which input.
  Laid BY PROGRAM, IN A SANDBOX (cutbox-rows.mjs): the forced cells as the released guide's own fill.sh prints them over the translation d08bf3dfd7285fb7… (all of the seat's roots in one cut). By AI agents, Wed Nov 11 2026. No macro, syntax, notation, axiom, sorry.
-/
import Derived.Test.YtbhldnfldkjoiaaChecked
import GoSem.Claim
import GoSem.ClaimJoined
import GoSem.ClaimMapViews
import Derived.JoinedTies
import Derived.KernelRfl
namespace Go.Proofs.Ytbhldnfldkjoiaa
/- THE CELL 'sum', in the pinned program and in every row, IS THE sha256 OF THE DUMP (.gsa) THAT YtbhldnfldkjoiaaProg.lean LOADS. Nothing in Lean hashes anything: it is a label: what it is worth is what the hold of that sum in a sandbox is worth. -/
noncomputable def Try.pinned : Pinned := { name := "ytbhldnfldkjoiaa", sum := "d08bf3dfd7285fb7103f5814297b6b3f819677856cdb363708839c563a0ab4c4", checked := Try.checked }
namespace Rows
def none {H : Type} : Left H := { results := [], args := [] }

/-- 'radiolinklaw37.MeasureRaw': WHATEVER THE INPUT: true; the input reads as it did. -/
def measureRawSpec : ChangeSpec := { name := "measureRaw", fn := fun _ => fun
  | [d1, d2, d3, d4, d5] => { results := [.lit (.bool true)], args := [d1, d2, d3, d4, d5] }
  | _ => none }
def measureRawRow : OpenClaim := { program := "ytbhldnfldkjoiaa", sum := "d08bf3dfd7285fb7103f5814297b6b3f819677856cdb363708839c563a0ab4c4", func := "radiolink/radiolinklaw37.MeasureRaw", spec := "measureRaw", unfollowed := true, recurses := true, apart := false }
def MeasureRawSaid : Prop := measureRawRow.holds Try.pinned (OpenSpec.ofChange measureRawSpec)

/-- ITS FALSE NEIGHBOUR: 'it returns false'. Refute it at one input. -/
def measureRawWrong : ChangeSpec := { name := "measureRaw", fn := fun _ => fun
  | [d1, d2, d3, d4, d5] => { results := [.lit (.bool false)], args := [d1, d2, d3, d4, d5] }
  | _ => none }
def MeasureRawWrongFalsely : Prop := measureRawRow.holds Try.pinned (OpenSpec.ofChange measureRawWrong)

/-- 'radiolinklaw37.MeasureRuns': WHATEVER THE INPUT: true; the input reads as it did. -/
def measureRunsSpec : ChangeSpec := { name := "measureRuns", fn := fun _ => fun
  | [d] => { results := [.lit (.bool true)], args := [d] }
  | _ => none }
def measureRunsRow : OpenClaim := { program := "ytbhldnfldkjoiaa", sum := "d08bf3dfd7285fb7103f5814297b6b3f819677856cdb363708839c563a0ab4c4", func := "radiolink/radiolinklaw37.MeasureRuns", spec := "measureRuns", unfollowed := true, recurses := true, apart := false }
def MeasureRunsSaid : Prop := measureRunsRow.holds Try.pinned (OpenSpec.ofChange measureRunsSpec)

/-- ITS FALSE NEIGHBOUR: 'it returns false'. Refute it at one input. -/
def measureRunsWrong : ChangeSpec := { name := "measureRuns", fn := fun _ => fun
  | [d] => { results := [.lit (.bool false)], args := [d] }
  | _ => none }
def MeasureRunsWrongFalsely : Prop := measureRunsRow.holds Try.pinned (OpenSpec.ofChange measureRunsWrong)

/-- 'radiolinklaw37.MeasureSettles': WHATEVER THE INPUT: true; the input reads as it did. -/
def measureSettlesSpec : ChangeSpec := { name := "measureSettles", fn := fun _ => fun
  | [d1, d2, d3] => { results := [.lit (.bool true)], args := [d1, d2, d3] }
  | _ => none }
def measureSettlesRow : OpenClaim := { program := "ytbhldnfldkjoiaa", sum := "d08bf3dfd7285fb7103f5814297b6b3f819677856cdb363708839c563a0ab4c4", func := "radiolink/radiolinklaw37.MeasureSettles", spec := "measureSettles", unfollowed := true, recurses := true, apart := false }
def MeasureSettlesSaid : Prop := measureSettlesRow.holds Try.pinned (OpenSpec.ofChange measureSettlesSpec)

/-- ITS FALSE NEIGHBOUR: 'it returns false'. Refute it at one input. -/
def measureSettlesWrong : ChangeSpec := { name := "measureSettles", fn := fun _ => fun
  | [d1, d2, d3] => { results := [.lit (.bool false)], args := [d1, d2, d3] }
  | _ => none }
def MeasureSettlesWrongFalsely : Prop := measureSettlesRow.holds Try.pinned (OpenSpec.ofChange measureSettlesWrong)

/-- 'radiolinklaw37.MeasureHolds': WHATEVER THE INPUT: true; the input reads as it did. -/
def measureHoldsSpec : ChangeSpec := { name := "measureHolds", fn := fun _ => fun
  | [d] => { results := [.lit (.bool true)], args := [d] }
  | _ => none }
def measureHoldsRow : OpenClaim := { program := "ytbhldnfldkjoiaa", sum := "d08bf3dfd7285fb7103f5814297b6b3f819677856cdb363708839c563a0ab4c4", func := "radiolink/radiolinklaw37.MeasureHolds", spec := "measureHolds", unfollowed := true, recurses := true, apart := false }
def MeasureHoldsSaid : Prop := measureHoldsRow.holds Try.pinned (OpenSpec.ofChange measureHoldsSpec)

/-- ITS FALSE NEIGHBOUR: 'it returns false'. Refute it at one input. -/
def measureHoldsWrong : ChangeSpec := { name := "measureHolds", fn := fun _ => fun
  | [d] => { results := [.lit (.bool false)], args := [d] }
  | _ => none }
def MeasureHoldsWrongFalsely : Prop := measureHoldsRow.holds Try.pinned (OpenSpec.ofChange measureHoldsWrong)

/-- 'radiolinklaw37.MeasureBack': WHATEVER THE INPUT: true; the input reads as it did. -/
def measureBackSpec : ChangeSpec := { name := "measureBack", fn := fun _ => fun
  | [d1, d2, d3, d4, d5] => { results := [.lit (.bool true)], args := [d1, d2, d3, d4, d5] }
  | _ => none }
def measureBackRow : OpenClaim := { program := "ytbhldnfldkjoiaa", sum := "d08bf3dfd7285fb7103f5814297b6b3f819677856cdb363708839c563a0ab4c4", func := "radiolink/radiolinklaw37.MeasureBack", spec := "measureBack", unfollowed := true, recurses := true, apart := false }
def MeasureBackSaid : Prop := measureBackRow.holds Try.pinned (OpenSpec.ofChange measureBackSpec)

/-- ITS FALSE NEIGHBOUR: 'it returns false'. Refute it at one input. -/
def measureBackWrong : ChangeSpec := { name := "measureBack", fn := fun _ => fun
  | [d1, d2, d3, d4, d5] => { results := [.lit (.bool false)], args := [d1, d2, d3, d4, d5] }
  | _ => none }
def MeasureBackWrongFalsely : Prop := measureBackRow.holds Try.pinned (OpenSpec.ofChange measureBackWrong)

/- THE SECOND FORM. 'bulk': how many values and letters a reading holds, each counted each time it is reached (what is shared counts as often as it is met; a slice's spare places count too). A statement '..UptoSaid' is the law's where the arguments, and the package variables that the reading takes, are together of bulk at most 1048576: NARROWER than '..Said'. Prove '..Said' where nothing that the law and all that it calls make is longer than what came in: it says more and counts as full. Else prove '..UptoSaid'. A law counts once. -/
mutual
def uptoBulk {H : Type} : DataW H → Nat
  | .lit (.string bytes) => bytes.length + 1
  | .lit _ => 1
  | .nil => 1
  | .ptr d => uptoBulk d + 1
  | .slice elems spare => uptoBulkAll elems + uptoBulkAll spare + 1
  | .agg parts => uptoBulkAll parts + 1
  | .iface _ d => uptoBulk d + 1
  | .map entries => uptoBulkEntries entries + 1
  | .held _ => 1
def uptoBulkAll {H : Type} : List (DataW H) → Nat
  | [] => 0
  | d :: r => uptoBulk d + uptoBulkAll r
def uptoBulkEntries {H : Type} : List (Lit × DataW H) → Nat
  | [] => 0
  | x :: r => uptoBulkEntry x + uptoBulkEntries r
def uptoBulkEntry {H : Type} : Lit × DataW H → Nat
  | (.string bytes, d) => bytes.length + uptoBulk d + 1
  | (_, d) => uptoBulk d + 1
 end
def uptoSmall : (H : Type) → List (DataW H) → Bool := fun _ ds => decide (uptoBulkAll ds ≤ 1048576)
def OpenSpec.upto (s : _root_.Go.ChangeSpec) : _root_.Go.OpenSpec := { _root_.Go.OpenSpec.ofChange s with cond := some uptoSmall }

/-- 'radiolinklaw37.MeasureRaw', WHERE WHAT IT READS IS OF BULK AT MOST 1048576: true; the input reads as it did. -/
def measureRawUptoRow : OpenClaim := { program := "ytbhldnfldkjoiaa", sum := "d08bf3dfd7285fb7103f5814297b6b3f819677856cdb363708839c563a0ab4c4", func := "radiolink/radiolinklaw37.MeasureRaw", spec := "measureRaw", unfollowed := true, recurses := true, apart := false, narrowed := true }
def MeasureRawUptoSaid : Prop := measureRawUptoRow.holds Try.pinned (OpenSpec.upto measureRawSpec)

/-- 'radiolinklaw37.MeasureRuns', WHERE WHAT IT READS IS OF BULK AT MOST 1048576: true; the input reads as it did. -/
def measureRunsUptoRow : OpenClaim := { program := "ytbhldnfldkjoiaa", sum := "d08bf3dfd7285fb7103f5814297b6b3f819677856cdb363708839c563a0ab4c4", func := "radiolink/radiolinklaw37.MeasureRuns", spec := "measureRuns", unfollowed := true, recurses := true, apart := false, narrowed := true }
def MeasureRunsUptoSaid : Prop := measureRunsUptoRow.holds Try.pinned (OpenSpec.upto measureRunsSpec)

/-- 'radiolinklaw37.MeasureSettles', WHERE WHAT IT READS IS OF BULK AT MOST 1048576: true; the input reads as it did. -/
def measureSettlesUptoRow : OpenClaim := { program := "ytbhldnfldkjoiaa", sum := "d08bf3dfd7285fb7103f5814297b6b3f819677856cdb363708839c563a0ab4c4", func := "radiolink/radiolinklaw37.MeasureSettles", spec := "measureSettles", unfollowed := true, recurses := true, apart := false, narrowed := true }
def MeasureSettlesUptoSaid : Prop := measureSettlesUptoRow.holds Try.pinned (OpenSpec.upto measureSettlesSpec)

/-- 'radiolinklaw37.MeasureHolds', WHERE WHAT IT READS IS OF BULK AT MOST 1048576: true; the input reads as it did. -/
def measureHoldsUptoRow : OpenClaim := { program := "ytbhldnfldkjoiaa", sum := "d08bf3dfd7285fb7103f5814297b6b3f819677856cdb363708839c563a0ab4c4", func := "radiolink/radiolinklaw37.MeasureHolds", spec := "measureHolds", unfollowed := true, recurses := true, apart := false, narrowed := true }
def MeasureHoldsUptoSaid : Prop := measureHoldsUptoRow.holds Try.pinned (OpenSpec.upto measureHoldsSpec)

/-- 'radiolinklaw37.MeasureBack', WHERE WHAT IT READS IS OF BULK AT MOST 1048576: true; the input reads as it did. -/
def measureBackUptoRow : OpenClaim := { program := "ytbhldnfldkjoiaa", sum := "d08bf3dfd7285fb7103f5814297b6b3f819677856cdb363708839c563a0ab4c4", func := "radiolink/radiolinklaw37.MeasureBack", spec := "measureBack", unfollowed := true, recurses := true, apart := false, narrowed := true }
def MeasureBackUptoSaid : Prop := measureBackUptoRow.holds Try.pinned (OpenSpec.upto measureBackSpec)

end Rows
end Go.Proofs.Ytbhldnfldkjoiaa
