/-
  No cell of these rows narrows 'for every input' (looked for: loops, veiled, ifaces, maps, wideKeys, modest, calm, conditions, laid).
  DERIVED. THE GIVEN ROWS OF THIS SEAT. 3 by the template 'for every input the law returns true; each argument reads behind the call as it read before'; 0 by the template 'total and deterministic' (their statements: YtdhfadmeablkpaaTotals.lean).
  GIVEN WITH THE SEED: the statements are not yours to turn. If you find one false, say at which input.
  Laid BY PROGRAM, IN A SANDBOX (cutbox-rows.mjs): the forced cells as the released guide's own fill.sh prints them over the translation 8acef321c4ece534… (all of the seat's roots in one cut). By AI agents, Wed Nov 11 2026. No macro, syntax, notation, axiom, sorry.
-/
import Derived.Test.YtdhfadmeablkpaaChecked
import GoSem.Claim
import GoSem.ClaimJoined
import GoSem.ClaimMapViews
import Derived.JoinedTies
import Derived.KernelRfl
namespace Go.Proofs.Ytdhfadmeablkpaa
/- THE CELL 'sum', in the pinned program and in every row, IS THE sha256 OF THE DUMP (.gsa) THAT YtdhfadmeablkpaaProg.lean LOADS. Nothing in Lean hashes anything: it is a label: what it is worth is what the hold of that sum in a sandbox is worth. -/
noncomputable def Try.pinned : Pinned := { name := "ytdhfadmeablkpaa", sum := "8acef321c4ece5341135292a0ab0ad46b6297f11e3c91d99f75b722f60bf864e", checked := Try.checked }
namespace Rows
def none {H : Type} : Left H := { results := [], args := [] }

/-- 'radiolinklaw27.SoftRaw': WHATEVER THE INPUT: true; the input reads as it did. -/
def softRawSpec : ChangeSpec := { name := "softRaw", fn := fun _ => fun
  | [d1, d2, d3, d4, d5, d6] => { results := [.lit (.bool true)], args := [d1, d2, d3, d4, d5, d6] }
  | _ => none }
def softRawRow : OpenClaim := { program := "ytdhfadmeablkpaa", sum := "8acef321c4ece5341135292a0ab0ad46b6297f11e3c91d99f75b722f60bf864e", func := "radiolink/radiolinklaw27.SoftRaw", spec := "softRaw", unfollowed := true, recurses := true, apart := false }
def SoftRawSaid : Prop := softRawRow.holds Try.pinned (OpenSpec.ofChange softRawSpec)

/-- ITS FALSE NEIGHBOUR: 'it returns false'. Refute it at one input. -/
def softRawWrong : ChangeSpec := { name := "softRaw", fn := fun _ => fun
  | [d1, d2, d3, d4, d5, d6] => { results := [.lit (.bool false)], args := [d1, d2, d3, d4, d5, d6] }
  | _ => none }
def SoftRawWrongFalsely : Prop := softRawRow.holds Try.pinned (OpenSpec.ofChange softRawWrong)

/-- 'radiolinklaw27.SoftHolds': WHATEVER THE INPUT: true; the input reads as it did. -/
def softHoldsSpec : ChangeSpec := { name := "softHolds", fn := fun _ => fun
  | [d1, d2, d3, d4] => { results := [.lit (.bool true)], args := [d1, d2, d3, d4] }
  | _ => none }
def softHoldsRow : OpenClaim := { program := "ytdhfadmeablkpaa", sum := "8acef321c4ece5341135292a0ab0ad46b6297f11e3c91d99f75b722f60bf864e", func := "radiolink/radiolinklaw27.SoftHolds", spec := "softHolds", unfollowed := true, recurses := true, apart := false }
def SoftHoldsSaid : Prop := softHoldsRow.holds Try.pinned (OpenSpec.ofChange softHoldsSpec)

/-- ITS FALSE NEIGHBOUR: 'it returns false'. Refute it at one input. -/
def softHoldsWrong : ChangeSpec := { name := "softHolds", fn := fun _ => fun
  | [d1, d2, d3, d4] => { results := [.lit (.bool false)], args := [d1, d2, d3, d4] }
  | _ => none }
def SoftHoldsWrongFalsely : Prop := softHoldsRow.holds Try.pinned (OpenSpec.ofChange softHoldsWrong)

/-- 'radiolinklaw27.SoftClips': WHATEVER THE INPUT: true; the input reads as it did. -/
def softClipsSpec : ChangeSpec := { name := "softClips", fn := fun _ => fun
  | [d1, d2] => { results := [.lit (.bool true)], args := [d1, d2] }
  | _ => none }
def softClipsRow : OpenClaim := { program := "ytdhfadmeablkpaa", sum := "8acef321c4ece5341135292a0ab0ad46b6297f11e3c91d99f75b722f60bf864e", func := "radiolink/radiolinklaw27.SoftClips", spec := "softClips", unfollowed := true, recurses := true, apart := false }
def SoftClipsSaid : Prop := softClipsRow.holds Try.pinned (OpenSpec.ofChange softClipsSpec)

/-- ITS FALSE NEIGHBOUR: 'it returns false'. Refute it at one input. -/
def softClipsWrong : ChangeSpec := { name := "softClips", fn := fun _ => fun
  | [d1, d2] => { results := [.lit (.bool false)], args := [d1, d2] }
  | _ => none }
def SoftClipsWrongFalsely : Prop := softClipsRow.holds Try.pinned (OpenSpec.ofChange softClipsWrong)

/- THE SECOND FORM. 'bulk': how many values and letters a reading holds, each counted each time it is reached (what is shared counts as often as it is met; a slice's spare places count too). A statement '..UptoSaid' is the law's where the arguments, and the package variables that the reading takes, are together of bulk at most 1048576: NARROWER than '..Said'. Prove '..Said' where nothing that the law and all that it calls make is longer than what came in: it says more and counts as full. Else prove '..UptoSaid'. A law counts once. -/
mutual
def uptoBulk {H : Type} : DataW H → Nat
  | .lit (.string bytes) => bytes.length + 1
  | .lit _ => 1
  | .nil => 1
  | .ptr d => uptoBulk d + 1
  | .slice elems spare => uptoBulkAll elems + uptoBulkAll spare + 1
  | .agg parts => uptoBulkAll parts + 1
  | .iface _ d => uptoBulk d + 1
  | .map entries => uptoBulkEntries entries + 1
  | .held _ => 1
def uptoBulkAll {H : Type} : List (DataW H) → Nat
  | [] => 0
  | d :: r => uptoBulk d + uptoBulkAll r
def uptoBulkEntries {H : Type} : List (Lit × DataW H) → Nat
  | [] => 0
  | x :: r => uptoBulkEntry x + uptoBulkEntries r
def uptoBulkEntry {H : Type} : Lit × DataW H → Nat
  | (.string bytes, d) => bytes.length + uptoBulk d + 1
  | (_, d) => uptoBulk d + 1
 end
def uptoSmall : (H : Type) → List (DataW H) → Bool := fun _ ds => decide (uptoBulkAll ds ≤ 1048576)
def OpenSpec.upto (s : _root_.Go.ChangeSpec) : _root_.Go.OpenSpec := { _root_.Go.OpenSpec.ofChange s with cond := some uptoSmall }

/-- 'radiolinklaw27.SoftRaw', WHERE WHAT IT READS IS OF BULK AT MOST 1048576: true; the input reads as it did. -/
def softRawUptoRow : OpenClaim := { program := "ytdhfadmeablkpaa", sum := "8acef321c4ece5341135292a0ab0ad46b6297f11e3c91d99f75b722f60bf864e", func := "radiolink/radiolinklaw27.SoftRaw", spec := "softRaw", unfollowed := true, recurses := true, apart := false, narrowed := true }
def SoftRawUptoSaid : Prop := softRawUptoRow.holds Try.pinned (OpenSpec.upto softRawSpec)

/-- 'radiolinklaw27.SoftHolds', WHERE WHAT IT READS IS OF BULK AT MOST 1048576: true; the input reads as it did. -/
def softHoldsUptoRow : OpenClaim := { program := "ytdhfadmeablkpaa", sum := "8acef321c4ece5341135292a0ab0ad46b6297f11e3c91d99f75b722f60bf864e", func := "radiolink/radiolinklaw27.SoftHolds", spec := "softHolds", unfollowed := true, recurses := true, apart := false, narrowed := true }
def SoftHoldsUptoSaid : Prop := softHoldsUptoRow.holds Try.pinned (OpenSpec.upto softHoldsSpec)

/-- 'radiolinklaw27.SoftClips', WHERE WHAT IT READS IS OF BULK AT MOST 1048576: true; the input reads as it did. -/
def softClipsUptoRow : OpenClaim := { program := "ytdhfadmeablkpaa", sum := "8acef321c4ece5341135292a0ab0ad46b6297f11e3c91d99f75b722f60bf864e", func := "radiolink/radiolinklaw27.SoftClips", spec := "softClips", unfollowed := true, recurses := true, apart := false, narrowed := true }
def SoftClipsUptoSaid : Prop := softClipsUptoRow.holds Try.pinned (OpenSpec.upto softClipsSpec)

end Rows
end Go.Proofs.Ytdhfadmeablkpaa
