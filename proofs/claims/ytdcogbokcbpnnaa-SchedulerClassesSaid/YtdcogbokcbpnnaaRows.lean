/-
  No cell of these rows narrows 'for every input' (looked for: loops, veiled, ifaces, maps, wideKeys, modest, calm, conditions, laid).
  DERIVED. THE GIVEN ROWS OF THIS SEAT. 7 by the template 'for every input the law returns true; each argument reads behind the call as it read before'; 0 by the template 'total and deterministic' (their statements: YtdcogbokcbpnnaaTotals.lean).
  GIVEN WITH THE SEED: the statements are not yours to turn. If you find one false, say at which input.
  Laid BY PROGRAM, IN A SANDBOX (cutbox-rows.mjs): the forced cells as the released guide's own fill.sh prints them over the translation fb2fa0ecc977d4d6… (all of the seat's roots in one cut). By AI agents, Wed Nov 11 2026. No macro, syntax, notation, axiom, sorry.
-/
import Derived.Test.YtdcogbokcbpnnaaChecked
import GoSem.Claim
import GoSem.ClaimJoined
import GoSem.ClaimMapViews
import Derived.JoinedTies
import Derived.KernelRfl
namespace Go.Proofs.Ytdcogbokcbpnnaa
/- THE CELL 'sum', in the pinned program and in every row, IS THE sha256 OF THE DUMP (.gsa) THAT YtdcogbokcbpnnaaProg.lean LOADS. Nothing in Lean hashes anything: it is a label: what it is worth is what the hold of that sum in a sandbox is worth. -/
noncomputable def Try.pinned : Pinned := { name := "ytdcogbokcbpnnaa", sum := "fb2fa0ecc977d4d629024aca32f526430a70d573e914222f9d8270eadec0e1ef", checked := Try.checked }
namespace Rows
def none {H : Type} : Left H := { results := [], args := [] }

/-- 'radiolinklaw34.SchedulerRaw': WHATEVER THE INPUT: true; the input reads as it did. -/
def schedulerRawSpec : ChangeSpec := { name := "schedulerRaw", fn := fun _ => fun
  | [d1, d2, d3, d4] => { results := [.lit (.bool true)], args := [d1, d2, d3, d4] }
  | _ => none }
def schedulerRawRow : OpenClaim := { program := "ytdcogbokcbpnnaa", sum := "fb2fa0ecc977d4d629024aca32f526430a70d573e914222f9d8270eadec0e1ef", func := "radiolink/radiolinklaw34.SchedulerRaw", spec := "schedulerRaw", unfollowed := true, recurses := true, apart := false }
def SchedulerRawSaid : Prop := schedulerRawRow.holds Try.pinned (OpenSpec.ofChange schedulerRawSpec)

/-- ITS FALSE NEIGHBOUR: 'it returns false'. Refute it at one input. -/
def schedulerRawWrong : ChangeSpec := { name := "schedulerRaw", fn := fun _ => fun
  | [d1, d2, d3, d4] => { results := [.lit (.bool false)], args := [d1, d2, d3, d4] }
  | _ => none }
def SchedulerRawWrongFalsely : Prop := schedulerRawRow.holds Try.pinned (OpenSpec.ofChange schedulerRawWrong)

/-- 'radiolinklaw34.SchedulerMade': WHATEVER THE INPUT: true; the input reads as it did. -/
def schedulerMadeSpec : ChangeSpec := { name := "schedulerMade", fn := fun _ => fun
  | [d1, d2] => { results := [.lit (.bool true)], args := [d1, d2] }
  | _ => none }
def schedulerMadeRow : OpenClaim := { program := "ytdcogbokcbpnnaa", sum := "fb2fa0ecc977d4d629024aca32f526430a70d573e914222f9d8270eadec0e1ef", func := "radiolink/radiolinklaw34.SchedulerMade", spec := "schedulerMade", unfollowed := true, recurses := true, apart := false }
def SchedulerMadeSaid : Prop := schedulerMadeRow.holds Try.pinned (OpenSpec.ofChange schedulerMadeSpec)

/-- ITS FALSE NEIGHBOUR: 'it returns false'. Refute it at one input. -/
def schedulerMadeWrong : ChangeSpec := { name := "schedulerMade", fn := fun _ => fun
  | [d1, d2] => { results := [.lit (.bool false)], args := [d1, d2] }
  | _ => none }
def SchedulerMadeWrongFalsely : Prop := schedulerMadeRow.holds Try.pinned (OpenSpec.ofChange schedulerMadeWrong)

/-- 'radiolinklaw34.SchedulerUses': WHATEVER THE INPUT: true; the input reads as it did. -/
def schedulerUsesSpec : ChangeSpec := { name := "schedulerUses", fn := fun _ => fun
  | [d1, d2] => { results := [.lit (.bool true)], args := [d1, d2] }
  | _ => none }
def schedulerUsesRow : OpenClaim := { program := "ytdcogbokcbpnnaa", sum := "fb2fa0ecc977d4d629024aca32f526430a70d573e914222f9d8270eadec0e1ef", func := "radiolink/radiolinklaw34.SchedulerUses", spec := "schedulerUses", unfollowed := true, recurses := true, apart := false }
def SchedulerUsesSaid : Prop := schedulerUsesRow.holds Try.pinned (OpenSpec.ofChange schedulerUsesSpec)

/-- ITS FALSE NEIGHBOUR: 'it returns false'. Refute it at one input. -/
def schedulerUsesWrong : ChangeSpec := { name := "schedulerUses", fn := fun _ => fun
  | [d1, d2] => { results := [.lit (.bool false)], args := [d1, d2] }
  | _ => none }
def SchedulerUsesWrongFalsely : Prop := schedulerUsesRow.holds Try.pinned (OpenSpec.ofChange schedulerUsesWrong)

/-- 'radiolinklaw34.SchedulerOwed': WHATEVER THE INPUT: true; the input reads as it did. -/
def schedulerOwedSpec : ChangeSpec := { name := "schedulerOwed", fn := fun _ => fun
  | [d1, d2, d3] => { results := [.lit (.bool true)], args := [d1, d2, d3] }
  | _ => none }
def schedulerOwedRow : OpenClaim := { program := "ytdcogbokcbpnnaa", sum := "fb2fa0ecc977d4d629024aca32f526430a70d573e914222f9d8270eadec0e1ef", func := "radiolink/radiolinklaw34.SchedulerOwed", spec := "schedulerOwed", unfollowed := true, recurses := true, apart := false }
def SchedulerOwedSaid : Prop := schedulerOwedRow.holds Try.pinned (OpenSpec.ofChange schedulerOwedSpec)

/-- ITS FALSE NEIGHBOUR: 'it returns false'. Refute it at one input. -/
def schedulerOwedWrong : ChangeSpec := { name := "schedulerOwed", fn := fun _ => fun
  | [d1, d2, d3] => { results := [.lit (.bool false)], args := [d1, d2, d3] }
  | _ => none }
def SchedulerOwedWrongFalsely : Prop := schedulerOwedRow.holds Try.pinned (OpenSpec.ofChange schedulerOwedWrong)

/-- 'radiolinklaw34.SchedulerTurns': WHATEVER THE INPUT: true; the input reads as it did. -/
def schedulerTurnsSpec : ChangeSpec := { name := "schedulerTurns", fn := fun _ => fun
  | [d1, d2, d3, d4, d5] => { results := [.lit (.bool true)], args := [d1, d2, d3, d4, d5] }
  | _ => none }
def schedulerTurnsRow : OpenClaim := { program := "ytdcogbokcbpnnaa", sum := "fb2fa0ecc977d4d629024aca32f526430a70d573e914222f9d8270eadec0e1ef", func := "radiolink/radiolinklaw34.SchedulerTurns", spec := "schedulerTurns", unfollowed := true, recurses := true, apart := false }
def SchedulerTurnsSaid : Prop := schedulerTurnsRow.holds Try.pinned (OpenSpec.ofChange schedulerTurnsSpec)

/-- ITS FALSE NEIGHBOUR: 'it returns false'. Refute it at one input. -/
def schedulerTurnsWrong : ChangeSpec := { name := "schedulerTurns", fn := fun _ => fun
  | [d1, d2, d3, d4, d5] => { results := [.lit (.bool false)], args := [d1, d2, d3, d4, d5] }
  | _ => none }
def SchedulerTurnsWrongFalsely : Prop := schedulerTurnsRow.holds Try.pinned (OpenSpec.ofChange schedulerTurnsWrong)

/-- 'radiolinklaw34.SchedulerClasses': WHATEVER THE INPUT: true; the input reads as it did. -/
def schedulerClassesSpec : ChangeSpec := { name := "schedulerClasses", fn := fun _ => fun
  | [d1, d2, d3, d4] => { results := [.lit (.bool true)], args := [d1, d2, d3, d4] }
  | _ => none }
def schedulerClassesRow : OpenClaim := { program := "ytdcogbokcbpnnaa", sum := "fb2fa0ecc977d4d629024aca32f526430a70d573e914222f9d8270eadec0e1ef", func := "radiolink/radiolinklaw34.SchedulerClasses", spec := "schedulerClasses", unfollowed := true, recurses := true, apart := false }
def SchedulerClassesSaid : Prop := schedulerClassesRow.holds Try.pinned (OpenSpec.ofChange schedulerClassesSpec)

/-- ITS FALSE NEIGHBOUR: 'it returns false'. Refute it at one input. -/
def schedulerClassesWrong : ChangeSpec := { name := "schedulerClasses", fn := fun _ => fun
  | [d1, d2, d3, d4] => { results := [.lit (.bool false)], args := [d1, d2, d3, d4] }
  | _ => none }
def SchedulerClassesWrongFalsely : Prop := schedulerClassesRow.holds Try.pinned (OpenSpec.ofChange schedulerClassesWrong)

/-- 'radiolinklaw34.SchedulerAgain': WHATEVER THE INPUT: true; the input reads as it did. -/
def schedulerAgainSpec : ChangeSpec := { name := "schedulerAgain", fn := fun _ => fun
  | [d1, d2, d3] => { results := [.lit (.bool true)], args := [d1, d2, d3] }
  | _ => none }
def schedulerAgainRow : OpenClaim := { program := "ytdcogbokcbpnnaa", sum := "fb2fa0ecc977d4d629024aca32f526430a70d573e914222f9d8270eadec0e1ef", func := "radiolink/radiolinklaw34.SchedulerAgain", spec := "schedulerAgain", unfollowed := true, recurses := true, apart := false }
def SchedulerAgainSaid : Prop := schedulerAgainRow.holds Try.pinned (OpenSpec.ofChange schedulerAgainSpec)

/-- ITS FALSE NEIGHBOUR: 'it returns false'. Refute it at one input. -/
def schedulerAgainWrong : ChangeSpec := { name := "schedulerAgain", fn := fun _ => fun
  | [d1, d2, d3] => { results := [.lit (.bool false)], args := [d1, d2, d3] }
  | _ => none }
def SchedulerAgainWrongFalsely : Prop := schedulerAgainRow.holds Try.pinned (OpenSpec.ofChange schedulerAgainWrong)

/- THE SECOND FORM. 'bulk': how many values and letters a reading holds, each counted each time it is reached (what is shared counts as often as it is met; a slice's spare places count too). A statement '..UptoSaid' is the law's where the arguments, and the package variables that the reading takes, are together of bulk at most 1048576: NARROWER than '..Said'. Prove '..Said' where nothing that the law and all that it calls make is longer than what came in: it says more and counts as full. Else prove '..UptoSaid'. A law counts once. -/
mutual
def uptoBulk {H : Type} : DataW H → Nat
  | .lit (.string bytes) => bytes.length + 1
  | .lit _ => 1
  | .nil => 1
  | .ptr d => uptoBulk d + 1
  | .slice elems spare => uptoBulkAll elems + uptoBulkAll spare + 1
  | .agg parts => uptoBulkAll parts + 1
  | .iface _ d => uptoBulk d + 1
  | .map entries => uptoBulkEntries entries + 1
  | .held _ => 1
def uptoBulkAll {H : Type} : List (DataW H) → Nat
  | [] => 0
  | d :: r => uptoBulk d + uptoBulkAll r
def uptoBulkEntries {H : Type} : List (Lit × DataW H) → Nat
  | [] => 0
  | x :: r => uptoBulkEntry x + uptoBulkEntries r
def uptoBulkEntry {H : Type} : Lit × DataW H → Nat
  | (.string bytes, d) => bytes.length + uptoBulk d + 1
  | (_, d) => uptoBulk d + 1
 end
def uptoSmall : (H : Type) → List (DataW H) → Bool := fun _ ds => decide (uptoBulkAll ds ≤ 1048576)
def OpenSpec.upto (s : _root_.Go.ChangeSpec) : _root_.Go.OpenSpec := { _root_.Go.OpenSpec.ofChange s with cond := some uptoSmall }

/-- 'radiolinklaw34.SchedulerRaw', WHERE WHAT IT READS IS OF BULK AT MOST 1048576: true; the input reads as it did. -/
def schedulerRawUptoRow : OpenClaim := { program := "ytdcogbokcbpnnaa", sum := "fb2fa0ecc977d4d629024aca32f526430a70d573e914222f9d8270eadec0e1ef", func := "radiolink/radiolinklaw34.SchedulerRaw", spec := "schedulerRaw", unfollowed := true, recurses := true, apart := false, narrowed := true }
def SchedulerRawUptoSaid : Prop := schedulerRawUptoRow.holds Try.pinned (OpenSpec.upto schedulerRawSpec)

/-- 'radiolinklaw34.SchedulerMade', WHERE WHAT IT READS IS OF BULK AT MOST 1048576: true; the input reads as it did. -/
def schedulerMadeUptoRow : OpenClaim := { program := "ytdcogbokcbpnnaa", sum := "fb2fa0ecc977d4d629024aca32f526430a70d573e914222f9d8270eadec0e1ef", func := "radiolink/radiolinklaw34.SchedulerMade", spec := "schedulerMade", unfollowed := true, recurses := true, apart := false, narrowed := true }
def SchedulerMadeUptoSaid : Prop := schedulerMadeUptoRow.holds Try.pinned (OpenSpec.upto schedulerMadeSpec)

/-- 'radiolinklaw34.SchedulerUses', WHERE WHAT IT READS IS OF BULK AT MOST 1048576: true; the input reads as it did. -/
def schedulerUsesUptoRow : OpenClaim := { program := "ytdcogbokcbpnnaa", sum := "fb2fa0ecc977d4d629024aca32f526430a70d573e914222f9d8270eadec0e1ef", func := "radiolink/radiolinklaw34.SchedulerUses", spec := "schedulerUses", unfollowed := true, recurses := true, apart := false, narrowed := true }
def SchedulerUsesUptoSaid : Prop := schedulerUsesUptoRow.holds Try.pinned (OpenSpec.upto schedulerUsesSpec)

/-- 'radiolinklaw34.SchedulerOwed', WHERE WHAT IT READS IS OF BULK AT MOST 1048576: true; the input reads as it did. -/
def schedulerOwedUptoRow : OpenClaim := { program := "ytdcogbokcbpnnaa", sum := "fb2fa0ecc977d4d629024aca32f526430a70d573e914222f9d8270eadec0e1ef", func := "radiolink/radiolinklaw34.SchedulerOwed", spec := "schedulerOwed", unfollowed := true, recurses := true, apart := false, narrowed := true }
def SchedulerOwedUptoSaid : Prop := schedulerOwedUptoRow.holds Try.pinned (OpenSpec.upto schedulerOwedSpec)

/-- 'radiolinklaw34.SchedulerTurns', WHERE WHAT IT READS IS OF BULK AT MOST 1048576: true; the input reads as it did. -/
def schedulerTurnsUptoRow : OpenClaim := { program := "ytdcogbokcbpnnaa", sum := "fb2fa0ecc977d4d629024aca32f526430a70d573e914222f9d8270eadec0e1ef", func := "radiolink/radiolinklaw34.SchedulerTurns", spec := "schedulerTurns", unfollowed := true, recurses := true, apart := false, narrowed := true }
def SchedulerTurnsUptoSaid : Prop := schedulerTurnsUptoRow.holds Try.pinned (OpenSpec.upto schedulerTurnsSpec)

/-- 'radiolinklaw34.SchedulerClasses', WHERE WHAT IT READS IS OF BULK AT MOST 1048576: true; the input reads as it did. -/
def schedulerClassesUptoRow : OpenClaim := { program := "ytdcogbokcbpnnaa", sum := "fb2fa0ecc977d4d629024aca32f526430a70d573e914222f9d8270eadec0e1ef", func := "radiolink/radiolinklaw34.SchedulerClasses", spec := "schedulerClasses", unfollowed := true, recurses := true, apart := false, narrowed := true }
def SchedulerClassesUptoSaid : Prop := schedulerClassesUptoRow.holds Try.pinned (OpenSpec.upto schedulerClassesSpec)

/-- 'radiolinklaw34.SchedulerAgain', WHERE WHAT IT READS IS OF BULK AT MOST 1048576: true; the input reads as it did. -/
def schedulerAgainUptoRow : OpenClaim := { program := "ytdcogbokcbpnnaa", sum := "fb2fa0ecc977d4d629024aca32f526430a70d573e914222f9d8270eadec0e1ef", func := "radiolink/radiolinklaw34.SchedulerAgain", spec := "schedulerAgain", unfollowed := true, recurses := true, apart := false, narrowed := true }
def SchedulerAgainUptoSaid : Prop := schedulerAgainUptoRow.holds Try.pinned (OpenSpec.upto schedulerAgainSpec)

end Rows
end Go.Proofs.Ytdcogbokcbpnnaa
