/-
  No cell of these rows narrows 'for every input' (looked for: loops, veiled, ifaces, maps, wideKeys, modest, calm, conditions, laid).
  DERIVED. THE GIVEN ROWS OF THIS SEAT. 4 by the template 'for every input the law returns true; each argument reads behind the call as it read before'; 0 by the template 'total and deterministic' (their statements: YtobmnajgbhgdlaaTotals.lean).
  GIVEN WITH THE SEED: the statements are not yours to turn. If you find one false, say at which input.
  Laid BY PROGRAM, IN A SANDBOX (cutbox-rows.mjs): the forced cells as the released guide's own fill.sh prints them over the translation ef3699e2f6dea1f6… (all of the seat's roots in one cut). By AI agents, Wed Nov 11 2026. No macro, syntax, notation, axiom, sorry.
-/
import Derived.Test.YtobmnajgbhgdlaaChecked
import GoSem.Claim
import GoSem.ClaimJoined
import GoSem.ClaimMapViews
import Derived.JoinedTies
import Derived.KernelRfl
namespace Go.Proofs.Ytobmnajgbhgdlaa
/- THE CELL 'sum', in the pinned program and in every row, IS THE sha256 OF THE DUMP (.gsa) THAT YtobmnajgbhgdlaaProg.lean LOADS. Nothing in Lean hashes anything: it is a label: what it is worth is what the hold of that sum in a sandbox is worth. -/
noncomputable def Try.pinned : Pinned := { name := "ytobmnajgbhgdlaa", sum := "ef3699e2f6dea1f64a1dd54b2c24e81c181d4214d187882c17746165ace50159", checked := Try.checked }
namespace Rows
def none {H : Type} : Left H := { results := [], args := [] }

/-- 'radiolinklaw36.PagingEnds': WHATEVER THE INPUT: true; the input reads as it did. -/
def pagingEndsSpec : ChangeSpec := { name := "pagingEnds", fn := fun _ => fun
  | [d1, d2, d3, d4] => { results := [.lit (.bool true)], args := [d1, d2, d3, d4] }
  | _ => none }
def pagingEndsRow : OpenClaim := { program := "ytobmnajgbhgdlaa", sum := "ef3699e2f6dea1f64a1dd54b2c24e81c181d4214d187882c17746165ace50159", func := "radiolink/radiolinklaw36.PagingEnds", spec := "pagingEnds", unfollowed := true, recurses := true, apart := false }
def PagingEndsSaid : Prop := pagingEndsRow.holds Try.pinned (OpenSpec.ofChange pagingEndsSpec)

/-- ITS FALSE NEIGHBOUR: 'it returns false'. Refute it at one input. -/
def pagingEndsWrong : ChangeSpec := { name := "pagingEnds", fn := fun _ => fun
  | [d1, d2, d3, d4] => { results := [.lit (.bool false)], args := [d1, d2, d3, d4] }
  | _ => none }
def PagingEndsWrongFalsely : Prop := pagingEndsRow.holds Try.pinned (OpenSpec.ofChange pagingEndsWrong)

/-- 'radiolinklaw36.PagingRaw': WHATEVER THE INPUT: true; the input reads as it did. -/
def pagingRawSpec : ChangeSpec := { name := "pagingRaw", fn := fun _ => fun
  | [d1, d2, d3] => { results := [.lit (.bool true)], args := [d1, d2, d3] }
  | _ => none }
def pagingRawRow : OpenClaim := { program := "ytobmnajgbhgdlaa", sum := "ef3699e2f6dea1f64a1dd54b2c24e81c181d4214d187882c17746165ace50159", func := "radiolink/radiolinklaw36.PagingRaw", spec := "pagingRaw", unfollowed := true, recurses := true, apart := false }
def PagingRawSaid : Prop := pagingRawRow.holds Try.pinned (OpenSpec.ofChange pagingRawSpec)

/-- ITS FALSE NEIGHBOUR: 'it returns false'. Refute it at one input. -/
def pagingRawWrong : ChangeSpec := { name := "pagingRaw", fn := fun _ => fun
  | [d1, d2, d3] => { results := [.lit (.bool false)], args := [d1, d2, d3] }
  | _ => none }
def PagingRawWrongFalsely : Prop := pagingRawRow.holds Try.pinned (OpenSpec.ofChange pagingRawWrong)

/-- 'radiolinklaw36.PagingRuns': WHATEVER THE INPUT: true; the input reads as it did. -/
def pagingRunsSpec : ChangeSpec := { name := "pagingRuns", fn := fun _ => fun
  | [d] => { results := [.lit (.bool true)], args := [d] }
  | _ => none }
def pagingRunsRow : OpenClaim := { program := "ytobmnajgbhgdlaa", sum := "ef3699e2f6dea1f64a1dd54b2c24e81c181d4214d187882c17746165ace50159", func := "radiolink/radiolinklaw36.PagingRuns", spec := "pagingRuns", unfollowed := true, recurses := true, apart := false }
def PagingRunsSaid : Prop := pagingRunsRow.holds Try.pinned (OpenSpec.ofChange pagingRunsSpec)

/-- ITS FALSE NEIGHBOUR: 'it returns false'. Refute it at one input. -/
def pagingRunsWrong : ChangeSpec := { name := "pagingRuns", fn := fun _ => fun
  | [d] => { results := [.lit (.bool false)], args := [d] }
  | _ => none }
def PagingRunsWrongFalsely : Prop := pagingRunsRow.holds Try.pinned (OpenSpec.ofChange pagingRunsWrong)

/-- 'radiolinklaw36.PagingAnswers': WHATEVER THE INPUT: true; the input reads as it did. -/
def pagingAnswersSpec : ChangeSpec := { name := "pagingAnswers", fn := fun _ => fun
  | [d1, d2, d3] => { results := [.lit (.bool true)], args := [d1, d2, d3] }
  | _ => none }
def pagingAnswersRow : OpenClaim := { program := "ytobmnajgbhgdlaa", sum := "ef3699e2f6dea1f64a1dd54b2c24e81c181d4214d187882c17746165ace50159", func := "radiolink/radiolinklaw36.PagingAnswers", spec := "pagingAnswers", unfollowed := true, recurses := true, apart := false }
def PagingAnswersSaid : Prop := pagingAnswersRow.holds Try.pinned (OpenSpec.ofChange pagingAnswersSpec)

/-- ITS FALSE NEIGHBOUR: 'it returns false'. Refute it at one input. -/
def pagingAnswersWrong : ChangeSpec := { name := "pagingAnswers", fn := fun _ => fun
  | [d1, d2, d3] => { results := [.lit (.bool false)], args := [d1, d2, d3] }
  | _ => none }
def PagingAnswersWrongFalsely : Prop := pagingAnswersRow.holds Try.pinned (OpenSpec.ofChange pagingAnswersWrong)

/- THE SECOND FORM. 'bulk': how many values and letters a reading holds, each counted each time it is reached (what is shared counts as often as it is met; a slice's spare places count too). A statement '..UptoSaid' is the law's where the arguments, and the package variables that the reading takes, are together of bulk at most 1048576: NARROWER than '..Said'. Prove '..Said' where nothing that the law and all that it calls make is longer than what came in: it says more and counts as full. Else prove '..UptoSaid'. A law counts once. -/
mutual
def uptoBulk {H : Type} : DataW H → Nat
  | .lit (.string bytes) => bytes.length + 1
  | .lit _ => 1
  | .nil => 1
  | .ptr d => uptoBulk d + 1
  | .slice elems spare => uptoBulkAll elems + uptoBulkAll spare + 1
  | .agg parts => uptoBulkAll parts + 1
  | .iface _ d => uptoBulk d + 1
  | .map entries => uptoBulkEntries entries + 1
  | .held _ => 1
def uptoBulkAll {H : Type} : List (DataW H) → Nat
  | [] => 0
  | d :: r => uptoBulk d + uptoBulkAll r
def uptoBulkEntries {H : Type} : List (Lit × DataW H) → Nat
  | [] => 0
  | x :: r => uptoBulkEntry x + uptoBulkEntries r
def uptoBulkEntry {H : Type} : Lit × DataW H → Nat
  | (.string bytes, d) => bytes.length + uptoBulk d + 1
  | (_, d) => uptoBulk d + 1
 end
def uptoSmall : (H : Type) → List (DataW H) → Bool := fun _ ds => decide (uptoBulkAll ds ≤ 1048576)
def OpenSpec.upto (s : _root_.Go.ChangeSpec) : _root_.Go.OpenSpec := { _root_.Go.OpenSpec.ofChange s with cond := some uptoSmall }

/-- 'radiolinklaw36.PagingEnds', WHERE WHAT IT READS IS OF BULK AT MOST 1048576: true; the input reads as it did. -/
def pagingEndsUptoRow : OpenClaim := { program := "ytobmnajgbhgdlaa", sum := "ef3699e2f6dea1f64a1dd54b2c24e81c181d4214d187882c17746165ace50159", func := "radiolink/radiolinklaw36.PagingEnds", spec := "pagingEnds", unfollowed := true, recurses := true, apart := false, narrowed := true }
def PagingEndsUptoSaid : Prop := pagingEndsUptoRow.holds Try.pinned (OpenSpec.upto pagingEndsSpec)

/-- 'radiolinklaw36.PagingRaw', WHERE WHAT IT READS IS OF BULK AT MOST 1048576: true; the input reads as it did. -/
def pagingRawUptoRow : OpenClaim := { program := "ytobmnajgbhgdlaa", sum := "ef3699e2f6dea1f64a1dd54b2c24e81c181d4214d187882c17746165ace50159", func := "radiolink/radiolinklaw36.PagingRaw", spec := "pagingRaw", unfollowed := true, recurses := true, apart := false, narrowed := true }
def PagingRawUptoSaid : Prop := pagingRawUptoRow.holds Try.pinned (OpenSpec.upto pagingRawSpec)

/-- 'radiolinklaw36.PagingRuns', WHERE WHAT IT READS IS OF BULK AT MOST 1048576: true; the input reads as it did. -/
def pagingRunsUptoRow : OpenClaim := { program := "ytobmnajgbhgdlaa", sum := "ef3699e2f6dea1f64a1dd54b2c24e81c181d4214d187882c17746165ace50159", func := "radiolink/radiolinklaw36.PagingRuns", spec := "pagingRuns", unfollowed := true, recurses := true, apart := false, narrowed := true }
def PagingRunsUptoSaid : Prop := pagingRunsUptoRow.holds Try.pinned (OpenSpec.upto pagingRunsSpec)

/-- 'radiolinklaw36.PagingAnswers', WHERE WHAT IT READS IS OF BULK AT MOST 1048576: true; the input reads as it did. -/
def pagingAnswersUptoRow : OpenClaim := { program := "ytobmnajgbhgdlaa", sum := "ef3699e2f6dea1f64a1dd54b2c24e81c181d4214d187882c17746165ace50159", func := "radiolink/radiolinklaw36.PagingAnswers", spec := "pagingAnswers", unfollowed := true, recurses := true, apart := false, narrowed := true }
def PagingAnswersUptoSaid : Prop := pagingAnswersUptoRow.holds Try.pinned (OpenSpec.upto pagingAnswersSpec)

end Rows
end Go.Proofs.Ytobmnajgbhgdlaa
