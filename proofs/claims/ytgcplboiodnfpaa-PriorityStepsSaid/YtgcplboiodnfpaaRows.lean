/-
  No cell of these rows narrows 'for every input' (looked for: loops, veiled, ifaces, maps, wideKeys, modest, calm, conditions, laid).
  DERIVED. THE GIVEN ROWS OF THIS SEAT. 6 by the template 'for every input the law returns true; each argument reads behind the call as it read before'; 0 by the template 'total and deterministic' (their statements: YtgcplboiodnfpaaTotals.lean).
  GIVEN WITH THE SEED: the statements are not yours to turn. If you find one false, say at which input.
  Laid BY PROGRAM, IN A SANDBOX (cutbox-rows.mjs): the forced cells as the released guide's own fill.sh prints them over the translation adacec662b9914d8… (all of the seat's roots in one cut). By AI agents, Wed Nov 11 2026. No macro, syntax, notation, axiom, sorry.
-/
import Derived.Test.YtgcplboiodnfpaaChecked
import GoSem.Claim
import GoSem.ClaimJoined
import GoSem.ClaimMapViews
import Derived.JoinedTies
import Derived.KernelRfl
namespace Go.Proofs.Ytgcplboiodnfpaa
/- THE CELL 'sum', in the pinned program and in every row, IS THE sha256 OF THE DUMP (.gsa) THAT YtgcplboiodnfpaaProg.lean LOADS. Nothing in Lean hashes anything: it is a label: what it is worth is what the hold of that sum in a sandbox is worth. -/
noncomputable def Try.pinned : Pinned := { name := "ytgcplboiodnfpaa", sum := "adacec662b9914d80ca1e89c49a97b21c641392fc5675349e56aa813f2af0894", checked := Try.checked }
namespace Rows
def none {H : Type} : Left H := { results := [], args := [] }

/-- 'radiolinklaw25.PriorityShares': WHATEVER THE INPUT: true; the input reads as it did. -/
def prioritySharesSpec : ChangeSpec := { name := "priorityShares", fn := fun _ => fun
  | [d1, d2] => { results := [.lit (.bool true)], args := [d1, d2] }
  | _ => none }
def prioritySharesRow : OpenClaim := { program := "ytgcplboiodnfpaa", sum := "adacec662b9914d80ca1e89c49a97b21c641392fc5675349e56aa813f2af0894", func := "radiolink/radiolinklaw25.PriorityShares", spec := "priorityShares", unfollowed := true, recurses := true, apart := false }
def PrioritySharesSaid : Prop := prioritySharesRow.holds Try.pinned (OpenSpec.ofChange prioritySharesSpec)

/-- ITS FALSE NEIGHBOUR: 'it returns false'. Refute it at one input. -/
def prioritySharesWrong : ChangeSpec := { name := "priorityShares", fn := fun _ => fun
  | [d1, d2] => { results := [.lit (.bool false)], args := [d1, d2] }
  | _ => none }
def PrioritySharesWrongFalsely : Prop := prioritySharesRow.holds Try.pinned (OpenSpec.ofChange prioritySharesWrong)

/-- 'radiolinklaw25.PriorityAlone': WHATEVER THE INPUT: true; the input reads as it did. -/
def priorityAloneSpec : ChangeSpec := { name := "priorityAlone", fn := fun _ => fun
  | [d1, d2, d3, d4, d5] => { results := [.lit (.bool true)], args := [d1, d2, d3, d4, d5] }
  | _ => none }
def priorityAloneRow : OpenClaim := { program := "ytgcplboiodnfpaa", sum := "adacec662b9914d80ca1e89c49a97b21c641392fc5675349e56aa813f2af0894", func := "radiolink/radiolinklaw25.PriorityAlone", spec := "priorityAlone", unfollowed := true, recurses := true, apart := false }
def PriorityAloneSaid : Prop := priorityAloneRow.holds Try.pinned (OpenSpec.ofChange priorityAloneSpec)

/-- ITS FALSE NEIGHBOUR: 'it returns false'. Refute it at one input. -/
def priorityAloneWrong : ChangeSpec := { name := "priorityAlone", fn := fun _ => fun
  | [d1, d2, d3, d4, d5] => { results := [.lit (.bool false)], args := [d1, d2, d3, d4, d5] }
  | _ => none }
def PriorityAloneWrongFalsely : Prop := priorityAloneRow.holds Try.pinned (OpenSpec.ofChange priorityAloneWrong)

/-- 'radiolinklaw25.PriorityRaw': WHATEVER THE INPUT: true; the input reads as it did. -/
def priorityRawSpec : ChangeSpec := { name := "priorityRaw", fn := fun _ => fun
  | [d1, d2, d3] => { results := [.lit (.bool true)], args := [d1, d2, d3] }
  | _ => none }
def priorityRawRow : OpenClaim := { program := "ytgcplboiodnfpaa", sum := "adacec662b9914d80ca1e89c49a97b21c641392fc5675349e56aa813f2af0894", func := "radiolink/radiolinklaw25.PriorityRaw", spec := "priorityRaw", unfollowed := true, recurses := true, apart := false }
def PriorityRawSaid : Prop := priorityRawRow.holds Try.pinned (OpenSpec.ofChange priorityRawSpec)

/-- ITS FALSE NEIGHBOUR: 'it returns false'. Refute it at one input. -/
def priorityRawWrong : ChangeSpec := { name := "priorityRaw", fn := fun _ => fun
  | [d1, d2, d3] => { results := [.lit (.bool false)], args := [d1, d2, d3] }
  | _ => none }
def PriorityRawWrongFalsely : Prop := priorityRawRow.holds Try.pinned (OpenSpec.ofChange priorityRawWrong)

/-- 'radiolinklaw25.PrioritySteps': WHATEVER THE INPUT: true; the input reads as it did. -/
def priorityStepsSpec : ChangeSpec := { name := "prioritySteps", fn := fun _ => fun
  | [d] => { results := [.lit (.bool true)], args := [d] }
  | _ => none }
def priorityStepsRow : OpenClaim := { program := "ytgcplboiodnfpaa", sum := "adacec662b9914d80ca1e89c49a97b21c641392fc5675349e56aa813f2af0894", func := "radiolink/radiolinklaw25.PrioritySteps", spec := "prioritySteps", unfollowed := true, recurses := true, apart := false }
def PriorityStepsSaid : Prop := priorityStepsRow.holds Try.pinned (OpenSpec.ofChange priorityStepsSpec)

/-- ITS FALSE NEIGHBOUR: 'it returns false'. Refute it at one input. -/
def priorityStepsWrong : ChangeSpec := { name := "prioritySteps", fn := fun _ => fun
  | [d] => { results := [.lit (.bool false)], args := [d] }
  | _ => none }
def PriorityStepsWrongFalsely : Prop := priorityStepsRow.holds Try.pinned (OpenSpec.ofChange priorityStepsWrong)

/-- 'radiolinklaw25.PriorityRates': WHATEVER THE INPUT: true; the input reads as it did. -/
def priorityRatesSpec : ChangeSpec := { name := "priorityRates", fn := fun _ => fun
  | [d1, d2] => { results := [.lit (.bool true)], args := [d1, d2] }
  | _ => none }
def priorityRatesRow : OpenClaim := { program := "ytgcplboiodnfpaa", sum := "adacec662b9914d80ca1e89c49a97b21c641392fc5675349e56aa813f2af0894", func := "radiolink/radiolinklaw25.PriorityRates", spec := "priorityRates", unfollowed := true, recurses := true, apart := false }
def PriorityRatesSaid : Prop := priorityRatesRow.holds Try.pinned (OpenSpec.ofChange priorityRatesSpec)

/-- ITS FALSE NEIGHBOUR: 'it returns false'. Refute it at one input. -/
def priorityRatesWrong : ChangeSpec := { name := "priorityRates", fn := fun _ => fun
  | [d1, d2] => { results := [.lit (.bool false)], args := [d1, d2] }
  | _ => none }
def PriorityRatesWrongFalsely : Prop := priorityRatesRow.holds Try.pinned (OpenSpec.ofChange priorityRatesWrong)

/-- 'radiolinklaw25.PrioritySaves': WHATEVER THE INPUT: true; the input reads as it did. -/
def prioritySavesSpec : ChangeSpec := { name := "prioritySaves", fn := fun _ => fun
  | [d1, d2, d3] => { results := [.lit (.bool true)], args := [d1, d2, d3] }
  | _ => none }
def prioritySavesRow : OpenClaim := { program := "ytgcplboiodnfpaa", sum := "adacec662b9914d80ca1e89c49a97b21c641392fc5675349e56aa813f2af0894", func := "radiolink/radiolinklaw25.PrioritySaves", spec := "prioritySaves", unfollowed := true, recurses := true, apart := false }
def PrioritySavesSaid : Prop := prioritySavesRow.holds Try.pinned (OpenSpec.ofChange prioritySavesSpec)

/-- ITS FALSE NEIGHBOUR: 'it returns false'. Refute it at one input. -/
def prioritySavesWrong : ChangeSpec := { name := "prioritySaves", fn := fun _ => fun
  | [d1, d2, d3] => { results := [.lit (.bool false)], args := [d1, d2, d3] }
  | _ => none }
def PrioritySavesWrongFalsely : Prop := prioritySavesRow.holds Try.pinned (OpenSpec.ofChange prioritySavesWrong)

/- THE SECOND FORM. 'bulk': how many values and letters a reading holds, each counted each time it is reached (what is shared counts as often as it is met; a slice's spare places count too). A statement '..UptoSaid' is the law's where the arguments, and the package variables that the reading takes, are together of bulk at most 1048576: NARROWER than '..Said'. Prove '..Said' where nothing that the law and all that it calls make is longer than what came in: it says more and counts as full. Else prove '..UptoSaid'. A law counts once. -/
mutual
def uptoBulk {H : Type} : DataW H → Nat
  | .lit (.string bytes) => bytes.length + 1
  | .lit _ => 1
  | .nil => 1
  | .ptr d => uptoBulk d + 1
  | .slice elems spare => uptoBulkAll elems + uptoBulkAll spare + 1
  | .agg parts => uptoBulkAll parts + 1
  | .iface _ d => uptoBulk d + 1
  | .map entries => uptoBulkEntries entries + 1
  | .held _ => 1
def uptoBulkAll {H : Type} : List (DataW H) → Nat
  | [] => 0
  | d :: r => uptoBulk d + uptoBulkAll r
def uptoBulkEntries {H : Type} : List (Lit × DataW H) → Nat
  | [] => 0
  | x :: r => uptoBulkEntry x + uptoBulkEntries r
def uptoBulkEntry {H : Type} : Lit × DataW H → Nat
  | (.string bytes, d) => bytes.length + uptoBulk d + 1
  | (_, d) => uptoBulk d + 1
 end
def uptoSmall : (H : Type) → List (DataW H) → Bool := fun _ ds => decide (uptoBulkAll ds ≤ 1048576)
def OpenSpec.upto (s : _root_.Go.ChangeSpec) : _root_.Go.OpenSpec := { _root_.Go.OpenSpec.ofChange s with cond := some uptoSmall }

/-- 'radiolinklaw25.PriorityShares', WHERE WHAT IT READS IS OF BULK AT MOST 1048576: true; the input reads as it did. -/
def prioritySharesUptoRow : OpenClaim := { program := "ytgcplboiodnfpaa", sum := "adacec662b9914d80ca1e89c49a97b21c641392fc5675349e56aa813f2af0894", func := "radiolink/radiolinklaw25.PriorityShares", spec := "priorityShares", unfollowed := true, recurses := true, apart := false, narrowed := true }
def PrioritySharesUptoSaid : Prop := prioritySharesUptoRow.holds Try.pinned (OpenSpec.upto prioritySharesSpec)

/-- 'radiolinklaw25.PriorityAlone', WHERE WHAT IT READS IS OF BULK AT MOST 1048576: true; the input reads as it did. -/
def priorityAloneUptoRow : OpenClaim := { program := "ytgcplboiodnfpaa", sum := "adacec662b9914d80ca1e89c49a97b21c641392fc5675349e56aa813f2af0894", func := "radiolink/radiolinklaw25.PriorityAlone", spec := "priorityAlone", unfollowed := true, recurses := true, apart := false, narrowed := true }
def PriorityAloneUptoSaid : Prop := priorityAloneUptoRow.holds Try.pinned (OpenSpec.upto priorityAloneSpec)

/-- 'radiolinklaw25.PriorityRaw', WHERE WHAT IT READS IS OF BULK AT MOST 1048576: true; the input reads as it did. -/
def priorityRawUptoRow : OpenClaim := { program := "ytgcplboiodnfpaa", sum := "adacec662b9914d80ca1e89c49a97b21c641392fc5675349e56aa813f2af0894", func := "radiolink/radiolinklaw25.PriorityRaw", spec := "priorityRaw", unfollowed := true, recurses := true, apart := false, narrowed := true }
def PriorityRawUptoSaid : Prop := priorityRawUptoRow.holds Try.pinned (OpenSpec.upto priorityRawSpec)

/-- 'radiolinklaw25.PrioritySteps', WHERE WHAT IT READS IS OF BULK AT MOST 1048576: true; the input reads as it did. -/
def priorityStepsUptoRow : OpenClaim := { program := "ytgcplboiodnfpaa", sum := "adacec662b9914d80ca1e89c49a97b21c641392fc5675349e56aa813f2af0894", func := "radiolink/radiolinklaw25.PrioritySteps", spec := "prioritySteps", unfollowed := true, recurses := true, apart := false, narrowed := true }
def PriorityStepsUptoSaid : Prop := priorityStepsUptoRow.holds Try.pinned (OpenSpec.upto priorityStepsSpec)

/-- 'radiolinklaw25.PriorityRates', WHERE WHAT IT READS IS OF BULK AT MOST 1048576: true; the input reads as it did. -/
def priorityRatesUptoRow : OpenClaim := { program := "ytgcplboiodnfpaa", sum := "adacec662b9914d80ca1e89c49a97b21c641392fc5675349e56aa813f2af0894", func := "radiolink/radiolinklaw25.PriorityRates", spec := "priorityRates", unfollowed := true, recurses := true, apart := false, narrowed := true }
def PriorityRatesUptoSaid : Prop := priorityRatesUptoRow.holds Try.pinned (OpenSpec.upto priorityRatesSpec)

/-- 'radiolinklaw25.PrioritySaves', WHERE WHAT IT READS IS OF BULK AT MOST 1048576: true; the input reads as it did. -/
def prioritySavesUptoRow : OpenClaim := { program := "ytgcplboiodnfpaa", sum := "adacec662b9914d80ca1e89c49a97b21c641392fc5675349e56aa813f2af0894", func := "radiolink/radiolinklaw25.PrioritySaves", spec := "prioritySaves", unfollowed := true, recurses := true, apart := false, narrowed := true }
def PrioritySavesUptoSaid : Prop := prioritySavesUptoRow.holds Try.pinned (OpenSpec.upto prioritySavesSpec)

end Rows
end Go.Proofs.Ytgcplboiodnfpaa
