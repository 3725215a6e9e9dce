/-
  No cell of these rows narrows 'for every input' (looked for: loops, veiled, ifaces, maps, wideKeys, modest, calm, conditions, laid).
  DERIVED. THE GIVEN ROWS OF THIS SEAT. 5 by the template 'for every input the law returns true; each argument reads behind the call as it read before'; 0 by the template 'total and deterministic' (their statements: YtjbokpejfifamaaTotals.lean).
  GIVEN WITH THE SEED: the statements are not yours to turn. If you find one false, say at which input.
  Laid BY PROGRAM, IN A SANDBOX (cutbox-rows.mjs): the forced cells as the released guide's own fill.sh prints them over the translation db810fdc58fc84bb… (all of the seat's roots in one cut). By AI agents, Wed Nov 11 2026. No macro, syntax, notation, axiom, sorry.
-/
import Derived.Test.YtjbokpejfifamaaChecked
import GoSem.Claim
import GoSem.ClaimJoined
import GoSem.ClaimMapViews
import Derived.JoinedTies
import Derived.KernelRfl
namespace Go.Proofs.Ytjbokpejfifamaa
/- THE CELL 'sum', in the pinned program and in every row, IS THE sha256 OF THE DUMP (.gsa) THAT YtjbokpejfifamaaProg.lean LOADS. Nothing in Lean hashes anything: it is a label: what it is worth is what the hold of that sum in a sandbox is worth. -/
noncomputable def Try.pinned : Pinned := { name := "ytjbokpejfifamaa", sum := "db810fdc58fc84bbf17821f154d05725097baea8b9ec5246f3c1d84a116a8d61", checked := Try.checked }
namespace Rows
def none {H : Type} : Left H := { results := [], args := [] }

/-- 'radiolinklaw35.SleepReaches': WHATEVER THE INPUT: true; the input reads as it did. -/
def sleepReachesSpec : ChangeSpec := { name := "sleepReaches", fn := fun _ => fun
  | [d1, d2, d3] => { results := [.lit (.bool true)], args := [d1, d2, d3] }
  | _ => none }
def sleepReachesRow : OpenClaim := { program := "ytjbokpejfifamaa", sum := "db810fdc58fc84bbf17821f154d05725097baea8b9ec5246f3c1d84a116a8d61", func := "radiolink/radiolinklaw35.SleepReaches", spec := "sleepReaches", unfollowed := true, recurses := true, apart := false }
def SleepReachesSaid : Prop := sleepReachesRow.holds Try.pinned (OpenSpec.ofChange sleepReachesSpec)

/-- ITS FALSE NEIGHBOUR: 'it returns false'. Refute it at one input. -/
def sleepReachesWrong : ChangeSpec := { name := "sleepReaches", fn := fun _ => fun
  | [d1, d2, d3] => { results := [.lit (.bool false)], args := [d1, d2, d3] }
  | _ => none }
def SleepReachesWrongFalsely : Prop := sleepReachesRow.holds Try.pinned (OpenSpec.ofChange sleepReachesWrong)

/-- 'radiolinklaw35.SleepShorts': WHATEVER THE INPUT: true; the input reads as it did. -/
def sleepShortsSpec : ChangeSpec := { name := "sleepShorts", fn := fun _ => fun
  | [d1, d2, d3] => { results := [.lit (.bool true)], args := [d1, d2, d3] }
  | _ => none }
def sleepShortsRow : OpenClaim := { program := "ytjbokpejfifamaa", sum := "db810fdc58fc84bbf17821f154d05725097baea8b9ec5246f3c1d84a116a8d61", func := "radiolink/radiolinklaw35.SleepShorts", spec := "sleepShorts", unfollowed := true, recurses := true, apart := false }
def SleepShortsSaid : Prop := sleepShortsRow.holds Try.pinned (OpenSpec.ofChange sleepShortsSpec)

/-- ITS FALSE NEIGHBOUR: 'it returns false'. Refute it at one input. -/
def sleepShortsWrong : ChangeSpec := { name := "sleepShorts", fn := fun _ => fun
  | [d1, d2, d3] => { results := [.lit (.bool false)], args := [d1, d2, d3] }
  | _ => none }
def SleepShortsWrongFalsely : Prop := sleepShortsRow.holds Try.pinned (OpenSpec.ofChange sleepShortsWrong)

/-- 'radiolinklaw35.SleepRaw': WHATEVER THE INPUT: true; the input reads as it did. -/
def sleepRawSpec : ChangeSpec := { name := "sleepRaw", fn := fun _ => fun
  | [d1, d2, d3, d4, d5] => { results := [.lit (.bool true)], args := [d1, d2, d3, d4, d5] }
  | _ => none }
def sleepRawRow : OpenClaim := { program := "ytjbokpejfifamaa", sum := "db810fdc58fc84bbf17821f154d05725097baea8b9ec5246f3c1d84a116a8d61", func := "radiolink/radiolinklaw35.SleepRaw", spec := "sleepRaw", unfollowed := true, recurses := true, apart := false }
def SleepRawSaid : Prop := sleepRawRow.holds Try.pinned (OpenSpec.ofChange sleepRawSpec)

/-- ITS FALSE NEIGHBOUR: 'it returns false'. Refute it at one input. -/
def sleepRawWrong : ChangeSpec := { name := "sleepRaw", fn := fun _ => fun
  | [d1, d2, d3, d4, d5] => { results := [.lit (.bool false)], args := [d1, d2, d3, d4, d5] }
  | _ => none }
def SleepRawWrongFalsely : Prop := sleepRawRow.holds Try.pinned (OpenSpec.ofChange sleepRawWrong)

/-- 'radiolinklaw35.SleepMade': WHATEVER THE INPUT: true; the input reads as it did. -/
def sleepMadeSpec : ChangeSpec := { name := "sleepMade", fn := fun _ => fun
  | [d1, d2] => { results := [.lit (.bool true)], args := [d1, d2] }
  | _ => none }
def sleepMadeRow : OpenClaim := { program := "ytjbokpejfifamaa", sum := "db810fdc58fc84bbf17821f154d05725097baea8b9ec5246f3c1d84a116a8d61", func := "radiolink/radiolinklaw35.SleepMade", spec := "sleepMade", unfollowed := true, recurses := true, apart := false }
def SleepMadeSaid : Prop := sleepMadeRow.holds Try.pinned (OpenSpec.ofChange sleepMadeSpec)

/-- ITS FALSE NEIGHBOUR: 'it returns false'. Refute it at one input. -/
def sleepMadeWrong : ChangeSpec := { name := "sleepMade", fn := fun _ => fun
  | [d1, d2] => { results := [.lit (.bool false)], args := [d1, d2] }
  | _ => none }
def SleepMadeWrongFalsely : Prop := sleepMadeRow.holds Try.pinned (OpenSpec.ofChange sleepMadeWrong)

/-- 'radiolinklaw35.SleepCosts': WHATEVER THE INPUT: true; the input reads as it did. -/
def sleepCostsSpec : ChangeSpec := { name := "sleepCosts", fn := fun _ => fun
  | [d1, d2, d3, d4] => { results := [.lit (.bool true)], args := [d1, d2, d3, d4] }
  | _ => none }
def sleepCostsRow : OpenClaim := { program := "ytjbokpejfifamaa", sum := "db810fdc58fc84bbf17821f154d05725097baea8b9ec5246f3c1d84a116a8d61", func := "radiolink/radiolinklaw35.SleepCosts", spec := "sleepCosts", unfollowed := true, recurses := true, apart := false }
def SleepCostsSaid : Prop := sleepCostsRow.holds Try.pinned (OpenSpec.ofChange sleepCostsSpec)

/-- ITS FALSE NEIGHBOUR: 'it returns false'. Refute it at one input. -/
def sleepCostsWrong : ChangeSpec := { name := "sleepCosts", fn := fun _ => fun
  | [d1, d2, d3, d4] => { results := [.lit (.bool false)], args := [d1, d2, d3, d4] }
  | _ => none }
def SleepCostsWrongFalsely : Prop := sleepCostsRow.holds Try.pinned (OpenSpec.ofChange sleepCostsWrong)

/- THE SECOND FORM. 'bulk': how many values and letters a reading holds, each counted each time it is reached (what is shared counts as often as it is met; a slice's spare places count too). A statement '..UptoSaid' is the law's where the arguments, and the package variables that the reading takes, are together of bulk at most 1048576: NARROWER than '..Said'. Prove '..Said' where nothing that the law and all that it calls make is longer than what came in: it says more and counts as full. Else prove '..UptoSaid'. A law counts once. -/
mutual
def uptoBulk {H : Type} : DataW H → Nat
  | .lit (.string bytes) => bytes.length + 1
  | .lit _ => 1
  | .nil => 1
  | .ptr d => uptoBulk d + 1
  | .slice elems spare => uptoBulkAll elems + uptoBulkAll spare + 1
  | .agg parts => uptoBulkAll parts + 1
  | .iface _ d => uptoBulk d + 1
  | .map entries => uptoBulkEntries entries + 1
  | .held _ => 1
def uptoBulkAll {H : Type} : List (DataW H) → Nat
  | [] => 0
  | d :: r => uptoBulk d + uptoBulkAll r
def uptoBulkEntries {H : Type} : List (Lit × DataW H) → Nat
  | [] => 0
  | x :: r => uptoBulkEntry x + uptoBulkEntries r
def uptoBulkEntry {H : Type} : Lit × DataW H → Nat
  | (.string bytes, d) => bytes.length + uptoBulk d + 1
  | (_, d) => uptoBulk d + 1
 end
def uptoSmall : (H : Type) → List (DataW H) → Bool := fun _ ds => decide (uptoBulkAll ds ≤ 1048576)
def OpenSpec.upto (s : _root_.Go.ChangeSpec) : _root_.Go.OpenSpec := { _root_.Go.OpenSpec.ofChange s with cond := some uptoSmall }

/-- 'radiolinklaw35.SleepReaches', WHERE WHAT IT READS IS OF BULK AT MOST 1048576: true; the input reads as it did. -/
def sleepReachesUptoRow : OpenClaim := { program := "ytjbokpejfifamaa", sum := "db810fdc58fc84bbf17821f154d05725097baea8b9ec5246f3c1d84a116a8d61", func := "radiolink/radiolinklaw35.SleepReaches", spec := "sleepReaches", unfollowed := true, recurses := true, apart := false, narrowed := true }
def SleepReachesUptoSaid : Prop := sleepReachesUptoRow.holds Try.pinned (OpenSpec.upto sleepReachesSpec)

/-- 'radiolinklaw35.SleepShorts', WHERE WHAT IT READS IS OF BULK AT MOST 1048576: true; the input reads as it did. -/
def sleepShortsUptoRow : OpenClaim := { program := "ytjbokpejfifamaa", sum := "db810fdc58fc84bbf17821f154d05725097baea8b9ec5246f3c1d84a116a8d61", func := "radiolink/radiolinklaw35.SleepShorts", spec := "sleepShorts", unfollowed := true, recurses := true, apart := false, narrowed := true }
def SleepShortsUptoSaid : Prop := sleepShortsUptoRow.holds Try.pinned (OpenSpec.upto sleepShortsSpec)

/-- 'radiolinklaw35.SleepRaw', WHERE WHAT IT READS IS OF BULK AT MOST 1048576: true; the input reads as it did. -/
def sleepRawUptoRow : OpenClaim := { program := "ytjbokpejfifamaa", sum := "db810fdc58fc84bbf17821f154d05725097baea8b9ec5246f3c1d84a116a8d61", func := "radiolink/radiolinklaw35.SleepRaw", spec := "sleepRaw", unfollowed := true, recurses := true, apart := false, narrowed := true }
def SleepRawUptoSaid : Prop := sleepRawUptoRow.holds Try.pinned (OpenSpec.upto sleepRawSpec)

/-- 'radiolinklaw35.SleepMade', WHERE WHAT IT READS IS OF BULK AT MOST 1048576: true; the input reads as it did. -/
def sleepMadeUptoRow : OpenClaim := { program := "ytjbokpejfifamaa", sum := "db810fdc58fc84bbf17821f154d05725097baea8b9ec5246f3c1d84a116a8d61", func := "radiolink/radiolinklaw35.SleepMade", spec := "sleepMade", unfollowed := true, recurses := true, apart := false, narrowed := true }
def SleepMadeUptoSaid : Prop := sleepMadeUptoRow.holds Try.pinned (OpenSpec.upto sleepMadeSpec)

/-- 'radiolinklaw35.SleepCosts', WHERE WHAT IT READS IS OF BULK AT MOST 1048576: true; the input reads as it did. -/
def sleepCostsUptoRow : OpenClaim := { program := "ytjbokpejfifamaa", sum := "db810fdc58fc84bbf17821f154d05725097baea8b9ec5246f3c1d84a116a8d61", func := "radiolink/radiolinklaw35.SleepCosts", spec := "sleepCosts", unfollowed := true, recurses := true, apart := false, narrowed := true }
def SleepCostsUptoSaid : Prop := sleepCostsUptoRow.holds Try.pinned (OpenSpec.upto sleepCostsSpec)

end Rows
end Go.Proofs.Ytjbokpejfifamaa
