/-
  No cell of these rows narrows 'for every input' (looked for: loops, veiled, ifaces, maps, wideKeys, modest, calm, conditions, laid).
  DERIVED. THE GIVEN ROWS OF THIS SEAT. 5 by the template 'for every input the law returns true; each argument reads behind the call as it read before'; 0 by the template 'total and deterministic' (their statements: YtfkbcjpiijcbfaaTotals.lean).
  GIVEN WITH THE SEED: the statements are not yours to turn. If you find one false, say at which input.
  Laid BY PROGRAM, IN A SANDBOX (cutbox-rows.mjs): the forced cells as the released guide's own fill.sh prints them over the translation c552ff947f06d34b… (all of the seat's roots in one cut). By AI agents, Wed Nov 11 2026. No macro, syntax, notation, axiom, sorry.
-/
import Derived.Test.YtfkbcjpiijcbfaaChecked
import GoSem.Claim
import GoSem.ClaimJoined
import GoSem.ClaimMapViews
import Derived.JoinedTies
import Derived.KernelRfl
namespace Go.Proofs.Ytfkbcjpiijcbfaa
/- THE CELL 'sum', in the pinned program and in every row, IS THE sha256 OF THE DUMP (.gsa) THAT YtfkbcjpiijcbfaaProg.lean LOADS. Nothing in Lean hashes anything: it is a label: what it is worth is what the hold of that sum in a sandbox is worth. -/
noncomputable def Try.pinned : Pinned := { name := "ytfkbcjpiijcbfaa", sum := "c552ff947f06d34b6b040d0e200f106240c6971ec0bb5c8123887d5b58ca6749", checked := Try.checked }
namespace Rows
def none {H : Type} : Left H := { results := [], args := [] }

/-- 'radiolinklaw31.ChannelNoise': WHATEVER THE INPUT: true; the input reads as it did. -/
def channelNoiseSpec : ChangeSpec := { name := "channelNoise", fn := fun _ => fun
  | [d1, d2, d3, d4, d5, d6, d7] => { results := [.lit (.bool true)], args := [d1, d2, d3, d4, d5, d6, d7] }
  | _ => none }
def channelNoiseRow : OpenClaim := { program := "ytfkbcjpiijcbfaa", sum := "c552ff947f06d34b6b040d0e200f106240c6971ec0bb5c8123887d5b58ca6749", func := "radiolink/radiolinklaw31.ChannelNoise", spec := "channelNoise", unfollowed := true, recurses := true, apart := false }
def ChannelNoiseSaid : Prop := channelNoiseRow.holds Try.pinned (OpenSpec.ofChange channelNoiseSpec)

/-- ITS FALSE NEIGHBOUR: 'it returns false'. Refute it at one input. -/
def channelNoiseWrong : ChangeSpec := { name := "channelNoise", fn := fun _ => fun
  | [d1, d2, d3, d4, d5, d6, d7] => { results := [.lit (.bool false)], args := [d1, d2, d3, d4, d5, d6, d7] }
  | _ => none }
def ChannelNoiseWrongFalsely : Prop := channelNoiseRow.holds Try.pinned (OpenSpec.ofChange channelNoiseWrong)

/-- 'radiolinklaw31.ChannelScripts': WHATEVER THE INPUT: true; the input reads as it did. -/
def channelScriptsSpec : ChangeSpec := { name := "channelScripts", fn := fun _ => fun
  | [d1, d2, d3, d4, d5] => { results := [.lit (.bool true)], args := [d1, d2, d3, d4, d5] }
  | _ => none }
def channelScriptsRow : OpenClaim := { program := "ytfkbcjpiijcbfaa", sum := "c552ff947f06d34b6b040d0e200f106240c6971ec0bb5c8123887d5b58ca6749", func := "radiolink/radiolinklaw31.ChannelScripts", spec := "channelScripts", unfollowed := true, recurses := true, apart := false }
def ChannelScriptsSaid : Prop := channelScriptsRow.holds Try.pinned (OpenSpec.ofChange channelScriptsSpec)

/-- ITS FALSE NEIGHBOUR: 'it returns false'. Refute it at one input. -/
def channelScriptsWrong : ChangeSpec := { name := "channelScripts", fn := fun _ => fun
  | [d1, d2, d3, d4, d5] => { results := [.lit (.bool false)], args := [d1, d2, d3, d4, d5] }
  | _ => none }
def ChannelScriptsWrongFalsely : Prop := channelScriptsRow.holds Try.pinned (OpenSpec.ofChange channelScriptsWrong)

/-- 'radiolinklaw31.ChannelRaw': WHATEVER THE INPUT: true; the input reads as it did. -/
def channelRawSpec : ChangeSpec := { name := "channelRaw", fn := fun _ => fun
  | [d1, d2, d3, d4, d5, d6, d7, d8] => { results := [.lit (.bool true)], args := [d1, d2, d3, d4, d5, d6, d7, d8] }
  | _ => none }
def channelRawRow : OpenClaim := { program := "ytfkbcjpiijcbfaa", sum := "c552ff947f06d34b6b040d0e200f106240c6971ec0bb5c8123887d5b58ca6749", func := "radiolink/radiolinklaw31.ChannelRaw", spec := "channelRaw", unfollowed := true, recurses := true, apart := false }
def ChannelRawSaid : Prop := channelRawRow.holds Try.pinned (OpenSpec.ofChange channelRawSpec)

/-- ITS FALSE NEIGHBOUR: 'it returns false'. Refute it at one input. -/
def channelRawWrong : ChangeSpec := { name := "channelRaw", fn := fun _ => fun
  | [d1, d2, d3, d4, d5, d6, d7, d8] => { results := [.lit (.bool false)], args := [d1, d2, d3, d4, d5, d6, d7, d8] }
  | _ => none }
def ChannelRawWrongFalsely : Prop := channelRawRow.holds Try.pinned (OpenSpec.ofChange channelRawWrong)

/-- 'radiolinklaw31.ChannelMade': WHATEVER THE INPUT: true; the input reads as it did. -/
def channelMadeSpec : ChangeSpec := { name := "channelMade", fn := fun _ => fun
  | [d1, d2, d3, d4] => { results := [.lit (.bool true)], args := [d1, d2, d3, d4] }
  | _ => none }
def channelMadeRow : OpenClaim := { program := "ytfkbcjpiijcbfaa", sum := "c552ff947f06d34b6b040d0e200f106240c6971ec0bb5c8123887d5b58ca6749", func := "radiolink/radiolinklaw31.ChannelMade", spec := "channelMade", unfollowed := true, recurses := true, apart := false }
def ChannelMadeSaid : Prop := channelMadeRow.holds Try.pinned (OpenSpec.ofChange channelMadeSpec)

/-- ITS FALSE NEIGHBOUR: 'it returns false'. Refute it at one input. -/
def channelMadeWrong : ChangeSpec := { name := "channelMade", fn := fun _ => fun
  | [d1, d2, d3, d4] => { results := [.lit (.bool false)], args := [d1, d2, d3, d4] }
  | _ => none }
def ChannelMadeWrongFalsely : Prop := channelMadeRow.holds Try.pinned (OpenSpec.ofChange channelMadeWrong)

/-- 'radiolinklaw31.ChannelSure': WHATEVER THE INPUT: true; the input reads as it did. -/
def channelSureSpec : ChangeSpec := { name := "channelSure", fn := fun _ => fun
  | [d1, d2, d3, d4, d5] => { results := [.lit (.bool true)], args := [d1, d2, d3, d4, d5] }
  | _ => none }
def channelSureRow : OpenClaim := { program := "ytfkbcjpiijcbfaa", sum := "c552ff947f06d34b6b040d0e200f106240c6971ec0bb5c8123887d5b58ca6749", func := "radiolink/radiolinklaw31.ChannelSure", spec := "channelSure", unfollowed := true, recurses := true, apart := false }
def ChannelSureSaid : Prop := channelSureRow.holds Try.pinned (OpenSpec.ofChange channelSureSpec)

/-- ITS FALSE NEIGHBOUR: 'it returns false'. Refute it at one input. -/
def channelSureWrong : ChangeSpec := { name := "channelSure", fn := fun _ => fun
  | [d1, d2, d3, d4, d5] => { results := [.lit (.bool false)], args := [d1, d2, d3, d4, d5] }
  | _ => none }
def ChannelSureWrongFalsely : Prop := channelSureRow.holds Try.pinned (OpenSpec.ofChange channelSureWrong)

/- THE SECOND FORM. 'bulk': how many values and letters a reading holds, each counted each time it is reached (what is shared counts as often as it is met; a slice's spare places count too). A statement '..UptoSaid' is the law's where the arguments, and the package variables that the reading takes, are together of bulk at most 1048576: NARROWER than '..Said'. Prove '..Said' where nothing that the law and all that it calls make is longer than what came in: it says more and counts as full. Else prove '..UptoSaid'. A law counts once. -/
mutual
def uptoBulk {H : Type} : DataW H → Nat
  | .lit (.string bytes) => bytes.length + 1
  | .lit _ => 1
  | .nil => 1
  | .ptr d => uptoBulk d + 1
  | .slice elems spare => uptoBulkAll elems + uptoBulkAll spare + 1
  | .agg parts => uptoBulkAll parts + 1
  | .iface _ d => uptoBulk d + 1
  | .map entries => uptoBulkEntries entries + 1
  | .held _ => 1
def uptoBulkAll {H : Type} : List (DataW H) → Nat
  | [] => 0
  | d :: r => uptoBulk d + uptoBulkAll r
def uptoBulkEntries {H : Type} : List (Lit × DataW H) → Nat
  | [] => 0
  | x :: r => uptoBulkEntry x + uptoBulkEntries r
def uptoBulkEntry {H : Type} : Lit × DataW H → Nat
  | (.string bytes, d) => bytes.length + uptoBulk d + 1
  | (_, d) => uptoBulk d + 1
 end
def uptoSmall : (H : Type) → List (DataW H) → Bool := fun _ ds => decide (uptoBulkAll ds ≤ 1048576)
def OpenSpec.upto (s : _root_.Go.ChangeSpec) : _root_.Go.OpenSpec := { _root_.Go.OpenSpec.ofChange s with cond := some uptoSmall }

/-- 'radiolinklaw31.ChannelNoise', WHERE WHAT IT READS IS OF BULK AT MOST 1048576: true; the input reads as it did. -/
def channelNoiseUptoRow : OpenClaim := { program := "ytfkbcjpiijcbfaa", sum := "c552ff947f06d34b6b040d0e200f106240c6971ec0bb5c8123887d5b58ca6749", func := "radiolink/radiolinklaw31.ChannelNoise", spec := "channelNoise", unfollowed := true, recurses := true, apart := false, narrowed := true }
def ChannelNoiseUptoSaid : Prop := channelNoiseUptoRow.holds Try.pinned (OpenSpec.upto channelNoiseSpec)

/-- 'radiolinklaw31.ChannelScripts', WHERE WHAT IT READS IS OF BULK AT MOST 1048576: true; the input reads as it did. -/
def channelScriptsUptoRow : OpenClaim := { program := "ytfkbcjpiijcbfaa", sum := "c552ff947f06d34b6b040d0e200f106240c6971ec0bb5c8123887d5b58ca6749", func := "radiolink/radiolinklaw31.ChannelScripts", spec := "channelScripts", unfollowed := true, recurses := true, apart := false, narrowed := true }
def ChannelScriptsUptoSaid : Prop := channelScriptsUptoRow.holds Try.pinned (OpenSpec.upto channelScriptsSpec)

/-- 'radiolinklaw31.ChannelRaw', WHERE WHAT IT READS IS OF BULK AT MOST 1048576: true; the input reads as it did. -/
def channelRawUptoRow : OpenClaim := { program := "ytfkbcjpiijcbfaa", sum := "c552ff947f06d34b6b040d0e200f106240c6971ec0bb5c8123887d5b58ca6749", func := "radiolink/radiolinklaw31.ChannelRaw", spec := "channelRaw", unfollowed := true, recurses := true, apart := false, narrowed := true }
def ChannelRawUptoSaid : Prop := channelRawUptoRow.holds Try.pinned (OpenSpec.upto channelRawSpec)

/-- 'radiolinklaw31.ChannelMade', WHERE WHAT IT READS IS OF BULK AT MOST 1048576: true; the input reads as it did. -/
def channelMadeUptoRow : OpenClaim := { program := "ytfkbcjpiijcbfaa", sum := "c552ff947f06d34b6b040d0e200f106240c6971ec0bb5c8123887d5b58ca6749", func := "radiolink/radiolinklaw31.ChannelMade", spec := "channelMade", unfollowed := true, recurses := true, apart := false, narrowed := true }
def ChannelMadeUptoSaid : Prop := channelMadeUptoRow.holds Try.pinned (OpenSpec.upto channelMadeSpec)

/-- 'radiolinklaw31.ChannelSure', WHERE WHAT IT READS IS OF BULK AT MOST 1048576: true; the input reads as it did. -/
def channelSureUptoRow : OpenClaim := { program := "ytfkbcjpiijcbfaa", sum := "c552ff947f06d34b6b040d0e200f106240c6971ec0bb5c8123887d5b58ca6749", func := "radiolink/radiolinklaw31.ChannelSure", spec := "channelSure", unfollowed := true, recurses := true, apart := false, narrowed := true }
def ChannelSureUptoSaid : Prop := channelSureUptoRow.holds Try.pinned (OpenSpec.upto channelSureSpec)

end Rows
end Go.Proofs.Ytfkbcjpiijcbfaa
