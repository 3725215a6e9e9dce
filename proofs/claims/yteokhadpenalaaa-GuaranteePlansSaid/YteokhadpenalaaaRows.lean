/-
  No cell of these rows narrows 'for every input' (looked for: loops, veiled, ifaces, maps, wideKeys, modest, calm, conditions, laid).
  DERIVED. THE GIVEN ROWS OF THIS SEAT. 6 by the template 'for every input the law returns true; each argument reads behind the call as it read before'; 0 by the template 'total and deterministic' (their statements: YteokhadpenalaaaTotals.lean).
  GIVEN WITH THE SEED: the statements are not yours to turn. If you find one false, say at which input.
  Laid BY PROGRAM, IN A SANDBOX (cutbox-rows.mjs): the forced cells as the released guide's own fill.sh prints them over the translation ed384b9985e2fbc6… (all of the seat's roots in one cut). By AI agents, Wed Nov 11 2026. No macro, syntax, notation, axiom, sorry.
-/
import Derived.Test.YteokhadpenalaaaChecked
import GoSem.Claim
import GoSem.ClaimJoined
import GoSem.ClaimMapViews
import Derived.JoinedTies
import Derived.KernelRfl
namespace Go.Proofs.Yteokhadpenalaaa
/- THE CELL 'sum', in the pinned program and in every row, IS THE sha256 OF THE DUMP (.gsa) THAT YteokhadpenalaaaProg.lean LOADS. Nothing in Lean hashes anything: it is a label: what it is worth is what the hold of that sum in a sandbox is worth. -/
noncomputable def Try.pinned : Pinned := { name := "yteokhadpenalaaa", sum := "ed384b9985e2fbc660271dc12dfe7daca1ac8cecd9e6c341e775391c09e629a4", checked := Try.checked }
namespace Rows
def none {H : Type} : Left H := { results := [], args := [] }

/-- 'radiolinklaw33.GuaranteeRaw': WHATEVER THE INPUT: true; the input reads as it did. -/
def guaranteeRawSpec : ChangeSpec := { name := "guaranteeRaw", fn := fun _ => fun
  | [d1, d2, d3, d4, d5, d6, d7] => { results := [.lit (.bool true)], args := [d1, d2, d3, d4, d5, d6, d7] }
  | _ => none }
def guaranteeRawRow : OpenClaim := { program := "yteokhadpenalaaa", sum := "ed384b9985e2fbc660271dc12dfe7daca1ac8cecd9e6c341e775391c09e629a4", func := "radiolink/radiolinklaw33.GuaranteeRaw", spec := "guaranteeRaw", apart := false }
def GuaranteeRawSaid : Prop := guaranteeRawRow.holds Try.pinned (OpenSpec.ofChange guaranteeRawSpec)

/-- ITS FALSE NEIGHBOUR: 'it returns false'. Refute it at one input. -/
def guaranteeRawWrong : ChangeSpec := { name := "guaranteeRaw", fn := fun _ => fun
  | [d1, d2, d3, d4, d5, d6, d7] => { results := [.lit (.bool false)], args := [d1, d2, d3, d4, d5, d6, d7] }
  | _ => none }
def GuaranteeRawWrongFalsely : Prop := guaranteeRawRow.holds Try.pinned (OpenSpec.ofChange guaranteeRawWrong)

/-- 'radiolinklaw33.GuaranteeMade': WHATEVER THE INPUT: true; the input reads as it did. -/
def guaranteeMadeSpec : ChangeSpec := { name := "guaranteeMade", fn := fun _ => fun
  | [d1, d2, d3, d4, d5] => { results := [.lit (.bool true)], args := [d1, d2, d3, d4, d5] }
  | _ => none }
def guaranteeMadeRow : OpenClaim := { program := "yteokhadpenalaaa", sum := "ed384b9985e2fbc660271dc12dfe7daca1ac8cecd9e6c341e775391c09e629a4", func := "radiolink/radiolinklaw33.GuaranteeMade", spec := "guaranteeMade", apart := false }
def GuaranteeMadeSaid : Prop := guaranteeMadeRow.holds Try.pinned (OpenSpec.ofChange guaranteeMadeSpec)

/-- ITS FALSE NEIGHBOUR: 'it returns false'. Refute it at one input. -/
def guaranteeMadeWrong : ChangeSpec := { name := "guaranteeMade", fn := fun _ => fun
  | [d1, d2, d3, d4, d5] => { results := [.lit (.bool false)], args := [d1, d2, d3, d4, d5] }
  | _ => none }
def GuaranteeMadeWrongFalsely : Prop := guaranteeMadeRow.holds Try.pinned (OpenSpec.ofChange guaranteeMadeWrong)

/-- 'radiolinklaw33.GuaranteePlans': WHATEVER THE INPUT: true; the input reads as it did. -/
def guaranteePlansSpec : ChangeSpec := { name := "guaranteePlans", fn := fun _ => fun
  | [d1, d2] => { results := [.lit (.bool true)], args := [d1, d2] }
  | _ => none }
def guaranteePlansRow : OpenClaim := { program := "yteokhadpenalaaa", sum := "ed384b9985e2fbc660271dc12dfe7daca1ac8cecd9e6c341e775391c09e629a4", func := "radiolink/radiolinklaw33.GuaranteePlans", spec := "guaranteePlans", apart := false }
def GuaranteePlansSaid : Prop := guaranteePlansRow.holds Try.pinned (OpenSpec.ofChange guaranteePlansSpec)

/-- ITS FALSE NEIGHBOUR: 'it returns false'. Refute it at one input. -/
def guaranteePlansWrong : ChangeSpec := { name := "guaranteePlans", fn := fun _ => fun
  | [d1, d2] => { results := [.lit (.bool false)], args := [d1, d2] }
  | _ => none }
def GuaranteePlansWrongFalsely : Prop := guaranteePlansRow.holds Try.pinned (OpenSpec.ofChange guaranteePlansWrong)

/-- 'radiolinklaw33.GuaranteeMore': WHATEVER THE INPUT: true; the input reads as it did. -/
def guaranteeMoreSpec : ChangeSpec := { name := "guaranteeMore", fn := fun _ => fun
  | [d1, d2, d3] => { results := [.lit (.bool true)], args := [d1, d2, d3] }
  | _ => none }
def guaranteeMoreRow : OpenClaim := { program := "yteokhadpenalaaa", sum := "ed384b9985e2fbc660271dc12dfe7daca1ac8cecd9e6c341e775391c09e629a4", func := "radiolink/radiolinklaw33.GuaranteeMore", spec := "guaranteeMore", apart := false }
def GuaranteeMoreSaid : Prop := guaranteeMoreRow.holds Try.pinned (OpenSpec.ofChange guaranteeMoreSpec)

/-- ITS FALSE NEIGHBOUR: 'it returns false'. Refute it at one input. -/
def guaranteeMoreWrong : ChangeSpec := { name := "guaranteeMore", fn := fun _ => fun
  | [d1, d2, d3] => { results := [.lit (.bool false)], args := [d1, d2, d3] }
  | _ => none }
def GuaranteeMoreWrongFalsely : Prop := guaranteeMoreRow.holds Try.pinned (OpenSpec.ofChange guaranteeMoreWrong)

/-- 'radiolinklaw33.GuaranteeWindows': WHATEVER THE INPUT: true; the input reads as it did. -/
def guaranteeWindowsSpec : ChangeSpec := { name := "guaranteeWindows", fn := fun _ => fun
  | [d1, d2, d3] => { results := [.lit (.bool true)], args := [d1, d2, d3] }
  | _ => none }
def guaranteeWindowsRow : OpenClaim := { program := "yteokhadpenalaaa", sum := "ed384b9985e2fbc660271dc12dfe7daca1ac8cecd9e6c341e775391c09e629a4", func := "radiolink/radiolinklaw33.GuaranteeWindows", spec := "guaranteeWindows", apart := false }
def GuaranteeWindowsSaid : Prop := guaranteeWindowsRow.holds Try.pinned (OpenSpec.ofChange guaranteeWindowsSpec)

/-- ITS FALSE NEIGHBOUR: 'it returns false'. Refute it at one input. -/
def guaranteeWindowsWrong : ChangeSpec := { name := "guaranteeWindows", fn := fun _ => fun
  | [d1, d2, d3] => { results := [.lit (.bool false)], args := [d1, d2, d3] }
  | _ => none }
def GuaranteeWindowsWrongFalsely : Prop := guaranteeWindowsRow.holds Try.pinned (OpenSpec.ofChange guaranteeWindowsWrong)

/-- 'radiolinklaw33.GuaranteeAdds': WHATEVER THE INPUT: true; the input reads as it did. -/
def guaranteeAddsSpec : ChangeSpec := { name := "guaranteeAdds", fn := fun _ => fun
  | [d1, d2, d3, d4] => { results := [.lit (.bool true)], args := [d1, d2, d3, d4] }
  | _ => none }
def guaranteeAddsRow : OpenClaim := { program := "yteokhadpenalaaa", sum := "ed384b9985e2fbc660271dc12dfe7daca1ac8cecd9e6c341e775391c09e629a4", func := "radiolink/radiolinklaw33.GuaranteeAdds", spec := "guaranteeAdds", apart := false }
def GuaranteeAddsSaid : Prop := guaranteeAddsRow.holds Try.pinned (OpenSpec.ofChange guaranteeAddsSpec)

/-- ITS FALSE NEIGHBOUR: 'it returns false'. Refute it at one input. -/
def guaranteeAddsWrong : ChangeSpec := { name := "guaranteeAdds", fn := fun _ => fun
  | [d1, d2, d3, d4] => { results := [.lit (.bool false)], args := [d1, d2, d3, d4] }
  | _ => none }
def GuaranteeAddsWrongFalsely : Prop := guaranteeAddsRow.holds Try.pinned (OpenSpec.ofChange guaranteeAddsWrong)

/- THE SECOND FORM. 'bulk': how many values and letters a reading holds, each counted each time it is reached (what is shared counts as often as it is met; a slice's spare places count too). A statement '..UptoSaid' is the law's where the arguments, and the package variables that the reading takes, are together of bulk at most 1048576: NARROWER than '..Said'. Prove '..Said' where nothing that the law and all that it calls make is longer than what came in: it says more and counts as full. Else prove '..UptoSaid'. A law counts once. -/
mutual
def uptoBulk {H : Type} : DataW H → Nat
  | .lit (.string bytes) => bytes.length + 1
  | .lit _ => 1
  | .nil => 1
  | .ptr d => uptoBulk d + 1
  | .slice elems spare => uptoBulkAll elems + uptoBulkAll spare + 1
  | .agg parts => uptoBulkAll parts + 1
  | .iface _ d => uptoBulk d + 1
  | .map entries => uptoBulkEntries entries + 1
  | .held _ => 1
def uptoBulkAll {H : Type} : List (DataW H) → Nat
  | [] => 0
  | d :: r => uptoBulk d + uptoBulkAll r
def uptoBulkEntries {H : Type} : List (Lit × DataW H) → Nat
  | [] => 0
  | x :: r => uptoBulkEntry x + uptoBulkEntries r
def uptoBulkEntry {H : Type} : Lit × DataW H → Nat
  | (.string bytes, d) => bytes.length + uptoBulk d + 1
  | (_, d) => uptoBulk d + 1
 end
def uptoSmall : (H : Type) → List (DataW H) → Bool := fun _ ds => decide (uptoBulkAll ds ≤ 1048576)
def OpenSpec.upto (s : _root_.Go.ChangeSpec) : _root_.Go.OpenSpec := { _root_.Go.OpenSpec.ofChange s with cond := some uptoSmall }

/-- 'radiolinklaw33.GuaranteeRaw', WHERE WHAT IT READS IS OF BULK AT MOST 1048576: true; the input reads as it did. -/
def guaranteeRawUptoRow : OpenClaim := { program := "yteokhadpenalaaa", sum := "ed384b9985e2fbc660271dc12dfe7daca1ac8cecd9e6c341e775391c09e629a4", func := "radiolink/radiolinklaw33.GuaranteeRaw", spec := "guaranteeRaw", apart := false, narrowed := true }
def GuaranteeRawUptoSaid : Prop := guaranteeRawUptoRow.holds Try.pinned (OpenSpec.upto guaranteeRawSpec)

/-- 'radiolinklaw33.GuaranteeMade', WHERE WHAT IT READS IS OF BULK AT MOST 1048576: true; the input reads as it did. -/
def guaranteeMadeUptoRow : OpenClaim := { program := "yteokhadpenalaaa", sum := "ed384b9985e2fbc660271dc12dfe7daca1ac8cecd9e6c341e775391c09e629a4", func := "radiolink/radiolinklaw33.GuaranteeMade", spec := "guaranteeMade", apart := false, narrowed := true }
def GuaranteeMadeUptoSaid : Prop := guaranteeMadeUptoRow.holds Try.pinned (OpenSpec.upto guaranteeMadeSpec)

/-- 'radiolinklaw33.GuaranteePlans', WHERE WHAT IT READS IS OF BULK AT MOST 1048576: true; the input reads as it did. -/
def guaranteePlansUptoRow : OpenClaim := { program := "yteokhadpenalaaa", sum := "ed384b9985e2fbc660271dc12dfe7daca1ac8cecd9e6c341e775391c09e629a4", func := "radiolink/radiolinklaw33.GuaranteePlans", spec := "guaranteePlans", apart := false, narrowed := true }
def GuaranteePlansUptoSaid : Prop := guaranteePlansUptoRow.holds Try.pinned (OpenSpec.upto guaranteePlansSpec)

/-- 'radiolinklaw33.GuaranteeMore', WHERE WHAT IT READS IS OF BULK AT MOST 1048576: true; the input reads as it did. -/
def guaranteeMoreUptoRow : OpenClaim := { program := "yteokhadpenalaaa", sum := "ed384b9985e2fbc660271dc12dfe7daca1ac8cecd9e6c341e775391c09e629a4", func := "radiolink/radiolinklaw33.GuaranteeMore", spec := "guaranteeMore", apart := false, narrowed := true }
def GuaranteeMoreUptoSaid : Prop := guaranteeMoreUptoRow.holds Try.pinned (OpenSpec.upto guaranteeMoreSpec)

/-- 'radiolinklaw33.GuaranteeWindows', WHERE WHAT IT READS IS OF BULK AT MOST 1048576: true; the input reads as it did. -/
def guaranteeWindowsUptoRow : OpenClaim := { program := "yteokhadpenalaaa", sum := "ed384b9985e2fbc660271dc12dfe7daca1ac8cecd9e6c341e775391c09e629a4", func := "radiolink/radiolinklaw33.GuaranteeWindows", spec := "guaranteeWindows", apart := false, narrowed := true }
def GuaranteeWindowsUptoSaid : Prop := guaranteeWindowsUptoRow.holds Try.pinned (OpenSpec.upto guaranteeWindowsSpec)

/-- 'radiolinklaw33.GuaranteeAdds', WHERE WHAT IT READS IS OF BULK AT MOST 1048576: true; the input reads as it did. -/
def guaranteeAddsUptoRow : OpenClaim := { program := "yteokhadpenalaaa", sum := "ed384b9985e2fbc660271dc12dfe7daca1ac8cecd9e6c341e775391c09e629a4", func := "radiolink/radiolinklaw33.GuaranteeAdds", spec := "guaranteeAdds", apart := false, narrowed := true }
def GuaranteeAddsUptoSaid : Prop := guaranteeAddsUptoRow.holds Try.pinned (OpenSpec.upto guaranteeAddsSpec)

end Rows
end Go.Proofs.Yteokhadpenalaaa
