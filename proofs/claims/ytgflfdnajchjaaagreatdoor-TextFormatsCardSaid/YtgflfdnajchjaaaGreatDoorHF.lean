/- Layer 45: what the rows' package variables hold when a call begins, as the walks want it; a world in which they hold it. -/
import Derived.Test.YtgflfdnajchjaaaGreatDoorJC
import Derived.Test.YtgflfdnajchjaaaGreatDoorJB
import Derived.Test.YtgflfdnajchjaaaGreatDoorRows
import Derived.Shelf.Vars
import Derived.Stop.LaidErr
import Derived.Stop.Joined
import Derived.Lib.LaidTab
import Derived.MakeChecks
import Derived.Lay
namespace Go.Proofs.YtgflfdnajchjaaaGreatDoor
set_option linter.unusedVariables false
set_option linter.unusedSimpArgs false
open Go.RowKit Go.ChangeShapes Go.WideShapes Go.ChangeAt
theorem own45 : ownKnob Tryz.prog.godebug = none := by kernel_rfl
theorem laidOut45 : laidOutB Tryz.prog = true := by kernel_rfl
theorem plain45 : (Rows.textFormatsRow.laid.all fun x => x.2.handleName?.isNone) = true := by kernel_rfl
theorem row230 (u : TypeId) (h : Tryz.prog.typeName? 3 u = some "*errors.errorString") : u = 230 := by
  have e : "*" ++ "errors.errorString" = "*errors.errorString" := by decide
  exact typeName_ptr_named (nm := "errors.errorString") (by rw [e]; kernel_rfl) (by kernel_rfl) (by decide) u (by rw [e]; exact h)
theorem gl_of {W : World} (h : laidMetH Tryz.prog Rows.textFormatsRow.laid W) (hsh : W.ShapedOpen Tryz.prog) : Gl W := by
  have hL := h
  rw [MakeChecks.laidMetH_plain _ _ _ plain45] at hL
  have h2 := hL.tail.tail
  have h4 := h2.tail.tail
  have h5 := h4.tail
  obtain ⟨m, hm⟩ := cell_of_shapedOpen_int (g := 0) (t := 3) (zero := #[.int .i64 0]) (k := .i64) hsh (of_decide_eq_true (by kernel_rfl)) (by kernel_rfl) rfl (by kernel_rfl) (by kernel_rfl) (by kernel_rfl)
  have ht : Lib.TabIs Tryz.prog W "internal/strconv.uint64pow10" .u64 Lib.pow10Tab := Lib.tabIs_of_head (t := 213) (e := 199) (n := 20) (g := 1) (by kernel_rfl) (by kernel_rfl) Tryz.underlying213 Tryz.underlying199 (by kernel_rfl) (by kernel_rfl) h2
  obtain ⟨a1, s1, hv1, -, -, -⟩ := laid_sentinel h4 (g := 5) (ti := 112) (tp := 230) (te := 232) (ts := 9) (by kernel_rfl) (by kernel_rfl) Tryz.underlying112 row230 Tryz.underlying230 Tryz.underlying232 rfl rfl Tryz.underlying9 (by kernel_rfl) (by kernel_rfl)
  obtain ⟨a0, s0, hv0, -, -, -⟩ := laid_sentinel h5 (g := 4) (ti := 112) (tp := 230) (te := 232) (ts := 9) (by kernel_rfl) (by kernel_rfl) Tryz.underlying112 row230 Tryz.underlying230 Tryz.underlying232 rfl rfl Tryz.underlying9 (by kernel_rfl) (by kernel_rfl)
  obtain ⟨ps, ⟨g0, t0, cs0, f0, p0, q0, hg0, ht0, hv7, -, -, -⟩, -⟩ := hL.tail
  have hg7 : Tryz.prog.globalNamed "math/bits.deBruijn64tab" = some 7 := by kernel_rfl
  have h7 : 7 < W.heap.size := by
    unfold World.var? at hv7
    simp only [hg7, Option.bind_some] at hv7
    rcases Nat.lt_or_ge 7 W.heap.size with h | h
    · exact h
    · rw [Array.getElem?_eq_none h] at hv7
      cases hv7
  exact ⟨⟨m, hm⟩, ht, ⟨_, _, hv0⟩, ⟨_, _, hv1⟩, h7⟩
theorem laid45 (os : Os) (args : Array Value) : laidMetH Tryz.prog Rows.textFormatsRow.laid ((World.laidAll Tryz.prog os Rows.textFormatsRow.laid).forCall (fun _ _ => 0) ⟨#[], args, []⟩).memory := by
  rw [MakeChecks.laidMetH_plain _ _ _ plain45]
  exact laidMet_laidAll _ (by kernel_rfl) (by kernel_rfl)
end Go.Proofs.YtgflfdnajchjaaaGreatDoor
