/- The arguments of the laws of layer 33, as their walks want them. -/
import Derived.Test.YteokhadpenalaaaRows
import Derived.Test.YteokhadpenalaaaArgs
import Derived.Test.YteokhadpenalaaaG0
namespace Go.Proofs.Yteokhadpenalaaa
set_option linter.unusedVariables false
set_option linter.unusedSimpArgs false
open Go.ChangeShapes Go.WideShapes Go.ChangeAt Go.RowKit

theorem own : ownKnob Try.prog.godebug = none := by kernel_rfl
theorem laidOut : laidOutB Try.prog = true := by kernel_rfl
theorem cells3 : Try.prog.cellsOf 3 = 1 := by kernel_rfl
theorem bytes3 : Try.prog.bytesOf 3 = 8 := by kernel_rfl
theorem cells39 : Try.prog.cellsOf 39 = 3 := by kernel_rfl
theorem bytes39 : Try.prog.bytesOf 39 = 24 := by kernel_rfl

theorem arg_gs {W : World} {base : Nat} {v : Value} (h : Arg Try.prog W base 22 v) : ∃ (a : Option Addr) (n c : Nat) (F U B : Nat → Int), v = .slice a n c ∧ n ≤ 140737488351232 ∧ (a = none → c = 0) ∧ R3 W a n F U B := by
  obtain ⟨a, len, cap, b, m, C, rfl, h1, h2, h3, h4, h6, h5⟩ := h.rows Try.underlying22 cells39 (by decide)
  rw [bytes39] at h3
  simp only [reachBytes] at h3
  have hC : ∀ k, k < cap → ∃ x : Int × Int × Int, C k = [.int .i64 x.1, .int .i64 x.2.1, .int .i64 x.2.2] := fun k hk => by
    obtain ⟨hl, hr, _⟩ := h5 k hk
    obtain ⟨_, hf⟩ := hr.struct Try.underlying39
    obtain ⟨x0, e0, _⟩ := (hf 0 _ rfl).int Try.underlying3
    obtain ⟨x1, e1, _⟩ := (hf 1 _ rfl).int Try.underlying3
    obtain ⟨x2, e2, _⟩ := (hf 2 _ rfl).int Try.underlying3
    generalize C k = L at *
    match L, hl with
    | [p, q, r], _ =>
      simp [cells3] at e0 e1 e2
      subst e0 e1 e2
      exact ⟨(x0, x1, x2), rfl⟩
  obtain ⟨X, hX⟩ := Deep.choose_lt (α := Int × Int × Int) (n := cap) (p := fun k x => C k = [.int .i64 x.1, .int .i64 x.2.1, .int .i64 x.2.2]) hC
  refine ⟨a, len, cap, fun k => (X k).1, fun k => (X k).2.1, fun k => (X k).2.2, rfl, by omega, h6, b, m, fun h0 => h4 (by omega), fun k hk => ?_⟩
  have hh := (h5 k (by omega)).2.2
  rw [hX k (by omega)] at hh
  exact ⟨by simpa using hh 0 (by omega), by simpa [Nat.add_assoc] using hh 1 (by omega), by simpa [Nat.add_assoc] using hh 2 (by omega)⟩
theorem arg_list {W : World} {base : Nat} {v : Value} (h : Arg Try.prog W base 23 v) : ∃ (a : Option Addr) (len cap b m : Nat) (xs : Nat → Int), v = .slice a len cap ∧ len ≤ cap ∧ len ≤ 140737488351232 ∧ (a = none → cap = 0) ∧ (0 < cap → a = some ⟨b, m, none⟩) ∧ (∀ k, k < len → W.cell? ⟨b, m + k, none⟩ = some (.int .i64 (xs k))) ∧ Row W a len xs := by
  obtain ⟨a, n, c, b, m, xs, rfl, h1, h2, h3, h4, h5⟩ := arg_intsOf (B := 8) h Try.underlying23 Try.underlying3 cells3 bytes3 (by decide)
  exact ⟨a, n, c, b, m, xs, rfl, h1, by omega, h3, h4, fun k hk => (h5 k (by omega)).1, b, m, fun h0 => h4 (by omega), fun k hk => (h5 k (by omega)).1⟩
end Go.Proofs.Yteokhadpenalaaa
