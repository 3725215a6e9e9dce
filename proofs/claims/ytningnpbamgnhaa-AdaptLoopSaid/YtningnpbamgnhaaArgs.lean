/- The arguments of the laws of layer 30, as their walks want them. -/
import Derived.Test.YtningnpbamgnhaaRows
import Derived.Test.YtningnpbamgnhaaKit
namespace Go.Proofs.Ytningnpbamgnhaa
open Go.ChangeShapes Go.WideShapes Go.ChangeAt Go.RowKit

theorem own : ownKnob Try.prog.godebug = none := by kernel_rfl
theorem laidOut : laidOutB Try.prog = true := by kernel_rfl
theorem cells3 : Try.prog.cellsOf 3 = 1 := by kernel_rfl
theorem cells4 : Try.prog.cellsOf 4 = 1 := by kernel_rfl
theorem cells28 : Try.prog.cellsOf 28 = 3 := by kernel_rfl
theorem bytes4 : Try.prog.bytesOf 4 = 1 := by kernel_rfl

theorem arg_outer {W : World} {base : Nat} {v : Value} (h : Arg Try.prog W base 28 v) : ∃ o u d, v = .agg #[.int .i64 o, .int .i64 u, .int .i64 d] := by
  obtain ⟨cs, rfl, h2⟩ := h.struct Try.underlying28
  obtain ⟨hl, hf⟩ := h2.struct Try.underlying28
  rw [cells28] at hl
  obtain ⟨o, ho, _⟩ := (hf 0 _ rfl).int Try.underlying3
  obtain ⟨u, hu, _⟩ := (hf 1 _ rfl).int Try.underlying3
  obtain ⟨d, hd, _⟩ := (hf 2 _ rfl).int Try.underlying3
  match cs, hl with
  | [a, b, c], _ =>
    simp [cells3] at ho hu hd
    subst ho hu hd
    exact ⟨o, u, d, rfl⟩

theorem arg_bools {W : World} {base : Nat} {v : Value} (h : Arg Try.prog W base 32 v) : ∃ (a : Option Addr) (len cap : Nat) (xs : Nat → Bool), v = .slice a len cap ∧ len ≤ 140737488351232 ∧ ∃ b m, (0 < len → a = some ⟨b, m, none⟩) ∧ ∀ k, k < len → W.cell? ⟨b, m + k, none⟩ = some (.bool (xs k)) := by
  obtain ⟨a, len, cap, b, m, C, rfl, h1, h2, h3, h4, _, h5⟩ := h.rows Try.underlying32 cells4 Nat.one_pos
  obtain ⟨xs, hxs⟩ := Deep.choose_lt (α := Bool) (n := cap) (p := fun k x => C k = [.bool x]) fun k hk => (h5 k hk).2.1.bool Try.underlying4
  rw [bytes4] at h3
  simp only [reachBytes] at h3
  refine ⟨a, len, cap, xs, rfl, by omega, b, m, fun h0 => h4 (by omega), fun k hk => ?_⟩
  have := (h5 k (by omega)).2.2 0 Nat.one_pos
  rw [hxs k (by omega)] at this
  simpa using this
end Go.Proofs.Ytningnpbamgnhaa
