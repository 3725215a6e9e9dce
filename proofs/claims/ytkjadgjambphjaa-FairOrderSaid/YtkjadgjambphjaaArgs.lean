/- The arguments of the laws of layer 32, as their walks want them. -/
import Derived.Test.YtkjadgjambphjaaRead
import Derived.Test.YtkjadgjambphjaaW4
namespace Go.Proofs.Ytkjadgjambphjaa
open Go.ChangeShapes Go.WideShapes Go.ChangeAt Go.RowKit

theorem own : ownKnob Try.prog.godebug = none := by kernel_rfl
theorem laidOut : laidOutB Try.prog = true := by kernel_rfl
theorem cells3 : Try.prog.cellsOf 3 = 1 := by kernel_rfl
theorem cells23 : Try.prog.cellsOf 23 = 1 := by kernel_rfl
theorem bytes3 : Try.prog.bytesOf 3 = 8 := by kernel_rfl
theorem bytes23 : Try.prog.bytesOf 23 = 8 := by kernel_rfl

theorem rd_mean {W : World} {cs : List Value} (h : Rd Try.prog W 23 cs) : ∃ n, cs = [.int .i64 n] := by
  obtain ⟨hl, hf⟩ := h.struct Try.underlying23
  rw [cells23] at hl
  have h0 := hf 0 _ rfl
  obtain ⟨n, hn, _⟩ := h0.int Try.underlying3
  match cs, hl with
  | [c], _ => exact ⟨n, by simpa [cells3] using hn⟩

theorem arg_mean {W : World} {base : Nat} {v : Value} (h : Arg Try.prog W base 23 v) : ∃ n, v = .agg #[.int .i64 n] := by
  obtain ⟨cs, rfl, h2⟩ := h.struct Try.underlying23
  obtain ⟨n, rfl⟩ := rd_mean h2
  exact ⟨n, rfl⟩

theorem arg_ints {W : World} {base : Nat} {v : Value} (h : Arg Try.prog W base 24 v) : ∃ a len cap xs, v = .slice a len cap ∧ len ≤ 140737488351232 ∧ Row W a len xs := by
  obtain ⟨a, len, cap, b, m, xs, rfl, h1, h2, h3, h4, _, h5⟩ := h.ints Try.underlying24 Try.underlying3 cells3
  rw [bytes3] at h3
  simp only [reachBytes] at h3
  exact ⟨a, len, cap, xs, rfl, by omega, b, m, fun h0 => h4 (by omega), fun k hk => (h5 k (by omega)).1⟩

theorem arg_means {W : World} {base : Nat} {v : Value} (h : Arg Try.prog W base 25 v) : ∃ a len cap xs, v = .slice a len cap ∧ len ≤ 140737488351232 ∧ Row W a len xs := by
  obtain ⟨a, len, cap, b, m, C, rfl, h1, h2, h3, h4, _, h5⟩ := h.rows Try.underlying25 cells23 Nat.one_pos
  obtain ⟨xs, hxs⟩ := Deep.choose_lt (α := Int) (n := cap) (p := fun k x => C k = [.int .i64 x]) fun k hk => rd_mean (h5 k hk).2.1
  rw [bytes23] at h3
  simp only [reachBytes] at h3
  refine ⟨a, len, cap, xs, rfl, by omega, b, m, fun h0 => h4 (by omega), fun k hk => ?_⟩
  have := (h5 k (by omega)).2.2 0 Nat.one_pos
  rw [hxs k (by omega)] at this
  simpa using this

end Go.Proofs.Ytkjadgjambphjaa
