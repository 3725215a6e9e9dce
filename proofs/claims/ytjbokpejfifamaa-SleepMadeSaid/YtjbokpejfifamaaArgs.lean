/- The arguments of the laws of layer 35, as their walks want them. -/
import Derived.Test.YtjbokpejfifamaaRows
import Derived.Test.YtjbokpejfifamaaKit
namespace Go.Proofs.Ytjbokpejfifamaa
open Go.ChangeShapes Go.WideShapes Go.ChangeAt Go.RowKit

theorem own : ownKnob Try.prog.godebug = none := by kernel_rfl
theorem laidOut : laidOutB Try.prog = true := by kernel_rfl
theorem cells3 : Try.prog.cellsOf 3 = 1 := by kernel_rfl
theorem cells4 : Try.prog.cellsOf 4 = 1 := by kernel_rfl
theorem cells27 : Try.prog.cellsOf 27 = 6 := by kernel_rfl
theorem cells36 : Try.prog.cellsOf 36 = 2 := by kernel_rfl
theorem bytes3 : Try.prog.bytesOf 3 = 8 := by kernel_rfl
theorem bytes4 : Try.prog.bytesOf 4 = 1 := by kernel_rfl

theorem arg_rhythm {W : World} {base : Nat} {v : Value} (h : Arg Try.prog W base 27 v) : ∃ c o n l s h, v = .agg #[.int .i64 c, .int .i64 o, .int .i64 n, .int .i64 l, .int .i64 s, .int .i64 h] := by
  obtain ⟨cs, rfl, h2⟩ := h.struct Try.underlying27
  obtain ⟨hl, hf⟩ := h2.struct Try.underlying27
  rw [cells27] at hl
  obtain ⟨x0, h0, _⟩ := (hf 0 _ rfl).int Try.underlying3
  obtain ⟨x1, h1, _⟩ := (hf 1 _ rfl).int Try.underlying3
  obtain ⟨x2, h2, _⟩ := (hf 2 _ rfl).int Try.underlying3
  obtain ⟨x3, h3, _⟩ := (hf 3 _ rfl).int Try.underlying3
  obtain ⟨x4, h4, _⟩ := (hf 4 _ rfl).int Try.underlying3
  obtain ⟨x5, h5, _⟩ := (hf 5 _ rfl).int Try.underlying3
  match cs, hl with
  | [a, b, c, d, e, f], _ =>
    simp [cells3] at h0 h1 h2 h3 h4 h5
    subst h0 h1 h2 h3 h4 h5
    exact ⟨x0, x1, x2, x3, x4, x5, rfl⟩

theorem arg_sleep {W : World} {base : Nat} {v : Value} (h : Arg Try.prog W base 36 v) : ∃ a b, v = .agg #[.int .i64 a, .int .i64 b] ∧ b ≤ 9223372036854775807 := by
  obtain ⟨cs, rfl, h2⟩ := h.struct Try.underlying36
  obtain ⟨hl, hf⟩ := h2.struct Try.underlying36
  rw [cells36] at hl
  obtain ⟨x0, h0, _⟩ := (hf 0 _ rfl).int Try.underlying3
  obtain ⟨x1, h1, w1⟩ := (hf 1 _ rfl).int Try.underlying3
  match cs, hl with
  | [a, b], _ =>
    simp [cells3] at h0 h1
    subst h0 h1
    exact ⟨x0, x1, rfl, (bounds_i64 w1).2⟩

theorem arg_ints {W : World} {base : Nat} {v : Value} (h : Arg Try.prog W base 22 v) : ∃ (a : Option Addr) (len cap b m : Nat) (xs : Nat → Int), v = .slice a len cap ∧ len ≤ cap ∧ cap * 8 ≤ 140737488351232 ∧ (a = none → cap = 0) ∧ (0 < cap → a = some ⟨b, m, none⟩) ∧ ∀ k, k < cap → W.cell? ⟨b, m + k, none⟩ = some (.int .i64 (xs k)) ∧ -9223372036854775808 ≤ xs k ∧ xs k ≤ 9223372036854775807 := by
  obtain ⟨a, len, cap, b, m, xs, rfl, h1, h2, h3, h4, h6, h5⟩ := h.ints Try.underlying22 Try.underlying3 cells3
  rw [bytes3] at h3
  simp only [reachBytes] at h3
  exact ⟨a, len, cap, b, m, xs, rfl, h1, h3, h6, h4, fun k hk => ⟨(h5 k hk).1, bounds_i64 (h5 k hk).2⟩⟩

theorem arg_bools {W : World} {base : Nat} {v : Value} {t : TypeId} (h : Arg Try.prog W base t v) (ht : Try.prog.underlying t = some (.slice 4)) : ∃ (a : Option Addr) (len cap : Nat) (xs : Nat → Bool), v = .slice a len cap ∧ len ≤ 140737488351232 ∧ ∃ b m, (0 < len → a = some ⟨b, m, none⟩) ∧ ∀ k, k < len → W.cell? ⟨b, m + k, none⟩ = some (.bool (xs k)) := by
  obtain ⟨a, len, cap, b, m, C, rfl, h1, h2, h3, h4, _, h5⟩ := h.rows ht cells4 Nat.one_pos
  obtain ⟨xs, hxs⟩ := Deep.choose_lt (α := Bool) (n := cap) (p := fun k x => C k = [.bool x]) fun k hk => (h5 k hk).2.1.bool Try.underlying4
  rw [bytes4] at h3
  simp only [reachBytes] at h3
  refine ⟨a, len, cap, xs, rfl, by omega, b, m, fun h0 => h4 (by omega), fun k hk => ?_⟩
  have := (h5 k (by omega)).2.2 0 Nat.one_pos
  rw [hxs k (by omega)] at this
  simpa using this
end Go.Proofs.Ytjbokpejfifamaa
