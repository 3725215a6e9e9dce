/- The arguments of the laws of layer 31, as their walks want them. -/
import Derived.Test.YtfkbcjpiijcbfaaCArgs
import Derived.Test.YtfkbcjpiijcbfaaC5
namespace Go.Proofs.Ytfkbcjpiijcbfaa
set_option linter.unusedVariables false
set_option linter.unusedSimpArgs false
open Go.ChangeShapes Go.WideShapes Go.ChangeAt Go.RowKit

theorem cells3 : Try.prog.cellsOf 3 = 1 := by kernel_rfl
theorem bytes3 : Try.prog.bytesOf 3 = 8 := by kernel_rfl
theorem cells35 : Try.prog.cellsOf 35 = 5 := by kernel_rfl
theorem bytes35 : Try.prog.bytesOf 35 = 40 := by kernel_rfl

theorem arg_fs {W : World} {base : Nat} {v : Value} (h : Arg Try.prog W base 32 v) : ∃ (a : Option Addr) (n c : Nat) (X : Nat → Fd), v = .slice a n c ∧ n ≤ 140737488351232 ∧ R5 W a n X := by
  obtain ⟨a, len, cap, b, m, C, rfl, h1, h2, h3, h4, h6, h5⟩ := h.rows Try.underlying32 cells35 (by decide)
  rw [bytes35] at h3
  simp only [reachBytes] at h3
  have hC : ∀ k, k < cap → ∃ x : Int × Int × Int × Int × Int, C k = [.int .i64 x.1, .int .i64 x.2.1, .int .i64 x.2.2.1, .int .i64 x.2.2.2.1, .int .i64 x.2.2.2.2] := fun k hk => by
    obtain ⟨hl, hr, _⟩ := h5 k hk
    obtain ⟨_, hf⟩ := hr.struct Try.underlying35
    obtain ⟨x0, e0, _⟩ := (hf 0 _ rfl).int Try.underlying3
    obtain ⟨x1, e1, _⟩ := (hf 1 _ rfl).int Try.underlying3
    obtain ⟨x2, e2, _⟩ := (hf 2 _ rfl).int Try.underlying3
    obtain ⟨x3, e3, _⟩ := (hf 3 _ rfl).int Try.underlying3
    obtain ⟨x4, e4, _⟩ := (hf 4 _ rfl).int Try.underlying3
    generalize C k = L at *
    match L, hl with
    | [p, q, r, s, t], _ =>
      simp [cells3] at e0 e1 e2 e3 e4
      subst e0 e1 e2 e3 e4
      exact ⟨(x0, x1, x2, x3, x4), rfl⟩
  obtain ⟨X, hX⟩ := Deep.choose_lt (α := Int × Int × Int × Int × Int) (n := cap) (p := fun k x => C k = [.int .i64 x.1, .int .i64 x.2.1, .int .i64 x.2.2.1, .int .i64 x.2.2.2.1, .int .i64 x.2.2.2.2]) hC
  refine ⟨a, len, cap, fun k => ⟨(X k).1, (X k).2.1, (X k).2.2.1, (X k).2.2.2.1, (X k).2.2.2.2⟩, rfl, by omega, b, m, fun h0 => h4 (by omega), fun k hk => ?_⟩
  have hh := (h5 k (by omega)).2.2
  rw [hX k (by omega)] at hh
  refine ⟨by simpa using hh 0 (by omega), by simpa [Nat.add_assoc] using hh 1 (by omega), by simpa [Nat.add_assoc] using hh 2 (by omega), by simpa [Nat.add_assoc] using hh 3 (by omega), by simpa [Nat.add_assoc] using hh 4 (by omega)⟩
theorem arg_list {W : World} {base : Nat} {v : Value} (h : Arg Try.prog W base 23 v) : ∃ (a : Option Addr) (len cap b m : Nat) (xs : Nat → Int), v = .slice a len cap ∧ len ≤ cap ∧ len ≤ 140737488351232 ∧ (a = none → cap = 0) ∧ (0 < cap → a = some ⟨b, m, none⟩) ∧ (∀ k, k < len → W.cell? ⟨b, m + k, none⟩ = some (.int .i64 (xs k))) ∧ Row W a len xs := by
  obtain ⟨a, n, c, b, m, xs, rfl, h1, h2, h3, h4, h5⟩ := arg_intsOf (B := 8) h Try.underlying23 Try.underlying3 cells3 bytes3 (by decide)
  exact ⟨a, n, c, b, m, xs, rfl, h1, by omega, h3, h4, fun k hk => (h5 k (by omega)).1, b, m, fun h0 => h4 (by omega), fun k hk => (h5 k (by omega)).1⟩
end Go.Proofs.Ytfkbcjpiijcbfaa
