/- The arguments of the laws of layer 34, as their walks want them. -/
import Derived.Test.YtdcogbokcbpnnaaArgs
import Derived.Test.YtdcogbokcbpnnaaD0
namespace Go.Proofs.Ytdcogbokcbpnnaa
set_option linter.unusedVariables false
set_option linter.unusedSimpArgs false
open Go.ChangeShapes Go.WideShapes Go.ChangeAt Go.RowKit
theorem own : ownKnob Try.prog.godebug = none := by kernel_rfl
theorem laidOut : laidOutB Try.prog = true := by kernel_rfl
theorem cells3 : Try.prog.cellsOf 3 = 1 := by kernel_rfl
theorem bytes3 : Try.prog.bytesOf 3 = 8 := by kernel_rfl
theorem cells39 : Try.prog.cellsOf 39 = 1 := by kernel_rfl
theorem cells41 : Try.prog.cellsOf 41 = 7 := by kernel_rfl
theorem bytes41 : Try.prog.bytesOf 41 = 56 := by kernel_rfl
theorem arg_ds {W : World} {base : Nat} {v : Value} (h : Arg Try.prog W base 22 v) : ∃ (a : Option Addr) (n c : Nat) (L : Nat → Dm), v = .slice a n c ∧ n ≤ 140737488351232 ∧ RD W a n L := by
  obtain ⟨a, len, cap, b, m, C, rfl, h1, h2, h3, h4, h6, h5⟩ := h.rows Try.underlying22 cells41 (by decide)
  rw [bytes41] at h3
  simp only [reachBytes] at h3
  have hC : ∀ k, k < cap → ∃ x : Int × Int × Int × Int × Int × Int × Int, C k = [.int .i64 x.1, .int .i64 x.2.1, .int .i64 x.2.2.1, .int .i64 x.2.2.2.1, .int .i64 x.2.2.2.2.1, .int .i64 x.2.2.2.2.2.1, .int .i64 x.2.2.2.2.2.2] := fun k hk => by
    obtain ⟨hl, hr, _⟩ := h5 k hk
    obtain ⟨_, hf⟩ := hr.struct Try.underlying41
    obtain ⟨x0, e0, _⟩ := (hf 0 _ rfl).int Try.underlying3
    obtain ⟨x1, e1, _⟩ := (hf 1 _ rfl).int Try.underlying3
    obtain ⟨x2, e2, _⟩ := (hf 2 _ rfl).int Try.underlying3
    obtain ⟨_, hm⟩ := (hf 3 _ rfl).struct Try.underlying39
    obtain ⟨x3, e3, _⟩ := (hm 0 _ rfl).int Try.underlying3
    obtain ⟨x4, e4, _⟩ := (hf 4 _ rfl).int Try.underlying3
    obtain ⟨x5, e5, _⟩ := (hf 5 _ rfl).int Try.underlying3
    obtain ⟨x6, e6, _⟩ := (hf 6 _ rfl).int Try.underlying3
    generalize C k = L at *
    match L, hl with
    | [p, q, r, s, t, u, v], _ =>
      simp [cells3, cells39] at e0 e1 e2 e3 e4 e5 e6
      subst e0 e1 e2 e3 e4 e5 e6
      exact ⟨(x0, x1, x2, x3, x4, x5, x6), rfl⟩
  obtain ⟨X, hX⟩ := Deep.choose_lt (α := Int × Int × Int × Int × Int × Int × Int) (n := cap) (p := fun k x => C k = [.int .i64 x.1, .int .i64 x.2.1, .int .i64 x.2.2.1, .int .i64 x.2.2.2.1, .int .i64 x.2.2.2.2.1, .int .i64 x.2.2.2.2.2.1, .int .i64 x.2.2.2.2.2.2]) hC
  refine ⟨a, len, cap, fun k => ⟨(X k).1, (X k).2.1, (X k).2.2.1, (X k).2.2.2.1, (X k).2.2.2.2.1, (X k).2.2.2.2.2.1, (X k).2.2.2.2.2.2⟩, rfl, by omega, b, m, fun h0 => h4 (by omega), fun k hk => ?_⟩
  have hh := (h5 k (by omega)).2.2
  rw [hX k (by omega)] at hh
  refine ⟨by simpa using hh 0 (by omega), by simpa [Nat.add_assoc] using hh 1 (by omega), by simpa [Nat.add_assoc] using hh 2 (by omega), by simpa [Nat.add_assoc] using hh 3 (by omega), by simpa [Nat.add_assoc] using hh 4 (by omega), by simpa [Nat.add_assoc] using hh 5 (by omega), by simpa [Nat.add_assoc] using hh 6 (by omega)⟩
theorem arg_list {W : World} {base : Nat} {v : Value} (h : Arg Try.prog W base 23 v) : ∃ (a : Option Addr) (len cap b m : Nat) (xs : Nat → Int), v = .slice a len cap ∧ len ≤ cap ∧ len ≤ 140737488351232 ∧ (a = none → cap = 0) ∧ (0 < cap → a = some ⟨b, m, none⟩) ∧ (∀ k, k < len → W.cell? ⟨b, m + k, none⟩ = some (.int .i64 (xs k))) ∧ Row W a len xs := by
  obtain ⟨a, n, c, b, m, xs, rfl, h1, h2, h3, h4, h5⟩ := arg_intsOf (B := 8) h Try.underlying23 Try.underlying3 cells3 bytes3 (by decide)
  exact ⟨a, n, c, b, m, xs, rfl, h1, by omega, h3, h4, fun k hk => (h5 k (by omega)).1, b, m, fun h0 => h4 (by omega), fun k hk => (h5 k (by omega)).1⟩
end Go.Proofs.Ytdcogbokcbpnnaa
