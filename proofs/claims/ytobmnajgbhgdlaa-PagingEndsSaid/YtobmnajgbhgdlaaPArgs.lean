/- The arguments of the laws of layer 36, as their walks want them. -/
import Derived.Test.YtobmnajgbhgdlaaArgs
import Derived.Test.YtobmnajgbhgdlaaP2
namespace Go.Proofs.Ytobmnajgbhgdlaa
set_option linter.unusedVariables false
set_option linter.unusedSimpArgs false
open Go.ChangeShapes Go.WideShapes Go.ChangeAt Go.RowKit

theorem own : ownKnob Try.prog.godebug = none := by kernel_rfl
theorem laidOut : laidOutB Try.prog = true := by kernel_rfl
theorem cells3 : Try.prog.cellsOf 3 = 1 := by kernel_rfl
theorem bytes3 : Try.prog.bytesOf 3 = 8 := by kernel_rfl
theorem cells23 : Try.prog.cellsOf 23 = 1 := by kernel_rfl
theorem cells25 : Try.prog.cellsOf 25 = 4 := by kernel_rfl
theorem cells54 : Try.prog.cellsOf 54 = 3 := by kernel_rfl
theorem bytes54 : Try.prog.bytesOf 54 = 24 := by kernel_rfl

theorem rd_pages {W : World} {cs : List Value} (h : Rd Try.prog W 23 cs) : ∃ (a : Option Addr) (n c : Nat) (I S C : Nat → Int), cs = [.slice a n c] ∧ n ≤ c ∧ c ≤ 9223372036854775807 ∧ (a = none → n = 0) ∧ R3 W a n I S C := by
  obtain ⟨a, len, cap, b, m, C, rfl, h1, h2, h3, h4, h6, h5⟩ := h.rows Try.underlying23 cells54 (by decide)
  rw [bytes54] at h3
  simp only [reachBytes] at h3
  have hC : ∀ k, k < cap → ∃ x : Int × Int × Int, C k = [.int .i64 x.1, .int .i64 x.2.1, .int .i64 x.2.2] := fun k hk => by
    obtain ⟨hl, hr, _⟩ := h5 k hk
    obtain ⟨_, hf⟩ := hr.struct Try.underlying54
    obtain ⟨x0, e0, _⟩ := (hf 0 _ rfl).int Try.underlying3
    obtain ⟨x1, e1, _⟩ := (hf 1 _ rfl).int Try.underlying3
    obtain ⟨x2, e2, _⟩ := (hf 2 _ rfl).int Try.underlying3
    generalize C k = L at *
    match L, hl with
    | [p, q, r], _ =>
      simp [cells3] at e0 e1 e2
      subst e0 e1 e2
      exact ⟨(x0, x1, x2), rfl⟩
  obtain ⟨X, hX⟩ := Deep.choose_lt (α := Int × Int × Int) (n := cap) (p := fun k x => C k = [.int .i64 x.1, .int .i64 x.2.1, .int .i64 x.2.2]) hC
  refine ⟨a, len, cap, fun k => (X k).1, fun k => (X k).2.1, fun k => (X k).2.2, rfl, h1, by omega, fun h => by have := h6 h; omega, b, m, fun h0 => h4 (by omega), fun k hk => ?_⟩
  have hh := (h5 k (by omega)).2.2
  rw [hX k (by omega)] at hh
  exact ⟨by simpa using hh 0 (by omega), by simpa [Nat.add_assoc] using hh 1 (by omega), by simpa [Nat.add_assoc] using hh 2 (by omega)⟩
theorem arg_pager {W : World} {base : Nat} {v : Value} (h : Arg Try.prog W base 25 v) : ∃ (cy mo tr : Int) (a : Option Addr) (n c : Nat) (I S C : Nat → Int), v = gv cy mo tr a n c ∧ n ≤ c ∧ c ≤ 9223372036854775807 ∧ (a = none → n = 0) ∧ R3 W a n I S C := by
  obtain ⟨cs, rfl, h2⟩ := h.struct Try.underlying25
  obtain ⟨hl, hf⟩ := h2.struct Try.underlying25
  rw [cells25] at hl
  obtain ⟨x0, h0, _⟩ := (hf 0 _ rfl).int Try.underlying3
  obtain ⟨x1, h1, _⟩ := (hf 1 _ rfl).int Try.underlying3
  obtain ⟨x2, h2, _⟩ := (hf 2 _ rfl).int Try.underlying3
  obtain ⟨a, n, c, I, S, C, h3, k1, k2, k3, k4⟩ := rd_pages (hf 3 _ rfl)
  match cs, hl with
  | [u, v, x, y], _ =>
    simp [cells3, cells23] at h0 h1 h2 h3
    subst h0 h1 h2 h3
    exact ⟨x0, x1, x2, a, n, c, I, S, C, rfl, k1, k2, k3, k4⟩
/-- A list of numbers. -/
theorem arg_list {W : World} {base : Nat} {v : Value} (h : Arg Try.prog W base 32 v) : ∃ (a : Option Addr) (len cap b m : Nat) (xs : Nat → Int), v = .slice a len cap ∧ len ≤ cap ∧ len ≤ 140737488351232 ∧ (a = none → cap = 0) ∧ (0 < cap → a = some ⟨b, m, none⟩) ∧ (∀ k, k < len → W.cell? ⟨b, m + k, none⟩ = some (.int .i64 (xs k))) ∧ Row W a len xs := by
  obtain ⟨a, n, c, b, m, xs, rfl, h1, h2, h3, h4, h5⟩ := arg_intsOf (B := 8) h Try.underlying32 Try.underlying3 cells3 bytes3 (by decide)
  exact ⟨a, n, c, b, m, xs, rfl, h1, by omega, h3, h4, fun k hk => (h5 k (by omega)).1, b, m, fun h0 => h4 (by omega), fun k hk => (h5 k (by omega)).1⟩
end Go.Proofs.Ytobmnajgbhgdlaa
