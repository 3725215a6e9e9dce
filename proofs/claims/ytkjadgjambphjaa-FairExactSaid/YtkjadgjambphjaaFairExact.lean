/- FairExact returns true for every input: the program's Learn, Prefer and Best answer as the reference's do. Conditions: none. -/
import Derived.Test.YtkjadgjambphjaaRead
import Derived.Test.YtkjadgjambphjaaW6
namespace Go.Proofs.Ytkjadgjambphjaa
open Go.ChangeShapes Go.WideShapes Go.ChangeAt Go.RowKit

theorem own : ownKnob Try.prog.godebug = none := by kernel_rfl
theorem laidOut : laidOutB Try.prog = true := by kernel_rfl
theorem cells3 : Try.prog.cellsOf 3 = 1 := by kernel_rfl
theorem cells23 : Try.prog.cellsOf 23 = 1 := by kernel_rfl
theorem bytes3 : Try.prog.bytesOf 3 = 8 := by kernel_rfl
theorem bytes23 : Try.prog.bytesOf 23 = 8 := by kernel_rfl

theorem rd_mean {W : World} {cs : List Value} (h : Rd Try.prog W 23 cs) : ∃ n, cs = [.int .i64 n] := by
  obtain ⟨hl, hf⟩ := h.struct Try.underlying23
  rw [cells23] at hl
  have h0 := hf 0 _ rfl
  obtain ⟨n, hn, _⟩ := h0.int Try.underlying3
  match cs, hl with
  | [c], _ => exact ⟨n, by simpa [cells3] using hn⟩

theorem arg_mean {W : World} {base : Nat} {v : Value} (h : Arg Try.prog W base 23 v) : ∃ n, v = .agg #[.int .i64 n] := by
  obtain ⟨cs, rfl, h2⟩ := h.struct Try.underlying23
  obtain ⟨n, rfl⟩ := rd_mean h2
  exact ⟨n, rfl⟩

theorem arg_ints {W : World} {base : Nat} {v : Value} (h : Arg Try.prog W base 24 v) : ∃ a len cap xs, v = .slice a len cap ∧ len ≤ 140737488351232 ∧ Row W a len xs := by
  obtain ⟨a, len, cap, b, m, xs, rfl, h1, h2, h3, h4, _, h5⟩ := h.ints Try.underlying24 Try.underlying3 cells3
  rw [bytes3] at h3
  simp only [reachBytes] at h3
  exact ⟨a, len, cap, xs, rfl, by omega, b, m, fun h0 => h4 (by omega), fun k hk => (h5 k (by omega)).1⟩

theorem arg_means {W : World} {base : Nat} {v : Value} (h : Arg Try.prog W base 25 v) : ∃ a len cap xs, v = .slice a len cap ∧ len ≤ 140737488351232 ∧ Row W a len xs := by
  obtain ⟨a, len, cap, b, m, C, rfl, h1, h2, h3, h4, _, h5⟩ := h.rows Try.underlying25 cells23 Nat.one_pos
  obtain ⟨xs, hxs⟩ := Deep.choose_lt (α := Int) (n := cap) (p := fun k x => C k = [.int .i64 x]) fun k hk => rd_mean (h5 k hk).2.1
  rw [bytes23] at h3
  simp only [reachBytes] at h3
  refine ⟨a, len, cap, xs, rfl, by omega, b, m, fun h0 => h4 (by omega), fun k hk => ?_⟩
  have := (h5 k (by omega)).2.2 0 Nat.one_pos
  rw [hxs k (by omega)] at this
  simpa using this

theorem fairExact_lifted (os : Os) (started : os.Started) (H : Type) (enc : TypeId × Value → H) :
    ReturnsInHanded {} Try.checked os 3 .any (Rows.fairExactSpec.pre6 enc Try.prog Try.f3 Rows.fairExactRow.domain false) (Rows.fairExactSpec.post enc Try.prog Try.f3 false true false false) := by
  refine lift_law (C := Try.checked) (tb := 4) own started (by kernel_rfl) Try.func3
    (ChangeSpec.witness6 (enc := enc) (C := Try.checked) false ⟨#[], #[.agg #[.int .i64 0], .agg #[.int .i64 0], .int .i64 0, .int .i64 0, .int .i64 0, .slice none 0 0, .slice none 0 0], []⟩ 8 (by kernel_rfl) (by kernel_rfl) (by kernel_rfl) (by kernel_rfl))
    laidOut rfl rfl Try.underlying4 (by kernel_rfl) (fun ds hd => ?_) ?_
  · match ds, hd with
    | [_, _, _, _, _, _, _], _ => rfl
  · intro W base args hargs hsz
    obtain ⟨l⟩ := args
    match l, hsz with
    | [v0, v1, v2, v3, v4, v5, v6], _ =>
      obtain ⟨m, rfl⟩ := arg_mean (hargs 0 23 v0 rfl rfl)
      obtain ⟨n, rfl⟩ := arg_mean (hargs 1 23 v1 rfl rfl)
      obtain ⟨b, rfl, _⟩ := (hargs 2 3 v2 rfl rfl).int Try.underlying3
      obtain ⟨r, rfl, _⟩ := (hargs 3 3 v3 rfl rfl).int Try.underlying3
      obtain ⟨q, rfl, _⟩ := (hargs 4 3 v4 rfl rfl).int Try.underlying3
      obtain ⟨ar, k1, cr, rs, rfl, h1, R⟩ := arg_ints (hargs 5 24 v5 rfl rfl)
      obtain ⟨am, k2, cm, ms, rfl, h2, M⟩ := arg_means (hargs 6 25 v6 rfl rfl)
      exact fairExact3 m n b r q ar am k1 k2 cr cm rs ms h1 h2 W R M

theorem fairExact_holds : Rows.FairExactSaid :=
  OpenClaim.holds_of_wide 3 Try.f3 rfl rfl rfl rfl rfl rfl rfl ⟨rfl, rfl, rfl, rfl, rfl⟩ rfl rfl rfl rfl rfl (by kernel_rfl) Try.func3 (by kernel_rfl)
    (of_decide_eq_true (by kernel_rfl)) (by unfold Func.isWrapper; rw [if_neg (of_decide_eq_false (by kernel_rfl))]; exact ⟨rfl, rfl⟩)
    (fun os started H enc _ => fairExact_lifted os started H enc)
end Go.Proofs.Ytkjadgjambphjaa
