import Derived.Test.YtgflfdnajchjaaaGreatDoorJB
import Derived.Test.YtgflfdnajchjaaaGreatDoorF1
import Derived.OpenShut
/- What the arguments of a law's row are, as its walk wants them. Nothing of the program is named here. -/
namespace Go.Proofs.YtgflfdnajchjaaaGreatDoor
set_option linter.unusedVariables false
set_option linter.unusedSimpArgs false
open Go.ChangeShapes Go.WideShapes Go.ChangeAt Go.RowKit

/-- A slice of whole numbers of some kind. -/
theorem arg_intsOf {P : Program} {W : World} {base : Nat} {v : Value} {t e : TypeId} {κ : IntKind} {B : Nat} (h : Arg P W base t v) (ht : P.underlying t = some (.slice e)) (he : P.underlying e = some (.int κ)) (hn : P.cellsOf e = 1) (hb : P.bytesOf e = B) (hB : 0 < B) :
    ∃ (a : Option Addr) (len cap b m : Nat) (xs : Nat → Int), v = .slice a len cap ∧ len ≤ cap ∧ cap ≤ 140737488351232 ∧ (a = none → cap = 0) ∧ (0 < cap → a = some ⟨b, m, none⟩) ∧ ∀ k, k < cap → W.cell? ⟨b, m + k, none⟩ = some (.int κ (xs k)) ∧ (Lit.int κ (xs k)).wf = true := by
  obtain ⟨a, len, cap, b, m, xs, rfl, h1, h2, h3, h4, h6, h5⟩ := h.ints ht he hn
  rw [hb] at h3
  simp only [reachBytes] at h3
  have : cap * 1 ≤ cap * B := Nat.mul_le_mul_left _ hB
  exact ⟨a, len, cap, b, m, xs, rfl, h1, by omega, h6, h4, h5⟩

theorem arg_row {P : Program} {W : World} {base : Nat} {v : Value} {t e : TypeId} (h : Arg P W base t v) (ht : P.underlying t = some (.slice e)) (he : P.underlying e = some (.int .i64)) (hn : P.cellsOf e = 1) (hb : P.bytesOf e = 8) :
    ∃ (a : Option Addr) (n c : Nat) (xs : Nat → Int), v = .slice a n c ∧ n ≤ c ∧ c ≤ 140737488351232 ∧ Row W a n xs := by
  obtain ⟨a, n, c, b, m, xs, rfl, h1, h2, _, h4, h5⟩ := arg_intsOf h ht he hn hb (by decide)
  exact ⟨a, n, c, xs, rfl, h1, h2, b, m, fun h0 => h4 (by omega), fun k hk => (h5 k (by omega)).1⟩

theorem arg_bools {P : Program} {W : World} {base : Nat} {v : Value} {t e : TypeId} (h : Arg P W base t v) (ht : P.underlying t = some (.slice e)) (he : P.underlying e = some .bool) (hn : P.cellsOf e = 1) (hb : P.bytesOf e = 1) : ∃ (a : Option Addr) (len cap : Nat) (xs : Nat → Bool), v = .slice a len cap ∧ len ≤ 140737488351232 ∧ ∃ b m, (0 < len → a = some ⟨b, m, none⟩) ∧ ∀ k, k < len → W.cell? ⟨b, m + k, none⟩ = some (.bool (xs k)) := by
  obtain ⟨a, len, cap, b, m, C, rfl, h1, h2, h3, h4, _, h5⟩ := h.rows ht hn Nat.one_pos
  obtain ⟨xs, hxs⟩ := Deep.choose_lt (α := Bool) (n := cap) (p := fun k x => C k = [.bool x]) fun k hk => (h5 k hk).2.1.bool he
  rw [hb] at h3
  simp only [reachBytes] at h3
  refine ⟨a, len, cap, xs, rfl, by omega, b, m, fun h0 => h4 (by omega), fun k hk => ?_⟩
  have := (h5 k (by omega)).2.2 0 Nat.one_pos
  rw [hxs k (by omega)] at this
  simpa using this
end Go.Proofs.YtgflfdnajchjaaaGreatDoor
/- Traffic that came in as an argument. -/
namespace Go.Proofs.YtgflfdnajchjaaaGreatDoor
set_option linter.unusedVariables false
set_option linter.unusedSimpArgs false
open Go.ChangeShapes Go.WideShapes Go.ChangeAt Go.RowKit
open Tm
theorem cellsOf3 : Tryz.prog.cellsOf 3 = 1 := by kernel_rfl
theorem cellsOf5 : Tryz.prog.cellsOf 5 = 1 := by kernel_rfl
theorem cellsOf46 : Tryz.prog.cellsOf 46 = 1 := by kernel_rfl
theorem cellsOf49 : Tryz.prog.cellsOf 49 = 5 := by kernel_rfl
instance : Inhabited Tr := ⟨⟨0, 0, 0, 0, none, 0, 0, []⟩⟩
/-- A slice of bytes that came in. -/
theorem rd_bytes {W : World} {t : TypeId} {cs : List Value} (h : Rd Tryz.prog W t cs) (ht : Tryz.prog.underlying t = some (.slice 5)) : ∃ (a : Option Addr) (n c : Nat) (l : List UInt8), cs = [.slice a n c] ∧ ByAt W a l ∧ n = l.length ∧ n ≤ maxLen := by
  obtain ⟨a, len, cap, b, m, xs, h1, h2, h3, h4, h5, h6, h7⟩ := h.ints ht Tryz.underlying5 cellsOf5
  refine ⟨a, len, cap, (List.range len).map fun k => UInt8.ofNat (xs k).toNat, h1, ⟨b, m, fun h0 => h5 (by simp at h0; omega), fun k hk => ?_⟩, by simp, by omega⟩
  have hk' : k < len := by simpa using hk
  obtain ⟨g1, g2⟩ := h7 k (by omega)
  have hb := bounds_u8 g2
  rw [getD_map_range _ _ _ _ hk', UInt8.toNat_ofNat', g1, show (((xs k).toNat % 2 ^ 8 : Nat) : Int) = xs k by omega]
set_option maxRecDepth 10000 in
theorem arg_tr {W : World} {base : Nat} {v : Value} (h : Arg Tryz.prog W base 43 v) : ∃ (oa : Option Addr) (n c b m : Nat) (R : Nat → Tr), v = .slice oa n c ∧ n ≤ c ∧ (oa = none → c = 0) ∧ (0 < c → oa = some ⟨b, m, none⟩) ∧
    (∀ k, k < n → ∀ i, i < 5 → W.cell? ⟨b, m + (k * 5 + i), none⟩ = some ((trC (R k)).getD i undef)) ∧ (∀ k, k < n → ByAt W (R k).pa (R k).by' ∧ (R k).pn = (R k).by'.length ∧ (R k).pn ≤ maxLen) ∧ ∀ k, k < n → I64 (R k).a ∧ I64 (R k).t ∧ I64 (R k).b ∧ I64 (R k).d := by
  obtain ⟨a, len, cap, b, m, C, rfl, h1, h2, h3, h4, h6, h5⟩ := h.rows Tryz.underlying43 cellsOf49 (by decide)
  have hC : ∀ k, k < cap → ∃ q : Tr, C k = trC q ∧ (ByAt W q.pa q.by' ∧ q.pn = q.by'.length ∧ q.pn ≤ maxLen) ∧ I64 q.a ∧ I64 q.t ∧ I64 q.b ∧ I64 q.d := fun k hk => by
    obtain ⟨hl, hr, _⟩ := h5 k hk
    obtain ⟨_, hf⟩ := hr.struct Tryz.underlying49
    obtain ⟨x0, e0, w0⟩ := (hf 0 _ rfl).int Tryz.underlying3
    obtain ⟨x1, e1, w1⟩ := (hf 1 _ rfl).int Tryz.underlying3
    obtain ⟨x2, e2, w2⟩ := (hf 2 _ rfl).int Tryz.underlying3
    obtain ⟨x3, e3, w3⟩ := (hf 3 _ rfl).int Tryz.underlying3
    obtain ⟨pa, pn, pc, l, e4, q1, q2, q3⟩ := rd_bytes (hf 4 _ rfl) Tryz.underlying46
    generalize C k = L at *
    match L, hl with
    | [p, q, r, s, t], _ =>
      simp [cellsOf3, cellsOf46] at e0 e1 e2 e3 e4
      subst e0 e1 e2 e3 e4
      exact ⟨⟨x0, x1, x2, x3, pa, pn, pc, l⟩, rfl, ⟨q1, q2, q3⟩, bounds_i64 w0, bounds_i64 w1, bounds_i64 w2, bounds_i64 w3⟩
  obtain ⟨R, hR⟩ := Deep.choose_lt (α := Tr) (n := cap) (p := fun k q => C k = trC q ∧ (ByAt W q.pa q.by' ∧ q.pn = q.by'.length ∧ q.pn ≤ maxLen) ∧ I64 q.a ∧ I64 q.t ∧ I64 q.b ∧ I64 q.d) hC
  refine ⟨a, len, cap, b, m, R, rfl, h1, h6, h4, fun k hk i hi => ?_, fun k hk => (hR k (by omega)).2.1, fun k hk => (hR k (by omega)).2.2⟩
  have hh := (h5 k (by omega)).2.2 i hi
  rw [(hR k (by omega)).1] at hh
  rw [hh]
  match i, hi with
  | 0, _ => rfl
  | 1, _ => rfl
  | 2, _ => rfl
  | 3, _ => rfl
  | 4, _ => rfl
end Go.Proofs.YtgflfdnajchjaaaGreatDoor
