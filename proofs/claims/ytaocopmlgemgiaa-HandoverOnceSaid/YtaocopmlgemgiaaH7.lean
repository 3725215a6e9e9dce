/- Layer 42: the program does what the reference does. -/
import Derived.Test.YtaocopmlgemgiaaH5
import Derived.Test.YtaocopmlgemgiaaH6
namespace Go.Proofs.Ytaocopmlgemgiaa
set_option linter.unusedVariables false
set_option linter.unusedSimpArgs false
open Go.RowKit Go.Sort
attribute [local go_sem] gcell

theorem cellB_iff {n : Int} : cellB n = false ↔ ¬ (0 ≤ n ∧ n < 3) := by
  unfold cellB
  rw [Bool.eq_false_iff]
  simp
section
variable (a o r ot si ar ti : Int)
theorem st_row0 : tabS true (lookB a o r si ti) a 0 ot si ar ti 1 1 true 1 = stS a o r 0 ot si 1 ar ti := by
  unfold tabS stS; cases lookB a o r si ti <;> simp [cellB_iff]
  by_cases h : 0 ≤ ar ∧ ar < 3 <;> simp [h] <;> omega
theorem st_row1 : tabS true (lookB a o r si ti) a 1 ot si ar ti 2 2 true 2 = stS a o r 1 ot si 2 ar ti := by
  unfold tabS stS; cases lookB a o r si ti <;> simp
theorem st_row2 : tabS true (lookB a o r si ti) a 1 ot si ar ti 0 0 false 2 = stS a o r 1 ot si 3 ar ti := by
  unfold tabS stS; cases lookB a o r si ti <;> simp
theorem st_row3 : tabS true (lookB a o r si ti) a 1 ot si ar ti 0 4 false 3 = stS a o r 1 ot si 7 ar ti := by
  unfold tabS stS; cases lookB a o r si ti <;> simp
  by_cases h : ti - si < a
  · rw [if_pos h, if_neg (by omega)]
  · rw [if_neg h, if_pos (by omega)]
theorem st_row4 : tabS true (lookB a o r si ti) o 2 ot si ar ti 3 3 true 0 = stS a o r 2 ot si 4 ar ti := by
  unfold tabS stS; cases lookB a o r si ti <;> simp
theorem st_row5 : tabS true (lookB a o r si ti) o 2 ot si ar ti 0 4 false 3 = stS a o r 2 ot si 7 ar ti := by
  unfold tabS stS; cases lookB a o r si ti <;> simp
  by_cases h : ti - si < o
  · rw [if_pos h, if_neg (by omega)]
  · rw [if_neg h, if_pos (by omega)]
theorem st_row6 : tabS true (lookB a o r si ti) a 3 ot si ar ti 3 6 false 0 = stS a o r 3 ot si 5 ar ti := by
  unfold tabS stS; cases lookB a o r si ti <;> simp
theorem st_row7 : tabS true (lookB a o r si ti) a 3 ot si ar ti 0 5 false 0 = stS a o r 3 ot si 6 ar ti := by
  unfold tabS stS; cases lookB a o r si ti <;> simp
theorem st_none (ph ev wt : Int) (h : ∀ i, i < 8 → ¬ (ph = (stK i).1 ∧ ev = (stK i).2)) : tabS false (lookB a o r si ti) wt ph ot si ar ti 0 0 false 0 = stS a o r ph ot si ev ar ti := by
  have h0 := h 0 (by omega)
  have h1 := h 1 (by omega)
  have h2 := h 2 (by omega)
  have h3 := h 3 (by omega)
  have h4 := h 4 (by omega)
  have h5 := h 5 (by omega)
  have h6 := h 6 (by omega)
  have h7 := h 7 (by omega)
  simp only [stK] at h0 h1 h2 h3 h4 h5 h6 h7
  unfold tabS stS
  rw [if_pos (.inl rfl)]
  split
  · repeat rw [if_neg (by omega)]
  · rfl
theorem te_row0 (ce ta : Int) : tabT true (lookB a o r si ti) r 0 ce ta si ar ti 1 1 true 1 = teS a o r 0 ce ta si 1 ar ti := by
  unfold tabT teS; cases lookB a o r si ti <;> simp [cellB_iff]
  by_cases h : 0 ≤ ar ∧ ar < 3 ∧ ar ≠ ce
  · rw [if_neg (by omega), if_pos h]
  · rw [if_pos (by omega), if_neg h]
theorem te_row1 (ce ta : Int) : tabT true (lookB a o r si ti) r 1 ce ta si ar ti 0 2 false 0 = teS a o r 1 ce ta si 2 ar ti := by
  unfold tabT teS; cases lookB a o r si ti <;> simp
theorem te_row2 (ce ta : Int) : tabT true (lookB a o r si ti) r 1 ce ta si ar ti 2 3 true 0 = teS a o r 1 ce ta si 3 ar ti := by
  unfold tabT teS; cases lookB a o r si ti <;> simp
theorem te_row3 (ce ta : Int) : tabT true (lookB a o r si ti) r 1 ce ta si ar ti 2 3 true 3 = teS a o r 1 ce ta si 4 ar ti := by
  unfold tabT teS; cases lookB a o r si ti <;> simp
  by_cases h : ti - si < r
  · rw [if_pos h, if_neg (by omega)]
  · rw [if_neg h, if_pos (by omega)]
theorem te_row4 (ce ta : Int) : tabT true (lookB a o r si ti) r 2 ce ta si ar ti 0 4 false 0 = teS a o r 2 ce ta si 2 ar ti := by
  unfold tabT teS; cases lookB a o r si ti <;> simp
theorem te_row5 (ce ta : Int) : tabT true (lookB a o r si ti) r 2 ce ta si ar ti 2 3 false 0 = teS a o r 2 ce ta si 3 ar ti := by
  unfold tabT teS; cases lookB a o r si ti <;> simp
theorem te_none (ph ev ce ta : Int) (h : ∀ i, i < 6 → ¬ (ph = (teK i).1 ∧ ev = (teK i).2)) : tabT false (lookB a o r si ti) r ph ce ta si ar ti 0 0 false 0 = teS a o r ph ce ta si ev ar ti := by
  have h0 := h 0 (by omega)
  have h1 := h 1 (by omega)
  have h2 := h 2 (by omega)
  have h3 := h 3 (by omega)
  have h4 := h 4 (by omega)
  have h5 := h 5 (by omega)
  simp only [teK] at h0 h1 h2 h3 h4 h5
  unfold tabT teS
  rw [if_pos (.inl rfl)]
  split
  · repeat rw [if_neg (by omega)]
  · rfl
end

theorem st_wf : ∀ i, i < 8 → (Lit.int .i64 (stK i).1).wf = true ∧ (Lit.int .i64 (stK i).2).wf = true := fun i hi => ⟨by unfold stK; split <;> decide, by unfold stK; split <;> decide⟩
theorem te_wf : ∀ i, i < 6 → (Lit.int .i64 (teK i).1).wf = true ∧ (Lit.int .i64 (teK i).2).wf = true := fun i hi => ⟨by unfold teK; split <;> decide, by unfold teK; split <;> decide⟩

theorem stationP (a o r ph ot si ev ar ti : Int) (hp : (Lit.int .i64 ph).wf = true) (he : (Lit.int .i64 ev).wf = true) (w : World) :
    Calls Try.prog 8 #[pv a o r, mv ph ot si, .int .i64 ev, .int .i64 ar, .int .i64 ti] w fun e w' => e = stR (stS a o r ph ot si ev ar ti) ∧ Below w.heap.size w w' := by
  by_cases h : ∃ i, i < 8 ∧ ph = (stK i).1 ∧ ev = (stK i).2
  · obtain ⟨i, hi, h1, h2⟩ := h
    have L := fun wx B (hE : Entries wx B 8 (kOf stK) stV fun _ => True) => (look (w := wx) (B := B) st_wf st_ap hE hp he).1 i hi h1 h2
    match i, hi with
    | 0, _ =>
      obtain rfl : ph = 0 := h1
      obtain rfl : ev = 1 := h2
      have k := station8 a o r 0 ot si 1 ar ti 1 1 1 a true true ⟨fun h => absurd h (by decide), fun _ => rfl⟩ L w
      rw [st_row0] at k
      exact k
    | 1, _ =>
      obtain rfl : ph = 1 := h1
      obtain rfl : ev = 2 := h2
      have k := station8 a o r 1 ot si 2 ar ti 2 2 2 a true true ⟨fun h => absurd h (by decide), fun _ => rfl⟩ L w
      rw [st_row1] at k
      exact k
    | 2, _ =>
      obtain rfl : ph = 1 := h1
      obtain rfl : ev = 3 := h2
      have k := station8 a o r 1 ot si 3 ar ti 0 0 2 a false true ⟨fun h => absurd h (by decide), fun _ => rfl⟩ L w
      rw [st_row2] at k
      exact k
    | 3, _ =>
      obtain rfl : ph = 1 := h1
      obtain rfl : ev = 7 := h2
      have k := station8 a o r 1 ot si 7 ar ti 0 4 3 a false true ⟨fun h => absurd h (by decide), fun _ => rfl⟩ L w
      rw [st_row3] at k
      exact k
    | 4, _ =>
      obtain rfl : ph = 2 := h1
      obtain rfl : ev = 4 := h2
      have k := station8 a o r 2 ot si 4 ar ti 3 3 0 o true true ⟨fun _ => rfl, fun h => absurd rfl h⟩ L w
      rw [st_row4] at k
      exact k
    | 5, _ =>
      obtain rfl : ph = 2 := h1
      obtain rfl : ev = 7 := h2
      have k := station8 a o r 2 ot si 7 ar ti 0 4 3 o false true ⟨fun _ => rfl, fun h => absurd rfl h⟩ L w
      rw [st_row5] at k
      exact k
    | 6, _ =>
      obtain rfl : ph = 3 := h1
      obtain rfl : ev = 5 := h2
      have k := station8 a o r 3 ot si 5 ar ti 3 6 0 a false true ⟨fun h => absurd h (by decide), fun _ => rfl⟩ L w
      rw [st_row6] at k
      exact k
    | 7, _ =>
      obtain rfl : ph = 3 := h1
      obtain rfl : ev = 6 := h2
      have k := station8 a o r 3 ot si 6 ar ti 0 5 0 a false true ⟨fun h => absurd h (by decide), fun _ => rfl⟩ L w
      rw [st_row7] at k
      exact k
  · have k := station8 a o r ph ot si ev ar ti 0 0 0 (if ph = 2 then o else a) false false ⟨fun h => (if_pos h).symm, fun h => (if_neg h).symm⟩ (fun wx B (hE : Entries wx B 8 (kOf stK) stV fun _ => True) => (look (w := wx) (B := B) st_wf st_ap hE hp he).2 fun i hi hh => h ⟨i, hi, hh⟩) w
    rw [st_none a o r ot si ar ti ph ev _ (fun i hi hh => h ⟨i, hi, hh⟩)] at k
    exact k
theorem terminalP (a o r ph ce ta si ev ar ti : Int) (hp : (Lit.int .i64 ph).wf = true) (he : (Lit.int .i64 ev).wf = true) (w : World) :
    Calls Try.prog 10 #[pv a o r, xv ph ce ta si, .int .i64 ev, .int .i64 ar, .int .i64 ti] w fun e w' => e = teR (teS a o r ph ce ta si ev ar ti) ∧ Below w.heap.size w w' := by
  by_cases h : ∃ i, i < 6 ∧ ph = (teK i).1 ∧ ev = (teK i).2
  · obtain ⟨i, hi, h1, h2⟩ := h
    have L := fun wx B (hE : Entries wx B 6 (kOf teK) teV fun _ => True) => (look (w := wx) (B := B) te_wf te_ap hE hp he).1 i hi h1 h2
    match i, hi with
    | 0, _ =>
      obtain rfl : ph = 0 := h1
      obtain rfl : ev = 1 := h2
      have k := terminal10 a o r 0 ce ta si 1 ar ti 1 1 1 true true L w
      rw [te_row0] at k
      exact k
    | 1, _ =>
      obtain rfl : ph = 1 := h1
      obtain rfl : ev = 2 := h2
      have k := terminal10 a o r 1 ce ta si 2 ar ti 0 2 0 false true L w
      rw [te_row1] at k
      exact k
    | 2, _ =>
      obtain rfl : ph = 1 := h1
      obtain rfl : ev = 3 := h2
      have k := terminal10 a o r 1 ce ta si 3 ar ti 2 3 0 true true L w
      rw [te_row2] at k
      exact k
    | 3, _ =>
      obtain rfl : ph = 1 := h1
      obtain rfl : ev = 4 := h2
      have k := terminal10 a o r 1 ce ta si 4 ar ti 2 3 3 true true L w
      rw [te_row3] at k
      exact k
    | 4, _ =>
      obtain rfl : ph = 2 := h1
      obtain rfl : ev = 2 := h2
      have k := terminal10 a o r 2 ce ta si 2 ar ti 0 4 0 false true L w
      rw [te_row4] at k
      exact k
    | 5, _ =>
      obtain rfl : ph = 2 := h1
      obtain rfl : ev = 3 := h2
      have k := terminal10 a o r 2 ce ta si 3 ar ti 2 3 0 false true L w
      rw [te_row5] at k
      exact k
  · have k := terminal10 a o r ph ce ta si ev ar ti 0 0 0 false false (fun wx B (hE : Entries wx B 6 (kOf teK) teV fun _ => True) => (look (w := wx) (B := B) te_wf te_ap hE hp he).2 fun i hi hh => h ⟨i, hi, hh⟩) w
    rw [te_none a o r si ar ti ph ev ce ta (fun i hi hh => h ⟨i, hi, hh⟩)] at k
    exact k
end Go.Proofs.Ytaocopmlgemgiaa
