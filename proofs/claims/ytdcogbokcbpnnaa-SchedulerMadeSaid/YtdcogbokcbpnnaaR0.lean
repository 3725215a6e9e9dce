/- Layer 34: small functions of the reference. -/
import Derived.Test.YtdcogbokcbpnnaaP0
namespace Go.Proofs.Ytdcogbokcbpnnaa
set_option linter.unusedVariables false
set_option linter.unusedSimpArgs false
open Go.RowKit Go.Sort
attribute [local go_sem] gcell
def dv (d : Dm) : Value := .agg #[.int .i64 d.q, .int .i64 d.ag, .int .i64 d.by', .int .i64 d.mn, .int .i64 d.ow, .int .i64 d.dl, .int .i64 d.cl]
set_option maxRecDepth 100000 in
set_option maxHeartbeats 4000000 in
theorem rwants47 (d : Dm) (h : Int) (left : Nat) (w : World) (hh : 0 ≤ h) (hl : h + left ≤ 12) (ha : 0 ≤ d.ag) :
    Calls Try.prog 47 #[dv d, .int .i64 h, .int .i64 left] w fun e w' => e = .returned (.int .i64 (wantsP d h left)) ∧ Below w.heap.size w w' := by
  have HC := Lib.hid (show wantsP d h left = if 0 < d.ag ∨ d.by' ≤ bytes d.q h then 0 else firstK (fun k => decide (bytes d.q h < bytes d.q (h + k))) left from rfl)
  generalize wantsP d h left = cv at *
  unfold dv
  generalize d.q = q at *
  generalize d.ag = g at *
  generalize d.by' = y at *
  generalize d.mn = x3 at *
  generalize d.ow = x4 at *
  generalize d.dl = x5 at *
  generalize d.cl = x6 at *
  have HB1 := Lib.hid (show Below w.heap.size w (w.alloc (.cells #[.int .i64 q, .int .i64 g, .int .i64 y, .int .i64 x3, .int .i64 x4, .int .i64 x5, .int .i64 x6] 41)) from (Below.refl _ _).alloc (Nat.le_refl _) _)
  have e0 : (w.alloc (.cells #[.int .i64 q, .int .i64 g, .int .i64 y, .int .i64 x3, .int .i64 x4, .int .i64 x5, .int .i64 x6] 41)).cell? ⟨w.heap.size, 0, none⟩ = some (.int .i64 q) := by simp [go_sem]
  have HQ0 := Lib.hid e0
  clear e0
  by_cases hg : g = 0
  · subst hg
    by_cases hy : y ≤ bytes q h
    · generalize hB : bytes q h = B at *
      have KB := Lib.hid fun W => bytes19 q h W
      rw [hB] at KB
      go_enter Try.func47, Try.ntmps47
      go_wp2_with (go_at_call 19; refine (KB.out _).mono ?_; rintro e w' ⟨rfl, hw⟩; obtain rfl := hw.symm)
      go_ret
      exact ⟨ret_int (by rw [HC.out, if_pos (.inr hy)]; rfl), HB1.out⟩
    · have HC2 := Lib.hid (show cv = firstK (fun k => decide (bytes q h < bytes q (h + k))) left by rw [HC.out, if_neg (by omega)])
      generalize hB : bytes q h = B at *
      have KB := Lib.hid fun W => bytes19 q h W
      rw [hB] at KB
      go_enter Try.func47, Try.ntmps47
      go_wp2_with (go_at_call 19; refine (KB.out _).mono ?_; rintro e w' ⟨rfl, hw⟩; obtain rfl := hw.symm)
      generalize (w.alloc (.cells #[.int .i64 q, .int .i64 0, .int .i64 y, .int .i64 x3, .int .i64 x4, .int .i64 x5, .int .i64 x6] 41)) = w1 at *
      generalize hD : w.heap.size = D at *
      have HD := Lib.hid hD
      clear hD hB KB HC
      go_loopw [8] (fun s8 wr => wr = w1 ∧ ∃ k : Nat, s8 = .int .i64 k ∧ 1 ≤ k ∧ k ≤ left + 1 ∧ ∀ j : Nat, 1 ≤ j → j < k → decide (B < bytes q (h + j)) = false) (fun s8 _ => left + 1 - (intOf s8).toNat)
      case atStart => exact ⟨rfl, 1, rfl, Nat.le_refl _, by omega, fun j a b => by omega⟩
      case round =>
        obtain ⟨rfl, k, rfl, hk1, hk2, hf⟩ := hrel
        have HF := Lib.hid hf
        have c0 := HQ0.out
        clear hf
        by_cases hlt : k ≤ left
        · have hlt' : (k : Int) ≤ (left : Int) := by omega
          have q2 : h + k ≤ 12 := by omega
          by_cases hy2 : B < bytes q (h + k)
          · have q1 : decide (B < bytes q (h + k)) = true := by simp [hy2]
            go_wp2_with (go_at_call 19; refine (bytes19 _ _ _).mono ?_; rintro e w' ⟨rfl, hw⟩; obtain rfl := hw.symm)
            go_ret
            exact ⟨ret_int (by rw [HC2.out, firstK_at hk1 hlt HF.out q1]), by rw [HD.out]; exact HB1.out⟩
          · have q1 : decide (B < bytes q (h + k)) = false := by simp; omega
            go_wp2_with (go_at_call 19; refine (bytes19 _ _ _).mono ?_; rintro e w' ⟨rfl, hw⟩; obtain rfl := hw.symm)
            go_roundw
            case rel => exact ⟨trivial, k + 1, by go_num, by omega, by omega, fun j a b => by
              rcases Nat.lt_or_eq_of_le (Nat.le_of_lt_succ b) with h | rfl
              · exact HF.out j a h
              · exact q1⟩
            case measure => simp [intOf]; omega
        · have : k = left + 1 := by omega
          subst this
          go_wp2
          go_ret
          exact ⟨ret_int (by rw [HC2.out, firstK_none.2 fun j a b => HF.out j a (by omega)]; rfl), by rw [HD.out]; exact HB1.out⟩
  · have hg' : 0 < g := by omega
    have q1 : (g != 0) = true := by simp [hg]
    clear hg
    go_enter Try.func47, Try.ntmps47
    go_wp2_with (go_at_call 19; refine (bytes19 _ _ _).mono ?_; rintro e w' ⟨rfl, hw⟩; obtain rfl := hw.symm)
    go_ret
    exact ⟨ret_int (by rw [HC.out, if_pos (.inl hg')]; rfl), HB1.out⟩
set_option maxRecDepth 100000 in
set_option maxHeartbeats 4000000 in
theorem rmean49 (d : Dm) (h : Int) (w : World) (hm : 0 ≤ d.mn ∧ d.mn ≤ 67108864) :
    Calls Try.prog 49 #[dv d, .int .i64 h] w fun e w' => e = .returned (.agg #[.int .i64 (d.mn + 4 * bytes d.q h)]) ∧ Below w.heap.size w w' := by
  have bb := bytes_bd d.q h
  unfold dv
  have KB := Lib.hid fun W => bytes19 d.q h W
  generalize bytes d.q h = B at *
  generalize d.q = q at *
  generalize d.ag = g at *
  generalize d.by' = y at *
  generalize d.mn = x3 at *
  generalize d.ow = x4 at *
  generalize d.dl = x5 at *
  generalize d.cl = x6 at *
  go_enter Try.func49, Try.ntmps49
  go_wp2_with fail
  refine wp_region_grown_tail 10 (by kernel_rfl) (by kernel_rfl) ?_
  simp only [List.take_succ_cons, List.take_zero, List.drop_succ_cons, List.drop_zero]
  repeat (go_big_quiet_step (first | (go_at_call 19; exact Calls.regrown_of ((KB.out _).mono fun e w' h => ⟨h.1, h.2 ▸ Below.refl _ _⟩))))
  refine wpQuiet_nil ?_
  intro w4 hw4
  have hb4 := below_of_regrown hw4
  have HB4 := Lib.hid (show Below w.heap.size w w4 from bthen (((Below.refl _ _).alloc (Nat.le_refl _) _).alloc (by simp) _) hb4 (by simp; omega))
  have f4 := upf hb4 (b := w.heap.size + 1) (o := 0) (by simp) (by simp [go_sem])
  have x4 := up hb4 (b := w.heap.size + 1) (o := 0) (v := .int .i64 0) (by simp [go_sem])
  have y4 : (w4.setCell ⟨w.heap.size + 1, 0, none⟩ (.int .i64 (x3 + 4 * B))).cell? ⟨w.heap.size + 1, 0, none⟩ = some (.int .i64 (x3 + 4 * B)) := by rw [cell_set, if_pos rfl, x4]; rfl
  clear hw4 hb4 KB
  go_wp2
  refine bodyPost_ret (v := .agg #[.int .i64 (x3 + 4 * B)]) (by simp [results, Try.results49, go_sem, y4]) rfl ⟨rfl, HB4.out.setCell (show w.heap.size ≤ w.heap.size + 1 by omega) _⟩
set_option maxRecDepth 100000 in
set_option maxHeartbeats 4000000 in
theorem renough31 (d : Dm) (h : Int) (left : Nat) (w : World) (hh : 0 ≤ h) (hl : h + left ≤ 12) (hl1 : 1 ≤ left) :
    Calls Try.prog 31 #[dv d, .int .i64 h, .int .i64 left] w fun e w' => e = .returned (.int .i64 (coverP d h left)) ∧ Below w.heap.size w w' := by
  have HC := Lib.hid (show coverP d h left = if firstK (fun k => decide (d.by' ≤ bytes d.q (h + k))) left = 0 then left else firstK (fun k => decide (d.by' ≤ bytes d.q (h + k))) left from rfl)
  generalize coverP d h left = cv at *
  unfold dv
  generalize d.q = q at *
  generalize d.ag = g at *
  generalize d.by' = y at *
  generalize d.mn = x3 at *
  generalize d.ow = x4 at *
  generalize d.dl = x5 at *
  generalize d.cl = x6 at *
  have HB1 := Lib.hid (show Below w.heap.size w (w.alloc (.cells #[.int .i64 q, .int .i64 g, .int .i64 y, .int .i64 x3, .int .i64 x4, .int .i64 x5, .int .i64 x6] 41)) from (Below.refl _ _).alloc (Nat.le_refl _) _)
  have e0 : (w.alloc (.cells #[.int .i64 q, .int .i64 g, .int .i64 y, .int .i64 x3, .int .i64 x4, .int .i64 x5, .int .i64 x6] 41)).cell? ⟨w.heap.size, 0, none⟩ = some (.int .i64 q) := by simp [go_sem]
  have e2 : (w.alloc (.cells #[.int .i64 q, .int .i64 g, .int .i64 y, .int .i64 x3, .int .i64 x4, .int .i64 x5, .int .i64 x6] 41)).cell? ⟨w.heap.size, 2, none⟩ = some (.int .i64 y) := by simp [go_sem]
  have HQ0 := Lib.hid e0
  have HQ2 := Lib.hid e2
  clear e0 e2
  go_enter Try.func31, Try.ntmps31
  go_wp2_with fail
  generalize (w.alloc (.cells #[.int .i64 q, .int .i64 g, .int .i64 y, .int .i64 x3, .int .i64 x4, .int .i64 x5, .int .i64 x6] 41)) = w1 at *
  generalize hD : w.heap.size = D at *
  have HD := Lib.hid hD
  clear hD
  have HS := Lib.hid (lt_of_cell HQ0.out)
  go_loopw [7] (fun s7 wr => Below w1.heap.size w1 wr ∧ ∃ k : Nat, s7 = .int .i64 k ∧ 1 ≤ k ∧ k ≤ left ∧ ∀ j : Nat, 1 ≤ j → j < k → decide (y ≤ bytes q (h + j)) = false) (fun s7 _ => left + 1 - (intOf s7).toNat)
  case atStart => exact ⟨Below.refl _ _, 1, rfl, Nat.le_refl _, hl1, fun j a b => by omega⟩
  case round =>
    obtain ⟨hB, k, rfl, hk1, hk2, hf⟩ := hrel
    have HF := Lib.hid hf
    have HBR := Lib.hid hB
    have c0 := up hB HQ0.out
    have c2 := up hB HQ2.out
    have lD := Nat.lt_of_lt_of_le HS.out hB.size
    clear hf hB
    by_cases hlt : k < left
    · have q1 : (k : Int) < (left : Int) := by omega
      have q2 : h + k < 12 := by omega
      go_wp2_with fail
      refine wp_region_quiet_below (by kernel_rfl) (by kernel_rfl) ?_
      repeat (go_big_quiet_step (first | (go_at_call 19; exact Calls.regrown_of ((bytes19 _ _ _).mono fun e w' h => ⟨h.1, h.2 ▸ Below.refl _ _⟩))))
      refine wpQuiet_nil ?_
      intro w2 hw2
      have HB2 := Lib.hid (bthen' HBR.out (below_of_regrown hw2))
      clear hw2
      by_cases hy : y ≤ bytes q (h + k)
      · have q3 : decide (y ≤ bytes q (h + k)) = true := by simp [hy]
        have q4 : decide (bytes q (h + k) < y) = false := by simp; omega
        go_wp2
        go_ret
        refine ⟨ret_int (by rw [HC.out, firstK_at hk1 hk2 HF.out q3, if_neg (by omega)]), by rw [HD.out]; exact bthen HB1.out HB2.out (by have := HS.out; omega)⟩
      · have q3 : decide (y ≤ bytes q (h + k)) = false := by simp; omega
        have q4 : decide (bytes q (h + k) < y) = true := by simp; omega
        go_wp2
        go_roundw
        case rel => exact ⟨HB2.out, k + 1, by go_num, by omega, by omega, fun j a b => by
          rcases Nat.lt_or_eq_of_le (Nat.le_of_lt_succ b) with h | rfl
          · exact HF.out j a h
          · exact q3⟩
        case measure => simp [intOf]; omega
    · obtain rfl : k = left := by omega
      have q1 : ¬ (k : Int) < (k : Int) := by omega
      go_wp2_with fail
      refine wp_region_quiet_below (by kernel_rfl) (by kernel_rfl) ?_
      repeat (go_big_quiet_step (fail))
      refine wpQuiet_nil ?_
      intro w2 hw2
      have HB2 := Lib.hid (bthen' HBR.out (below_of_regrown hw2))
      clear hw2
      go_wp2
      go_ret
      refine ⟨ret_int ?_, by rw [HD.out]; exact bthen HB1.out HB2.out (by have := HS.out; omega)⟩
      rw [HC.out]
      by_cases hy : y ≤ bytes q (h + k)
      · rw [firstK_at hk1 (Nat.le_refl _) HF.out (decide_eq_true hy), if_neg (by omega)]
      · rw [if_pos (firstK_none.2 fun j a b => by
          rcases Nat.lt_or_eq_of_le b with h | rfl
          · exact HF.out j a h
          · exact decide_eq_false hy)]
end Go.Proofs.Ytdcogbokcbpnnaa
