/- Layer 42: the walk of HandoverArrives. -/
import Derived.Test.YtaocopmlgemgiaaL1
namespace Go.Proofs.Ytaocopmlgemgiaa
set_option linter.unusedVariables false
set_option linter.unusedSimpArgs false
open Go.RowKit Go.Sort
attribute [local go_sem] gcell

set_option maxRecDepth 100000 in
set_option maxHeartbeats 8000000 in
theorem arrives6 (x0 x1 x2 x3 : Int) (ao : Option Addr) (n c gb gm : Nat) (gs : Nat → Bool) (b0 : 0 ≤ x0 ∧ x0 ≤ 255) (b1 : 0 ≤ x1 ∧ x1 ≤ 255) (b2 : 0 ≤ x2 ∧ x2 ≤ 255) (b3 : 0 ≤ x3 ∧ x3 ≤ 255) (w : World) (hn : n ≤ 140737488351232)
    (ha : 0 < n → ao = some ⟨gb, gm, none⟩) (hgs : ∀ k, k < n → w.cell? ⟨gb, gm + k, none⟩ = some (.bool (gs k))) :
    Calls Try.prog 6 #[.int .u8 x0, .int .u8 x1, .int .u8 x2, .int .u8 x3, .slice ao n c] w fun e w' => e = .returned (.bool true) ∧ Below w.heap.size w w' := by
  have HA := Lib.hid ha
  have HG := Lib.hid hgs
  clear ha hgs
  have m0 : 0 ≤ x0 % 3 ∧ x0 % 3 < 3 := by omega
  have m1 : 0 ≤ x1 % 3 ∧ x1 % 3 < 3 := by omega
  have m2 : 1 ≤ 1 + x2 % 20 ∧ 1 + x2 % 20 ≤ 20 := by omega
  have m3 : 0 ≤ x3 % 50 ∧ x3 % 50 < 50 := by omega
  have HB0 := Lib.hid (below_alloc w (.cells #[.int .i64 1, .int .i64 1, .int .i64 (1 + x2 % 20)] 23))
  have P0 := Lib.hid (Box3.new w 1 1 (1 + x2 % 20) 23 w.heap.size rfl)
  by_cases hft : x0 % 3 = x1 % 3
  · have q1 : (x0 % 3 == x1 % 3) = true := beq_iff_eq.2 hft
    go_enter Try.func6, Try.ntmps6
    go_wp2_with (go_at_call 14; refine (awake14 _).mono ?_; rintro e w6 ⟨rfl, hb⟩; have HB6 := Lib.hid (bthen HB0.out hb HB0.out.size); clear hb)
    all_goals
      go_ret
      exact ⟨rfl, HB6.out⟩
  · have q1 : (x0 % 3 == x1 % 3) = false := beq_eq_false_iff_ne.2 hft
    by_cases h60 : n ≤ 60
    · have d60 : decide ((60 : Int) < (n : Int)) = false := by simp; omega
      have K1 := Lib.hid fun w => terminalQ (a := 1) (o := 1) (r := 1 + x2 % 20) (ph := 0) (ce := x0 % 3) (ta := 0) (si := 0) (ev := 1) (ar := x1 % 3) (ti := 0) (x := 1) (y := x0 % 3) (z := x1 % 3) (u := 0) (d := 1) (by unfold teS; rw [if_pos (look_yes (by omega) (by omega) (by omega)), if_pos (by omega)]) (by decide) (by decide) w
      go_enter Try.func6, Try.ntmps6
      go_wp2_with (go_at_call 10; refine (K1.out _).mono ?_)
      rintro e w1 ⟨rfl, hb⟩
      have hA := below_alloc w1 (.cells #[.int .i64 1, .int .i64 (x0 % 3), .int .i64 (x1 % 3), .int .i64 0] 27)
      have hP := P0.out.mono hb
      have P1 := Lib.hid (hP.mono hA)
      have Q1 := Lib.hid (Box4.new w1 1 (x0 % 3) (x1 % 3) 0 27 w1.heap.size rfl)
      have hB1 := bthen HB0.out hb HB0.out.size
      have z1 := hB1.size
      have HB1 := Lib.hid (bthen hB1 hA hB1.size)
      have n1 : w1.heap.size ≠ w.heap.size := by have := hP.lt; omega
      have n2 : w.heap.size ≠ w1.heap.size := Ne.symm n1
      clear hP hb hA hB1 P0 HB0 K1
      go_wp2_with fail
      generalize 1 + x2 % 20 = ar at *
      generalize x0 % 3 = fr at *
      generalize x1 % 3 = tg at *
      go_loopw [16] (fun t wr => ∃ (T : Nat) (ph si : Int), t = .int .i64 T ∧ (T : Int) ≤ x3 % 50 ∧ Box3 wr w.heap.size 1 1 ar ∧ Box4 wr w1.heap.size ph fr tg si ∧ (ph = 1 ∧ si = 0 ∨ ph = 2 ∧ 0 ≤ si ∧ si ≤ T) ∧ Below w.heap.size w wr) (fun t _ => 100 - (intOf t).toNat)
      case atStart => exact ⟨0, 1, 0, rfl, by omega, P1.out, Q1.out, .inl ⟨rfl, rfl⟩, HB1.out⟩
      case round =>
        clear P1 Q1 HB1
        obtain ⟨T, ph, si, rfl, hT, hP, hQ, hph, hB⟩ := hrel
        have P := Lib.hid hP
        have Q := Lib.hid hQ
        have HB := Lib.hid hB
        obtain ⟨a0, a1, a2, _, _, _⟩ := hP
        obtain ⟨q0, q1', q2, q3, f0, f1, f2, f3⟩ := hQ
        have l0 := lt_of_cell a0
        have l1 := lt_of_cell q0
        have zb := hB.size
        clear hB
        by_cases hlt : (T : Int) < x3 % 50
        · by_cases hin : T < n
          · have g := HG.out T hin
            have gw := up HB.out g
            have ga := HA.out (by omega)
            subst ga
            have lg := lt_of_cell gw
            clear g
            cases hgv : gs T
            · rw [hgv] at gw
              rcases hph with ⟨rfl, rfl⟩ | ⟨rfl, hs0, hs1⟩
              · by_cases hlate : ar ≤ (T : Int)
                · skip
                  have K := Lib.hid fun w => terminalQ (a := 1) (o := 1) (r := ar) (ph := 1) (ce := fr) (ta := tg) (si := 0) (ev := 4) (ar := 0) (ti := T) (x := 2) (y := fr) (z := tg) (u := T) (d := 3) (by unfold teS; rw [if_pos (look_yes (by omega) (by omega) (by omega))]; rw [if_neg (by omega), if_neg (by omega), if_pos (by omega)]) (by decide) (by decide) w
                  go_wp2_with (go_at_call 10; refine (K.out _).mono ?_; rintro e w5 ⟨rfl, hb⟩; have hP5 := P.out.mono hb; have hQ5 := Q.out.mono hb; have hB5 := bthen HB.out hb HB.out.size; have Q5 := Lib.hid ((hQ5.set 2 fr tg T).mono (below_alloc _ (.cells #[.int .i64 (2), .int .i64 (fr), .int .i64 (tg), .int .i64 (T)] 27))); have P5 := Lib.hid ((hP5.far4 (q := w1.heap.size) (by omega) 2 fr tg T).mono (below_alloc _ (.cells #[.int .i64 (2), .int .i64 (fr), .int .i64 (tg), .int .i64 (T)] 27))); have hB6 := below_set4 (q := w1.heap.size) hB5 z1 2 fr tg T; have HB5 := Lib.hid (hB6.alloc hB6.size (.cells #[.int .i64 (2), .int .i64 (fr), .int .i64 (tg), .int .i64 (T)] 27)); clear a0 a1 a2 q0 q1' q2 q3 f0 f1 f2 f3 l0 l1; obtain ⟨q0, q1', q2, q3, f0, f1, f2, f3⟩ := hQ5; have l1 := lt_of_cell q0; clear hb hB5 hB6 hP5)
                  go_roundw
                  case rel => exact ⟨T + 1, 2, T, by go_num, by omega, P5.out, Q5.out, .inr ⟨rfl, by omega, by omega⟩, HB5.out⟩
                  case measure => simp [intOf] <;> omega
                · skip
                  have K := Lib.hid fun w => terminalQ (a := 1) (o := 1) (r := ar) (ph := 1) (ce := fr) (ta := tg) (si := 0) (ev := 4) (ar := 0) (ti := T) (x := 1) (y := fr) (z := tg) (u := 0) (d := 0) (by unfold teS; rw [if_pos (look_yes (by omega) (by omega) (by omega))]; rw [if_neg (by omega), if_neg (by omega), if_neg (by omega), if_neg (by omega), if_neg (by omega)]) (by decide) (by decide) w
                  go_wp2_with (go_at_call 10; refine (K.out _).mono ?_; rintro e w5 ⟨rfl, hb⟩; have hP5 := P.out.mono hb; have hQ5 := Q.out.mono hb; have hB5 := bthen HB.out hb HB.out.size; have Q5 := Lib.hid ((hQ5.set 1 fr tg 0).mono (below_alloc _ (.cells #[.int .i64 (1), .int .i64 (fr), .int .i64 (tg), .int .i64 (0)] 27))); have P5 := Lib.hid ((hP5.far4 (q := w1.heap.size) (by omega) 1 fr tg 0).mono (below_alloc _ (.cells #[.int .i64 (1), .int .i64 (fr), .int .i64 (tg), .int .i64 (0)] 27))); have hB6 := below_set4 (q := w1.heap.size) hB5 z1 1 fr tg 0; have HB5 := Lib.hid (hB6.alloc hB6.size (.cells #[.int .i64 (1), .int .i64 (fr), .int .i64 (tg), .int .i64 (0)] 27)); clear a0 a1 a2 q0 q1' q2 q3 f0 f1 f2 f3 l0 l1; obtain ⟨q0, q1', q2, q3, f0, f1, f2, f3⟩ := hQ5; have l1 := lt_of_cell q0; clear hb hB5 hB6 hP5)
                  go_roundw
                  case rel => exact ⟨T + 1, 1, 0, by go_num, by omega, P5.out, Q5.out, .inl ⟨rfl, rfl⟩, HB5.out⟩
                  case measure => simp [intOf] <;> omega
              · skip
                have K := Lib.hid fun w => terminalQ (a := 1) (o := 1) (r := ar) (ph := 2) (ce := fr) (ta := tg) (si := si) (ev := 4) (ar := 0) (ti := T) (x := 2) (y := fr) (z := tg) (u := si) (d := 0) (by unfold teS; rw [if_pos (look_yes (by omega) (by omega) (by omega))]; rw [if_neg (by omega), if_neg (by omega), if_neg (by omega), if_neg (by omega), if_neg (by omega)]) (by decide) (by decide) w
                go_wp2_with (go_at_call 10; refine (K.out _).mono ?_; rintro e w5 ⟨rfl, hb⟩; have hP5 := P.out.mono hb; have hQ5 := Q.out.mono hb; have hB5 := bthen HB.out hb HB.out.size; have Q5 := Lib.hid ((hQ5.set 2 fr tg si).mono (below_alloc _ (.cells #[.int .i64 (2), .int .i64 (fr), .int .i64 (tg), .int .i64 (si)] 27))); have P5 := Lib.hid ((hP5.far4 (q := w1.heap.size) (by omega) 2 fr tg si).mono (below_alloc _ (.cells #[.int .i64 (2), .int .i64 (fr), .int .i64 (tg), .int .i64 (si)] 27))); have hB6 := below_set4 (q := w1.heap.size) hB5 z1 2 fr tg si; have HB5 := Lib.hid (hB6.alloc hB6.size (.cells #[.int .i64 (2), .int .i64 (fr), .int .i64 (tg), .int .i64 (si)] 27)); clear a0 a1 a2 q0 q1' q2 q3 f0 f1 f2 f3 l0 l1; obtain ⟨q0, q1', q2, q3, f0, f1, f2, f3⟩ := hQ5; have l1 := lt_of_cell q0; clear hb hB5 hB6 hP5)
                go_roundw
                case rel => exact ⟨T + 1, 2, si, by go_num, by omega, P5.out, Q5.out, .inr ⟨rfl, by omega, by omega⟩, HB5.out⟩
                case measure => simp [intOf] <;> omega
            · rw [hgv] at gw
              rcases hph with ⟨rfl, rfl⟩ | ⟨rfl, hs0, hs1⟩
              · by_cases hlate : ar ≤ (T : Int)
                · skip
                  have K := Lib.hid fun w => terminalQ (a := 1) (o := 1) (r := ar) (ph := 1) (ce := fr) (ta := tg) (si := 0) (ev := 3) (ar := 0) (ti := T) (x := 2) (y := fr) (z := tg) (u := T) (d := 3) (by unfold teS; rw [if_pos (look_yes (by omega) (by omega) (by omega))]; rw [if_neg (by omega), if_neg (by omega), if_pos (by omega)]) (by decide) (by decide) w
                  go_wp2_with (go_at_call 10; refine (K.out _).mono ?_; rintro e w5 ⟨rfl, hb⟩; have hP5 := P.out.mono hb; have hQ5 := Q.out.mono hb; have hB5 := bthen HB.out hb HB.out.size; have Q5 := Lib.hid ((hQ5.set 2 fr tg T).mono (below_alloc _ (.cells #[.int .i64 (2), .int .i64 (fr), .int .i64 (tg), .int .i64 (T)] 27))); have P5 := Lib.hid ((hP5.far4 (q := w1.heap.size) (by omega) 2 fr tg T).mono (below_alloc _ (.cells #[.int .i64 (2), .int .i64 (fr), .int .i64 (tg), .int .i64 (T)] 27))); have hB6 := below_set4 (q := w1.heap.size) hB5 z1 2 fr tg T; have HB5 := Lib.hid (hB6.alloc hB6.size (.cells #[.int .i64 (2), .int .i64 (fr), .int .i64 (tg), .int .i64 (T)] 27)); clear a0 a1 a2 q0 q1' q2 q3 f0 f1 f2 f3 l0 l1; obtain ⟨q0, q1', q2, q3, f0, f1, f2, f3⟩ := hQ5; have l1 := lt_of_cell q0; clear hb hB5 hB6 hP5)
                  go_roundw
                  case rel => exact ⟨T + 1, 2, T, by go_num, by omega, P5.out, Q5.out, .inr ⟨rfl, by omega, by omega⟩, HB5.out⟩
                  case measure => simp [intOf] <;> omega
                · skip
                  have K := Lib.hid fun w => terminalQ (a := 1) (o := 1) (r := ar) (ph := 1) (ce := fr) (ta := tg) (si := 0) (ev := 3) (ar := 0) (ti := T) (x := 2) (y := fr) (z := tg) (u := T) (d := 3) (by unfold teS; rw [if_pos (look_yes (by omega) (by omega) (by omega))]; rw [if_neg (by omega), if_neg (by omega), if_pos (by omega)]) (by decide) (by decide) w
                  go_wp2_with (go_at_call 10; refine (K.out _).mono ?_; rintro e w5 ⟨rfl, hb⟩; have hP5 := P.out.mono hb; have hQ5 := Q.out.mono hb; have hB5 := bthen HB.out hb HB.out.size; have Q5 := Lib.hid ((hQ5.set 2 fr tg T).mono (below_alloc _ (.cells #[.int .i64 (2), .int .i64 (fr), .int .i64 (tg), .int .i64 (T)] 27))); have P5 := Lib.hid ((hP5.far4 (q := w1.heap.size) (by omega) 2 fr tg T).mono (below_alloc _ (.cells #[.int .i64 (2), .int .i64 (fr), .int .i64 (tg), .int .i64 (T)] 27))); have hB6 := below_set4 (q := w1.heap.size) hB5 z1 2 fr tg T; have HB5 := Lib.hid (hB6.alloc hB6.size (.cells #[.int .i64 (2), .int .i64 (fr), .int .i64 (tg), .int .i64 (T)] 27)); clear a0 a1 a2 q0 q1' q2 q3 f0 f1 f2 f3 l0 l1; obtain ⟨q0, q1', q2, q3, f0, f1, f2, f3⟩ := hQ5; have l1 := lt_of_cell q0; clear hb hB5 hB6 hP5)
                  go_roundw
                  case rel => exact ⟨T + 1, 2, T, by go_num, by omega, P5.out, Q5.out, .inr ⟨rfl, by omega, by omega⟩, HB5.out⟩
                  case measure => simp [intOf] <;> omega
              · skip
                have K := Lib.hid fun w => terminalQ (a := 1) (o := 1) (r := ar) (ph := 2) (ce := fr) (ta := tg) (si := si) (ev := 3) (ar := 0) (ti := T) (x := 2) (y := fr) (z := tg) (u := si) (d := 3) (by unfold teS; rw [if_pos (look_yes (by omega) (by omega) (by omega))]; rw [if_neg (by omega), if_neg (by omega), if_neg (by omega), if_neg (by omega), if_pos (by omega)]) (by decide) (by decide) w
                go_wp2_with (go_at_call 10; refine (K.out _).mono ?_; rintro e w5 ⟨rfl, hb⟩; have hP5 := P.out.mono hb; have hQ5 := Q.out.mono hb; have hB5 := bthen HB.out hb HB.out.size; have Q5 := Lib.hid ((hQ5.set 2 fr tg si).mono (below_alloc _ (.cells #[.int .i64 (2), .int .i64 (fr), .int .i64 (tg), .int .i64 (si)] 27))); have P5 := Lib.hid ((hP5.far4 (q := w1.heap.size) (by omega) 2 fr tg si).mono (below_alloc _ (.cells #[.int .i64 (2), .int .i64 (fr), .int .i64 (tg), .int .i64 (si)] 27))); have hB6 := below_set4 (q := w1.heap.size) hB5 z1 2 fr tg si; have HB5 := Lib.hid (hB6.alloc hB6.size (.cells #[.int .i64 (2), .int .i64 (fr), .int .i64 (tg), .int .i64 (si)] 27)); clear a0 a1 a2 q0 q1' q2 q3 f0 f1 f2 f3 l0 l1; obtain ⟨q0, q1', q2, q3, f0, f1, f2, f3⟩ := hQ5; have l1 := lt_of_cell q0; clear hb hB5 hB6 hP5)
                go_roundw
                case rel => exact ⟨T + 1, 2, si, by go_num, by omega, P5.out, Q5.out, .inr ⟨rfl, by omega, by omega⟩, HB5.out⟩
                case measure => simp [intOf] <;> omega
          · skip
            rcases hph with ⟨rfl, rfl⟩ | ⟨rfl, hs0, hs1⟩
            · by_cases hlate : ar ≤ (T : Int)
              · skip
                have K := Lib.hid fun w => terminalQ (a := 1) (o := 1) (r := ar) (ph := 1) (ce := fr) (ta := tg) (si := 0) (ev := 4) (ar := 0) (ti := T) (x := 2) (y := fr) (z := tg) (u := T) (d := 3) (by unfold teS; rw [if_pos (look_yes (by omega) (by omega) (by omega))]; rw [if_neg (by omega), if_neg (by omega), if_pos (by omega)]) (by decide) (by decide) w
                go_wp2_with (go_at_call 10; refine (K.out _).mono ?_; rintro e w5 ⟨rfl, hb⟩; have hP5 := P.out.mono hb; have hQ5 := Q.out.mono hb; have hB5 := bthen HB.out hb HB.out.size; have Q5 := Lib.hid ((hQ5.set 2 fr tg T).mono (below_alloc _ (.cells #[.int .i64 (2), .int .i64 (fr), .int .i64 (tg), .int .i64 (T)] 27))); have P5 := Lib.hid ((hP5.far4 (q := w1.heap.size) (by omega) 2 fr tg T).mono (below_alloc _ (.cells #[.int .i64 (2), .int .i64 (fr), .int .i64 (tg), .int .i64 (T)] 27))); have hB6 := below_set4 (q := w1.heap.size) hB5 z1 2 fr tg T; have HB5 := Lib.hid (hB6.alloc hB6.size (.cells #[.int .i64 (2), .int .i64 (fr), .int .i64 (tg), .int .i64 (T)] 27)); clear a0 a1 a2 q0 q1' q2 q3 f0 f1 f2 f3 l0 l1; obtain ⟨q0, q1', q2, q3, f0, f1, f2, f3⟩ := hQ5; have l1 := lt_of_cell q0; clear hb hB5 hB6 hP5)
                go_roundw
                case rel => exact ⟨T + 1, 2, T, by go_num, by omega, P5.out, Q5.out, .inr ⟨rfl, by omega, by omega⟩, HB5.out⟩
                case measure => simp [intOf] <;> omega
              · skip
                have K := Lib.hid fun w => terminalQ (a := 1) (o := 1) (r := ar) (ph := 1) (ce := fr) (ta := tg) (si := 0) (ev := 4) (ar := 0) (ti := T) (x := 1) (y := fr) (z := tg) (u := 0) (d := 0) (by unfold teS; rw [if_pos (look_yes (by omega) (by omega) (by omega))]; rw [if_neg (by omega), if_neg (by omega), if_neg (by omega), if_neg (by omega), if_neg (by omega)]) (by decide) (by decide) w
                go_wp2_with (go_at_call 10; refine (K.out _).mono ?_; rintro e w5 ⟨rfl, hb⟩; have hP5 := P.out.mono hb; have hQ5 := Q.out.mono hb; have hB5 := bthen HB.out hb HB.out.size; have Q5 := Lib.hid ((hQ5.set 1 fr tg 0).mono (below_alloc _ (.cells #[.int .i64 (1), .int .i64 (fr), .int .i64 (tg), .int .i64 (0)] 27))); have P5 := Lib.hid ((hP5.far4 (q := w1.heap.size) (by omega) 1 fr tg 0).mono (below_alloc _ (.cells #[.int .i64 (1), .int .i64 (fr), .int .i64 (tg), .int .i64 (0)] 27))); have hB6 := below_set4 (q := w1.heap.size) hB5 z1 1 fr tg 0; have HB5 := Lib.hid (hB6.alloc hB6.size (.cells #[.int .i64 (1), .int .i64 (fr), .int .i64 (tg), .int .i64 (0)] 27)); clear a0 a1 a2 q0 q1' q2 q3 f0 f1 f2 f3 l0 l1; obtain ⟨q0, q1', q2, q3, f0, f1, f2, f3⟩ := hQ5; have l1 := lt_of_cell q0; clear hb hB5 hB6 hP5)
                go_roundw
                case rel => exact ⟨T + 1, 1, 0, by go_num, by omega, P5.out, Q5.out, .inl ⟨rfl, rfl⟩, HB5.out⟩
                case measure => simp [intOf] <;> omega
            · skip
              have K := Lib.hid fun w => terminalQ (a := 1) (o := 1) (r := ar) (ph := 2) (ce := fr) (ta := tg) (si := si) (ev := 4) (ar := 0) (ti := T) (x := 2) (y := fr) (z := tg) (u := si) (d := 0) (by unfold teS; rw [if_pos (look_yes (by omega) (by omega) (by omega))]; rw [if_neg (by omega), if_neg (by omega), if_neg (by omega), if_neg (by omega), if_neg (by omega)]) (by decide) (by decide) w
              go_wp2_with (go_at_call 10; refine (K.out _).mono ?_; rintro e w5 ⟨rfl, hb⟩; have hP5 := P.out.mono hb; have hQ5 := Q.out.mono hb; have hB5 := bthen HB.out hb HB.out.size; have Q5 := Lib.hid ((hQ5.set 2 fr tg si).mono (below_alloc _ (.cells #[.int .i64 (2), .int .i64 (fr), .int .i64 (tg), .int .i64 (si)] 27))); have P5 := Lib.hid ((hP5.far4 (q := w1.heap.size) (by omega) 2 fr tg si).mono (below_alloc _ (.cells #[.int .i64 (2), .int .i64 (fr), .int .i64 (tg), .int .i64 (si)] 27))); have hB6 := below_set4 (q := w1.heap.size) hB5 z1 2 fr tg si; have HB5 := Lib.hid (hB6.alloc hB6.size (.cells #[.int .i64 (2), .int .i64 (fr), .int .i64 (tg), .int .i64 (si)] 27)); clear a0 a1 a2 q0 q1' q2 q3 f0 f1 f2 f3 l0 l1; obtain ⟨q0, q1', q2, q3, f0, f1, f2, f3⟩ := hQ5; have l1 := lt_of_cell q0; clear hb hB5 hB6 hP5)
              go_roundw
              case rel => exact ⟨T + 1, 2, si, by go_num, by omega, P5.out, Q5.out, .inr ⟨rfl, by omega, by omega⟩, HB5.out⟩
              case measure => simp [intOf] <;> omega
        · have hTe : (T : Int) = x3 % 50 := by omega
          rcases hph with ⟨rfl, rfl⟩ | ⟨rfl, hs0, hs1⟩
          · have K := Lib.hid fun w => terminalQ (a := 1) (o := 1) (r := ar) (ph := 1) (ce := fr) (ta := tg) (si := 0) (ev := 2) (ar := 0) (ti := 60) (x := 0) (y := tg) (z := tg) (u := 0) (d := 2) (by unfold teS; rw [if_pos (look_yes (by omega) (by omega) (by omega))]; rw [if_neg (by omega), if_pos (by omega)]) (by decide) (by decide) w
            clear hTe
            go_wp2_with (go_at_call 10; refine (K.out _).mono ?_; rintro e w5 ⟨rfl, hb⟩; have hQ5 := Q.out.mono hb; have hB5 := bthen HB.out hb HB.out.size; have HB5 := Lib.hid (hB5.alloc hB5.size (.cells #[.int .i64 0, .int .i64 tg, .int .i64 tg, .int .i64 0] 27)); clear a0 a1 a2 q0 q1' q2 q3 f0 f1 f2 f3 l0 l1; obtain ⟨q0, q1', q2, q3, f0, f1, f2, f3⟩ := hQ5; have l1 := lt_of_cell q0; clear hb hB5)
            go_wp2_with (go_at_call 14; refine (awake14 _).mono ?_; rintro e w6 ⟨rfl, hb⟩; have HB6 := Lib.hid (bthen HB5.out hb HB5.out.size); clear hb)
            go_wp2
            go_ret
            exact ⟨rfl, HB6.out⟩
          · have K := Lib.hid fun w => terminalQ (a := 1) (o := 1) (r := ar) (ph := 2) (ce := fr) (ta := tg) (si := si) (ev := 2) (ar := 0) (ti := 60) (x := 0) (y := fr) (z := tg) (u := si) (d := 4) (by unfold teS; rw [if_pos (look_yes (by omega) (by omega) (by omega))]; rw [if_neg (by omega), if_neg (by omega), if_neg (by omega), if_pos (by omega)]) (by decide) (by decide) w
            clear hTe
            go_wp2_with (go_at_call 10; refine (K.out _).mono ?_; rintro e w5 ⟨rfl, hb⟩; have hQ5 := Q.out.mono hb; have hB5 := bthen HB.out hb HB.out.size; have HB5 := Lib.hid (hB5.alloc hB5.size (.cells #[.int .i64 0, .int .i64 fr, .int .i64 tg, .int .i64 si] 27)); clear a0 a1 a2 q0 q1' q2 q3 f0 f1 f2 f3 l0 l1; obtain ⟨q0, q1', q2, q3, f0, f1, f2, f3⟩ := hQ5; have l1 := lt_of_cell q0; clear hb hB5)
            go_wp2_with (go_at_call 14; refine (awake14 _).mono ?_; rintro e w6 ⟨rfl, hb⟩; have HB6 := Lib.hid (bthen HB5.out hb HB5.out.size); clear hb)
            go_wp2
            go_ret
            exact ⟨rfl, HB6.out⟩
    · go_enter Try.func6, Try.ntmps6
      go_wp2_with (go_at_call 14; refine (awake14 _).mono ?_; rintro e w6 ⟨rfl, hb⟩; have HB6 := Lib.hid (bthen HB0.out hb HB0.out.size); clear hb)
      go_ret
      exact ⟨rfl, HB6.out⟩
end Go.Proofs.Ytaocopmlgemgiaa
