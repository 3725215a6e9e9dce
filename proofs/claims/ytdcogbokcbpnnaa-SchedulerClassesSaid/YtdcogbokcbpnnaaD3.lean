/- Layer 34: who is served next. -/
import Derived.Test.YtdcogbokcbpnnaaD2
import Derived.Sort.AtCall
namespace Go.Proofs.Ytdcogbokcbpnnaa
set_option linter.unusedVariables false
set_option linter.unusedSimpArgs false
open Go.RowKit Go.Sort
attribute [local go_sem] gcell
/-- The best of those below k: the last one that is ahead of all before. -/
def bestP (ok : Nat → Bool) (ah : Nat → Nat → Bool) : Nat → Int
  | 0 => -1
  | k + 1 => if ok k = true ∧ (bestP ok ah k < 0 ∨ ah k (bestP ok ah k).toNat = true) then k else bestP ok ah k
theorem bestP_bd (ok : Nat → Bool) (ah : Nat → Nat → Bool) : ∀ k : Nat, -1 ≤ bestP ok ah k ∧ bestP ok ah k < k
  | 0 => ⟨by show (-1 : Int) ≤ -1; omega, by show (-1 : Int) < 0; omega⟩
  | k + 1 => by
    have := bestP_bd ok ah k
    unfold bestP
    split <;> omega
theorem bestP_yes {ok : Nat → Bool} {ah : Nat → Nat → Bool} {k : Nat} (h : ok k = true ∧ (bestP ok ah k < 0 ∨ ah k (bestP ok ah k).toNat = true)) : bestP ok ah (k + 1) = k := if_pos h
theorem bestP_no {ok : Nat → Bool} {ah : Nat → Nat → Bool} {k : Nat} (h : ¬ (ok k = true ∧ (bestP ok ah k < 0 ∨ ah k (bestP ok ah k).toNat = true))) : bestP ok ah (k + 1) = bestP ok ah k := if_neg h
theorem bestP_congr {ok ok' : Nat → Bool} {ah ah' : Nat → Nat → Bool} : ∀ {n : Nat}, (∀ i, i < n → ok i = ok' i) → (∀ i j, i < n → j < n → ah i j = ah' i j) → bestP ok ah n = bestP ok' ah' n
  | 0, _, _ => rfl
  | n + 1, h1, h2 => by
    have ih := bestP_congr (n := n) (fun i hi => h1 i (by omega)) fun i j hi hj => h2 i j (by omega) (by omega)
    have hb := bestP_bd ok' ah' n
    show (if ok n = true ∧ (bestP ok ah n < 0 ∨ ah n (bestP ok ah n).toNat = true) then (n : Int) else bestP ok ah n) = (if ok' n = true ∧ (bestP ok' ah' n < 0 ∨ ah' n (bestP ok' ah' n).toNat = true) then (n : Int) else bestP ok' ah' n)
    rw [ih, h1 n (by omega)]
    by_cases hlt : bestP ok' ah' n < 0
    · simp [hlt]
    · rw [h2 n (bestP ok' ah' n).toNat (by omega) (by omega)]
def canO (L : Nat → Dm) (got : Nat → Int) (i : Nat) : Bool := decide (got i < (L i).ow)
def canF (i : Nat) : Bool := true
def ahO (L : Nat → Dm) (i j : Nat) : Bool := decide ((L i).dl < (L j).dl)
def meanS (L : Nat → Dm) (hs : Nat → Int) (i : Nat) : Int := (L i).mn + 4 * bytes (L i).q (hs i)
def ahF (L : Nat → Dm) (hs : Nat → Int) (i j : Nat) : Bool := if (L i).cl = (L j).cl then prefer (L i).q (meanS L hs i) (L j).q (meanS L hs j) else decide ((L i).cl < (L j).cl)
def wantB (L : Nat → Dm) (s : St) (i : Nat) : Bool := decide (0 < wantsP (L i) (s.hs i) s.left)
section
variable {w0 w : World} {T O H : Nat} {la : Option Addr} {n lc R : Nat} {L : Nat → Dm} {s : St}
set_option maxRecDepth 100000 in
set_option maxHeartbeats 4000000 in
theorem can39 (X : Tb w0 w T O H la n lc R L s) (b g G : Nat) (got : Nat → Int) (hb : w.cell? ⟨b, 0, none⟩ = some (.pointer (some ⟨T, 0, none⟩))) (hg : w.cell? ⟨g, 0, none⟩ = some (.slice (some ⟨G, 0, none⟩) n n)) (i : Nat) (hi : i < n) (hn : n ≤ 4) (hG : w.cell? ⟨G, i, none⟩ = some (.int .i64 (got i))) :
    Calls Try.prog 39 #[.int .i64 i, .pointer (some ⟨b, 0, none⟩), .pointer (some ⟨g, 0, none⟩)] w fun e w' => e = .returned (.bool (canO L got i)) ∧ Below w.heap.size w w' := by
  obtain ⟨t0, t1, t2, t3⟩ := X.cells
  obtain ⟨bb, m, h1, h2⟩ := X.row
  obtain rfl := h1 (by omega)
  obtain ⟨-, -, -, -, c4, -, -⟩ := h2 i hi
  have i1 : (0 : Int) ≤ (i : Int) := by omega
  have i2 : (i : Int) < (n : Int) := by omega
  have HV := Lib.hid (show canO L got i = decide (got i < (L i).ow) from rfl)
  generalize canO L got i = cv at *
  clear h1 h2 X t1 t2 t3
  generalize got i = gi at *
  generalize (L i).ow = ov at *
  go_enter Try.func39, Try.ntmps39
  go_wp2_with fail
  go_quiet (fail)
  go_wp2
  go_ret
  exact ⟨ret_bool (by rw [HV.out]), below_drewN (Below.refl _ _) _⟩
set_option maxRecDepth 100000 in
set_option maxHeartbeats 4000000 in
theorem ah40 (X : Tb w0 w T O H la n lc R L s) (b : Nat) (hb : w.cell? ⟨b, 0, none⟩ = some (.pointer (some ⟨T, 0, none⟩))) (i j : Nat) (hi : i < n) (hj : j < n) (hn : n ≤ 4) :
    Calls Try.prog 40 #[.int .i64 i, .int .i64 j, .pointer (some ⟨b, 0, none⟩)] w fun e w' => e = .returned (.bool (ahO L i j)) ∧ Below w.heap.size w w' := by
  obtain ⟨t0, t1, t2, t3⟩ := X.cells
  obtain ⟨bb, m, h1, h2⟩ := X.row
  obtain rfl := h1 (by omega)
  obtain ⟨-, -, -, -, -, c5, -⟩ := h2 i hi
  obtain ⟨-, -, -, -, -, d5, -⟩ := h2 j hj
  have i1 : (0 : Int) ≤ (i : Int) := by omega
  have i2 : (i : Int) < (n : Int) := by omega
  have j1 : (0 : Int) ≤ (j : Int) := by omega
  have j2 : (j : Int) < (n : Int) := by omega
  have HV := Lib.hid (show ahO L i j = decide ((L i).dl < (L j).dl) from rfl)
  generalize ahO L i j = cv at *
  clear h1 h2 X t1 t2 t3
  generalize (L i).dl = di at *
  generalize (L j).dl = dj at *
  go_enter Try.func40, Try.ntmps40
  go_wp2_with fail
  go_quiet (fail)
  go_wp2
  go_ret
  exact ⟨ret_bool (by rw [HV.out]), below_drewN (Below.refl _ _) _⟩
theorem can42 (i : Nat) (w : World) : Calls Try.prog 42 #[.int .i64 i] w fun e w' => e = .returned (.bool (canF i)) ∧ Below w.heap.size w w' := by
  go_enter Try.func42, Try.ntmps42
  go_wp2
  go_ret
  exact ⟨rfl, Below.refl _ _⟩
set_option maxRecDepth 100000 in
set_option maxHeartbeats 4000000 in
theorem ah43 (X : Tb w0 w T O H la n lc R L s) (b : Nat) (hb : w.cell? ⟨b, 0, none⟩ = some (.pointer (some ⟨T, 0, none⟩))) (i j : Nat) (hi : i < n) (hj : j < n) (hn : n ≤ 4) (hm : ∀ k, k < n → 0 ≤ (L k).mn ∧ (L k).mn ≤ 67108864) :
    Calls Try.prog 43 #[.int .i64 i, .int .i64 j, .pointer (some ⟨b, 0, none⟩)] w fun e w' => e = .returned (.bool (ahF L s.hs i j)) ∧ Below w.heap.size w w' := by
  have KI := Lib.hid fun W (hB : Below w.heap.size w W) => mean45 (X.mono hB) i hi hn (hm i hi)
  have KJ := Lib.hid fun W (hB : Below w.heap.size w W) => mean45 (X.mono hB) j hj hn (hm j hj)
  obtain ⟨t0, t1, t2, t3⟩ := X.cells
  obtain ⟨bb, m, h1, h2⟩ := X.row
  obtain rfl := h1 (by omega)
  obtain ⟨c0, -, -, -, -, -, c6⟩ := h2 i hi
  obtain ⟨d0, -, -, -, -, -, d6⟩ := h2 j hj
  have lb := lt_of_cell hb
  have lbb := lt_of_cell c0
  have lT := X.t.lt
  have i1 : (0 : Int) ≤ (i : Int) := by omega
  have i2 : (i : Int) < (n : Int) := by omega
  have j1 : (0 : Int) ≤ (j : Int) := by omega
  have j2 : (j : Int) < (n : Int) := by omega
  have HV := Lib.hid (show ahF L s.hs i j = if (L i).cl = (L j).cl then prefer (L i).q ((L i).mn + 4 * bytes (L i).q (s.hs i)) (L j).q ((L j).mn + 4 * bytes (L j).q (s.hs j)) else decide ((L i).cl < (L j).cl) from rfl)
  generalize ahF L s.hs i j = cv at *
  clear h1 h2 X t1 t2 t3 hm
  generalize (L i).mn + 4 * bytes (L i).q (s.hs i) = mi at *
  generalize (L j).mn + 4 * bytes (L j).q (s.hs j) = mj at *
  generalize (L i).cl = ci at *
  generalize (L j).cl = cj at *
  generalize (L i).q = qi at *
  generalize (L j).q = qj at *
  by_cases hcl : ci = cj
  · have HCL := Lib.hid hcl
    have q1 : (ci != cj) = false := by simp [hcl]
    clear hcl
    go_enter Try.func43, Try.ntmps43
    go_wp2_with fail
    refine wp_region_quiet_below (by kernel_rfl) (by kernel_rfl) ?_
    repeat (go_big_quiet_step (fail))
    refine wpQuiet_nil ?_
    intro w2 hw2
    have hb2 := below_of_regrown hw2
    have HB2 := Lib.hid hb2
    have x0 := up hb2 hb
    have x1 := up hb2 t0
    have x2 := up hb2 c0
    have x3 := up hb2 d0
    have y0 := Nat.lt_of_lt_of_le lb hb2.size
    have y1 := Nat.lt_of_lt_of_le lbb hb2.size
    have y2 := Nat.lt_of_lt_of_le lT hb2.size
    clear hw2 hb2 hb t0 c0 d0 c6 d6 lb lbb lT
    go_wp2_with fail
    refine wp_region_quiet_below (by kernel_rfl) (by kernel_rfl) ?_
    repeat (go_big_quiet_step (first | (go_at_call_of 45 i; exact Calls.regrown_of (KI.out _ (bthen' HB2.out (below_regrown _ _ _)))) | (go_at_call_of 45 j; exact Calls.regrown_of (KJ.out _ (bthen' HB2.out (below_regrown _ _ _)))) | (go_at_call 44; exact Calls.regrown_of (prefer44 _ _ _ _ _))))
    refine wpQuiet_nil ?_
    intro w3 hw3
    have HB3 := Lib.hid (bthen' HB2.out (below_of_regrown hw3))
    go_wp2
    go_ret
    exact ⟨ret_bool (by rw [HV.out, if_pos HCL.out]), HB3.out⟩
  · have HCL := Lib.hid hcl
    have q1 : (ci != cj) = true := by simp [hcl]
    clear hcl
    go_enter Try.func43, Try.ntmps43
    go_wp2_with fail
    refine wp_region_quiet_below (by kernel_rfl) (by kernel_rfl) ?_
    repeat (go_big_quiet_step (fail))
    refine wpQuiet_nil ?_
    intro w2 hw2
    have HB2 := Lib.hid (below_of_regrown hw2)
    clear hw2
    go_wp2
    go_ret
    exact ⟨ret_bool (by rw [HV.out, if_neg HCL.out]), HB2.out⟩
set_option maxRecDepth 100000 in
set_option maxHeartbeats 4000000 in
theorem bestA (X : Tb w0 w T O H la n lc R L s) (b g G : Nat) (got : Nat → Int) (hb : w.cell? ⟨b, 0, none⟩ = some (.pointer (some ⟨T, 0, none⟩))) (hg : w.cell? ⟨g, 0, none⟩ = some (.slice (some ⟨G, 0, none⟩) n n)) (hG : ∀ i, i < n → w.cell? ⟨G, i, none⟩ = some (.int .i64 (got i))) (hn : n ≤ 4) (hh : ∀ k, k < n → 0 ≤ s.hs k ∧ s.hs k ≤ 12) (hl : s.left ≤ 12) :
    Calls Try.prog 38 #[.pointer (some ⟨T, 0, none⟩), .func (.func 39) #[] #[.pointer (some ⟨b, 0, none⟩), .pointer (some ⟨g, 0, none⟩)], .func (.func 40) #[] #[.pointer (some ⟨b, 0, none⟩)]] w fun e w' => e = .returned (.int .i64 (bestP (fun i => canO L got i && wantB L s i) (ahO L) n)) ∧ Below w.heap.size w w' := by
  have KC := Lib.hid fun W (hB : Below w.heap.size w W) i (hi : i < n) => can39 (X.mono hB) b g G got (up hB hb) (up hB hg) i hi hn (up hB (hG i hi))
  have KW := Lib.hid fun W (hB : Below w.heap.size w W) i (hi : i < n) => wants41 (X.mono hB) i hi hn (hh i hi) hl
  have KA := Lib.hid fun W (hB : Below w.heap.size w W) i (hi : i < n) j (hj : j < n) => ah40 (X.mono hB) b (up hB hb) i j hi hj hn
  have HWB := Lib.hid fun i => show wantB L s i = decide (0 < wantsP (L i) (s.hs i) s.left) from rfl
  obtain ⟨t0, t1, t2, t3⟩ := X.cells
  clear X hh t1 t2 t3
  have HOK := Lib.hid fun i => show (fun i => canO L got i && wantB L s i) i = (canO L got i && wantB L s i) from rfl
  generalize (fun i => canO L got i && wantB L s i) = ok at *
  generalize ahO L = ah at *
  go_enter Try.func38, Try.ntmps38
  go_wp2_with fail
  go_loopw [7, 8, 14] (fun s7 s8 s14 wr => ∃ k : Nat, s14 = .int .i64 k ∧ k ≤ n ∧ s7 = .int .i64 (bestP ok ah k) ∧ Below w.heap.size w wr) (fun _ _ s14 _ => n - (intOf s14).toNat)
  case atStart => exact ⟨0, rfl, Nat.zero_le _, rfl, Below.refl _ _⟩
  case round =>
    obtain ⟨k, rfl, hk, rfl, hB⟩ := hrel
    have HB := Lib.hid hB
    clear hB
    by_cases hlt : k < n
    · have hlt' : (k : Int) < (n : Int) := by omega
      have hbd := bestP_bd ok ah k
      have HY := Lib.hid (@bestP_yes ok ah k)
      have HN := Lib.hid (@bestP_no ok ah k)
      have KC1 := Lib.hid (KC.out wr HB.out k hlt)
      have KW1 := Lib.hid fun W hW => KW.out W hW k hlt
      have KA1 := Lib.hid fun W hW => KA.out W hW k hlt
      have HW1 := Lib.hid (HWB.out k)
      have HO1 := Lib.hid (HOK.out k)
      generalize bestP ok ah k = bp at *
      generalize canO L got k = cb at *
      generalize wantB L s k = wb at *
      generalize wantsP (L k) (s.hs k) s.left = wv at *
      cases cb with
      | false =>
        go_wp2_with fail
        refine KC1.out.mono ?_
        rintro e w1 ⟨rfl, hb1⟩
        have HB1 := Lib.hid (bthen' HB.out hb1)
        clear hb1
        go_wp2
        go_roundw
        case rel => exact ⟨k + 1, by go_num, by omega, by rw [HN.out (by rw [HO1.out]; simp)], HB1.out⟩
        case measure => simp [intOf]; omega
      | true =>
        go_wp2_with fail
        refine KC1.out.mono ?_
        rintro e w1 ⟨rfl, hb1⟩
        have HB1 := Lib.hid (bthen' HB.out hb1)
        clear hb1
        go_wp2_with fail
        refine (KW1.out w1 HB1.out).mono ?_
        rintro e w2 ⟨rfl, hb2⟩
        have HB2 := Lib.hid (bthen' HB1.out hb2)
        clear hb2 HB1
        by_cases hw : 0 < wv
        · have q1 : (0 : Int) < (wv : Int) := by omega
          have HWT := Lib.hid (show wb = true by rw [HW1.out]; simp [hw])
          clear hw
          by_cases hn0 : bp < 0
          · have HY2 := Lib.hid (HY.out ⟨by rw [HO1.out, HWT.out]; rfl, .inl hn0⟩)
            go_wp2
            go_roundw
            case rel => exact ⟨k + 1, by go_num, by omega, by rw [HY2.out], HB2.out⟩
            case measure => simp [intOf]; omega
          · obtain ⟨j, rfl⟩ := Int.eq_ofNat_of_zero_le (show 0 ≤ bp by omega)
            have KA2 := Lib.hid (KA1.out w2 HB2.out j (by omega))
            have HJ := Lib.hid (show ((j : Int)).toNat = j by omega)
            have q2 : decide ((j : Int) < 0) = false := by simp; try omega
            cases hah : ah k j with
            | true =>
              rw [hah] at KA2
              have HY2 := Lib.hid (HY.out ⟨by rw [HO1.out, HWT.out]; rfl, .inr (by rw [HJ.out]; exact hah)⟩)
              clear hah hn0
              go_wp2_with fail
              refine KA2.out.mono ?_
              rintro e w3 ⟨rfl, hb3⟩
              have HB3 := Lib.hid (bthen' HB2.out hb3)
              clear hb3
              go_wp2
              go_roundw
              case rel => exact ⟨k + 1, by go_num, by omega, by rw [HY2.out], HB3.out⟩
              case measure => simp [intOf]; omega
            | false =>
              rw [hah] at KA2
              have HN2 := Lib.hid (HN.out fun h => by
                rcases h.2 with h | h
                · omega
                · rw [HJ.out, hah] at h; cases h)
              clear hah hn0
              go_wp2_with fail
              refine KA2.out.mono ?_
              rintro e w3 ⟨rfl, hb3⟩
              have HB3 := Lib.hid (bthen' HB2.out hb3)
              clear hb3
              go_wp2
              go_roundw
              case rel => exact ⟨k + 1, by go_num, by omega, by rw [HN2.out], HB3.out⟩
              case measure => simp [intOf]; omega
        · have q1 : ¬ (0 : Int) < (wv : Int) := by omega
          have HWT := Lib.hid (show wb = false by rw [HW1.out]; simp; omega)
          clear hw
          have HN2 := Lib.hid (HN.out (by rw [HO1.out, HWT.out]; simp))
          go_wp2
          go_roundw
          case rel => exact ⟨k + 1, by go_num, by omega, by rw [HN2.out], HB2.out⟩
          case measure => simp [intOf]; omega
    · obtain rfl : k = n := by omega
      go_wp2
      go_ret
      exact ⟨rfl, HB.out⟩
set_option maxRecDepth 100000 in
set_option maxHeartbeats 4000000 in
theorem bestB (X : Tb w0 w T O H la n lc R L s) (b : Nat) (hb : w.cell? ⟨b, 0, none⟩ = some (.pointer (some ⟨T, 0, none⟩))) (hm : ∀ k, k < n → 0 ≤ (L k).mn ∧ (L k).mn ≤ 67108864) (hn : n ≤ 4) (hh : ∀ k, k < n → 0 ≤ s.hs k ∧ s.hs k ≤ 12) (hl : s.left ≤ 12) :
    Calls Try.prog 38 #[.pointer (some ⟨T, 0, none⟩), .func (.func 42) #[] #[], .func (.func 43) #[] #[.pointer (some ⟨b, 0, none⟩)]] w fun e w' => e = .returned (.int .i64 (bestP (fun i => canF i && wantB L s i) (ahF L s.hs) n)) ∧ Below w.heap.size w w' := by
  have KC := Lib.hid fun W (hB : Below w.heap.size w W) i (hi : i < n) => can42 i W
  have KW := Lib.hid fun W (hB : Below w.heap.size w W) i (hi : i < n) => wants41 (X.mono hB) i hi hn (hh i hi) hl
  have KA := Lib.hid fun W (hB : Below w.heap.size w W) i (hi : i < n) j (hj : j < n) => ah43 (X.mono hB) b (up hB hb) i j hi hj hn hm
  have HWB := Lib.hid fun i => show wantB L s i = decide (0 < wantsP (L i) (s.hs i) s.left) from rfl
  obtain ⟨t0, t1, t2, t3⟩ := X.cells
  clear X hh t1 t2 t3
  have HOK := Lib.hid fun i => show (fun i => canF i && wantB L s i) i = (canF i && wantB L s i) from rfl
  generalize (fun i => canF i && wantB L s i) = ok at *
  generalize ahF L s.hs = ah at *
  go_enter Try.func38, Try.ntmps38
  go_wp2_with fail
  go_loopw [7, 8, 14] (fun s7 s8 s14 wr => ∃ k : Nat, s14 = .int .i64 k ∧ k ≤ n ∧ s7 = .int .i64 (bestP ok ah k) ∧ Below w.heap.size w wr) (fun _ _ s14 _ => n - (intOf s14).toNat)
  case atStart => exact ⟨0, rfl, Nat.zero_le _, rfl, Below.refl _ _⟩
  case round =>
    obtain ⟨k, rfl, hk, rfl, hB⟩ := hrel
    have HB := Lib.hid hB
    clear hB
    by_cases hlt : k < n
    · have hlt' : (k : Int) < (n : Int) := by omega
      have hbd := bestP_bd ok ah k
      have HY := Lib.hid (@bestP_yes ok ah k)
      have HN := Lib.hid (@bestP_no ok ah k)
      have KC1 := Lib.hid (KC.out wr HB.out k hlt)
      have KW1 := Lib.hid fun W hW => KW.out W hW k hlt
      have KA1 := Lib.hid fun W hW => KA.out W hW k hlt
      have HW1 := Lib.hid (HWB.out k)
      have HO1 := Lib.hid (HOK.out k)
      generalize bestP ok ah k = bp at *
      generalize canF k = cb at *
      generalize wantB L s k = wb at *
      generalize wantsP (L k) (s.hs k) s.left = wv at *
      cases cb with
      | false =>
        go_wp2_with fail
        refine KC1.out.mono ?_
        rintro e w1 ⟨rfl, hb1⟩
        have HB1 := Lib.hid (bthen' HB.out hb1)
        clear hb1
        go_wp2
        go_roundw
        case rel => exact ⟨k + 1, by go_num, by omega, by rw [HN.out (by rw [HO1.out]; simp)], HB1.out⟩
        case measure => simp [intOf]; omega
      | true =>
        go_wp2_with fail
        refine KC1.out.mono ?_
        rintro e w1 ⟨rfl, hb1⟩
        have HB1 := Lib.hid (bthen' HB.out hb1)
        clear hb1
        go_wp2_with fail
        refine (KW1.out w1 HB1.out).mono ?_
        rintro e w2 ⟨rfl, hb2⟩
        have HB2 := Lib.hid (bthen' HB1.out hb2)
        clear hb2 HB1
        by_cases hw : 0 < wv
        · have q1 : (0 : Int) < (wv : Int) := by omega
          have HWT := Lib.hid (show wb = true by rw [HW1.out]; simp [hw])
          clear hw
          by_cases hn0 : bp < 0
          · have HY2 := Lib.hid (HY.out ⟨by rw [HO1.out, HWT.out]; rfl, .inl hn0⟩)
            go_wp2
            go_roundw
            case rel => exact ⟨k + 1, by go_num, by omega, by rw [HY2.out], HB2.out⟩
            case measure => simp [intOf]; omega
          · obtain ⟨j, rfl⟩ := Int.eq_ofNat_of_zero_le (show 0 ≤ bp by omega)
            have KA2 := Lib.hid (KA1.out w2 HB2.out j (by omega))
            have HJ := Lib.hid (show ((j : Int)).toNat = j by omega)
            have q2 : decide ((j : Int) < 0) = false := by simp; try omega
            cases hah : ah k j with
            | true =>
              rw [hah] at KA2
              have HY2 := Lib.hid (HY.out ⟨by rw [HO1.out, HWT.out]; rfl, .inr (by rw [HJ.out]; exact hah)⟩)
              clear hah hn0
              go_wp2_with fail
              refine KA2.out.mono ?_
              rintro e w3 ⟨rfl, hb3⟩
              have HB3 := Lib.hid (bthen' HB2.out hb3)
              clear hb3
              go_wp2
              go_roundw
              case rel => exact ⟨k + 1, by go_num, by omega, by rw [HY2.out], HB3.out⟩
              case measure => simp [intOf]; omega
            | false =>
              rw [hah] at KA2
              have HN2 := Lib.hid (HN.out fun h => by
                rcases h.2 with h | h
                · omega
                · rw [HJ.out, hah] at h; cases h)
              clear hah hn0
              go_wp2_with fail
              refine KA2.out.mono ?_
              rintro e w3 ⟨rfl, hb3⟩
              have HB3 := Lib.hid (bthen' HB2.out hb3)
              clear hb3
              go_wp2
              go_roundw
              case rel => exact ⟨k + 1, by go_num, by omega, by rw [HN2.out], HB3.out⟩
              case measure => simp [intOf]; omega
        · have q1 : ¬ (0 : Int) < (wv : Int) := by omega
          have HWT := Lib.hid (show wb = false by rw [HW1.out]; simp; omega)
          clear hw
          have HN2 := Lib.hid (HN.out (by rw [HO1.out, HWT.out]; simp))
          go_wp2
          go_roundw
          case rel => exact ⟨k + 1, by go_num, by omega, by rw [HN2.out], HB2.out⟩
          case measure => simp [intOf]; omega
    · obtain rfl : k = n := by omega
      go_wp2
      go_ret
      exact ⟨rfl, HB.out⟩
end
end Go.Proofs.Ytdcogbokcbpnnaa
