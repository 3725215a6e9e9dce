/- Layer 34: the library's sort. -/
import Derived.Test.YtdcogbokcbpnnaaD4
import Derived.Test.YtdcogbokcbpnnaaOrd
import Derived.BigRegion
namespace Go.Proofs.Ytdcogbokcbpnnaa
set_option linter.unusedVariables false
set_option linter.unusedSimpArgs false
open Go.RowKit Go.Sort
attribute [local go_sem] gcell
def cmpI (a b : Int) : Int := if a < b then -1 else if b < a then 1 else 0
/-- The row while number i goes to its place j. -/
def ins (L : List Nat) (i j q : Nat) : Int := if q < j then ((L.getD q 0 : Nat) : Int) else if q = j then (i : Int) else if q ≤ i then ((L.getD (q - 1) 0 : Nat) : Int) else q
/-- The row when the first i are in their places. -/
def row (L : List Nat) (i q : Nat) : Int := if q < i then ((L.getD q 0 : Nat) : Int) else q
theorem ins_start (L : List Nat) (i q : Nat) : ins L i i q = row L i q := by
  unfold ins row
  by_cases h : q < i
  · rw [if_pos h, if_pos h]
  · rw [if_neg h, if_neg h]
    by_cases e : q = i
    · rw [if_pos e, e]
    · rw [if_neg e, if_neg (by omega)]
theorem ins_swap (L : List Nat) (i j q : Nat) (hj : j + 1 ≤ i) : ins L i j q = putI (putI (ins L i (j + 1)) (j + 1) (ins L i (j + 1) j)) j (ins L i (j + 1) (j + 1)) q := by
  have e1 : ins L i (j + 1) j = ((L.getD j 0 : Nat) : Int) := by unfold ins; rw [if_pos (by omega)]
  have e2 : ins L i (j + 1) (j + 1) = (i : Int) := by unfold ins; rw [if_neg (by omega), if_pos rfl]
  rw [e1, e2]
  unfold putI
  by_cases h1 : q = j
  · rw [if_pos h1]; unfold ins; rw [if_neg (by omega), if_pos h1]
  · rw [if_neg h1]
    by_cases h2 : q = j + 1
    · rw [if_pos h2]; unfold ins; rw [if_neg (by omega), if_neg h1, if_pos (by omega), h2]; rfl
    · rw [if_neg h2]
      unfold ins
      by_cases h3 : q < j
      · rw [if_pos h3, if_pos (by omega)]
      · rw [if_neg h3, if_neg h1, if_neg (show ¬ q < j + 1 by omega), if_neg h2]
theorem ins_end {L A B : List Nat} {i : Nat} (h : L = A ++ B) (hl : L.length = i) (q : Nat) : ins L i A.length q = row (A ++ i :: B) (i + 1) q := by
  subst h
  simp at hl
  unfold ins row
  by_cases h1 : q < A.length
  · rw [if_pos h1, if_pos (by omega)]
    simp [List.getElem?_append_left h1]
  · rw [if_neg h1]
    by_cases h2 : q = A.length
    · rw [if_pos h2, if_pos (by omega), h2]
      simp [List.getElem?_append_right]
    · rw [if_neg h2]
      by_cases h3 : q ≤ i
      · rw [if_pos h3, if_pos (by omega)]
        obtain ⟨m, rfl⟩ : ∃ m, q = A.length + 1 + m := ⟨q - (A.length + 1), by omega⟩
        rw [show A.length + 1 + m - 1 = A.length + m by omega]
        rw [List.getD_eq_getElem?_getD, List.getD_eq_getElem?_getD, List.getElem?_append_right (by omega), List.getElem?_append_right (by omega)]
        rw [show A.length + m - A.length = m by omega, show A.length + 1 + m - A.length = m + 1 by omega]
        simp
      · rw [if_neg h3, if_neg (by omega)]

theorem grown_drewN (w : World) (n : Nat) (row : Option Nat) : w.grownBy (w.drewN n) row := ⟨rfl, rfl, rfl, Nat.le_refl _, fun _ _ _ => rfl⟩
theorem grown_trans {a b c : World} {row : Option Nat} (h : a.grownBy b row) (k : b.grownBy c row) : a.grownBy c row :=
  ⟨k.os.trans h.os, k.tape.trans h.tape, k.output.trans h.output, Nat.le_trans h.size k.size, fun i hi hne => (k.block i (Nat.lt_of_lt_of_le hi h.size) hne).trans (h.block i hi hne)⟩
theorem grown_set (w : World) (z o : Nat) (v : Value) : w.grownBy (w.setCell ⟨z, o, none⟩ v) (some z) :=
  ⟨rfl, rfl, rfl, by simp, fun k hk hne => by
    have : z ≠ k := fun e => hne (by rw [e])
    simp [World.setCell, Array.getElem?_modify, this]⟩
theorem below_grown {B z : Nat} {a b c : World} (h : Below B a b) (k : b.grownBy c (some z)) (hz : B ≤ z) (hs : B ≤ b.heap.size) : Below B a c :=
  h.grown k hs (fun i hi => by cases hi; exact hz)

theorem nan51 (x : Int) (w : World) : Calls Try.prog 51 #[.int .i64 x] w fun e w' => e = .returned (.bool false) ∧ w' = w := by
  go_enter Try.func51, Try.ntmps51
  go_wp2
  go_ret
  exact ⟨ret_bool (by simp), rfl⟩
theorem compare36 (x y : Int) (w : World) : Calls Try.prog 36 #[.int .i64 x, .int .i64 y] w fun e w' => e = .returned (.int .i64 (cmpI x y)) ∧ w' = w := by
  rcases (show x < y ∨ (¬ x < y ∧ y < x) ∨ (¬ x < y ∧ ¬ y < x) by omega) with h | ⟨h, h2⟩ | ⟨h, h2⟩
  all_goals
    go_enter Try.func36, Try.ntmps36
    go_wp2_with (go_at_call 51; refine (nan51 _ _).mono ?_; rintro e w' ⟨rfl, rfl⟩)
    go_ret
    exact ⟨ret_int (by unfold cmpI; split <;> (try split) <;> omega), rfl⟩
section
variable (b z n cap : Nat) (P : Nat → Int) (w0 w : World)
set_option maxRecDepth 100000 in
set_option maxHeartbeats 4000000 in
theorem sort56 (hcc : ∀ (i j : Nat) (W : World), i < n → j < n → Below w0.heap.size w0 W → Calls Try.prog 35 #[.int .i64 i, .int .i64 j, .pointer (some ⟨b, 0, none⟩)] W fun e w' => e = .returned (.int .i64 (cmpI (P i) (P j))) ∧ ∃ m, w' = W.drewN m) (hP : ∀ k, k < n → 0 ≤ P k ∧ P k ≤ 15) (hn : n ≤ 8) (hb : Below w0.heap.size w0 w) (hz : w0.heap.size ≤ z) (V : VAt w z n (iv fun q => q)) (h0 : 0 < n) :
    Calls Try.prog 56 #[.slice (some ⟨z, 0, none⟩) n cap, .int .i64 0, .int .i64 n, .func (.func 35) #[] #[.pointer (some ⟨b, 0, none⟩)]] w fun e w' => e = .returned (.tuple #[]) ∧ w.grownBy w' (some z) ∧ VAt w' z n (iv (row (ordP P n 16) n)) := by
  have HCC := Lib.hid hcc
  have HPP := Lib.hid hP
  have HB := Lib.hid hb
  have hs0 := hb.size
  have HV := Lib.hid (V.congr fun k _ => show iv (row (ordP P 1 16) 1) k = iv (fun q => (q : Int)) k from congrArg (Value.int .i64) (by
    unfold row
    by_cases e : k < 1
    · have hk : k = 0 := by omega
      subst hk
      rw [if_pos (by omega)]
      have := (ord_all 1 fun i hi => hP i (by omega)).1
      have hm : ∀ x ∈ ordP P 1 16, x = 0 := fun x hx => by have := (mem_ordP.1 hx).1; omega
      match h : ordP P 1 16, this with
      | [x], _ => have := hm x (by rw [h]; simp); subst this; rfl
    · rw [if_neg e]))
  clear hcc hP hb V
  go_enter Try.func56, Try.ntmps56
  go_wp2_with fail
  go_loopw [8] (fun s8 wr => ∃ i : Nat, s8 = .int .i64 i ∧ 1 ≤ i ∧ i ≤ n ∧ w.grownBy wr (some z) ∧ VAt wr z n (iv (row (ordP P i 16) i))) (fun s8 _ => n - (intOf s8).toNat)
  case atStart => exact ⟨1, rfl, Nat.le_refl _, by omega, ⟨rfl, rfl, rfl, Nat.le_refl _, fun _ _ _ => rfl⟩, HV.out⟩
  case round =>
    clear HV
    obtain ⟨i, rfl, hi1, hin, hG, hV⟩ := hrel
    have HG := Lib.hid hG
    have HV := Lib.hid hV
    clear hG hV
    by_cases hlt : i < n
    · obtain ⟨X, Y, e1, e2, hX, hY⟩ := ord_split16 (HPP.out i hlt)
      have hl := (ord_all i fun k hk => HPP.out k (by omega)).1
      have hmem : ∀ x ∈ ordP P i 16, x < i := fun x hx => (mem_ordP.1 hx).1
      have HE1 := Lib.hid e1
      have HE2 := Lib.hid e2
      have HX := Lib.hid hX
      have HY := Lib.hid hY
      have HM := Lib.hid hmem
      have hXl : X.length ≤ i := by rw [← hl, e1]; simp
      generalize ordP P i 16 = L at *
      have HL := Lib.hid hl
      clear e1 e2 hX hY hl hmem
      go_wp2_with fail
      go_loopw [9] (fun s9 wx => ∃ j : Nat, s9 = .int .i64 j ∧ X.length ≤ j ∧ j ≤ i ∧ w.grownBy wx (some z) ∧ VAt wx z n (iv (ins L i j))) (fun s9 _ => (intOf s9).toNat)
      case atStart => exact ⟨i, rfl, hXl, Nat.le_refl _, HG.out, HV.out.congr fun k _ => congrArg (Value.int .i64) (ins_start L i k)⟩
      case round =>
        clear HG HV
        obtain ⟨j, rfl, hj1, hj2, hG, hV⟩ := hrel
        have HG := Lib.hid hG
        have HV := Lib.hid hV
        have hb0 := below_grown HB.out hG hz hs0
        have HB0 := Lib.hid hb0
        by_cases hjx : X.length < j
        · obtain ⟨jp, rfl⟩ : ∃ q, j = q + 1 := ⟨j - 1, by omega⟩
          rw [show ((jp + 1 : Nat) : Int) = (jp : Int) + 1 by omega]
          have hk : jp < L.length := by rw [HL.out]; omega
          have hb := HY.out (L.getD jp 0) (by
            rw [HE1.out, List.getD_eq_getElem?_getD, List.getElem?_append_right (by omega)]
            have : jp - X.length < Y.length := by have := hk; rw [HE1.out] at this; simp at this; omega
            simp [this])
          have hyl := HM.out (L.getD jp 0) (by simp [List.getD, hk])
          have d0 := hV.c (jp + 1) (by omega)
          have d1 := hV.c jp (by omega)
          have f0 := hV.fr (jp + 1)
          have f1 := hV.fr jp
          have E0 : ins L i (jp + 1) (jp + 1) = (i : Int) := by unfold ins; rw [if_neg (by omega), if_pos rfl]
          have E1 : ins L i (jp + 1) jp = ((L.getD jp 0 : Nat) : Int) := by unfold ins; rw [if_pos (by omega)]
          have HS := Lib.hid ((hV.setI (jp + 1) ((L.getD jp 0 : Nat) : Int)).setI jp (i : Int))
          have HS2 := Lib.hid fun q => (ins_swap L i jp q hj2)
          unfold iv at d0 d1
          rw [E0] at d0
          rw [E1] at d1
          rw [E0, E1] at HS2
          have hc := fun u => HCC.out i (L.getD jp 0) (wr.drewN u) hlt (by omega) (bthen' hb0 (below_drewN (Below.refl _ _) u))
          have HC := Lib.hid hc
          have hpi := HPP.out i hlt
          have hpy := HPP.out (L.getD jp 0) (by omega)
          clear hc hG hV hb0
          generalize L.getD jp 0 = y at *
          have q1 : decide (cmpI (P i) (P y) < 0) = true := by unfold cmpI; rw [if_pos (by omega)]; rfl
          have i1 : (0 : Int) ≤ (jp : Int) := by omega
          have i2 : (jp : Int) < (n : Int) := by omega
          have i3 : (jp : Int) + 1 < (n : Int) := by omega
          have q2 : decide ((jp : Int) + 1 > 0) = true := decide_eq_true (by omega)
          have q3 : (0 : Int) < (jp : Int) + 1 := by omega
          go_wp2_with fail
          go_quiet (first | (go_at_call 35; refine Calls.quiet_of (HC.out _)))
          have hV2 := HV.out.mono (below_drewN (Below.refl _ _) nq)
          have hG2 := grown_trans HG.out (grown_drewN wr nq _)
          clear d0 d1 f0 f1 HC HS HG HV HB0
          generalize wr.drewN nq = w2 at hV2 hG2 ⊢
          have d0 := hV2.c (jp + 1) (by omega)
          have d1 := hV2.c jp (by omega)
          have f0 := hV2.fr (jp + 1)
          have f1 := hV2.fr jp
          unfold iv at d0 d1
          rw [E0] at d0
          rw [E1] at d1
          have d2 : (w2.setCell ⟨z, jp + 1, none⟩ (.int .i64 y)).cell? ⟨z, jp, none⟩ = some (.int .i64 y) := by
            rw [cell_set, if_neg (by simp)]; exact d1
          have HS := Lib.hid (((hV2.setI (jp + 1) (y : Int)).setI jp (i : Int)).congr fun q _ => show iv (ins L i jp) q = iv _ q from congrArg (Value.int .i64) (HS2.out q))
          have HG := Lib.hid (grown_trans (grown_trans hG2 (grown_set w2 z (jp + 1) (.int .i64 y))) (grown_set _ z jp (.int .i64 i)))
          clear hV2 hG2 E0 E1
          go_wp2_with fail
          go_big_region
          clear d0 d1 d2 f0 f1
          generalize ((w2.setCell ⟨z, jp + 1, none⟩ (.int .i64 y)).setCell ⟨z, jp, none⟩ (.int .i64 i)) = w3 at *
          go_wp2
          go_roundw
          case rel => exact ⟨jp, by go_num, by omega, by omega, grown_trans HG.out (grown_drewN w3 1 _), HS.out.mono (below_drewN (Below.refl _ _) 1)⟩
          case measure => simp [intOf]
        · obtain rfl : j = X.length := by omega
          have HV9 := Lib.hid (hV.congr fun q _ => show iv (row (ordP P (i + 1) 16) (i + 1)) q = iv _ q from congrArg (Value.int .i64) (by rw [HE2.out, ins_end HE1.out HL.out]))
          rcases Nat.eq_zero_or_pos X.length with h | h
          · rw [h]
            clear hG hV hb0 HX HY HE1 HE2
            go_wp2_with fail
            go_quiet (fail)
            have HG2 := Lib.hid (grown_trans HG.out (grown_drewN wr nq _))
            have HV2 := Lib.hid (HV9.out.mono (below_drewN (Below.refl _ _) nq))
            clear HG HV HV9
            generalize wr.drewN nq = w2 at *
            go_wp2
            go_roundw
            case rel => exact ⟨i + 1, by go_num, by omega, by omega, HG2.out, HV2.out⟩
            case measure => simp [intOf]; omega
          · obtain ⟨jp, hjp⟩ : ∃ q, X.length = q + 1 := ⟨X.length - 1, by omega⟩
            have hjn : jp + 1 ≤ i := by omega
            have hk : jp < L.length := by rw [HL.out]; omega
            have hb := HX.out (L.getD jp 0) (by
              rw [HE1.out, List.getD_eq_getElem?_getD, List.getElem?_append_left (by omega)]
              simp [hjp])
            have hyl := HM.out (L.getD jp 0) (by simp [List.getD, hk])
            rw [hjp] at hV
            have d0 := hV.c (jp + 1) (by omega)
            have d1 := hV.c jp (by omega)
            have E0 : ins L i (jp + 1) (jp + 1) = (i : Int) := by unfold ins; rw [if_neg (by omega), if_pos rfl]
            have E1 : ins L i (jp + 1) jp = ((L.getD jp 0 : Nat) : Int) := by unfold ins; rw [if_pos (by omega)]
            unfold iv at d0 d1
            rw [E0] at d0
            rw [E1] at d1
            have hc := fun u => HCC.out i (L.getD jp 0) (wr.drewN u) hlt (by omega) (bthen' hb0 (below_drewN (Below.refl _ _) u))
            have HC := Lib.hid hc
            have hpi := HPP.out i hlt
            have hpy := HPP.out (L.getD jp 0) (by omega)
            rw [hjp, show ((jp + 1 : Nat) : Int) = (jp : Int) + 1 by omega]
            clear hc hG hV hb0 E0 E1 hjp HX HY HE1 HE2 HB0
            generalize L.getD jp 0 = y at *
            have q1 : decide (cmpI (P i) (P y) < 0) = false := by unfold cmpI; rw [if_neg (by omega)]; split <;> rfl
            have i1 : (0 : Int) ≤ (jp : Int) := by omega
            have i2 : (jp : Int) < (n : Int) := by omega
            have i3 : (jp : Int) + 1 < (n : Int) := by omega
            have q2 : decide ((jp : Int) + 1 > 0) = true := decide_eq_true (by omega)
            have q3 : (0 : Int) < (jp : Int) + 1 := by omega
            go_wp2_with fail
            go_quiet (first | (go_at_call 35; refine Calls.quiet_of (HC.out _)))
            have HG2 := Lib.hid (grown_trans HG.out (grown_drewN wr nq _))
            have HV2 := Lib.hid (HV9.out.mono (below_drewN (Below.refl _ _) nq))
            clear HG HV HV9 HC d0 d1
            generalize wr.drewN nq = w2 at *
            go_wp2
            go_roundw
            case rel => exact ⟨i + 1, by go_num, by omega, by omega, HG2.out, HV2.out⟩
            case measure => simp [intOf]; omega
    · obtain rfl : i = n := by omega
      go_wp2
      go_end0
      exact ⟨rfl, HG.out, HV.out⟩
set_option maxRecDepth 100000 in
set_option maxHeartbeats 4000000 in
theorem stable50 (hcc : ∀ (i j : Nat) (W : World), i < n → j < n → Below w0.heap.size w0 W → Calls Try.prog 35 #[.int .i64 i, .int .i64 j, .pointer (some ⟨b, 0, none⟩)] W fun e w' => e = .returned (.int .i64 (cmpI (P i) (P j))) ∧ ∃ m, w' = W.drewN m) (hP : ∀ k, k < n → 0 ≤ P k ∧ P k ≤ 15) (hn : n ≤ 8) (hb : Below w0.heap.size w0 w) (hz : w0.heap.size ≤ z) (V : VAt w z n (iv fun q => q)) (h0 : 0 < n) :
    Calls Try.prog 50 #[.slice (some ⟨z, 0, none⟩) n cap, .int .i64 n, .func (.func 35) #[] #[.pointer (some ⟨b, 0, none⟩)]] w fun e w' => e = .returned (.tuple #[]) ∧ w.grownBy w' (some z) ∧ VAt w' z n (iv (row (ordP P n 16) n)) := by
  have K := Lib.hid (sort56 b z n cap P w0 w hcc hP hn hb hz V h0)
  clear hcc hP hb V
  go_enter Try.func50, Try.ntmps50
  go_wp2_with fail
  go_loopw [7, 8] (fun s7 s8 wr => s7 = .int .i64 0 ∧ s8 = .int .i64 20 ∧ wr = w) (fun _ _ _ => 0)
  case atStart => exact ⟨rfl, rfl, rfl⟩
  case round =>
    obtain ⟨rfl, rfl, rfl⟩ := hrel
    go_wp2_with fail
    refine K.out.mono ?_
    rintro e w1 ⟨rfl, hG, hV⟩
    have HG := Lib.hid hG
    have HV := Lib.hid hV
    clear hG hV K
    go_wp2_with fail
    go_loopw [6] (fun s6 wr => s6 = .int .i64 20 ∧ wr = w1) (fun _ _ => 0)
    case atStart => exact ⟨rfl, rfl⟩
    case round =>
      obtain ⟨rfl, rfl⟩ := hrel
      go_wp2_with fail
      go_end0
      exact ⟨rfl, HG.out, HV.out⟩
theorem stable34 (hcc : ∀ (i j : Nat) (W : World), i < n → j < n → Below w0.heap.size w0 W → Calls Try.prog 35 #[.int .i64 i, .int .i64 j, .pointer (some ⟨b, 0, none⟩)] W fun e w' => e = .returned (.int .i64 (cmpI (P i) (P j))) ∧ ∃ m, w' = W.drewN m) (hP : ∀ k, k < n → 0 ≤ P k ∧ P k ≤ 15) (hn : n ≤ 8) (hb : Below w0.heap.size w0 w) (hz : w0.heap.size ≤ z) (V : VAt w z n (iv fun q => q)) (h0 : 0 < n) :
    Calls Try.prog 34 #[.slice (some ⟨z, 0, none⟩) n cap, .func (.func 35) #[] #[.pointer (some ⟨b, 0, none⟩)]] w fun e w' => e = .returned (.tuple #[]) ∧ w.grownBy w' (some z) ∧ VAt w' z n (iv (row (ordP P n 16) n)) := by
  have K := Lib.hid (stable50 b z n cap P w0 w hcc hP hn hb hz V h0)
  clear hcc hP hb V
  go_enter Try.func34, Try.ntmps34
  go_wp2_with (go_at_call 50; refine K.out.mono ?_; rintro e w1 ⟨rfl, hG, hV⟩; have HG := Lib.hid hG; have HV := Lib.hid hV; clear hG hV K)
  go_end0
  exact ⟨rfl, HG.out, HV.out⟩
end
end Go.Proofs.Ytdcogbokcbpnnaa
