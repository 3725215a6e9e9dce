/- Layer 42: the small functions. -/
import Derived.Test.YtaocopmlgemgiaaH0
namespace Go.Proofs.Ytaocopmlgemgiaa
set_option linter.unusedVariables false
set_option linter.unusedSimpArgs false
open Go.RowKit Go.Sort
attribute [local go_sem] gcell

def good (n : Int) : Bool := decide (1 ≤ n) && decide (n ≤ 1000)
theorem good_yes {n : Int} (h : 1 ≤ n ∧ n ≤ 1000) : good n = true := by unfold good; simp; omega
theorem good_no {n : Int} (h : n < 1 ∨ 1000 < n) : good n = false := by unfold good; rw [Bool.eq_false_iff]; simp; omega
theorem good_iff {n : Int} : good n = true ↔ 1 ≤ n ∧ n ≤ 1000 := by unfold good; simp
def goodP (a o r : Int) : Bool := good a && good o && good r
def chkP (a o r : Int) : Int := if goodP a o r then 0 else 3
def pv (a o r : Int) : Value := .agg #[.int .i64 a, .int .i64 o, .int .i64 r]
def cellB (n : Int) : Bool := decide (0 ≤ n) && decide (n < 3)
/-- Whether an event can be looked at. -/
def lookB (a o r si ti : Int) : Bool := goodP a o r && decide (0 ≤ ti) && decide (ti ≤ 1048576) && decide (0 ≤ si) && decide (si ≤ ti)

theorem good24 (n : Int) (w : World) : Calls Try.prog 24 #[.int .i64 n] w fun e w' => e = .returned (.bool (good n)) ∧ w' = w := by
  by_cases h : 1 ≤ n
  · go_enter Try.func24, Try.ntmps24
    go_wp2
    go_ret
    exact ⟨ret_bool (by unfold good; simp [h]), rfl⟩
  · go_enter Try.func24, Try.ntmps24
    go_wp2
    go_ret
    exact ⟨ret_bool (by rw [good_no (.inl (by omega))]), rfl⟩
theorem cell21 (n : Int) (w : World) : Calls Try.prog 21 #[.int .i64 n] w fun e w' => e = .returned (.bool (cellB n)) ∧ w' = w := by
  by_cases h : 0 ≤ n
  · go_enter Try.func21, Try.ntmps21
    go_wp2
    go_ret
    exact ⟨ret_bool (by unfold cellB; simp [h]), rfl⟩
  · go_enter Try.func21, Try.ntmps21
    go_wp2
    go_ret
    exact ⟨ret_bool (by unfold cellB; rw [show decide (0 ≤ n) = false by simp; omega]; rfl), rfl⟩

theorem below_alloc (w : World) (o : Obj) : Below w.heap.size w (w.alloc o) := (Below.refl _ _).alloc (Nat.le_refl _) _

set_option maxHeartbeats 1000000 in
theorem check13 (a o r : Int) (w : World) : Calls Try.prog 13 #[pv a o r] w fun e w' => e = .returned (.int .i64 (chkP a o r)) ∧ Below w.heap.size w w' := by
  have HB := Lib.hid (below_alloc w (.cells #[.int .i64 a, .int .i64 o, .int .i64 r] 23))
  unfold pv
  cases h1 : good a
  · have e : chkP a o r = 3 := by unfold chkP goodP; rw [h1]; rfl
    rw [e]
    clear e
    go_enter Try.func13, Try.ntmps13
    go_wp2_with (go_at_call 24; refine (good24 _ _).mono ?_; rw [h1]; rintro e wz ⟨rfl, rfl⟩)
    go_ret
    exact ⟨rfl, HB.out⟩
  · cases h2 : good o
    · have e : chkP a o r = 3 := by unfold chkP goodP; rw [h1, h2]; rfl
      rw [e]
      clear e
      go_enter Try.func13, Try.ntmps13
      go_wp2_with (go_at_call 24; refine (good24 _ _).mono ?_; (first | rw [h1] | rw [h2]); rintro e wz ⟨rfl, rfl⟩)
      go_ret
      exact ⟨rfl, HB.out⟩
    · have e : chkP a o r = if good r then 0 else 3 := by unfold chkP goodP; rw [h1, h2]; rfl
      rw [e]
      clear e
      cases h3 : good r
      all_goals
        go_enter Try.func13, Try.ntmps13
        go_wp2_with (go_at_call 24; refine (good24 _ _).mono ?_; (first | rw [h1] | rw [h2] | rw [h3]); rintro e wz ⟨rfl, rfl⟩)
        go_ret
        exact ⟨rfl, HB.out⟩

set_option maxHeartbeats 1000000 in
theorem right22 (a o r si ti : Int) (w : World) : Calls Try.prog 22 #[pv a o r, .int .i64 si, .int .i64 ti] w fun e w' => e = .returned (.bool (lookB a o r si ti)) ∧ Below w.heap.size w w' := by
  have HB := Lib.hid (below_alloc w (.cells #[.int .i64 a, .int .i64 o, .int .i64 r] 23))
  have hc := check13 a o r
  unfold pv at hc
  unfold pv
  cases h1 : goodP a o r
  · have e : chkP a o r = 3 := by unfold chkP; rw [h1]; rfl
    have e2 : lookB a o r si ti = false := by unfold lookB; rw [h1]; rfl
    rw [e] at hc
    rw [e2]
    clear e e2
    go_enter Try.func22, Try.ntmps22
    go_wp2_with (go_at_call 13; refine (hc _).mono ?_; rintro e w1 ⟨rfl, hb⟩; have HB1 := Lib.hid (bthen HB.out hb HB.out.size); clear hb)
    go_ret
    exact ⟨rfl, HB1.out⟩
  · have e : chkP a o r = 0 := by unfold chkP; rw [h1]; rfl
    rw [e] at hc
    have e2 : lookB a o r si ti = (decide (0 ≤ ti) && decide (ti ≤ 1048576) && decide (0 ≤ si) && decide (si ≤ ti)) := by unfold lookB; rw [h1]; rfl
    rw [e2]
    clear e e2
    by_cases g1 : 0 ≤ ti
    · by_cases g2 : ti ≤ 1048576
      · by_cases g3 : 0 ≤ si
        · have e2 : (decide (0 ≤ ti) && decide (ti ≤ 1048576) && decide (0 ≤ si) && decide (si ≤ ti)) = decide (si ≤ ti) := by simp [g1, g2, g3]
          rw [e2]
          clear e2
          go_enter Try.func22, Try.ntmps22
          go_wp2_with (go_at_call 13; refine (hc _).mono ?_; rintro e w1 ⟨rfl, hb⟩; have HB1 := Lib.hid (bthen HB.out hb HB.out.size); clear hb)
          go_ret
          exact ⟨rfl, HB1.out⟩
        · have e2 : (decide (0 ≤ ti) && decide (ti ≤ 1048576) && decide (0 ≤ si) && decide (si ≤ ti)) = false := by simp [g3]
          rw [e2]
          clear e2
          go_enter Try.func22, Try.ntmps22
          go_wp2_with (go_at_call 13; refine (hc _).mono ?_; rintro e w1 ⟨rfl, hb⟩; have HB1 := Lib.hid (bthen HB.out hb HB.out.size); clear hb)
          go_ret
          exact ⟨rfl, HB1.out⟩
      · have e2 : (decide (0 ≤ ti) && decide (ti ≤ 1048576) && decide (0 ≤ si) && decide (si ≤ ti)) = false := by simp [g2]
        rw [e2]
        clear e2
        go_enter Try.func22, Try.ntmps22
        go_wp2_with (go_at_call 13; refine (hc _).mono ?_; rintro e w1 ⟨rfl, hb⟩; have HB1 := Lib.hid (bthen HB.out hb HB.out.size); clear hb)
        go_ret
        exact ⟨rfl, HB1.out⟩
    · have e2 : (decide (0 ≤ ti) && decide (ti ≤ 1048576) && decide (0 ≤ si) && decide (si ≤ ti)) = false := by simp [g1]
      rw [e2]
      clear e2
      go_enter Try.func22, Try.ntmps22
      go_wp2_with (go_at_call 13; refine (hc _).mono ?_; rintro e w1 ⟨rfl, hb⟩; have HB1 := Lib.hid (bthen HB.out hb HB.out.size); clear hb)
      go_ret
      exact ⟨rfl, HB1.out⟩

def three (a b c : Int) : Nat → Int
  | 0 => a | 1 => b | _ => c
def allG (xs : Nat → Int) : Nat → Bool
  | 0 => true
  | k + 1 => allG xs k && good (xs k)
theorem allG_three (a o r : Int) : allG (three a o r) 3 = goodP a o r := by
  unfold goodP
  show (((true && good a) && good o) && good r) = _
  rw [Bool.true_and]
theorem allG_false {xs : Nat → Int} {n k : Nat} (hk : k < n) (h : good (xs k) = false) : allG xs n = false := by
  induction n with
  | zero => omega
  | succ n ih =>
    unfold allG
    by_cases h2 : k < n
    · rw [ih h2]; rfl
    · obtain rfl : k = n := by omega
      rw [h]; simp

set_option maxHeartbeats 2000000 in
theorem check12 (a o r : Int) (w : World) : Calls Try.prog 12 #[pv a o r] w fun e w' => e = .returned (.int .i64 (chkP a o r)) ∧ Below w.heap.size w w' := by
  have HB := Lib.hid ((below_alloc w (.cells #[.int .i64 a, .int .i64 o, .int .i64 r] 23)).alloc (by simp) (.cells #[.int .i64 a, .int .i64 o, .int .i64 r] 3))
  have HX := Lib.hid (show ∀ k, k < 3 → ((w.alloc (.cells #[.int .i64 a, .int .i64 o, .int .i64 r] 23)).alloc (.cells #[.int .i64 a, .int .i64 o, .int .i64 r] 3)).cell? ⟨w.heap.size + 1, k, none⟩ = some (.int .i64 (three a o r k)) from fun k hk => by
    match k, hk with
    | 0, _ => simp [go_sem, three]
    | 1, _ => simp [go_sem, three]
    | 2, _ => simp [go_sem, three])
  have HC := Lib.hid (show chkP a o r = if allG (three a o r) 3 then 0 else 3 by rw [allG_three]; rfl)
  unfold pv
  go_enter Try.func12, Try.ntmps12
  go_wp2_with fail
  generalize hW : ((w.alloc (.cells #[.int .i64 a, .int .i64 o, .int .i64 r] 23)).alloc (.cells #[.int .i64 a, .int .i64 o, .int .i64 r] 3)) = W0 at *
  clear hW
  go_loopw [13] (fun i wr => ∃ k : Nat, k ≤ 3 ∧ i = .int .i64 k ∧ allG (three a o r) k = true ∧ W0 = wr) (fun i _ => 3 - (intOf i).toNat)
  case atStart => exact ⟨0, Nat.zero_le _, rfl, rfl, rfl⟩
  case round =>
    obtain ⟨k, hk, rfl, hg, rfl⟩ := hrel
    have HG := Lib.hid hg
    clear hg
    by_cases hlt : k < 3
    · have x := HX.out k hlt
      cases hx : good (three a o r k)
      · have HF := Lib.hid (allG_false hlt hx)
        have hor : three a o r k < 1 ∨ 1000 < three a o r k := by
          by_cases h1 : 1 ≤ three a o r k
          · by_cases h2 : three a o r k ≤ 1000
            · rw [good_yes ⟨h1, h2⟩] at hx; cases hx
            · omega
          · omega
        clear hx
        generalize three a o r k = x0 at *
        by_cases h1 : x0 < 1
        · go_wp2
          go_ret
          exact ⟨ret_int (by rw [HC.out, HF.out]; rfl), HB.out⟩
        · have h2 : 1000 < x0 := by omega
          go_wp2
          go_ret
          exact ⟨ret_int (by rw [HC.out, HF.out]; rfl), HB.out⟩
      · have h12 := good_iff.1 hx
        have HX1 := Lib.hid hx
        clear hx
        have h3 : ¬ three a o r k < 1 := by omega
        have h4 : ¬ 1000 < three a o r k := by omega
        go_wp2
        go_roundw
        case rel => exact ⟨k + 1, by omega, by go_num, by unfold allG; rw [HG.out, HX1.out]; rfl, trivial⟩
        case measure => simp [intOf] <;> omega
    · obtain rfl : k = 3 := by omega
      go_wp2
      go_ret
      exact ⟨ret_int (by rw [HC.out, HG.out]; rfl), HB.out⟩
end Go.Proofs.Ytaocopmlgemgiaa
