import Derived.Test.YtgflfdnajchjaaaGreatDoorJD
/- Layer 45: the check of a bearer. -/
namespace Go.Proofs.YtgflfdnajchjaaaGreatDoor.Be
set_option linter.unusedVariables false
set_option linter.unusedSimpArgs false
open Go.RowKit Go.Sort
open Go.Proofs.YtgflfdnajchjaaaGreatDoor.Ch (btw btw_t btw_f btw_or)
attribute [local go_sem] gcell
theorem lkB_eq (b e p v q t : Int) : lkB b e p v q t = (btw b 5 9 && decide (1 ≤ e ∧ e ≤ 64 ∧ 1 ≤ p ∧ p ≤ 1000 ∧ 1 ≤ v ∧ v ≤ 1000 ∧ 0 ≤ q ∧ q ≤ 1000 ∧ 1 ≤ t ∧ t ≤ 32)) := by
  unfold lkB
  cases btw b 5 9
  · rfl
  · rw [Bool.true_and, Bool.true_and]
    unfold btw
    rw [Bool.eq_iff_iff]
    simp only [Bool.and_eq_true, decide_eq_true_eq]
    omega
set_option maxRecDepth 100000 in
set_option maxHeartbeats 4000000 in
theorem link124 (b e p v q t : Int) (w : World) : Calls Tryz.prog 124 #[lkv b e p v q t] w fun z w' => z = .returned (.bool (lkB b e p v q t)) ∧ Below w.heap.size w w' := by
  have HB := Lib.hid (blw w (.cells #[.int .i64 b, .int .i64 e, .int .i64 p, .int .i64 v, .int .i64 q, .int .i64 t] 69))
  have KB := Lib.hid bits152
  rw [lkB_eq]
  unfold lkv
  cases hb : btw b 5 9
  · go_enter Tryz.func124, Tryz.ntmps124
    go_wp2_with (go_at_call 152; refine (KB.out _ _).mono ?_; rw [hb]; rintro e w' ⟨rfl, rfl⟩)
    go_ret
    exact ⟨rfl, HB.out⟩
  · by_cases h : 1 ≤ e ∧ e ≤ 64 ∧ 1 ≤ p ∧ p ≤ 1000 ∧ 1 ≤ v ∧ v ≤ 1000 ∧ 0 ≤ q ∧ q ≤ 1000 ∧ 1 ≤ t ∧ t ≤ 32
    · rw [decide_eq_true h]
      go_enter Tryz.func124, Tryz.ntmps124
      go_wp2_with (go_at_call 152; refine (KB.out _ _).mono ?_; rw [hb]; rintro e w' ⟨rfl, rfl⟩)
      go_ret
      exact ⟨rfl, HB.out⟩
    · rw [decide_eq_false h]
      go_enter Tryz.func124, Tryz.ntmps124
      go_wp2_with (go_at_call 152; refine (KB.out _ _).mono ?_; rw [hb]; rintro e w' ⟨rfl, rfl⟩)
      all_goals first
        | (go_ret; exact ⟨rfl, HB.out⟩)
        | (go_ret; exact ⟨ret_bool (by simp; omega), HB.out⟩)
        | (exfalso; omega)
/-- What a check of a bearer hands back. -/
def beC (mo co wi bi wa : Int) (lk : Bool) : Int := if (mo ≠ 1 ∧ mo ≠ 2) ∨ co < 0 ∨ 3 < co then 7 else if (0 < co ∧ (wi < 1 ∨ 8 < wi)) ∨ bi < 5 ∨ 9 < bi ∨ wa < 1 ∨ 1000 < wa then 3 else if lk then 0 else 3
def bev (mo co wi bi wa b e p v q t : Int) : Value := .agg #[.int .i64 mo, .int .i64 co, .int .i64 wi, .int .i64 bi, .int .i64 wa, .int .i64 b, .int .i64 e, .int .i64 p, .int .i64 v, .int .i64 q, .int .i64 t]
set_option maxRecDepth 100000 in
set_option maxHeartbeats 4000000 in
theorem config133 (mo co wi bi wa b e p v q t : Int) (w : World) : Calls Tryz.prog 133 #[bev mo co wi bi wa b e p v q t] w fun z w' => z = .returned (.int .i64 (beC mo co wi bi wa (lkB b e p v q t))) ∧ Below w.heap.size w w' := by
  have HB := Lib.hid (blw w (.cells #[.int .i64 mo, .int .i64 co, .int .i64 wi, .int .i64 bi, .int .i64 wa, .int .i64 b, .int .i64 e, .int .i64 p, .int .i64 v, .int .i64 q, .int .i64 t] 71))
  have K := Lib.hid (link155 b e p v q t)
  unfold lkv at K
  unfold bev
  generalize lkB b e p v q t = lk at *
  rcases (show mo = 1 ∨ mo = 2 ∨ (mo ≠ 1 ∧ mo ≠ 2) by omega) with rfl | rfl | ⟨m1, m2⟩
  · cases lk
    all_goals
      go_enter Tryz.func133, Tryz.ntmps133
      go_wp2_with (go_at_call 155; refine (K.out _).mono ?_; rintro e w1 ⟨rfl, hb⟩; have HB1 := Lib.hid (bthen' HB.out hb); clear hb)
      all_goals
        go_ret
        exact ⟨ret_int (by unfold beC; first | rw [if_pos (by omega)] | (rw [if_neg (by omega), if_pos (by omega)]) | (rw [if_neg (by omega), if_neg (by omega)]; rfl)), by first | exact HB1.out | exact HB.out⟩
  · cases lk
    all_goals
      go_enter Tryz.func133, Tryz.ntmps133
      go_wp2_with (go_at_call 155; refine (K.out _).mono ?_; rintro e w1 ⟨rfl, hb⟩; have HB1 := Lib.hid (bthen' HB.out hb); clear hb)
      all_goals
        go_ret
        exact ⟨ret_int (by unfold beC; first | rw [if_pos (by omega)] | (rw [if_neg (by omega), if_pos (by omega)]) | (rw [if_neg (by omega), if_neg (by omega)]; rfl)), by first | exact HB1.out | exact HB.out⟩
  · have q1 : (mo == 1) = false := beq_eq_false_iff_ne.2 m1
    have q2 : (mo == 2) = false := beq_eq_false_iff_ne.2 m2
    have q3 : (mo != 1) = true := by rw [bne_iff_ne]; exact m1
    have q4 : (mo != 2) = true := by rw [bne_iff_ne]; exact m2
    go_enter Tryz.func133, Tryz.ntmps133
    go_wp2
    go_ret
    exact ⟨ret_int (by unfold beC; rw [if_pos (.inl ⟨m1, m2⟩)]), HB.out⟩
set_option maxRecDepth 100000 in
set_option maxHeartbeats 4000000 in
theorem check98 (mo co wi bi wa b e p v q t : Int) (w : World) : Calls Tryz.prog 98 #[bev mo co wi bi wa b e p v q t] w fun z w' => z = .returned (.int .i64 (beC mo co wi bi wa (lkB b e p v q t))) ∧ Below w.heap.size w w' := by
  have HB := Lib.hid (blw w (.cells #[.int .i64 mo, .int .i64 co, .int .i64 wi, .int .i64 bi, .int .i64 wa, .int .i64 b, .int .i64 e, .int .i64 p, .int .i64 v, .int .i64 q, .int .i64 t] 71))
  have K := Lib.hid (link124 b e p v q t)
  unfold lkv at K
  unfold bev
  generalize lkB b e p v q t = lk at *
  rcases (show mo = 1 ∨ mo = 2 ∨ (mo ≠ 1 ∧ mo ≠ 2) by omega) with rfl | rfl | ⟨m1, m2⟩
  · cases lk
    all_goals
      go_enter Tryz.func98, Tryz.ntmps98
      go_wp2_with (go_at_call 124; refine (K.out _).mono ?_; rintro e w1 ⟨rfl, hb⟩; have HB1 := Lib.hid (bthen' HB.out hb); clear hb)
      all_goals
        go_ret
        exact ⟨ret_int (by unfold beC; first | rw [if_pos (by omega)] | (rw [if_neg (by omega), if_pos (by omega)]) | (rw [if_neg (by omega), if_neg (by omega)]; rfl)), by first | exact HB1.out | exact HB.out⟩
  · cases lk
    all_goals
      go_enter Tryz.func98, Tryz.ntmps98
      go_wp2_with (go_at_call 124; refine (K.out _).mono ?_; rintro e w1 ⟨rfl, hb⟩; have HB1 := Lib.hid (bthen' HB.out hb); clear hb)
      all_goals
        go_ret
        exact ⟨ret_int (by unfold beC; first | rw [if_pos (by omega)] | (rw [if_neg (by omega), if_pos (by omega)]) | (rw [if_neg (by omega), if_neg (by omega)]; rfl)), by first | exact HB1.out | exact HB.out⟩
  · have q1 : (mo == 1) = false := beq_eq_false_iff_ne.2 m1
    have q2 : (mo == 2) = false := beq_eq_false_iff_ne.2 m2
    have q3 : (mo != 1) = true := by rw [bne_iff_ne]; exact m1
    have q4 : (mo != 2) = true := by rw [bne_iff_ne]; exact m2
    go_enter Tryz.func98, Tryz.ntmps98
    go_wp2
    go_ret
    exact ⟨ret_int (by unfold beC; rw [if_pos (.inl ⟨m1, m2⟩)]), HB.out⟩
theorem check111 (mo co wi bi wa b e p v q t : Int) (w : World) : Calls Tryz.prog 111 #[bev mo co wi bi wa b e p v q t] w fun z w' => z = .returned (.int .i64 (beC mo co wi bi wa (lkB b e p v q t))) ∧ Below w.heap.size w w' := by
  have HB := Lib.hid (blw w (.cells #[.int .i64 mo, .int .i64 co, .int .i64 wi, .int .i64 bi, .int .i64 wa, .int .i64 b, .int .i64 e, .int .i64 p, .int .i64 v, .int .i64 q, .int .i64 t] 71))
  have K := Lib.hid (config133 mo co wi bi wa b e p v q t)
  unfold bev at K ⊢
  generalize beC mo co wi bi wa (lkB b e p v q t) = r at *
  go_enter Tryz.func111, Tryz.ntmps111
  go_wp2_with (go_at_call 133; refine (K.out _).mono ?_; rintro e w1 ⟨rfl, hb⟩)
  go_ret
  exact ⟨rfl, bthen' HB.out hb⟩
end Go.Proofs.YtgflfdnajchjaaaGreatDoor.Be
