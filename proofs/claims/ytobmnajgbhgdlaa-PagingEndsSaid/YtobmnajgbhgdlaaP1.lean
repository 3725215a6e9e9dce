/- Layer 36: occasions. -/
import Derived.Test.YtobmnajgbhgdlaaP0
namespace Go.Proofs.Ytobmnajgbhgdlaa
set_option linter.unusedVariables false
set_option linter.unusedSimpArgs false
open Go.RowKit Go.Sort
attribute [local go_sem] gcell

/-- A terminal is called at a tick. -/
def occ (cy id t : Int) : Bool := decide (1 ≤ cy ∧ cy ≤ 256 ∧ 0 ≤ id ∧ 0 ≤ t ∧ id % cy = t % cy)

theorem occ19 (cy id t : Int) (w : World) : Calls Try.prog 19 #[.int .i64 cy, .int .i64 id, .int .i64 t] w fun e w' => e = .returned (.bool (occ cy id t)) ∧ Below w.heap.size w w' := by
  by_cases h1 : 1 ≤ cy
  · by_cases h2 : cy ≤ 256
    · by_cases h3 : 0 ≤ id
      · by_cases h4 : 0 ≤ t
        · have z1 : (cy == 0) = false := beq_eq_false_iff_ne.2 (by omega)
          have z2 : (cy == -1) = false := beq_eq_false_iff_ne.2 (by omega)
          have e1 : id.tmod cy = id % cy := Int.tmod_eq_emod_of_nonneg h3
          have e2 : t.tmod cy = t % cy := Int.tmod_eq_emod_of_nonneg h4
          have b1 : 0 ≤ id % cy ∧ id % cy < cy := ⟨Int.emod_nonneg _ (by omega), Int.emod_lt_of_pos _ (by omega)⟩
          have b2 : 0 ≤ t % cy ∧ t % cy < cy := ⟨Int.emod_nonneg _ (by omega), Int.emod_lt_of_pos _ (by omega)⟩
          by_cases h5 : id % cy = t % cy
          · have hv : occ cy id t = true := decide_eq_true ⟨h1, h2, h3, h4, h5⟩
            have q : (id % cy == t % cy) = true := by rw [h5]; exact beq_self_eq_true _
            rw [hv]
            clear hv
            generalize id % cy = u at *
            generalize t % cy = v at *
            clear h5
            go_enter Try.func19, Try.ntmps19
            go_wp2_with fail
            go_quiet (fail)
            go_wp2
            go_ret
            exact ⟨rfl, below_drewN (Below.refl _ _) _⟩
          · have hv : occ cy id t = false := decide_eq_false (fun h => h5 h.2.2.2.2)
            have q : (id % cy == t % cy) = false := beq_eq_false_iff_ne.2 h5
            rw [hv]
            clear hv
            generalize id % cy = u at *
            generalize t % cy = v at *
            clear h5
            go_enter Try.func19, Try.ntmps19
            go_wp2_with fail
            go_quiet (fail)
            go_wp2
            go_ret
            exact ⟨rfl, below_drewN (Below.refl _ _) _⟩
        · have hv : occ cy id t = false := decide_eq_false (fun h => by omega)
          have d4 : decide (0 ≤ t) = false := decide_eq_false h4
          rw [hv]
          clear hv
          go_enter Try.func19, Try.ntmps19
          go_wp2_with fail
          go_quiet (fail)
          go_wp2
          go_ret
          exact ⟨rfl, below_drewN (Below.refl _ _) _⟩
      · have hv : occ cy id t = false := decide_eq_false (fun h => by omega)
        have d3 : decide (0 ≤ id) = false := decide_eq_false h3
        rw [hv]
        clear hv
        go_enter Try.func19, Try.ntmps19
        go_wp2_with fail
        go_quiet (fail)
        go_wp2
        go_ret
        exact ⟨rfl, below_drewN (Below.refl _ _) _⟩
    · have hv : occ cy id t = false := decide_eq_false (fun h => by omega)
      have d2 : decide (cy ≤ 256) = false := decide_eq_false h2
      rw [hv]
      clear hv
      go_enter Try.func19, Try.ntmps19
      go_wp2_with fail
      go_quiet (fail)
      go_wp2
      go_ret
      exact ⟨rfl, below_drewN (Below.refl _ _) _⟩
  · have hv : occ cy id t = false := decide_eq_false (fun h => by omega)
    have d1 : decide (1 ≤ cy) = false := decide_eq_false h1
    rw [hv]
    clear hv
    go_enter Try.func19, Try.ntmps19
    go_wp2_with fail
    go_quiet (fail)
    go_wp2
    go_ret
    exact ⟨rfl, below_drewN (Below.refl _ _) _⟩

theorem occ27 (cy id t : Int) (w : World) : Calls Try.prog 27 #[.int .i64 cy, .int .i64 id, .int .i64 t] w fun e w' => e = .returned (.bool (occ cy id t)) ∧ Below w.heap.size w w' := by
  by_cases h1 : 1 ≤ cy
  · by_cases h2 : cy ≤ 256
    · by_cases h3 : 0 ≤ id
      · by_cases h4 : 0 ≤ t
        · have z1 : (cy == 0) = false := beq_eq_false_iff_ne.2 (by omega)
          have z2 : (cy == -1) = false := beq_eq_false_iff_ne.2 (by omega)
          have e1 : id.tmod cy = id % cy := Int.tmod_eq_emod_of_nonneg h3
          have e2 : t.tmod cy = t % cy := Int.tmod_eq_emod_of_nonneg h4
          have b1 : 0 ≤ id % cy ∧ id % cy < cy := ⟨Int.emod_nonneg _ (by omega), Int.emod_lt_of_pos _ (by omega)⟩
          have b2 : 0 ≤ t % cy ∧ t % cy < cy := ⟨Int.emod_nonneg _ (by omega), Int.emod_lt_of_pos _ (by omega)⟩
          by_cases h5 : id % cy = t % cy
          · have hv : occ cy id t = true := decide_eq_true ⟨h1, h2, h3, h4, h5⟩
            have q : (id % cy == t % cy) = true := by rw [h5]; exact beq_self_eq_true _
            rw [hv]
            clear hv
            generalize id % cy = u at *
            generalize t % cy = v at *
            clear h5
            go_enter Try.func27, Try.ntmps27
            go_wp2_with fail
            go_quiet (fail)
            go_wp2
            go_ret
            exact ⟨rfl, below_drewN (Below.refl _ _) _⟩
          · have hv : occ cy id t = false := decide_eq_false (fun h => h5 h.2.2.2.2)
            have q : (id % cy == t % cy) = false := beq_eq_false_iff_ne.2 h5
            rw [hv]
            clear hv
            generalize id % cy = u at *
            generalize t % cy = v at *
            clear h5
            go_enter Try.func27, Try.ntmps27
            go_wp2_with fail
            go_quiet (fail)
            go_wp2
            go_ret
            exact ⟨rfl, below_drewN (Below.refl _ _) _⟩
        · have hv : occ cy id t = false := decide_eq_false (fun h => by omega)
          have d4 : decide (0 ≤ t) = false := decide_eq_false h4
          rw [hv]
          clear hv
          go_enter Try.func27, Try.ntmps27
          go_wp2_with fail
          go_quiet (fail)
          go_wp2
          go_ret
          exact ⟨rfl, below_drewN (Below.refl _ _) _⟩
      · have hv : occ cy id t = false := decide_eq_false (fun h => by omega)
        have d3 : decide (0 ≤ id) = false := decide_eq_false h3
        rw [hv]
        clear hv
        go_enter Try.func27, Try.ntmps27
        go_wp2_with fail
        go_quiet (fail)
        go_wp2
        go_ret
        exact ⟨rfl, below_drewN (Below.refl _ _) _⟩
    · have hv : occ cy id t = false := decide_eq_false (fun h => by omega)
      have d2 : decide (cy ≤ 256) = false := decide_eq_false h2
      rw [hv]
      clear hv
      go_enter Try.func27, Try.ntmps27
      go_wp2_with fail
      go_quiet (fail)
      go_wp2
      go_ret
      exact ⟨rfl, below_drewN (Below.refl _ _) _⟩
  · have hv : occ cy id t = false := decide_eq_false (fun h => by omega)
    have d1 : decide (1 ≤ cy) = false := decide_eq_false h1
    rw [hv]
    clear hv
    go_enter Try.func27, Try.ntmps27
    go_wp2_with fail
    go_quiet (fail)
    go_wp2
    go_ret
    exact ⟨rfl, below_drewN (Below.refl _ _) _⟩

def tks (t : Int) : Bool := decide (0 ≤ t ∧ t ≤ 1048576)
theorem ticks22 (t : Int) (w : World) : Calls Try.prog 22 #[.int .i64 t] w fun e w' => e = .returned (.bool (tks t)) ∧ w' = w := by
  by_cases h1 : 0 ≤ t
  · by_cases h2 : t ≤ 1048576
    · have hv : tks t = true := decide_eq_true ⟨h1, h2⟩
      rw [hv]
      go_enter Try.func22, Try.ntmps22
      go_wp2
      go_ret
      exact ⟨rfl, rfl⟩
    · have hv : tks t = false := decide_eq_false (fun h => h2 h.2)
      rw [hv]
      go_enter Try.func22, Try.ntmps22
      go_wp2
      go_ret
      exact ⟨ret_bool (by simp; try omega), rfl⟩
  · have hv : tks t = false := decide_eq_false (fun h => h1 h.1)
    rw [hv]
    go_enter Try.func22, Try.ntmps22
    go_wp2
    go_ret
    exact ⟨ret_bool (by simp; try omega), rfl⟩
end Go.Proofs.Ytobmnajgbhgdlaa
