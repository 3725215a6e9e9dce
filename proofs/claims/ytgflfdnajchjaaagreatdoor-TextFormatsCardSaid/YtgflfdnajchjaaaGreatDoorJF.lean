import Derived.Test.YtgflfdnajchjaaaGreatDoorJE
import Derived.Deep.MidRow
import Derived.Test.YtgflfdnajchjaaaGreatDoorRows
import Derived.Test.YtgflfdnajchjaaaGreatDoorJB
import Derived.Lib.SliceRun
/- Layer 45: the check of random access. -/
namespace Go.Proofs.YtgflfdnajchjaaaGreatDoor.Ac
set_option linter.unusedVariables false
set_option linter.unusedSimpArgs false
open Go.RowKit Go.Sort
open Go.Proofs.YtgflfdnajchjaaaGreatDoor.Be (blw)
attribute [local go_sem] gcell
def acC (p t b : Int) : Int := if p < 1 ∨ 64 < p ∨ t < 1 ∨ 32 < t ∨ b < 0 ∨ 1000 < b then 3 else 0
def acv (p t b : Int) : Value := .agg #[.int .i64 p, .int .i64 t, .int .i64 b, .slice none 0 0]
set_option maxRecDepth 100000 in
set_option maxHeartbeats 4000000 in
theorem check77 (p t b : Int) (w : World) : Calls Tryz.prog 77 #[acv p t b] w fun z w' => z = .returned (.int .i64 (acC p t b)) ∧ Below w.heap.size w w' := by
  have HB := Lib.hid (blw w (.cells #[.int .i64 p, .int .i64 t, .int .i64 b, .slice none 0 0] 152))
  unfold acv
  by_cases h : p < 1 ∨ 64 < p ∨ t < 1 ∨ 32 < t ∨ b < 0 ∨ 1000 < b
  · have hc : acC p t b = 3 := if_pos h
    rw [hc]
    clear hc
    go_enter Tryz.func77, Tryz.ntmps77
    go_wp2
    all_goals first
      | (go_ret; exact ⟨rfl, HB.out⟩)
      | (exfalso; omega)
  · have hc : acC p t b = 0 := if_neg h
    rw [hc]
    clear hc
    have h1 : ¬ p < 1 := by omega
    have h2 : ¬ 64 < p := by omega
    have h3 : ¬ t < 1 := by omega
    have h4 : ¬ 32 < t := by omega
    have h5 : ¬ b < 0 := by omega
    have h6 : ¬ 1000 < b := by omega
    clear h
    go_enter Tryz.func77, Tryz.ntmps77
    go_wp2_with fail
    have c3 : (w.alloc (.cells #[.int .i64 p, .int .i64 t, .int .i64 b, .slice none 0 0] 152)).cell? ⟨w.heap.size, 3, none⟩ = some (.slice none 0 0) := by simp [go_sem]
    generalize (w.alloc (.cells #[.int .i64 p, .int .i64 t, .int .i64 b, .slice none 0 0] 152)) = w1 at *
    go_loopw [42] (fun s wr => s = .int .i64 0 ∧ w1 = wr) (fun _ _ => 0)
    case atStart => exact ⟨rfl, rfl⟩
    case round =>
      obtain ⟨rfl, rfl⟩ := hrel
      go_wp2
      go_ret
      exact ⟨rfl, HB.out⟩
set_option maxRecDepth 100000 in
set_option maxHeartbeats 4000000 in
theorem check64 (p t b : Int) (w : World) : Calls Tryz.prog 64 #[acv p t b] w fun z w' => z = .returned (.int .i64 (acC p t b)) ∧ Below w.heap.size w w' := by
  have HB := Lib.hid (blw w (.cells #[.int .i64 p, .int .i64 t, .int .i64 b, .slice none 0 0] 152))
  unfold acv
  by_cases h : p < 1 ∨ 64 < p ∨ t < 1 ∨ 32 < t ∨ b < 0 ∨ 1000 < b
  · have hc : acC p t b = 3 := if_pos h
    rw [hc]
    clear hc
    go_enter Tryz.func64, Tryz.ntmps64
    go_wp2
    all_goals first
      | (go_ret; exact ⟨rfl, HB.out⟩)
      | (exfalso; omega)
  · have hc : acC p t b = 0 := if_neg h
    rw [hc]
    clear hc
    have h1 : ¬ p < 1 := by omega
    have h2 : ¬ 64 < p := by omega
    have h3 : ¬ t < 1 := by omega
    have h4 : ¬ 32 < t := by omega
    have h5 : ¬ b < 0 := by omega
    have h6 : ¬ 1000 < b := by omega
    clear h
    go_enter Tryz.func64, Tryz.ntmps64
    go_wp2_with fail
    have c3 : (w.alloc (.cells #[.int .i64 p, .int .i64 t, .int .i64 b, .slice none 0 0] 152)).cell? ⟨w.heap.size, 3, none⟩ = some (.slice none 0 0) := by simp [go_sem]
    generalize (w.alloc (.cells #[.int .i64 p, .int .i64 t, .int .i64 b, .slice none 0 0] 152)) = w1 at *
    go_loopw [3] (fun s wr => s = .int .i64 0 ∧ w1 = wr) (fun _ _ => 0)
    case atStart => exact ⟨rfl, rfl⟩
    case round =>
      obtain ⟨rfl, rfl⟩ := hrel
      go_wp2
      go_ret
      exact ⟨rfl, HB.out⟩
end Go.Proofs.YtgflfdnajchjaaaGreatDoor.Ac
/- Layer 45: a sight of one cell that was not heard yet. -/
namespace Go.Proofs.YtgflfdnajchjaaaGreatDoor.Ne
set_option linter.unusedVariables false
set_option linter.unusedSimpArgs false
open Go.RowKit Go.Sort
open Go.Proofs.YtgflfdnajchjaaaGreatDoor.Be (blw)
attribute [local go_sem] gcell
def New1 (w : World) (e : Ending) (w' : World) : Prop := ∃ p q, e = .returned (.tuple #[.agg #[.slice (some ⟨p, 0, none⟩) 1 1, .slice (some ⟨q, 0, none⟩) 1 1], .int .i64 0]) ∧ Row w' (some ⟨p, 0, none⟩) 1 (fun _ => 0) ∧ Row w' (some ⟨q, 0, none⟩) 1 (fun _ => 0) ∧ Below w.heap.size w w'
theorem mk1 (w : World) : (Instr.makeSlice 24 (.int .i64 1) (.int .i64 1)).run Tryz.prog w = .ok (.slice (some ⟨w.heap.size, 0, none⟩) 1 1) (w.alloc (.cells #[.int .i64 0] 3)) := by kernel_rfl
theorem new_end (w : World) (p q : Nat) (o : Obj) (hp : p = w.heap.size + 1 ∨ p = w.heap.size + 1 + 1) (hq : q = w.heap.size + 1 ∨ q = w.heap.size + 1 + 1) :
    New1 w (.returned (.tuple #[.agg #[.slice (some ⟨p, 0, none⟩) 1 1, .slice (some ⟨q, 0, none⟩) 1 1], .int .i64 0])) (((w.alloc o).alloc (.cells #[.int .i64 0] 3)).alloc (.cells #[.int .i64 0] 3)).drew := by
  refine ⟨p, q, rfl, ⟨p, 0, fun _ => rfl, fun k hk => ?_⟩, ⟨q, 0, fun _ => rfl, fun k hk => ?_⟩, (((Below.refl _ _).alloc (Nat.le_refl _) _).alloc (by simp) _).alloc (by simp; omega) _ |>.drew⟩
  · obtain rfl : k = 0 := by omega
    rcases hp with rfl | rfl <;> simp [go_sem]
  · obtain rfl : k = 0 := by omega
    rcases hq with rfl | rfl <;> simp [go_sem]
set_option maxHeartbeats 2000000 in
theorem new76 (w : World) : Calls Tryz.prog 76 #[.int .i64 1] w (New1 w) := by
  have m1 := mk1
  go_enter Tryz.func76, Tryz.ntmps76
  go_wp2_with fail
  go_region
  · go_wp2
    refine bodyPost_ret (v := .tuple #[.agg #[.slice (some ⟨w.heap.size + 1, 0, none⟩) 1 1, .slice (some ⟨w.heap.size + 1 + 1, 0, none⟩) 1 1], .int .i64 0]) (by simp [results, Tryz.results76, go_sem, cell_set]) rfl ?_
    exact new_end w (w.heap.size + 1) (w.heap.size + 1 + 1) _ (by simp) (by simp)
  · go_wp2
    refine bodyPost_ret (v := .tuple #[.agg #[.slice (some ⟨w.heap.size + 1 + 1, 0, none⟩) 1 1, .slice (some ⟨w.heap.size + 1, 0, none⟩) 1 1], .int .i64 0]) (by simp [results, Tryz.results76, go_sem, cell_set]) rfl ?_
    exact new_end w (w.heap.size + 1 + 1) (w.heap.size + 1) _ (by simp) (by simp)
set_option maxHeartbeats 2000000 in
theorem new63 (w : World) : Calls Tryz.prog 63 #[.int .i64 1] w (New1 w) := by
  have m1 := mk1
  go_enter Tryz.func63, Tryz.ntmps63
  go_wp2_with fail
  go_region
  · go_wp2
    refine bodyPost_ret (v := .tuple #[.agg #[.slice (some ⟨w.heap.size + 1, 0, none⟩) 1 1, .slice (some ⟨w.heap.size + 1 + 1, 0, none⟩) 1 1], .int .i64 0]) (by simp [results, Tryz.results63, go_sem, cell_set]) rfl ?_
    exact new_end w (w.heap.size + 1) (w.heap.size + 1 + 1) _ (by simp) (by simp)
  · go_wp2
    refine bodyPost_ret (v := .tuple #[.agg #[.slice (some ⟨w.heap.size + 1 + 1, 0, none⟩) 1 1, .slice (some ⟨w.heap.size + 1, 0, none⟩) 1 1], .int .i64 0]) (by simp [results, Tryz.results63, go_sem, cell_set]) rfl ?_
    exact new_end w (w.heap.size + 1 + 1) (w.heap.size + 1) _ (by simp) (by simp)
end Go.Proofs.YtgflfdnajchjaaaGreatDoor.Ne
/- Layer 45: the check of guarantees (turned from layer 33). -/
namespace Go.Proofs.YtgflfdnajchjaaaGreatDoor.Gu
set_option linter.unusedVariables false
set_option linter.unusedSimpArgs false
open Go.RowKit Go.Sort
attribute [local go_sem] gcell
/-- A guarantee is valid. -/
def vg (F W B : Int) : Bool := decide (0 ≤ F ∧ F ≤ 1048576 ∧ 1 ≤ W ∧ W ≤ 64 ∧ 0 ≤ B ∧ B ≤ 12 * W)
theorem vg_true {F W B : Int} (h : vg F W B = true) : 0 ≤ F ∧ F ≤ 1048576 ∧ 1 ≤ W ∧ W ≤ 64 ∧ 0 ≤ B ∧ B ≤ 12 * W := of_decide_eq_true h
def gvv (F W B : Int) : Value := .agg #[.int .i64 F, .int .i64 W, .int .i64 B]
theorem right30 (F W B : Int) (w : World) : Calls Tryz.prog 137 #[gvv F W B] w fun e w' => e = .returned (.bool (vg F W B)) ∧ Below w.heap.size w w' := by
  unfold gvv
  by_cases h : 0 ≤ F ∧ F ≤ 1048576 ∧ 1 ≤ W ∧ W ≤ 64 ∧ 0 ≤ B ∧ B ≤ 12 * W
  · have hv : vg F W B = true := decide_eq_true h
    rw [hv]
    go_enter Tryz.func137, Tryz.ntmps137
    go_wp2
    go_ret
    exact ⟨rfl, (Below.refl _ _).alloc (Nat.le_refl _) _⟩
  · have hv : vg F W B = false := decide_eq_false h
    rw [hv]
    go_enter Tryz.func137, Tryz.ntmps137
    go_wp2
    all_goals first
      | (go_ret; exact ⟨rfl, (Below.refl _ _).alloc (Nat.le_refl _) _⟩)
      | (go_ret; exact ⟨ret_bool (by simp; omega), (Below.refl _ _).alloc (Nat.le_refl _) _⟩)
      | (exfalso; omega)
theorem valid32 (F W B : Int) (w : World) : Calls Tryz.prog 125 #[gvv F W B] w fun e w' => e = .returned (.bool (vg F W B)) ∧ Below w.heap.size w w' := by
  unfold gvv
  by_cases h : 0 ≤ F ∧ F ≤ 1048576 ∧ 1 ≤ W ∧ W ≤ 64 ∧ 0 ≤ B ∧ B ≤ 12 * W
  · have hv : vg F W B = true := decide_eq_true h
    rw [hv]
    go_enter Tryz.func125, Tryz.ntmps125
    go_wp2
    go_ret
    exact ⟨rfl, (Below.refl _ _).alloc (Nat.le_refl _) _⟩
  · have hv : vg F W B = false := decide_eq_false h
    rw [hv]
    go_enter Tryz.func125, Tryz.ntmps125
    go_wp2
    all_goals first
      | (go_ret; exact ⟨rfl, (Below.refl _ _).alloc (Nat.le_refl _) _⟩)
      | (go_ret; exact ⟨ret_bool (by simp; omega), (Below.refl _ _).alloc (Nat.le_refl _) _⟩)
      | (exfalso; omega)

/-- A slice of guarantees as it lies in memory. -/
def R3 (w : World) (a : Option Addr) (n : Nat) (F W B : Nat → Int) : Prop := ∃ b m, (0 < n → a = some ⟨b, m, none⟩) ∧ ∀ k, k < n → w.cell? ⟨b, m + k * 3, none⟩ = some (.int .i64 (F k)) ∧ w.cell? ⟨b, m + k * 3 + 1, none⟩ = some (.int .i64 (W k)) ∧ w.cell? ⟨b, m + k * 3 + 2, none⟩ = some (.int .i64 (B k))
theorem R3.mono {u w : World} {a : Option Addr} {n : Nat} {F W B : Nat → Int} (R : R3 u a n F W B) (hb : Below u.heap.size u w) : R3 w a n F W B := by
  obtain ⟨b, m, h1, h2⟩ := R
  exact ⟨b, m, h1, fun k hk => ⟨up hb (h2 k hk).1, up hb (h2 k hk).2.1, up hb (h2 k hk).2.2⟩⟩
/-- The error of guarantees. -/
def ck (n : Nat) (F W B : Nat → Int) : Int := if 4 < n then 2 else if anyB (fun k => !vg (F k) (W k) (B k)) n then 3 else 0
theorem ck_ok {n : Nat} {F W B : Nat → Int} (h : ck n F W B = 0) : n ≤ 4 ∧ ∀ k, k < n → vg (F k) (W k) (B k) = true := by
  unfold ck at h
  by_cases h1 : 4 < n
  · rw [if_pos h1] at h; cases h
  · rw [if_neg h1] at h
    cases h2 : anyB (fun k => !vg (F k) (W k) (B k)) n
    · refine ⟨by omega, fun k hk => ?_⟩
      have := anyB_false.1 h2 k hk
      simpa using this
    · rw [h2, if_pos rfl] at h; cases h
set_option maxHeartbeats 1000000 in
theorem check24 (a : Option Addr) (n c : Nat) (F W B : Nat → Int) (w : World) (R : R3 w a n F W B) (hn : n ≤ maxLen) :
    Calls Tryz.prog 113 #[.slice a n c] w fun e w' => e = .returned (.int .i64 (ck n F W B)) ∧ Below w.heap.size w w' := by
  have HR := Lib.hid R
  clear R
  unfold maxLen at hn
  by_cases h4 : 4 < n
  · have hc : ck n F W B = 2 := if_pos h4
    rw [hc]
    go_enter Tryz.func113, Tryz.ntmps113
    go_wp2
    go_ret
    exact ⟨rfl, Below.refl _ _⟩
  · go_enter Tryz.func113, Tryz.ntmps113
    go_wp2
    go_loopw [10] (fun i wr => ∃ k : Nat, k ≤ n ∧ i = .int .i64 k ∧ Below w.heap.size w wr ∧ anyB (fun k => !vg (F k) (W k) (B k)) k = false) (fun i _ => n - (intOf i).toNat)
    case atStart => exact ⟨0, Nat.zero_le _, rfl, Below.refl _ _, rfl⟩
    case round =>
      obtain ⟨k, hk, rfl, hB, hf⟩ := hrel
      have HB := Lib.hid hB
      have HF := Lib.hid hf
      clear hB hf
      by_cases hlt : k < n
      · obtain ⟨b, m, h1, h2⟩ := HR.out.mono HB.out
        obtain rfl := h1 (by omega)
        obtain ⟨c0, c1, c2⟩ := h2 k hlt
        have i1 : (0 : Int) ≤ (k : Int) := by omega
        have i2 : (k : Int) < (n : Int) := by omega
        have K := Lib.hid (right30 (F k) (W k) (B k))
        unfold gvv at K
        clear h1 h2
        go_wp2_with (go_at_call 137; refine (K.out _).mono ?_)
        rintro e w1 ⟨rfl, hb⟩
        have HB1 := Lib.hid (bthen (HB.out.alloc HB.out.size (.cells #[.int .i64 (F k), .int .i64 (W k), .int .i64 (B k)] 53)) hb (by simp; have := HB.out.size; omega))
        clear hb c0 c1 c2
        cases hv : vg (F k) (W k) (B k)
        · have hc : ck n F W B = 3 := by unfold ck; rw [if_neg h4, anyB_true hlt (by simp [hv])]; rfl
          have HC := Lib.hid hc
          clear hc
          go_wp2
          go_ret
          exact ⟨ret_int HC.out.symm, HB1.out⟩
        · have HV := Lib.hid hv
          clear hv
          go_wp2
          go_roundw
          case rel => exact ⟨k + 1, by omega, by go_num, HB1.out, by unfold anyB; rw [HF.out, HV.out]; rfl⟩
          case measure => simp [intOf]; omega
      · have : k = n := by omega
        subst this
        have hc : ck k F W B = 0 := by unfold ck; rw [if_neg h4, HF.out]; rfl
        have HC := Lib.hid hc
        clear hc
        go_wp2
        go_ret
        exact ⟨ret_int HC.out.symm, HB.out⟩
set_option maxHeartbeats 1000000 in
theorem check25 (a : Option Addr) (n c : Nat) (F W B : Nat → Int) (w : World) (R : R3 w a n F W B) (hn : n ≤ maxLen) :
    Calls Tryz.prog 100 #[.slice a n c] w fun e w' => e = .returned (.int .i64 (ck n F W B)) ∧ Below w.heap.size w w' := by
  have HR := Lib.hid R
  clear R
  unfold maxLen at hn
  by_cases h4 : 4 < n
  · have hc : ck n F W B = 2 := if_pos h4
    rw [hc]
    go_enter Tryz.func100, Tryz.ntmps100
    go_wp2
    go_ret
    exact ⟨rfl, Below.refl _ _⟩
  · go_enter Tryz.func100, Tryz.ntmps100
    go_wp2
    go_loopw [3] (fun i wr => ∃ k : Nat, k ≤ n ∧ i = .int .i64 k ∧ Below w.heap.size w wr ∧ anyB (fun k => !vg (F k) (W k) (B k)) k = false) (fun i _ => n - (intOf i).toNat)
    case atStart => exact ⟨0, Nat.zero_le _, rfl, Below.refl _ _, rfl⟩
    case round =>
      obtain ⟨k, hk, rfl, hB, hf⟩ := hrel
      have HB := Lib.hid hB
      have HF := Lib.hid hf
      clear hB hf
      by_cases hlt : k < n
      · obtain ⟨b, m, h1, h2⟩ := HR.out.mono HB.out
        obtain rfl := h1 (by omega)
        obtain ⟨c0, c1, c2⟩ := h2 k hlt
        have i1 : (0 : Int) ≤ (k : Int) := by omega
        have i2 : (k : Int) < (n : Int) := by omega
        have K := Lib.hid (valid32 (F k) (W k) (B k))
        unfold gvv at K
        clear h1 h2
        go_wp2_with (go_at_call 125; refine (K.out _).mono ?_)
        rintro e w1 ⟨rfl, hb⟩
        have HB1 := Lib.hid (bthen HB.out hb HB.out.size)
        clear hb c0 c1 c2
        cases hv : vg (F k) (W k) (B k)
        · have hc : ck n F W B = 3 := by unfold ck; rw [if_neg h4, anyB_true hlt (by simp [hv])]; rfl
          have HC := Lib.hid hc
          clear hc
          go_wp2
          go_ret
          exact ⟨ret_int HC.out.symm, HB1.out⟩
        · have HV := Lib.hid hv
          clear hv
          go_wp2
          go_roundw
          case rel => exact ⟨k + 1, by omega, by go_num, HB1.out, by unfold anyB; rw [HF.out, HV.out]; rfl⟩
          case measure => simp [intOf]; omega
      · have : k = n := by omega
        subst this
        have hc : ck k F W B = 0 := by unfold ck; rw [if_neg h4, HF.out]; rfl
        have HC := Lib.hid hc
        clear hc
        go_wp2
        go_ret
        exact ⟨ret_int HC.out.symm, HB.out⟩
end Go.Proofs.YtgflfdnajchjaaaGreatDoor.Gu
/- Layer 45: the check of buckets (turned from layer 25). -/
namespace Go.Proofs.YtgflfdnajchjaaaGreatDoor.Pr
set_option linter.unusedVariables false
set_option linter.unusedSimpArgs false
open Go.RowKit Go.Sort
attribute [local go_sem] gcell
/-- A number is from low to high. -/
def btw (n lo hi : Int) : Bool := decide (lo ≤ n ∧ n ≤ hi)
theorem btw_true {n lo hi : Int} : btw n lo hi = true ↔ lo ≤ n ∧ n ≤ hi := decide_eq_true_iff
theorem btw_false {n lo hi : Int} : btw n lo hi = false ↔ ¬ (lo ≤ n ∧ n ≤ hi) := decide_eq_false_iff_not
theorem between22 (n lo hi : Int) (w : World) : Calls Tryz.prog 136 #[.int .i64 n, .int .i64 lo, .int .i64 hi] w fun e w' => e = .returned (.bool (btw n lo hi)) ∧ w' = w := by
  by_cases h0 : lo ≤ n
  · by_cases h1 : n ≤ hi
    · have hv : btw n lo hi = true := btw_true.2 ⟨h0, h1⟩
      rw [hv]
      go_enter Tryz.func136, Tryz.ntmps136
      go_wp2
      go_ret
      exact ⟨rfl, rfl⟩
    · have hv : btw n lo hi = false := btw_false.2 (by omega)
      rw [hv]
      go_enter Tryz.func136, Tryz.ntmps136
      go_wp2
      go_ret
      exact ⟨ret_bool (by simp; try omega), rfl⟩
  · have hv : btw n lo hi = false := btw_false.2 (by omega)
    rw [hv]
    go_enter Tryz.func136, Tryz.ntmps136
    go_wp2
    go_ret
    exact ⟨ret_bool (by simp; try omega), rfl⟩

/-- A bucket is valid. -/
def vb (P R M T : Int) : Bool := btw P 0 15 && btw R 0 1048576 && btw M 0 1048576 && btw T (-1048576) M
theorem vb_true {P R M T : Int} (h : vb P R M T = true) : (0 ≤ P ∧ P ≤ 15) ∧ (0 ≤ R ∧ R ≤ 1048576) ∧ (0 ≤ M ∧ M ≤ 1048576) ∧ (-1048576 ≤ T ∧ T ≤ M) := by
  unfold vb at h
  simp only [Bool.and_eq_true, btw_true] at h
  omega
def bv (P R M T : Int) : Value := .agg #[.int .i64 P, .int .i64 R, .int .i64 M, .int .i64 T]
set_option maxHeartbeats 1000000 in
theorem valid33 (P R M T : Int) (w : World) : Calls Tryz.prog 135 #[bv P R M T] w fun e w' => e = .returned (.bool (!vb P R M T)) ∧ Below w.heap.size w w' := by
  have HB := Lib.hid ((Below.refl w.heap.size w).alloc (Nat.le_refl _) (.cells #[.int .i64 P, .int .i64 R, .int .i64 M, .int .i64 T] 74))
  have q : (!vb P R M T) = (!btw P 0 15 || !btw R 0 1048576 || !btw M 0 1048576 || !btw T (-1048576) M) := by
    unfold vb
    cases btw P 0 15 <;> cases btw R 0 1048576 <;> cases btw M 0 1048576 <;> cases btw T (-1048576) M <;> rfl
  rw [q]
  clear q
  have K := between22
  have HK := Lib.hid K
  clear K
  unfold bv
  cases h0 : btw P 0 15
  · go_enter Tryz.func135, Tryz.ntmps135
    go_wp2_with (go_at_call 136; refine (HK.out _ _ _ _).mono ?_; rw [h0]; rintro e wz ⟨rfl, rfl⟩)
    go_ret
    exact ⟨rfl, HB.out⟩
  · cases h1 : btw R 0 1048576
    · go_enter Tryz.func135, Tryz.ntmps135
      go_wp2_with (go_at_call 136; refine (HK.out _ _ _ _).mono ?_; (first | rw [h0] | rw [h1]); rintro e wz ⟨rfl, rfl⟩)
      go_ret
      exact ⟨rfl, HB.out⟩
    · cases h2 : btw M 0 1048576
      · go_enter Tryz.func135, Tryz.ntmps135
        go_wp2_with (go_at_call 136; refine (HK.out _ _ _ _).mono ?_; (first | rw [h0] | rw [h1] | rw [h2]); rintro e wz ⟨rfl, rfl⟩)
        go_ret
        exact ⟨rfl, HB.out⟩
      · cases h3 : btw T (-1048576) M
        all_goals
          go_enter Tryz.func135, Tryz.ntmps135
          go_wp2_with (go_at_call 136; refine (HK.out _ _ _ _).mono ?_; (first | rw [h0] | rw [h1] | rw [h2] | rw [h3]); rintro e wz ⟨rfl, rfl⟩)
          go_ret
          exact ⟨rfl, HB.out⟩

/-- Buckets as they lie in memory. -/
def R4 (w : World) (a : Option Addr) (n : Nat) (P R M T : Nat → Int) : Prop := ∃ b m, (0 < n → a = some ⟨b, m, none⟩) ∧ ∀ k, k < n → w.cell? ⟨b, m + k * 4, none⟩ = some (.int .i64 (P k)) ∧ w.cell? ⟨b, m + k * 4 + 1, none⟩ = some (.int .i64 (R k)) ∧ w.cell? ⟨b, m + k * 4 + 2, none⟩ = some (.int .i64 (M k)) ∧ w.cell? ⟨b, m + k * 4 + 3, none⟩ = some (.int .i64 (T k))
theorem R4.mono {u w : World} {a : Option Addr} {n : Nat} {P R M T : Nat → Int} (H : R4 u a n P R M T) (hb : Below u.heap.size u w) : R4 w a n P R M T := by
  obtain ⟨b, m, h1, h2⟩ := H
  exact ⟨b, m, h1, fun k hk => ⟨up hb (h2 k hk).1, up hb (h2 k hk).2.1, up hb (h2 k hk).2.2.1, up hb (h2 k hk).2.2.2⟩⟩

section
variable (a : Option Addr) (n c : Nat) (P R M T : Nat → Int)
def badB (k : Nat) : Bool := !vb (P k) (R k) (M k) (T k)
/-- The first bucket that is bad, or -1. -/
theorem index36 (w : World) (H : R4 w a n P R M T) (hn : n ≤ maxLen) :
    Calls Tryz.prog 156 #[.slice a n c, .func (.func 135) #[] #[]] w fun e w' => ∃ i : Int, e = .returned (.int .i64 i) ∧ decide (0 ≤ i) = anyB (badB P R M T) n ∧ Below w.heap.size w w' := by
  have HH := Lib.hid H
  clear H
  unfold maxLen at hn
  go_enter Tryz.func156, Tryz.ntmps156
  go_wp2
  go_loopw [8] (fun i wr => ∃ k : Nat, k ≤ n ∧ i = .int .i64 k ∧ Below w.heap.size w wr ∧ anyB (badB P R M T) k = false) (fun i _ => n - (intOf i).toNat)
  case atStart => exact ⟨0, Nat.zero_le _, rfl, Below.refl _ _, rfl⟩
  case round =>
    obtain ⟨k, hk, rfl, hB, hf⟩ := hrel
    have HF := Lib.hid hf
    have HB := Lib.hid hB
    clear hf hB
    by_cases hlt : k < n
    · obtain ⟨b, m, h1, h2⟩ := HH.out.mono HB.out
      obtain rfl := h1 (by omega)
      obtain ⟨c0, c1, c2, c3⟩ := h2 k hlt
      have i1 : (0 : Int) ≤ (k : Int) := by omega
      have i2 : (k : Int) < (n : Int) := by omega
      have K := Lib.hid (valid33 (P k) (R k) (M k) (T k))
      unfold bv at K
      clear h1 h2
      cases hv : vb (P k) (R k) (M k) (T k)
      · rw [hv] at K
        have HQ := Lib.hid (anyB_true (p := badB P R M T) hlt (by unfold badB; rw [hv]; rfl))
        clear hv
        go_wp2_with (go_at_call 135; refine (K.out _).mono ?_; rintro e wz ⟨rfl, hb⟩)
        have HB1 := Lib.hid (bthen HB.out hb HB.out.size)
        clear hb
        go_wp2
        go_ret
        exact ⟨k, rfl, by rw [HQ.out]; simp, HB1.out⟩
      · rw [hv] at K
        have HQ := Lib.hid (show anyB (badB P R M T) (k + 1) = false by unfold anyB; rw [HF.out]; unfold badB; rw [hv]; rfl)
        clear hv
        go_wp2_with (go_at_call 135; refine (K.out _).mono ?_; rintro e wz ⟨rfl, hb⟩)
        have HB1 := Lib.hid (bthen HB.out hb HB.out.size)
        clear hb
        go_wp2
        go_roundw
        case rel => exact ⟨k + 1, by omega, by go_num, HB1.out, HQ.out⟩
        case measure => simp [intOf]; omega
    · obtain rfl : k = n := by omega
      go_wp2
      go_ret
      exact ⟨-1, rfl, by rw [HF.out]; rfl, HB.out⟩
theorem contains32 (w : World) (H : R4 w a n P R M T) (hn : n ≤ maxLen) :
    Calls Tryz.prog 134 #[.slice a n c, .func (.func 135) #[] #[]] w fun e w' => e = .returned (.bool (anyB (badB P R M T) n)) ∧ Below w.heap.size w w' := by
  go_enter Tryz.func134, Tryz.ntmps134
  go_wp2_with (go_at_call 156; refine (index36 a n c P R M T _ H hn).mono ?_)
  rintro e w1 ⟨i, rfl, hi, hb⟩
  have HI := Lib.hid hi
  have HB := Lib.hid hb
  clear hi hb
  go_wp2
  go_ret
  exact ⟨ret_bool (by rw [← HI.out]), HB.out⟩
/-- Buckets are valid. -/
def okB : Bool := decide (n ≤ 8) && !anyB (badB P R M T) n
variable {n P R M T} in
theorem okB_true (h : okB n P R M T = true) : n ≤ 8 ∧ ∀ k, k < n → vb (P k) (R k) (M k) (T k) = true := by
  unfold okB at h
  rw [Bool.and_eq_true] at h
  refine ⟨of_decide_eq_true h.1, fun k hk => ?_⟩
  have h2 : anyB (badB P R M T) n = false := by simpa using h.2
  have := anyB_false.1 h2 k hk
  unfold badB at this
  simpa using this
variable {n P R M T} in
theorem okB_mk (h : n ≤ 8) (h2 : ∀ k, k < n → vb (P k) (R k) (M k) (T k) = true) : okB n P R M T = true := by
  unfold okB
  rw [anyB_false.2 fun k hk => by unfold badB; rw [h2 k hk]; rfl]
  simp [h]
theorem valid21 (w : World) (H : R4 w a n P R M T) (hn : n ≤ maxLen) :
    Calls Tryz.prog 112 #[.slice a n c] w fun e w' => e = .returned (.bool (okB n P R M T)) ∧ Below w.heap.size w w' := by
  unfold okB
  have hn2 := hn
  unfold maxLen at hn2
  have K := Lib.hid (contains32 a n c P R M T w H hn)
  clear H
  by_cases h8 : n ≤ 8
  · rw [decide_eq_true h8]
    go_enter Tryz.func112, Tryz.ntmps112
    go_wp2_with (go_at_call 134; refine K.out.mono ?_; rintro e w1 ⟨rfl, hb⟩)
    go_ret
    exact ⟨rfl, hb⟩
  · rw [decide_eq_false h8]
    go_enter Tryz.func112, Tryz.ntmps112
    go_wp2
    go_ret
    exact ⟨ret_bool (by simp; try omega), Below.refl _ _⟩
set_option maxHeartbeats 2000000 in
theorem valid30 (w : World) (H : R4 w a n P R M T) (hn : n ≤ maxLen) :
    Calls Tryz.prog 99 #[.slice a n c] w fun e w' => e = .returned (.bool (okB n P R M T)) ∧ Below w.heap.size w w' := by
  have HH := Lib.hid H
  clear H
  unfold maxLen at hn
  go_enter Tryz.func99, Tryz.ntmps99
  go_wp2
  go_loopw [3] (fun i wr => ∃ k : Nat, k ≤ n ∧ i = .int .i64 k ∧ Below w.heap.size w wr ∧ anyB (badB P R M T) k = false) (fun i _ => n - (intOf i).toNat)
  case atStart => exact ⟨0, Nat.zero_le _, rfl, Below.refl _ _, rfl⟩
  case round =>
    obtain ⟨k, hk, rfl, hB, hf⟩ := hrel
    have HF := Lib.hid hf
    have HB := Lib.hid hB
    clear hf hB
    by_cases hlt : k < n
    · obtain ⟨b, m, h1, h2⟩ := HH.out.mono HB.out
      obtain rfl := h1 (by omega)
      obtain ⟨c0, c1, c2, c3⟩ := h2 k hlt
      have i1 : (0 : Int) ≤ (k : Int) := by omega
      have i2 : (k : Int) < (n : Int) := by omega
      have HB1 := Lib.hid (HB.out.alloc HB.out.size (.cells #[.int .i64 (P k), .int .i64 (R k), .int .i64 (M k), .int .i64 (T k)] 74))
      have HQ : Hid (vb (P k) (R k) (M k) (T k) = false → anyB (badB P R M T) n = true) := Lib.hid fun hv => anyB_true (p := badB P R M T) hlt (by unfold badB; rw [hv]; rfl)
      have HN : Hid (vb (P k) (R k) (M k) (T k) = true → anyB (badB P R M T) (k + 1) = false) := Lib.hid fun hv => by unfold anyB; rw [HF.out]; unfold badB; rw [hv]; rfl
      clear h1 h2
      generalize P k = p at *
      generalize R k = r at *
      generalize M k = mm at *
      generalize T k = tt at *
      have hno : (vb p r mm tt = false) → Hid (okB n P R M T = false) := fun h => Lib.hid (by unfold okB; rw [HQ.out h]; simp)
      have HNO := Lib.hid hno
      clear hno
      go_wp2
      all_goals first
        | (go_ret; exact ⟨ret_bool (HNO.out (by unfold vb btw; simp; omega)).out.symm, HB1.out⟩)
        | (go_roundw
           case rel => exact ⟨k + 1, by omega, by go_num, HB1.out, HN.out (by unfold vb btw; simp; omega)⟩
           case measure => simp [intOf]; omega)
    · obtain rfl : k = n := by omega
      go_wp2
      go_ret
      exact ⟨ret_bool (by unfold okB; rw [HF.out]; simp; omega), HB.out⟩
end
end Go.Proofs.YtgflfdnajchjaaaGreatDoor.Pr
/- Layer 45: the check of a patience (turned from layer 42). -/
namespace Go.Proofs.YtgflfdnajchjaaaGreatDoor.Ho
set_option linter.unusedVariables false
set_option linter.unusedSimpArgs false
open Go.RowKit Go.Sort
attribute [local go_sem] gcell
def good (n : Int) : Bool := decide (1 ≤ n) && decide (n ≤ 1000)
theorem good_yes {n : Int} (h : 1 ≤ n ∧ n ≤ 1000) : good n = true := by unfold good; simp; omega
theorem good_no {n : Int} (h : n < 1 ∨ 1000 < n) : good n = false := by unfold good; rw [Bool.eq_false_iff]; simp; omega
theorem good_iff {n : Int} : good n = true ↔ 1 ≤ n ∧ n ≤ 1000 := by unfold good; simp
def goodP (a o r : Int) : Bool := good a && good o && good r
def chkP (a o r : Int) : Int := if goodP a o r then 0 else 3
def pv (a o r : Int) : Value := .agg #[.int .i64 a, .int .i64 o, .int .i64 r]
theorem good24 (n : Int) (w : World) : Calls Tryz.prog 97 #[.int .i64 n] w fun e w' => e = .returned (.bool (good n)) ∧ w' = w := by
  by_cases h : 1 ≤ n
  · go_enter Tryz.func97, Tryz.ntmps97
    go_wp2
    go_ret
    exact ⟨ret_bool (by unfold good; simp [h]), rfl⟩
  · go_enter Tryz.func97, Tryz.ntmps97
    go_wp2
    go_ret
    exact ⟨ret_bool (by rw [good_no (.inl (by omega))]), rfl⟩
theorem below_alloc (w : World) (o : Obj) : Below w.heap.size w (w.alloc o) := (Below.refl _ _).alloc (Nat.le_refl _) _

set_option maxHeartbeats 1000000 in
theorem check13 (a o r : Int) (w : World) : Calls Tryz.prog 66 #[pv a o r] w fun e w' => e = .returned (.int .i64 (chkP a o r)) ∧ Below w.heap.size w w' := by
  have HB := Lib.hid (below_alloc w (.cells #[.int .i64 a, .int .i64 o, .int .i64 r] 29))
  unfold pv
  cases h1 : good a
  · have e : chkP a o r = 3 := by unfold chkP goodP; rw [h1]; rfl
    rw [e]
    clear e
    go_enter Tryz.func66, Tryz.ntmps66
    go_wp2_with (go_at_call 97; refine (good24 _ _).mono ?_; rw [h1]; rintro e wz ⟨rfl, rfl⟩)
    go_ret
    exact ⟨rfl, HB.out⟩
  · cases h2 : good o
    · have e : chkP a o r = 3 := by unfold chkP goodP; rw [h1, h2]; rfl
      rw [e]
      clear e
      go_enter Tryz.func66, Tryz.ntmps66
      go_wp2_with (go_at_call 97; refine (good24 _ _).mono ?_; (first | rw [h1] | rw [h2]); rintro e wz ⟨rfl, rfl⟩)
      go_ret
      exact ⟨rfl, HB.out⟩
    · have e : chkP a o r = if good r then 0 else 3 := by unfold chkP goodP; rw [h1, h2]; rfl
      rw [e]
      clear e
      cases h3 : good r
      all_goals
        go_enter Tryz.func66, Tryz.ntmps66
        go_wp2_with (go_at_call 97; refine (good24 _ _).mono ?_; (first | rw [h1] | rw [h2] | rw [h3]); rintro e wz ⟨rfl, rfl⟩)
        go_ret
        exact ⟨rfl, HB.out⟩

def three (a b c : Int) : Nat → Int
  | 0 => a | 1 => b | _ => c
def allG (xs : Nat → Int) : Nat → Bool
  | 0 => true
  | k + 1 => allG xs k && good (xs k)
theorem allG_three (a o r : Int) : allG (three a o r) 3 = goodP a o r := by
  unfold goodP
  show (((true && good a) && good o) && good r) = _
  rw [Bool.true_and]
theorem allG_false {xs : Nat → Int} {n k : Nat} (hk : k < n) (h : good (xs k) = false) : allG xs n = false := by
  induction n with
  | zero => omega
  | succ n ih =>
    unfold allG
    by_cases h2 : k < n
    · rw [ih h2]; rfl
    · obtain rfl : k = n := by omega
      rw [h]; simp

set_option maxHeartbeats 2000000 in
theorem check12 (a o r : Int) (w : World) : Calls Tryz.prog 79 #[pv a o r] w fun e w' => e = .returned (.int .i64 (chkP a o r)) ∧ Below w.heap.size w w' := by
  have HB := Lib.hid ((below_alloc w (.cells #[.int .i64 a, .int .i64 o, .int .i64 r] 29)).alloc (by simp) (.cells #[.int .i64 a, .int .i64 o, .int .i64 r] 3))
  have HX := Lib.hid (show ∀ k, k < 3 → ((w.alloc (.cells #[.int .i64 a, .int .i64 o, .int .i64 r] 29)).alloc (.cells #[.int .i64 a, .int .i64 o, .int .i64 r] 3)).cell? ⟨w.heap.size + 1, k, none⟩ = some (.int .i64 (three a o r k)) from fun k hk => by
    match k, hk with
    | 0, _ => simp [go_sem, three]
    | 1, _ => simp [go_sem, three]
    | 2, _ => simp [go_sem, three])
  have HC := Lib.hid (show chkP a o r = if allG (three a o r) 3 then 0 else 3 by rw [allG_three]; rfl)
  unfold pv
  go_enter Tryz.func79, Tryz.ntmps79
  go_wp2_with fail
  generalize hW : ((w.alloc (.cells #[.int .i64 a, .int .i64 o, .int .i64 r] 29)).alloc (.cells #[.int .i64 a, .int .i64 o, .int .i64 r] 3)) = W0 at *
  clear hW
  go_loopw [13] (fun i wr => ∃ k : Nat, k ≤ 3 ∧ i = .int .i64 k ∧ allG (three a o r) k = true ∧ W0 = wr) (fun i _ => 3 - (intOf i).toNat)
  case atStart => exact ⟨0, Nat.zero_le _, rfl, rfl, rfl⟩
  case round =>
    obtain ⟨k, hk, rfl, hg, rfl⟩ := hrel
    have HG := Lib.hid hg
    clear hg
    by_cases hlt : k < 3
    · have x := HX.out k hlt
      cases hx : good (three a o r k)
      · have HF := Lib.hid (allG_false hlt hx)
        have hor : three a o r k < 1 ∨ 1000 < three a o r k := by
          by_cases h1 : 1 ≤ three a o r k
          · by_cases h2 : three a o r k ≤ 1000
            · rw [good_yes ⟨h1, h2⟩] at hx; cases hx
            · omega
          · omega
        clear hx
        generalize three a o r k = x0 at *
        by_cases h1 : x0 < 1
        · go_wp2
          go_ret
          exact ⟨ret_int (by rw [HC.out, HF.out]; rfl), HB.out⟩
        · have h2 : 1000 < x0 := by omega
          go_wp2
          go_ret
          exact ⟨ret_int (by rw [HC.out, HF.out]; rfl), HB.out⟩
      · have h12 := good_iff.1 hx
        have HX1 := Lib.hid hx
        clear hx
        have h3 : ¬ three a o r k < 1 := by omega
        have h4 : ¬ 1000 < three a o r k := by omega
        go_wp2
        go_roundw
        case rel => exact ⟨k + 1, by omega, by go_num, by unfold allG; rw [HG.out, HX1.out]; rfl, trivial⟩
        case measure => simp [intOf] <;> omega
    · obtain rfl : k = 3 := by omega
      go_wp2
      go_ret
      exact ⟨ret_int (by rw [HC.out, HG.out]; rfl), HB.out⟩
end Go.Proofs.YtgflfdnajchjaaaGreatDoor.Ho
