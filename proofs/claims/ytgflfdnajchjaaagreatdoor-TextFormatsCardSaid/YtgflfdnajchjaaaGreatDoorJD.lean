import Derived.Test.YtgflfdnajchjaaaGreatDoorRows
import Derived.Test.YtgflfdnajchjaaaGreatDoorJB
import Derived.Lib.SliceRun
/- Layer 45: the check of a script (turned from layer 31). -/
namespace Go.Proofs.YtgflfdnajchjaaaGreatDoor.Ch
set_option linter.unusedVariables false
set_option linter.unusedSimpArgs false
open Go.RowKit Go.Sort
attribute [local go_sem] gcell
def btw (n l h : Int) : Bool := decide (l ≤ n ∧ n ≤ h)
theorem between18 (n l h : Int) (w : World) : Calls Tryz.prog 110 #[.int .i64 n, .int .i64 l, .int .i64 h] w fun e w' => e = .returned (.bool (btw n l h)) ∧ w' = w := by
  unfold btw
  by_cases h1 : l ≤ n
  · by_cases h2 : n ≤ h
    · rw [decide_eq_true ⟨h1, h2⟩]
      go_enter Tryz.func110, Tryz.ntmps110
      go_wp2
      go_ret
      exact ⟨rfl, rfl⟩
    · rw [decide_eq_false (by omega)]
      go_enter Tryz.func110, Tryz.ntmps110
      go_wp2
      go_ret
      exact ⟨rfl, rfl⟩
  · rw [decide_eq_false (by omega)]
    go_enter Tryz.func110, Tryz.ntmps110
    go_wp2
    go_ret
    exact ⟨rfl, rfl⟩
theorem btw_t {n l h : Int} (hb : l ≤ n ∧ n ≤ h) : btw n l h = true := decide_eq_true hb
theorem btw_or (n l h : Int) : btw n l h = false ∨ btw n l h = true := by cases btw n l h <;> simp
structure Fd where
  t : Int
  c : Int
  f : Int
  g : Int
  n : Int
def R5 (w : World) (a : Option Addr) (n : Nat) (X : Nat → Fd) : Prop :=
  ∃ b m, (0 < n → a = some ⟨b, m, none⟩) ∧ ∀ k, k < n → w.cell? ⟨b, m + k * 5, none⟩ = some (.int .i64 (X k).t) ∧ w.cell? ⟨b, m + k * 5 + 1, none⟩ = some (.int .i64 (X k).c) ∧ w.cell? ⟨b, m + k * 5 + 2, none⟩ = some (.int .i64 (X k).f) ∧ w.cell? ⟨b, m + k * 5 + 3, none⟩ = some (.int .i64 (X k).g) ∧ w.cell? ⟨b, m + k * 5 + 4, none⟩ = some (.int .i64 (X k).n)
theorem R5.mono {W w : World} {a : Option Addr} {n : Nat} {X : Nat → Fd} (H : R5 W a n X) (hb : Below W.heap.size W w) : R5 w a n X := by
  obtain ⟨b, m, h1, h2⟩ := H
  exact ⟨b, m, h1, fun k hk => by obtain ⟨c0, c1, c2, c3, c4⟩ := h2 k hk; exact ⟨up hb c0, up hb c1, up hb c2, up hb c3, up hb c4⟩⟩
def errOf (x : Fd) : Int := if btw x.t 0 3 = false then 64 else if btw x.c 0 2 = false then 63 else if (btw x.f 0 1048576 && btw x.g 0 127 && btw x.n 0 1000) = false then 3 else 0
def firstErr (X : Nat → Fd) : Nat → Int
  | 0 => 0
  | k + 1 => if firstErr X k = 0 then errOf (X k) else firstErr X k
def chk (n : Nat) (X : Nat → Fd) : Int := if 400 < n then 2 else firstErr X n
theorem firstErr_keep {X : Nat → Fd} {k n : Nat} (h : k ≤ n) (h0 : firstErr X k ≠ 0) : firstErr X n = firstErr X k := by
  induction n with
  | zero => obtain rfl : k = 0 := by omega
            rfl
  | succ n ih =>
    rcases Nat.lt_or_eq_of_le h with h1 | rfl
    · have := ih (by omega)
      show (if firstErr X n = 0 then errOf (X n) else firstErr X n) = _
      rw [if_neg (by rw [this]; exact h0), this]
    · rfl
theorem firstErr_at {X : Nat → Fd} {k n : Nat} (h : k < n) (h0 : firstErr X k = 0) (h1 : errOf (X k) ≠ 0) : firstErr X n = errOf (X k) := by
  have e : firstErr X (k + 1) = errOf (X k) := by
    show (if firstErr X k = 0 then errOf (X k) else firstErr X k) = _
    rw [if_pos h0]
  rw [firstErr_keep (k := k + 1) h (by rw [e]; exact h1), e]
theorem firstErr_next {X : Nat → Fd} {k : Nat} (h0 : firstErr X k = 0) (h1 : errOf (X k) = 0) : firstErr X (k + 1) = 0 := by
  show (if firstErr X k = 0 then errOf (X k) else firstErr X k) = _
  rw [if_pos h0, h1]
set_option maxRecDepth 100000 in
set_option maxHeartbeats 8000000 in
theorem check25 (a : Option Addr) (n cp : Nat) (X : Nat → Fd) (w : World) (H : R5 w a n X) (hn : n ≤ maxLen) :
    Calls Tryz.prog 81 #[.slice a n cp] w fun e w' => e = .returned (.int .i64 (chk n X)) ∧ Below w.heap.size w w' := by
  have HH := Lib.hid H
  clear H
  have hn2 := hn
  unfold maxLen at hn2
  by_cases h4 : 400 < n
  · go_enter Tryz.func81, Tryz.ntmps81
    go_wp2
    go_ret
    exact ⟨ret_int (show (2 : Int) = chk n X by unfold chk; rw [if_pos h4]), Below.refl _ _⟩
  · have hc : chk n X = firstErr X n := by unfold chk; rw [if_neg h4]
    rw [hc]
    clear hc
    go_enter Tryz.func81, Tryz.ntmps81
    go_wp2
    go_loopw [10] (fun i wr => ∃ k : Nat, k ≤ n ∧ i = .int .i64 k ∧ firstErr X k = 0 ∧ Below w.heap.size w wr) (fun i _ => n - (intOf i).toNat)
    case atStart => exact ⟨0, Nat.zero_le _, rfl, rfl, Below.refl _ _⟩
    case round =>
      obtain ⟨k, hk, rfl, hf, hB⟩ := hrel
      have HB := Lib.hid hB
      have HF := Lib.hid hf
      clear hf
      by_cases hlt : k < n
      · obtain ⟨b, m, h1, h2⟩ := HH.out.mono hB
        obtain rfl := h1 (by omega)
        obtain ⟨c0, c1, c2, c3, c4⟩ := h2 k hlt
        have hb1 := lt_of_cell c0
        have hsz := hB.size
        clear h1 h2 hB
        have i1 : (0 : Int) ≤ (k : Int) := by omega
        have i2 : (k : Int) < (n : Int) := by omega
        have HE := Lib.hid (show errOf (X k) = errOf (X k) from rfl)
        conv at HE => arg 1; rhs; unfold errOf
        have FA := Lib.hid fun (z : Int) (h : errOf (X k) = z) (h2 : z ≠ 0) => (show firstErr X n = z from (firstErr_at hlt HF.out (by rw [h]; exact h2)).trans h)
        have FN := Lib.hid fun (h : errOf (X k) = 0) => firstErr_next HF.out h
        generalize errOf (X k) = E at *
        generalize (X k).t = x0 at *
        generalize (X k).c = x1 at *
        generalize (X k).f = x2 at *
        generalize (X k).g = x3 at *
        generalize (X k).n = x4 at *
        rcases btw_or x0 0 3 with b0 | b0
        · rw [b0] at HE
          go_wp2_with (go_at_call 110; refine (between18 _ _ _ _).mono ?_; rintro e w' ⟨rfl, rfl⟩)
          go_ret
          exact ⟨ret_int (FA.out 64 (HE.out.trans (by simp)) (by decide)).symm, HB.out.alloc hsz _⟩
        rcases btw_or x1 0 2 with b1 | b1
        · rw [b0, b1] at HE
          go_wp2_with (go_at_call 110; refine (between18 _ _ _ _).mono ?_; rintro e w' ⟨rfl, rfl⟩)
          go_ret
          exact ⟨ret_int (FA.out 63 (HE.out.trans (by simp)) (by decide)).symm, HB.out.alloc hsz _⟩
        rcases btw_or x2 0 1048576 with b2 | b2
        · rw [b0, b1, b2] at HE
          go_wp2_with (go_at_call 110; refine (between18 _ _ _ _).mono ?_; rintro e w' ⟨rfl, rfl⟩)
          go_ret
          exact ⟨ret_int (FA.out 3 (HE.out.trans (by simp)) (by decide)).symm, HB.out.alloc hsz _⟩
        rcases btw_or x3 0 127 with b3 | b3
        · rw [b0, b1, b2, b3] at HE
          go_wp2_with (go_at_call 110; refine (between18 _ _ _ _).mono ?_; rintro e w' ⟨rfl, rfl⟩)
          go_ret
          exact ⟨ret_int (FA.out 3 (HE.out.trans (by simp)) (by decide)).symm, HB.out.alloc hsz _⟩
        rcases btw_or x4 0 1000 with b4 | b4
        · rw [b0, b1, b2, b3, b4] at HE
          go_wp2_with (go_at_call 110; refine (between18 _ _ _ _).mono ?_; rintro e w' ⟨rfl, rfl⟩)
          go_ret
          exact ⟨ret_int (FA.out 3 (HE.out.trans (by simp)) (by decide)).symm, HB.out.alloc hsz _⟩
        rw [b0, b1, b2, b3, b4] at HE
        go_wp2_with (go_at_call 110; refine (between18 _ _ _ _).mono ?_; rintro e w' ⟨rfl, rfl⟩)
        exact ⟨⟨k + 1, by omega, by go_num, FN.out (HE.out.trans (by simp)), HB.out.alloc hsz _⟩, by simp only [intOf]; omega⟩
      · obtain rfl : k = n := by omega
        clear hB
        go_wp2
        go_ret
        exact ⟨ret_int HF.out.symm, HB.out⟩
theorem btw_f {n l h : Int} (hb : n < l ∨ h < n) : btw n l h = false := decide_eq_false (by omega)
theorem errOf_64 {x : Fd} (h : x.t < 0 ∨ 3 < x.t) : errOf x = 64 := by unfold errOf; rw [btw_f h, if_pos rfl]
theorem errOf_63 {x : Fd} (h : 0 ≤ x.t ∧ x.t ≤ 3) (h1 : x.c < 0 ∨ 2 < x.c) : errOf x = 63 := by unfold errOf; rw [btw_t h, btw_f h1]; rfl
theorem errOf_3 {x : Fd} (h : 0 ≤ x.t ∧ x.t ≤ 3) (h1 : 0 ≤ x.c ∧ x.c ≤ 2) (h2 : x.f < 0 ∨ 1048576 < x.f ∨ x.g < 0 ∨ 127 < x.g ∨ x.n < 0 ∨ 1000 < x.n) : errOf x = 3 := by
  unfold errOf
  rw [btw_t h, btw_t h1]
  have : (btw x.f 0 1048576 && btw x.g 0 127 && btw x.n 0 1000) = false := by
    unfold btw
    rw [← Bool.not_eq_true]
    simp only [Bool.and_eq_true, decide_eq_true_eq]
    omega
  rw [this]; rfl
theorem errOf_0 {x : Fd} (h : 0 ≤ x.t ∧ x.t ≤ 3) (h1 : 0 ≤ x.c ∧ x.c ≤ 2) (h2 : 0 ≤ x.f ∧ x.f ≤ 1048576) (h3 : 0 ≤ x.g ∧ x.g ≤ 127) (h4 : 0 ≤ x.n ∧ x.n ≤ 1000) : errOf x = 0 := by
  unfold errOf
  rw [btw_t h, btw_t h1, btw_t h2, btw_t h3, btw_t h4]; rfl
set_option maxRecDepth 100000 in
set_option maxHeartbeats 8000000 in
theorem check26 (a : Option Addr) (n cp : Nat) (X : Nat → Fd) (w : World) (H : R5 w a n X) (hn : n ≤ maxLen) :
    Calls Tryz.prog 68 #[.slice a n cp] w fun e w' => e = .returned (.int .i64 (chk n X)) ∧ Below w.heap.size w w' := by
  have HH := Lib.hid H
  clear H
  have hn2 := hn
  unfold maxLen at hn2
  by_cases h4 : 400 < n
  · go_enter Tryz.func68, Tryz.ntmps68
    go_wp2
    go_ret
    exact ⟨ret_int (show (2 : Int) = chk n X by unfold chk; rw [if_pos h4]), Below.refl _ _⟩
  · have hc : chk n X = firstErr X n := by unfold chk; rw [if_neg h4]
    rw [hc]
    clear hc
    go_enter Tryz.func68, Tryz.ntmps68
    go_wp2
    go_loopw [3] (fun i wr => ∃ k : Nat, k ≤ n ∧ i = .int .i64 k ∧ firstErr X k = 0 ∧ Below w.heap.size w wr) (fun i _ => n - (intOf i).toNat)
    case atStart => exact ⟨0, Nat.zero_le _, rfl, rfl, Below.refl _ _⟩
    case round =>
      obtain ⟨k, hk, rfl, hf, hB⟩ := hrel
      have HB := Lib.hid hB
      have HF := Lib.hid hf
      clear hf
      by_cases hlt : k < n
      · obtain ⟨b, m, h1, h2⟩ := HH.out.mono hB
        obtain rfl := h1 (by omega)
        obtain ⟨c0, c1, c2, c3, c4⟩ := h2 k hlt
        have hb1 := lt_of_cell c0
        have hsz := hB.size
        clear h1 h2 hB
        have i1 : (0 : Int) ≤ (k : Int) := by omega
        have i2 : (k : Int) < (n : Int) := by omega
        have FA := Lib.hid fun (z : Int) (h : errOf (X k) = z) (h2 : z ≠ 0) => (show firstErr X n = z from (firstErr_at hlt HF.out (by rw [h]; exact h2)).trans h)
        have FN := Lib.hid fun (h : errOf (X k) = 0) => firstErr_next HF.out h
        have E64 := Lib.hid fun h => errOf_64 (x := X k) h
        have E63 := Lib.hid fun h h1 => errOf_63 (x := X k) h h1
        have E3 := Lib.hid fun h h1 h2 => errOf_3 (x := X k) h h1 h2
        have E0 := Lib.hid fun h h1 h2 h3 h4 => errOf_0 (x := X k) h h1 h2 h3 h4
        generalize errOf (X k) = E at *
        generalize (X k).t = x0 at *
        generalize (X k).c = x1 at *
        generalize (X k).f = x2 at *
        generalize (X k).g = x3 at *
        generalize (X k).n = x4 at *
        rcases (show x0 < 0 ∨ 0 ≤ x0 by omega) with d00 | d00
        · go_wp2
          go_ret
          exact ⟨ret_int (FA.out 64 (E64.out (by omega)) (by decide)).symm, HB.out.alloc hsz _⟩
        rcases (show 4 ≤ x0 ∨ x0 < 4 by omega) with d01 | d01
        · go_wp2
          go_ret
          exact ⟨ret_int (FA.out 64 (E64.out (by omega)) (by decide)).symm, HB.out.alloc hsz _⟩
        rcases (show x1 < 0 ∨ 0 ≤ x1 by omega) with d10 | d10
        · go_wp2
          go_ret
          exact ⟨ret_int (FA.out 63 (E63.out (by omega) (by omega)) (by decide)).symm, HB.out.alloc hsz _⟩
        rcases (show 3 ≤ x1 ∨ x1 < 3 by omega) with d11 | d11
        · go_wp2
          go_ret
          exact ⟨ret_int (FA.out 63 (E63.out (by omega) (by omega)) (by decide)).symm, HB.out.alloc hsz _⟩
        rcases (show x2 < 0 ∨ 0 ≤ x2 by omega) with d20 | d20
        · go_wp2
          go_ret
          exact ⟨ret_int (FA.out 3 (E3.out (by omega) (by omega) (by omega)) (by decide)).symm, HB.out.alloc hsz _⟩
        rcases (show 1048576 < x2 ∨ x2 ≤ 1048576 by omega) with d21 | d21
        · go_wp2
          go_ret
          exact ⟨ret_int (FA.out 3 (E3.out (by omega) (by omega) (by omega)) (by decide)).symm, HB.out.alloc hsz _⟩
        rcases (show x3 < 0 ∨ 0 ≤ x3 by omega) with d30 | d30
        · go_wp2
          go_ret
          exact ⟨ret_int (FA.out 3 (E3.out (by omega) (by omega) (by omega)) (by decide)).symm, HB.out.alloc hsz _⟩
        rcases (show 127 < x3 ∨ x3 ≤ 127 by omega) with d31 | d31
        · go_wp2
          go_ret
          exact ⟨ret_int (FA.out 3 (E3.out (by omega) (by omega) (by omega)) (by decide)).symm, HB.out.alloc hsz _⟩
        rcases (show x4 < 0 ∨ 0 ≤ x4 by omega) with d40 | d40
        · go_wp2
          go_ret
          exact ⟨ret_int (FA.out 3 (E3.out (by omega) (by omega) (by omega)) (by decide)).symm, HB.out.alloc hsz _⟩
        rcases (show 1000 < x4 ∨ x4 ≤ 1000 by omega) with d41 | d41
        · go_wp2
          go_ret
          exact ⟨ret_int (FA.out 3 (E3.out (by omega) (by omega) (by omega)) (by decide)).symm, HB.out.alloc hsz _⟩
        go_wp2
        exact ⟨⟨k + 1, by omega, by go_num, FN.out (E0.out (by omega) (by omega) (by omega) (by omega) (by omega)), HB.out.alloc hsz _⟩, by simp only [intOf]; omega⟩
      · obtain rfl : k = n := by omega
        clear hB
        go_wp2
        go_ret
        exact ⟨ret_int HF.out.symm, HB.out⟩
end Go.Proofs.YtgflfdnajchjaaaGreatDoor.Ch
/- Layer 45: the check of a bearer. -/
namespace Go.Proofs.YtgflfdnajchjaaaGreatDoor.Be
set_option linter.unusedVariables false
set_option linter.unusedSimpArgs false
open Go.RowKit Go.Sort
open Go.Proofs.YtgflfdnajchjaaaGreatDoor.Ch (btw btw_t btw_f btw_or)
attribute [local go_sem] gcell
theorem blw (w : World) (o : Obj) : Below w.heap.size w (w.alloc o) := (Below.refl _ _).alloc (Nat.le_refl _) _
theorem between166 (n l h : Int) (w : World) : Calls Tryz.prog 166 #[.int .i64 n, .int .i64 l, .int .i64 h] w fun e w' => e = .returned (.bool (btw n l h)) ∧ w' = w := by
  unfold btw
  by_cases h1 : l ≤ n
  · by_cases h2 : n ≤ h
    · rw [decide_eq_true ⟨h1, h2⟩]
      go_enter Tryz.func166, Tryz.ntmps166
      go_wp2
      go_ret
      exact ⟨rfl, rfl⟩
    · rw [decide_eq_false (by omega)]
      go_enter Tryz.func166, Tryz.ntmps166
      go_wp2
      go_ret
      exact ⟨ret_bool (by simp; try omega), rfl⟩
  · rw [decide_eq_false (by omega)]
    go_enter Tryz.func166, Tryz.ntmps166
    go_wp2
    go_ret
    exact ⟨ret_bool (by simp; try omega), rfl⟩
theorem bits167 (n : Int) (w : World) : Calls Tryz.prog 167 #[.int .i64 n] w fun e w' => e = .returned (.bool (btw n 5 9)) ∧ w' = w := by
  unfold btw
  by_cases h1 : 5 ≤ n
  · by_cases h2 : n ≤ 9
    · rw [decide_eq_true ⟨h1, h2⟩]
      go_enter Tryz.func167, Tryz.ntmps167
      go_wp2
      go_ret
      exact ⟨rfl, rfl⟩
    · rw [decide_eq_false (by omega)]
      go_enter Tryz.func167, Tryz.ntmps167
      go_wp2
      go_ret
      exact ⟨ret_bool (by simp; try omega), rfl⟩
  · rw [decide_eq_false (by omega)]
    go_enter Tryz.func167, Tryz.ntmps167
    go_wp2
    go_ret
    exact ⟨ret_bool (by simp; try omega), rfl⟩
theorem bits152 (n : Int) (w : World) : Calls Tryz.prog 152 #[.int .i64 n] w fun e w' => e = .returned (.bool (btw n 5 9)) ∧ w' = w := by
  unfold btw
  by_cases h1 : 5 ≤ n
  · by_cases h2 : n ≤ 9
    · rw [decide_eq_true ⟨h1, h2⟩]
      go_enter Tryz.func152, Tryz.ntmps152
      go_wp2
      go_ret
      exact ⟨rfl, rfl⟩
    · rw [decide_eq_false (by omega)]
      go_enter Tryz.func152, Tryz.ntmps152
      go_wp2
      go_ret
      exact ⟨ret_bool (by simp; try omega), rfl⟩
  · rw [decide_eq_false (by omega)]
    go_enter Tryz.func152, Tryz.ntmps152
    go_wp2
    go_ret
    exact ⟨ret_bool (by simp; try omega), rfl⟩
/-- A link is valid. -/
def lkB (b e p v q t : Int) : Bool := btw b 5 9 && btw e 1 64 && (btw p 1 1000 && btw v 1 1000 && btw q 0 1000) && btw t 1 32
def lkv (b e p v q t : Int) : Value := .agg #[.int .i64 b, .int .i64 e, .int .i64 p, .int .i64 v, .int .i64 q, .int .i64 t]
set_option maxRecDepth 100000 in
set_option maxHeartbeats 2000000 in
theorem link155 (b e p v q t : Int) (w : World) : Calls Tryz.prog 155 #[lkv b e p v q t] w fun z w' => z = .returned (.bool (lkB b e p v q t)) ∧ Below w.heap.size w w' := by
  have HB := Lib.hid (blw w (.cells #[.int .i64 b, .int .i64 e, .int .i64 p, .int .i64 v, .int .i64 q, .int .i64 t] 69))
  have KT := Lib.hid between166
  have KB := Lib.hid bits167
  unfold lkv lkB
  cases hp : btw p 1 1000
  · cases hb : btw b 5 9
    · go_enter Tryz.func155, Tryz.ntmps155
      go_wp2_with (first | (go_at_call 167; refine (KB.out _ _).mono ?_; rw [hb]; rintro e w' ⟨rfl, rfl⟩) | (go_at_call 166; refine (KT.out _ _ _ _).mono ?_; (first | rw [hp]); rintro e w' ⟨rfl, rfl⟩))
      go_ret
      exact ⟨rfl, HB.out⟩
    · cases he : btw e 1 64
      · go_enter Tryz.func155, Tryz.ntmps155
        go_wp2_with (first | (go_at_call 167; refine (KB.out _ _).mono ?_; rw [hb]; rintro e w' ⟨rfl, rfl⟩) | (go_at_call 166; refine (KT.out _ _ _ _).mono ?_; (first | rw [hp] | rw [he]); rintro e w' ⟨rfl, rfl⟩))
        go_ret
        exact ⟨rfl, HB.out⟩
      · cases ht : btw t 1 32
        all_goals
          go_enter Tryz.func155, Tryz.ntmps155
          go_wp2_with (first | (go_at_call 167; refine (KB.out _ _).mono ?_; rw [hb]; rintro e w' ⟨rfl, rfl⟩) | (go_at_call 166; refine (KT.out _ _ _ _).mono ?_; (first | rw [hp] | rw [he] | rw [ht]); rintro e w' ⟨rfl, rfl⟩))
          go_ret
          exact ⟨rfl, HB.out⟩
  · cases hv : btw v 1 1000
    · cases hb : btw b 5 9
      · go_enter Tryz.func155, Tryz.ntmps155
        go_wp2_with (first | (go_at_call 167; refine (KB.out _ _).mono ?_; rw [hb]; rintro e w' ⟨rfl, rfl⟩) | (go_at_call 166; refine (KT.out _ _ _ _).mono ?_; (first | rw [hp] | rw [hv]); rintro e w' ⟨rfl, rfl⟩))
        go_ret
        exact ⟨rfl, HB.out⟩
      · cases he : btw e 1 64
        · go_enter Tryz.func155, Tryz.ntmps155
          go_wp2_with (first | (go_at_call 167; refine (KB.out _ _).mono ?_; rw [hb]; rintro e w' ⟨rfl, rfl⟩) | (go_at_call 166; refine (KT.out _ _ _ _).mono ?_; (first | rw [hp] | rw [hv] | rw [he]); rintro e w' ⟨rfl, rfl⟩))
          go_ret
          exact ⟨rfl, HB.out⟩
        · cases ht : btw t 1 32
          all_goals
            go_enter Tryz.func155, Tryz.ntmps155
            go_wp2_with (first | (go_at_call 167; refine (KB.out _ _).mono ?_; rw [hb]; rintro e w' ⟨rfl, rfl⟩) | (go_at_call 166; refine (KT.out _ _ _ _).mono ?_; (first | rw [hp] | rw [hv] | rw [he] | rw [ht]); rintro e w' ⟨rfl, rfl⟩))
            go_ret
            exact ⟨rfl, HB.out⟩
    · cases hq : btw q 0 1000
      all_goals
        cases hb : btw b 5 9
        · go_enter Tryz.func155, Tryz.ntmps155
          go_wp2_with (first | (go_at_call 167; refine (KB.out _ _).mono ?_; rw [hb]; rintro e w' ⟨rfl, rfl⟩) | (go_at_call 166; refine (KT.out _ _ _ _).mono ?_; (first | rw [hp] | rw [hv] | rw [hq]); rintro e w' ⟨rfl, rfl⟩))
          go_ret
          exact ⟨rfl, HB.out⟩
        · cases he : btw e 1 64
          · go_enter Tryz.func155, Tryz.ntmps155
            go_wp2_with (first | (go_at_call 167; refine (KB.out _ _).mono ?_; rw [hb]; rintro e w' ⟨rfl, rfl⟩) | (go_at_call 166; refine (KT.out _ _ _ _).mono ?_; (first | rw [hp] | rw [hv] | rw [hq] | rw [he]); rintro e w' ⟨rfl, rfl⟩))
            go_ret
            exact ⟨rfl, HB.out⟩
          · cases ht : btw t 1 32
            all_goals
              go_enter Tryz.func155, Tryz.ntmps155
              go_wp2_with (first | (go_at_call 167; refine (KB.out _ _).mono ?_; rw [hb]; rintro e w' ⟨rfl, rfl⟩) | (go_at_call 166; refine (KT.out _ _ _ _).mono ?_; (first | rw [hp] | rw [hv] | rw [hq] | rw [he] | rw [ht]); rintro e w' ⟨rfl, rfl⟩))
              go_ret
              exact ⟨rfl, HB.out⟩
end Go.Proofs.YtgflfdnajchjaaaGreatDoor.Be
