/- Layer 37: the small functions. -/
import Derived.Test.YtbhldnfldkjoiaaRows
import Derived.Test.YtbhldnfldkjoiaaRow
import Derived.Lib.SliceRun
namespace Go.Proofs.Ytbhldnfldkjoiaa
set_option linter.unusedVariables false
set_option linter.unusedSimpArgs false
open Go.RowKit Go.Sort
attribute [local go_sem] gcell

/-- Whether one of the first n is so. -/
def anyB (p : Nat → Bool) : Nat → Bool
  | 0 => false
  | k + 1 => anyB p k || p k
theorem anyB_true {p : Nat → Bool} {n k : Nat} (hk : k < n) (h : p k = true) : anyB p n = true := by
  induction n with
  | zero => omega
  | succ n ih =>
    unfold anyB
    by_cases h2 : k < n
    · rw [ih h2]; rfl
    · have : k = n := by omega
      subst this; rw [h]; simp
theorem anyB_false {p : Nat → Bool} {n : Nat} : anyB p n = false ↔ ∀ k, k < n → p k = false := by
  constructor
  · intro h k hk
    cases hp : p k
    · rfl
    · rw [anyB_true hk hp] at h; cases h
  · intro h
    induction n with
    | zero => rfl
    | succ n ih => unfold anyB; rw [ih (fun k hk => h k (by omega)), h n (by omega)]; rfl

theorem anyB_or (p q : Nat → Bool) (n : Nat) : anyB (fun k => p k || q k) n = (anyB p n || anyB q n) := by
  induction n with
  | zero => rfl
  | succ n ih => unfold anyB; rw [ih]; cases anyB p n <;> cases anyB q n <;> cases p n <;> cases q n <;> rfl
def out (xs : Nat → Int) (m : Int) (k : Nat) : Bool := decide (xs k < 0) || decide (m < xs k)

theorem quarter26 (n : Int) (h : -100000 ≤ n ∧ n ≤ 100000) (w : World) : Calls Try.prog 26 #[.int .i64 n] w fun e w' => e = .returned (.int .i64 (n / 4)) ∧ w' = w := by
  by_cases h0 : n < 0
  · have ht : (3 - n).tdiv 4 = (3 - n) / 4 := Int.tdiv_eq_ediv_of_nonneg (by omega)
    go_enter Try.func26, Try.ntmps26
    go_wp2
    go_ret
    exact ⟨ret_int (by omega), rfl⟩
  · have ht : n.tdiv 4 = n / 4 := Int.tdiv_eq_ediv_of_nonneg (by omega)
    go_enter Try.func26, Try.ntmps26
    go_wp2
    go_ret
    exact ⟨ret_int (by omega), rfl⟩

/-- Whether two rows are the same. -/
def same (n m : Nat) (xs ys : Nat → Int) : Bool := decide (n = m) && !anyB (fun k => decide (xs k ≠ ys k)) n
theorem same_true {n m : Nat} {xs ys : Nat → Int} (h : n = m) (h2 : ∀ k, k < n → xs k = ys k) : same n m xs ys = true := by
  unfold same
  rw [anyB_false.2 (fun k hk => by simp [h2 k hk])]
  simp [h]


theorem same20 (a d : Option Addr) (n c m l : Nat) (xs ys : Nat → Int) (w : World) (R : Row w a n xs) (S : Row w d m ys) (hn : n ≤ maxLen) (hm : m ≤ maxLen) :
    Calls Try.prog 20 #[.slice a n c, .slice d m l] w fun e w' => e = .returned (.bool (same n m xs ys)) ∧ Below w.heap.size w w' := by
  obtain ⟨b, o, ha, hx⟩ := R
  obtain ⟨b2, o2, hd, hy⟩ := S
  have HA := Lib.hid ha
  have HX := Lib.hid hx
  have HD := Lib.hid hd
  have HY := Lib.hid hy
  clear ha hx hd hy
  have hn2 := hn
  unfold maxLen at hn2
  have hm2 := hm
  unfold maxLen at hm2
  by_cases hnm : n = m
  · subst hnm
    go_enter Try.func20, Try.ntmps20
    go_wp2
    go_loopw [5] (fun i wr => ∃ k : Nat, k ≤ n ∧ i = .int .i64 k ∧ anyB (fun k => decide (xs k ≠ ys k)) k = false ∧ Below w.heap.size w wr) (fun i _ => n - (intOf i).toNat)
    case atStart => exact ⟨0, Nat.zero_le _, rfl, rfl, Below.refl _ _⟩
    case round =>
      obtain ⟨k, hk, rfl, hf, hB⟩ := hrel
      have HB := Lib.hid hB
      have HF := Lib.hid hf
      clear hf
      by_cases hlt : k < n
      · have hxk := HX.out k hlt
        have hxw := up hB hxk
        have hyk := HY.out k hlt
        have hyw := up hB hyk
        have hak := HA.out (by omega)
        have hdk := HD.out (by omega)
        subst hak hdk
        by_cases h1 : xs k = ys k
        · have hq : (xs k == ys k) = true := by simp [h1]
          have hq2 : (xs k != ys k) = false := by simp [h1]
          go_wp2_with fail
          go_quiet (fail)
          go_wp2
          go_roundw
          case rel => exact ⟨k + 1, by omega, by go_num, by unfold anyB; rw [HF.out]; simp [h1], ⟨HB.out.os, HB.out.tape, HB.out.output, HB.out.size, HB.out.block⟩⟩
          case measure => simp [intOf]; omega
        · have hq : (xs k == ys k) = false := by simp [h1]
          have hq2 : (xs k != ys k) = true := by simp [h1]
          go_wp2_with fail
          go_quiet (fail)
          go_wp2
          go_ret
          refine ⟨ret_bool ?_, ⟨HB.out.os, HB.out.tape, HB.out.output, HB.out.size, HB.out.block⟩⟩
          unfold same
          rw [anyB_true hlt (by simp [h1])]
          simp
      · have : k = n := by omega
        subst this
        go_wp2
        go_ret
        refine ⟨ret_bool ?_, HB.out⟩
        unfold same
        rw [HF.out]
        simp
  · have h1 : ((n : Int) == (m : Int)) = false := beq_eq_false_iff_ne.2 (by omega)
    have h2 : ((n : Int) != (m : Int)) = true := by rw [bne_iff_ne]; omega
    go_enter Try.func20, Try.ntmps20
    go_wp2
    go_ret
    refine ⟨ret_bool ?_, Below.refl _ _⟩
    unfold same
    simp [hnm]

theorem same24 (a d : Option Addr) (n c m l : Nat) (xs ys : Nat → Int) (w : World) (R : Row w a n xs) (S : Row w d m ys) (hn : n ≤ maxLen) (hm : m ≤ maxLen) :
    Calls Try.prog 24 #[.slice a n c, .slice d m l] w fun e w' => e = .returned (.bool (same n m xs ys)) ∧ Below w.heap.size w w' := by
  obtain ⟨b, o, ha, hx⟩ := R
  obtain ⟨b2, o2, hd, hy⟩ := S
  have HA := Lib.hid ha
  have HX := Lib.hid hx
  have HD := Lib.hid hd
  have HY := Lib.hid hy
  clear ha hx hd hy
  have hn2 := hn
  unfold maxLen at hn2
  have hm2 := hm
  unfold maxLen at hm2
  by_cases hnm : n = m
  · subst hnm
    go_enter Try.func24, Try.ntmps24
    go_wp2
    go_loopw [5] (fun i wr => ∃ k : Nat, k ≤ n ∧ i = .int .i64 k ∧ anyB (fun k => decide (xs k ≠ ys k)) k = false ∧ Below w.heap.size w wr) (fun i _ => n - (intOf i).toNat)
    case atStart => exact ⟨0, Nat.zero_le _, rfl, rfl, Below.refl _ _⟩
    case round =>
      obtain ⟨k, hk, rfl, hf, hB⟩ := hrel
      have HB := Lib.hid hB
      have HF := Lib.hid hf
      clear hf
      by_cases hlt : k < n
      · have hxk := HX.out k hlt
        have hxw := up hB hxk
        have hyk := HY.out k hlt
        have hyw := up hB hyk
        have hak := HA.out (by omega)
        have hdk := HD.out (by omega)
        subst hak hdk
        by_cases h1 : xs k = ys k
        · have hq : (xs k == ys k) = true := by simp [h1]
          have hq2 : (xs k != ys k) = false := by simp [h1]
          go_wp2_with fail
          go_quiet (fail)
          go_wp2
          go_roundw
          case rel => exact ⟨k + 1, by omega, by go_num, by unfold anyB; rw [HF.out]; simp [h1], ⟨HB.out.os, HB.out.tape, HB.out.output, HB.out.size, HB.out.block⟩⟩
          case measure => simp [intOf]; omega
        · have hq : (xs k == ys k) = false := by simp [h1]
          have hq2 : (xs k != ys k) = true := by simp [h1]
          go_wp2_with fail
          go_quiet (fail)
          go_wp2
          go_ret
          refine ⟨ret_bool ?_, ⟨HB.out.os, HB.out.tape, HB.out.output, HB.out.size, HB.out.block⟩⟩
          unfold same
          rw [anyB_true hlt (by simp [h1])]
          simp
      · have : k = n := by omega
        subst this
        go_wp2
        go_ret
        refine ⟨ret_bool ?_, HB.out⟩
        unfold same
        rw [HF.out]
        simp
  · have h1 : ((n : Int) == (m : Int)) = false := beq_eq_false_iff_ne.2 (by omega)
    have h2 : ((n : Int) != (m : Int)) = true := by rw [bne_iff_ne]; omega
    go_enter Try.func24, Try.ntmps24
    go_wp2
    go_ret
    refine ⟨ret_bool ?_, Below.refl _ _⟩
    unfold same
    simp [hnm]


theorem out31 (p : Nat) (m x : Int) (w : World) (h : w.cell? ⟨p, 0, none⟩ = some (.int .i64 m)) :
    Calls Try.prog 31 #[.int .i64 x, .pointer (some ⟨p, 0, none⟩)] w fun e w' => e = .returned (.bool (decide (x < 0) || decide (m < x))) ∧ w' = w := by
  by_cases h0 : x < 0
  · go_enter Try.func31, Try.ntmps31
    go_wp2
    go_ret
    exact ⟨ret_bool (by simp [h0]), rfl⟩
  · go_enter Try.func31, Try.ntmps31
    go_wp2
    all_goals
      go_ret
      exact ⟨ret_bool (by rw [Bool.eq_iff_iff]; simp; try omega), rfl⟩

/-- The first one that is outside, or -1. -/
theorem index32 (a : Option Addr) (n c p : Nat) (xs : Nat → Int) (m : Int) (w : World) (R : Row w a n xs) (hn : n ≤ maxLen) (hp : w.cell? ⟨p, 0, none⟩ = some (.int .i64 m)) :
    Calls Try.prog 32 #[.slice a n c, .func (.func 31) #[] #[.pointer (some ⟨p, 0, none⟩)]] w fun e w' => ∃ i : Int, e = .returned (.int .i64 i) ∧ decide (0 ≤ i) = anyB (out xs m) n ∧ w' = w := by
  obtain ⟨b, o, ha, hx⟩ := R
  have HA := Lib.hid ha
  have HX := Lib.hid hx
  clear ha hx
  have hn2 := hn
  unfold maxLen at hn2
  go_enter Try.func32, Try.ntmps32
  go_wp2
  go_loopw [8] (fun i wr => ∃ k : Nat, k ≤ n ∧ i = .int .i64 k ∧ w = wr ∧ anyB (out xs m) k = false) (fun i _ => n - (intOf i).toNat)
  case atStart => exact ⟨0, Nat.zero_le _, rfl, rfl, rfl⟩
  case round =>
    obtain ⟨k, hk, rfl, rfl, hf⟩ := hrel
    have HF := Lib.hid hf
    clear hf
    by_cases hlt : k < n
    · have hxk := HX.out k hlt
      have hak := HA.out (by omega)
      subst hak
      cases hq : out xs m k
      · have hq' : (decide (xs k < 0) || decide (m < xs k)) = false := hq
        go_wp2_with (go_at_call 31; refine (out31 p m _ _ hp).mono ?_; rw [hq']; rintro e wz ⟨rfl, rfl⟩)
        go_roundw
        case rel => exact ⟨k + 1, by omega, by go_num, trivial, by unfold anyB; rw [HF.out, hq]; rfl⟩
        case measure => simp [intOf]; omega
      · have hq' : (decide (xs k < 0) || decide (m < xs k)) = true := hq
        go_wp2_with (go_at_call 31; refine (out31 p m _ _ hp).mono ?_; rw [hq']; rintro e wz ⟨rfl, rfl⟩)
        go_ret
        exact ⟨k, rfl, by rw [anyB_true hlt hq]; simp, rfl⟩
    · have : k = n := by omega
      subst this
      go_wp2
      go_ret
      exact ⟨-1, rfl, by rw [HF.out]; simp, rfl⟩

theorem contains30 (a : Option Addr) (n c p : Nat) (xs : Nat → Int) (m : Int) (w : World) (R : Row w a n xs) (hn : n ≤ maxLen) (hp : w.cell? ⟨p, 0, none⟩ = some (.int .i64 m)) :
    Calls Try.prog 30 #[.slice a n c, .func (.func 31) #[] #[.pointer (some ⟨p, 0, none⟩)]] w fun e w' => e = .returned (.bool (anyB (out xs m) n)) ∧ w' = w := by
  go_enter Try.func30, Try.ntmps30
  go_wp2_with (go_at_call 32; refine (index32 a n c p xs m _ R hn hp).mono ?_)
  intro e w1 h
  obtain ⟨i, rfl, hi, rfl⟩ := h
  have HI := Lib.hid hi
  clear hi
  go_wp2
  go_ret
  exact ⟨ret_bool (by rw [← HI.out]), rfl⟩

theorem outside28 (a : Option Addr) (n c : Nat) (xs : Nat → Int) (m : Int) (w : World) (R : Row w a n xs) (hn : n ≤ maxLen) :
    Calls Try.prog 28 #[.slice a n c, .int .i64 m] w fun e w' => e = .returned (.bool (anyB (out xs m) n)) ∧ Below w.heap.size w w' := by
  have hB : Below w.heap.size w (w.alloc (.cells #[.int .i64 m] 3)) := (Below.refl _ _).alloc (Nat.le_refl _) _
  have R1 := R.mono hB
  go_enter Try.func28, Try.ntmps28
  go_wp2_with (go_at_call 30; refine (contains30 a n c w.heap.size xs m _ R1 hn (by simp [go_sem])).mono ?_; rintro e wz ⟨rfl, rfl⟩)
  go_ret
  exact ⟨rfl, hB⟩

theorem intInfo : (Try.prog.info? 3).map (fun i => (i.zero, i.size, i.bytes)) = some (some (.int .i64 0), 1, 8) := by kernel_rfl

/-- A copy of a row, in a new block (or nil). -/
def Copy (n : Nat) (xs : Nat → Int) (w : World) (e : Ending) (w' : World) : Prop :=
  ∃ a c, e = .returned (.slice a n c) ∧ n ≤ c ∧ (∃ g, (0 < n → a = some ⟨g, 0, none⟩ ∧ w.heap.size ≤ g ∧ g < w'.heap.size) ∧ (∀ k, k < n → w'.cell? ⟨g, k, none⟩ = some (.int .i64 (xs k))) ∧ (0 < n → ∀ k, w'.frozen? ⟨g, k, none⟩ = false)) ∧ Below w.heap.size w w'

set_option maxHeartbeats 2000000 in
theorem clone27_some (w : World) (A : Addr) (n c : Nat) (xs : Nat → Int) (hn : n ≤ 1000) (R : Row w (some A) n xs) : Calls Try.prog 27 #[.slice (some A) n c] w (Copy n xs w) := by
  obtain ⟨i0, hi, hz0, hz1, hz2⟩ := info_split intInfo
  obtain ⟨b, m, hA, hx⟩ := R
  have HO := Lib.hid (show (w.alloc (.cells #[] 3)).ownsRow w.heap.size 3 1 (.slice (some ⟨w.heap.size, 0, none⟩) 0 0) 0 [] from ⟨rfl, .inr ⟨w.heap.size, 0, #[], rfl, Nat.le_refl _, (MapKept.heap_alloc w _).1, Nat.le_refl _, by decide, rfl, rfl⟩⟩)
  have hnews : ∀ j u, ((List.range n).map fun i => Value.int .i64 (xs i))[j]? = some u → (w.alloc (.cells #[] 3)).cell? (A.add j) = some u := fun j u hu => by
    have hj : j < n := by have := (List.getElem?_eq_some_iff.1 hu).1; simpa using this
    rw [List.getElem?_map, List.getElem?_range hj] at hu
    rw [Option.some.inj (hA (by omega)), Addr.add_mid, ← hu]
    exact up ((Below.refl _ _).alloc (Nat.le_refl _) _) (hx j hj)
  have HN := Lib.hid hnews
  have h1 : ∀ u ∈ ((List.range n).map fun i => Value.int .i64 (xs i)), u.oneCell' = true := fun u hu => by
    obtain ⟨i, _, rfl⟩ := List.mem_map.1 hu
    rfl
  have H1 := Lib.hid h1
  have HL := Lib.hid (show ((List.range n).map fun i => Value.int .i64 (xs i)).length = n * 1 by simp)
  clear hnews h1 hx hA
  have q24 : ∀ (w : World) (a : Option Addr) (n c n' c' : Nat), (binOp .eql 24 (.slice a n c) (.slice none n' c')).run Try.prog w = .ok (.bool a.isNone) w := fun w a n c n' c' => Lib.run_eql_slice_nil w _ _ a n c n' c' Try.underlying24
  go_enter Try.func27, Try.ntmps27
  go_wp2_with (at_builtin; refine wpList_append_own _ rfl (.tmp 5) (.tmp 6) 24 rfl w.heap.size 3 i0 (.int .i64 0) 1 8 Try.underlying24 hi hz0 hz1 hz2 rfl (by decide) _ 0 [] rfl HO.out A n c ((List.range n).map fun i => Value.int .i64 (xs i)) rfl HL.out HN.out H1.out ?c1 ?c2 ?c3 ?_)
  case c1 => unfold maxLen; omega
  case c2 => omega
  case c3 => simp
  intro v' w' hown hgrow hnil
  have hB : Below w.heap.size w w' := ((Below.refl w.heap.size w).alloc (Nat.le_refl _) (.cells #[] 3)).grown hgrow (by simp) (fun k hk => by cases hk; exact Nat.le_refl _)
  have HB := Lib.hid hB
  have HW := Lib.hid hown
  clear hgrow hnil hB hown
  go_wp2
  go_ret
  have HW2 : w'.ownsRow w.heap.size 3 1 v' n ((List.range n).map fun i => .int .i64 (xs i)) := by simpa using HW.out
  obtain ⟨a, c', g, rfl, h2, h3, h4⟩ := own_cells HW2
  refine ⟨a, c', rfl, h2, ⟨g, fun h0 => h3 h0, h4, fun h0 k => ?_⟩, HB.out⟩
  have e := (h3 h0).1
  subst e
  exact HW2.frozenAt k

theorem clone27_none (w : World) (xs : Nat → Int) (c : Nat) : Calls Try.prog 27 #[.slice none 0 c] w (Copy 0 xs w) := by
  have q24 : ∀ (w : World) (a : Option Addr) (n c n' c' : Nat), (binOp .eql 24 (.slice a n c) (.slice none n' c')).run Try.prog w = .ok (.bool a.isNone) w := fun w a n c n' c' => Lib.run_eql_slice_nil w _ _ a n c n' c' Try.underlying24
  go_enter Try.func27, Try.ntmps27
  go_wp2
  go_ret
  exact ⟨none, 0, rfl, Nat.le_refl _, ⟨0, fun h => absurd h (Nat.lt_irrefl _), fun k hk => absurd hk (Nat.not_lt_zero _), fun h => absurd h (Nat.lt_irrefl _)⟩, Below.refl _ _⟩

theorem clone27 (w : World) (a : Option Addr) (n c : Nat) (xs : Nat → Int) (hn : n ≤ 1000) (h0 : a = none → n = 0) (R : Row w a n xs) : Calls Try.prog 27 #[.slice a n c] w (Copy n xs w) := by
  cases a with
  | none => obtain rfl := h0 rfl; exact clone27_none w xs c
  | some A => exact clone27_some w A n c xs hn R
end Go.Proofs.Ytbhldnfldkjoiaa
