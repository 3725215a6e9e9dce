/- Layer 36: the small functions. -/
import Derived.Test.YtobmnajgbhgdlaaRows
import Derived.Test.YtobmnajgbhgdlaaRow
import Derived.Test.YtobmnajgbhgdlaaAny
import Derived.Test.YtobmnajgbhgdlaaRowK
import Derived.Lib.SliceRun
namespace Go.Proofs.Ytobmnajgbhgdlaa
set_option linter.unusedVariables false
set_option linter.unusedSimpArgs false
open Go.RowKit Go.Sort
attribute [local go_sem] gcell

/-- Pages as they lie in memory. -/
def R3 (w : World) (a : Option Addr) (n : Nat) (I S C : Nat → Int) : Prop := ∃ b m, (0 < n → a = some ⟨b, m, none⟩) ∧ ∀ k, k < n → w.cell? ⟨b, m + k * 3, none⟩ = some (.int .i64 (I k)) ∧ w.cell? ⟨b, m + k * 3 + 1, none⟩ = some (.int .i64 (S k)) ∧ w.cell? ⟨b, m + k * 3 + 2, none⟩ = some (.int .i64 (C k))
theorem R3.mono {u w : World} {a : Option Addr} {n : Nat} {I S C : Nat → Int} (H : R3 u a n I S C) (hb : Below u.heap.size u w) : R3 w a n I S C := by
  obtain ⟨b, m, h1, h2⟩ := H
  exact ⟨b, m, h1, fun k hk => ⟨up hb (h2 k hk).1, up hb (h2 k hk).2.1, up hb (h2 k hk).2.2⟩⟩
theorem R3.less {w : World} {a : Option Addr} {n m : Nat} {I S C : Nat → Int} (H : R3 w a n I S C) (h : m ≤ n) : R3 w a m I S C := by
  obtain ⟨b, o, h1, h2⟩ := H
  exact ⟨b, o, fun h0 => h1 (by omega), fun k hk => h2 k (by omega)⟩
theorem R3.zero (w : World) (a : Option Addr) (I S C : Nat → Int) : R3 w a 0 I S C := ⟨0, 0, fun h => absurd h (Nat.lt_irrefl _), fun k hk => absurd hk (Nat.not_lt_zero _)⟩

/-- The index of the first page of an identity, or -1. -/
def fi (I : Nat → Int) (id : Int) : Nat → Int
  | 0 => -1
  | n + 1 => if 0 ≤ fi I id n then fi I id n else if I n = id then n else -1
theorem fi_spec (I : Nat → Int) (id : Int) : ∀ n : Nat, (fi I id n = -1 ∧ ∀ k, k < n → I k ≠ id) ∨ ∃ j : Nat, fi I id n = j ∧ j < n ∧ I j = id ∧ ∀ k, k < j → I k ≠ id
  | 0 => .inl ⟨rfl, fun k hk => absurd hk (Nat.not_lt_zero _)⟩
  | n + 1 => by
    unfold fi
    rcases fi_spec I id n with ⟨h1, h2⟩ | ⟨j, h1, h2, h3, h4⟩
    · rw [h1, if_neg (by omega)]
      by_cases e : I n = id
      · rw [if_pos e]
        exact .inr ⟨n, rfl, by omega, e, h2⟩
      · rw [if_neg e]
        refine .inl ⟨rfl, fun k hk => ?_⟩
        by_cases hk2 : k = n
        · subst hk2; exact e
        · exact h2 k (by omega)
    · rw [h1, if_pos (by omega)]
      exact .inr ⟨j, rfl, by omega, h3, h4⟩
theorem fi_first {I : Nat → Int} {id : Int} {j n : Nat} (h1 : j < n) (h2 : I j = id) (h3 : ∀ k, k < j → I k ≠ id) : fi I id n = j := by
  rcases fi_spec I id n with ⟨_, g2⟩ | ⟨i, g1, g2, g3, g4⟩
  · exact absurd h2 (g2 j h1)
  · rw [g1]
    have : i = j := by
      rcases Nat.lt_trichotomy i j with h | h | h
      · exact absurd g3 (h3 i h)
      · exact h
      · exact absurd h2 (g4 j h)
    rw [this]
theorem fi_none {I : Nat → Int} {id : Int} {n : Nat} (h : ∀ k, k < n → I k ≠ id) : fi I id n = -1 := by
  rcases fi_spec I id n with ⟨g, _⟩ | ⟨i, _, g2, g3, _⟩
  · exact g
  · exact absurd g3 (h i g2)
def hs (I : Nat → Int) (id : Int) (n : Nat) : Bool := decide (0 ≤ fi I id n)

def pv (i s c : Int) : Value := .agg #[.int .i64 i, .int .i64 s, .int .i64 c]
theorem same33 (i s c id : Int) (p : Nat) (w : World) (hp : w.cell? ⟨p, 0, none⟩ = some (.int .i64 id)) : Calls Try.prog 33 #[pv i s c, .pointer (some ⟨p, 0, none⟩)] w fun e w' => e = .returned (.bool (decide (i = id))) ∧ Below w.heap.size w w' := by
  unfold pv
  have lp := lt_of_cell hp
  by_cases h : i = id
  · have q : (i == id) = true := by rw [h]; exact beq_self_eq_true _
    rw [decide_eq_true h]
    go_enter Try.func33, Try.ntmps33
    go_wp2
    go_ret
    exact ⟨rfl, (Below.refl _ _).alloc (Nat.le_refl _) _⟩
  · have q : (i == id) = false := beq_eq_false_iff_ne.2 h
    rw [decide_eq_false h]
    go_enter Try.func33, Try.ntmps33
    go_wp2
    go_ret
    exact ⟨rfl, (Below.refl _ _).alloc (Nat.le_refl _) _⟩
section
variable (a : Option Addr) (n c : Nat) (I S C : Nat → Int)
theorem index32 (id : Int) (p : Nat) (w : World) (H : R3 w a n I S C) (hn : n ≤ maxLen) (hp : w.cell? ⟨p, 0, none⟩ = some (.int .i64 id)) :
    Calls Try.prog 32 #[.slice a n c, .func (.func 33) #[] #[.pointer (some ⟨p, 0, none⟩)]] w fun e w' => e = .returned (.int .i64 (fi I id n)) ∧ Below w.heap.size w w' := by
  have HH := Lib.hid H
  have HP := Lib.hid hp
  clear H hp
  unfold maxLen at hn
  go_enter Try.func32, Try.ntmps32
  go_wp2
  go_loopw [8] (fun i wr => ∃ k : Nat, k ≤ n ∧ i = .int .i64 k ∧ Below w.heap.size w wr ∧ ∀ j, j < k → I j ≠ id) (fun i _ => n - (intOf i).toNat)
  case atStart => exact ⟨0, Nat.zero_le _, rfl, Below.refl _ _, fun j hj => absurd hj (Nat.not_lt_zero _)⟩
  case round =>
    obtain ⟨k, hk, rfl, hB, hf⟩ := hrel
    have HF := Lib.hid hf
    have HB := Lib.hid hB
    clear hf hB
    by_cases hlt : k < n
    · obtain ⟨b, m, h1, h2⟩ := HH.out.mono HB.out
      obtain rfl := h1 (by omega)
      obtain ⟨c0, c1, c2⟩ := h2 k hlt
      have i1 : (0 : Int) ≤ (k : Int) := by omega
      have i2 : (k : Int) < (n : Int) := by omega
      have K := same33 (I k) (S k) (C k) id p wr (up HB.out HP.out)
      unfold pv at K
      clear h1 h2
      by_cases hv : I k = id
      · rw [decide_eq_true hv] at K
        have HK := Lib.hid K
        have HQ := Lib.hid (fi_first hlt hv HF.out)
        clear hv K
        go_wp2_with (go_at_call 33; refine HK.out.mono ?_; rintro e wz ⟨rfl, hb⟩)
        have HB1 := Lib.hid (bthen HB.out hb HB.out.size)
        clear hb
        go_wp2
        go_ret
        exact ⟨ret_int HQ.out.symm, HB1.out⟩
      · rw [decide_eq_false hv] at K
        have HK := Lib.hid K
        have HV := Lib.hid hv
        clear hv K
        go_wp2_with (go_at_call 33; refine HK.out.mono ?_; rintro e wz ⟨rfl, hb⟩)
        have HB1 := Lib.hid (bthen HB.out hb HB.out.size)
        clear hb
        go_wp2
        go_roundw
        case rel => exact ⟨k + 1, by omega, by go_num, HB1.out, fun j hj => by
          by_cases e : j = k
          · subst e; exact HV.out
          · exact HF.out j (by omega)⟩
        case measure => simp [intOf]; omega
    · obtain rfl : k = n := by omega
      go_wp2
      go_ret
      exact ⟨ret_int (fi_none HF.out).symm, HB.out⟩
theorem find23 (id : Int) (w : World) (H : R3 w a n I S C) (hn : n ≤ maxLen) :
    Calls Try.prog 23 #[.slice a n c, .int .i64 id] w fun e w' => e = .returned (.int .i64 (fi I id n)) ∧ Below w.heap.size w w' := by
  have hb : Below w.heap.size w (w.alloc (.cells #[.int .i64 id] 3)) := (Below.refl _ _).alloc (Nat.le_refl _) _
  have K := Lib.hid (index32 a n c I S C id w.heap.size _ (H.mono hb) hn (by simp [go_sem]))
  clear H
  go_enter Try.func23, Try.ntmps23
  go_wp2_with (go_at_call 32; refine K.out.mono ?_; rintro e w1 ⟨rfl, hb1⟩)
  go_ret
  exact ⟨rfl, bthen hb hb1 hb.size⟩
theorem has29 (id : Int) (w : World) (H : R3 w a n I S C) (hn : n ≤ maxLen) :
    Calls Try.prog 29 #[.slice a n c, .int .i64 id] w fun e w' => e = .returned (.bool (hs I id n)) ∧ Below w.heap.size w w' := by
  have HH := Lib.hid H
  clear H
  unfold maxLen at hn
  go_enter Try.func29, Try.ntmps29
  go_wp2
  go_loopw [5] (fun i wr => ∃ k : Nat, k ≤ n ∧ i = .int .i64 k ∧ Below w.heap.size w wr ∧ ∀ j, j < k → I j ≠ id) (fun i _ => n - (intOf i).toNat)
  case atStart => exact ⟨0, Nat.zero_le _, rfl, Below.refl _ _, fun j hj => absurd hj (Nat.not_lt_zero _)⟩
  case round =>
    obtain ⟨k, hk, rfl, hB, hf⟩ := hrel
    have HF := Lib.hid hf
    have HB := Lib.hid hB
    clear hf hB
    by_cases hlt : k < n
    · obtain ⟨b, m, h1, h2⟩ := HH.out.mono HB.out
      obtain rfl := h1 (by omega)
      obtain ⟨c0, c1, c2⟩ := h2 k hlt
      have i1 : (0 : Int) ≤ (k : Int) := by omega
      have i2 : (k : Int) < (n : Int) := by omega
      clear h1 h2
      by_cases hv : I k = id
      · have HQ := Lib.hid (fi_first hlt hv HF.out)
        have q : (I k == id) = true := by rw [hv]; exact beq_self_eq_true _
        clear hv
        go_wp2
        go_ret
        exact ⟨ret_bool (by unfold hs; rw [HQ.out]; simp), HB.out⟩
      · have HV := Lib.hid hv
        have q : (I k == id) = false := beq_eq_false_iff_ne.2 hv
        clear hv
        go_wp2
        go_roundw
        case rel => exact ⟨k + 1, by omega, by go_num, HB.out, fun j hj => by
          by_cases e : j = k
          · subst e; exact HV.out
          · exact HF.out j (by omega)⟩
        case measure => simp [intOf]; omega
    · obtain rfl : k = n := by omega
      go_wp2
      go_ret
      exact ⟨ret_bool (by unfold hs; rw [fi_none HF.out]; rfl), HB.out⟩
end
end Go.Proofs.Ytobmnajgbhgdlaa
