/- Layer 31: the quality of a channel; the last fade. -/
import Derived.Test.YtfkbcjpiijcbfaaC4
namespace Go.Proofs.Ytfkbcjpiijcbfaa
set_option linter.unusedVariables false
set_option linter.unusedSimpArgs false
open Go.RowKit Go.Sort
attribute [local go_sem] gcell
def qual (g n : Int) : Int := if g ≤ 0 ∨ n < 0 then 0 else min (16 * min g 1048576 / (min g 1048576 + min n 1048576)) 15
theorem qual_yes (g n : Int) (h : ¬ g ≤ 0) (h2 : ¬ n < 0) : qual g n = min (16 * min g 1048576 / (min g 1048576 + min n 1048576)) 15 := by unfold qual; rw [if_neg (by omega)]
theorem qual_no (g n : Int) (h : g ≤ 0 ∨ n < 0) : qual g n = 0 := by unfold qual; rw [if_pos h]
set_option maxHeartbeats 400000 in
theorem quality30 (g n : Int) (w : World) : Calls Try.prog 30 #[.int .i64 g, .int .i64 n] w fun e w' => e = .returned (.int .i64 (qual g n)) ∧ w' = w := by
  have hc : g ≤ 0 ∨ (¬ g ≤ 0 ∧ n < 0) ∨ (¬ g ≤ 0 ∧ ¬ n < 0) := by omega
  rcases hc with h | ⟨h, h2⟩ | ⟨h, h2⟩
  · rw [qual_no _ _ (.inl h)]
    go_enter Try.func30, Try.ntmps30
    go_wp2
    go_ret
    exact ⟨rfl, rfl⟩
  · rw [qual_no _ _ (.inr h2)]
    go_enter Try.func30, Try.ntmps30
    go_wp2
    go_ret
    exact ⟨rfl, rfl⟩
  · have hg : (g ≤ 1048576 ∧ min g 1048576 = g) ∨ (1048576 < g ∧ min g 1048576 = 1048576) := by omega
    have hn : (n ≤ 1048576 ∧ min n 1048576 = n) ∨ (1048576 < n ∧ min n 1048576 = 1048576) := by omega
    rcases hg with ⟨g1, g2⟩ | ⟨g1, g2⟩ <;> rcases hn with ⟨n1, n2⟩ | ⟨n1, n2⟩
    all_goals
      rw [qual_yes _ _ h h2, g2, n2]
      clear g2 n2
      go_enter Try.func30, Try.ntmps30
      go_wp2
      all_goals
        go_ret
        exact ⟨ret_int (by omega), rfl⟩
/-- Fades, cell by cell. -/
structure Fd where
  t : Int
  c : Int
  f : Int
  g : Int
  n : Int
def R5 (w : World) (a : Option Addr) (n : Nat) (X : Nat → Fd) : Prop :=
  ∃ b m, (0 < n → a = some ⟨b, m, none⟩) ∧ ∀ k, k < n → w.cell? ⟨b, m + k * 5, none⟩ = some (.int .i64 (X k).t) ∧ w.cell? ⟨b, m + k * 5 + 1, none⟩ = some (.int .i64 (X k).c) ∧ w.cell? ⟨b, m + k * 5 + 2, none⟩ = some (.int .i64 (X k).f) ∧ w.cell? ⟨b, m + k * 5 + 3, none⟩ = some (.int .i64 (X k).g) ∧ w.cell? ⟨b, m + k * 5 + 4, none⟩ = some (.int .i64 (X k).n)
theorem R5.mono {W w : World} {a : Option Addr} {n : Nat} {X : Nat → Fd} (H : R5 W a n X) (hb : Below W.heap.size W w) : R5 w a n X := by
  obtain ⟨b, m, h1, h2⟩ := H
  exact ⟨b, m, h1, fun k hk => by obtain ⟨c0, c1, c2, c3, c4⟩ := h2 k hk; exact ⟨up hb c0, up hb c1, up hb c2, up hb c3, up hb c4⟩⟩
theorem R5.congr {w : World} {a : Option Addr} {n : Nat} {X Y : Nat → Fd} (H : R5 w a n X) (h : ∀ k, k < n → X k = Y k) : R5 w a n Y := by
  obtain ⟨b, m, h1, h2⟩ := H
  exact ⟨b, m, h1, fun k hk => by rw [← h k hk]; exact h2 k hk⟩
def hits (t c f : Int) (x : Fd) : Bool := (x.t == t) && (x.c == c) && decide (x.f ≤ f)
/-- The last fade that serves. -/
def atF (t c f : Int) (X : Nat → Fd) : Nat → Int × Int
  | 0 => (0, 0)
  | n + 1 => if hits t c f (X n) = true then ((X n).g, (X n).n) else atF t c f X n
theorem atF_no {t c f : Int} {X : Nat → Fd} {k : Nat} (h : hits t c f (X k) = false) : atF t c f X (k + 1) = atF t c f X k := by simp [atF, h]
theorem atF_yes {t c f : Int} {X : Nat → Fd} {k : Nat} (h : hits t c f (X k) = true) : atF t c f X (k + 1) = ((X k).g, (X k).n) := by simp [atF, h]
theorem ret_two {a b c d : Int} (h : a = c) (h2 : b = d) : Ending.returned (.tuple #[.int .i64 a, .int .i64 b]) = .returned (.tuple #[.int .i64 c, .int .i64 d]) := by rw [h, h2]
set_option maxRecDepth 100000 in
set_option maxHeartbeats 4000000 in
theorem at13 (a : Option Addr) (n cp : Nat) (X : Nat → Fd) (t c f : Int) (w : World) (H : R5 w a n X) (hn : n ≤ maxLen) :
    Calls Try.prog 13 #[.slice a n cp, .int .i64 t, .int .i64 c, .int .i64 f] w fun e w' => e = .returned (.tuple #[.int .i64 (atF t c f X n).1, .int .i64 (atF t c f X n).2]) ∧ Below w.heap.size w w' := by
  have HH := Lib.hid H
  clear H
  have hn2 := hn
  unfold maxLen at hn2
  go_enter Try.func13, Try.ntmps13
  go_wp2
  go_loopw [10] (fun i wr => ∃ k : Nat, k ≤ n ∧ i = .int .i64 ((k : Int) - 1) ∧ atF t c f X n = atF t c f X k ∧ Below w.heap.size w wr) (fun i _ => (intOf i + 1).toNat)
  case atStart => exact ⟨n, Nat.le_refl _, by go_num, rfl, Below.refl _ _⟩
  case round =>
    obtain ⟨k, hk, rfl, hf, hB⟩ := hrel
    have HB := Lib.hid hB
    have HF := Lib.hid hf
    clear hf
    cases k with
    | zero =>
      rw [show ((0 : Nat) : Int) - 1 = -1 from rfl]
      go_wp2
      go_ret2
      exact ⟨ret_two (by rw [HF.out]; rfl) (by rw [HF.out]; rfl), HB.out⟩
    | succ k =>
      rw [show ((k + 1 : Nat) : Int) - 1 = (k : Int) by omega]
      obtain ⟨b, m, h1, h2⟩ := HH.out.mono hB
      obtain rfl := h1 (by omega)
      obtain ⟨c0, c1, c2, c3, c4⟩ := h2 k (by omega)
      have hb1 := lt_of_cell c0
      have hsz := hB.size
      clear h1 h2 hB
      have i1 : (0 : Int) ≤ (k : Int) := by omega
      have i2 : (k : Int) < (n : Int) := by omega
      obtain ⟨q1, e1⟩ : ∃ q, ((X k).t == t) = q := ⟨_, rfl⟩
      obtain ⟨q2, e2⟩ : ∃ q, ((X k).c == c) = q := ⟨_, rfl⟩
      obtain ⟨q3, e3⟩ : ∃ q, decide ((X k).f ≤ f) = q := ⟨_, rfl⟩
      have HQ := Lib.hid (show hits t c f (X k) = (q1 && q2 && q3) by unfold hits; rw [e1, e2, e3])
      generalize (X k).t = x0 at *
      generalize (X k).c = x1 at *
      generalize (X k).f = x2 at *
      cases q1 <;> cases q2 <;> cases q3
      all_goals
        go_wp2
        first
        | exact ⟨⟨k, by omega, rfl, HF.out.trans (atF_no HQ.out), HB.out.alloc hsz _⟩, by simp only [intOf]; omega⟩
        | (go_quiet (fail)
           go_wp2
           go_ret2
           exact ⟨ret_two (by rw [HF.out, atF_yes HQ.out]) (by rw [HF.out, atF_yes HQ.out]), below_drewN (HB.out.alloc hsz _) nq⟩)
/-- The quality of the channel. -/
theorem qual20 (a : Option Addr) (n cp : Nat) (X : Nat → Fd) (t c f : Int) (w : World) (H : R5 w a n X) (hn : n ≤ maxLen) :
    Calls Try.prog 20 #[.slice a n cp, .int .i64 t, .int .i64 c, .int .i64 f] w fun e w' => e = .returned (.int .i64 (qual (atF t c f X n).1 (atF t c f X n).2)) ∧ Below w.heap.size w w' := by
  have K := Lib.hid (at13 a n cp X t c f w H hn)
  clear H
  go_enter Try.func20, Try.ntmps20
  go_wp2_with fail
  refine K.out.mono ?_
  rintro e w1 ⟨rfl, hB⟩
  have HB := Lib.hid hB
  clear hB
  go_wp2_with (go_at_call 30; refine (quality30 _ _ _).mono ?_; rintro e w2 ⟨rfl, rfl⟩)
  go_ret
  exact ⟨rfl, HB.out⟩
end Go.Proofs.Ytfkbcjpiijcbfaa
