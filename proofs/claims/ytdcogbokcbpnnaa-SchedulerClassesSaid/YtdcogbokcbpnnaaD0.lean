/- Layer 34: a table of the scheduler in memory. -/
import Derived.Test.YtdcogbokcbpnnaaB1
import Derived.Test.YtdcogbokcbpnnaaOwn
namespace Go.Proofs.Ytdcogbokcbpnnaa
set_option linter.unusedVariables false
set_option linter.unusedSimpArgs false
open Go.RowKit Go.Sort
attribute [local go_sem] gcell
/-- A demand, cell by cell. -/
structure Dm where
  q : Int
  ag : Int
  by' : Int
  mn : Int
  ow : Int
  dl : Int
  cl : Int
/-- Demands in memory. -/
def RD (w : World) (a : Option Addr) (n : Nat) (L : Nat → Dm) : Prop :=
  ∃ b m, (0 < n → a = some ⟨b, m, none⟩) ∧ ∀ k, k < n → w.cell? ⟨b, m + k * 7, none⟩ = some (.int .i64 (L k).q) ∧ w.cell? ⟨b, m + k * 7 + 1, none⟩ = some (.int .i64 (L k).ag) ∧ w.cell? ⟨b, m + k * 7 + 2, none⟩ = some (.int .i64 (L k).by') ∧ w.cell? ⟨b, m + k * 7 + 3, none⟩ = some (.int .i64 (L k).mn) ∧ w.cell? ⟨b, m + k * 7 + 4, none⟩ = some (.int .i64 (L k).ow) ∧ w.cell? ⟨b, m + k * 7 + 5, none⟩ = some (.int .i64 (L k).dl) ∧ w.cell? ⟨b, m + k * 7 + 6, none⟩ = some (.int .i64 (L k).cl)
theorem RD.mono {W w : World} {a : Option Addr} {n : Nat} {L : Nat → Dm} (H : RD W a n L) (hb : Below W.heap.size W w) : RD w a n L := by
  obtain ⟨b, m, h1, h2⟩ := H
  exact ⟨b, m, h1, fun k hk => by obtain ⟨c0, c1, c2, c3, c4, c5, c6⟩ := h2 k hk; exact ⟨up hb c0, up hb c1, up hb c2, up hb c3, up hb c4, up hb c5, up hb c6⟩⟩
theorem RD.congr {w : World} {a : Option Addr} {n : Nat} {L M : Nat → Dm} (H : RD w a n L) (h : ∀ k, k < n → L k = M k) : RD w a n M := by
  obtain ⟨b, m, h1, h2⟩ := H
  exact ⟨b, m, h1, fun k hk => by rw [← h k hk]; exact h2 k hk⟩
/-- What is being assigned: how many blocks are left, who has each one, how many each one has. -/
structure St where
  left : Nat
  ow : Nat → Int
  hs : Nat → Int
def tf (la : Option Addr) (n lc O R left H : Nat) (k : Nat) : Value := if k = 0 then .slice la n lc else if k = 1 then .slice (some ⟨O, 0, none⟩) R R else if k = 2 then .int .i64 left else .slice (some ⟨H, 0, none⟩) n n
/-- A table in memory. -/
structure Tb (w0 w : World) (T O H : Nat) (la : Option Addr) (n lc R : Nat) (L : Nat → Dm) (s : St) : Prop where
  bel : Below w0.heap.size w0 w
  rd : RD w0 la n L
  t : VAt w T 4 (tf la n lc O R s.left H)
  o : VAt w O R (iv s.ow)
  h : VAt w H n (iv s.hs)
  zt : w0.heap.size ≤ T
  zo : w0.heap.size ≤ O
  zh : w0.heap.size ≤ H
  n1 : T ≠ O
  n2 : T ≠ H
  n3 : O ≠ H
theorem Tb.mono {w0 w w' : World} {T O H : Nat} {la : Option Addr} {n lc R : Nat} {L : Nat → Dm} {s : St} (X : Tb w0 w T O H la n lc R L s) (hb : Below w.heap.size w w') : Tb w0 w' T O H la n lc R L s :=
  ⟨X.bel.trans (hb.mono X.bel.size), X.rd, X.t.mono hb, X.o.mono hb, X.h.mono hb, X.zt, X.zo, X.zh, X.n1, X.n2, X.n3⟩
theorem Tb.row {w0 w : World} {T O H : Nat} {la : Option Addr} {n lc R : Nat} {L : Nat → Dm} {s : St} (X : Tb w0 w T O H la n lc R L s) : RD w la n L := X.rd.mono X.bel
/-- What a walk needs of the table: its four cells. -/
theorem Tb.cells {w0 w : World} {T O H : Nat} {la : Option Addr} {n lc R : Nat} {L : Nat → Dm} {s : St} (X : Tb w0 w T O H la n lc R L s) : w.cell? ⟨T, 0, none⟩ = some (.slice la n lc) ∧ w.cell? ⟨T, 1, none⟩ = some (.slice (some ⟨O, 0, none⟩) R R) ∧ w.cell? ⟨T, 2, none⟩ = some (.int .i64 s.left) ∧ w.cell? ⟨T, 3, none⟩ = some (.slice (some ⟨H, 0, none⟩) n n) :=
  ⟨X.t.c 0 (by omega), X.t.c 1 (by omega), X.t.c 2 (by omega), X.t.c 3 (by omega)⟩

/-- The first k from 1 to n with p k; 0 if there is none. -/
def firstK (p : Nat → Bool) : Nat → Nat
  | 0 => 0
  | n + 1 => if firstK p n = 0 then (if p (n + 1) = true then n + 1 else 0) else firstK p n
theorem firstK_none {p : Nat → Bool} : ∀ {n : Nat}, firstK p n = 0 ↔ ∀ j, 1 ≤ j → j ≤ n → p j = false
  | 0 => ⟨fun _ j h1 h2 => by omega, fun _ => rfl⟩
  | n + 1 => by
    have ih := firstK_none (p := p) (n := n)
    unfold firstK
    constructor
    · intro h j h1 h2
      by_cases h3 : firstK p n = 0
      · rw [if_pos h3] at h
        by_cases h4 : p (n + 1) = true
        · rw [if_pos h4] at h; omega
        · by_cases h5 : j = n + 1
          · subst h5; simpa using h4
          · exact ih.1 h3 j h1 (by omega)
      · rw [if_neg h3] at h; exact absurd h h3
    · intro h
      rw [if_pos (ih.2 fun j h1 h2 => h j h1 (by omega)), if_neg (by rw [h (n + 1) (by omega) (by omega)]; simp)]
theorem firstK_at {p : Nat → Bool} {n k : Nat} (h1 : 1 ≤ k) (h2 : k ≤ n) (h3 : ∀ j, 1 ≤ j → j < k → p j = false) (h4 : p k = true) : firstK p n = k := by
  induction n with
  | zero => omega
  | succ n ih =>
    unfold firstK
    by_cases h : k = n + 1
    · subst h
      rw [if_pos (firstK_none.2 fun j a b => h3 j a (by omega)), if_pos h4]
    · have := ih (by omega)
      rw [this, if_neg (by omega)]
theorem firstK_spec {p : Nat → Bool} {n : Nat} (h : firstK p n ≠ 0) : 1 ≤ firstK p n ∧ firstK p n ≤ n ∧ p (firstK p n) = true ∧ ∀ j, 1 ≤ j → j < firstK p n → p j = false := by
  induction n with
  | zero => exact absurd rfl h
  | succ n ih =>
    unfold firstK at h ⊢
    by_cases h1 : firstK p n = 0
    · rw [if_pos h1] at h ⊢
      by_cases h2 : p (n + 1) = true
      · rw [if_pos h2]
        exact ⟨by omega, by omega, h2, fun j a b => firstK_none.1 h1 j a (by omega)⟩
      · rw [if_neg h2] at h; exact absurd rfl h
    · rw [if_neg h1]
      obtain ⟨a, b, c, d⟩ := ih h1
      exact ⟨a, by omega, c, d⟩
theorem firstK_congr {p q : Nat → Bool} : ∀ {n : Nat}, (∀ j, 1 ≤ j → j ≤ n → p j = q j) → firstK p n = firstK q n
  | 0, _ => rfl
  | n + 1, h => by
    unfold firstK
    rw [firstK_congr fun j a b => h j a (by omega), h (n + 1) (by omega) (by omega)]
/-- How many blocks a demand that has h wants. -/
def wantsP (d : Dm) (h : Int) (left : Nat) : Nat := if 0 < d.ag ∨ d.by' ≤ bytes d.q h then 0 else firstK (fun k => decide (bytes d.q h < bytes d.q (h + k))) left
/-- How many blocks cover what a demand has to send. -/
def coverP (d : Dm) (h : Int) (left : Nat) : Nat := if firstK (fun k => decide (d.by' ≤ bytes d.q (h + k))) left = 0 then left else firstK (fun k => decide (d.by' ≤ bytes d.q (h + k))) left

section
variable {w0 w : World} {T O H : Nat} {la : Option Addr} {n lc R : Nat} {L : Nat → Dm} {s : St}
set_option maxRecDepth 100000 in
set_option maxHeartbeats 4000000 in
theorem bytes52 (X : Tb w0 w T O H la n lc R L s) (i : Nat) (hi : i < n) (hn : n ≤ 4) : Calls Try.prog 52 #[.pointer (some ⟨T, 0, none⟩), .int .i64 i] w fun e w' => e = .returned (.int .i64 (bytes (L i).q (s.hs i))) ∧ Below w.heap.size w w' := by
  obtain ⟨t0, t1, t2, t3⟩ := X.cells
  obtain ⟨b, m, h1, h2⟩ := X.row
  obtain rfl := h1 (by omega)
  obtain ⟨c0, -, -, -, -, -, -⟩ := h2 i hi
  have d0 := X.h.c i hi
  unfold iv at d0
  have lT := X.t.lt
  have lb := lt_of_cell c0
  have lH := X.h.lt
  clear h1 h2 X t1 t2
  generalize s.hs i = hv at *
  generalize (L i).q = qv at *
  have i1 : (0 : Int) ≤ (i : Int) := by omega
  have i2 : (i : Int) < (n : Int) := by omega
  go_enter Try.func52, Try.ntmps52
  go_wp2_with fail
  refine wp_region_quiet_below (by kernel_rfl) (by kernel_rfl) ?_
  repeat (go_big_quiet_step (first | (go_at_call 53; exact Calls.regrown_of (bytes53 _ _ _))))
  refine wpQuiet_nil ?_
  intro w2 hw2
  have hB := below_of_regrown hw2
  go_wp2
  go_ret
  exact ⟨rfl, hB⟩
end
end Go.Proofs.Ytdcogbokcbpnnaa
