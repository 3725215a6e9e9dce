/- The plain laws of layer 35. -/
namespace Go.Proofs.Ytjbokpejfifamaa

/-- A rhythm. -/
structure Rh where
  c : Int
  o : Int
  n : Int
  l : Int
  s : Int
  h : Int

def bad1 (r : Rh) : Prop := r.c < 1 ∨ 256 < r.c ∨ r.o < 0 ∨ r.c ≤ r.o ∨ r.n < 1 ∨ r.c < r.n ∨ r.l < 0 ∨ 256 < r.l
def bad2 (r : Rh) : Prop := (r.s ≠ 0 ∧ (r.s < r.n ∨ r.c < r.s)) ∨ r.h < 0 ∨ 16 < r.h
instance (r : Rh) : Decidable (bad1 r) := by unfold bad1; infer_instance
instance (r : Rh) : Decidable (bad2 r) := by unfold bad2; infer_instance
def check (r : Rh) : Int := if bad1 r then 3 else if bad2 r then 3 else 0
def okR (r : Rh) : Bool := decide (¬ bad1 r ∧ ¬ bad2 r)
theorem check_ok {r : Rh} (h : okR r = true) : check r = 0 := by
  have := of_decide_eq_true h
  unfold check; rw [if_neg this.1, if_neg this.2]
theorem check_bad {r : Rh} (h : okR r = false) : check r = 3 := by
  have := of_decide_eq_false h
  unfold check; split
  · rfl
  · rw [if_pos]; exact Classical.byContradiction fun h2 => this ⟨‹_›, h2⟩
theorem okR_iff (r : Rh) : okR r = true ↔ 1 ≤ r.c ∧ r.c ≤ 256 ∧ 0 ≤ r.o ∧ r.o < r.c ∧ 1 ≤ r.n ∧ r.n ≤ r.c ∧ 0 ≤ r.l ∧ r.l ≤ 256 ∧ (r.s = 0 ∨ (r.n ≤ r.s ∧ r.s ≤ r.c)) ∧ 0 ≤ r.h ∧ r.h ≤ 16 := by
  unfold okR bad1 bad2
  rw [decide_eq_true_eq]
  omega

def lookB (r : Rh) (last tick most : Int) : Bool := okR r && decide (0 ≤ tick ∧ tick ≤ most ∧ -1 ≤ last ∧ last ≤ tick)
theorem lookB_iff (r : Rh) (last tick most : Int) : lookB r last tick most = true ↔ okR r = true ∧ 0 ≤ tick ∧ tick ≤ most ∧ -1 ≤ last ∧ last ≤ tick := by
  unfold lookB; rw [Bool.and_eq_true, decide_eq_true_eq]

def cyc (r : Rh) (t : Int) : Bool := decide ((t + r.c - r.o) % r.c < r.n)
def ling (r : Rh) (last t : Int) : Bool := decide (0 ≤ last ∧ t - last ≤ r.l)
def shrt (r : Rh) (last t : Int) : Bool := decide (0 ≤ last ∧ 0 < r.s ∧ 0 ≤ t - last - r.l - 1 ∧ (t - last - r.l - 1) / r.s < r.h ∧ (t - last - r.l - 1) % r.s < r.n)
def lis (r : Rh) (last t : Int) : Bool := cyc r t || ling r last t || shrt r last t
def awk (r : Rh) (last t : Int) : Bool := lookB r last t 1048576 && lis r last t

/-- The first tick from t on, at most f further, at which it listens. -/
def nextGo (r : Rh) (last : Int) : Nat → Int → Int
  | 0, t => t
  | f + 1, t => if awk r last t then t else nextGo r last f (t + 1)
def next (r : Rh) (last tick : Int) : Int := nextGo r last 256 tick

theorem look_up {r : Rh} {last tick t : Int} (h : lookB r last tick 1048320 = true) (h1 : tick ≤ t) (h2 : t ≤ tick + 256) : lookB r last t 1048576 = true := by
  rw [lookB_iff] at h ⊢
  obtain ⟨h0, h3, h4, h5, h6⟩ := h
  exact ⟨h0, by omega, by omega, by omega, by omega⟩

/-- Within a cycle there is a tick at which it listens. -/
theorem cyc_hit {r : Rh} {last tick : Int} (h : lookB r last tick 1048320 = true) : ∃ d : Nat, (d : Int) < r.c ∧ awk r last (tick + d) = true := by
  have h0 := (lookB_iff _ _ _ _).1 h
  obtain ⟨c1, c2, o1, o2, n1, n2, _⟩ := (okR_iff r).1 h0.1
  have m1 := Int.emod_nonneg (tick + r.c - r.o) (show r.c ≠ 0 by omega)
  have m2 := Int.emod_lt_of_pos (tick + r.c - r.o) (show 0 < r.c by omega)
  by_cases hz : (tick + r.c - r.o) % r.c = 0
  · refine ⟨0, by omega, ?_⟩
    unfold awk lis cyc
    rw [look_up h (by omega) (by omega)]
    simp only [Bool.true_and, Bool.or_eq_true, decide_eq_true_eq]
    left; left
    rw [show tick + ((0 : Nat) : Int) + r.c - r.o = tick + r.c - r.o by omega, hz]; omega
  · refine ⟨(r.c - (tick + r.c - r.o) % r.c).toNat, by omega, ?_⟩
    unfold awk lis cyc
    rw [look_up h (by omega) (by omega)]
    simp only [Bool.true_and, Bool.or_eq_true, decide_eq_true_eq]
    left; left
    have e : tick + ((r.c - (tick + r.c - r.o) % r.c).toNat : Int) + r.c - r.o = (tick + r.c - r.o) - (tick + r.c - r.o) % r.c + r.c := by omega
    rw [e, Int.add_emod_right, Int.sub_emod, Int.emod_emod_of_dvd _ (Int.dvd_refl _), Int.sub_self]
    simp; omega

theorem nextGo_spec (r : Rh) (last : Int) : ∀ (f : Nat) (t : Int) (d : Nat), d < f → awk r last (t + d) = true → awk r last (nextGo r last f t) = true ∧ t ≤ nextGo r last f t ∧ nextGo r last f t ≤ t + d ∧ ∀ i, t ≤ i → i < nextGo r last f t → awk r last i = false
  | 0, t, d, hd, _ => absurd hd (Nat.not_lt_zero _)
  | f + 1, t, d, hd, h => by
    unfold nextGo
    by_cases ha : awk r last t = true
    · rw [if_pos ha]; exact ⟨ha, by omega, by omega, fun i h1 h2 => by omega⟩
    · rw [if_neg ha]
      have hd0 : d ≠ 0 := by rintro rfl; exact ha (by simpa using h)
      have ih := nextGo_spec r last f (t + 1) (d - 1) (by omega) (by rw [show t + 1 + ((d - 1 : Nat) : Int) = t + d by omega]; exact h)
      refine ⟨ih.1, by omega, by omega, fun i h1 h2 => ?_⟩
      by_cases hi : i = t
      · subst hi; simpa using ha
      · exact ih.2.2.2 i (by omega) h2

theorem next_spec {r : Rh} {last tick : Int} (h : lookB r last tick 1048320 = true) : awk r last (next r last tick) = true ∧ tick ≤ next r last tick ∧ next r last tick < tick + r.c ∧ ∀ i, tick ≤ i → i < next r last tick → awk r last i = false := by
  obtain ⟨d, hd, ha⟩ := cyc_hit h
  have h0 := (okR_iff r).1 ((lookB_iff _ _ _ _).1 h).1
  have := nextGo_spec r last 256 tick d (by omega) ha
  exact ⟨this.1, this.2.1, by unfold next; omega, this.2.2.2⟩

def cost (r : Rh) (k : Int) : Int := if okR r && decide (0 ≤ k ∧ k ≤ 256) then k * (r.n * 10 + (r.c - r.n) * 1) else 0
/-- The state behind a tick: the last reception, the battery. -/
def stepS (r : Rh) (last bat tick : Int) (got : Bool) : Int × Int :=
  if lookB r last tick 1048576 && decide (0 ≤ bat) then
    if awk r last tick then (if got then tick else last, max (bat - 10) 0) else (last, max (bat - 1) 0)
  else (last, bat)
end Go.Proofs.Ytjbokpejfifamaa
