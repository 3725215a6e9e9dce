/- Layer 37: whether two measurements are the same; how long a cell was better. -/
import Derived.Test.YtbhldnfldkjoiaaM2
namespace Go.Proofs.Ytbhldnfldkjoiaa
set_option linter.unusedVariables false
set_option linter.unusedSimpArgs false
open Go.RowKit Go.Sort
attribute [local go_sem] gcell

set_option maxHeartbeats 1000000 in
theorem same12 (v1 v2 : Value) (n m n' m' : Nat) (fs hs fs' hs' : Nat → Int) (w : World) (S1 : Sg w v1 n m fs hs) (S2 : Sg w v2 n' m' fs' hs') (h1 : n ≤ 1000) (h2 : m ≤ 1000) (h3 : n' ≤ 1000) (h4 : m' ≤ 1000) :
    Calls Try.prog 12 #[v1, v2] w fun e w' => e = .returned (.bool (same n n' fs fs' && same m m' hs hs')) ∧ Below w.heap.size w w' := by
  obtain ⟨a1, d1, c1, l1, rfl, _, _, r1, q1⟩ := S1
  obtain ⟨a2, d2, c2, l2, rfl, _, _, r2, q2⟩ := S2
  have hB : Below w.heap.size w ((w.alloc (.cells #[.slice a1 n c1, .slice d1 m l1] 26)).alloc (.cells #[.slice a2 n' c2, .slice d2 m' l2] 26)) := ((Below.refl _ _).alloc (Nat.le_refl _) _).alloc (by simp) _
  have R1 := Lib.hid (r1.mono hB)
  have R2 := Lib.hid (r2.mono hB)
  have Q1 := Lib.hid (q1.mono hB)
  have Q2 := Lib.hid (q2.mono hB)
  have HB := Lib.hid hB
  clear r1 r2 q1 q2 hB
  unfold sv
  have l1' : n ≤ maxLen := by unfold maxLen; omega
  have l2' : m ≤ maxLen := by unfold maxLen; omega
  have l3' : n' ≤ maxLen := by unfold maxLen; omega
  have l4' : m' ≤ maxLen := by unfold maxLen; omega
  go_enter Try.func12, Try.ntmps12
  go_wp2_with (go_at_call 24; refine (same24 _ _ n _ n' _ fs fs' _ R1.out R2.out l1' l3').mono ?_)
  intro e w1 h
  obtain ⟨rfl, hb⟩ := h
  have k1 := up hb (b := w.heap.size) (o := 1) (v := .slice d1 m l1) (by simp [go_sem])
  have k2 := up hb (b := w.heap.size + 1) (o := 1) (v := .slice d2 m' l2) (by simp [go_sem])
  have Q11 := Lib.hid (Q1.out.mono hb)
  have Q21 := Lib.hid (Q2.out.mono hb)
  have hB := HB.out.trans (hb.mono (by simp; omega))
  have HB1 := Lib.hid hB
  have z1 := hB.size
  clear R1 R2 Q1 Q2 HB hb hB
  cases hq : same n n' fs fs'
  · go_wp2
    go_ret
    exact ⟨ret_bool (by rw [hq]; rfl), HB1.out⟩
  · go_wp2_with (go_at_call 24; refine (same24 _ _ m _ m' _ hs hs' _ Q11.out Q21.out l2' l4').mono ?_)
    intro e w2 h
    obtain ⟨rfl, hb⟩ := h
    have HB2 := Lib.hid (bthen HB1.out hb z1)
    clear Q11 Q21 hb HB1
    go_wp2
    go_ret
    exact ⟨ret_bool (by rw [hq]; rfl), HB2.out⟩

def held (f : Nat → Int) (own : Nat) (mg bk : Int) (hs : Nat → Int) (i : Nat) : Int :=
  if i = own ∨ f i - f own ≤ 16 * (mg - bk) then 0 else if 16 * mg < f i - f own then min (hs i + 1) 1000 else hs i

set_option maxHeartbeats 1000000 in
theorem held29 (p q r s b1 b2 n c l m : Nat) (a1 d1 : Option Addr) (x0 x1 : Value) (own i : Nat) (mg bk : Int) (f hs : Nat → Int) (w : World) (hi : i < n) (hown : own < n) (hn : n ≤ 1000) (hm : m = n)
    (P : w.cell? ⟨p, 0, none⟩ = some (.slice (some ⟨b1, 0, none⟩) n c)) (F : ∀ k, k < n → w.cell? ⟨b1, k, none⟩ = some (.int .i64 (f k)))
    (Q : w.cell? ⟨q, 0, none⟩ = some (.int .i64 own)) (M0 : w.cell? ⟨r, 0, none⟩ = some (.int .i64 mg)) (M1 : w.cell? ⟨r, 1, none⟩ = some (.int .i64 bk))
    (S : w.cell? ⟨s, 1, none⟩ = some (.slice d1 m l)) (H : Row w d1 m hs) (bf : ∀ k, k < n → -1000 ≤ f k ∧ f k ≤ 1000) (bm : -15 ≤ mg ∧ mg ≤ 15 ∧ 0 ≤ bk ∧ bk ≤ 15) (bh : ∀ k, k < n → 0 ≤ hs k ∧ hs k ≤ 1000) :
    Calls Try.prog 29 #[.int .i64 i, .pointer (some ⟨p, 0, none⟩), .pointer (some ⟨q, 0, none⟩), .pointer (some ⟨r, 0, none⟩), .pointer (some ⟨s, 0, none⟩)] w fun e w' => e = .returned (.int .i64 (held f own mg bk hs i)) ∧ Below w.heap.size w w' := by
  subst hm
  obtain ⟨b3, o3, hd, hx⟩ := H
  have y := hx i hi
  have hdk := hd (by omega)
  subst hdk
  have f1 := F i hi
  have f2 := F own hown
  have g1 := bf i hi
  have g2 := bf own hown
  have g3 := bh i hi
  clear F bf bh hx hd
  have t1 := lt_of_cell P
  have t2 := lt_of_cell Q
  have t3 := lt_of_cell f1
  have e1 : IntKind.i64.wrap (f i - f own) = f i - f own := IntWalk.i64_in _ (by omega)
  unfold held
  generalize hfi : f i = u at *
  generalize hfo : f own = v at *
  generalize hhi : hs i = z at *
  clear hfi hfo hhi
  obtain ⟨V, hV⟩ : ∃ V, V = (if i = own ∨ u - v ≤ 16 * (mg - bk) then 0 else if 16 * mg < u - v then min (z + 1) 1000 else z) := ⟨_, rfl⟩
  rw [← hV]
  have HV := Lib.hid hV
  clear hV
  go_enter Try.func29, Try.ntmps29
  go_wp2_with fail
  go_quiet (fail)
  by_cases h1 : i = own
  · subst h1
    have k1 : ((i : Int) == (i : Int)) = true := beq_self_eq_true _
    go_wp2
    go_ret
    exact ⟨ret_int (by rw [HV.out, if_pos (by simp)]), rfl, rfl, rfl, Nat.le_refl _, fun _ _ => rfl⟩
  · have k1 : ((i : Int) == (own : Int)) = false := beq_eq_false_iff_ne.2 (by omega)
    by_cases h2 : u - v ≤ 16 * (mg - bk)
    · go_wp2
      go_ret
      exact ⟨ret_int (by rw [HV.out, if_pos (.inr h2)]), rfl, rfl, rfl, Nat.le_refl _, fun _ _ => rfl⟩
    · by_cases h3 : 16 * mg < u - v
      · go_wp2
        all_goals
          go_ret
          exact ⟨ret_int (by rw [HV.out, if_neg (by omega), if_pos h3]; omega), rfl, rfl, rfl, Nat.le_refl _, fun _ _ => rfl⟩
      · go_wp2
        go_ret
        exact ⟨ret_int (by rw [HV.out, if_neg (by omega), if_neg (by omega)]), rfl, rfl, rfl, Nat.le_refl _, fun _ _ => rfl⟩
end Go.Proofs.Ytbhldnfldkjoiaa
