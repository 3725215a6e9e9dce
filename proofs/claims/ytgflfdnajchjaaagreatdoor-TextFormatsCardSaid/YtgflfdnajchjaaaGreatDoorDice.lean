/- Dice that give out the numbers of a list (radiolinkroll): contracts of Mod, Light, Roll, Next. -/
import Derived.Test.YtgflfdnajchjaaaGreatDoorRows
import Derived.Test.YtgflfdnajchjaaaGreatDoorJB
namespace Go.Proofs.YtgflfdnajchjaaaGreatDoor
set_option linter.unusedVariables false
set_option linter.unusedSimpArgs false
open Go.RowKit Go.Sort
attribute [local go_sem] gcell

/-- A number from 0 to n - 1. -/
def modp (x n : Int) : Int := if n < 1 then 0 else x % n
theorem modp_bd (x n : Int) (h : 1 ≤ n) : 0 ≤ modp x n ∧ modp x n < n := by
  unfold modp; rw [if_neg (by omega)]
  exact ⟨Int.emod_nonneg _ (by omega), Int.emod_lt_of_pos _ (by omega)⟩
theorem modp_nonneg (x n : Int) : 0 ≤ modp x n := by
  by_cases h : n < 1
  · unfold modp; rw [if_pos h]; omega
  · exact (modp_bd x n (by omega)).1
theorem tmod_bd (x n : Int) (h : 1 ≤ n) : -n < x.tmod n ∧ x.tmod n < n := by
  have h1 := Int.tmod_lt_of_pos x (show 0 < n by omega)
  have h2 : -n < x.tmod n := by
    have := Int.neg_tmod (a := x) (b := n)
    have h3 := Int.tmod_lt_of_pos (-x) (show 0 < n by omega)
    omega
  exact ⟨h2, h1⟩
theorem tmod_emod (x n : Int) (h : 1 ≤ n) : (x.tmod n + n) % n = x % n := by
  rw [Int.add_emod_right]
  have := Int.mul_tdiv_add_tmod x n
  have e : x % n = (n * x.tdiv n + x.tmod n) % n := by rw [this]
  rw [e, Int.add_comm, Int.add_mul_emod_self_left]

set_option maxHeartbeats 1000000 in
theorem mod_any (x n : Int) (hn : n ≤ 1000000000) (w : World) : Calls Tryz.prog 15 #[.int .i64 x, .int .i64 n] w fun e w' => e = .returned (.int .i64 (modp x n)) ∧ w' = w := by
  by_cases h : n < 1
  · have hm : modp x n = 0 := by unfold modp; rw [if_pos h]
    rw [hm]
    clear hm
    go_enter Tryz.func15, Tryz.ntmps15
    go_wp2
    go_ret
    exact ⟨rfl, rfl⟩
  · have hm : modp x n = (x.tmod n + n) % n := by unfold modp; rw [if_neg h, tmod_emod x n (by omega)]
    rw [hm]
    obtain ⟨t1, t2⟩ := tmod_bd x n (by omega)
    have nz : (n == 0) = false := beq_eq_false_iff_ne.2 (by omega)
    have n1 : (n == -1) = false := beq_eq_false_iff_ne.2 (by omega)
    by_cases hx : 0 ≤ x
    · have ht : x.tmod n = x % n := Int.tmod_eq_emod_of_nonneg hx
      rw [ht] at t1 t2
      rw [ht]
      clear ht hm
      go_enter Tryz.func15, Tryz.ntmps15
      go_wp2
      go_ret
      exact ⟨rfl, rfl⟩
    · clear hm
      go_enter Tryz.func15, Tryz.ntmps15
      go_wp2
      go_ret
      exact ⟨rfl, rfl⟩

theorem light_any (a : Option Addr) (n c : Nat) (w : World) : Calls Tryz.prog 9 #[.slice a n c] w fun e w' => e = .returned (.bool (decide (n ≤ 300))) ∧ w' = w := by
  go_enter Tryz.func9, Tryz.ntmps9
  go_wp2
  go_ret
  exact ⟨ret_bool (by rw [Bool.eq_iff_iff]; simp; try omega), rfl⟩

/-- Dice in memory: block p has the list (its numbers in block g) and how many have been given out. -/
structure DiceAt (w : World) (p g : Nat) (a : Option Addr) (cap n : Nat) (xs : Nat → Int) (k : Nat) : Prop where
  c0 : w.cell? ⟨p, 0, none⟩ = some (.slice a n cap)
  c1 : w.cell? ⟨p, 1, none⟩ = some (.int .i64 k)
  f : ∀ o, w.frozen? ⟨p, o, none⟩ = false
  ea : 0 < n → a = some ⟨g, 0, none⟩
  ne : g ≠ p
  gl : g < w.heap.size
  xs : ∀ i, i < n → w.cell? ⟨g, i, none⟩ = some (.int .i64 (xs i))
theorem DiceAt.mono {w w' : World} {p g : Nat} {a : Option Addr} {cap n : Nat} {xs : Nat → Int} {k : Nat} (D : DiceAt w p g a cap n xs k) (hb : Below w.heap.size w w') : DiceAt w' p g a cap n xs k :=
  ⟨up hb D.c0, up hb D.c1, fun o => upf hb (lt_of_cell D.c0) (D.f o), D.ea, D.ne, Nat.lt_of_lt_of_le D.gl hb.size, fun i hi => up hb (D.xs i hi)⟩
theorem DiceAt.step {w : World} {p g : Nat} {a : Option Addr} {cap n : Nat} {xs : Nat → Int} {k : Nat} (D : DiceAt w p g a cap n xs k) (j : Nat) : DiceAt (w.setCell ⟨p, 1, none⟩ (.int .i64 j)) p g a cap n xs j := by
  refine ⟨?_, ?_, fun o => ?_, D.ea, D.ne, by simpa using D.gl, fun i hi => ?_⟩
  · simp [cell_set, D.c0]
  · simp [cell_set, D.c1]
  · rw [World.frozen?_setCell]; exact D.f o
  · rw [cell_set, if_neg (by simp [Ne.symm D.ne])]; exact D.xs i hi

/-- What dice give out, and where they then are. -/
def dval (xs : Nat → Int) (n k : Nat) (m : Int) : Int := if k < n then modp (xs k) m else 0
def dnext (n k : Nat) : Nat := if k < n then k + 1 else k
theorem dval_bd (xs : Nat → Int) (n k : Nat) (m : Int) (h : 1 ≤ m) : 0 ≤ dval xs n k m ∧ dval xs n k m < m := by
  unfold dval; split
  · exact modp_bd _ _ h
  · omega
theorem dval_nonneg (xs : Nat → Int) (n k : Nat) (m : Int) : 0 ≤ dval xs n k m := by
  unfold dval; split
  · exact modp_nonneg _ _
  · omega

/-- Only block p may have turned, among those that were there. -/
abbrev OnlyP (w w' : World) (p : Nat) : Prop := w.grownBy w' (some p)
theorem only_below {w w' : World} {p B : Nat} (h : OnlyP w w' p) (hp : B ≤ p) (hB : B ≤ w.heap.size) : Below B w w' :=
  ⟨h.os, h.tape, h.output, h.size, fun k hk => h.block k (by omega) (by simp; omega)⟩
theorem only_cell {w w' : World} {p b o : Nat} {v : Value} (h : OnlyP w w' p) (hb : b ≠ p) (hc : w.cell? ⟨b, o, none⟩ = some v) : w'.cell? ⟨b, o, none⟩ = some v := by
  rw [World.cell?_of_block (h.block b (lt_of_cell hc) (by simpa using hb))]; exact hc
theorem only_frozen {w w' : World} {p b o : Nat} (h : OnlyP w w' p) (hb : b ≠ p) (hl : b < w.heap.size) (hc : w.frozen? ⟨b, o, none⟩ = false) : w'.frozen? ⟨b, o, none⟩ = false := by
  rw [World.frozen?_of_block (h.block b hl (by simpa using hb))]; exact hc

theorem only_set (w : World) (p o : Nat) (v : Value) (n : Nat) : OnlyP w ((w.drewN n).setCell ⟨p, o, none⟩ v) p := by
  refine ⟨rfl, rfl, rfl, ?_, fun k hk hne => ?_⟩
  · simp [World.setCell]
  · rw [Below.heap_setCell _ _ _ _ (by simpa using hne)]; rfl

theorem DiceAt.drewN {w : World} {p g : Nat} {a : Option Addr} {cap n : Nat} {xs : Nat → Int} {k : Nat} (D : DiceAt w p g a cap n xs k) (q : Nat) : DiceAt (w.drewN q) p g a cap n xs k :=
  ⟨D.c0, D.c1, D.f, D.ea, D.ne, D.gl, D.xs⟩

set_option maxHeartbeats 2000000 in
theorem dice_next (p g : Nat) (a : Option Addr) (cap n : Nat) (xs : Nat → Int) (k : Nat) (m : Int) (w : World) (hm : m ≤ 1000000000) (hn : n ≤ 300) (D : DiceAt w p g a cap n xs k) :
    Calls Tryz.prog 12 #[.pointer (some ⟨p, 0, none⟩), .int .i64 m] w fun e w' => e = .returned (.int .i64 (dval xs n k m)) ∧ DiceAt w' p g a cap n xs (dnext n k) ∧ OnlyP w w' p := by
  have HD := Lib.hid D
  have c0 := D.c0
  have c1 := D.c1
  have f1 := D.f 1
  clear D
  by_cases h : k < n
  · have ea := HD.out.ea (by omega)
    subst ea
    have hv : dval xs n k m = modp (xs k) m := by unfold dval; rw [if_pos h]
    have hk : dnext n k = k + 1 := by unfold dnext; rw [if_pos h]
    rw [hv, hk]
    have d1 : decide ((n : Int) ≤ (k : Int)) = false := by simp; omega
    have d2 : decide (n ≤ k) = false := by simp; omega
    clear hv hk
    go_enter Tryz.func12, Tryz.ntmps12
    go_wp2_with fail
    go_quiet (fail)
    go_wp2_with fail
    have hD2 := (HD.out.drewN nq).step (k + 1)
    have hO := only_set w p 1 (.int .i64 ((k + 1 : Nat) : Int)) nq
    rw [show (((k + 1 : Nat) : Int)) = (k : Int) + 1 from by omega] at hD2 hO
    generalize (w.drewN nq).setCell ⟨p, 1, none⟩ (.int .i64 ((k : Int) + 1)) = w2 at *
    have HD2 := Lib.hid hD2
    have HO := Lib.hid hO
    clear hO c0 c1 f1
    have e0 := hD2.c0
    have e1 := hD2.c1
    have e2 := hD2.xs k h
    clear hD2
    have i0 : (0 : Int) ≤ (k : Int) := by omega
    have i1 : (k : Int) < (n : Int) := by omega
    go_quiet ((go_at_call 15; exact Calls.quiet_of_same (mod_any _ _ hm _)))
    go_wp2
    go_ret
    exact ⟨rfl, HD2.out.drewN _, ⟨HO.out.os, HO.out.tape, HO.out.output, HO.out.size, HO.out.block⟩⟩
  · have hv : dval xs n k m = 0 := by unfold dval; rw [if_neg h]
    have hk : dnext n k = k := by unfold dnext; rw [if_neg h]
    rw [hv, hk]
    have d1 : decide ((n : Int) ≤ (k : Int)) = true := by simp; omega
    have d2 : decide (n ≤ k) = true := by simp; omega
    clear hv hk
    go_enter Tryz.func12, Tryz.ntmps12
    go_wp2_with fail
    go_quiet (fail)
    go_wp2
    go_ret
    exact ⟨rfl, HD.out.drewN _, rfl, rfl, rfl, Nat.le_refl _, fun _ _ _ => rfl⟩

theorem diceInfo : (Tryz.prog.info? 3).map (fun i => (i.zero, i.size, i.bytes)) = some (some (.int .i64 0), 1, 8) := by kernel_rfl

/-- New dice: the list is copied. -/
def NewDice (w : World) (n : Nat) (xs : Nat → Int) (e : Ending) (w' : World) : Prop :=
  ∃ (p g : Nat) (a : Option Addr) (cap : Nat), e = .returned (.pointer (some ⟨p, 0, none⟩)) ∧ DiceAt w' p g a cap n xs 0 ∧ w.heap.size ≤ p ∧ Below w.heap.size w w'

set_option maxHeartbeats 2000000 in
theorem roll_none (w : World) (xs : Nat → Int) : Calls Tryz.prog 10 #[.slice none 0 0] w (NewDice w 0 xs) := by
  obtain ⟨i0, hi, hz0, hz1, hz2⟩ := info_parts diceInfo
  have HO := Lib.hid (show (w.alloc (.cells #[] 3)).ownsRow w.heap.size 3 1 (.slice (some ⟨w.heap.size, 0, none⟩) 0 0) 0 [] from ⟨rfl, .inr ⟨w.heap.size, 0, #[], rfl, Nat.le_refl _, (MapKept.heap_alloc w _).1, Nat.le_refl _, by decide, rfl, rfl⟩⟩)
  go_enter Tryz.func10, Tryz.ntmps10
  go_wp2_with (at_builtin; refine wpList_append_own_none rfl (.tmp 3) (.tmp 4) 24 rfl w.heap.size 3 i0 1 Tryz.underlying24 hi _ 0 [] rfl HO.out rfl ?_)
  go_ret
  exact ⟨w.heap.size + 1, w.heap.size, some ⟨w.heap.size, 0, none⟩, 0, by simp, ⟨by simp [go_sem], by simp [go_sem], fun o => by simp [go_sem], fun h => absurd h (Nat.lt_irrefl _), by omega, by simp; omega, fun i hi => absurd hi (Nat.not_lt_zero _)⟩, by omega, ((Below.refl _ _).alloc (Nat.le_refl _) _).alloc (by simp) _⟩

theorem row_cell {w : World} {base e : Nat} {v : Value} {n : Nat} {f : Nat → Value} (h : w.ownsRow base e 1 v n ((List.range n).map f)) (h0 : 0 < n) :
    ∃ g cap, v = .slice (some ⟨g, 0, none⟩) n cap ∧ base ≤ g ∧ g < w.heap.size ∧ ∀ i, i < n → w.cell? ⟨g, i, none⟩ = some (f i) := by
  obtain ⟨_, h1 | ⟨g, cap, cur, hv, hg, hh, hn, hm, hs, ht⟩⟩ := h
  · omega
  · refine ⟨g, cap, hv, hg, ?_, fun i hi => ?_⟩
    · exact (Array.getElem?_eq_some_iff.1 hh).1
    · have h2 := congrArg (fun l => l[i]?) ht
      simp only [Nat.mul_one, List.getElem?_take, List.getElem?_map, List.getElem?_range hi, Option.map_some, if_pos hi] at h2
      rw [cell_of_row w g i cur e (0, 0) hh]
      simpa using h2

set_option maxHeartbeats 2000000 in
theorem roll_some (w : World) (A : Addr) (b m n c : Nat) (xs : Nat → Int) (hn : n ≤ 300) (hA : 0 < n → A = ⟨b, m, none⟩) (hx : ∀ i, i < n → w.cell? ⟨b, m + i, none⟩ = some (.int .i64 (xs i))) : Calls Tryz.prog 10 #[.slice (some A) n c] w (NewDice w n xs) := by
  obtain ⟨i0, hi, hz0, hz1, hz2⟩ := info_parts diceInfo
  have HO := Lib.hid (show (w.alloc (.cells #[] 3)).ownsRow w.heap.size 3 1 (.slice (some ⟨w.heap.size, 0, none⟩) 0 0) 0 [] from ⟨rfl, .inr ⟨w.heap.size, 0, #[], rfl, Nat.le_refl _, (MapKept.heap_alloc w _).1, Nat.le_refl _, by decide, rfl, rfl⟩⟩)
  have hnews : ∀ j u, ((List.range n).map fun i => Value.int .i64 (xs i))[j]? = some u → (w.alloc (.cells #[] 3)).cell? (A.add j) = some u := fun j u hu => by
    have hj : j < n := by have := (List.getElem?_eq_some_iff.1 hu).1; simpa using this
    rw [List.getElem?_map, List.getElem?_range hj] at hu
    rw [hA (by omega), Addr.add_mid, ← hu]
    exact up ((Below.refl _ _).alloc (Nat.le_refl _) _) (hx j hj)
  have HN := Lib.hid hnews
  have h1 : ∀ u ∈ ((List.range n).map fun i => Value.int .i64 (xs i)), u.oneCell' = true := fun u hu => by
    obtain ⟨i, _, rfl⟩ := List.mem_map.1 hu
    rfl
  have H1 := Lib.hid h1
  have HL := Lib.hid (show ((List.range n).map fun i => Value.int .i64 (xs i)).length = n * 1 by simp)
  clear hnews h1 hx hA
  go_enter Tryz.func10, Tryz.ntmps10
  go_wp2_with (at_builtin; refine wpList_append_own _ rfl (.tmp 3) (.tmp 4) 24 rfl w.heap.size 3 i0 (.int .i64 0) 1 8 Tryz.underlying24 hi hz0 hz1 hz2 rfl (by decide) _ 0 [] rfl HO.out A n c ((List.range n).map fun i => Value.int .i64 (xs i)) rfl HL.out HN.out H1.out ?c1 ?c2 ?c3 ?_)
  case c1 => unfold maxLen; omega
  case c2 => omega
  case c3 => simp
  intro v' w' hown hgrow hnil
  have hB : Below w.heap.size w w' := ((Below.refl w.heap.size w).alloc (Nat.le_refl _) (.cells #[] 3)).grown hgrow (by simp) (fun k hk => by cases hk; exact Nat.le_refl _)
  have HB := Lib.hid hB
  have hsz := hB.size
  have hsz2 : w.heap.size < w'.heap.size := by have := hgrow.size; simp at this; omega
  have HW := Lib.hid hown
  clear hgrow hnil hB hown
  by_cases h0 : 0 < n
  · obtain ⟨g, cap, rfl, hg, hlt, hc⟩ := row_cell HW.out h0
    have HC := Lib.hid hc
    clear hc
    go_wp2
    go_ret
    exact ⟨w'.heap.size, g, some ⟨g, 0, none⟩, cap, by simp, ⟨by simp [go_sem], by simp [go_sem], fun o => by simp [go_sem], fun _ => rfl, by omega, by simp; omega, fun i hi => up ((Below.refl _ _).alloc (Nat.le_refl _) _) (HC.out i hi)⟩, hsz, HB.out.alloc hsz _⟩
  · have : n = 0 := by omega
    subst this
    have hv : ∃ a cap, v' = .slice a 0 cap := by
      obtain ⟨_, h1 | ⟨g, cap, cur, hv, _⟩⟩ := HW.out
      · exact ⟨none, 0, h1.1⟩
      · exact ⟨_, _, hv⟩
    obtain ⟨a, cap, rfl⟩ := hv
    go_wp2
    go_ret
    exact ⟨w'.heap.size, w.heap.size, a, cap, by simp, ⟨by simp [go_sem], by simp [go_sem], fun o => by simp [go_sem], fun h => absurd h (Nat.lt_irrefl _), by omega, by simp; omega, fun i hi => absurd hi (Nat.not_lt_zero _)⟩, hsz, HB.out.alloc hsz _⟩

theorem roll_any (w : World) (a : Option Addr) (b m n c : Nat) (xs : Nat → Int) (hn : n ≤ 300) (hc : n ≤ c) (h0 : a = none → c = 0) (ha : 0 < c → a = some ⟨b, m, none⟩) (hx : ∀ i, i < n → w.cell? ⟨b, m + i, none⟩ = some (.int .i64 (xs i))) :
    Calls Tryz.prog 10 #[.slice a n c] w (NewDice w n xs) := by
  cases a with
  | none =>
    have := h0 rfl
    obtain rfl : c = 0 := this
    obtain rfl : n = 0 := by omega
    exact roll_none w xs
  | some A => exact roll_some w A b m n c xs hn (fun h => Option.some.inj (ha (by omega))) hx

theorem only_refl (w : World) (p : Nat) : OnlyP w w p := ⟨rfl, rfl, rfl, Nat.le_refl _, fun _ _ _ => rfl⟩
theorem only_trans {a b c : World} {p : Nat} (h : OnlyP a b p) (k : OnlyP b c p) : OnlyP a c p :=
  ⟨k.os.trans h.os, k.tape.trans h.tape, k.output.trans h.output, Nat.le_trans h.size k.size, fun i hi hne => (k.block i (Nat.lt_of_lt_of_le hi h.size) hne).trans (h.block i hi hne)⟩
theorem only_alloc {a b : World} {p : Nat} (h : OnlyP a b p) (o : Obj) : OnlyP a (b.alloc o) p :=
  ⟨h.os, h.tape, h.output, Nat.le_trans h.size (by simp), fun i hi hne => (Below.heap_alloc _ _ _ (Nat.lt_of_lt_of_le hi h.size)).trans (h.block i hi hne)⟩
theorem only_drew {a b : World} {p : Nat} (h : OnlyP a b p) : OnlyP a b.drew p := ⟨h.os, h.tape, h.output, h.size, h.block⟩
theorem only_drewN {a b : World} {p : Nat} (h : OnlyP a b p) (n : Nat) : OnlyP a (b.drewN n) p := ⟨h.os, h.tape, h.output, h.size, h.block⟩
theorem only_setNew {a b : World} {p q : Nat} (h : OnlyP a b p) (hq : a.heap.size ≤ q) (o : Nat) (v : Value) : OnlyP a (b.setCell ⟨q, o, none⟩ v) p :=
  ⟨h.os, h.tape, h.output, Nat.le_trans h.size (by simp [World.setCell]), fun i hi hne => (Below.heap_setCell _ _ _ _ (by show i ≠ q; omega)).trans (h.block i hi hne)⟩
theorem only_below' {a b c : World} {p : Nat} (h : OnlyP a b p) (k : Below b.heap.size b c) : OnlyP a c p :=
  ⟨k.os.trans h.os, k.tape.trans h.tape, k.output.trans h.output, Nat.le_trans h.size k.size, fun i hi hne => (k.block i (Nat.lt_of_lt_of_le hi h.size)).trans (h.block i hi hne)⟩
theorem DiceAt.drew {w : World} {p g : Nat} {a : Option Addr} {cap n : Nat} {xs : Nat → Int} {k : Nat} (D : DiceAt w p g a cap n xs k) : DiceAt w.drew p g a cap n xs k :=
  ⟨D.c0, D.c1, D.f, D.ea, D.ne, D.gl, D.xs⟩
theorem DiceAt.setFar {w : World} {p g : Nat} {a : Option Addr} {cap n : Nat} {xs : Nat → Int} {k : Nat} (D : DiceAt w p g a cap n xs k) {q : Nat} (hp : q ≠ p) (hg : q ≠ g) (o : Nat) (v : Value) : DiceAt (w.setCell ⟨q, o, none⟩ v) p g a cap n xs k := by
  refine ⟨?_, ?_, fun o => ?_, D.ea, D.ne, by simpa using D.gl, fun i hi => ?_⟩
  · rw [cell_set, if_neg (by simp [hp])]; exact D.c0
  · rw [cell_set, if_neg (by simp [hp])]; exact D.c1
  · rw [World.frozen?_setCell]; exact D.f o
  · rw [cell_set, if_neg (by simp [hg])]; exact D.xs i hi
theorem DiceAt.alloc {w : World} {p g : Nat} {a : Option Addr} {cap n : Nat} {xs : Nat → Int} {k : Nat} (D : DiceAt w p g a cap n xs k) (o : Obj) : DiceAt (w.alloc o) p g a cap n xs k :=
  D.mono ((Below.refl _ _).alloc (Nat.le_refl _) _)
end Go.Proofs.YtgflfdnajchjaaaGreatDoor
