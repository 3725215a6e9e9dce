import Derived.Test.YtgflfdnajchjaaaGreatDoorRows
import Derived.Test.YtgflfdnajchjaaaGreatDoorPB
import Derived.Lib.AppendStr
import Derived.Deep.DeepCutAuto
import Derived.Deep.Cut
import Derived.Deep.OwnRows
set_option linter.unusedVariables false
set_option linter.unusedSimpArgs false
namespace Go.Proofs.YtgflfdnajchjaaaGreatDoor
open Go.Lib (hid)
open Go.RowKit
section
open Go.RowKit Go.Sort
attribute [local go_sem] gcell
def modp (x n : Int) : Int := if n < 1 then 0 else x % n
theorem modp_bd (x n : Int) (h : 1 ≤ n) : 0 ≤ modp x n ∧ modp x n < n := by
 unfold modp; rw [if_neg (by omega)]
 exact ⟨Int.emod_nonneg _ (by omega), Int.emod_lt_of_pos _ (by omega)⟩
theorem tmod_bd (x n : Int) (h : 1 ≤ n) : -n < x.tmod n ∧ x.tmod n < n := by
 have h1 := Int.tmod_lt_of_pos x (show 0 < n by omega)
 have h2 : -n < x.tmod n := by
  have := Int.neg_tmod (a := x) (b := n)
  have h3 := Int.tmod_lt_of_pos (-x) (show 0 < n by omega)
  omega
 exact ⟨h2, h1⟩
theorem tmod_emod (x n : Int) (h : 1 ≤ n) : (x.tmod n + n) % n = x % n := by
 rw [Int.add_emod_right]
 have := Int.mul_tdiv_add_tmod x n
 have e : x % n = (n * x.tdiv n + x.tmod n) % n := by rw [this]
 rw [e, Int.add_comm, Int.add_mul_emod_self_left]
set_option maxHeartbeats 1000000 in
theorem mod_any (x n : Int) (hn : n ≤ 1000000000) (w : World) : Calls Tryz.prog 15 #[.int .i64 x, .int .i64 n] w fun e w' => e = .returned (.int .i64 (modp x n)) ∧ w' = w := by
 by_cases h : n < 1
 · have hm : modp x n = 0 := by unfold modp; rw [if_pos h]
   rw [hm]
   clear hm
   go_enter Tryz.func15, Tryz.ntmps15
   go_wp2
   go_ret
   exact ⟨rfl, rfl⟩
 · have hm : modp x n = (x.tmod n + n) % n := by unfold modp; rw [if_neg h, tmod_emod x n (by omega)]
   rw [hm]
   obtain ⟨t1, t2⟩ := tmod_bd x n (by omega)
   have nz : (n == 0) = false := beq_eq_false_iff_ne.2 (by omega)
   have n1 : (n == -1) = false := beq_eq_false_iff_ne.2 (by omega)
   by_cases hx : 0 ≤ x
   · have ht : x.tmod n = x % n := Int.tmod_eq_emod_of_nonneg hx
     rw [ht] at t1 t2
     rw [ht]
     clear ht hm
     go_enter Tryz.func15, Tryz.ntmps15
     go_wp2
     go_ret
     exact ⟨rfl, rfl⟩
   · clear hm
     go_enter Tryz.func15, Tryz.ntmps15
     go_wp2
     go_ret
     exact ⟨rfl, rfl⟩
theorem light_any (a : Option Addr) (n c : Nat) (w : World) : Calls Tryz.prog 9 #[.slice a n c] w fun e w' => e = .returned (.bool (decide (n ≤ 300))) ∧ w' = w := by
 go_enter Tryz.func9, Tryz.ntmps9
 go_wp2
 go_ret
 exact ⟨ret_bool (by rw [Bool.eq_iff_iff]; simp; try omega), rfl⟩
structure DiceAt (w : World) (p g : Nat) (a : Option Addr) (cap n : Nat) (xs : Nat → Int) (k : Nat) : Prop where
 c0 : w.cell? ⟨p, 0, none⟩ = some (.slice a n cap)
 c1 : w.cell? ⟨p, 1, none⟩ = some (.int .i64 k)
 f : ∀ o, w.frozen? ⟨p, o, none⟩ = false
 ea : 0 < n → a = some ⟨g, 0, none⟩
 ne : g ≠ p
 gl : g < w.heap.size
 xs : ∀ i, i < n → w.cell? ⟨g, i, none⟩ = some (.int .i64 (xs i))
theorem DiceAt.mono {w w' : World} {p g : Nat} {a : Option Addr} {cap n : Nat} {xs : Nat → Int} {k : Nat} (D : DiceAt w p g a cap n xs k) (hb : Below w.heap.size w w') : DiceAt w' p g a cap n xs k :=
 ⟨up hb D.c0, up hb D.c1, fun o => upf hb (lt_of_cell D.c0) (D.f o), D.ea, D.ne, Nat.lt_of_lt_of_le D.gl hb.size, fun i hi => up hb (D.xs i hi)⟩
theorem DiceAt.step {w : World} {p g : Nat} {a : Option Addr} {cap n : Nat} {xs : Nat → Int} {k : Nat} (D : DiceAt w p g a cap n xs k) (j : Nat) : DiceAt (w.setCell ⟨p, 1, none⟩ (.int .i64 j)) p g a cap n xs j := by
 refine ⟨?_, ?_, fun o => ?_, D.ea, D.ne, by simpa using D.gl, fun i hi => ?_⟩
 · simp [cell_set, D.c0]
 · simp [cell_set, D.c1]
 · rw [World.frozen?_setCell]; exact D.f o
 · rw [cell_set, if_neg (by simp [Ne.symm D.ne])]; exact D.xs i hi
def dval (xs : Nat → Int) (n k : Nat) (m : Int) : Int := if k < n then modp (xs k) m else 0
def dnext (n k : Nat) : Nat := if k < n then k + 1 else k
theorem dval_bd (xs : Nat → Int) (n k : Nat) (m : Int) (h : 1 ≤ m) : 0 ≤ dval xs n k m ∧ dval xs n k m < m := by
 unfold dval; split
 · exact modp_bd _ _ h
 · omega
abbrev OnlyP (w w' : World) (p : Nat) : Prop := w.grownBy w' (some p)
theorem only_below {w w' : World} {p B : Nat} (h : OnlyP w w' p) (hp : B ≤ p) (hB : B ≤ w.heap.size) : Below B w w' :=
 ⟨h.os, h.tape, h.output, h.size, fun k hk => h.block k (by omega) (by simp; omega)⟩
theorem only_cell {w w' : World} {p b o : Nat} {v : Value} (h : OnlyP w w' p) (hb : b ≠ p) (hc : w.cell? ⟨b, o, none⟩ = some v) : w'.cell? ⟨b, o, none⟩ = some v := by
 rw [World.cell?_of_block (h.block b (lt_of_cell hc) (by simpa using hb))]; exact hc
theorem only_set (w : World) (p o : Nat) (v : Value) (n : Nat) : OnlyP w ((w.drewN n).setCell ⟨p, o, none⟩ v) p := by
 refine ⟨rfl, rfl, rfl, ?_, fun k hk hne => ?_⟩
 · simp [World.setCell]
 · rw [Below.heap_setCell _ _ _ _ (by simpa using hne)]; rfl
theorem DiceAt.drewN {w : World} {p g : Nat} {a : Option Addr} {cap n : Nat} {xs : Nat → Int} {k : Nat} (D : DiceAt w p g a cap n xs k) (q : Nat) : DiceAt (w.drewN q) p g a cap n xs k :=
 ⟨D.c0, D.c1, D.f, D.ea, D.ne, D.gl, D.xs⟩
set_option maxHeartbeats 2000000 in
theorem dice_next (p g : Nat) (a : Option Addr) (cap n : Nat) (xs : Nat → Int) (k : Nat) (m : Int) (w : World) (hm : m ≤ 1000000000) (hn : n ≤ 300) (D : DiceAt w p g a cap n xs k) :
 Calls Tryz.prog 12 #[.pointer (some ⟨p, 0, none⟩), .int .i64 m] w fun e w' => e = .returned (.int .i64 (dval xs n k m)) ∧ DiceAt w' p g a cap n xs (dnext n k) ∧ OnlyP w w' p := by
 have HD := hid D
 have c0 := D.c0
 have c1 := D.c1
 have f1 := D.f 1
 clear D
 by_cases h : k < n
 · have ea := HD.out.ea (by omega)
   subst ea
   have hv : dval xs n k m = modp (xs k) m := by unfold dval; rw [if_pos h]
   have hk : dnext n k = k + 1 := by unfold dnext; rw [if_pos h]
   rw [hv, hk]
   have d1 : decide ((n : Int) ≤ (k : Int)) = false := by simp; omega
   have d2 : decide (n ≤ k) = false := by simp; omega
   clear hv hk
   go_enter Tryz.func12, Tryz.ntmps12
   go_wp2_with fail
   go_quiet (fail)
   go_wp2_with fail
   have hD2 := (HD.out.drewN nq).step (k + 1)
   have hO := only_set w p 1 (.int .i64 ((k + 1 : Nat) : Int)) nq
   rw [show (((k + 1 : Nat) : Int)) = (k : Int) + 1 from by omega] at hD2 hO
   generalize (w.drewN nq).setCell ⟨p, 1, none⟩ (.int .i64 ((k : Int) + 1)) = w2 at *
   have HD2 := hid hD2
   have HO := hid hO
   clear hO c0 c1 f1
   have e0 := hD2.c0
   have e1 := hD2.c1
   have e2 := hD2.xs k h
   clear hD2
   have i0 : (0 : Int) ≤ (k : Int) := by omega
   have i1 : (k : Int) < (n : Int) := by omega
   go_quiet ((go_at_call 15; exact Calls.quiet_of_same (mod_any _ _ hm _)))
   go_wp2
   go_ret
   exact ⟨rfl, HD2.out.drewN _, ⟨HO.out.os, HO.out.tape, HO.out.output, HO.out.size, HO.out.block⟩⟩
 · have hv : dval xs n k m = 0 := by unfold dval; rw [if_neg h]
   have hk : dnext n k = k := by unfold dnext; rw [if_neg h]
   rw [hv, hk]
   have d1 : decide ((n : Int) ≤ (k : Int)) = true := by simp; omega
   have d2 : decide (n ≤ k) = true := by simp; omega
   clear hv hk
   go_enter Tryz.func12, Tryz.ntmps12
   go_wp2_with fail
   go_quiet (fail)
   go_wp2
   go_ret
   exact ⟨rfl, HD.out.drewN _, rfl, rfl, rfl, Nat.le_refl _, fun _ _ _ => rfl⟩
theorem diceInfo : (Tryz.prog.info? 3).map (fun i => (i.zero, i.size, i.bytes)) = some (some (.int .i64 0), 1, 8) := by kernel_rfl
def NewDice (w : World) (n : Nat) (xs : Nat → Int) (e : Ending) (w' : World) : Prop :=
 ∃ (p g : Nat) (a : Option Addr) (cap : Nat), e = .returned (.pointer (some ⟨p, 0, none⟩)) ∧ DiceAt w' p g a cap n xs 0 ∧ w.heap.size ≤ p ∧ Below w.heap.size w w'
set_option maxHeartbeats 2000000 in
theorem roll_none (w : World) (xs : Nat → Int) : Calls Tryz.prog 10 #[.slice none 0 0] w (NewDice w 0 xs) := by
 obtain ⟨i0, hi, hz0, hz1, hz2⟩ := info_parts diceInfo
 have HO := hid (show (w.alloc (.cells #[] 3)).ownsRow w.heap.size 3 1 (.slice (some ⟨w.heap.size, 0, none⟩) 0 0) 0 [] from ⟨rfl, .inr ⟨w.heap.size, 0, #[], rfl, Nat.le_refl _, (MapKept.heap_alloc w _).1, Nat.le_refl _, by decide, rfl, rfl⟩⟩)
 go_enter Tryz.func10, Tryz.ntmps10
 go_wp2_with (at_builtin; refine wpList_append_own_none rfl (.tmp 3) (.tmp 4) 24 rfl w.heap.size 3 i0 1 Tryz.underlying24 hi _ 0 [] rfl HO.out rfl ?_)
 go_ret
 exact ⟨w.heap.size + 1, w.heap.size, some ⟨w.heap.size, 0, none⟩, 0, by simp, ⟨by simp [go_sem], by simp [go_sem], fun o => by simp [go_sem], fun h => absurd h (Nat.lt_irrefl _), by omega, by simp; omega, fun i hi => absurd hi (Nat.not_lt_zero _)⟩, by omega, ((bR).alloc (Nat.le_refl _) _).alloc (by simp) _⟩
theorem row_cell {w : World} {base e : Nat} {v : Value} {n : Nat} {f : Nat → Value} (h : w.ownsRow base e 1 v n ((List.range n).map f)) (h0 : 0 < n) :
 ∃ g cap, v = .slice (some ⟨g, 0, none⟩) n cap ∧ base ≤ g ∧ g < w.heap.size ∧ ∀ i, i < n → w.cell? ⟨g, i, none⟩ = some (f i) := by
 obtain ⟨_, h1 | ⟨g, cap, cur, hv, hg, hh, hn, hm, hs, ht⟩⟩ := h
 · omega
 · refine ⟨g, cap, hv, hg, ?_, fun i hi => ?_⟩
   · exact (Array.getElem?_eq_some_iff.1 hh).1
   · have h2 := congrArg (fun l => l[i]?) ht
     simp only [Nat.mul_one, List.getElem?_take, List.getElem?_map, List.getElem?_range hi, Option.map_some, if_pos hi] at h2
     rw [cell_of_row w g i cur e (0, 0) hh]
     simpa using h2
set_option maxHeartbeats 2000000 in
theorem roll_some (w : World) (A : Addr) (b m n c : Nat) (xs : Nat → Int) (hn : n ≤ 300) (hA : 0 < n → A = ⟨b, m, none⟩) (hx : ∀ i, i < n → w.cell? ⟨b, m + i, none⟩ = some (.int .i64 (xs i))) : Calls Tryz.prog 10 #[.slice (some A) n c] w (NewDice w n xs) := by
 obtain ⟨i0, hi, hz0, hz1, hz2⟩ := info_parts diceInfo
 have HO := hid (show (w.alloc (.cells #[] 3)).ownsRow w.heap.size 3 1 (.slice (some ⟨w.heap.size, 0, none⟩) 0 0) 0 [] from ⟨rfl, .inr ⟨w.heap.size, 0, #[], rfl, Nat.le_refl _, (MapKept.heap_alloc w _).1, Nat.le_refl _, by decide, rfl, rfl⟩⟩)
 have hnews : ∀ j u, ((List.range n).map fun i => Value.int .i64 (xs i))[j]? = some u → (w.alloc (.cells #[] 3)).cell? (A.add j) = some u := fun j u hu => by
  have hj : j < n := by have := (List.getElem?_eq_some_iff.1 hu).1; simpa using this
  rw [List.getElem?_map, List.getElem?_range hj] at hu
  rw [hA (by omega), Addr.add_mid, ← hu]
  exact up ((bR).alloc (Nat.le_refl _) _) (hx j hj)
 have HN := hid hnews
 have h1 : ∀ u ∈ ((List.range n).map fun i => Value.int .i64 (xs i)), u.oneCell' = true := fun u hu => by
  obtain ⟨i, _, rfl⟩ := List.mem_map.1 hu
  rfl
 have H1 := hid h1
 have HL := hid (show ((List.range n).map fun i => Value.int .i64 (xs i)).length = n * 1 by simp)
 clear hnews h1 hx hA
 go_enter Tryz.func10, Tryz.ntmps10
 go_wp2_with (at_builtin; refine wpList_append_own _ rfl (.tmp 3) (.tmp 4) 24 rfl w.heap.size 3 i0 (.int .i64 0) 1 8 Tryz.underlying24 hi hz0 hz1 hz2 rfl (by decide) _ 0 [] rfl HO.out A n c ((List.range n).map fun i => Value.int .i64 (xs i)) rfl HL.out HN.out H1.out ?c1 ?c2 ?c3 ?_)
 case c1 => unfold maxLen; omega
 case c2 => omega
 case c3 => simp
 intro v' w' hown hgrow hnil
 have hB : Below w.heap.size w w' := ((Below.refl w.heap.size w).alloc (Nat.le_refl _) (.cells #[] 3)).grown hgrow (by simp) (fun k hk => by cases hk; exact Nat.le_refl _)
 have HB := hid hB
 have hsz := hB.size
 have hsz2 : w.heap.size < w'.heap.size := by have := hgrow.size; simp at this; omega
 have HW := hid hown
 clear hgrow hnil hB hown
 by_cases h0 : 0 < n
 · obtain ⟨g, cap, rfl, hg, hlt, hc⟩ := row_cell HW.out h0
   have HC := hid hc
   clear hc
   go_wp2
   go_ret
   exact ⟨w'.heap.size, g, some ⟨g, 0, none⟩, cap, by simp, ⟨by simp [go_sem], by simp [go_sem], fun o => by simp [go_sem], fun _ => rfl, by omega, by simp; omega, fun i hi => up ((bR).alloc (Nat.le_refl _) _) (HC.out i hi)⟩, hsz, HB.out.alloc hsz _⟩
 · have : n = 0 := by omega
   subst this
   have hv : ∃ a cap, v' = .slice a 0 cap := by
    obtain ⟨_, h1 | ⟨g, cap, cur, hv, _⟩⟩ := HW.out
    · exact ⟨none, 0, h1.1⟩
    · exact ⟨_, _, hv⟩
   obtain ⟨a, cap, rfl⟩ := hv
   go_wp2
   go_ret
   exact ⟨w'.heap.size, w.heap.size, a, cap, by simp, ⟨by simp [go_sem], by simp [go_sem], fun o => by simp [go_sem], fun h => absurd h (Nat.lt_irrefl _), by omega, by simp; omega, fun i hi => absurd hi (Nat.not_lt_zero _)⟩, hsz, HB.out.alloc hsz _⟩
theorem roll_any (w : World) (a : Option Addr) (b m n c : Nat) (xs : Nat → Int) (hn : n ≤ 300) (hc : n ≤ c) (h0 : a = none → c = 0) (ha : 0 < c → a = some ⟨b, m, none⟩) (hx : ∀ i, i < n → w.cell? ⟨b, m + i, none⟩ = some (.int .i64 (xs i))) :
 Calls Tryz.prog 10 #[.slice a n c] w (NewDice w n xs) := by
 cases a with
 | none =>
   have := h0 rfl
   obtain rfl : c = 0 := this
   obtain rfl : n = 0 := by omega
   exact roll_none w xs
 | some A => exact roll_some w A b m n c xs hn (fun h => oI (ha (by omega))) hx
theorem only_refl (w : World) (p : Nat) : OnlyP w w p := ⟨rfl, rfl, rfl, Nat.le_refl _, fun _ _ _ => rfl⟩
theorem only_trans {a b c : World} {p : Nat} (h : OnlyP a b p) (k : OnlyP b c p) : OnlyP a c p :=
 ⟨k.os.trans h.os, k.tape.trans h.tape, k.output.trans h.output, Nat.le_trans h.size k.size, fun i hi hne => (k.block i (Nat.lt_of_lt_of_le hi h.size) hne).trans (h.block i hi hne)⟩
theorem only_alloc {a b : World} {p : Nat} (h : OnlyP a b p) (o : Obj) : OnlyP a (b.alloc o) p :=
 ⟨h.os, h.tape, h.output, Nat.le_trans h.size (by simp), fun i hi hne => (Below.heap_alloc _ _ _ (Nat.lt_of_lt_of_le hi h.size)).trans (h.block i hi hne)⟩
theorem only_drewN {a b : World} {p : Nat} (h : OnlyP a b p) (n : Nat) : OnlyP a (b.drewN n) p := ⟨h.os, h.tape, h.output, h.size, h.block⟩
theorem only_setNew {a b : World} {p q : Nat} (h : OnlyP a b p) (hq : a.heap.size ≤ q) (o : Nat) (v : Value) : OnlyP a (b.setCell ⟨q, o, none⟩ v) p :=
 ⟨h.os, h.tape, h.output, Nat.le_trans h.size (by simp [World.setCell]), fun i hi hne => (Below.heap_setCell _ _ _ _ (by show i ≠ q; omega)).trans (h.block i hi hne)⟩
theorem only_below' {a b c : World} {p : Nat} (h : OnlyP a b p) (k : Below b.heap.size b c) : OnlyP a c p :=
 ⟨k.os.trans h.os, k.tape.trans h.tape, k.output.trans h.output, Nat.le_trans h.size k.size, fun i hi hne => (k.block i (Nat.lt_of_lt_of_le hi h.size)).trans (h.block i hi hne)⟩
theorem DiceAt.drew {w : World} {p g : Nat} {a : Option Addr} {cap n : Nat} {xs : Nat → Int} {k : Nat} (D : DiceAt w p g a cap n xs k) : DiceAt w.drew p g a cap n xs k :=
 ⟨D.c0, D.c1, D.f, D.ea, D.ne, D.gl, D.xs⟩
theorem DiceAt.alloc {w : World} {p g : Nat} {a : Option Addr} {cap n : Nat} {xs : Nat → Int} {k : Nat} (D : DiceAt w p g a cap n xs k) (o : Obj) : DiceAt (w.alloc o) p g a cap n xs k :=
 D.mono ((bR).alloc (Nat.le_refl _) _)
end
section
open Go.RowKit Go.Sort
def DiceS (w : World) (p B : Nat) : Prop := ∃ g a cap n xs k, DiceAt w p g a cap n xs k ∧ n ≤ 300 ∧ p < B ∧ g < B ∧ B ≤ w.heap.size
theorem DiceS.lt {w : World} {p B : Nat} (h : DiceS w p B) : p < B := by
 obtain ⟨g, a, cap, n, xs, k, D, h1, h2, h3, h4⟩ := h
 exact h2
theorem DiceS.le {w : World} {p B : Nat} (h : DiceS w p B) : B ≤ w.heap.size := by
 obtain ⟨g, a, cap, n, xs, k, D, h1, h2, h3, h4⟩ := h
 exact h4
theorem DiceS.mono {w w' : World} {p B C : Nat} (h : DiceS w p B) (hb : Below C w w') (hC : B ≤ C) : DiceS w' p B := by
 obtain ⟨g, a, cap, n, xs, k, D, h1, h2, h3, h4⟩ := h
 refine ⟨g, a, cap, n, xs, k, ⟨?_, ?_, fun o => ?_, D.ea, D.ne, ?_, fun i hi => ?_⟩, h1, h2, h3, Nat.le_trans h4 hb.size⟩
 · rw [hb.cell (p := ⟨p, 0, none⟩) (by show p < C; omega)]; exact D.c0
 · rw [hb.cell (p := ⟨p, 1, none⟩) (by show p < C; omega)]; exact D.c1
 · rw [World.frozen?_of_block (hb.block p (by omega))]; exact D.f o
 · exact Nat.lt_of_lt_of_le D.gl hb.size
 · rw [hb.cell (p := ⟨g, i, none⟩) (by show g < C; omega)]; exact D.xs i hi
theorem DiceS.drewN {w : World} {p B : Nat} (h : DiceS w p B) (q : Nat) : DiceS (w.drewN q) p B := by
 obtain ⟨g, a, cap, n, xs, k, D, h1, h2, h3, h4⟩ := h
 exact ⟨g, a, cap, n, xs, k, D.drewN q, h1, h2, h3, h4⟩
theorem next12 {p B : Nat} {m : Int} {w : World} (h1 : 1 ≤ m) (hm : m ≤ 1000000000) (D : DiceS w p B) :
 Calls Tryz.prog 12 #[.pointer (some ⟨p, 0, none⟩), .int .i64 m] w fun e w' => ∃ v : Int, e = .returned (.int .i64 v) ∧ 0 ≤ v ∧ v < m ∧ DiceS w' p B ∧ OnlyP w w' p := by
 obtain ⟨g, a, cap, n, xs, k, D, hn, h2, h3, h4⟩ := D
 refine (dice_next p g a cap n xs k m w hm hn D).mono ?_
 rintro e w' ⟨he, hd, ho⟩
 exact ⟨_, he, (dval_bd xs n k m h1).1, (dval_bd xs n k m h1).2, ⟨g, a, cap, n, xs, _, hd, hn, h2, h3, Nat.le_trans h4 ho.size⟩, ho⟩
theorem only_block {w w' : World} {p b : Nat} (h : OnlyP w w' p) (hb : b ≠ p) (hl : b < w.heap.size) : w'.heap[b]? = w.heap[b]? := h.block b hl (by simpa using hb)
end
section
open Go.RowKit Go.Sort
theorem only_box {w w' : World} {p z : Nat} {o : Obj} (h : OnlyP w w' p) (hz : z ≠ p) (H : w.heap[z]? = some o) : w'.heap[z]? = some o := (only_block h hz (Array.getElem?_eq_some_iff.1 H).1).trans H
theorem bx_cell {w : World} {z e : Nat} {cs : Array Value} {fz : Nat × Nat} (h : w.heap[z]? = some (.cells cs e fz)) (k : Nat) {v : Value} (hv : cs[k]? = some v) : w.cell? ⟨z, k, none⟩ = some v := by rw [cell_of_row w z k cs e fz h]; exact hv
theorem bx_fr {w : World} {z e : Nat} {cs : Array Value} (h : w.heap[z]? = some (.cells cs e (0, 0))) (k : Nat) : w.frozen? ⟨z, k, none⟩ = false := frozen_of_row w z k _ _ h
theorem bx_there_at {w : World} {z e : Nat} {cs : Array Value} (h : w.heap[z]? = some (.cells cs e (0, 0))) (o n : Nat) (ho : o + n ≤ cs.size) : w.there z o n := fun j hj => by
 have := bx_there h (o + j) (by omega)
 rwa [Nat.zero_add] at this
theorem bx_new (w : World) (cs : Array Value) (e : Nat) : (w.alloc (.cells cs e)).heap[w.heap.size]? = some (.cells cs e (0, 0)) := (MapKept.heap_alloc w _).1
theorem bx_keep {w : World} {z : Nat} {o : Obj} (x : Obj) (H : w.heap[z]? = some o) : (w.alloc x).heap[z]? = some o := (Below.heap_alloc _ _ _ (Array.getElem?_eq_some_iff.1 H).1).trans H
theorem bx_lt {w : World} {z : Nat} {o : Obj} (H : w.heap[z]? = some o) : z < w.heap.size := (Array.getElem?_eq_some_iff.1 H).1
theorem bx_range {w : World} {z e : Nat} {cs : Array Value} {fz : Nat × Nat} (h : w.heap[z]? = some (.cells cs e fz)) {l : List Value} (hl : cs = l.toArray) : w.rangeAt z 0 l := fun j v hv => by
 rw [Nat.zero_add]
 exact bx_cell h j (by rw [hl]; simpa using hv)
theorem DiceS.alloc {w : World} {p B : Nat} (h : DiceS w p B) (o : Obj) : DiceS (w.alloc o) p B := h.mono ((Below.refl w.heap.size w).alloc (Nat.le_refl _) o) h.le
theorem DiceS.set {w : World} {p B q o : Nat} {v : Value} (h : DiceS w p B) (hq : B ≤ q) : DiceS (w.setCell ⟨q, o, none⟩ v) p B := h.mono ((Below.refl B w).setCell (p := ⟨q, o, none⟩) (by exact hq) v) (Nat.le_refl _)
theorem DiceS.sets {w : World} {p B q : Nat} (h : DiceS w p B) (hq : B ≤ q) (o : Nat) (vs : List Value) : DiceS (w.setCells q o vs) p B := h.mono (bx_cells_base hq vs o w) (Nat.le_refl _)
theorem only_sets {a b : World} {p q : Nat} (h : OnlyP a b p) (hq : a.heap.size ≤ q) (o : Nat) (vs : List Value) : OnlyP a (b.setCells q o vs) p := by
 have k := bx_cells_base hq vs o b
 exact ⟨k.os.trans h.os, k.tape.trans h.tape, k.output.trans h.output, Nat.le_trans h.size k.size, fun i hi hne => (k.block i hi).trans (h.block i hi hne)⟩
end
section
open Go.RowKit Go.Sort
attribute [local go_sem] gcell
def ByR (w : World) (B : Nat) (v : Value) (n : Nat) : Prop := ∃ l : List UInt8, l.length = n ∧ w.ownsRow B 5 1 v n (Lib.byteCells l)
theorem u8_any (x : Int) : ∃ c : UInt8, IntKind.u8.wrap x = (c.toNat : Int) := by
 refine ⟨UInt8.ofNat (x % 256).toNat, ?_⟩
 rw [IntKind.wrap_u8]
 have h1 : 0 ≤ x % 256 := Int.emod_nonneg _ (by omega)
 have h2 : x % 256 < 256 := Int.emod_lt_of_pos _ (by omega)
 simp [UInt8.toNat_ofNat']
 omega
theorem u8_mod (x : Int) : ∃ c : UInt8, x % 256 = (c.toNat : Int) := by
 obtain ⟨c, h⟩ := u8_any x
 rw [IntKind.wrap_u8] at h
 exact ⟨c, h⟩
theorem bc_get (l : List UInt8) (k : Nat) : (Lib.byteCells l)[k]? = (l[k]?).map fun c => Value.int .u8 (c.toNat : Int) := by simp [Lib.byteCells]
theorem ByR.slice {w : World} {B n : Nat} {v : Value} (h : ByR w B v n) : ∃ a c, v = .slice a n c ∧ n ≤ c ∧ (0 < n → ∃ g, a = some ⟨g, 0, none⟩ ∧ B ≤ g ∧ g < w.heap.size ∧ (∀ o, w.frozen? ⟨g, o, none⟩ = false) ∧ ∀ k, k < n → ∃ c : UInt8, w.cell? ⟨g, k, none⟩ = some (.int .u8 (c.toNat : Int))) := by
 obtain ⟨l, hl, h⟩ := h
 have h' := h
 have hlt := h.lt
 obtain ⟨h1, ⟨hv, hn⟩ | ⟨g', cap, cur, hv, hg', hh, hn, hm, hr⟩⟩ := h
 · exact ⟨none, 0, by rw [hv, hn], by omega, fun h => by omega⟩
 · subst hv
   refine ⟨some ⟨g', 0, none⟩, cap, rfl, hn, fun _ => ⟨g', rfl, hg', (hlt g' rfl).2, fun o => h'.frozenAt o, fun k hk => ?_⟩⟩
   refine ⟨l.getD k 0, ?_⟩
   rw [h'.cellAt k (by omega), bc_get, List.getElem?_eq_getElem (by omega), List.getD_eq_getElem?_getD, List.getElem?_eq_getElem (by omega)]
   rfl
theorem ByR.set {w : World} {B n g c k : Nat} (h : ByR w B (.slice (some ⟨g, 0, none⟩) n c) n) (x : UInt8) : ByR (w.setCell ⟨g, k, none⟩ (.int .u8 (x.toNat : Int))) B (.slice (some ⟨g, 0, none⟩) n c) n := by
 obtain ⟨l, hl, h⟩ := h
 have h2 := (h.stored k (.int .u8 (x.toNat : Int))).1
 refine ⟨l.set k x, by simpa using hl, ?_⟩
 have e : Lib.byteCells (l.set k x) = (Lib.byteCells l).set k (.int .u8 (x.toNat : Int)) := by simp [Lib.byteCells, List.map_set]
 rw [e]
 exact h2
theorem byr_kept {w w' : World} {B n : Nat} {v : Value} (h : ByR w B v n) (hk : ∀ g, v.ownBlock = some g → w'.heap[g]? = w.heap[g]?) : ByR w' B v n := by
 obtain ⟨l, hl, h1, h2 | ⟨g, cap, cur, hv, hg, hh, hr⟩⟩ := h
 · exact ⟨l, hl, h1, .inl h2⟩
 · exact ⟨l, hl, h1, .inr ⟨g, cap, cur, hv, hg, (hk g (by rw [hv]; rfl)).trans hh, hr⟩⟩
theorem ByR.lt {w : World} {B n : Nat} {v : Value} (h : ByR w B v n) : ∀ g, v.ownBlock = some g → B ≤ g ∧ g < w.heap.size := by
 obtain ⟨l, hl, h⟩ := h
 exact h.lt
theorem ByR.mono {w w' : World} {B n : Nat} {v : Value} (h : ByR w B v n) (hb : Below w.heap.size w w') : ByR w' B v n := byr_kept h fun g hg => hb.block g (h.lt g hg).2
theorem ByR.base {w : World} {B C n : Nat} {v : Value} (h : ByR w B v n) (hC : C ≤ B) : ByR w C v n := by
 obtain ⟨l, hl, h1, h2 | ⟨g, cap, cur, hv, hg, hh, hr⟩⟩ := h
 · exact ⟨l, hl, h1, .inl h2⟩
 · exact ⟨l, hl, h1, .inr ⟨g, cap, cur, hv, Nat.le_trans hC hg, hh, hr⟩⟩
theorem byr_new (w : World) (l : List UInt8) (hl : l.length ≤ 1000000) : ByR (w.alloc (.cells (Lib.byteCells l).toArray 5)) w.heap.size (.slice (some ⟨w.heap.size, 0, none⟩) l.length l.length) l.length :=
 ⟨l, rfl, by simp [Lib.byteCells], .inr ⟨w.heap.size, l.length, (Lib.byteCells l).toArray, rfl, Nat.le_refl _, (MapKept.heap_alloc w _).1, Nat.le_refl _, by unfold maxLen; omega, by simp [Lib.byteCells], by rw [List.take_of_length_le (by simp [Lib.byteCells])]⟩⟩
theorem ByR.alloc {w : World} {B n : Nat} {v : Value} (h : ByR w B v n) (o : Obj) : ByR (w.alloc o) B v n := h.mono ((bR).alloc (Nat.le_refl _) o)
theorem ByR.only {w w' : World} {B n p : Nat} {v : Value} (h : ByR w B v n) (ho : OnlyP w w' p) (hp : p < B) : ByR w' B v n := byr_kept h fun g hg => only_block ho (by have := (h.lt g hg).1; omega) (h.lt g hg).2
theorem bz5 : (Tryz.prog.info? 5).map (fun i => (i.zero, i.size, i.bytes)) = some (some (.int .u8 0), 1, 1) := by kernel_rfl
section
variable {ops : Array Oper} {rest : List Oper} {o : Oper} {a : Act} {Q : Exit → Act → World → Prop}
theorem bytes_list {w : World} {g q : Nat} : ∀ {m : Nat}, (∀ k, k < m → ∃ c : UInt8, w.cell? ⟨g, q + k, none⟩ = some (.int .u8 (c.toNat : Int))) → ∃ l : List UInt8, l.length = m ∧ ∀ k u, (Lib.byteCells l)[k]? = some u → w.cell? ⟨g, q + k, none⟩ = some u
 | 0, _ => ⟨[], rfl, fun k u hu => by simp [Lib.byteCells] at hu⟩
 | m + 1, h => by
   obtain ⟨l, hl, hc⟩ := bytes_list (m := m) fun k hk => h k (by omega)
   obtain ⟨c, hcc⟩ := h m (by omega)
   refine ⟨l ++ [c], by simp [hl], fun k u hu => ?_⟩
   rw [bc_get] at hu
   by_cases hk : k < m
   · rw [List.getElem?_append_left (by omega)] at hu
     exact hc k u (by rw [bc_get]; exact hu)
   · by_cases hkm : k = m
     · subst hkm
       rw [← hl, List.getElem?_concat_length] at hu
       rw [hcc, ← hu]
       rfl
     · rw [List.getElem?_eq_none (by simp; omega)] at hu
       cases hu
theorem wpList_append_by (w : World) (base : Nat) (hgd : o.guard = none) (s x : Operand) (ho : o.op = .call { callee := .builtin .append, args := #[s, x], argTypes := #[46, 46] })
 (v : Value) (n : Nat) (hs : a.eval s = v) (hown : ByR w base v n) (g q m c : Nat) (hx : a.eval x = .slice (some ⟨g, q, none⟩) m c) (hc : ∀ k, k < m → ∃ c : UInt8, w.cell? ⟨g, q + k, none⟩ = some (.int .u8 (c.toNat : Int)))
 (hlen : n + m ≤ 1000000) (hbase : base ≤ w.heap.size)
 (h : ∀ v' w', ByR w' base v' (n + m) → w.grownBy w' v.ownBlock → (v'.ownBlock = v.ownBlock ∨ v'.ownBlock = some w.heap.size) → wpList Tryz.prog ops Q rest (a.put o.dst v') w') : wpList Tryz.prog ops Q (o :: rest) a w := by
 obtain ⟨i, hi1, hz, hsz, hby⟩ := info_split bz5
 obtain ⟨l, hl, hown⟩ := hown
 obtain ⟨l2, hl2, hc2⟩ := bytes_list hc
 refine wpList_append_own_at _ hgd s x 46 ho base 5 i (.int .u8 0) 1 1 Tryz.underlying46 hi1 hz hsz hby rfl (by omega) v n _ hs hown ⟨g, q, none⟩ m c (Lib.byteCells l2) hx (by simp [Lib.byteCells, hl2]) (fun j u hj => ?_) (fun u hu => ?_) (by unfold maxLen; omega) (by omega) hbase ?_
 · rw [Addr.add_mid]
   exact hc2 j u hj
 · obtain ⟨y, -, rfl⟩ := List.mem_map.1 hu
   rfl
 · intro v' w' h2 h3 _ h5
   refine h v' w' ⟨l ++ l2, by rw [List.length_append]; omega, ?_⟩ h3 h5
   have : Lib.byteCells (l ++ l2) = Lib.byteCells l ++ Lib.byteCells l2 := by simp [Lib.byteCells]
   rw [this]
   exact h2
end
theorem new_by (w : World) (cs : Array Value) (h : ∀ v ∈ cs.toList, ∃ c : UInt8, v = .int .u8 (c.toNat : Int)) : ∀ k, k < cs.size → ∃ c : UInt8, (w.alloc (.cells cs 5)).cell? ⟨w.heap.size, 0 + k, none⟩ = some (.int .u8 (c.toNat : Int)) := fun k hk => by
 obtain ⟨c, hc⟩ := h cs[k] (by simp)
 refine ⟨c, ?_⟩
 rw [Nat.zero_add, cell_of_row _ w.heap.size k cs 5 (0, 0) (MapKept.heap_alloc w _).1, Array.getElem?_eq_getElem hk, hc]
theorem by_one (x : Int) : ∀ v ∈ (#[Value.int .u8 (x % 256)] : Array Value).toList, ∃ c : UInt8, v = .int .u8 (c.toNat : Int) := fun v hv => by
 obtain ⟨c, hc⟩ := u8_mod x
 rw [List.mem_singleton.1 hv, hc]
 exact ⟨c, rfl⟩
theorem by_app {B : Nat} {w wr w1 : World} {o : Obj} {v : Value} {n : Nat} (hb : Below B w wr) (hB : B ≤ w.heap.size) (hu : ByR wr B v n) (hg : (wr.alloc o).grownBy w1 v.ownBlock) : Below B w w1 :=
 (hb.alloc (Nat.le_trans hB hb.size) o).grown hg (by have := hb.size; simp; omega) fun k hk => (hu.lt k hk).1
theorem byr_made (w : World) (n : Nat) (hn : n ≤ 1000000) : ByR (w.alloc (.cells (madeCells #[.int .u8 0] n) 5)) w.heap.size (.slice (some ⟨w.heap.size, 0, none⟩) n n) n := by
 have e : madeCells #[Value.int .u8 0] n = (Lib.byteCells (List.replicate n 0)).toArray := by
  apply Array.toList_inj.1
  rw [toList_madeCells_one]
  simp [Lib.byteCells]
 rw [e]
 have := byr_new w (List.replicate n 0) (by simpa using hn)
 simpa using this
theorem in102 (n m : Int) (h0 : 0 ≤ n) (h1 : n ≤ m) (w : World) : Calls Tryz.prog 102 #[.int .i64 n, .int .i64 m] w fun e w' => e = .returned (.bool true) ∧ w' = w := by
 go_enter Tryz.func102, Tryz.ntmps102
 go_wp2
 go_ret
 exact ⟨rfl, rfl⟩
theorem set73 (w : World) (B n c g : Nat) (at' : Nat) (x : Int) (hx : 0 ≤ x ∧ x ≤ 1000000000) (hat : at' + 1 < n) (hn : n ≤ 1000000) (H : ByR w B (.slice (some ⟨g, 0, none⟩) n c) n) : Calls Tryz.prog 73 #[.slice (some ⟨g, 0, none⟩) n c, .int .i64 at', .int .i64 x] w fun e w' => e = .returned (.tuple #[]) ∧ ByR w' B (.slice (some ⟨g, 0, none⟩) n c) n ∧ w.grownBy w' (some g) := by
 have HH := hid H
 obtain ⟨a, c', e, hc, hp⟩ := H.slice
 injection e with e1 e2 e3
 subst e1 e3
 obtain ⟨g', e, hB, hg, hfr, hcell⟩ := hp (by omega)
 injection e with e; injection e with e; subst e
 have f1 := hfr at'
 have f2 := hfr (at' + 1)
 obtain ⟨c1, k1⟩ := hcell at' (by omega)
 obtain ⟨c2, k2⟩ := hcell (at' + 1) (by omega)
 go_enter Tryz.func73, Tryz.ntmps73
 go_wp2
 refine bodyPost_end (results_none rfl _ _ _) rfl ?_
 obtain ⟨y1, q1⟩ := u8_mod (x / 256)
 obtain ⟨y2, q2⟩ := u8_mod x
 rw [q1, q2]
 refine ⟨rfl, (HH.out.set (k := at') y1).set (k := at' + 1) y2, rfl, rfl, rfl, by simp [World.setCell], fun i hi hne => ?_⟩
 have : i ≠ g := by simpa using hne
 exact (Below.heap_setCell _ _ _ _ this).trans (Below.heap_setCell _ _ _ _ this)
theorem fold126 (x : Int) (hx : 0 ≤ x ∧ x ≤ 1000000000) (w : World) : Calls Tryz.prog 126 #[.int .i64 x] w fun e w' => (∃ y : Int, e = .returned (.int .i64 y) ∧ 0 ≤ y ∧ y ≤ 65535) ∧ w' = w := by
 go_enter Tryz.func126, Tryz.ntmps126
 go_wp2
 go_loopw [0] (fun i wr => ∃ y : Int, i = .int .i64 y ∧ 0 ≤ y ∧ y ≤ 1000000000 ∧ wr = w) (fun i _ => (intOf i).toNat)
 case atStart => exact ⟨x, rfl, hx.1, hx.2, rfl⟩
 case round =>
  obtain ⟨y, rfl, h0, h1, rfl⟩ := hrel
  by_cases hlt : 65535 < y
  · go_wp2
    go_roundw
    case rel => exact ⟨_, rfl, by omega, by omega, trivial⟩
    case measure => simp [intOf]; omega
  · go_wp2
    go_ret
    exact ⟨⟨y, rfl, h0, by omega⟩, rfl⟩
theorem add104 (n g c : Nat) (hn : n ≤ 1000000) (w : World) (H : ∀ k, k < n → ∃ c : UInt8, w.cell? ⟨g, k, none⟩ = some (.int .u8 (c.toNat : Int))) : Calls Tryz.prog 104 #[.int .i64 0, .slice (some ⟨g, 0, none⟩) n c] w fun e w' => (∃ y : Int, e = .returned (.int .i64 y) ∧ 0 ≤ y ∧ y ≤ 65535) ∧ w' = w := by
 go_enter Tryz.func104, Tryz.ntmps104
 go_wp2_with (go_at_call 126; refine (fold126 _ (by omega) _).mono ?_; rintro e w' ⟨⟨y, rfl, h0, h1⟩, rfl⟩)
 go_loopw [5, 6, 7] (fun s i z wr => ∃ (y : Int) (j : Nat), s = .int .i64 y ∧ 0 ≤ y ∧ y ≤ 65535 ∧ i = .int .i64 j ∧ j ≤ n + 1 ∧ wr = w') (fun _ i _ _ => n + 1 - (intOf i).toNat)
 case atStart => exact ⟨y, 0, rfl, h0, h1, rfl, Nat.zero_le _, rfl⟩
 case round =>
  obtain ⟨x, j, rfl, h2, h3, rfl, hj, rfl⟩ := hrel
  by_cases hlt : j < n
  · obtain ⟨c1, k1⟩ := H j hlt
    have b1 := c1.toNat_lt
    by_cases hl2 : j + 1 < n
    · obtain ⟨c2, k2⟩ := H (j + 1) hl2
      have b2 := c2.toNat_lt
      go_wp2_with (go_at_call 126; refine (fold126 _ (by omega) _).mono ?_; rintro e w' ⟨⟨y', rfl, h0', h1'⟩, rfl⟩)
      go_roundw
      case rel => exact ⟨y', j + 2, rfl, h0', h1', by go_num, by omega, trivial⟩
      case measure => simp [intOf]; omega
    · go_wp2_with (go_at_call 126; refine (fold126 _ (by omega) _).mono ?_; rintro e w' ⟨⟨y', rfl, h0', h1'⟩, rfl⟩)
      go_roundw
      case rel => exact ⟨y', j + 2, rfl, h0', h1', by go_num, by omega, trivial⟩
      case measure => simp [intOf]; omega
  · go_wp2
    go_ret
    exact ⟨⟨x, rfl, h2, h3⟩, rfl⟩
theorem sum74 (n g c : Nat) (hn : n ≤ 1000000) (w : World) (H : ∀ k, k < n → ∃ c : UInt8, w.cell? ⟨g, k, none⟩ = some (.int .u8 (c.toNat : Int))) : Calls Tryz.prog 74 #[.slice (some ⟨g, 0, none⟩) n c] w fun e w' => (∃ y : Int, e = .returned (.int .i64 y) ∧ 0 ≤ y ∧ y ≤ 65535) ∧ w' = w := by
 go_enter Tryz.func74, Tryz.ntmps74
 go_wp2_with (go_at_call 104; refine (add104 n g c hn _ H).mono ?_; rintro e w' ⟨⟨y', rfl, h0', h1'⟩, rfl⟩)
 go_ret
 exact ⟨⟨_, rfl, by omega, by omega⟩, rfl⟩
theorem put103 (k : Nat) (x : Int) (hk : k ≤ 8) (v : Value) (n B : Nat) (hn : n ≤ 100000) (w : World) (H : ByR w B v n) (hB : B ≤ w.heap.size) : Calls Tryz.prog 103 #[v, .int .i64 k, .int .i64 x] w fun e w' => ∃ v', e = .returned v' ∧ ByR w' B v' (n + k) ∧ Below B w w' := by
 have HH := hid H
 clear H
 go_enter Tryz.func103, Tryz.ntmps103
 go_wp2
 go_loopw [0, 7] (fun s i wr => ∃ (m j : Nat) (u : Value), s = u ∧ i = .int .i64 ((m : Int) - 1) ∧ j + m = k ∧ ByR wr B u (n + j) ∧ Below B w wr) (fun _ i _ => (intOf i + 1).toNat)
 case atStart => exact ⟨k, 0, v, rfl, rfl, Nat.zero_add _, HH.out, bR⟩
 case round =>
  obtain ⟨m, j, u, rfl, rfl, hj, hu, hb⟩ := hrel
  have HU := hid hu
  have HB := hid hb
  clear hu hb
  rcases m with _ | m
  · go_wp2
    go_ret
    exact ⟨_, rfl, by rw [← hj]; exact HU.out, HB.out⟩
  · have e1 : ((m + 1 : Nat) : Int) - 1 = m := by omega
    rw [e1]
    go_upto_region 4 with fail
    go_wp2_with (at_builtin; refine wpList_append_by (wr.alloc (.cells #[.int .u8 (x / 2 ^ (8 * m) % 256)] 5)) B rfl (.tmp 14) (.tmp 21) rfl _ (n + j) rfl (HU.out.alloc _) wr.heap.size 0 1 1 rfl (new_by wr _ (by_one (x / 2 ^ (8 * m)))) (by omega) (by have := HB.out.size; simp; omega) ?_; intro v1 w1 h1 hg1 hv1)
    have HU1 := hid h1
    have HB1 := hid (by_app HB.out (by omega) HU.out hg1)
    clear h1 hg1 hv1
    go_roundw
    case rel => exact ⟨m, j + 1, _, rfl, rfl, by omega, HU1.out, HB1.out⟩
    case measure => simp [intOf]
theorem bytes48 (n p B : Nat) (hn : 1 ≤ n ∧ n ≤ 1000) (w : World) (D : DiceS w p B) : Calls Tryz.prog 48 #[.pointer (some ⟨p, 0, none⟩), .int .i64 n] w fun e w' => ∃ v, e = .returned v ∧ ByR w' w.heap.size v n ∧ DiceS w' p B ∧ OnlyP w w' p := by
 have hp := D.lt
 have hB := D.le
 have D1 := hid D
 have O1 := hid (only_refl w p)
 clear D
 have hmk := fun w0 : World => run_make_row' (P := Tryz.prog) 46 5 (.int .u8 0) 1 Tryz.underlying46 bz5 rfl .i64 .i64 n (by omega) (by omega) w0
 have HR := hid (byr_made w n (by omega))
 go_enter Tryz.func48, Tryz.ntmps48
 go_upto_region 2 with fail
 have hpw : p < w.heap.size := by omega
 replace D1 := hid (D1.out.alloc (.cells (madeCells #[.int .u8 0] n) 5))
 replace O1 := hid (only_alloc O1.out (.cells (madeCells #[.int .u8 0] n) 5))
 generalize w.alloc _ = w1 at *
 clear hmk
 go_wp2_with (go_at_call 12; refine (next12 (by decide) (by decide) D1.out).mono ?_; rintro e w2 ⟨k, rfl, h0, h1, hd, ho⟩; replace O1 := hid (only_trans O1.out ho); replace D1 := hid hd; replace HR := hid (HR.out.only ho hpw); clear ho hd)
 go_loopw [7] (fun i wr => ∃ j : Nat, i = .int .i64 j ∧ j ≤ n ∧ ByR wr w.heap.size (.slice (some ⟨w.heap.size, 0, none⟩) n n) n ∧ DiceS wr p B ∧ OnlyP w wr p) (fun i _ => n - (intOf i).toNat)
 case atStart => exact ⟨0, rfl, Nat.zero_le _, HR.out, D1.out, O1.out⟩
 case round =>
  clear HR D1 O1
  obtain ⟨j, rfl, hj, hr, hd, ho⟩ := hrel
  have HR := hid hr
  have D1 := hid hd
  have O1 := hid ho
  clear hr hd ho
  by_cases hlt : j < n
  · have hm0 : 0 ≤ (j : Int) * (k + 7) := Int.mul_nonneg (by omega) (by omega)
    have hm1 : (j : Int) * (k + 7) ≤ 1000 * 263 := Int.mul_le_mul (by omega) (by omega) (by omega) (by omega)
    obtain ⟨a, c', e, hc, hpp⟩ := HR.out.slice
    injection e with e1 e2 e3
    subst e1 e3
    obtain ⟨g', e, hB', hg, hfr, hcell⟩ := hpp (by omega)
    injection e with e; injection e with e; subst e
    have f1 := hfr j
    obtain ⟨c1, k1⟩ := hcell j hlt
    clear hfr hcell hpp
    obtain ⟨y, hy⟩ := u8_mod (k + (j : Int) * (k + 7))
    have HY := hid hy
    clear hy
    go_wp2
    rw [HY.out]
    go_roundw
    case rel => exact ⟨j + 1, by go_num, by omega, HR.out.set y, D1.out.set (by omega), only_setNew O1.out (Nat.le_refl _) _ _⟩
    case measure => simp [intOf]; omega
  · go_wp2
    go_ret
    exact ⟨_, rfl, by obtain rfl : j = n := by omega
                      exact HR.out, D1.out, O1.out⟩
structure Hd where
 k : Int
 id : Int
 fp : Int
 ty : Int
 sq : Int
 ti : Int
 so : Int
def hdc (h : Hd) : List Value := [.int .i64 h.k, .int .i64 0, .int .i64 h.id, .int .i64 0, .int .i64 64, .int .i64 167772161, .int .i64 167772162, .int .i64 h.fp, .int .i64 2000, .int .i64 0, .int .i64 0, .int .i64 h.ty, .int .i64 h.sq, .int .i64 h.ti, .int .i64 h.so]
def hdv (h : Hd) : Value := .agg #[.int .i64 h.k, .int .i64 0, .int .i64 h.id, .int .i64 0, .int .i64 64, .int .i64 167772161, .int .i64 167772162, .int .i64 h.fp, .int .i64 2000, .int .i64 0, .int .i64 0, .int .i64 h.ty, .int .i64 h.sq, .int .i64 h.ti, .int .i64 h.so]
structure HdOk (h : Hd) : Prop where
 id : 0 ≤ h.id ∧ h.id ≤ 65535
 fp : 0 ≤ h.fp ∧ h.fp ≤ 65535
 k : h.k = 1 ∧ h.ty = 0 ∧ h.sq = 0 ∧ h.ti = 0 ∧ h.so = 0 ∨ h.k = 2
 ty : 0 ≤ h.ty ∧ h.ty ≤ 127
 sq : 0 ≤ h.sq ∧ h.sq ≤ 65535
 ti : 0 ≤ h.ti ∧ h.ti ≤ 4294967295
 so : 0 ≤ h.so ∧ h.so ≤ 4294967295
set_option maxRecDepth 100000 in
set_option maxHeartbeats 4000000 in
theorem valid71 (h : Hd) (H : HdOk h) (w : World) : Calls Tryz.prog 71 #[hdv h] w fun e w' => e = .returned (.bool true) ∧ Below w.heap.size w w' := by
 obtain ⟨k, id, fp, ty, sq, ti, so⟩ := h
 obtain ⟨⟨a1, a2⟩, ⟨b1, b2⟩, hk, ⟨c1, c2⟩, ⟨d1, d2⟩, ⟨e1, e2⟩, ⟨f1, f2⟩⟩ := H
 dsimp only at a1 a2 b1 b2 hk c1 c2 d1 d2 e1 e2 f1 f2
 have hbl := (Below.refl w.heap.size w).alloc (Nat.le_refl _) (.cells #[.int .i64 k, .int .i64 0, .int .i64 id, .int .i64 0, .int .i64 64, .int .i64 167772161, .int .i64 167772162, .int .i64 fp, .int .i64 2000, .int .i64 0, .int .i64 0, .int .i64 ty, .int .i64 sq, .int .i64 ti, .int .i64 so] 121)
 have HB := hid hbl
 clear hbl
 show Calls Tryz.prog 71 #[.agg #[.int .i64 k, .int .i64 0, .int .i64 id, .int .i64 0, .int .i64 64, .int .i64 167772161, .int .i64 167772162, .int .i64 fp, .int .i64 2000, .int .i64 0, .int .i64 0, .int .i64 ty, .int .i64 sq, .int .i64 ti, .int .i64 so]] w _
 rcases hk with ⟨rfl, rfl, rfl, rfl, rfl⟩ | rfl
 · go_enter Tryz.func71, Tryz.ntmps71
   go_wp2_with (go_at_call 102; refine (in102 _ _ (by omega) (by omega) _).mono ?_; rintro e w1 ⟨rfl, rfl⟩)
   go_ret
   exact ⟨rfl, HB.out⟩
 · go_enter Tryz.func71, Tryz.ntmps71
   go_wp2_with (go_at_call 102; refine (in102 _ _ (by omega) (by omega) _).mono ?_; rintro e w1 ⟨rfl, rfl⟩)
   go_ret
   exact ⟨rfl, HB.out⟩
end
end Go.Proofs.YtgflfdnajchjaaaGreatDoor
