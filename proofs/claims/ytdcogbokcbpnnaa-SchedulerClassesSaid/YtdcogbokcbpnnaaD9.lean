/- Layer 34: Assign. -/
import Derived.Test.YtdcogbokcbpnnaaD7
import Derived.Test.YtdcogbokcbpnnaaD8
import Derived.Deep.OwnRows
namespace Go.Proofs.Ytdcogbokcbpnnaa
set_option linter.unusedVariables false
set_option linter.unusedSimpArgs false
open Go.RowKit Go.Sort
attribute [local go_sem] gcell
def st0 (R : Nat) : St := ⟨R, fun _ => -1, fun _ => 0⟩
/-- The assignment. -/
def asg (R : Nat) (L : Nat → Dm) (n : Nat) : St := fairS R L n 13 (owedS R L n 13 (againS R L n (st0 R)))
def AsgR (n : Nat) (L : Nat → Dm) (R : Int) (w : World) (e : Ending) (w' : World) : Prop :=
  ∃ a, e = .returned (.tuple #[.slice a (if chkE n L R = 0 then R.toNat else 0) (if chkE n L R = 0 then R.toNat else 0), .int .i64 (chkE n L R)]) ∧ (chkE n L R = 0 → Row w' a R.toNat (asg R.toNat L n).ow) ∧ Below w.heap.size w w'
theorem owedS_inv {R n : Nat} {L : Nat → Dm} : ∀ (f : Nat) {s : St}, Inv R n s → Inv R n (owedS R L n f s)
  | 0, _, I => I
  | f + 1, s, I => by
    unfold owedS
    split
    · exact I
    · exact owedS_inv f (I.give (wantsP_le _ _ _))
theorem fairS_inv {R n : Nat} {L : Nat → Dm} : ∀ (f : Nat) {s : St}, Inv R n s → Inv R n (fairS R L n f s)
  | 0, _, I => I
  | f + 1, s, I => by
    unfold fairS
    split
    · exact I
    · exact fairS_inv f (I.give (coverP_le _ _ _))
theorem st0_inv {R n : Nat} (h : R ≤ 12) : Inv R n (st0 R) := ⟨Nat.le_refl _, h, fun k hk => ⟨Int.le_refl _, by show (0 : Int) + (R : Int) ≤ R; omega⟩⟩
theorem again0 {R n : Nat} {L : Nat → Dm} (i : Nat) (h : (L i).ag ≤ 0) : (againS R L n (st0 R)).hs i = 0 := by
  unfold againS
  rw [foldl_keep h]
  rfl
theorem vat_alloc (w : World) (a : Array Value) (e n : Nat) (f : Nat → Value) (h : ∀ k, k < n → a[k]? = some (f k)) : VAt (w.alloc (.cells a e)) w.heap.size n f :=
  ⟨fun k hk => by rw [cell_of_row _ w.heap.size k a e (0, 0) (MapKept.heap_alloc w _).1]; exact h k hk, fun k => by simp [go_sem], by simp⟩
theorem vat3 (w : World) (a b c : Array Value) (e1 e2 e3 : Nat) :
    (∀ n f, (∀ k, k < n → a[k]? = some (f k)) → VAt (((w.alloc (.cells a e1)).alloc (.cells b e2)).alloc (.cells c e3)).drew w.heap.size n f) ∧
    (∀ n f, (∀ k, k < n → b[k]? = some (f k)) → VAt (((w.alloc (.cells a e1)).alloc (.cells b e2)).alloc (.cells c e3)).drew (w.heap.size + 1) n f) ∧
    (∀ n f, (∀ k, k < n → c[k]? = some (f k)) → VAt (((w.alloc (.cells a e1)).alloc (.cells b e2)).alloc (.cells c e3)).drew (w.heap.size + 1 + 1) n f) := by
  refine ⟨fun n f h => (((vat_alloc w a e1 n f h).mono (blk _ _)).mono (blk _ _)).mono (Below.refl _ _).drew, fun n f h => ?_, fun n f h => ?_⟩
  · have := ((vat_alloc (w.alloc (.cells a e1)) b e2 n f h).mono (blk _ (.cells c e3))).mono (Below.refl _ _).drew
    simpa using this
  · have := (vat_alloc ((w.alloc (.cells a e1)).alloc (.cells b e2)) c e3 n f h).mono (Below.refl _ _).drew
    simpa using this
theorem below3 (w : World) (a b c : Obj) : Below w.heap.size w (((w.alloc a).alloc b).alloc c).drew := ((((Below.refl _ _).alloc (Nat.le_refl _) _).alloc (by simp) _).alloc (by simp; omega) _).drew
theorem made_at (n k : Nat) (hk : k < n) : (madeCells #[.int .i64 0] n)[k]? = some (iv (fun _ => 0) k) := by
  rw [← Array.getElem?_toList, toList_madeCells_one]
  simp [List.getElem?_replicate, hk, iv]
theorem tf_at (la : Option Addr) (n lc O R H k : Nat) (hk : k < 4) : (#[.slice la n lc, .slice (some ⟨O, 0, none⟩) R R, .int .i64 R, .slice (some ⟨H, 0, none⟩) n n] : Array Value)[k]? = some (tf la n lc O R R H k) := by
  rcases (show k = 0 ∨ k = 1 ∨ k = 2 ∨ k = 3 by omega) with rfl | rfl | rfl | rfl <;> rfl
set_option maxRecDepth 100000 in
set_option maxHeartbeats 8000000 in
theorem assign18 (la : Option Addr) (n lc : Nat) (L : Nat → Dm) (R : Int) (w : World) (H : RD w la n L) (hn : n ≤ maxLen) :
    Calls Try.prog 18 #[.slice la n lc, .int .i64 R] w (AsgR n L R w) := by
  have K1 := Lib.hid (check22 la n lc L R w H hn)
  have HH := Lib.hid H
  clear H
  by_cases hE : chkE n L R = 0
  · have HE := Lib.hid hE
    obtain ⟨hR, hn4⟩ : (0 ≤ R ∧ R ≤ 12) ∧ n ≤ 4 := by
      unfold chkE at hE
      split at hE
      · cases hE
      · split at hE
        · cases hE
        · omega
    have hok : ∀ k, k < n → dOk (L k) = true := fun k hk => by
      unfold chkE at hE
      rw [if_neg (by omega), if_neg (by omega)] at hE
      cases h : anyB (badD L) n
      · have := anyB_false.1 h k hk
        unfold badD at this
        simpa using this
      · rw [h] at hE; cases hE
    have HOK := Lib.hid hok
    rw [hE] at K1
    clear hE hok
    obtain ⟨R, rfl⟩ := Int.eq_ofNat_of_zero_le hR.1
    have mR := fun w => run_make_row' (P := Try.prog) 23 3 (.int .i64 0) 8 Try.underlying23 intInfo rfl .i64 .i64 R (by omega) (by omega) w
    have mN := fun w => run_make_row' (P := Try.prog) 23 3 (.int .i64 0) 8 Try.underlying23 intInfo rfl .i64 .i64 n (by omega) (by omega) w
    go_enter Try.func18, Try.ntmps18
    go_wp2_with fail
    refine K1.out.mono ?_
    rintro e w1 ⟨rfl, hb1⟩
    have HB1 := Lib.hid hb1
    have HR1 := Lib.hid (HH.out.mono hb1)
    clear hb1 K1
    go_upto_region 4 with fail
    go_cut [7] (fun s7 wx => ∃ T O H : Nat, s7 = .pointer (some ⟨T, 0, none⟩) ∧ Tb w1 wx T O H la n lc R L ⟨R, fun _ => 0, fun _ => 0⟩)
    case first =>
      go_region
      all_goals
        go_wp2_with fail
        go_meet
        exact ⟨_, _, _, rfl, below3 _ _ _ _, HR1.out, by first | exact (vat3 _ _ _ _ _ _ _).1 _ _ (tf_at _ _ _ _ _ _) | exact (vat3 _ _ _ _ _ _ _).2.1 _ _ (tf_at _ _ _ _ _ _) | exact (vat3 _ _ _ _ _ _ _).2.2 _ _ (tf_at _ _ _ _ _ _), by first | exact (vat3 _ _ _ _ _ _ _).1 _ _ (made_at R) | exact (vat3 _ _ _ _ _ _ _).2.1 _ _ (made_at R) | exact (vat3 _ _ _ _ _ _ _).2.2 _ _ (made_at R), by first | exact (vat3 _ _ _ _ _ _ _).1 _ _ (made_at n) | exact (vat3 _ _ _ _ _ _ _).2.1 _ _ (made_at n) | exact (vat3 _ _ _ _ _ _ _).2.2 _ _ (made_at n), by omega, by omega, by omega, by omega, by omega, by omega⟩
    case rest =>
      obtain ⟨T, O, H, rfl, hX⟩ := hcut
      have HX := Lib.hid hX
      obtain ⟨t0, t1, t2, t3⟩ := hX.cells
      clear hX mR mN t0 t2 t3
      go_wp2_with fail
      clear t1
      go_loopw [8, 28] (fun s8 s28 wr => ∃ k : Nat, s28 = .int .i64 k ∧ k ≤ R ∧ Tb w1 wr T O H la n lc R L ⟨R, fun q => if q < k then -1 else 0, fun _ => 0⟩) (fun _ s28 _ => R - (intOf s28).toNat)
      case atStart => exact ⟨0, rfl, Nat.zero_le _, HX.out.congr rfl (fun _ _ => rfl) fun _ _ => rfl⟩
      case round =>
        clear HX
        obtain ⟨k, rfl, hk, hX⟩ := hrel
        have HX := Lib.hid hX
        obtain ⟨t0, t1, t2, t3⟩ := hX.cells
        by_cases hlt : k < R
        · have hlt' : (k : Int) < (R : Int) := by omega
          have k0 : (0 : Int) ≤ (k : Int) := by omega
          have c := hX.o.c k hlt
          have fc := hX.o.fr k
          unfold iv at c
          simp only at c
          rw [if_neg (by omega)] at c
          have HX2 := Lib.hid ((hX.setO k (-1)).congr (s' := ⟨R, fun q => if q < k + 1 then -1 else 0, fun _ => 0⟩) rfl (fun q _ => by
            show (if q < k + 1 then (-1 : Int) else 0) = putI (fun q => if q < k then (-1 : Int) else 0) k (-1) q
            unfold putI
            by_cases h1 : q = k
            · rw [if_pos h1, if_pos (by omega)]
            · simp only [if_neg h1]
              by_cases h2 : q < k
              · rw [if_pos h2, if_pos (by omega)]
              · rw [if_neg h2, if_neg (by omega)]) fun _ _ => rfl)
          clear hX HX t0 t2 t3
          go_wp2
          go_roundw
          case rel => exact ⟨k + 1, by go_num, by omega, HX2.out⟩
          case measure => simp [intOf]; omega
        · obtain rfl : k = R := by omega
          have HX0 := Lib.hid (hX.congr (s' := st0 k) rfl (fun q hq => by show (-1 : Int) = if q < k then -1 else 0; rw [if_pos hq]) fun _ _ => rfl)
          have I0 : Inv k n (st0 k) := st0_inv (by omega)
          have I1 : Inv k n (againS k L n (st0 k)) := foldl_inv _ I0
          have I2 := owedS_inv (L := L) 13 I1
          have HI0 := Lib.hid I0
          have HI1 := Lib.hid I1
          have HI2 := Lib.hid I2
          clear hX HX t0 t1 t2 t3 I0 I1 I2
          go_wp2_with fail
          go_loopw [10, 37] (fun s10 s37 wr => ∃ j : Nat, s37 = .int .i64 j ∧ ((j = 0 ∧ Tb w1 wr T O H la n lc k L (st0 k)) ∨ (j = 1 ∧ Tb w1 wr T O H la n lc k L (againS k L n (st0 k))) ∨ (j = 2 ∧ Tb w1 wr T O H la n lc k L (owedS k L n 13 (againS k L n (st0 k)))) ∨ (j = 3 ∧ Tb w1 wr T O H la n lc k L (asg k L n)))) (fun _ s37 _ => 3 - (intOf s37).toNat)
          case atStart => exact ⟨0, rfl, .inl ⟨rfl, HX0.out⟩⟩
          case round =>
            clear HX0
            obtain ⟨j, rfl, hj⟩ := hrel
            rcases hj with ⟨rfl, hX⟩ | ⟨rfl, hX⟩ | ⟨rfl, hX⟩ | ⟨rfl, hX⟩
            · have K := Lib.hid (again25 hX hn4 HI0.out fun q hq => (dOk_true.1 (HOK.out q hq)).2.2.2.2.2.2)
              clear hX
              have x0 : ∀ w, (Instr.index 58 (.agg #[.func (.func 25) #[] #[], .func (.func 26) #[] #[], .func (.func 27) #[] #[]]) (.int .i64 0)).run Try.prog w = .ok (.func (.func 25) #[] #[]) w := fun w => rfl
              go_wp2_with fail
              refine K.out.mono ?_
              rintro e w5 ⟨rfl, hX5, -⟩
              have HX5 := Lib.hid hX5
              clear hX5 K
              go_wp2
              exact ⟨⟨1, rfl, .inr (.inl ⟨rfl, HX5.out⟩)⟩, by decide⟩
            · have K := Lib.hid (owed26 hX hn4 HI1.out fun q hq ha => again0 q ha)
              clear hX
              have x1 : ∀ w, (Instr.index 58 (.agg #[.func (.func 25) #[] #[], .func (.func 26) #[] #[], .func (.func 27) #[] #[]]) (.int .i64 1)).run Try.prog w = .ok (.func (.func 26) #[] #[]) w := fun w => rfl
              go_wp2_with fail
              refine K.out.mono ?_
              rintro e w5 ⟨rfl, hX5, -⟩
              have HX5 := Lib.hid hX5
              clear hX5 K
              go_wp2
              exact ⟨⟨2, rfl, .inr (.inr (.inl ⟨rfl, HX5.out⟩))⟩, by decide⟩
            · have K := Lib.hid (fairly27 hX hn4 HI2.out fun q hq => (dOk_true.1 (HOK.out q hq)).2.2.2.1)
              clear hX
              have x2 : ∀ w, (Instr.index 58 (.agg #[.func (.func 25) #[] #[], .func (.func 26) #[] #[], .func (.func 27) #[] #[]]) (.int .i64 2)).run Try.prog w = .ok (.func (.func 27) #[] #[]) w := fun w => rfl
              go_wp2_with fail
              refine K.out.mono ?_
              rintro e w5 ⟨rfl, hX5, -⟩
              have HX5 := Lib.hid hX5
              clear hX5 K
              go_wp2
              exact ⟨⟨3, rfl, .inr (.inr (.inr ⟨rfl, HX5.out⟩))⟩, by decide⟩
            · obtain ⟨t0, t1, t2, t3⟩ := hX.cells
              have HX := Lib.hid hX
              clear hX t0 t2 t3
              go_wp2
              go_ret2
              exact ⟨some ⟨O, 0, none⟩, by rw [HE.out]; rfl, fun _ => HX.out.o.row, bthen' HB1.out HX.out.bel⟩
  · have HE := Lib.hid hE
    generalize hCE : chkE n L R = CE at *
    have q1 : (CE != 0) = true := by simp [hE]
    have HCE := Lib.hid hCE
    clear hE hCE
    go_enter Try.func18, Try.ntmps18
    go_wp2_with fail
    refine K1.out.mono ?_
    rintro e w1 ⟨rfl, hb1⟩
    have HB1 := Lib.hid hb1
    clear hb1 K1
    go_wp2
    go_ret2
    exact ⟨none, by rw [HCE.out, if_neg HE.out]; rfl, fun h => absurd (HCE.out.symm.trans h) HE.out, HB1.out⟩
end Go.Proofs.Ytdcogbokcbpnnaa
