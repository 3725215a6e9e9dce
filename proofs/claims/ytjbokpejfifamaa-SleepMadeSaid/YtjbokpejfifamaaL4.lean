/- Layer 35: the walk of SleepMade. -/
import Derived.Test.YtjbokpejfifamaaL3
import Derived.Test.YtjbokpejfifamaaS9
namespace Go.Proofs.Ytjbokpejfifamaa
open Go.RowKit Go.Sort
attribute [local go_sem] gcell
set_option linter.unusedVariables false

theorem stepS_bat (r : Rh) (last bat tick : Int) (got : Bool) (h : 0 ≤ bat ∧ bat ≤ 899) : 0 ≤ (stepS r last bat tick got).2 ∧ (stepS r last bat tick got).2 ≤ 899 := by
  unfold stepS
  split
  · split
    · dsimp only; omega
    · dsimp only; omega
  · exact h

/-- What lies in memory at a round's head: the rhythm, the state. -/
structure MW (w wr : World) (rb sb : Nat) (c o n l s h la ba : Int) : Prop where
  r : Rbox wr rb c o n l s h
  st : Svar wr sb la ba
  bel : Below w.heap.size w wr
  sr : w.heap.size ≤ sb ∧ sb ≠ rb
theorem MW.mono {w wr w' : World} {rb sb : Nat} {c o n l s h la ba : Int} (C : MW w wr rb sb c o n l s h la ba) (hb : Below wr.heap.size wr w') : MW w w' rb sb c o n l s h la ba :=
  ⟨C.r.mono hb, C.st.mono hb, bthen C.bel hb C.bel.size, C.sr⟩
theorem MW.set {w wr : World} {rb sb : Nat} {c o n l s h la ba : Int} (C : MW w wr rb sb c o n l s h la ba) (x y : Int) : MW w ((wr.setCell ⟨sb, 0, none⟩ (.int .i64 x)).setCell ⟨sb, 1, none⟩ (.int .i64 y)) rb sb c o n l s h x y :=
  ⟨(C.r.far C.sr.2 _ _).far C.sr.2 _ _, C.st.set x y, (C.bel.setCell C.sr.1 _).setCell C.sr.1 _, C.sr⟩

set_option maxRecDepth 100000 in
set_option maxHeartbeats 4000000 in
theorem made6 (a : Option Addr) (b m n c : Nat) (xs : Nat → Int) (ao : Option Addr) (gn gc gb gm : Nat) (gs : Nat → Bool) (w : World) (L : ListIn w a b m n c xs) (hn64 : n ≤ 140737488351232) (hg64 : gn ≤ 140737488351232)
    (ha : 0 < gn → ao = some ⟨gb, gm, none⟩) (hgs : ∀ k, k < gn → w.cell? ⟨gb, gm + k, none⟩ = some (.bool (gs k))) :
    Calls Try.prog 6 #[.slice a n c, .slice ao gn gc] w fun e w' => e = .returned (.bool true) ∧ Below w.heap.size w w' := by
  have HL := Lib.hid L
  have HA := Lib.hid ha
  have HG := Lib.hid hgs
  clear L ha hgs
  by_cases h300 : n ≤ 300 ∧ gn ≤ 150
  · obtain ⟨h300, h200⟩ := h300
    have hd : decide (n ≤ 300) = true := by simpa using h300
    go_enter Try.func6, Try.ntmps6
    go_wp2_with fail
    refine (light_any a n c _).mono ?_
    rw [hd]
    rintro e w' ⟨rfl, rfl⟩
    go_wp2_with fail
    refine (roll_any _ a b m n c xs h300 HL.out.hc HL.out.h0 HL.out.ha HL.out.hx).mono ?_
    rintro e w1 ⟨p, g, aa, cap, rfl, hD, hp, hB⟩
    have HB := Lib.hid hB
    go_wp2_with fail
    refine (rhythm10 p g aa cap n xs 0 _ h300 hD).mono ?_
    rintro e w2 ⟨c', o, m', l, s, h, k, rfl, hr, hD2, hO⟩
    replace HB := Lib.hid (HB.out.trans (only_below hO hp (HB.out.size)))
    have HD2 := Lib.hid (hD2.alloc (.cells #[.int .i64 c', .int .i64 o, .int .i64 m', .int .i64 l, .int .i64 s, .int .i64 h] 27))
    have hpl := lt_of_cell hD2.c0
    clear hD hD2 hO hB
    have hR0 : Rbox (w2.alloc (.cells #[.int .i64 c', .int .i64 o, .int .i64 m', .int .i64 l, .int .i64 s, .int .i64 h] 27)) w2.heap.size c' o m' l s h := Rbox.new _ _ _ _ _ _ _ _
    have HR := Lib.hid hR0
    have HB2 := Lib.hid (HB.out.alloc HB.out.size (.cells #[.int .i64 c', .int .i64 o, .int .i64 m', .int .i64 l, .int .i64 s, .int .i64 h] 27))
    clear hR0
    go_wp2_with fail
    refine (dice_next p g aa cap n xs k 900 _ (by omega) h300 HD2.out).mono ?_
    have bv := dval_bd xs n k 900 (by omega)
    generalize dval xs n k 900 = v at *
    rintro e w3 ⟨rfl, hD3, hO3⟩
    have hR3 : Rbox w3 w2.heap.size c' o m' l s h := ⟨only_cell hO3 (by omega) HR.out.r0, only_cell hO3 (by omega) HR.out.r1, only_cell hO3 (by omega) HR.out.r2, only_cell hO3 (by omega) HR.out.r3, only_cell hO3 (by omega) HR.out.r4, only_cell hO3 (by omega) HR.out.r5⟩
    have hB3 := HB2.out.trans (only_below hO3 hp HB2.out.size)
    have hM : MW w' (w3.alloc (.cells #[.int .i64 (-1), .int .i64 v] 36)) w2.heap.size w3.heap.size c' o m' l s h (-1) v := by
      refine ⟨hR3.mono ((Below.refl _ _).alloc (Nat.le_refl _) _), ⟨by simp, by simp, fun o => by simp [go_sem]⟩, hB3.alloc hB3.size _, hB3.size, ?_⟩
      have := lt_of_cell hR3.r0
      omega
    have HM := Lib.hid hM
    clear hD3 hO3 hR3 hB3 hM HR HB2 HB HD2
    go_wp2_with fail
    go_loopw [8] (fun t wr => ∃ (K : Nat) (la ba : Int), t = .int .i64 K ∧ K ≤ gn ∧ MW w' wr w2.heap.size w3.heap.size c' o m' l s h la ba ∧ 0 ≤ ba ∧ ba ≤ 899) (fun t _ => 1000 - (intOf t).toNat)
    case atStart => exact ⟨0, -1, v, rfl, by omega, HM.out, by omega, by omega⟩
    case round =>
      clear HM
      obtain ⟨K, la, ba, rfl, hK, hM, hba0, hba1⟩ := hrel
      have HM := Lib.hid hM
      have HST := Lib.hid (fun got => stepS_bat ⟨c', o, m', l, s, h⟩ la ba K got ⟨hba0, hba1⟩)
      clear hM
      by_cases hlt : K < gn
      · obtain rfl := HA.out (by omega)
        have d0 := HM.out.r.r0
        have d1 := HM.out.r.r1
        have d2 := HM.out.r.r2
        have d3 := HM.out.r.r3
        have d4 := HM.out.r.r4
        have d5 := HM.out.r.r5
        have e0 := HM.out.st.s0
        have e1 := HM.out.st.s1
        have lt0 := lt_of_cell d0
        have lt1 := lt_of_cell e0
        have cg : wr.cell? ⟨gb, gm + K, none⟩ = some (.bool (gs K)) := up HM.out.bel (HG.out K hlt)
        have lt2 := lt_of_cell cg
        have i1 : (0 : Int) ≤ (K : Int) := by omega
        have i2 : (K : Int) < (gn : Int) := by omega
        go_wp2_with fail
        refine wp_region_quiet_below (by kernel_rfl) (by kernel_rfl) ?_
        repeat (go_big_quiet_step ((go_at_call 14; exact Calls.regrown_of (agree14 _ _ _ _ _ _ _ _ _ _ _ (by omega) _))))
        refine wpQuiet_nil ?_
        intro w4 hw4
        replace HM := Lib.hid (HM.out.mono (below_of_regrown hw4))
        replace cg := up (below_of_regrown hw4) cg
        replace d0 := HM.out.r.r0
        replace d1 := HM.out.r.r1
        replace d2 := HM.out.r.r2
        replace d3 := HM.out.r.r3
        replace d4 := HM.out.r.r4
        replace d5 := HM.out.r.r5
        replace e0 := HM.out.st.s0
        replace e1 := HM.out.st.s1
        replace lt0 := lt_of_cell d0
        replace lt1 := lt_of_cell e0
        replace lt2 := lt_of_cell cg
        clear hw4
        go_wp2_with fail
        refine wp_region_grown_tail 8 (by kernel_rfl) (by kernel_rfl) ?_
        simp only [List.take_succ_cons, List.take_zero, List.drop_succ_cons, List.drop_zero]
        repeat (go_big_quiet_step ((go_at_call 16; exact Calls.regrown_of (step16 _ _ _ _ _ _ _ _ _ _ _ (by omega)))))
        refine wpQuiet_nil ?_
        intro w5 hw5
        have hS := HST.out (gs K)
        generalize stepS ⟨c', o, m', l, s, h⟩ la ba K (gs K) = sB at *
        replace HM := Lib.hid (HM.out.mono (below_of_regrown hw5))
        clear hw5 d0 d1 d2 d3 d4 d5 e0 e1 lt0 lt1 cg lt2
        have e0 := HM.out.st.s0
        have e1 := HM.out.st.s1
        have ef := HM.out.st.f
        go_wp2
        go_roundw
        case rel => exact ⟨K + 1, sB.1, sB.2, by go_num, by omega, HM.out.set _ _, hS.1, hS.2⟩
        case measure => simp [intOf] <;> omega
      · go_wp2_with (go_at_call 9; refine (awake9 _).mono ?_; rintro e w6 ⟨rfl, hb6⟩)
        go_ret
        exact ⟨rfl, bthen HM.out.bel hb6 HM.out.bel.size⟩
  · by_cases hn3 : n ≤ 300
    · have hd : decide (n ≤ 300) = true := by simpa using hn3
      have hg2 : ¬ gn ≤ 150 := by omega
      go_enter Try.func6, Try.ntmps6
      go_wp2_with (first
        | (go_at_call 8; refine (light_any a n c _).mono ?_; rw [hd]; rintro e w' ⟨rfl, rfl⟩)
        | (go_at_call 9; refine (awake9 _).mono ?_; rintro e w' ⟨rfl, hb⟩))
      go_ret
      exact ⟨rfl, hb⟩
    · have hd : decide (n ≤ 300) = false := by simpa using hn3
      go_enter Try.func6, Try.ntmps6
      go_wp2_with (first
        | (go_at_call 8; refine (light_any a n c _).mono ?_; rw [hd]; rintro e w' ⟨rfl, rfl⟩)
        | (go_at_call 9; refine (awake9 _).mono ?_; rintro e w' ⟨rfl, hb⟩))
      go_ret
      exact ⟨rfl, hb⟩
end Go.Proofs.Ytjbokpejfifamaa
