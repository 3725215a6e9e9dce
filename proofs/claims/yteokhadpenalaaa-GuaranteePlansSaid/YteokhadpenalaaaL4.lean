/- Layer 33: the walk of GuaranteeMade. -/
import Derived.Test.YteokhadpenalaaaL3
namespace Go.Proofs.Yteokhadpenalaaa
set_option linter.unusedVariables false
set_option linter.unusedSimpArgs false
open Go.RowKit Go.Sort
attribute [local go_sem] gcell

theorem own_put {w : World} {base e : Nat} {v : Value} {k : Nat} {ys : Nat → Int} (x : Int) (h : w.ownsRow base e 1 v k ((List.range k).map (iv ys))) : w.ownsRow base e 1 v k ((List.range k).map (iv (putI ys k x))) := by
  have : (List.range k).map (iv (putI ys k x)) = (List.range k).map (iv ys) := List.map_congr_left fun j hj => by
    have := List.mem_range.1 hj
    unfold iv putI
    rw [if_neg (by omega)]
  rw [this]
  exact h
set_option maxRecDepth 100000 in
set_option maxHeartbeats 4000000 in
theorem made4 (a : Option Addr) (b m n c : Nat) (xs : Nat → Int) (x1 x2 x3 x4 : Int) (w : World) (L : ListIn w a b m n c xs) (hn : n ≤ 140737488351232) (b1 : 0 ≤ x1 ∧ x1 ≤ 255) (b2 : 0 ≤ x2 ∧ x2 ≤ 255) (b3 : 0 ≤ x3 ∧ x3 ≤ 255) (b4 : 0 ≤ x4 ∧ x4 ≤ 255) :
    Calls Try.prog 4 #[.slice a n c, .int .u8 x1, .int .u8 x2, .int .u8 x3, .int .u8 x4] w fun e w' => e = .returned (.bool true) ∧ Below w.heap.size w w' := by
  have HL := Lib.hid L
  clear L
  by_cases h300 : n ≤ 300
  · have hd : decide (n ≤ 300) = true := by simpa using h300
    go_enter Try.func4, Try.ntmps4
    go_wp2_with fail
    refine (light_any a n c _).mono ?_
    rw [hd]
    rintro e w' ⟨rfl, rfl⟩
    go_wp2_with fail
    refine (roll_any _ a b m n c xs h300 HL.out.hc HL.out.h0 HL.out.ha HL.out.hx).mono ?_
    rintro e w0 ⟨p, g, aa, cap, rfl, hD, hp, hB⟩
    have HB0 := Lib.hid hB
    have HD0 := Lib.hid hD
    clear hB hD hd
    go_wp2_with fail
    refine (dice_next p g aa cap n xs 0 4 _ (by omega) h300 HD0.out).mono ?_
    have bv := dval_bd xs n 0 4 (by omega)
    generalize dval xs n 0 4 = v1 at *
    have hk1 : dnext n 0 ≤ n := dnext_le (by omega)
    generalize dnext n 0 = k1 at *
    rintro e w1 ⟨rfl, hD, hO⟩
    have HB1 := Lib.hid (HB0.out.trans (only_below hO hp HB0.out.size))
    have HD1 := Lib.hid hD
    have lp1 := lt_of_cell hD.c0
    clear hD hO HD0 HB0
    go_wp2_with fail
    refine (guarantees14 p g aa cap n xs k1 (1 + v1) _ (by omega) h300 hk1 HD1.out).mono ?_
    rintro e w2 ⟨N, gb, gc, kd, F, W, B, rfl, ⟨hN1, hN4, hNc⟩, ⟨hgb1, hgb2⟩, hcells, hmade, hD, hkd, hO⟩
    have HB2 := Lib.hid (HB1.out.trans (only_below hO hp HB1.out.size))
    have HC := Lib.hid hcells
    have HD2 := Lib.hid hD
    have lp := lt_of_cell hD.c0
    have lg := hD.gl
    have ngp : gb ≠ p := by omega
    clear hcells hmade hO hD HB1 HD1
    go_wp2_with fail
    go_loopw [14, 15] (fun s14 s15 wr => ∃ (k kd : Nat) (ys : Nat → Int), s15 = .int .i64 k ∧ k ≤ N ∧ kd ≤ n ∧ wr.ownsRow w2.heap.size 3 1 s14 k ((List.range k).map (iv ys)) ∧ DiceAt wr p g aa cap n xs kd ∧ OnlyP w2 wr p) (fun _ s15 _ => N - (intOf s15).toNat)
    case atStart => exact ⟨0, kd, fun _ => 0, rfl, Nat.zero_le _, hkd, World.ownsRow_nil _ _ _ _, HD2.out, only_refl _ _⟩
    case round =>
      clear HD2
      obtain ⟨k, kd, ys, rfl, hk, hkd, hown, hD, hO⟩ := hrel
      have HW := Lib.hid hown
      have HD := Lib.hid hD
      have HO := Lib.hid hO
      clear hown hD hO
      by_cases hlt : k < N
      · go_wp2_with fail
        refine (dice_next p g aa cap n xs kd 8 _ (by omega) h300 HD.out).mono ?_
        generalize dval xs n kd 8 = x at *
        have l1 : dnext n kd ≤ n := dnext_le hkd
        generalize dnext n kd = j1 at *
        rintro e w3 ⟨rfl, hD, hO⟩
        have HD3 := Lib.hid hD
        have hO3 := only_trans HO.out hO
        have HO3 := Lib.hid hO3
        have HW3 := Lib.hid (own_put x (own_only HW.out hO lp))
        have z3 := hO3.size
        clear hD hO hO3 HD HO HW
        go_wp2_with (at_builtin; refine wpList_append1 w3 w3 w2.heap.size rfl (.tmp 34) (.tmp 37) 23 rfl 3 (.int .i64 0) 8 Try.underlying23 intInfo rfl (by decide) _ k (iv (putI ys k x)) rfl _ rfl HW3.out (Below.refl _ _) z3 (by unfold iv putI; rw [if_pos rfl]) rfl (by omega) ?_; intro v' w4 hown hB4 hb4 hs4 _; have HW4 := Lib.hid hown; have HO4 := Lib.hid (only_then HO3.out hB4 (Nat.le_refl _)); have HD4 := Lib.hid (HD3.out.low hB4 lp lg); clear hown hB4 hb4 hs4)
        exact ⟨⟨k + 1, j1, _, by go_num, by omega, l1, HW4.out, HD4.out, HO4.out⟩, by simp [intOf]; omega⟩
      · obtain rfl : k = N := by omega
        obtain ⟨ag, cg, rfl, hcg, hrow⟩ := own_row HW.out
        have HRW := Lib.hid hrow
        have HR := Lib.hid (R3.of (w := wr) fun j hj => ⟨only_cell HO.out ngp (HC.out j hj).1, only_cell HO.out ngp (HC.out j hj).2.1, only_cell HO.out ngp (HC.out j hj).2.2⟩)
        have HB3 := Lib.hid (HB2.out.trans (only_below HO.out hp HB2.out.size))
        clear hrow HO HD HW
        have m1 : 0 ≤ x1 % 50 ∧ x1 % 50 ≤ 49 := by omega
        have m2 : 0 ≤ x2 % 50 ∧ x2 % 50 ≤ 49 := by omega
        have m3 : 0 ≤ x3 % 40 ∧ x3 % 40 ≤ 39 := by omega
        have m4 : 0 ≤ x4 % 70 ∧ x4 % 70 ≤ 69 := by omega
        go_wp2_with fail
        refine (agree9 _ ag k gc k cg F W B ys _ _ _ _ _ _ HR.out HRW.out (by omega) (by omega)).mono ?_
        rintro e w5 ⟨rfl, hb⟩
        have HB5 := Lib.hid (bthen HB3.out hb HB3.out.size)
        clear hb
        go_wp2_with fail
        refine (awake10 _).mono ?_
        rintro e w6 ⟨rfl, hb⟩
        have HB6 := Lib.hid (bthen HB5.out hb HB5.out.size)
        clear hb
        go_wp2
        go_ret
        exact ⟨rfl, HB6.out⟩
  · have hd : decide (n ≤ 300) = false := by simpa using h300
    go_enter Try.func4, Try.ntmps4
    go_wp2_with (first
      | (go_at_call 11; refine (light_any a n c _).mono ?_; rw [hd]; rintro e w' ⟨rfl, rfl⟩)
      | (go_at_call 10; refine (awake10 _).mono ?_; rintro e w' ⟨rfl, hb⟩))
    go_ret
    exact ⟨rfl, hb⟩
end Go.Proofs.Yteokhadpenalaaa
