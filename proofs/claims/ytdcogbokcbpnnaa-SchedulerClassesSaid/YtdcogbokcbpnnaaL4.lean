/- Layer 34: the walk of SchedulerOwed. -/
import Derived.Test.YtdcogbokcbpnnaaP4
import Derived.Test.YtdcogbokcbpnnaaDm0
namespace Go.Proofs.Ytdcogbokcbpnnaa
set_option linter.unusedVariables false
set_option linter.unusedSimpArgs false
open Go.RowKit Go.Sort
attribute [local go_sem] gcell
theorem chk_ok4 {n : Nat} {L : Nat → Dm} {R : Int} (hR : 0 ≤ R ∧ R ≤ 12) (hn : n ≤ 4) (h : ∀ j, j < n → dOk (L j) = true) : chkE n L R = 0 := by
  unfold chkE
  rw [if_neg (by omega), if_neg (by omega), anyB_false.2 fun j hj => by unfold badD; rw [h j hj]; rfl]
  rfl
def uv (f : Nat → Int) (k : Nat) : Value := .int .u8 (f k)
theorem uv_at (f : Nat → Int) (k : Nat) (hk : k < 3) : (#[.int .u8 (f 0), .int .u8 (f 1), .int .u8 (f 2)] : Array Value)[k]? = some (uv f k) := by
  rcases (show k = 0 ∨ k = 1 ∨ k = 2 by omega) with rfl | rfl | rfl <;> rfl
theorem dcell_at (X : Nat → Dm) (k j : Nat) (h : j < 7) : (#[.int .i64 (X k).q, .int .i64 (X k).ag, .int .i64 (X k).by', .int .i64 (X k).mn, .int .i64 (X k).ow, .int .i64 (X k).dl, .int .i64 (X k).cl] : Array Value)[j]? = some (dcell X (k * 7 + j)) := by
  match j, h with
  | 0, _ => rw [Nat.add_zero, dcell0]; rfl
  | 1, _ => rw [dcell1]; rfl
  | 2, _ => rw [dcell2]; rfl
  | 3, _ => rw [dcell3]; rfl
  | 4, _ => rw [dcell4]; rfl
  | 5, _ => rw [dcell5]; rfl
  | 6, _ => rw [dcell6]; rfl
/-- The demands of SchedulerOwed. -/
def owD (a d : Nat → Int) (c : Int) (i : Nat) : Dm := if i < 3 then ⟨15, 0, 100000, 0, a i % 4, d i, c % 3⟩ else ⟨15, 0, 100000, 0, 0, 0, 0⟩
theorem owD_lt {a d : Nat → Int} {c : Int} {i : Nat} (h : i < 3) : owD a d c i = ⟨15, 0, 100000, 0, a i % 4, d i, c % 3⟩ := if_pos h
theorem owD_sum {a d : Nat → Int} {c : Int} : ∀ k : Nat, k ≤ 3 → 0 ≤ sumI (fun i => (owD a d c i).ow) k ∧ sumI (fun i => (owD a d c i).ow) k ≤ 3 * k
  | 0, _ => ⟨Int.le_refl _, Int.le_refl _⟩
  | k + 1, h => by
    have ih := owD_sum (a := a) (d := d) (c := c) k (by omega)
    have e : sumI (fun i => (owD a d c i).ow) (k + 1) = sumI (fun i => (owD a d c i).ow) k + (owD a d c k).ow := rfl
    rw [e, owD_lt (show k < 3 by omega)]
    show 0 ≤ _ + a k % 4 ∧ _ + a k % 4 ≤ _
    omega
theorem two_box (w : World) (x y : Array Value) (e1 e2 n : Nat) (f g : Nat → Value) (hx : ∀ k, k < n → x[k]? = some (f k)) (hy : ∀ k, k < n → y[k]? = some (g k)) :
    VAt ((w.alloc (.cells x e1)).alloc (.cells y e2)) w.heap.size n f ∧ VAt ((w.alloc (.cells x e1)).alloc (.cells y e2)) (w.heap.size + 1) n g ∧ Below w.heap.size w ((w.alloc (.cells x e1)).alloc (.cells y e2)) :=
  ⟨(vat_alloc w x e1 n f hx).mono ((Below.refl _ _).alloc (Nat.le_refl _) _), by have := vat_alloc (w.alloc (.cells x e1)) y e2 n g hy; simpa using this, ((Below.refl _ _).alloc (Nat.le_refl _) _).alloc (by simp) _⟩
set_option maxRecDepth 100000 in
set_option maxHeartbeats 8000000 in
theorem owed6 (a d : Nat → Int) (c : Int) (w : World) (ha : ∀ i, i < 3 → 0 ≤ a i ∧ a i ≤ 255) (hd : ∀ i, i < 3 → 0 ≤ d i ∧ d i ≤ 255) (hc : 0 ≤ c ∧ c ≤ 255) :
    Calls Try.prog 6 #[.agg #[.int .u8 (a 0), .int .u8 (a 1), .int .u8 (a 2)], .agg #[.int .u8 (d 0), .int .u8 (d 1), .int .u8 (d 2)], .int .u8 c] w fun e w' => e = .returned (.bool true) ∧ Below w.heap.size w w' := by
  obtain ⟨va, vd, hb0⟩ := two_box w #[.int .u8 (a 0), .int .u8 (a 1), .int .u8 (a 2)] #[.int .u8 (d 0), .int .u8 (d 1), .int .u8 (d 2)] 42 42 3 (uv a) (uv d) (uv_at a) (uv_at d)
  have HB0 := Lib.hid hb0
  have HVA := Lib.hid va
  have HVD := Lib.hid vd
  have HA := Lib.hid ha
  have HD := Lib.hid hd
  clear va vd hb0 ha hd
  go_enter Try.func6, Try.ntmps6
  go_upto_region 4 with fail
  have LB := Lib.hid (show w.heap.size + 2 ≤ ((w.alloc (.cells #[.int .u8 (a 0), .int .u8 (a 1), .int .u8 (a 2)] 42)).alloc (.cells #[.int .u8 (d 0), .int .u8 (d 1), .int .u8 (d 2)] 42)).heap.size by simp)
  generalize ((w.alloc (.cells #[.int .u8 (a 0), .int .u8 (a 1), .int .u8 (a 2)] 42)).alloc (.cells #[.int .u8 (d 0), .int .u8 (d 1), .int .u8 (d 2)] 42)) = w1 at *
  go_loopw [7, 8, 9, 10] (fun s7 s8 s9 s10 wr => ∃ k : Nat, s9 = .int .i64 k ∧ k ≤ 3 ∧ s8 = .int .i64 (sumI (fun i => (owD a d c i).ow) k) ∧ wr.ownsRow w1.heap.size 41 7 s7 k ((List.range (k * 7)).map (dcell (owD a d c))) ∧ Below w1.heap.size w1 wr) (fun _ _ s9 _ _ => 3 - (intOf s9).toNat)
  case atStart => exact ⟨0, rfl, Nat.zero_le _, rfl, own_nilK _ _ _ _ _, Below.refl _ _⟩
  case round =>
    obtain ⟨k, rfl, hk, rfl, hown, hB⟩ := hrel
    have HB1 := Lib.hid hB
    have HO := Lib.hid hown
    by_cases hlt : k < 3
    · have c0 : wr.cell? ⟨w.heap.size, k, none⟩ = some (.int .u8 (a k)) := (HVA.out.mono hB).c k hlt
      have d0 : wr.cell? ⟨w.heap.size + 1, k, none⟩ = some (.int .u8 (d k)) := (HVD.out.mono hB).c k hlt
      have hak := HA.out k hlt
      have hdk := HD.out k hlt
      have k0 : (0 : Int) ≤ (k : Int) := by omega
      have k1 : (k : Int) < 3 := by omega
      have HS := Lib.hid (show sumI (fun i => (owD a d c i).ow) (k + 1) = sumI (fun i => (owD a d c i).ow) k + a k % 4 from congrArg (fun x : Dm => sumI (fun i => (owD a d c i).ow) k + x.ow) (owD_lt hlt))
      have hz := owD_sum (a := a) (d := d) (c := c) k hk
      have HAT := Lib.hid (dcell_at (owD a d c) k)
      rw [owD_lt hlt] at HAT
      simp only at HAT
      have hsz := hB.size
      clear hown hB
      generalize sumI (fun i => (owD a d c i).ow) k = z at *
      go_wp2_with (at_builtin; refine wpList_append_elem wr w1 w1.heap.size rfl (.tmp 27) (.tmp 37) 22 rfl 41 dz 7 56 Try.underlying22 dInfo rfl (by decide) (by decide) _ k (dcell (owD a d c)) rfl #[.int .i64 15, .int .i64 0, .int .i64 100000, .int .i64 0, .int .i64 (a k % 4), .int .i64 (d k), .int .i64 (c % 3)] rfl rfl (one7 _ _ _ _ _ _ _) (dcell (owD a d c)) (fun j hj => rfl) HAT.out HO.out HB1.out hsz (by omega) ?_; intro v' w7 hown hB7 hs7 hg7 ha7; have HO7 := Lib.hid hown; have HB7 := Lib.hid hB7; clear hown hB7 hs7 hg7 ha7 HO HB1)
      go_roundw
      case rel => exact ⟨k + 1, by go_num, by omega, by rw [HS.out], HO7.out, HB7.out⟩
      case measure => simp [intOf]; omega
    · obtain rfl : k = 3 := by omega
      clear hown hB
      have hsz := HB1.out.size
      have HAT := Lib.hid (dcell_at (owD a d c) 3)
      rw [show owD a d c 3 = ⟨15, 0, 100000, 0, 0, 0, 0⟩ from rfl] at HAT
      simp only at HAT
      have HSL := Lib.hid (owD_sum (a := a) (d := d) (c := c) 3 (Nat.le_refl _))
      have HOK := Lib.hid (show ∀ j, j < 4 → dOk (owD a d c j) = true from fun j hj => dOk_true.2 (by
        unfold owD
        split
        · rename_i h3
          have := HD.out j h3
          simp only
          omega
        · simp only; omega))
      have HLL := Lib.hid (show ∀ i, i < 4 → (owD a d c i).q = 15 ∧ (owD a d c i).ag = 0 ∧ 256 < (owD a d c i).by' ∧ 0 ≤ (owD a d c i).ow from fun i hi => by
        rcases Nat.lt_or_ge i 3 with h3 | h3
        · rw [owD_lt h3]
          exact ⟨rfl, rfl, by show (256 : Int) < 100000; omega, by show 0 ≤ a i % 4; omega⟩
        · obtain rfl : i = 3 := by omega
          exact ⟨rfl, rfl, by show (256 : Int) < 100000; omega, by show (0 : Int) ≤ 0; omega⟩)
      have HS4 := Lib.hid (show sumI (fun i => (owD a d c i).ow) 4 = sumI (fun i => (owD a d c i).ow) 3 from Int.add_zero _)
      have HE := Lib.hid (chk_ok4 (n := 4) (L := owD a d c) (R := (12 : Nat)) ⟨by omega, by omega⟩ (by omega) HOK.out)
      have HAS := Lib.hid fun h => asg_owed (n := 4) (L := owD a d c) HLL.out (by rw [HS4.out]; exact h)
      have I := asg_inv2 (R := 12) (n := 4) (L := owD a d c) (by omega) fun i hi => (dOk_true.1 (HOK.out i hi)).2.2.2.2.2.2
      clear HLL HS4 HOK hk hlt HVA HVD LB
      generalize owD a d c = L at *
      generalize sumI (fun i => (L i).ow) 3 = z at *
      have hz := HSL.out
      go_wp2_with (at_builtin; refine wpList_append_elem wr w1 w1.heap.size rfl (.tmp 39) (.tmp 41) 22 rfl 41 dz 7 56 Try.underlying22 dInfo rfl (by decide) (by decide) _ 3 (dcell L) rfl #[.int .i64 15, .int .i64 0, .int .i64 100000, .int .i64 0, .int .i64 0, .int .i64 0, .int .i64 0] rfl rfl (one7 _ _ _ _ _ _ _) (dcell L) (fun j hj => rfl) HAT.out HO.out HB1.out hsz (by omega) ?_; intro v' w7 hown hB7 hs7 hg7 ha7; have HO7 := Lib.hid hown; have HB7 := Lib.hid hB7; clear hown hB7 hs7 hg7 ha7 HO HB1; obtain ⟨da, dc, rfl, -, -, hrk⟩ := own_rowK HO7.out; have HRD := Lib.hid hrk.rd; clear hrk HO7)
      have HB2 := Lib.hid (bthen' HB0.out HB7.out)
      have KA := Lib.hid (assign18 da 4 dc L (12 : Nat) w7 HRD.out (by unfold maxLen; omega))
      clear HB7 HB0 HAT hsz
      refine KA.out.mono ?_
      rintro e w3 ⟨oa, rfl, hrow, hb3⟩
      have HRO := Lib.hid (hrow HE.out)
      have HB3 := Lib.hid (bthen' HB2.out hb3)
      have HRD3 := Lib.hid (HRD.out.mono hb3)
      rw [HE.out, if_pos rfl]
      rw [show (((12 : Nat) : Int)).toNat = 12 from rfl] at HRO ⊢
      clear hrow hb3 KA HRD
      generalize asg 12 L 4 = s at *
      have HI := Lib.hid I
      have KC := Lib.hid (counts13 oa 12 12 s.ow 4 w3 HRO.out (by omega))
      unfold CntR at KC
      rw [show cntN 4 = 4 from rfl] at KC
      clear I
      go_wp2_with fail
      refine KC.out.mono ?_
      rintro e w4 ⟨ca, rfl, hrow, hb4⟩
      have HRC := Lib.hid (show Row w4 ca 4 s.hs from by
        obtain ⟨b', m', g1, g2⟩ := hrow
        exact ⟨b', m', g1, fun k hk => by rw [← HI.out.cn k hk]; exact g2 k hk⟩)
      have HRD4 := Lib.hid (HRD3.out.mono hb4)
      have HB4 := Lib.hid (bthen' HB3.out hb4)
      clear hrow hb4 KC HRD3
      go_wp2_with fail
      go_loopw [14] (fun s14 wx => ∃ k : Nat, s14 = .int .i64 k ∧ k ≤ 3 ∧ Below w4.heap.size w4 wx) (fun s14 _ => 3 - (intOf s14).toNat)
      case atStart => exact ⟨0, rfl, Nat.zero_le _, Below.refl _ _⟩
      case round =>
        obtain ⟨k, rfl, hk, hB⟩ := hrel
        have HB := Lib.hid hB
        by_cases hzl : z ≤ 12
        · have q1 : decide (z ≤ 12) = true := by simp [hzl]
          by_cases hlt : k < 3
          · have k0 : (0 : Int) ≤ (k : Int) := by omega
            have k1 : (k : Int) < 3 := by omega
            have k2 : (k : Int) < 4 := by omega
            have hq := HAS.out hzl k (by omega)
            obtain ⟨b1, m1, g1, g2⟩ := HRD4.out.mono hB
            obtain rfl := g1 (by omega)
            obtain ⟨-, -, -, -, c4, -, -⟩ := g2 k (by omega)
            obtain ⟨b2, m2, g3, g4⟩ := HRC.out.mono hB
            obtain rfl := g3 (by omega)
            have d0 := g4 k (by omega)
            clear g1 g2 g3 g4 hB hzl
            generalize (L k).ow = ow at *
            generalize s.hs k = h at *
            have q2 : decide (h < ow) = false := by simp; omega
            go_wp2_with fail
            go_quiet (fail)
            go_wp2
            go_roundw
            case rel => exact ⟨k + 1, by go_num, by omega, ⟨HB.out.os, HB.out.tape, HB.out.output, HB.out.size, HB.out.block⟩⟩
            case measure => simp [intOf]; omega
          · obtain rfl : k = 3 := by omega
            clear hB
            go_wp2_with fail
            refine (awake10 _).mono ?_
            rintro e w9 ⟨rfl, hb⟩
            have HBA := Lib.hid (bthen' (bthen' HB4.out HB.out) hb)
            clear hb
            go_wp2
            go_ret
            exact ⟨rfl, HBA.out⟩
        · exfalso
          omega
end Go.Proofs.Ytdcogbokcbpnnaa
