/- Layer 25: the walk of PriorityRates. -/
import Derived.Test.YtgcplboiodnfpaaL2
namespace Go.Proofs.Ytgcplboiodnfpaa
set_option linter.unusedVariables false
set_option linter.unusedSimpArgs false
open Go.RowKit Go.Sort
attribute [local go_sem] gcell

def rP (j : Nat) : Int := (j : Int) % 3
def rR (xs : Nat → Int) (j : Nat) : Int := xs j % 50
def rM (_ : Nat) : Int := 100
def rW (_ : Nat) : Int := 1000
theorem rR_bd (xs : Nat → Int) (j : Nat) : 0 ≤ rR xs j ∧ rR xs j ≤ 49 := by unfold rR; omega
theorem rSum (xs : Nat → Int) : ∀ k, 0 ≤ sumI (rR xs) k ∧ sumI (rR xs) k ≤ 49 * k
  | 0 => ⟨Int.le_refl _, Int.le_refl _⟩
  | k + 1 => by
    have := rSum xs k
    have := rR_bd xs k
    unfold sumI
    omega
set_option maxRecDepth 100000 in
set_option maxHeartbeats 8000000 in
theorem rates7 (a : Option Addr) (b m n c : Nat) (xs : Nat → Int) (x1 : Int) (w : World) (hn : n ≤ 281474976710656) (ha : 0 < n → a = some ⟨b, m, none⟩) (hx : ∀ k, k < n → w.cell? ⟨b, m + k, none⟩ = some (.int .u8 (xs k)) ∧ 0 ≤ xs k ∧ xs k ≤ 255) (b1 : 0 ≤ x1 ∧ x1 ≤ 255) :
    Calls Try.prog 7 #[.slice a n c, .int .u8 x1] w fun e w' => e = .returned (.bool true) ∧ Below w.heap.size w w' := by
  have HX := Lib.hid hx
  clear hx
  by_cases hno : n = 0 ∨ 4 < n
  · rcases hno with h | h
    · subst h
      go_enter Try.func7, Try.ntmps7
      go_wp2_with (go_at_call 10; refine (awake10 _).mono ?_; rintro e w' ⟨rfl, hb⟩)
      go_ret
      exact ⟨rfl, hb⟩
    · have h0 : ((n : Int) == 0) = false := beq_eq_false_iff_ne.2 (by omega)
      have h4 : (4 : Int) < (n : Int) := by omega
      go_enter Try.func7, Try.ntmps7
      go_wp2_with (go_at_call 10; refine (awake10 _).mono ?_; rintro e w' ⟨rfl, hb⟩)
      go_ret
      exact ⟨rfl, hb⟩
  · have hn4 : 1 ≤ n ∧ n ≤ 4 := by omega
    obtain rfl := ha (by omega)
    have h0 : ((n : Int) == 0) = false := beq_eq_false_iff_ne.2 (by omega)
    have h4 : decide ((4 : Int) < (n : Int)) = false := by simp; omega
    have m1 : 0 ≤ x1 % 40 ∧ x1 % 40 ≤ 39 := by omega
    clear hno ha
    go_enter Try.func7, Try.ntmps7
    go_wp2_with fail
    go_loopw [5, 6, 7, 8] (fun s5 s6 s7 s8 wr => ∃ k : Nat, s8 = .int .i64 k ∧ k ≤ n ∧ s7 = .int .i64 (sumI (rR xs) k) ∧ Two w wr s5 s6 k rP (rR xs) rM q0 rW) (fun _ _ _ s8 _ => n - (intOf s8).toNat)
    case atStart => exact ⟨0, rfl, Nat.zero_le _, rfl, own_nilK _ _ _ _ _, World.ownsRow_nil _ _ _ _, Apart.nil _, Below.refl _ _⟩
    case round =>
      rename_i v5 v6
      obtain ⟨k, rfl, hk, rfl, hS⟩ := hrel
      have HS := Lib.hid hS
      have hsr := hS.bel.size
      by_cases hlt : k < n
      · have x0 := up hS.bel (HX.out k hlt).1
        have bx := (HX.out k hlt).2
        have i1 : (0 : Int) ≤ (k : Int) := by omega
        have i2 : (k : Int) < (n : Int) := by omega
        have i6 : k + 1 ≤ 1000000 := by omega
        have hsum := rSum xs k
        have HSM := Lib.hid (show sumI (rR xs) (k + 1) = sumI (rR xs) k + xs k % 50 from rfl)
        have hkm : 0 ≤ (k : Int) % 3 ∧ (k : Int) % 3 ≤ 2 := by omega
        have HU := Lib.hid fun j hj => bf_snoc rP (rR xs) rM q0 k j hj
        clear hS
        go_wp2_with (first
          | (at_builtin; refine wpList_append_elem wr w w.heap.size rfl (.tmp 39) (.tmp 44) 25 rfl 35 bz 4 32 Try.underlying25 bInfo rfl (by decide) (by decide) _ k (bf rP (rR xs) rM q0) rfl #[.int .i64 ((k : Int) % 3), .int .i64 (xs k % 50), .int .i64 100, .int .i64 0] rfl rfl (one4 _ _ _ _) (bf rP (rR xs) rM q0) (fun _ _ => rfl) HU.out HS.out.ru HS.out.bel hsr i6 ?_; intro u' w6 hown hB6 hs6 hg6 ha6; obtain ⟨hv6, hap6⟩ := HS.out.pushU hown hB6 hg6 ha6; have HU6 := Lib.hid hown; have HV6 := Lib.hid hv6; have HA6 := Lib.hid hap6; have HB6 := Lib.hid hB6; have hsz6 := hB6.size; clear hown hB6 hs6 hg6 ha6 hv6 hap6)
          | (at_builtin; refine wpList_append1_at w6 w w.heap.size rfl (.tmp 46) (.tmp 47) 22 rfl 3 (.int .i64 0) 8 Try.underlying22 intInfo rfl (by decide) _ k (iv rW) rfl _ rfl HV6.out HB6.out hsz6 rfl rfl i6 ?_; intro v' w7 hown hB7 hs7 hg7 ha7; have HS7 := Lib.hid (show Two w w7 u' v' (k + 1) rP (rR xs) rM q0 rW from ⟨HA6.out.symm.keep HU6.out hg7, hown, HA6.out.symm.grown HU6.out ha7, hB7⟩); clear hown hB7 hs7 hg7 ha7))
        go_roundw
        case rel => exact ⟨k + 1, by go_num, by omega, by rw [HSM.out], HS7.out⟩
        case measure => simp [intOf]; omega
      · obtain rfl : k = n := by omega
        obtain ⟨a, c', a', c'', rfl, rfl, hna, hR, hW⟩ := hS.r4
        have hsum := rSum xs k
        have HSM := Lib.hid (rfl : sumI (rR xs) k = sumI (rR xs) k)
        generalize hsz : sumI (rR xs) k = sz at *
        have HSZ := Lib.hid hsz
        have hWr : Row wr a' k (fun i => if i < k then rW i else 0) := hW.congr rfl fun i hi => (if_pos hi).symm
        have HW := Lib.hid hWr
        have HR := Lib.hid hR
        have HB := Lib.hid hS.bel
        have sw := hS.bel.size
        clear hR hW hWr hS HS hsz
        go_wp2_with fail
        go_loopw [5, 10] (fun s5 s10 wx => ∃ (t : Nat) (a : Option Addr) (c : Nat), s10 = .int .i64 t ∧ (t : Int) ≤ x1 % 40 ∧ s5 = .slice a k c ∧ (a = none → k = 0) ∧ R4 wx a k rP (rR xs) rM (fun _ => 0) ∧ Row wx a' k (fun i => if i < k then rW i else 0) ∧ Below w.heap.size w wx) (fun _ s10 _ => 40 - (intOf s10).toNat)
        case atStart => exact ⟨0, a, c', rfl, by omega, rfl, hna, HR.out, HW.out, HB.out⟩
        case round =>
          clear HR HW HB
          obtain ⟨t, a, c', rfl, ht, rfl, hna, hR, hW, hb⟩ := hrel
          have HB := Lib.hid hb
          have hsr := hb.size
          by_cases hlt2 : (t : Int) < x1 % 40
          · have hok : okB k rP (rR xs) rM (fun _ => 0) = true := okB_mk (by omega) fun j hj => by
              have := rR_bd xs j
              unfold vb btw rP rM
              simp
              omega
            have K := tick20 a k c' rP (rR xs) rM (fun _ => 0) wr (by omega) hna hR
            unfold TickR at K
            rw [hok] at K
            have HK := Lib.hid K
            have HW := Lib.hid hW
            clear hR hW hb K hok
            go_wp2_with fail
            refine HK.out.mono ?_
            rintro e w1 ⟨a1, c1, rfl, hc1, ha1, hR1, hb⟩
            have hT : ∀ j, tkT true (rR xs) rM (fun _ => 0) j = rR xs j := fun j => by
              have := rR_bd xs j
              show min (0 + rR xs j) 100 = _
              omega
            have hR1 := hR1.congr (T' := rR xs) fun j _ => (hT j).symm
            have HB1 := Lib.hid (bthen HB.out hb hsr)
            have HW1 := Lib.hid (HW.out.mono hb)
            have HR1 := Lib.hid hR1
            have hs1 := HB1.out.size
            have hok : okB k rP (rR xs) rM (rR xs) = true := okB_mk (by omega) fun j hj => by
              have := rR_bd xs j
              unfold vb btw rP rM
              simp
              omega
            have hE : eS k k true (fun i => if i < k then rW i else 0) sz = 0 := by
              unfold eS
              rw [if_neg (by simp), if_neg (by simp), if_neg]
              rw [btw_true.2 (by omega), anyB_false.2]
              · simp
              · intro j hj
                unfold badW
                simp only [if_pos hj]
                rw [btw_true.2]
                · rfl
                · unfold rW; omega
            have hO := ord_of (n := k) (k := rP) fun j hj => by unfold rP; omega
            have hW0 : ∀ i, 0 ≤ (fun i => if i < k then rW i else 0) i := fun i => by
              show 0 ≤ (if i < k then rW i else 0)
              unfold rW
              split <;> omega
            have hc1' : ∀ j, j < k → cap1 (fun i => if i < k then rW i else 0) (rR xs) j = rR xs j := fun j hj => by
              have := rR_bd xs j
              unfold cap1
              simp only [if_pos hj]
              unfold rW
              omega
            have he : sumI (cap1 (fun i => if i < k then rW i else 0) (rR xs)) k = sz := by
              rw [← HSZ.out]
              exact sumI_congr hc1'
            have hg := fun j (hj : j < k) => g1_rates (T := rR xs) hO hsum.1 hW0 he hj
            have hg1 : ∀ j, j < k → g1 (fun i => if i < k then rW i else 0) (rR xs) (ordP rP k 16) k sz j = rR xs j := fun j hj => (hg j hj).1.trans (hc1' j hj)
            have hg2 : ∀ j, j < k → gAll (fun i => if i < k then rW i else 0) (rR xs) (ordP rP k 16) k sz j = rR xs j := fun j hj => by
              unfold gAll
              rw [hg1 j hj, (hg j hj).2]
              omega
            have HG1 := Lib.hid hg1
            have HG2 := Lib.hid hg2
            have K1 := share14 a1 k c1 a' k c'' rP (rR xs) rM (rR xs) (fun i => if i < k then rW i else 0) sz w1 (by omega) (by omega) ha1 hR1 HW1.out (fun i hi => if_neg (by omega))
            unfold ShareR at K1
            rw [hok, hE] at K1
            have HK1 := Lib.hid K1
            clear hR1 hb hok hE hO hW0 hc1' he hg hg1 hg2 K1 hT HK HW HB
            go_wp2_with fail
            refine HK1.out.mono ?_
            rintro e w2 ⟨N, a2, a3, c2, c3, rfl, hN, hc2, hA2, hR2, hG2, hb⟩
            obtain rfl : N = k := hN
            have HR2 := Lib.hid (hR2.congr (T' := fun _ => 0) fun j hj => by rw [HG1.out j hj]; omega)
            have HGR := Lib.hid (hG2.congr (ys := rR xs) rfl HG2.out)
            have HB2 := Lib.hid (bthen HB1.out hb hs1)
            have HW2 := Lib.hid (HW1.out.mono hb)
            have HT2 := Lib.hid (HR1.out.mono hb)
            have hs2 := HB2.out.size
            have HA2 := Lib.hid hA2
            have q1 : ((N : Int) != (N : Int)) = false := by simp
            clear hR2 hG2 hb HK1 HW1 HR1 HB1 HG1 HG2 hA2
            go_wp2_with fail
            go_loopw [14] (fun s14 wx => ∃ i : Nat, s14 = .int .i64 i ∧ i ≤ N ∧ Below w2.heap.size w2 wx) (fun s14 _ => N - (intOf s14).toNat)
            case atStart => exact ⟨0, rfl, Nat.zero_le _, Below.refl _ _⟩
            case round =>
              obtain ⟨i, rfl, hi, hbq⟩ := hrel
              have HBQ := Lib.hid hbq
              by_cases hin : i < N
              · obtain ⟨gb, gm, g1', g2'⟩ := HGR.out.mono hbq
                obtain rfl := g1' (by omega)
                have g0 := g2' i hin
                obtain ⟨tb, tm, t1', t2'⟩ := HT2.out.mono hbq
                obtain rfl := t1' (by omega)
                have t0 := (t2' i hin).2.1
                have i1 : (0 : Int) ≤ (i : Int) := by omega
                have i2 : (i : Int) < (N : Int) := by omega
                generalize rR xs i = rr at *
                have q3 : decide (rr < rr) = false := by simp
                clear g1' g2' t1' t2' hbq
                go_wp2_with fail
                go_quiet (fail)
                go_wp2_with fail
                go_roundw
                case rel => exact ⟨i + 1, by go_num, by omega, below_drewN HBQ.out nq⟩
                case measure => simp [intOf]; omega
              · obtain rfl : i = N := by omega
                have HB3 := Lib.hid (bthen HB2.out hbq hs2)
                have HR3 := Lib.hid (HR2.out.mono hbq)
                have HW3 := Lib.hid (HW2.out.mono hbq)
                clear hbq
                go_wp2_with fail
                go_roundw
                case rel => exact ⟨t + 1, _, _, by go_num, by omega, rfl, HA2.out, HR3.out, HW3.out, HB3.out⟩
                case measure => simp [intOf]; omega
          · clear hR hW hb
            go_wp2_with fail
            refine (awake10 _).mono ?_
            rintro e w2 ⟨rfl, hb⟩
            have HB2 := Lib.hid (bthen HB.out hb hsr)
            clear hb
            go_wp2
            go_ret
            exact ⟨rfl, HB2.out⟩
end Go.Proofs.Ytgcplboiodnfpaa
