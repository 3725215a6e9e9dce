/- Layer 31: ChannelMade. -/
import Derived.Test.YtfkbcjpiijcbfaaC16
import Derived.Test.YtfkbcjpiijcbfaaC17
namespace Go.Proofs.Ytfkbcjpiijcbfaa
set_option linter.unusedVariables false
set_option linter.unusedSimpArgs false
open Go.RowKit Go.Sort
attribute [local go_sem] gcell
set_option maxRecDepth 100000 in
set_option maxHeartbeats 8000000 in
theorem made6 (a : Option Addr) (b o n0 cp : Nat) (xs : Nat → Int) (a2 : Option Addr) (b2 o2 m cp2 : Nat) (l : Nat → Bool) (s ti : Int) (w : World) (hc : n0 ≤ cp) (h0 : a = none → cp = 0) (ha : 0 < cp → a = some ⟨b, o, none⟩) (hx : ∀ i, i < n0 → w.cell? ⟨b, o + i, none⟩ = some (.int .i64 (xs i))) (hn : n0 ≤ 140737488351232)
    (ha2 : 0 < m → a2 = some ⟨b2, o2, none⟩) (hl : ∀ k, k < m → w.cell? ⟨b2, o2 + k, none⟩ = some (.bool (l k))) (hm : m ≤ 140737488351232) (bs : 0 ≤ s ∧ s ≤ 65535) (bt : 0 ≤ ti ∧ ti ≤ 65535) :
    Calls Try.prog 6 #[.slice a n0 cp, .slice a2 m cp2, .int .u16 s, .int .u16 ti] w fun e w' => e = .returned (.bool true) ∧ Below w.heap.size w w' := by
  have KL := Lib.hid (light_any a n0 cp w)
  by_cases h300 : n0 ≤ 300
  · have q1 : decide (n0 ≤ 300) = true := by simp [h300]
    rw [q1] at KL
    clear q1
    by_cases hm3 : 300 < m
    · clear ha hx ha2 hl
      go_enter Try.func6, Try.ntmps6
      go_wp2_with fail
      refine KL.out.mono ?_
      rintro e w1 ⟨rfl, hw1⟩; obtain rfl := hw1.symm
      go_wp2_with fail
      refine (awake9 _).mono ?_
      rintro e w2 ⟨rfl, hb⟩
      have HB := Lib.hid hb
      clear hb
      go_wp2
      go_ret
      exact ⟨rfl, HB.out⟩
    · have KR := Lib.hid (roll_any w a b o n0 cp xs h300 hc h0 ha hx)
      have HL2 := Lib.hid hl
      have HA2 := Lib.hid ha2
      have ht : ti.tmod 120 = ti % 120 := Int.tmod_eq_emod_of_nonneg bt.1
      clear ha hx ha2 hl
      go_enter Try.func6, Try.ntmps6
      go_wp2_with fail
      refine KL.out.mono ?_
      rintro e w1 ⟨rfl, hw1⟩; obtain rfl := hw1.symm
      go_wp2_with fail
      refine KR.out.mono ?_
      rintro e w1 ⟨p, g, aa, cap, rfl, hD, hpw, hb1⟩
      have HB1 := Lib.hid hb1
      have HF0 := Lib.hid (FS.start hD)
      clear hD hb1 KR KL
      go_wp2_with fail
      refine (HF0.out.next h300 12 (by omega)).mono ?_
      rintro e w2 ⟨cv, rfl, bc, hF, -⟩
      obtain ⟨M0, rfl⟩ := Int.eq_ofNat_of_zero_le bc.1
      have HF1 := Lib.hid hF
      have bM : M0 < 12 := by omega
      clear hF HF0 bc
      go_wp2_with fail
      go_loopw [10, 11] (fun sr sc wr => ∃ (k : Nat) (X : Nat → Fd), sc = .int .i64 ((M0 : Int) - k) ∧ k ≤ M0 ∧ FS w1 wr p g aa cap n0 xs sr k X) (fun _ sc _ => (intOf sc).toNat)
      case atStart => exact ⟨0, fun _ => ⟨0, 0, 0, 0, 0⟩, by simp, Nat.zero_le _, HF1.out⟩
      case round =>
        clear HF1
        obtain ⟨k, X, rfl, hk, hF⟩ := hrel
        have HG0 := Lib.hid hF
        clear hF
        by_cases hlt : k < M0
        · have hpos : (0 : Int) < (M0 : Int) - k := by omega
          go_wp2_with fail
          refine (HG0.out.next h300 4 (by omega)).mono ?_
          rintro e y0 ⟨x0, rfl, bx0, hF, -⟩
          have HG1 := Lib.hid hF
          clear hF HG0 bx0
          go_wp2_with fail
          refine (HG1.out.next h300 3 (by omega)).mono ?_
          rintro e y1 ⟨x1, rfl, bx1, hF, -⟩
          have HG2 := Lib.hid hF
          clear hF HG1 bx1
          go_wp2_with fail
          refine (HG2.out.next h300 100 (by omega)).mono ?_
          rintro e y2 ⟨x2, rfl, bx2, hF, -⟩
          have HG3 := Lib.hid hF
          clear hF HG2 bx2
          go_wp2_with fail
          refine (HG3.out.next h300 128 (by omega)).mono ?_
          rintro e y3 ⟨x3, rfl, bx3, hF, -⟩
          have HG4 := Lib.hid hF
          clear hF HG3 bx3
          go_wp2_with fail
          refine (HG4.out.next h300 200 (by omega)).mono ?_
          rintro e y4 ⟨x4, rfl, bx4, hF, -⟩
          have HG5 := Lib.hid hF
          clear hF HG4 bx4
          have z5 := HG5.out.o.size
          have hk6 : k + 1 ≤ 1000000 := by omega
          go_wp2_with (at_builtin; refine wpList_append_elem y4 y4 w1.heap.size rfl (.tmp 31) (.tmp 43) 32 rfl 35 fz 5 40 Try.underlying32 fInfo rfl (by decide) (by decide) _ k (fcell X) rfl #[.int .i64 x0, .int .i64 x1, .int .i64 x2, .int .i64 x3, .int .i64 x4] rfl rfl (one5 _ _ _ _ _) (fcell (putF X k ⟨x0, x1, x2, x3, x4⟩)) (fun j hj => fcell_upd j hj) (fun j hj => fcell_new j hj) HG5.out.own (Below.refl _ _) z5 hk6 ?_; intro v' w7 hown hB7 hs7 hg7 ha7; have HG6 := Lib.hid (HG5.out.push hown hB7); clear hown hB7 hs7 hg7 ha7 HG5)
          go_roundw
          case rel => exact ⟨k + 1, _, by congr 1; omega, by omega, HG6.out⟩
          case measure => simp [intOf]; omega
        · obtain rfl : k = M0 := by omega
          have hpos : ¬ (0 : Int) < (k : Int) - (k : Int) := by omega
          obtain ⟨w4, rfl⟩ : ∃ w4, w4 = wr := ⟨_, rfl⟩
          have HBW := Lib.hid (HG0.out.below HB1.out hpw)
          have HF := Lib.hid HG0.out
          clear HG0
          obtain ⟨i0, hi, hz0, hz1, hz2⟩ := info_split intInfo
          have HQ0 := Lib.hid HF.out
          have hw : w.heap.size ≤ w4.heap.size := Nat.le_trans HB1.out.size HF.out.o.size
          obtain ⟨ra, rc, rfl, hrc, -, -⟩ := HF.out.row
          go_wp2_with (refine wpList_make_full _ rfl (.tmp 46) (.tmp 46) 23 rfl w4.heap.size 3 i0 (.int .i64 0) 1 Try.underlying23 hi hz0 hz1 .i64 .i64 (m : Int) (m : Int) m rfl rfl rfl rfl ?c1 ?c2 (Nat.le_refl _) ?_)
          case c1 => first | omega | (rw [hz2]; omega)
          case c2 => unfold maxLen; omega
          intro w5 hown hgrow
          have hlt5 : w4.heap.size < w5.heap.size := (hown.lt _ rfl).2
          have HL0 := Lib.hid (Fill.made (ys := bitv l) hown hgrow hlt5)
          clear hown hgrow hz1 hz2 hz0 hi hlt5
          generalize hG : w4.heap.size = G at HL0 ⊢
          have HG := Lib.hid hG
          clear hG
          go_wp2
          go_loopw [13] (fun s13 wr => ∃ j : Nat, j ≤ m ∧ s13 = .int .i64 j ∧ Fill w4 wr G m j (fun _ => 0) (bitv l)) (fun s13 _ => m - (intOf s13).toNat)
          case atStart => exact ⟨0, Nat.zero_le _, rfl, HL0.out⟩
          case round =>
            clear HL0
            obtain ⟨j, hj, rfl, F⟩ := hrel
            have HL := Lib.hid F
            by_cases hjl : j < m
            · have hlk := up F.bel (up HBW.out (HL2.out j hjl))
              have hak := HA2.out (by omega)
              subst hak
              have hc := F.x j hjl
              have hf := F.f j
              clear F
              cases hb : l j
              · have e1 : bitv l j = 0 := by unfold bitv; rw [hb]; rfl
                rw [hb] at hlk
                go_wp2
                go_roundw
                case rel => exact ⟨j + 1, by omega, by go_num, HL.out.keep e1⟩
                case measure => simp [intOf]; omega
              · have e1 : bitv l j = 1 := by unfold bitv; rw [hb]; rfl
                rw [hb] at hlk
                go_wp2
                go_roundw
                case rel =>
                  have h5 := HL.out.set hjl
                  simp only [e1] at h5
                  exact ⟨j + 1, by omega, by go_num, h5⟩
                case measure => simp [intOf]; omega
            · obtain rfl : j = m := by omega
              have hpG : G ≠ p := by have := HF.out.hp; have := HF.out.o.size; have := HG.out; omega
              have HR0 := Lib.hid (show ∀ i, i < j → wr.cell? ⟨G, i, none⟩ = some (.int .i64 (bitv l i)) from fun i hi => by rw [F.x i hi, if_pos hi])
              have HE0 := Lib.hid (HF.out.mono F.bel)
              clear F HL
              go_wp2_with fail
              refine (HE0.out.next h300 4 (by omega)).mono ?_
              rintro e u1 ⟨x1, rfl, bx1, hF, hO⟩
              have HE1 := Lib.hid hF
              have HR1 := Lib.hid fun i (hi : i < j) => only_cell hO hpG (HR0.out i hi)
              clear hF hO HR0 HE0 bx1
              go_wp2_with fail
              refine (HE1.out.next h300 3 (by omega)).mono ?_
              rintro e u2 ⟨x2, rfl, bx2, hF, hO⟩
              have HE2 := Lib.hid hF
              have HR2 := Lib.hid fun i (hi : i < j) => only_cell hO hpG (HR1.out i hi)
              clear hF hO HR1 HE1 bx2
              go_wp2_with fail
              refine (HE2.out.next h300 50 (by omega)).mono ?_
              rintro e u3 ⟨x3, rfl, bx3, hF, hO⟩
              have HE3 := Lib.hid hF
              have HR3 := Lib.hid fun i (hi : i < j) => only_cell hO hpG (HR2.out i hi)
              clear hF hO HR2 HE2 bx3
              obtain ⟨ra', rc', hv, -, -, hrow⟩ := HE3.out.row
              cases hv
              have K := Lib.hid (agree14 ra k rc X s x1 x2 (ti % 120) j x3 (some ⟨G, 0, none⟩) j j (bitv l) u3 hrow.r5 (by unfold maxLen; omega) ⟨G, 0, fun _ => rfl, fun i hi => by rw [Nat.zero_add]; exact HR3.out i hi⟩ (by omega))
              have HBE := Lib.hid (HE3.out.below HB1.out hpw)
              clear hrow
              go_wp2_with fail
              refine K.out.mono ?_
              rintro e u4 ⟨rfl, hb⟩
              have HB4 := Lib.hid (bthen' HBE.out hb)
              clear hb
              go_wp2_with fail
              refine (awake9 u4).mono ?_
              rintro e u5 ⟨rfl, hb⟩
              have HB5 := Lib.hid (bthen' HB4.out hb)
              clear hb
              go_wp2
              go_ret
              exact ⟨rfl, HB5.out⟩
  · have q1 : decide (n0 ≤ 300) = false := by simp; omega
    rw [q1] at KL
    clear ha hx ha2 hl q1
    go_enter Try.func6, Try.ntmps6
    go_wp2_with fail
    refine KL.out.mono ?_
    rintro e w1 ⟨rfl, hw1⟩; obtain rfl := hw1.symm
    go_wp2_with fail
    refine (awake9 _).mono ?_
    rintro e w2 ⟨rfl, hb⟩
    have HB := Lib.hid hb
    clear hb
    go_wp2
    go_ret
    exact ⟨rfl, HB.out⟩
end Go.Proofs.Ytfkbcjpiijcbfaa
