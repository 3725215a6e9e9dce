/- Layer 25: the reference's Share. -/
import Derived.Test.YtgcplboiodnfpaaP6
namespace Go.Proofs.Ytgcplboiodnfpaa
set_option linter.unusedVariables false
set_option linter.unusedSimpArgs false
open Go.RowKit Go.Sort
attribute [local go_sem] gcell

section
variable (a : Option Addr) (n c : Nat) (d : Option Addr) (m l : Nat) (P R M T W : Nat → Int) (s : Int) (w : World)
set_option maxRecDepth 100000 in
set_option maxHeartbeats 8000000 in
theorem share18_pos (h0' : 0 < n) (hn : n ≤ 1000) (hm : m ≤ 1000) (ha : a = none → n = 0) (H : R4 w a n P R M T) (HW : Row w d m W) (hW0 : ∀ i, m ≤ i → W i = 0) : Calls Try.prog 18 #[.slice a n c, .slice d m l, .int .i64 s] w (ShareR n m P R M T W s w) := by
  have hml : n ≤ maxLen := by unfold maxLen; omega
  have hmm : m ≤ maxLen := by unfold maxLen; omega
  have HR := Lib.hid H
  have HRW := Lib.hid HW
  have HA := Lib.hid ha
  have HW0 := Lib.hid hW0
  have K1 := Lib.hid (valid30 a n c P R M T w H hml)
  clear H HW ha hW0
  go_enter Try.func18, Try.ntmps18
  go_wp2_with fail
  refine K1.out.mono ?_
  rintro e w1 ⟨rfl, hb⟩
  have HB1 := Lib.hid hb
  have hs1 := hb.size
  clear hb K1
  cases hok : okB n P R M T
  · have HE := Lib.hid (show eS n m (okB n P R M T) W s = 1 by unfold eS; rw [hok, if_pos rfl])
    clear hok
    go_wp2
    go_ret3
    exact share_bad HE.out (by decide) HB1.out
  · have HOK := Lib.hid hok
    clear hok
    by_cases hmn : m = n
    · subst hmn
      have q0 : ((m : Int) != (m : Int)) = false := by simp
      go_upto_region 5 with fail
      go_cut [9] (fun s9 W1 => s9 = .bool (!btw s 0 256) ∧ W1 = w1)
      case first =>
        by_cases h1 : s < 0
        · have e1 : btw s 0 256 = false := btw_false.2 (by omega)
          go_wp2_with fail
          go_meet
          exact ⟨by rw [e1]; rfl, rfl⟩
        · by_cases h2 : 256 < s
          · have e1 : btw s 0 256 = false := btw_false.2 (by omega)
            go_wp2_with fail
            go_meet
            exact ⟨by rw [e1]; rfl, rfl⟩
          · have e1 : btw s 0 256 = true := btw_true.2 (by omega)
            go_wp2_with fail
            go_meet
            exact ⟨by rw [e1]; rfl, rfl⟩
      case rest =>
        obtain ⟨h9, rfl⟩ := hcut
        subst h9
        obtain ⟨b0, hb0⟩ : ∃ b0, (!btw s 0 256) = b0 := ⟨_, rfl⟩
        rw [hb0]
        have HBS := Lib.hid hb0
        clear hb0
        go_wp2_with fail
        go_loopw [9, 10] (fun s9 s10 wr => ∃ k : Nat, s10 = .int .i64 k ∧ s9 = .bool (b0 || anyB (badW W) k) ∧ k ≤ m ∧ wr = wc) (fun _ s10 _ => m - (intOf s10).toNat)
        case atStart => exact ⟨0, rfl, by show _ = Value.bool (b0 || false); simp, Nat.zero_le _, rfl⟩
        case round =>
          obtain ⟨k, rfl, rfl, hk, rfl⟩ := hrel
          by_cases hlt : k < m
          · obtain ⟨wb, wo, wa, wx⟩ := HRW.out.mono HB1.out
            obtain rfl := wa h0'
            have x0 := wx k hlt
            have i1 : (0 : Int) ≤ (k : Int) := by omega
            have i2 : (k : Int) < (m : Int) := by omega
            have hany : anyB (badW W) (k + 1) = (anyB (badW W) k || badW W k) := rfl
            have hbw : badW W k = !btw (W k) 0 1048576 := rfl
            have HAN := Lib.hid hany
            have HBW := Lib.hid hbw
            clear wa wx hany hbw
            cases hB : (b0 || anyB (badW W) k)
            · by_cases h1 : W k < 0
              · have e1 := Lib.hid (btw_false.2 (show ¬ (0 ≤ W k ∧ W k ≤ 1048576) by omega))
                have HBB := Lib.hid hB
                clear hB
                go_wp2_with fail
                go_roundw
                case rel => exact ⟨k + 1, by go_num, by rw [HAN.out, HBW.out, e1.out]; simp, by omega, by first | rfl | trivial⟩
                case measure => simp [intOf]; omega
              · by_cases h2 : 1048576 < W k
                · have e1 := Lib.hid (btw_false.2 (show ¬ (0 ≤ W k ∧ W k ≤ 1048576) by omega))
                  have HBB := Lib.hid hB
                  clear hB
                  go_wp2_with fail
                  go_roundw
                  case rel => exact ⟨k + 1, by go_num, by rw [HAN.out, HBW.out, e1.out]; simp, by omega, by first | rfl | trivial⟩
                  case measure => simp [intOf]; omega
                · have e1 := Lib.hid (btw_true.2 (show (0 ≤ W k ∧ W k ≤ 1048576) by omega))
                  have HBB := Lib.hid hB
                  clear hB
                  go_wp2_with fail
                  go_roundw
                  case rel => exact ⟨k + 1, by go_num, by rw [HAN.out, HBW.out, e1.out, ← Bool.or_assoc, HBB.out]; rfl, by omega, by first | rfl | trivial⟩
                  case measure => simp [intOf]; omega
            · have HBB := Lib.hid hB
              clear hB
              go_wp2_with fail
              go_roundw
              case rel => exact ⟨k + 1, by go_num, by rw [HAN.out, ← Bool.or_assoc, HBB.out]; rfl, by omega, by first | rfl | trivial⟩
              case measure => simp [intOf]; omega
          · obtain rfl : k = m := by omega
            have hE : ∀ b, (b0 || anyB (badW W) k) = b → eS k k (okB k P R M T) W s = (if b = true then 3 else 0) := fun b hb => by unfold eS; rw [HOK.out, if_neg (by simp), if_neg (by simp), HBS.out, hb]
            cases hB : (b0 || anyB (badW W) k)
            rotate_left
            · have HE := Lib.hid (show eS k k (okB k P R M T) W s = 3 from hE _ hB)
              clear hE
              go_wp2
              go_ret3
              exact share_bad HE.out (by decide) HB1.out
            · have he : eS k k (okB k P R M T) W s = 0 := hE _ hB
              clear hE
              obtain ⟨_, _, hs, hWb⟩ := eS_0 he
              have HE := Lib.hid he
              have HWB := Lib.hid hWb
              have hW : ∀ i, 0 ≤ W i := fun i => by
                rcases Nat.lt_or_ge i k with h | h
                · exact (hWb i h).1
                · rw [HW0.out i h]; exact Int.le_refl _
              have HWN := Lib.hid hW
              obtain ⟨h8, hv⟩ := okB_true HOK.out
              have HV := Lib.hid hv
              have HO := Lib.hid (ord_of fun k hk => (vb_true (hv k hk)).1)
              have HR1 := Lib.hid (HR.out.mono HB1.out)
              clear he hWb hW hv
              obtain ⟨j0, hj, hy0, hy1, hy2⟩ := info_split intInfo
              have HJ := Lib.hid hj
              have HY0 := Lib.hid hy0
              have HY1 := Lib.hid hy1
              have HY2 := Lib.hid hy2
              clear hj hy0 hy1 hy2
              have hmk := fun W1 : World => run_make_row' (P := Try.prog) 22 3 (.int .i64 0) 8 Try.underlying22 intInfo rfl .i64 .i64 k (by omega) (by omega) W1
              go_upto_region 14 with (at_builtin; refine copy19 a k c P R M T wr hn HA.out HR1.out rfl (.tmp 54) (.tmp 55) rfl rfl rfl rfl ?_; rintro v' w2 ⟨a', cc, ob, rfl, hcc, hC, hb2⟩)
              obtain ⟨rfl, hob1, hVA⟩ := hC h0'
              have lo := hVA.lt
              have hs2 := hb2.size
              have hB2 := bthen HB1.out hb2 hs1
              have HB3 := Lib.hid (hB2.alloc (by omega) (.cells (madeCells #[.int .i64 0] k) 3))
              have HQ3 := Lib.hid (show B4 (w2.alloc (.cells (madeCells #[.int .i64 0] k) 3)) ob k P R M T from VAt.mono hVA (below_alloc _ _))
              have HG3 := Lib.hid (VAt.of_alloc w2 k 0)
              have hs3 : (w2.alloc (.cells (madeCells #[.int .i64 0] k) 3)).heap.size = w2.heap.size + 1 := by simp
              clear hC hVA hB2 hb2 HB1
              clear hmk
              have hgne : ob ≠ w2.heap.size := by omega
              have hgb : w.heap.size ≤ w2.heap.size := by omega
              have lg : w2.heap.size < (w2.alloc (.cells (madeCells #[.int .i64 0] k) 3)).heap.size := by omega
              generalize w2.heap.size = gb at *
              generalize w2.alloc (.cells (madeCells #[.int .i64 0] k) 3) = w3 at *
              have K3 := Lib.hid (order31 a k c P R M T w3 h8 (HR.out.mono HB3.out))
              go_wp2_with fail
              refine K3.out.mono ?_
              rintro e w4 ⟨v, rfl, hOL, hb4⟩
              have hlen := HO.out.len
              unfold OwnL at hOL
              rw [hlen] at hOL
              obtain ⟨a'', cap, z, rfl, hcap, h3, h4⟩ := own_cellsK (s := 1) (by simpa using hOL)
              obtain ⟨rfl, hz1, hz2, hzf⟩ := h3 h0'
              have hne : ob ≠ gb := hgne
              have HS0 := Lib.hid (show Sh w w4 ob gb z k P R M T (gv (cap1 W T) (ordP P k 16) s 0) (gv (cap1 W T) (ordP P k 16) s 0) (ordP P k 16) from
                ⟨bthen HB3.out hb4 (by omega), ((HQ3.out.mono hb4).congr fun q _ => by simp [gv]), HG3.out.mono hb4, ⟨fun q hq => h4 q (by omega), hzf, hz2⟩, ⟨hne, by omega, by omega⟩, by omega, hgb⟩)
              clear hOL hb4 h3 h4 hzf K3 HQ3 HG3 HB3 hlen
              generalize hLL : ordP P k 16 = L at *
              have HLL := Lib.hid hLL
              clear hLL
              go_wp2_with fail
              go_loopw [2, 14] (fun s2 s14 wx => ∃ j : Nat, s14 = .int .i64 j ∧ j ≤ k ∧ s2 = .int .i64 (lf (cap1 W T) L s j) ∧ Sh w wx ob gb z k P R M T (gv (cap1 W T) L s j) (gv (cap1 W T) L s j) L) (fun _ s14 _ => k - (intOf s14).toNat)
              case atStart => exact ⟨0, rfl, Nat.zero_le _, rfl, HS0.out⟩
              case round =>
                clear HS0
                obtain ⟨j, rfl, hj, rfl, hS⟩ := hrel
                have HS := Lib.hid hS
                by_cases hlt : j < k
                · have hyk := HO.out.lt j hlt
                  have hgf := gv_fresh (cap := cap1 W T) (s := s) HO.out (Nat.le_refl j) hlt
                  have hlf := lf_bd (L := L) (cap := cap1 W T) hs.1 (cap1_nn HWN.out) j
                  have HGP := Lib.hid fun x hx => gv_put (cap := cap1 W T) (L := L) (s := s) (j := j) (x := x) rfl hx
                  have HLF := Lib.hid (show lf (cap1 W T) L s (j + 1) = lf (cap1 W T) L s j - min (cap1 W T (L.getD j 0)) (lf (cap1 W T) L s j) from rfl)
                  have o0 := hS.ord.c j hlt
                  unfold iv nums at o0
                  generalize L.getD j 0 = y at *
                  have g0 := hS.got.c y hyk
                  unfold iv at g0
                  rw [hgf] at g0
                  have t0 := (hS.out.cells hyk).2.2.2
                  rw [hgf, Int.sub_zero] at t0
                  have gf := hS.got.fr y
                  have tf := hS.out.fr (y * 4 + 3)
                  obtain ⟨wb, wo, wa, wx⟩ := HRW.out.mono hS.bel
                  obtain rfl := wa h0'
                  have w1 := wx y hyk
                  have bv := vb_true (HV.out y hyk)
                  have bw := HWB.out y hyk
                  have hc1 : cap1 W T y = min (W y) (max (T y) 0) := rfl
                  have HT := Lib.hid fun (w4 : World) (h4 : Below wr.heap.size wr w4) x => ((hS.mono h4).setG y x).setT y x
                  have i1 : (0 : Int) ≤ (y : Int) := by omega
                  have i2 : (y : Int) < (k : Int) := by omega
                  have i3 : (0 : Int) ≤ (j : Int) := by omega
                  have i4 : (j : Int) < (k : Int) := by omega
                  have ltg := lt_of_cell g0
                  have lto := lt_of_cell t0
                  rw [hc1] at HGP HLF
                  clear hS wa wx hgf hc1
                  generalize W y = wy at *
                  generalize T y = ty at *
                  generalize lf (cap1 W T) L s j = lj at *
                  go_upto_region 18 with fail
                  obtain ⟨mx, hmx⟩ : ∃ mx, (if 0 < ty then ty else 0) = mx := ⟨_, rfl⟩
                  obtain ⟨mn, hmn⟩ : ∃ mn, (if mx < wy then mx else wy) = mn := ⟨_, rfl⟩
                  obtain ⟨x, hxx⟩ : ∃ x, (if lj < mn then lj else mn) = x := ⟨_, rfl⟩
                  have e1 : max ty 0 = mx := by rw [← hmx]; split <;> omega
                  have e2 : min wy mx = mn := by rw [← hmn]; split <;> omega
                  have hx : min mn lj = x := by rw [← hxx]; split <;> omega
                  rw [e1, e2] at HGP HLF
                  have hxb : 0 ≤ x ∧ x ≤ lj := by omega
                  clear e1 e2
                  go_quiet (fail)
                  clear hmx hmn hxx
                  generalize hqq : nq = q at *
                  clear hqq
                  have hb4 : Below wr.heap.size wr (wr.drewN q) := below_drewN (Below.refl _ _) q
                  have HS4 := Lib.hid (((HT.out _ hb4 x).congr (fun i _ => HGP.out x hx.symm i) (fun i _ => HGP.out x hx.symm i)))
                  have HLF2 := HLF.out
                  rw [hx] at HLF2
                  have HLF3 := Lib.hid HLF2
                  have g4 := up hb4 g0
                  have t4 := up hb4 t0
                  have gf4 := upf hb4 ltg gf
                  have tf4 := upf hb4 lto tf
                  have o4 := up hb4 o0
                  clear g0 t0 gf tf o0 w1 ltg lto HT HGP HLF HS hx hb4 HLF2
                  generalize wr.drewN q = w4 at *
                  have t5 : (w4.setCell ⟨gb, y, none⟩ (.int .i64 x)).cell? ⟨ob, y * 4 + 3, none⟩ = some (.int .i64 ty) := by
                    rw [cell_set, if_neg (by simp [Ne.symm hne])]; exact t4
                  have tf5 : (w4.setCell ⟨gb, y, none⟩ (.int .i64 x)).frozen? ⟨ob, y * 4 + 3, none⟩ = false := by
                    rw [World.frozen?_setCell]; exact tf4
                  have ngz : gb ≠ z := by omega
                  have o5 : (w4.setCell ⟨gb, y, none⟩ (.int .i64 x)).cell? ⟨z, j, none⟩ = some (.int .i64 y) := by
                    rw [cell_set, if_neg (by simp [ngz])]; exact o4
                  go_wp2_with fail
                  go_roundw
                  case rel => exact ⟨j + 1, by go_num, by omega, by rw [HLF3.out], HS4.out⟩
                  case measure => simp [intOf]; omega
                · obtain rfl : j = k := by omega
                  have hl1 := l1_bd (W := W) (T := T) (L := L) (n := j) hs.1 HWN.out
                  have HS1 := Lib.hid (show Sh w wr ob gb z j P R M T (fun i => g1 W T L j s i + g2 W T L j s 0 i) (g1 W T L j s) L from hS.congr (fun i _ => by show g1 W T L j s i + 0 = gv _ L s j i; rw [Int.add_zero]; rfl) (fun _ _ => rfl))
                  have HL0 := Lib.hid (show lf (cap1 W T) L s j = lf (cap2 W T L j s) L (l1 W T L j s) 0 from rfl)
                  rw [HL0.out]
                  clear hS HS
                  go_wp2_with fail
                  go_loopw [2, 16] (fun s2 s16 wx => ∃ i : Nat, s16 = .int .i64 i ∧ i ≤ j ∧ s2 = .int .i64 (lf (cap2 W T L j s) L (l1 W T L j s) i) ∧ Sh w wx ob gb z j P R M T (fun x => g1 W T L j s x + g2 W T L j s i x) (g1 W T L j s) L) (fun _ s16 _ => j - (intOf s16).toNat)
                  case atStart => exact ⟨0, rfl, Nat.zero_le _, rfl, HS1.out⟩
                  case round =>
                    clear HS1
                    obtain ⟨i, rfl, hi, rfl, hS⟩ := hrel
                    have HS := Lib.hid hS
                    by_cases hlt : i < j
                    · have hyk := HO.out.lt i hlt
                      have hgf : g2 W T L j s i (L.getD i 0) = 0 := gv_fresh HO.out (Nat.le_refl i) hlt
                      have hlf := lf_bd (L := L) (cap := cap2 W T L j s) hl1.1 (cap2_nn (T := T) (L := L) (n := j) hs.1 HWN.out) i
                      have HGP := Lib.hid fun x hx => gv_put (cap := cap2 W T L j s) (L := L) (s := l1 W T L j s) (j := i) (x := x) rfl hx
                      have HLF := Lib.hid (show lf (cap2 W T L j s) L (l1 W T L j s) (i + 1) = lf (cap2 W T L j s) L (l1 W T L j s) i - min (cap2 W T L j s (L.getD i 0)) (lf (cap2 W T L j s) L (l1 W T L j s) i) from rfl)
                      have o0 := hS.ord.c i hlt
                      unfold iv nums at o0
                      have hgb1 := gv_bd (cap := cap1 W T) (L := L) hs.1 (cap1_nn (T := T) HWN.out) j (L.getD i 0)
                      have hc2 : cap2 W T L j s (L.getD i 0) = W (L.getD i 0) - g1 W T L j s (L.getD i 0) := rfl
                      have hg1 : 0 ≤ g1 W T L j s (L.getD i 0) ∧ g1 W T L j s (L.getD i 0) ≤ W (L.getD i 0) := by
                        unfold g1
                        have : cap1 W T (L.getD i 0) ≤ W (L.getD i 0) := by unfold cap1; omega
                        omega
                      rw [hc2] at HGP HLF
                      clear hgb1 hc2
                      generalize L.getD i 0 = y at *
                      have g0 := hS.got.c y hyk
                      unfold iv at g0
                      simp only [hgf, Int.add_zero] at g0
                      have gf := hS.got.fr y
                      obtain ⟨wb, wo, wa, wx⟩ := HRW.out.mono hS.bel
                      obtain rfl := wa h0'
                      have w1 := wx y hyk
                      have bw := HWB.out y hyk
                      have HT := Lib.hid fun (w4 : World) (h4 : Below wr.heap.size wr w4) x => ((hS.mono h4).setG y x)
                      have i1 : (0 : Int) ≤ (y : Int) := by omega
                      have i2 : (y : Int) < (j : Int) := by omega
                      have i3 : (0 : Int) ≤ (i : Int) := by omega
                      have i4 : (i : Int) < (j : Int) := by omega
                      have ltg := lt_of_cell g0
                      clear hS wa wx hgf
                      have HY := Lib.hid (rfl : g1 W T L j s y = g1 W T L j s y)
                      generalize hgy : g1 W T L j s y = gy at *
                      have HGY := Lib.hid hgy
                      generalize W y = wy at *
                      generalize lf (cap2 W T L j s) L (l1 W T L j s) i = lj at *
                      clear hgy
                      have e1 : IntKind.i64.wrap (wy - gy) = wy - gy := IntWalk.i64_in _ (by omega)
                      go_upto_region 24 with fail
                      obtain ⟨x, hxx⟩ : ∃ x, (if lj < wy - gy then lj else wy - gy) = x := ⟨_, rfl⟩
                      have hx : min (wy - gy) lj = x := by rw [← hxx]; split <;> omega
                      have hxb : 0 ≤ x ∧ x ≤ lj := by omega
                      go_quiet (fail)
                      clear hxx
                      generalize hqq : nq = q at *
                      clear hqq
                      have hb4 : Below wr.heap.size wr (wr.drewN q) := below_drewN (Below.refl _ _) q
                      have HS4 := Lib.hid (((HT.out _ hb4 (gy + x)).congr (g' := fun i' => g1 W T L j s i' + g2 W T L j s (i + 1) i') (fun i' _ => by
                        have := HGP.out x hx.symm i'
                        show g1 W T L j s i' + gv _ L _ (i + 1) i' = _
                        rw [this]
                        unfold putI
                        split
                        · rename_i e; rw [e, HGY.out]
                        · rfl) (fun i _ => rfl)))
                      have HLF2 := HLF.out
                      rw [hx] at HLF2
                      have HLF3 := Lib.hid HLF2
                      have g4 := up hb4 g0
                      have gf4 := upf hb4 ltg gf
                      have o4 := up hb4 o0
                      have HTT := Lib.hid fun W5 (h5 : Below (wr.drewN q).heap.size (wr.drewN q) W5) => ((HT.out W5 (hb4.trans (h5.mono (by simp))) (gy + x)).congr (g' := fun i' => g1 W T L j s i' + g2 W T L j s (i + 1) i') (fun i' _ => by
                        have := HGP.out x hx.symm i'
                        show g1 W T L j s i' + gv _ L _ (i + 1) i' = _
                        rw [this]
                        unfold putI
                        split
                        · rename_i e; rw [e, HGY.out]
                        · rfl) (fun i _ => rfl))
                      have ltg4 : gb < (wr.drewN q).heap.size := by simpa using ltg
                      clear g0 gf o0 w1 ltg HT HGP HLF HS hx hb4 HLF2 HS4
                      generalize wr.drewN q = w4 at *
                      have e2 : IntKind.i64.wrap (gy + x) = gy + x := IntWalk.i64_in _ (by omega)
                      have e3 : IntKind.i64.wrap (lj - x) = lj - x := IntWalk.i64_in _ (by omega)
                      go_wp2_with fail
                      have ltz := lt_of_cell o4
                      have HS5 := Lib.hid (HTT.out w4 (Below.refl _ _))
                      go_big_region
                      clear HTT g4 gf4 o4 ltg4
                      go_wp2
                      go_roundw
                      case rel => exact ⟨i + 1, by go_num, by omega, by rw [HLF3.out], HS5.out.mono (below_drewN (Below.refl _ _) 1)⟩
                      case measure => simp [intOf]; omega
                    · obtain rfl : i = j := by omega
                      have HF := Lib.hid hS
                      have HBW := Lib.hid hS.bel
                      clear hS HS
                      have hLL := HLL.out
                      go_wp2
                      go_ret3
                      subst hLL
                      exact ⟨i, _, _, cc, i, by rw [HE.out]; rfl, by rw [HE.out]; rfl, hcc, fun h => by simp at h, B4.r4 HF.out.out, VAt.row HF.out.got, HBW.out⟩
    · have HE := Lib.hid (show eS n m (okB n P R M T) W s = 2 by unfold eS; rw [HOK.out, if_neg (by simp), if_pos hmn])
      have q1 : ((m : Int) != (n : Int)) = true := by rw [bne_iff_ne]; omega
      go_wp2
      go_ret3
      exact share_bad HE.out (by decide) HB1.out
set_option maxRecDepth 100000 in
set_option maxHeartbeats 8000000 in
theorem share18_zero (hn : (0 : Nat) ≤ 1000) (hm : m ≤ 1000) (ha : a = none → (0 : Nat) = 0) (H : R4 w a 0 P R M T) (HW : Row w d m W) (hW0 : ∀ i, m ≤ i → W i = 0) : Calls Try.prog 18 #[.slice a 0 c, .slice d m l, .int .i64 s] w (ShareR 0 m P R M T W s w) := by
  have hml : (0 : Nat) ≤ maxLen := by unfold maxLen; omega
  have hmm : m ≤ maxLen := by unfold maxLen; omega
  have HR := Lib.hid H
  have HRW := Lib.hid HW
  have HA := Lib.hid ha
  have HW0 := Lib.hid hW0
  have K1 := Lib.hid (valid30 a 0 c P R M T w H hml)
  clear H HW ha hW0
  go_enter Try.func18, Try.ntmps18
  go_wp2_with fail
  refine K1.out.mono ?_
  rintro e w1 ⟨rfl, hb⟩
  have HB1 := Lib.hid hb
  have hs1 := hb.size
  clear hb K1
  cases hok : okB 0 P R M T
  · have HE := Lib.hid (show eS 0 m (okB 0 P R M T) W s = 1 by unfold eS; rw [hok, if_pos rfl])
    clear hok
    go_wp2
    go_ret3
    exact share_bad HE.out (by decide) HB1.out
  · have HOK := Lib.hid hok
    clear hok
    by_cases hmn : m = 0
    · subst hmn
      have q0 : ((0 : Int) != (0 : Int)) = false := by simp
      go_upto_region 5 with fail
      go_cut [9] (fun s9 W1 => s9 = .bool (!btw s 0 256) ∧ W1 = w1)
      case first =>
        by_cases h1 : s < 0
        · have e1 : btw s 0 256 = false := btw_false.2 (by omega)
          go_wp2_with fail
          go_meet
          exact ⟨by rw [e1]; rfl, rfl⟩
        · by_cases h2 : 256 < s
          · have e1 : btw s 0 256 = false := btw_false.2 (by omega)
            go_wp2_with fail
            go_meet
            exact ⟨by rw [e1]; rfl, rfl⟩
          · have e1 : btw s 0 256 = true := btw_true.2 (by omega)
            go_wp2_with fail
            go_meet
            exact ⟨by rw [e1]; rfl, rfl⟩
      case rest =>
        obtain ⟨h9, rfl⟩ := hcut
        subst h9
        obtain ⟨b0, hb0⟩ : ∃ b0, (!btw s 0 256) = b0 := ⟨_, rfl⟩
        rw [hb0]
        have HBS := Lib.hid hb0
        clear hb0
        go_wp2_with fail
        go_loopw [9, 10] (fun s9 s10 wr => ∃ k : Nat, s10 = .int .i64 k ∧ s9 = .bool (b0 || anyB (badW W) k) ∧ k ≤ 0 ∧ wr = wc) (fun _ s10 _ => 0 - (intOf s10).toNat)
        case atStart => exact ⟨0, rfl, by show _ = Value.bool (b0 || false); simp, Nat.zero_le _, rfl⟩
        case round =>
          obtain ⟨k, rfl, rfl, hk, rfl⟩ := hrel
          obtain rfl : k = 0 := by omega
          have hE : ∀ b, (b0 || anyB (badW W) 0) = b → eS 0 0 (okB 0 P R M T) W s = (if b = true then 3 else 0) := fun b hb => by unfold eS; rw [HOK.out, if_neg (by simp), if_neg (by simp), HBS.out, hb]
          cases hB : (b0 || anyB (badW W) 0)
          rotate_left
          · have HE := Lib.hid (show eS 0 0 (okB 0 P R M T) W s = 3 from hE _ hB)
            clear hE
            go_wp2
            go_ret3
            exact share_bad HE.out (by decide) HB1.out
          · have he : eS 0 0 (okB 0 P R M T) W s = 0 := hE _ hB
            clear hE
            obtain ⟨_, _, hs, hWb⟩ := eS_0 he
            have HE := Lib.hid he
            have HWB := Lib.hid hWb
            have hW : ∀ i, 0 ≤ W i := fun i => by
              rcases Nat.lt_or_ge i 0 with h | h
              · exact (hWb i h).1
              · rw [HW0.out i h]; exact Int.le_refl _
            have HWN := Lib.hid hW
            obtain ⟨h8, hv⟩ := okB_true HOK.out
            have HV := Lib.hid hv
            have HO := Lib.hid (ord_of fun k hk => (vb_true (hv k hk)).1)
            have HR1 := Lib.hid (HR.out.mono HB1.out)
            clear he hWb hW hv
            obtain ⟨j0, hj, hy0, hy1, hy2⟩ := info_split intInfo
            have HJ := Lib.hid hj
            have HY0 := Lib.hid hy0
            have HY1 := Lib.hid hy1
            have HY2 := Lib.hid hy2
            clear hj hy0 hy1 hy2
            have hmk : ∀ W1 : World, (Instr.makeSlice 22 (.int .i64 0) (.int .i64 0)).run Try.prog W1 = .ok (.slice (some ⟨W1.heap.size, 0, none⟩) 0 0) (W1.alloc (.cells (madeCells #[.int .i64 0] 0) 3)) := fun W1 => run_make_row' (P := Try.prog) 22 3 (.int .i64 0) 8 Try.underlying22 intInfo rfl .i64 .i64 0 (by omega) (by omega) W1
            go_upto_region 14 with (at_builtin; refine copy19 a 0 c P R M T _ (Nat.zero_le _) (fun _ => rfl) HR1.out rfl (.tmp 54) (.tmp 55) rfl rfl rfl rfl ?_; rintro v' w2 ⟨a', cc, ob, rfl, hcc, hC, hb2⟩)
            have hB2 := bthen HB1.out hb2 hs1
            have HB3 := Lib.hid (hB2.alloc (by have := hB2.size; omega) (.cells (madeCells #[.int .i64 0] 0) 3))
            clear hC hB2 hb2 HB1 hmk
            generalize w2.alloc (.cells (madeCells #[.int .i64 0] 0) 3) = w3 at *
            have K3 := Lib.hid (order31 a 0 c P R M T w3 h8 (HR.out.mono HB3.out))
            go_wp2_with fail
            refine K3.out.mono ?_
            rintro e w4 ⟨v, rfl, hOL, hb4⟩
            have hlen := HO.out.len
            unfold OwnL at hOL
            rw [hlen] at hOL
            obtain ⟨a'', cap, z, rfl, hcap, h3, h4⟩ := own_cellsK (s := 1) (f := fun _ => undef) (by have h := hOL; simp at h; exact h)
            have HB4 := Lib.hid (bthen HB3.out hb4 (by have := HB3.out.size; omega))
            clear hOL hb4 h3 h4 K3 HB3 hlen
            go_wp2_with fail
            go_loopw [2, 14] (fun s2 s14 wx => s14 = .int .i64 0 ∧ Below w.heap.size w wx) (fun _ _ _ => 0)
            case atStart => exact ⟨rfl, HB4.out⟩
            case round =>
              obtain ⟨rfl, hb⟩ := hrel
              have HB5 := Lib.hid hb
              clear hb
              go_wp2_with fail
              go_loopw [2, 16] (fun s2 s16 wx => s16 = .int .i64 0 ∧ Below w.heap.size w wx) (fun _ _ _ => 0)
              case atStart => exact ⟨rfl, HB5.out⟩
              case round =>
                obtain ⟨rfl, hb⟩ := hrel
                have HB6 := Lib.hid hb
                clear hb
                go_wp2
                go_ret3
                exact ⟨0, _, _, cc, 0, by rw [HE.out]; rfl, by rw [HE.out]; rfl, Nat.zero_le _, fun _ => rfl, R4.zero _ _ _ _ _ _, Row.zero _ _ _, HB6.out⟩
    · have HE := Lib.hid (show eS 0 m (okB 0 P R M T) W s = 2 by unfold eS; rw [HOK.out, if_neg (by simp), if_pos hmn])
      have q1 : ((m : Int) != (0 : Int)) = true := by rw [bne_iff_ne]; omega
      go_wp2
      go_ret3
      exact share_bad HE.out (by decide) HB1.out
theorem share18 (hn : n ≤ 1000) (hm : m ≤ 1000) (ha : a = none → n = 0) (H : R4 w a n P R M T) (HW : Row w d m W) (hW0 : ∀ i, m ≤ i → W i = 0) : Calls Try.prog 18 #[.slice a n c, .slice d m l, .int .i64 s] w (ShareR n m P R M T W s w) := by
  rcases Nat.eq_zero_or_pos n with h | h
  · subst h; exact share18_zero a c d m l P R M T W s w (by omega) hm (fun _ => rfl) H HW hW0
  · exact share18_pos a n c d m l P R M T W s w h hn hm ha H HW hW0
end
end Go.Proofs.Ytgcplboiodnfpaa
