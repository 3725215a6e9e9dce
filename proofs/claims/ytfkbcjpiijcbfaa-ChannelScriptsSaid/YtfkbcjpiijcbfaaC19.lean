/- Layer 31: ChannelScripts. -/
import Derived.Test.YtfkbcjpiijcbfaaC6
import Derived.Test.YtfkbcjpiijcbfaaC17
import Derived.Test.YtfkbcjpiijcbfaaStepA
import Derived.Deep.DeepCutAuto
import Derived.Deep.CutBlock
import Derived.Deep.RegionHeld3
namespace Go.Proofs.Ytfkbcjpiijcbfaa
set_option linter.unusedVariables false
set_option linter.unusedSimpArgs false
open Go.RowKit Go.Sort
attribute [local go_sem] gcell
theorem scr_yes (i j tk : Int) (X : Nat → Fd) (k : Nat) (x : Fd) (h : hits i j tk x = true) : atF i j tk (putF X k x) (k + 1) = (x.g, x.n) := by
  have e : putF X k x k = x := by unfold putF; rw [if_pos rfl]
  have := atF_yes (X := putF X k x) (k := k) (by rw [e]; exact h)
  rw [e] at this
  exact this
theorem atF_congr {t c f : Int} {X Y : Nat → Fd} : ∀ {n : Nat}, (∀ k, k < n → X k = Y k) → atF t c f X n = atF t c f Y n
  | 0, _ => rfl
  | n + 1, h => by
    show (if hits t c f (X n) = true then ((X n).g, (X n).n) else atF t c f X n) = (if hits t c f (Y n) = true then ((Y n).g, (Y n).n) else atF t c f Y n)
    rw [h n (by omega), atF_congr fun k hk => h k (by omega)]
theorem scr_no (i j tk : Int) (X : Nat → Fd) (k : Nat) (x : Fd) (h : hits i j tk x = false) : atF i j tk (putF X k x) (k + 1) = atF i j tk X k := by
  have e : putF X k x k = x := by unfold putF; rw [if_pos rfl]
  rw [atF_no (by rw [e]; exact h)]
  exact atF_congr fun m hm => by unfold putF; rw [if_neg (by omega)]
set_option maxRecDepth 100000 in
set_option maxHeartbeats 8000000 in
theorem scripts4 (a : Option Addr) (b o n0 cp : Nat) (xs : Nat → Int) (te ce fr at' : Int) (w : World) (hc : n0 ≤ cp) (h0 : a = none → cp = 0) (ha : 0 < cp → a = some ⟨b, o, none⟩) (hx : ∀ i, i < n0 → w.cell? ⟨b, o + i, none⟩ = some (.int .i64 (xs i))) (hn : n0 ≤ 140737488351232)
    (b1 : 0 ≤ te ∧ te ≤ 255) (b2 : 0 ≤ ce ∧ ce ≤ 255) (b3 : 0 ≤ fr ∧ fr ≤ 255) (b4 : 0 ≤ at' ∧ at' ≤ 255) :
    Calls Try.prog 4 #[.slice a n0 cp, .int .u8 te, .int .u8 ce, .int .u8 fr, .int .u8 at'] w fun e w' => e = .returned (.bool true) ∧ Below w.heap.size w w' := by
  have KL := Lib.hid (light_any a n0 cp w)
  by_cases h300 : n0 ≤ 300
  · have q1 : decide (n0 ≤ 300) = true := by simp [h300]
    rw [q1] at KL
    clear q1
    have KR := Lib.hid (roll_any w a b o n0 cp xs h300 hc h0 ha hx)
    obtain ⟨xt, ext, bxt⟩ : ∃ xt, te.tmod 4 = xt ∧ 0 ≤ xt ∧ xt < 4 := ⟨_, rfl, by rw [Int.tmod_eq_emod_of_nonneg b1.1]; omega, by rw [Int.tmod_eq_emod_of_nonneg b1.1]; omega⟩
    obtain ⟨xc, exc, bxc⟩ : ∃ xc, ce.tmod 3 = xc ∧ 0 ≤ xc ∧ xc < 3 := ⟨_, rfl, by rw [Int.tmod_eq_emod_of_nonneg b2.1]; omega, by rw [Int.tmod_eq_emod_of_nonneg b2.1]; omega⟩
    obtain ⟨xf, exf, bxf⟩ : ∃ xf, fr.tmod 60 = xf ∧ 0 ≤ xf ∧ xf < 60 := ⟨_, rfl, by rw [Int.tmod_eq_emod_of_nonneg b3.1]; omega, by rw [Int.tmod_eq_emod_of_nonneg b3.1]; omega⟩
    obtain ⟨tk, etk, btk⟩ : ∃ tk, at'.tmod 70 = tk ∧ 0 ≤ tk ∧ tk < 70 := ⟨_, rfl, by rw [Int.tmod_eq_emod_of_nonneg b4.1]; omega, by rw [Int.tmod_eq_emod_of_nonneg b4.1]; omega⟩
    clear ha hx
    go_enter Try.func4, Try.ntmps4
    go_wp2_with fail
    refine KL.out.mono ?_
    rintro e w1 ⟨rfl, hw1⟩; obtain rfl := hw1.symm
    go_wp2_with fail
    refine KR.out.mono ?_
    rintro e w1 ⟨p, g, aa, cap, rfl, hD, hpw, hb1⟩
    have HB1 := Lib.hid hb1
    have HF0 := Lib.hid (FS.start hD)
    clear hD hb1 KR KL
    go_wp2_with fail
    refine (HF0.out.next h300 9 (by omega)).mono ?_
    rintro e w2 ⟨cv, rfl, bc, hF, -⟩
    obtain ⟨M0, rfl⟩ := Int.eq_ofNat_of_zero_le bc.1
    have HF1 := Lib.hid hF
    have bM : M0 < 9 := by omega
    clear hF HF0 bc
    go_wp2_with fail
    go_loopw [12, 13] (fun sr sc wr => ∃ (k : Nat) (X : Nat → Fd), sc = .int .i64 ((M0 : Int) - k) ∧ k ≤ M0 ∧ FS w1 wr p g aa cap n0 xs sr k X) (fun _ sc _ => (intOf sc).toNat)
    case atStart => exact ⟨0, fun _ => ⟨0, 0, 0, 0, 0⟩, by simp, Nat.zero_le _, HF1.out⟩
    case round =>
      clear HF1
      obtain ⟨k, X, rfl, hk, hF⟩ := hrel
      have HG0 := Lib.hid hF
      clear hF
      by_cases hlt : k < M0
      · have hpos : (0 : Int) < (M0 : Int) - k := by omega
        go_wp2_with fail
        refine (HG0.out.next h300 4 (by omega)).mono ?_
        rintro e y0 ⟨x0, rfl, bx0, hF, -⟩
        have HG1 := Lib.hid hF
        clear hF HG0 bx0
        go_wp2_with fail
        refine (HG1.out.next h300 3 (by omega)).mono ?_
        rintro e y1 ⟨x1, rfl, bx1, hF, -⟩
        have HG2 := Lib.hid hF
        clear hF HG1 bx1
        go_wp2_with fail
        refine (HG2.out.next h300 60 (by omega)).mono ?_
        rintro e y2 ⟨x2, rfl, bx2, hF, -⟩
        have HG3 := Lib.hid hF
        clear hF HG2 bx2
        go_wp2_with fail
        refine (HG3.out.next h300 128 (by omega)).mono ?_
        rintro e y3 ⟨x3, rfl, bx3, hF, -⟩
        have HG4 := Lib.hid hF
        clear hF HG3 bx3
        go_wp2_with fail
        refine (HG4.out.next h300 90 (by omega)).mono ?_
        rintro e y4 ⟨x4, rfl, bx4, hF, -⟩
        have HG5 := Lib.hid hF
        clear hF HG4 bx4
        have z5 := HG5.out.o.size
        have hk6 : k + 1 ≤ 1000000 := by omega
        go_wp2_with (at_builtin; refine wpList_append_elem y4 y4 w1.heap.size rfl (.tmp 35) (.tmp 47) 32 rfl 35 fz 5 40 Try.underlying32 fInfo rfl (by decide) (by decide) _ k (fcell X) rfl #[.int .i64 x0, .int .i64 x1, .int .i64 x2, .int .i64 x3, .int .i64 x4] rfl rfl (one5 _ _ _ _ _) (fcell (putF X k ⟨x0, x1, x2, x3, x4⟩)) (fun j hj => fcell_upd j hj) (fun j hj => fcell_new j hj) HG5.out.own (Below.refl _ _) z5 hk6 ?_; intro v' w7 hown hB7 hs7 hg7 ha7; have HG6 := Lib.hid (HG5.out.push hown hB7); clear hown hB7 hs7 hg7 ha7 HG5)
        go_roundw
        case rel => exact ⟨k + 1, _, by congr 1; omega, by omega, HG6.out⟩
        case measure => simp [intOf]; omega
      · obtain rfl : k = M0 := by omega
        have hpos : ¬ (0 : Int) < (k : Int) - (k : Int) := by omega
        clear hpos
        rw [Int.sub_self]
        obtain ⟨w4, rfl⟩ : ∃ w4, w4 = wr := ⟨_, rfl⟩
        have HBW := Lib.hid (HG0.out.below HB1.out hpw)
        have HF := Lib.hid HG0.out
        clear HG0
        obtain ⟨ra, rc, rfl, hrc, hr0, hrk⟩ := HF.out.row
        have HRK := Lib.hid hrk
        have HR0 := Lib.hid hr0
        clear hrk hr0
        go_upto_region 10 with fail
        have hbx : Below w4.heap.size w4 (w4.alloc (.cells #[.int .i64 xt, .int .i64 xc, .int .i64 xf, .int .i64 77, .int .i64 5] 35)) := (Below.refl _ _).alloc (Nat.le_refl _) _
        have s0 : (w4.alloc (.cells #[.int .i64 xt, .int .i64 xc, .int .i64 xf, .int .i64 77, .int .i64 5] 35)).cell? ⟨w4.heap.size, 0, none⟩ = some (.int .i64 xt) := by simp [go_sem]
        have s1 : (w4.alloc (.cells #[.int .i64 xt, .int .i64 xc, .int .i64 xf, .int .i64 77, .int .i64 5] 35)).cell? ⟨w4.heap.size, 1, none⟩ = some (.int .i64 xc) := by simp [go_sem]
        have s2 : (w4.alloc (.cells #[.int .i64 xt, .int .i64 xc, .int .i64 xf, .int .i64 77, .int .i64 5] 35)).cell? ⟨w4.heap.size, 2, none⟩ = some (.int .i64 xf) := by simp [go_sem]
        have s3 : (w4.alloc (.cells #[.int .i64 xt, .int .i64 xc, .int .i64 xf, .int .i64 77, .int .i64 5] 35)).cell? ⟨w4.heap.size, 3, none⟩ = some (.int .i64 77) := by simp [go_sem]
        have s4 : (w4.alloc (.cells #[.int .i64 xt, .int .i64 xc, .int .i64 xf, .int .i64 77, .int .i64 5] 35)).cell? ⟨w4.heap.size, 4, none⟩ = some (.int .i64 5) := by simp [go_sem]
        have HRK5 := Lib.hid (HRK.out.mono hbx)
        have HB5 := Lib.hid (bthen' HBW.out hbx)
        generalize w4.alloc (.cells #[.int .i64 xt, .int .i64 xc, .int .i64 xf, .int .i64 77, .int .i64 5] 35) = w5 at *
        generalize w4.heap.size = T at *
        clear hbx HRK HBW HF
        go_cut [15] (fun s15 wx => wx.ownsRow w5.heap.size 35 5 s15 (k + 1) ((List.range ((k + 1) * 5)).map (fcell (putF X k ⟨xt, xc, xf, 77, 5⟩))) ∧ Below w5.heap.size w5 wx)
        case first =>
          have lT := lt_of_cell s0
          go_region_held3 (fun w' => w'.cell? ⟨T, 0, none⟩ = some (.int .i64 xt) ∧ w'.cell? ⟨T, 1, none⟩ = some (.int .i64 xc) ∧ w'.cell? ⟨T, 2, none⟩ = some (.int .i64 xf) ∧ w'.cell? ⟨T, 3, none⟩ = some (.int .i64 77) ∧ w'.cell? ⟨T, 4, none⟩ = some (.int .i64 5)) (first | go_keep | (go_split_ands; exact ⟨q0, q1, q2, q3, q4⟩) | (go_split_ands; exact ⟨r0, r1, r2, r3, r4⟩))
            ((first
              | (refine step_copyA (by rfl) _ _ _ (by rfl) w5.heap.size 35 fz 5 40 Try.underlying32 fInfo rfl (by decide) (by decide) _ (by rfl) (by first | exact own_lit2 _ _ _ _ _ (Nat.le_refl _) | exact (own_litAt _ _ _ _ (by first | omega | (simp; done) | (simp; omega))).drew | exact ((own_litAt _ _ _ _ (by first | omega | (simp; done) | (simp; omega))).alloc _).drew) (by first | omega | (simp; done) | (simp; omega)) k rc ra HR0.out (fcell X) (by rfl) (by first | exact HRK5.out.mono (blk _ _).drew | exact HRK5.out.mono (blk2 _ _ _).drew) (fcell_one X) (by omega) ?_; intro v1 w6 hown hg hat; have z6 : w5.heap.size ≤ w6.heap.size := (by have := hg.size; simp at this; omega); have b6 : Below w5.heap.size w5 w6 := (by first | exact (blk _ _).drew.grown hg (by first | omega | (simp; done) | (simp; omega)) (fun k hk => by cases hk; first | omega | (simp; done) | (simp; omega)) | exact (blk2 _ _ _).drew.grown hg (by first | omega | (simp; done) | (simp; omega)) (fun k hk => by cases hk; first | omega | (simp; done) | (simp; omega))); have q0 : w6.cell? ⟨T, 0, none⟩ = some (.int .i64 xt) := (hg.cell_far ⟨T, 0, none⟩ (by first | omega | (simp; done) | (simp; omega)) (by first | omega | (simp; done) | (simp; omega))).trans (by first | exact up (blk _ _).drew s0 | exact up (blk2 _ _ _).drew s0); have q1 : w6.cell? ⟨T, 1, none⟩ = some (.int .i64 xc) := (hg.cell_far ⟨T, 1, none⟩ (by first | omega | (simp; done) | (simp; omega)) (by first | omega | (simp; done) | (simp; omega))).trans (by first | exact up (blk _ _).drew s1 | exact up (blk2 _ _ _).drew s1); have q2 : w6.cell? ⟨T, 2, none⟩ = some (.int .i64 xf) := (hg.cell_far ⟨T, 2, none⟩ (by first | omega | (simp; done) | (simp; omega)) (by first | omega | (simp; done) | (simp; omega))).trans (by first | exact up (blk _ _).drew s2 | exact up (blk2 _ _ _).drew s2); have q3 : w6.cell? ⟨T, 3, none⟩ = some (.int .i64 77) := (hg.cell_far ⟨T, 3, none⟩ (by first | omega | (simp; done) | (simp; omega)) (by first | omega | (simp; done) | (simp; omega))).trans (by first | exact up (blk _ _).drew s3 | exact up (blk2 _ _ _).drew s3); have q4 : w6.cell? ⟨T, 4, none⟩ = some (.int .i64 5) := (hg.cell_far ⟨T, 4, none⟩ (by first | omega | (simp; done) | (simp; omega)) (by first | omega | (simp; done) | (simp; omega))).trans (by first | exact up (blk _ _).drew s4 | exact up (blk2 _ _ _).drew s4))
              | (refine step_elem (by rfl) _ _ _ (by rfl) w5.heap.size 35 fz 5 40 Try.underlying32 fInfo rfl (by decide) (by decide) _ k (fcell X) (fcell (putF X k ⟨xt, xc, xf, 77, 5⟩)) (by rfl) (by first | exact hown | exact hown.alloc _) (by first | omega | (simp; done) | (simp; omega)) _ (by rfl) #[.int .i64 xt, .int .i64 xc, .int .i64 xf, .int .i64 77, .int .i64 5] rfl (one5 _ _ _ _ _) (by first | exact heap_alloc_new _ _ | exact (hg.block _ (by first | (simp; done) | (simp; omega)) (by first | (simp; done) | (simp; omega))).trans (two_hi _ _ _) | exact (hg.block _ (by first | (simp; done) | (simp; omega)) (by first | (simp; done) | (simp; omega))).trans (two_lo _ _ _)) (fun j hj => fcell_upd j hj) (fun j hj => fcell_new j hj) (by omega) ?_; intro v2 w7 hown2 hg2; have b7 : Below w5.heap.size w5 w7 := (by first | exact b6.grown hg2 (by first | omega | (simp; done) | (simp; omega)) (fun k hk => (hown.lt k hk).1) | exact (b6.alloc z6 _).grown hg2 (by first | omega | (simp; done) | (simp; omega)) (fun k hk => (hown.lt k hk).1)); have r0 : w7.cell? ⟨T, 0, none⟩ = some (.int .i64 xt) := (hg2.cell_far ⟨T, 0, none⟩ (by first | omega | (simp; done) | (simp; omega)) (fun e => by have := (hown.lt T e.symm).1; omega)).trans (by first | exact q0 | exact up (blk _ _) q0); have r1 : w7.cell? ⟨T, 1, none⟩ = some (.int .i64 xc) := (hg2.cell_far ⟨T, 1, none⟩ (by first | omega | (simp; done) | (simp; omega)) (fun e => by have := (hown.lt T e.symm).1; omega)).trans (by first | exact q1 | exact up (blk _ _) q1); have r2 : w7.cell? ⟨T, 2, none⟩ = some (.int .i64 xf) := (hg2.cell_far ⟨T, 2, none⟩ (by first | omega | (simp; done) | (simp; omega)) (fun e => by have := (hown.lt T e.symm).1; omega)).trans (by first | exact q2 | exact up (blk _ _) q2); have r3 : w7.cell? ⟨T, 3, none⟩ = some (.int .i64 77) := (hg2.cell_far ⟨T, 3, none⟩ (by first | omega | (simp; done) | (simp; omega)) (fun e => by have := (hown.lt T e.symm).1; omega)).trans (by first | exact q3 | exact up (blk _ _) q3); have r4 : w7.cell? ⟨T, 4, none⟩ = some (.int .i64 5) := (hg2.cell_far ⟨T, 4, none⟩ (by first | omega | (simp; done) | (simp; omega)) (fun e => by have := (hown.lt T e.symm).1; omega)).trans (by first | exact q4 | exact up (blk _ _) q4))))
          all_goals
            go_wp2_with fail
            go_meet
            exact ⟨hown2, b7⟩
        case rest =>
          obtain ⟨hown15, hB15⟩ := hcut
          obtain ⟨rb, rd, rfl, hrd, -, hrk2⟩ := own_rowK hown15
          have d0 := up hB15 s0
          have d1 := up hB15 s1
          have d2 := up hB15 s2
          have HX := Lib.hid (HRK5.out.mono hB15).r5
          have HY := Lib.hid hrk2.r5
          have HBC := Lib.hid (bthen' HB5.out hB15)
          clear hown15 hrk2 hB15 s0 s1 s2 s3 s4 HRK5 HB5
          have HNO := Lib.hid fun (i j : Int) (h : hits i j tk ⟨xt, xc, xf, 77, 5⟩ = false) => scr_no i j tk X k ⟨xt, xc, xf, 77, 5⟩ h
          have HYES := Lib.hid fun (i j : Int) (h : hits i j tk ⟨xt, xc, xf, 77, 5⟩ = true) => scr_yes i j tk X k ⟨xt, xc, xf, 77, 5⟩ h
          generalize putF X k ⟨xt, xc, xf, 77, 5⟩ = Y at *
          clear b1 b2 b3 bxt bxc bxf btk hc h0 h300
          go_wp2
          go_loopw [17, 18, 19, 20, 21, 22] (fun s17 s18 s19 s20 s21 s22 wr => ∃ i : Nat, s17 = .int .i64 i ∧ i ≤ 4 ∧ Below wc.heap.size wc wr) (fun s17 _ _ _ _ _ _ => 4 - (intOf s17).toNat)
          case atStart => exact ⟨0, rfl, by omega, Below.refl _ _⟩
          case round =>
            obtain ⟨i, rfl, hi, hB⟩ := hrel
            have HBR := Lib.hid hB
            clear hB
            by_cases hi4 : i < 4
            · have hi4' : (i : Int) < 4 := by omega
              go_wp2_with fail
              go_loopw [18, 19, 20, 21, 22] (fun s18 s19 s20 s21 s22 wr => ∃ j : Nat, s18 = .int .i64 j ∧ j ≤ 3 ∧ Below wc.heap.size wc wr) (fun s18 _ _ _ _ _ => 3 - (intOf s18).toNat)
              case atStart => exact ⟨0, rfl, by omega, HBR.out⟩
              case round =>
                clear HBR
                obtain ⟨j, rfl, hj, hB⟩ := hrel
                have HBR := Lib.hid hB
                by_cases hj3 : j < 3
                · have K1 := Lib.hid (at13 ra k rc X i j tk wr (HX.out.mono hB) (by unfold maxLen; omega))
                  have K2 := Lib.hid fun (W : World) (hW : Below wc.heap.size wc W) => at13 rb (k + 1) rd Y i j tk W (HY.out.mono hW) (by unfold maxLen; omega)
                  clear hB
                  rcases (show ((i : Int) ≠ xt) ∨ ((i : Int) = xt ∧ (j : Int) ≠ xc) ∨ ((i : Int) = xt ∧ (j : Int) = xc ∧ tk < xf) ∨ ((i : Int) = xt ∧ (j : Int) = xc ∧ xf ≤ tk) by omega) with h1 | ⟨h1, h2⟩ | ⟨h1, h2, h3⟩ | ⟨h1, h2, h3⟩
                  · have q1 : ((i : Int) == xt) = false := beq_eq_false_iff_ne.2 h1
                    rw [HNO.out i j (by unfold hits; simp only; rw [show (xt == (i : Int)) = false from beq_eq_false_iff_ne.2 (Ne.symm h1)]; rfl)] at K2
                    generalize (atF i j tk X k).1 = A1 at *
                    generalize (atF i j tk X k).2 = A2 at *
                    try clear h2
                    clear h1
                    have e0 := up HBR.out d0
                    have e1 := up HBR.out d1
                    have e2 := up HBR.out d2
                    go_wp2_with fail
                    refine K1.out.mono ?_
                    rintro e v1 ⟨rfl, hb⟩
                    have HV1 := Lib.hid (bthen' HBR.out hb)
                    clear hb e0 e1 e2
                    go_wp2_with fail
                    refine (K2.out v1 HV1.out).mono ?_
                    rintro e v2 ⟨rfl, hb⟩
                    have HV2 := Lib.hid (bthen' HV1.out hb)
                    clear hb
                    have e0 := up HV2.out d0
                    have e1 := up HV2.out d1
                    have e2 := up HV2.out d2
                    go_wp2
                    go_roundw
                    case rel => exact ⟨j + 1, by go_num, by omega, HV2.out⟩
                    case measure => simp [intOf]; omega
                  · have q1 : ((i : Int) == xt) = true := beq_iff_eq.2 h1
                    have q2 : ((j : Int) == xc) = false := beq_eq_false_iff_ne.2 h2
                    rw [HNO.out i j (by unfold hits; simp only; rw [show (xc == (j : Int)) = false from beq_eq_false_iff_ne.2 (Ne.symm h2), Bool.and_false, Bool.false_and])] at K2
                    generalize (atF i j tk X k).1 = A1 at *
                    generalize (atF i j tk X k).2 = A2 at *
                    try clear h2
                    clear h1
                    have e0 := up HBR.out d0
                    have e1 := up HBR.out d1
                    have e2 := up HBR.out d2
                    go_wp2_with fail
                    refine K1.out.mono ?_
                    rintro e v1 ⟨rfl, hb⟩
                    have HV1 := Lib.hid (bthen' HBR.out hb)
                    clear hb e0 e1 e2
                    go_wp2_with fail
                    refine (K2.out v1 HV1.out).mono ?_
                    rintro e v2 ⟨rfl, hb⟩
                    have HV2 := Lib.hid (bthen' HV1.out hb)
                    clear hb
                    have e0 := up HV2.out d0
                    have e1 := up HV2.out d1
                    have e2 := up HV2.out d2
                    go_wp2
                    go_roundw
                    case rel => exact ⟨j + 1, by go_num, by omega, HV2.out⟩
                    case measure => simp [intOf]; omega
                  · have q1 : ((i : Int) == xt) = true := beq_iff_eq.2 h1
                    have q2 : ((j : Int) == xc) = true := beq_iff_eq.2 h2
                    have q3 : decide (xf ≤ tk) = false := by simp; omega
                    rw [HNO.out i j (by unfold hits; simp only; rw [q3, Bool.and_false])] at K2
                    generalize (atF i j tk X k).1 = A1 at *
                    generalize (atF i j tk X k).2 = A2 at *
                    try clear h2
                    clear h1
                    have e0 := up HBR.out d0
                    have e1 := up HBR.out d1
                    have e2 := up HBR.out d2
                    go_wp2_with fail
                    refine K1.out.mono ?_
                    rintro e v1 ⟨rfl, hb⟩
                    have HV1 := Lib.hid (bthen' HBR.out hb)
                    clear hb e0 e1 e2
                    go_wp2_with fail
                    refine (K2.out v1 HV1.out).mono ?_
                    rintro e v2 ⟨rfl, hb⟩
                    have HV2 := Lib.hid (bthen' HV1.out hb)
                    clear hb
                    have e0 := up HV2.out d0
                    have e1 := up HV2.out d1
                    have e2 := up HV2.out d2
                    go_wp2
                    go_roundw
                    case rel => exact ⟨j + 1, by go_num, by omega, HV2.out⟩
                    case measure => simp [intOf]; omega
                  · have q1 : ((i : Int) == xt) = true := beq_iff_eq.2 h1
                    have q2 : ((j : Int) == xc) = true := beq_iff_eq.2 h2
                    have q3 : decide (xf ≤ tk) = true := by simp; omega
                    rw [HYES.out i j (by unfold hits; simp only; rw [q3, show (xt == (i : Int)) = true from beq_iff_eq.2 h1.symm, show (xc == (j : Int)) = true from beq_iff_eq.2 h2.symm]; rfl)] at K2
                    generalize (atF i j tk X k).1 = A1 at *
                    generalize (atF i j tk X k).2 = A2 at *
                    try clear h2
                    clear h1
                    have e0 := up HBR.out d0
                    have e1 := up HBR.out d1
                    have e2 := up HBR.out d2
                    go_wp2_with fail
                    refine K1.out.mono ?_
                    rintro e v1 ⟨rfl, hb⟩
                    have HV1 := Lib.hid (bthen' HBR.out hb)
                    clear hb e0 e1 e2
                    go_wp2_with fail
                    refine (K2.out v1 HV1.out).mono ?_
                    rintro e v2 ⟨rfl, hb⟩
                    have HV2 := Lib.hid (bthen' HV1.out hb)
                    clear hb
                    have e0 := up HV2.out d0
                    have e1 := up HV2.out d1
                    have e2 := up HV2.out d2
                    go_wp2
                    go_roundw
                    case rel => exact ⟨j + 1, by go_num, by omega, HV2.out⟩
                    case measure => simp [intOf]; omega
                · have : j = 3 := by omega
                  subst this
                  go_wp2
                  exact ⟨⟨i + 1, by go_num, by omega, HBR.out⟩, by simp only [intOf]; omega⟩
            · have : i = 4 := by omega
              subst this
              have HB9 := Lib.hid (bthen' HBC.out HBR.out)
              go_wp2_with fail
              refine (awake9 wr).mono ?_
              rintro e w9 ⟨rfl, hb⟩
              have HBA := Lib.hid (bthen' HB9.out hb)
              clear hb
              go_wp2
              go_ret
              exact ⟨rfl, HBA.out⟩
  · have q1 : decide (n0 ≤ 300) = false := by simp; omega
    rw [q1] at KL
    clear ha hx q1
    go_enter Try.func4, Try.ntmps4
    go_wp2_with fail
    refine KL.out.mono ?_
    rintro e w1 ⟨rfl, hw1⟩; obtain rfl := hw1.symm
    go_wp2_with fail
    refine (awake9 _).mono ?_
    rintro e w2 ⟨rfl, hb⟩
    have HB := Lib.hid hb
    clear hb
    go_wp2
    go_ret
    exact ⟨rfl, HB.out⟩
end Go.Proofs.Ytfkbcjpiijcbfaa
