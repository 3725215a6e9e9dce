/- Layer 25: the program's Share, without buckets too. -/
import Derived.Test.YtgcplboiodnfpaaP5
namespace Go.Proofs.Ytgcplboiodnfpaa
set_option linter.unusedVariables false
set_option linter.unusedSimpArgs false
open Go.RowKit Go.Sort
attribute [local go_sem] gcell

theorem sort37z (f : Value) (w : World) : Calls Try.prog 37 #[.slice none 0 0, .int .i64 0, .int .i64 0, f] w fun e w' => e = .returned (.tuple #[]) ∧ w' = w := by
  go_enter Try.func37, Try.ntmps37
  go_wp2_with fail
  go_loopw [8] (fun s8 wr => s8 = .int .i64 1 ∧ wr = w) (fun _ _ => 0)
  case atStart => exact ⟨rfl, rfl⟩
  case round =>
    obtain ⟨rfl, rfl⟩ := hrel
    go_wp2
    go_end0
    exact ⟨rfl, rfl⟩
theorem stable35z (f : Value) (w : World) : Calls Try.prog 35 #[.slice none 0 0, .int .i64 0, f] w fun e w' => e = .returned (.tuple #[]) ∧ w' = w := by
  have K := Lib.hid (sort37z f)
  go_enter Try.func35, Try.ntmps35
  go_wp2_with fail
  go_loopw [7, 8] (fun s7 s8 wr => s7 = .int .i64 0 ∧ s8 = .int .i64 20 ∧ wr = w) (fun _ _ _ => 0)
  case atStart => exact ⟨rfl, rfl, rfl⟩
  case round =>
    obtain ⟨rfl, rfl, rfl⟩ := hrel
    go_wp2_with fail
    refine (K.out _).mono ?_
    rintro e w1 ⟨rfl, rfl⟩
    go_wp2_with fail
    go_loopw [6] (fun s6 wr => s6 = .int .i64 20 ∧ wr = w1) (fun _ _ => 0)
    case atStart => exact ⟨rfl, rfl⟩
    case round =>
      obtain ⟨rfl, rfl⟩ := hrel
      go_wp2_with fail
      go_end0
      exact ⟨rfl, rfl⟩
theorem stable26z (f : Value) (w : World) : Calls Try.prog 26 #[.slice none 0 0, f] w fun e w' => e = .returned (.tuple #[]) ∧ w' = w := by
  go_enter Try.func26, Try.ntmps26
  go_wp2_with (go_at_call 35; refine (stable35z f _).mono ?_; rintro e w1 ⟨rfl, rfl⟩)
  go_end0
  exact ⟨rfl, rfl⟩

section
variable (a : Option Addr) (n c : Nat) (d : Option Addr) (m l : Nat) (P R M T W : Nat → Int) (s : Int) (w : World)
theorem okB_zero : okB 0 P R M T = true := rfl
set_option maxRecDepth 100000 in
set_option maxHeartbeats 8000000 in
theorem share14_zero (hm : m ≤ 1000) (HW : Row w d m W) : Calls Try.prog 14 #[.slice a 0 c, .slice d m l, .int .i64 s] w (ShareR 0 m P R M T W s w) := by
  have hml : (0 : Nat) ≤ maxLen := by unfold maxLen; omega
  have hmm : m ≤ maxLen := by unfold maxLen; omega
  have hb0 : Below w.heap.size w (w.alloc (.cells #[.slice a 0 c] 25)) := (Below.refl _ _).alloc (Nat.le_refl _) _
  have HRW := Lib.hid (HW.mono hb0)
  have HB0 := Lib.hid hb0
  have hbox : (w.alloc (.cells #[.slice a 0 c] 25)).cell? ⟨w.heap.size, 0, none⟩ = some (.slice a 0 c) := by simp [go_sem]
  have HBX := Lib.hid hbox
  have K1 := Lib.hid fun W1 => valid21 a 0 c P R M T W1 (R4.zero _ _ _ _ _ _) hml
  have K2 := Lib.hid fun W1 (h : Below (w.alloc (.cells #[.slice a 0 c] 25)).heap.size (w.alloc (.cells #[.slice a 0 c] 25)) W1) => contains23 d m l W W1 (HRW.out.mono h) hmm
  clear HW hb0 hbox
  go_enter Try.func14, Try.ntmps14
  go_upto_region 1 with fail
  have hz0 : (w.alloc (.cells #[.slice a 0 c] 25)).heap.size = w.heap.size + 1 := by simp
  generalize w.alloc (.cells #[.slice a 0 c] 25) = w0 at *
  have hbox := HBX.out
  go_wp2_with fail
  refine (K1.out w0).mono ?_
  rw [okB_zero]
  rintro e w1 ⟨rfl, hb⟩
  have hbox1 := up hb HBX.out
  have HB1 := Lib.hid hb
  clear hb hbox
  by_cases hmn : m = 0
  · subst hmn
    have hany : anyB (badW W) 0 = false := rfl
    cases hbs : btw s 0 256
    · have HE := Lib.hid (show eS 0 0 (okB 0 P R M T) W s = 3 by unfold eS; rw [okB_zero, if_neg (by simp), if_neg (by simp), hbs]; rfl)
      have HBW := Lib.hid (bthen HB0.out (show Below w0.heap.size w0 w1 from HB1.out) (by omega))
      go_wp2_with (go_at_call 22; refine (between22 s 0 256 _).mono ?_; rw [hbs]; rintro e wz ⟨rfl, rfl⟩)
      go_ret3
      exact share_bad HE.out (by decide) HBW.out
    · have HE := Lib.hid (show eS 0 0 (okB 0 P R M T) W s = 0 by unfold eS; rw [okB_zero, if_neg (by simp), if_neg (by simp), hbs, hany]; rfl)
      have hmk : ∀ W1 : World, (Instr.makeSlice 22 (.int .i64 0) (.int .i64 0)).run Try.prog W1 = .ok (.slice (some ⟨W1.heap.size, 0, none⟩) 0 0) (W1.alloc (.cells (madeCells #[.int .i64 0] 0) 3)) := fun W1 => run_make_row' (P := Try.prog) 22 3 (.int .i64 0) 8 Try.underlying22 intInfo rfl .i64 .i64 0 (by omega) (by omega) W1
      go_upto_region 7 with (first | (go_at_call 22; refine (between22 s 0 256 _).mono ?_; rw [hbs]; rintro e wz ⟨rfl, rfl⟩) | (go_at_call 23; refine (K2.out _ HB1.out).mono ?_; rw [hany]; rintro e wz ⟨rfl, rfl⟩))
      clear hbs hany K1 K2
      have hz1 := HB1.out.size
      go_cut [9, 10] (fun s9 s10 W1 => ∃ ao cc ag, s9 = .slice ao 0 cc ∧ s10 = .slice ag 0 0 ∧ Below w0.heap.size w0 W1)
      case first =>
        go_region_held3 (fun w' => w'.cell? ⟨w.heap.size, 0, none⟩ = some (.slice a 0 c)) (first | assumption | (go_keep; done) | exact up hbC (by first | assumption | (go_keep; done)))
          ((go_at_call 25; refine (clone25 _ a 0 c P R M T (by omega) (fun _ => rfl) (R4.zero _ _ _ _ _ _)).mono ?_; rintro e wc ⟨v, rfl, aC, cC, bC, rfl, hcC, hC, hbC⟩))
        all_goals go_wp2_with fail
        all_goals go_meet
        · exact ⟨aC, cC, _, rfl, rfl, (bthen HB1.out.drew hbC (by simpa using hz1)).alloc (by have : wz.heap.size ≤ wc.heap.size := hbC.size; omega) _⟩
        · exact ⟨aC, cC, _, rfl, rfl, bthen (HB1.out.alloc hz1 _).drew hbC (by simp; omega)⟩
      case rest =>
        clear hbox1 HB1 hmk hz1
        obtain ⟨ao, cc, ag, rfl, rfl, hb⟩ := hcut
        have HB2 := Lib.hid hb
        have hbox2 := up hb HBX.out
        clear hb
        go_wp2_with fail
        go_loopw [11, 45] (fun s11 s45 wr => s11 = .slice none 0 0 ∧ s45 = .int .i64 0 ∧ wr = wc) (fun _ _ _ => 0)
        case atStart => exact ⟨rfl, rfl, rfl⟩
        case round =>
          obtain ⟨rfl, rfl, rfl⟩ := hrel
          go_wp2_with fail
          refine (stable26z _ _).mono ?_
          rintro e w3 ⟨rfl, rfl⟩
          go_wp2_with fail
          go_loopw [13, 59] (fun s13 s59 wx => s13 = .int .i64 s ∧ s59 = .int .i64 0 ∧ Below w0.heap.size w0 wx) (fun _ _ _ => 0)
          case atStart => exact ⟨rfl, rfl, HB2.out⟩
          case round =>
            obtain ⟨rfl, rfl, hb⟩ := hrel
            have HB3 := Lib.hid hb
            clear hb
            go_wp2_with fail
            go_loopw [13, 97] (fun s13 s97 wx => s97 = .int .i64 0 ∧ Below w0.heap.size w0 wx) (fun _ _ _ => 0)
            case atStart => exact ⟨rfl, HB3.out⟩
            case round =>
              obtain ⟨rfl, hb⟩ := hrel
              have HBW := Lib.hid (bthen HB0.out hb (by omega))
              clear hb
              go_wp2
              go_ret3
              exact ⟨0, _, _, cc, 0, by rw [HE.out]; rfl, by rw [HE.out]; rfl, Nat.zero_le _, fun _ => rfl, R4.zero _ _ _ _ _ _, Row.zero _ _ _, HBW.out⟩
  · have HE := Lib.hid (show eS 0 m (okB 0 P R M T) W s = 2 by unfold eS; rw [okB_zero, if_neg (by simp), if_pos hmn])
    have HBW := Lib.hid (bthen HB0.out (show Below w0.heap.size w0 w1 from HB1.out) (by omega))
    have q1 : ((m : Int) != 0) = true := by rw [bne_iff_ne]; omega
    go_wp2
    go_ret3
    exact share_bad HE.out (by decide) HBW.out
theorem share14 (hn : n ≤ 1000) (hm : m ≤ 1000) (ha : a = none → n = 0) (H : R4 w a n P R M T) (HW : Row w d m W) (hW0 : ∀ i, m ≤ i → W i = 0) : Calls Try.prog 14 #[.slice a n c, .slice d m l, .int .i64 s] w (ShareR n m P R M T W s w) := by
  rcases Nat.eq_zero_or_pos n with h | h
  · subst h; exact share14_zero a c d m l P R M T W s w hm HW
  · exact share14_pos a n c d m l P R M T W s w h hn hm ha H HW hW0
end
end Go.Proofs.Ytgcplboiodnfpaa
