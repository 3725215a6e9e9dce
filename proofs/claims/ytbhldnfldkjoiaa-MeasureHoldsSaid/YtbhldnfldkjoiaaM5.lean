/- Layer 37: the report of the reference. -/
import Derived.Test.YtbhldnfldkjoiaaM4
namespace Go.Proofs.Ytbhldnfldkjoiaa
set_option linter.unusedVariables false
set_option linter.unusedSimpArgs false
open Go.RowKit Go.Sort
attribute [local go_sem] gcell

set_option maxHeartbeats 4000000 in
theorem report21 (mg bk hd own : Int) (v : Value) (n m : Nat) (fs hs : Nat → Int) (w : World) (S : Sg w v n m fs hs) (hn : n ≤ 1000) (hm : m ≤ 1000) :
    Calls Try.prog 21 #[rv mg bk hd, v, .int .i64 own] w fun e w' => e = .returned (.tuple #[.int .i64 (repV mg bk hd own n m fs hs).1, .bool (repV mg bk hd own n m fs hs).2]) ∧ Below w.heap.size w w' := by
  obtain ⟨a, d, c, l, rfl, _, _, r1, q1⟩ := S
  have hB : Below w.heap.size w ((w.alloc (.cells #[.int .i64 mg, .int .i64 bk, .int .i64 hd] 23)).alloc (.cells #[.slice a n c, .slice d m l] 26)) := ((Below.refl _ _).alloc (Nat.le_refl _) _).alloc (by simp) _
  have R := Lib.hid (r1.mono hB)
  have Q := Lib.hid (q1.mono hB)
  have HB := Lib.hid hB
  clear r1 q1 hB
  have hnl : n ≤ maxLen := by unfold maxLen; omega
  have hck := check23 mg bk hd a d n c m l fs hs
  unfold rv sv at hck
  unfold rv sv
  cases hE : rep (chk mg bk hd n m fs hs) own n
  · have hV : repV mg bk hd own n m fs hs = (0, false) := by unfold repV; rw [hE]; rfl
    rw [hV]
    have hE2 : chk mg bk hd n m fs hs ≠ 0 ∨ own < 0 ∨ (n : Int) ≤ own := by
      unfold rep at hE
      simp at hE
      omega
    go_enter Try.func21, Try.ntmps21
    go_wp2_with (go_at_call 23; refine (hck _ R.out Q.out hn hm).mono ?_)
    intro e w1 h
    obtain ⟨rfl, hb⟩ := h
    have k1 := up hb (b := w.heap.size + 1) (o := 1) (v := .slice d m l) (by simp [go_sem])
    have HB1 := Lib.hid (HB.out.trans (hb.mono (by simp; omega)))
    have hnm : chk mg bk hd n m fs hs = 0 → n = m := fun h => (chk_ok h).2.1.1
    generalize chk mg bk hd n m fs hs = E at *
    clear hck hb HB hE hV
    by_cases g0 : E = 0
    · subst g0
      obtain rfl := hnm rfl
      by_cases g1 : own < 0
      · go_wp2
        go_ret2
        exact ⟨rfl, HB1.out⟩
      · go_wp2
        go_ret2
        exact ⟨rfl, HB1.out⟩
    · have g1 : (E == 0) = false := beq_eq_false_iff_ne.2 g0
      have g2 : (E != 0) = true := by rw [bne_iff_ne]; exact g0
      go_wp2
      go_ret2
      exact ⟨rfl, HB1.out⟩
  · have hV : repV mg bk hd own n m fs hs = (max (bestTo own hd fs hs n) 0, decide (0 ≤ bestTo own hd fs hs n)) := by unfold repV; rw [hE]; rfl
    rw [hV]
    have hE2 : chk mg bk hd n m fs hs = 0 ∧ 0 ≤ own ∧ own < n := by
      unfold rep at hE
      simp at hE
      omega
    obtain ⟨e0, o0, o1⟩ := hE2
    obtain ⟨O, rfl⟩ := Int.eq_ofNat_of_zero_le o0
    obtain ⟨_, ⟨hnm, hn1, hn3⟩, _⟩ := chk_ok e0
    subst hnm
    clear hV hE
    go_enter Try.func21, Try.ntmps21
    go_wp2_with (go_at_call 23; refine (hck _ R.out Q.out hn hm).mono ?_)
    rw [e0]
    intro e w1 h
    obtain ⟨rfl, hb⟩ := h
    have k0 := up hb (b := w.heap.size) (o := 2) (v := .int .i64 hd) (by simp [go_sem])
    have k1 := up hb (b := w.heap.size + 1) (o := 0) (v := .slice a n c) (by simp [go_sem])
    have k2 := up hb (b := w.heap.size + 1) (o := 1) (v := .slice d n l) (by simp [go_sem])
    have R1 := Lib.hid (R.out.mono hb)
    have Q1 := Lib.hid (Q.out.mono hb)
    have hB1 := HB.out.trans (hb.mono (by simp; omega))
    have HB1 := Lib.hid hB1
    have z1 := hB1.size
    clear hck hb HB R Q hB1 e0
    have dA : decide (n ≤ O) = false := by simp; omega
    have dB : decide ((n : Int) ≤ (O : Int)) = false := by simp; omega
    have dC : decide ((O : Int) < 0) = false := by simp
    go_wp2
    go_loopw [8, 9, 10] (fun b q i wr => ∃ k : Nat, k ≤ n ∧ i = .int .i64 k ∧ b = .int .i64 (max (bestTo O hd fs hs k) 0) ∧ q = .bool (decide (0 ≤ bestTo O hd fs hs k)) ∧ Below w1.heap.size w1 wr) (fun _ _ i _ => n - (intOf i).toNat)
    case atStart => exact ⟨0, Nat.zero_le _, rfl, rfl, rfl, Below.refl _ _⟩
    case round =>
      obtain ⟨k, hk, rfl, rfl, rfl, hB2⟩ := hrel
      have HB2 := Lib.hid hB2
      obtain ⟨bb, hbb⟩ : ∃ bb, bestTo O hd fs hs k = bb := ⟨_, rfl⟩
      have bd := bestTo_bd O hd fs hs k
      rw [hbb] at bd
      by_cases hlt : k < n
      · obtain ⟨b1, o1', e1, x1⟩ := R1.out
        obtain ⟨b2, o2', e2, x2⟩ := Q1.out
        have f1 := e1 (by omega)
        have f2 := e2 (by omega)
        have y1 := up hB2 (x1 k hlt)
        have y2 := up hB2 (x2 k hlt)
        have j0 := up hB2 k0
        have j1 := up hB2 k1
        have j2 := up hB2 k2
        subst f1 f2
        have hyes := @bestTo_yes O hd fs hs k
        have hno := @bestTo_no O hd fs hs k
        rw [hbb] at hyes hno
        have HY := Lib.hid hyes
        have HN := Lib.hid hno
        have HBB := Lib.hid hbb
        rw [hbb]
        clear hyes hno hbb x2 e1 e2 hB2
        by_cases g3 : bb < 0
        · have m0 : max bb 0 = 0 := by omega
          have m1 : decide (0 ≤ bb) = false := by simp; omega
          rw [m0, m1]
          clear x1
          by_cases g1 : k = O
          · subst g1
            have q1 : ((k : Int) == (k : Int)) = true := beq_self_eq_true _
            have q2 : ((k : Int) != (k : Int)) = false := by simp
            go_wp2_with fail
            go_quiet (fail)
            go_wp2
            go_roundw
            case rel => exact ⟨k + 1, by omega, by go_num, by rw [HN.out (by simp)]; first | rfl | (congr 1; omega), by rw [HN.out (by simp)]; first | rfl | (congr 1; simp; done) | (congr 1; simp; omega), ⟨HB2.out.os, HB2.out.tape, HB2.out.output, HB2.out.size, HB2.out.block⟩⟩
            case measure => simp [intOf]; omega
          · have q1 : ((k : Int) == (O : Int)) = false := beq_eq_false_iff_ne.2 (by omega)
            have q2 : ((k : Int) != (O : Int)) = true := by rw [bne_iff_ne]; omega
            by_cases g2 : hs k < hd
            · have d2 : decide (hd ≤ hs k) = false := by simp; omega
              go_wp2_with fail
              go_quiet (fail)
              go_wp2
              go_roundw
              case rel => exact ⟨k + 1, by omega, by go_num, by rw [HN.out (by omega)]; first | rfl | (congr 1; omega), by rw [HN.out (by omega)]; first | rfl | (congr 1; simp; done) | (congr 1; simp; omega), ⟨HB2.out.os, HB2.out.tape, HB2.out.output, HB2.out.size, HB2.out.block⟩⟩
              case measure => simp [intOf]; omega
            · have d2 : decide (hd ≤ hs k) = true := by simp; omega
              go_wp2_with fail
              go_quiet (fail)
              go_wp2
              go_roundw
              case rel => exact ⟨k + 1, by omega, by go_num, by rw [HY.out (by omega)]; first | rfl | (congr 1; omega), by rw [HY.out (by omega)]; first | rfl | (congr 1; simp; done) | (congr 1; simp; omega), ⟨HB2.out.os, HB2.out.tape, HB2.out.output, HB2.out.size, HB2.out.block⟩⟩
              case measure => simp [intOf]; omega
        · obtain ⟨B, rfl⟩ := Int.eq_ofNat_of_zero_le (show 0 ≤ bb by omega)
          have m0 : max (B : Int) 0 = B := by omega
          have m1 : decide (0 ≤ (B : Int)) = true := by simp
          rw [m0, m1]
          have y3 := up HB2.out (x1 B (by omega))
          clear x1
          by_cases g1 : k = O
          · subst g1
            have q1 : ((k : Int) == (k : Int)) = true := beq_self_eq_true _
            have q2 : ((k : Int) != (k : Int)) = false := by simp
            go_wp2_with fail
            go_quiet (fail)
            go_wp2
            go_roundw
            case rel => exact ⟨k + 1, by omega, by go_num, by rw [HN.out (by simp)]; first | rfl | (congr 1; omega), by rw [HN.out (by simp)]; first | rfl | (congr 1; simp; done) | (congr 1; simp; omega), ⟨HB2.out.os, HB2.out.tape, HB2.out.output, HB2.out.size, HB2.out.block⟩⟩
            case measure => simp [intOf]; omega
          · have q1 : ((k : Int) == (O : Int)) = false := beq_eq_false_iff_ne.2 (by omega)
            have q2 : ((k : Int) != (O : Int)) = true := by rw [bne_iff_ne]; omega
            by_cases g2 : hs k < hd
            · have d2 : decide (hd ≤ hs k) = false := by simp; omega
              go_wp2_with fail
              go_quiet (fail)
              go_wp2
              go_roundw
              case rel => exact ⟨k + 1, by omega, by go_num, by rw [HN.out (by omega)]; first | rfl | (congr 1; omega), by rw [HN.out (by omega)]; first | rfl | (congr 1; simp; done) | (congr 1; simp; omega), ⟨HB2.out.os, HB2.out.tape, HB2.out.output, HB2.out.size, HB2.out.block⟩⟩
              case measure => simp [intOf]; omega
            · have d2 : decide (hd ≤ hs k) = true := by simp; omega
              have HY' : fs B < fs k → _ := fun h => HY.out ⟨by omega, by omega, .inr h⟩
              have HN' : ¬ fs B < fs k → _ := fun h => HN.out (fun h' => h'.2.2.elim (fun h'' => by omega) h)
              replace HY := Lib.hid HY'
              replace HN := Lib.hid HN'
              clear HY' HN'
              by_cases g4 : fs B < fs k
              · have d4 : decide (fs B < fs k) = true := by simp; omega
                go_wp2_with fail
                go_quiet (fail)
                go_wp2
                go_roundw
                case rel => exact ⟨k + 1, by omega, by go_num, by rw [HY.out g4]; first | rfl | (congr 1; omega), by rw [HY.out g4]; first | rfl | (congr 1; simp; done) | (congr 1; simp; omega), ⟨HB2.out.os, HB2.out.tape, HB2.out.output, HB2.out.size, HB2.out.block⟩⟩
                case measure => simp [intOf]; omega
              · have d4 : decide (fs B < fs k) = false := by simp; omega
                go_wp2_with fail
                go_quiet (fail)
                go_wp2
                go_roundw
                case rel => exact ⟨k + 1, by omega, by go_num, by rw [HN.out g4]; first | rfl | (congr 1; omega), by rw [HN.out g4]; first | rfl | (congr 1; simp; done) | (congr 1; simp; omega), ⟨HB2.out.os, HB2.out.tape, HB2.out.output, HB2.out.size, HB2.out.block⟩⟩
                case measure => simp [intOf]; omega
      · have : k = n := by omega
        subst this
        rw [hbb]
        obtain ⟨V, hV⟩ : ∃ V, max bb 0 = V := ⟨_, rfl⟩
        obtain ⟨U, hU⟩ : ∃ U, decide (0 ≤ bb) = U := ⟨_, rfl⟩
        rw [hV, hU]
        have HV := Lib.hid hV
        have HU := Lib.hid hU
        have HBB := Lib.hid hbb
        clear hV hU hbb
        have j2 := up hB2 k2
        go_wp2
        go_ret2
        exact ⟨ret_pair (by rw [HBB.out, HV.out]) (by rw [HBB.out, HU.out]), bthen HB1.out hB2 z1⟩
end Go.Proofs.Ytbhldnfldkjoiaa
