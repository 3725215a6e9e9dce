/- Layer 37: the reports. -/
import Derived.Test.YtbhldnfldkjoiaaM3
namespace Go.Proofs.Ytbhldnfldkjoiaa
set_option linter.unusedVariables false
set_option linter.unusedSimpArgs false
open Go.RowKit Go.Sort
attribute [local go_sem] gcell

/-- The best one so far: -1: none. -/
def bestTo (own : Int) (hd : Int) (fs hs : Nat → Int) : Nat → Int
  | 0 => -1
  | k + 1 => let b := bestTo own hd fs hs k
    if (k : Int) ≠ own ∧ hd ≤ hs k ∧ (b < 0 ∨ fs b.toNat < fs k) then k else b
theorem bestTo_bd (own hd : Int) (fs hs : Nat → Int) (k : Nat) : -1 ≤ bestTo own hd fs hs k ∧ bestTo own hd fs hs k < k := by
  induction k with
  | zero => simp [bestTo]
  | succ k ih => unfold bestTo; simp only; split <;> omega
theorem bestTo_yes {own hd : Int} {fs hs : Nat → Int} {k : Nat} (h : (k : Int) ≠ own ∧ hd ≤ hs k ∧ (bestTo own hd fs hs k < 0 ∨ fs (bestTo own hd fs hs k).toNat < fs k)) : bestTo own hd fs hs (k + 1) = k := by
  show (if _ then _ else _) = _
  rw [if_pos h]
theorem bestTo_no {own hd : Int} {fs hs : Nat → Int} {k : Nat} (h : ¬ ((k : Int) ≠ own ∧ hd ≤ hs k ∧ (bestTo own hd fs hs k < 0 ∨ fs (bestTo own hd fs hs k).toNat < fs k))) : bestTo own hd fs hs (k + 1) = bestTo own hd fs hs k := by
  show (if _ then _ else _) = _
  rw [if_neg h]
theorem ret_pair {a b : Int} {x y : Bool} (h : a = b) (k : x = y) : Ending.returned (.tuple #[.int .i64 a, .bool x]) = .returned (.tuple #[.int .i64 b, .bool y]) := by rw [h, k]
/-- Whether there is a report at all. -/
def rep (E : Int) (own : Int) (n : Nat) : Bool := decide (E = 0) && decide (0 ≤ own) && decide (own < n)
def repV (mg bk hd own : Int) (n m : Nat) (fs hs : Nat → Int) : Int × Bool :=
  if rep (chk mg bk hd n m fs hs) own n then (max (bestTo own hd fs hs n) 0, decide (0 ≤ bestTo own hd fs hs n)) else (0, false)

set_option maxHeartbeats 4000000 in
theorem report19 (mg bk hd own : Int) (v : Value) (n m : Nat) (fs hs : Nat → Int) (w : World) (S : Sg w v n m fs hs) (hn : n ≤ 1000) (hm : m ≤ 1000) :
    Calls Try.prog 19 #[rv mg bk hd, v, .int .i64 own] w fun e w' => e = .returned (.tuple #[.int .i64 (repV mg bk hd own n m fs hs).1, .bool (repV mg bk hd own n m fs hs).2]) ∧ Below w.heap.size w w' := by
  obtain ⟨a, d, c, l, rfl, _, _, r1, q1⟩ := S
  have hB : Below w.heap.size w ((w.alloc (.cells #[.int .i64 mg, .int .i64 bk, .int .i64 hd] 23)).alloc (.cells #[.slice a n c, .slice d m l] 26)) := ((Below.refl _ _).alloc (Nat.le_refl _) _).alloc (by simp) _
  have R := Lib.hid (r1.mono hB)
  have Q := Lib.hid (q1.mono hB)
  have HB := Lib.hid hB
  clear r1 q1 hB
  have hnl : n ≤ maxLen := by unfold maxLen; omega
  have hck := check22 mg bk hd a d n c m l fs hs
  unfold rv sv at hck
  unfold rv sv
  cases hE : rep (chk mg bk hd n m fs hs) own n
  · have hV : repV mg bk hd own n m fs hs = (0, false) := by unfold repV; rw [hE]; rfl
    rw [hV]
    have hE2 : chk mg bk hd n m fs hs ≠ 0 ∨ own < 0 ∨ (n : Int) ≤ own := by
      unfold rep at hE
      simp at hE
      omega
    go_enter Try.func19, Try.ntmps19
    go_wp2_with (go_at_call 22; refine (hck _ R.out Q.out hn hm).mono ?_)
    intro e w1 h
    obtain ⟨rfl, hb⟩ := h
    have k1 := up hb (b := w.heap.size + 1) (o := 0) (v := .slice a n c) (by simp [go_sem])
    have HB1 := Lib.hid (HB.out.trans (hb.mono (by simp; omega)))
    generalize chk mg bk hd n m fs hs = E at *
    clear hck hb HB hE hV
    by_cases g0 : E = 0
    · subst g0
      by_cases g1 : own < 0
      · go_wp2
        go_ret2
        exact ⟨rfl, HB1.out⟩
      · go_wp2
        go_ret2
        exact ⟨rfl, HB1.out⟩
    · have g1 : (E == 0) = false := beq_eq_false_iff_ne.2 g0
      have g2 : (E != 0) = true := by rw [bne_iff_ne]; exact g0
      go_wp2
      go_ret2
      exact ⟨rfl, HB1.out⟩
  · have hV : repV mg bk hd own n m fs hs = (max (bestTo own hd fs hs n) 0, decide (0 ≤ bestTo own hd fs hs n)) := by unfold repV; rw [hE]; rfl
    rw [hV]
    have hE2 : chk mg bk hd n m fs hs = 0 ∧ 0 ≤ own ∧ own < n := by
      unfold rep at hE
      simp at hE
      omega
    obtain ⟨e0, o0, o1⟩ := hE2
    obtain ⟨O, rfl⟩ := Int.eq_ofNat_of_zero_le o0
    obtain ⟨_, ⟨hnm, hn1, hn3⟩, _⟩ := chk_ok e0
    subst hnm
    clear hV hE
    go_enter Try.func19, Try.ntmps19
    go_wp2_with (go_at_call 22; refine (hck _ R.out Q.out hn hm).mono ?_)
    rw [e0]
    intro e w1 h
    obtain ⟨rfl, hb⟩ := h
    have k0 := up hb (b := w.heap.size) (o := 2) (v := .int .i64 hd) (by simp [go_sem])
    have k1 := up hb (b := w.heap.size + 1) (o := 0) (v := .slice a n c) (by simp [go_sem])
    have k2 := up hb (b := w.heap.size + 1) (o := 1) (v := .slice d n l) (by simp [go_sem])
    have R1 := Lib.hid (R.out.mono hb)
    have Q1 := Lib.hid (Q.out.mono hb)
    have hB1 := HB.out.trans (hb.mono (by simp; omega))
    have HB1 := Lib.hid hB1
    have z1 := hB1.size
    clear hck hb HB R Q hB1 e0
    have dA : decide (n ≤ O) = false := by simp; omega
    have dB : decide ((n : Int) ≤ (O : Int)) = false := by simp; omega
    have dC : decide ((O : Int) < 0) = false := by simp
    go_wp2
    go_loopw [8, 29] (fun b i wr => ∃ k : Nat, k ≤ n ∧ i = .int .i64 k ∧ b = .int .i64 (bestTo O hd fs hs k) ∧ Below w1.heap.size w1 wr) (fun _ i _ => n - (intOf i).toNat)
    case atStart => exact ⟨0, Nat.zero_le _, rfl, rfl, Below.refl _ _⟩
    case round =>
      obtain ⟨k, hk, rfl, rfl, hB2⟩ := hrel
      have HB2 := Lib.hid hB2
      obtain ⟨bb, hbb⟩ : ∃ bb, bestTo O hd fs hs k = bb := ⟨_, rfl⟩
      have bd := bestTo_bd O hd fs hs k
      rw [hbb] at bd
      by_cases hlt : k < n
      · obtain ⟨b1, o1', e1, x1⟩ := R1.out
        obtain ⟨b2, o2', e2, x2⟩ := Q1.out
        have f1 := e1 (by omega)
        have f2 := e2 (by omega)
        have y1 := up hB2 (x1 k hlt)
        have y2 := up hB2 (x2 k hlt)
        have j0 := up hB2 k0
        have j1 := up hB2 k1
        have j2 := up hB2 k2
        subst f1 f2
        have hyes := @bestTo_yes O hd fs hs k
        have hno := @bestTo_no O hd fs hs k
        rw [hbb] at hyes hno
        have HY := Lib.hid hyes
        have HN := Lib.hid hno
        have HBB := Lib.hid hbb
        rw [hbb]
        clear hyes hno hbb x2 e1 e2 hB2
        by_cases g1 : k = O
        · subst g1
          have q1 : ((k : Int) == (k : Int)) = true := beq_self_eq_true _
          have q2 : ((k : Int) != (k : Int)) = false := by simp
          clear x1
          go_wp2_with fail
          go_quiet (fail)
          go_wp2
          go_roundw
          case rel => exact ⟨k + 1, by omega, by go_num, by rw [HN.out (by simp)], ⟨HB2.out.os, HB2.out.tape, HB2.out.output, HB2.out.size, HB2.out.block⟩⟩
          case measure => simp [intOf]; omega
        · have q1 : ((k : Int) == (O : Int)) = false := beq_eq_false_iff_ne.2 (by omega)
          have q2 : ((k : Int) != (O : Int)) = true := by rw [bne_iff_ne]; omega
          by_cases g2 : hs k < hd
          · have d2 : decide (hd ≤ hs k) = false := by simp; omega
            clear x1
            go_wp2_with fail
            go_quiet (fail)
            go_wp2
            go_roundw
            case rel => exact ⟨k + 1, by omega, by go_num, by rw [HN.out (by omega)], ⟨HB2.out.os, HB2.out.tape, HB2.out.output, HB2.out.size, HB2.out.block⟩⟩
            case measure => simp [intOf]; omega
          · have d2 : decide (hd ≤ hs k) = true := by simp; omega
            by_cases g3 : bb < 0
            · clear x1
              have d3 : decide (bb < 0) = true := by simp; omega
              go_wp2_with fail
              go_quiet (fail)
              go_wp2
              go_roundw
              case rel => exact ⟨k + 1, by omega, by go_num, by rw [HY.out (by omega)], ⟨HB2.out.os, HB2.out.tape, HB2.out.output, HB2.out.size, HB2.out.block⟩⟩
              case measure => simp [intOf]; omega
            · obtain ⟨B, rfl⟩ := Int.eq_ofNat_of_zero_le (show 0 ≤ bb by omega)
              have y3 := up HB2.out (x1 B (by omega))
              clear x1
              have HY' : fs B < fs k → _ := fun h => HY.out ⟨by omega, by omega, .inr h⟩
              have HN' : ¬ fs B < fs k → _ := fun h => HN.out (fun h' => h'.2.2.elim (fun h'' => by omega) h)
              replace HY := Lib.hid HY'
              replace HN := Lib.hid HN'
              clear HY' HN'
              have d3 : decide ((B : Int) < 0) = false := by simp
              by_cases g4 : fs B < fs k
              · have d4 : decide (fs B < fs k) = true := by simp; omega
                go_wp2_with fail
                go_quiet (fail)
                go_wp2
                go_roundw
                case rel => exact ⟨k + 1, by omega, by go_num, by rw [HY.out g4], ⟨HB2.out.os, HB2.out.tape, HB2.out.output, HB2.out.size, HB2.out.block⟩⟩
                case measure => simp [intOf]; omega
              · have d4 : decide (fs B < fs k) = false := by simp; omega
                go_wp2_with fail
                go_quiet (fail)
                go_wp2
                go_roundw
                case rel => exact ⟨k + 1, by omega, by go_num, by rw [HN.out g4], ⟨HB2.out.os, HB2.out.tape, HB2.out.output, HB2.out.size, HB2.out.block⟩⟩
                case measure => simp [intOf]; omega
      · have : k = n := by omega
        subst this
        rw [hbb]
        go_wp2
        all_goals
          go_ret2
          exact ⟨ret_pair (by omega) (by simp), bthen HB1.out hB2 z1⟩
end Go.Proofs.Ytbhldnfldkjoiaa
