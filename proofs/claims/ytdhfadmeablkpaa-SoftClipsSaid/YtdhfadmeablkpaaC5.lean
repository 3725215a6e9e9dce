/- Layer 27: the reference's Of. -/
import Derived.Test.YtdhfadmeablkpaaC4
namespace Go.Proofs.Ytdhfadmeablkpaa
open Go.RowKit Go.Sort
attribute [local go_sem] gcell
set_option linter.unusedVariables false

set_option maxRecDepth 100000 in
set_option maxHeartbeats 4000000 in
theorem of8 (a d : Option Addr) (n c m l : Nat) (gain : Int) (xs ys : Nat → Int) (w : World) (R : Row w a n xs) (S : Row w d m ys) (hn : n ≤ 1000) (hm : m ≤ 1000) :
    Calls Try.prog 8 #[.slice a n c, .int .i64 gain, .slice d m l] w (OfR n m gain xs ys w) := by
  have HR := Lib.hid R
  have HS := Lib.hid S
  clear R S
  by_cases hg0 : gain < 0
  · go_enter Try.func8, Try.ntmps8
    go_wp2
    go_ret2
    exact OfR.none (by unfold ofE; rw [if_pos (by omega)]) (by omega) (Below.refl _ _)
  · by_cases hg1 : 127 < gain
    · go_enter Try.func8, Try.ntmps8
      go_wp2
      go_ret2
      exact OfR.none (by unfold ofE; rw [if_pos (by omega)]) (by omega) (Below.refl _ _)
    · go_enter Try.func8, Try.ntmps8
      go_wp2
      go_loopw [8] (fun i wr => ∃ k : Nat, k ≤ m ∧ i = .int .i64 k ∧ w = wr ∧ anyB (out ys 1000) k = false) (fun i _ => m - (intOf i).toNat)
      case atStart => exact ⟨0, Nat.zero_le _, rfl, rfl, rfl⟩
      case round =>
        obtain ⟨k, hk, rfl, rfl, hf⟩ := hrel
        have HF := Lib.hid hf
        clear hf
        by_cases hlt : k < m
        · obtain ⟨b, o, hd, hy⟩ := HS.out
          have hyk := hy k hlt
          have hdk := hd (by omega)
          clear hy hd
          subst hdk
          by_cases h1 : ys k < -1000
          · go_wp2
            go_ret2
            exact OfR.none (by unfold ofE; rw [if_pos (.inr (.inr (anyB_true hlt (by unfold out; simp [h1]))))]) (by omega) (Below.refl _ _)
          · by_cases h2 : 1000 < ys k
            · go_wp2
              go_ret2
              exact OfR.none (by unfold ofE; rw [if_pos (.inr (.inr (anyB_true hlt (by unfold out; simp [h2]))))]) (by omega) (Below.refl _ _)
            · go_wp2
              go_roundw
              case rel => exact ⟨k + 1, by omega, by go_num, trivial, by unfold anyB; rw [HF.out]; unfold out; simp; omega⟩
              case measure => simp [intOf]; omega
        · have : k = m := by omega
          subst this
          have hyb : ∀ j, j < k → -1000 ≤ ys j ∧ ys j ≤ 1000 := fun j hj => by have := anyB_false.1 HF.out j hj; unfold out at this; simp at this; omega
          have HYB := Lib.hid hyb
          clear hyb
          go_wp2
          go_loopw [9, 10] (fun v i wr => ∃ j : Nat, j ≤ n ∧ i = .int .i64 j ∧ Out w wr v j (ofV k gain xs ys) ∧ anyB (bad xs) j = false) (fun _ i _ => n - (intOf i).toNat)
          case atStart => exact ⟨0, Nat.zero_le _, rfl, Out.start _ _, rfl⟩
          case round =>
            obtain ⟨j, hj, rfl, O, hf⟩ := hrel
            have HO := Lib.hid O
            have HG := Lib.hid hf
            clear O hf
            by_cases hlt2 : j < n
            · obtain ⟨b, o, ha, hx⟩ := HR.out
              have hxk := up HO.out.bel (hx j hlt2)
              have hak := ha (by omega)
              clear hx ha
              subst hak
              by_cases hbad : xs j = 0 ∨ xs j = 1
              · have hv : gain - 2 * gain * xs j = gain * (1 - 2 * xs j) ∧ -127 ≤ gain * (1 - 2 * xs j) ∧ gain * (1 - 2 * xs j) ≤ 127 ∧ 0 ≤ 2 * gain * xs j ∧ 2 * gain * xs j ≤ 254 := by
                  rcases hbad with h | h <;> rw [h] <;> omega
                have hsz := HO.out.bel.size
                by_cases hjk : j < k
                · obtain ⟨b2, o2, hd, hy⟩ := HS.out
                  have hyk := up HO.out.bel (hy j hjk)
                  have hdk := hd (by omega)
                  clear hy hd
                  subst hdk
                  have hyb := HYB.out j hjk
                  have eV : ofV k gain xs ys j = clip (gain - 2 * gain * xs j + ys j) := by unfold ofV; rw [if_pos hjk, hv.1]
                  rcases hbad with hx0 | hx0
                  all_goals
                    rw [hx0] at hxk eV hv
                    go_wp2_with (first | (go_at_call 15; refine (clip15 _ _).mono ?_; rintro e w1 ⟨rfl, rfl⟩) | (at_builtin; refine wpList_append1 _ w w.heap.size rfl (.tmp 73) (.tmp 76) 22 rfl 3 (.int .i64 0) 8 Try.underlying22 intInfo rfl (by decide) _ j (fun i => .int .i64 (ofV k gain xs ys i)) rfl _ rfl HO.out.own HO.out.bel hsz (show Value.int .i64 _ = .int .i64 (ofV k gain xs ys j) by rw [eV]; congr 2; omega) rfl (by omega) ?_; intro v' w4 hown hB4 hb4 _ _; have HO4 := Lib.hid (show Out w w4 v' (j + 1) (ofV k gain xs ys) from ⟨hown, hB4⟩); clear hown hB4))
                    go_wp2
                    go_roundw
                    case rel => exact ⟨j + 1, by omega, by go_num, HO4.out, by unfold anyB; rw [HG.out]; unfold bad; simp [hx0]⟩
                    case measure => simp [intOf]; omega
                · have eV : ofV k gain xs ys j = clip (gain - 2 * gain * xs j) := by unfold ofV; rw [if_neg hjk, hv.1, Int.add_zero]
                  rcases hbad with hx0 | hx0
                  all_goals
                    rw [hx0] at hxk eV hv
                    go_wp2_with (first | (go_at_call 15; refine (clip15 _ _).mono ?_; rintro e w1 ⟨rfl, rfl⟩) | (at_builtin; refine wpList_append1 _ w w.heap.size rfl (.tmp 73) (.tmp 76) 22 rfl 3 (.int .i64 0) 8 Try.underlying22 intInfo rfl (by decide) _ j (fun i => .int .i64 (ofV k gain xs ys i)) rfl _ rfl HO.out.own HO.out.bel hsz (show Value.int .i64 _ = .int .i64 (ofV k gain xs ys j) by rw [eV]; congr 2; omega) rfl (by omega) ?_; intro v' w4 hown hB4 hb4 _ _; have HO4 := Lib.hid (show Out w w4 v' (j + 1) (ofV k gain xs ys) from ⟨hown, hB4⟩); clear hown hB4))
                    go_wp2
                    go_roundw
                    case rel => exact ⟨j + 1, by omega, by go_num, HO4.out, by unfold anyB; rw [HG.out]; unfold bad; simp [hx0]⟩
                    case measure => simp [intOf]; omega
              · have q0 : xs j ≠ 0 := fun h => hbad (.inl h)
                have q1 : xs j ≠ 1 := fun h => hbad (.inr h)
                have q0' : (xs j == 0) = false := beq_eq_false_iff_ne.2 q0
                have q0'' : (xs j != 0) = true := by rw [bne_iff_ne]; exact q0
                have q1' : (xs j == 1) = false := beq_eq_false_iff_ne.2 q1
                have q1'' : (xs j != 1) = true := by rw [bne_iff_ne]; exact q1
                go_wp2
                go_ret2
                refine OfR.none ?_ (by omega) HO.out.bel
                unfold ofE
                rw [if_neg (by rw [HF.out]; simp; omega), anyB_true hlt2 (by unfold bad; simp [q0, q1])]
                rfl
            · have : j = n := by omega
              subst this
              have hE : ofE j k gain xs ys = 0 := by unfold ofE; rw [if_neg (by rw [HF.out]; simp; omega), HG.out]; rfl
              have hN : ofN j k gain xs ys = j := by unfold ofN; rw [if_pos hE]
              obtain ⟨ar, cr, rfl, hcr, hr⟩ := own_row HO.out.own
              have HE := Lib.hid hE
              have HN := Lib.hid hN
              clear hE hN
              go_wp2
              go_ret2
              exact ⟨ar, cr, by rw [HE.out, HN.out]; rfl, by rw [HN.out]; exact hcr, by rw [HN.out]; exact hr, HO.out.bel⟩
end Go.Proofs.Ytdhfadmeablkpaa
