/- Layer 31: the reference of soft.Of and Hard. -/
import Derived.Test.YtfkbcjpiijcbfaaS3
import Derived.Test.YtfkbcjpiijcbfaaTailM
namespace Go.Proofs.Ytfkbcjpiijcbfaa
set_option linter.unusedVariables false
set_option linter.unusedSimpArgs false
open Go.RowKit Go.Sort
attribute [local go_sem] gcell

def hard1 (x : Int) : Int := if x < 0 then 1 else 0

set_option maxHeartbeats 2000000 in
theorem hard17 (a : Option Addr) (n c : Nat) (xs : Nat → Int) (w : World) (R : Row w a n xs) (hn : n ≤ 1300) :
    Calls Try.prog 17 #[.slice a n c] w fun e w' => ∃ g, e = .returned (.slice (some ⟨g, 0, none⟩) n n) ∧ Row w' (some ⟨g, 0, none⟩) n (fun k => hard1 (xs k)) ∧ Below w.heap.size w w' := by
  have HR := Lib.hid R
  clear R
  obtain ⟨i0, hi, hz0, hz1, hz2⟩ := info_split intInfo
  go_enter Try.func17, Try.ntmps17
  go_wp2_with (refine wpList_make_full _ rfl (.tmp 6) (.tmp 6) 23 rfl w.heap.size 3 i0 (.int .i64 0) 1 Try.underlying23 hi hz0 hz1 .i64 .i64 (n : Int) (n : Int) n rfl rfl rfl rfl ?c1 ?c2 (Nat.le_refl _) ?_)
  case c1 => rw [hz2]; omega
  case c2 => unfold maxLen; omega
  intro w1 hown hgrow
  have hl : w.heap.size < w1.heap.size := (hown.lt _ rfl).2
  have HF := Lib.hid (Fill.made (ys := fun k => hard1 (xs k)) hown hgrow hl)
  clear hown hgrow hz1 hz2 hz0 hi
  generalize w.heap.size = g at HF ⊢
  go_wp2
  go_loopw [4] (fun i wr => ∃ k : Nat, k ≤ n ∧ i = .int .i64 k ∧ Fill w wr g n k (fun _ => 0) (fun k => hard1 (xs k))) (fun i _ => n - (intOf i).toNat)
  case atStart => exact ⟨0, Nat.zero_le _, rfl, HF.out⟩
  case round =>
    clear HF
    obtain ⟨k, hk, rfl, F⟩ := hrel
    by_cases hlt : k < n
    · obtain ⟨b, o, ha, hx⟩ := HR.out
      have hxk := up F.bel (hx k hlt)
      have hak := ha (by omega)
      clear hx ha
      subst hak
      have hc := F.x k hlt
      have hf := F.f k
      have HF := Lib.hid F
      clear F
      by_cases h0 : xs k < 0
      · have e1 : hard1 (xs k) = 1 := by unfold hard1; rw [if_pos h0]
        go_wp2
        go_roundw
        case rel =>
          have h5 := HF.out.set hlt
          simp only [e1] at h5
          exact ⟨k + 1, by omega, by go_num, h5⟩
        case measure => simp [intOf]; omega
      · have e1 : hard1 (xs k) = 0 := by unfold hard1; rw [if_neg h0]
        go_wp2
        go_roundw
        case rel => exact ⟨k + 1, by omega, by go_num, HF.out.keep e1⟩
        case measure => simp [intOf]; omega
    · have : k = n := by omega
      subst this
      go_wp2
      go_ret
      exact ⟨g, rfl, F.row, F.bel⟩

/-- A list that grows, at a round's head. -/
structure Out (w wr : World) (v : Value) (k : Nat) (ys : Nat → Int) : Prop where
  own : wr.ownsRow w.heap.size 3 1 v k ((List.range k).map fun i => .int .i64 (ys i))
  bel : Below w.heap.size w wr
theorem Out.mono {w wr w' : World} {v : Value} {k : Nat} {ys : Nat → Int} (O : Out w wr v k ys) (hb : Below wr.heap.size wr w') : Out w w' v k ys :=
  ⟨O.own.kept (row := none) ⟨hb.os, hb.tape, hb.output, hb.size, fun i hi _ => hb.block i hi⟩ (by cases h : v.ownBlock <;> simp), bthen O.bel hb O.bel.size⟩
theorem Out.start (w : World) (ys : Nat → Int) : Out w w (.slice none 0 0) 0 ys := ⟨World.ownsRow_nil _ _ _ _, Below.refl _ _⟩

set_option maxRecDepth 100000 in
set_option maxHeartbeats 4000000 in
theorem of31 (a d : Option Addr) (n c m l : Nat) (gain : Int) (xs ys : Nat → Int) (w : World) (R : Row w a n xs) (S : Row w d m ys) (hn : n ≤ 1300) (hm : m ≤ 1300) :
    Calls Try.prog 31 #[.slice a n c, .int .i64 gain, .slice d m l] w (OfR n m gain xs ys w) := by
  have HR := Lib.hid R
  have HS := Lib.hid S
  clear R S
  by_cases hg0 : gain < 0
  · go_enter Try.func31, Try.ntmps31
    go_wp2
    go_ret2
    exact OfR.none (by unfold ofE; rw [if_pos (by omega)]) (by omega) (Below.refl _ _)
  · by_cases hg1 : 127 < gain
    · go_enter Try.func31, Try.ntmps31
      go_wp2
      go_ret2
      exact OfR.none (by unfold ofE; rw [if_pos (by omega)]) (by omega) (Below.refl _ _)
    · go_enter Try.func31, Try.ntmps31
      go_wp2
      go_loopw [8] (fun i wr => ∃ k : Nat, k ≤ m ∧ i = .int .i64 k ∧ w = wr ∧ anyB (out ys 1000) k = false) (fun i _ => m - (intOf i).toNat)
      case atStart => exact ⟨0, Nat.zero_le _, rfl, rfl, rfl⟩
      case round =>
        obtain ⟨k, hk, rfl, rfl, hf⟩ := hrel
        have HF := Lib.hid hf
        clear hf
        by_cases hlt : k < m
        · obtain ⟨b, o, hd, hy⟩ := HS.out
          have hyk := hy k hlt
          have hdk := hd (by omega)
          clear hy hd
          subst hdk
          by_cases h1 : ys k < -1000
          · go_wp2
            go_ret2
            exact OfR.none (by unfold ofE; rw [if_pos (.inr (.inr (anyB_true hlt (by unfold out; simp [h1]))))]) (by omega) (Below.refl _ _)
          · by_cases h2 : 1000 < ys k
            · go_wp2
              go_ret2
              exact OfR.none (by unfold ofE; rw [if_pos (.inr (.inr (anyB_true hlt (by unfold out; simp [h2]))))]) (by omega) (Below.refl _ _)
            · go_wp2
              go_roundw
              case rel => exact ⟨k + 1, by omega, by go_num, trivial, by unfold anyB; rw [HF.out]; unfold out; simp; omega⟩
              case measure => simp [intOf]; omega
        · have : k = m := by omega
          subst this
          have hyb : ∀ j, j < k → -1000 ≤ ys j ∧ ys j ≤ 1000 := fun j hj => by have := anyB_false.1 HF.out j hj; unfold out at this; simp at this; omega
          have HYB := Lib.hid hyb
          clear hyb
          go_wp2
          go_loopw [9, 10] (fun v i wr => ∃ j : Nat, j ≤ n ∧ i = .int .i64 j ∧ Out w wr v j (ofV k gain xs ys) ∧ anyB (bad xs) j = false) (fun _ i _ => n - (intOf i).toNat)
          case atStart => exact ⟨0, Nat.zero_le _, rfl, Out.start _ _, rfl⟩
          case round =>
            obtain ⟨j, hj, rfl, O, hf⟩ := hrel
            have HO := Lib.hid O
            have HG := Lib.hid hf
            clear O hf
            by_cases hlt2 : j < n
            · obtain ⟨b, o, ha, hx⟩ := HR.out
              have hxk := up HO.out.bel (hx j hlt2)
              have hak := ha (by omega)
              clear hx ha
              subst hak
              by_cases hbad : xs j = 0 ∨ xs j = 1
              · have hv : gain - 2 * gain * xs j = gain * (1 - 2 * xs j) ∧ -127 ≤ gain * (1 - 2 * xs j) ∧ gain * (1 - 2 * xs j) ≤ 127 ∧ 0 ≤ 2 * gain * xs j ∧ 2 * gain * xs j ≤ 254 := by
                  rcases hbad with h | h <;> rw [h] <;> omega
                have hsz := HO.out.bel.size
                by_cases hjk : j < k
                · obtain ⟨b2, o2, hd, hy⟩ := HS.out
                  have hyk := up HO.out.bel (hy j hjk)
                  have hdk := hd (by omega)
                  clear hy hd
                  subst hdk
                  have hyb := HYB.out j hjk
                  have eV : ofV k gain xs ys j = clip (gain - 2 * gain * xs j + ys j) := by unfold ofV; rw [if_pos hjk, hv.1]
                  rcases hbad with hx0 | hx0
                  all_goals
                    rw [hx0] at hxk eV hv
                    go_wp2_with (first | (go_at_call 37; refine (clip37 _ _).mono ?_; rintro e w1 ⟨rfl, rfl⟩) | (at_builtin; refine wpList_append1 _ w w.heap.size rfl (.tmp 73) (.tmp 76) 23 rfl 3 (.int .i64 0) 8 Try.underlying23 intInfo rfl (by decide) _ j (fun i => .int .i64 (ofV k gain xs ys i)) rfl _ rfl HO.out.own HO.out.bel hsz (show Value.int .i64 _ = .int .i64 (ofV k gain xs ys j) by rw [eV]; congr 2; omega) rfl (by omega) ?_; intro v' w4 hown hB4 hb4 _ _; have HO4 := Lib.hid (show Out w w4 v' (j + 1) (ofV k gain xs ys) from ⟨hown, hB4⟩); clear hown hB4))
                    go_wp2
                    go_roundw
                    case rel => exact ⟨j + 1, by omega, by go_num, HO4.out, by unfold anyB; rw [HG.out]; unfold bad; simp [hx0]⟩
                    case measure => simp [intOf]; omega
                · have eV : ofV k gain xs ys j = clip (gain - 2 * gain * xs j) := by unfold ofV; rw [if_neg hjk, hv.1, Int.add_zero]
                  rcases hbad with hx0 | hx0
                  all_goals
                    rw [hx0] at hxk eV hv
                    go_wp2_with (first | (go_at_call 37; refine (clip37 _ _).mono ?_; rintro e w1 ⟨rfl, rfl⟩) | (at_builtin; refine wpList_append1 _ w w.heap.size rfl (.tmp 73) (.tmp 76) 23 rfl 3 (.int .i64 0) 8 Try.underlying23 intInfo rfl (by decide) _ j (fun i => .int .i64 (ofV k gain xs ys i)) rfl _ rfl HO.out.own HO.out.bel hsz (show Value.int .i64 _ = .int .i64 (ofV k gain xs ys j) by rw [eV]; congr 2; omega) rfl (by omega) ?_; intro v' w4 hown hB4 hb4 _ _; have HO4 := Lib.hid (show Out w w4 v' (j + 1) (ofV k gain xs ys) from ⟨hown, hB4⟩); clear hown hB4))
                    go_wp2
                    go_roundw
                    case rel => exact ⟨j + 1, by omega, by go_num, HO4.out, by unfold anyB; rw [HG.out]; unfold bad; simp [hx0]⟩
                    case measure => simp [intOf]; omega
              · have q0 : xs j ≠ 0 := fun h => hbad (.inl h)
                have q1 : xs j ≠ 1 := fun h => hbad (.inr h)
                have q0' : (xs j == 0) = false := beq_eq_false_iff_ne.2 q0
                have q0'' : (xs j != 0) = true := by rw [bne_iff_ne]; exact q0
                have q1' : (xs j == 1) = false := beq_eq_false_iff_ne.2 q1
                have q1'' : (xs j != 1) = true := by rw [bne_iff_ne]; exact q1
                go_wp2
                go_ret2
                refine OfR.none ?_ (by omega) HO.out.bel
                unfold ofE
                rw [if_neg (by rw [HF.out]; simp; omega), anyB_true hlt2 (by unfold bad; simp [q0, q1])]
                rfl
            · have : j = n := by omega
              subst this
              have hE : ofE j k gain xs ys = 0 := by unfold ofE; rw [if_neg (by rw [HF.out]; simp; omega), HG.out]; rfl
              have hN : ofN j k gain xs ys = j := by unfold ofN; rw [if_pos hE]
              obtain ⟨ar, cr, rfl, hcr, hr⟩ := own_row HO.out.own
              have HE := Lib.hid hE
              have HN := Lib.hid hN
              clear hE hN
              go_wp2
              go_ret2
              exact ⟨ar, cr, by rw [HE.out, HN.out]; rfl, by rw [HN.out]; exact hcr, by rw [HN.out]; exact hr, HO.out.bel⟩
end Go.Proofs.Ytfkbcjpiijcbfaa
