/- Layer 31: soft.Of. -/
import Derived.Test.YtfkbcjpiijcbfaaS2
namespace Go.Proofs.Ytfkbcjpiijcbfaa
set_option linter.unusedVariables false
set_option linter.unusedSimpArgs false
open Go.RowKit Go.Sort
attribute [local go_sem] gcell

def bad (xs : Nat → Int) (k : Nat) : Bool := decide (xs k ≠ 0) && decide (xs k ≠ 1)
def ofE (n m : Nat) (gain : Int) (xs ys : Nat → Int) : Int := if gain < 0 ∨ 127 < gain ∨ anyB (out ys 1000) m = true then 3 else if anyB (bad xs) n then 4 else 0
def ofN (n m : Nat) (gain : Int) (xs ys : Nat → Int) : Nat := if ofE n m gain xs ys = 0 then n else 0
def ofV (m : Nat) (gain : Int) (xs ys : Nat → Int) (k : Nat) : Int := clip (gain * (1 - 2 * xs k) + (if k < m then ys k else 0))
/-- What Of hands back. -/
def OfR (n m : Nat) (gain : Int) (xs ys : Nat → Int) (w : World) (e : Ending) (w' : World) : Prop :=
  ∃ a c, e = .returned (.tuple #[.slice a (ofN n m gain xs ys) c, .int .i64 (ofE n m gain xs ys)]) ∧ ofN n m gain xs ys ≤ c ∧ Row w' a (ofN n m gain xs ys) (ofV m gain xs ys) ∧ Below w.heap.size w w'
theorem OfR.none {n m : Nat} {gain : Int} {xs ys : Nat → Int} {w w' : World} {E : Int} (h : ofE n m gain xs ys = E) (h0 : E ≠ 0) (hb : Below w.heap.size w w') : OfR n m gain xs ys w (.returned (.tuple #[.slice .none 0 0, .int .i64 E])) w' := by
  have hn : ofN n m gain xs ys = 0 := by unfold ofN; rw [if_neg (by omega)]
  refine ⟨.none, 0, by rw [hn, h], by rw [hn]; omega, by rw [hn]; exact Row.zero _ _ _, hb⟩

set_option maxHeartbeats 2000000 in
theorem of28 (a d : Option Addr) (n c m l : Nat) (gain : Int) (xs ys : Nat → Int) (w : World) (R : Row w a n xs) (S : Row w d m ys) (hn : n ≤ 1300) (hm : m ≤ 1300) :
    Calls Try.prog 28 #[.slice a n c, .int .i64 gain, .slice d m l] w (OfR n m gain xs ys w) := by
  have hB0 : Below w.heap.size w (((w.alloc (.cells #[.slice a n c] 23)).alloc (.cells #[.int .i64 gain] 3)).alloc (.cells #[.slice d m l] 23)) := (((Below.refl _ _).alloc (Nat.le_refl _) _).alloc (by simp) _).alloc (by simp; omega) _
  have R0 := R.mono hB0
  have S0 := S.mono hB0
  have hnl : n ≤ maxLen := by unfold maxLen; omega
  have hml : m ≤ maxLen := by unfold maxLen; omega
  have HR := Lib.hid R0
  have HS := Lib.hid S0
  have HB := Lib.hid hB0
  clear R S R0 S0 hB0
  by_cases hg0 : gain < 0
  · go_enter Try.func28, Try.ntmps28
    go_wp2
    go_ret2
    exact OfR.none (by unfold ofE; rw [if_pos (by omega)]) (by omega) HB.out
  · by_cases hg1 : 127 < gain
    · go_enter Try.func28, Try.ntmps28
      go_wp2
      go_ret2
      exact OfR.none (by unfold ofE; rw [if_pos (by omega)]) (by omega) HB.out
    · go_enter Try.func28, Try.ntmps28
      go_wp2_with (go_at_call 33; refine (outside33 d m l ys 1000 _ HS.out hml (by omega) (by omega)).mono ?_)
      rintro e w1 rfl hb0
      have hb : Below (((w.alloc (.cells #[.slice a n c] 23)).alloc (.cells #[.int .i64 gain] 3)).alloc (.cells #[.slice d m l] 23)).heap.size (((w.alloc (.cells #[.slice a n c] 23)).alloc (.cells #[.int .i64 gain] 3)).alloc (.cells #[.slice d m l] 23)) w1 := by simpa using hb0
      clear hb0
      have hc0 := up hb (b := w.heap.size) (o := 0) (v := .slice a n c) (by simp [go_sem])
      have hc1 := up hb (b := w.heap.size + 1) (o := 0) (v := .int .i64 gain) (by simp [go_sem])
      have hc2 := up hb (b := w.heap.size + 2) (o := 0) (v := .slice d m l) (by simp [go_sem])
      have hB1 : Below w.heap.size w w1 := HB.out.trans (hb.mono (by simp; omega))
      have HR1 := Lib.hid (HR.out.mono hb)
      have HS1 := Lib.hid (HS.out.mono hb)
      have HB1 := Lib.hid hB1
      have hsz := hB1.size
      clear HR HS HB hb hB1
      cases h1 : anyB (out ys 1000) m
      · go_wp2
        go_loopw [22] (fun i wr => ∃ k : Nat, k ≤ n ∧ i = .int .i64 k ∧ wr = w1 ∧ anyB (bad xs) k = false) (fun i _ => n - (intOf i).toNat)
        case atStart => exact ⟨0, Nat.zero_le _, rfl, rfl, rfl⟩
        case round =>
          obtain ⟨k, hk, rfl, rfl, hf⟩ := hrel
          have HF := Lib.hid hf
          clear hf
          by_cases hlt : k < n
          · obtain ⟨b, o, ha, hx⟩ := HR1.out
            have hxk := hx k hlt
            have hak := ha (by omega)
            clear hx ha
            subst hak
            by_cases q0 : xs k = 0
            · go_wp2
              go_roundw
              case rel => exact ⟨k + 1, by omega, by go_num, trivial, by unfold anyB; rw [HF.out]; unfold bad; simp [q0]⟩
              case measure => simp [intOf]; omega
            · have q0' : (xs k == 0) = false := beq_eq_false_iff_ne.2 q0
              have q0'' : (xs k != 0) = true := by rw [bne_iff_ne]; exact q0
              by_cases q1 : xs k = 1
              · go_wp2
                go_roundw
                case rel => exact ⟨k + 1, by omega, by go_num, trivial, by unfold anyB; rw [HF.out]; unfold bad; simp [q1]⟩
                case measure => simp [intOf]; omega
              · have q1' : (xs k == 1) = false := beq_eq_false_iff_ne.2 q1
                have q1'' : (xs k != 1) = true := by rw [bne_iff_ne]; exact q1
                go_wp2
                go_ret2
                refine OfR.none ?_ (by omega) HB1.out
                unfold ofE
                rw [if_neg (by rw [h1]; simp; omega), anyB_true hlt (by unfold bad; simp [q0, q1])]
                rfl
          · have : k = n := by omega
            subst this
            have hE : ofE k m gain xs ys = 0 := by unfold ofE; rw [if_neg (by rw [h1]; simp; omega), HF.out]; rfl
            have hN : ofN k m gain xs ys = k := by unfold ofN; rw [if_pos hE]
            have hxb : ∀ j, j < k → xs j = 0 ∨ xs j = 1 := fun j hj => by have := anyB_false.1 HF.out j hj; unfold bad at this; simp at this; omega
            have hyb : ∀ j, j < m → -1000 ≤ ys j ∧ ys j ≤ 1000 := fun j hj => by have := anyB_false.1 h1 j hj; unfold out at this; simp at this; omega
            have HXB := Lib.hid hxb
            have HYB := Lib.hid hyb
            have HE := Lib.hid hE
            have HN := Lib.hid hN
            have HD0 := Lib.hid hc0
            have HD1 := Lib.hid hc1
            have HD2 := Lib.hid hc2
            clear hxb hyb hE hN
            go_wp2_with (go_at_call 34; refine (each35 k (w.heap.size + 1) w.heap.size (w.heap.size + 2) (ofV m gain xs ys) _ hn ?_).mono ?_)
            · intro j hj w' hb
              obtain ⟨b, o, ha, hx⟩ := HR1.out
              obtain ⟨b2, o2, hd, hy⟩ := HS1.out
              exact of35 _ b o k c _ b2 o2 m l _ gain a d xs ys j hj hnl hml w' ⟨up hb HD0.out, ha, fun j hj => up hb (hx j hj)⟩ ⟨up hb HD2.out, hd, fun j hj => up hb (hy j hj)⟩ (up hb HD1.out) (by omega) (HXB.out j hj) (fun h => HYB.out j h)
            · rintro e w3 ⟨g, rfl, hr, hb⟩
              go_wp2
              go_ret2
              exact ⟨_, k, by rw [HE.out, HN.out]; rfl, by rw [HN.out]; omega, by rw [HN.out]; exact hr, bthen HB1.out hb hsz⟩
      · go_wp2
        go_ret2
        exact OfR.none (by unfold ofE; rw [if_pos (by simp [h1])]) (by omega) HB1.out
end Go.Proofs.Ytfkbcjpiijcbfaa
