/- Layer 27: soft bits made, added, read. -/
import Derived.Test.YtdhfadmeablkpaaC2
namespace Go.Proofs.Ytdhfadmeablkpaa
open Go.RowKit Go.Sort
attribute [local go_sem] gcell
set_option linter.unusedVariables false

theorem hard12 (a : Option Addr) (n c : Nat) (xs : Nat → Int) (w : World) (R : Row w a n xs) (hn : n ≤ 1000) :
    Calls Try.prog 12 #[.slice a n c] w fun e w' => ∃ g, e = .returned (.slice (some ⟨g, 0, none⟩) n n) ∧ Row w' (some ⟨g, 0, none⟩) n (fun k => hard1 (xs k)) ∧ Below w.heap.size w w' := by
  obtain ⟨b, o, ha, hx⟩ := R
  have HA := Lib.hid ha
  have HX := Lib.hid hx
  clear ha hx
  go_enter Try.func12, Try.ntmps12
  go_wp2_with (go_at_call 18; refine (each22 n _ (fun k => hard1 (xs k)) _ hn ?_).mono ?_)
  · intro k hk w' hb
    refine hard22 _ b o n c a xs k hk (by unfold maxLen; omega) w' ⟨?_, HA.out, fun j hj => ?_⟩
    · exact up hb (by simp [go_sem])
    · exact up hb (up ((Below.refl _ _).alloc (Nat.le_refl _) _) (HX.out j hj))
  · rintro e w2 ⟨g, rfl, hr, hb⟩
    go_wp2
    go_ret
    exact ⟨g, rfl, hr, ((Below.refl _ _).alloc (Nat.le_refl _) _).trans (hb.mono (by simp))⟩

def combE (n m : Nat) (xs ys : Nat → Int) : Int := if n = m then if anyB (out xs 127) n || anyB (out ys 127) m then 3 else 0 else 2
def combN (n m : Nat) (xs ys : Nat → Int) : Nat := if combE n m xs ys = 0 then n else 0
/-- What Combine hands back. -/
def Comb (n m : Nat) (xs ys : Nat → Int) (w : World) (e : Ending) (w' : World) : Prop :=
  ∃ a c, e = .returned (.tuple #[.slice a (combN n m xs ys) c, .int .i64 (combE n m xs ys)]) ∧ combN n m xs ys ≤ c ∧ Row w' a (combN n m xs ys) (fun k => clip (xs k + ys k)) ∧ Below w.heap.size w w'
theorem Comb.none {n m : Nat} {xs ys : Nat → Int} {w w' : World} {E : Int} (h : combE n m xs ys = E) (h0 : E ≠ 0) (hb : Below w.heap.size w w') : Comb n m xs ys w (.returned (.tuple #[.slice .none 0 0, .int .i64 E])) w' := by
  have hn : combN n m xs ys = 0 := by unfold combN; rw [if_neg (by omega)]
  refine ⟨.none, 0, by rw [hn, h], by rw [hn]; omega, by rw [hn]; exact Row.zero _ _ _, hb⟩

set_option maxHeartbeats 2000000 in
theorem combine9 (a d : Option Addr) (n c m l : Nat) (xs ys : Nat → Int) (w : World) (R : Row w a n xs) (S : Row w d m ys) (hn : n ≤ 1000) (hm : m ≤ 1000) :
    Calls Try.prog 9 #[.slice a n c, .slice d m l] w (Comb n m xs ys w) := by
  have hB0 : Below w.heap.size w ((w.alloc (.cells #[.slice a n c] 22)).alloc (.cells #[.slice d m l] 22)) := ((Below.refl _ _).alloc (Nat.le_refl _) _).alloc (by simp) _
  have R0 := R.mono hB0
  have S0 := S.mono hB0
  have hnl : n ≤ maxLen := by unfold maxLen; omega
  have hml : m ≤ maxLen := by unfold maxLen; omega
  have HR := Lib.hid R0
  have HS := Lib.hid S0
  have HB := Lib.hid hB0
  clear R S R0 S0 hB0
  by_cases hnm : n = m
  · subst hnm
    go_enter Try.func9, Try.ntmps9
    go_wp2_with (go_at_call 17; refine (outside17 a n c xs 127 _ HR.out hnl (by omega) (by omega)).mono ?_)
    rintro e w1 ⟨rfl, hb⟩
    have hc0 := up hb (b := w.heap.size) (o := 0) (v := .slice a n c) (by simp [go_sem])
    have hc1 := up hb (b := w.heap.size + 1) (o := 0) (v := .slice d n l) (by simp [go_sem])
    have hB1 : Below w.heap.size w w1 := HB.out.trans (hb.mono (by simp; omega))
    have R1 := HR.out.mono hb
    have S1 := HS.out.mono hb
    have HR1 := Lib.hid R1
    have HS1 := Lib.hid S1
    have HB1 := Lib.hid hB1
    have hsz := hB1.size
    clear HR HS HB hb R1 S1 hB1
    cases h1 : anyB (out xs 127) n
    · go_wp2_with (go_at_call 17; refine (outside17 d n l ys 127 _ HS1.out hnl (by omega) (by omega)).mono ?_)
      rintro e w2 ⟨rfl, hb⟩
      have hd0 := up hb hc0
      have hd1 := up hb hc1
      have hB2 := bthen HB1.out hb hsz
      have HR2 := Lib.hid (HR1.out.mono hb)
      have HS2 := Lib.hid (HS1.out.mono hb)
      have HB2 := Lib.hid hB2
      have hsz2 := hB2.size
      clear HR1 HS1 HB1 hb hc0 hc1 hB2
      cases h2 : anyB (out ys 127) n
      · have hE : combE n n xs ys = 0 := by unfold combE; rw [if_pos rfl, h1, h2]; rfl
        have hN : combN n n xs ys = n := by unfold combN; rw [if_pos hE]
        have hxb : ∀ k, k < n → -127 ≤ xs k ∧ xs k ≤ 127 := fun k hk => by have := anyB_false.1 h1 k hk; unfold out at this; simp at this; omega
        have hyb : ∀ k, k < n → -127 ≤ ys k ∧ ys k ≤ 127 := fun k hk => by have := anyB_false.1 h2 k hk; unfold out at this; simp at this; omega
        have HXB := Lib.hid hxb
        have HYB := Lib.hid hyb
        have HE := Lib.hid hE
        have HN := Lib.hid hN
        have HD0 := Lib.hid hd0
        have HD1 := Lib.hid hd1
        clear hxb hyb hE hN
        go_wp2_with (go_at_call 18; refine (each20 n w.heap.size (w.heap.size + 1) (fun k => clip (xs k + ys k)) _ hn ?_).mono ?_)
        · intro k hk w' hb
          obtain ⟨b, o, ha, hx⟩ := HR2.out
          obtain ⟨b2, o2, hd, hy⟩ := HS2.out
          exact add20 _ b o n c _ b2 o2 n l a d xs ys k hk hk hnl hnl w' ⟨up hb HD0.out, ha, fun j hj => up hb (hx j hj)⟩ ⟨up hb HD1.out, hd, fun j hj => up hb (hy j hj)⟩ (HXB.out k hk) (HYB.out k hk)
        · rintro e w3 ⟨g, rfl, hr, hb⟩
          go_wp2
          go_ret2
          exact ⟨_, n, by rw [HE.out, HN.out]; rfl, by rw [HN.out]; omega, by rw [HN.out]; exact hr, bthen HB2.out hb hsz2⟩
      · go_wp2
        go_ret2
        exact Comb.none (by unfold combE; rw [if_pos rfl, h1, h2]; rfl) (by omega) HB2.out
    · go_wp2
      go_ret2
      exact Comb.none (by unfold combE; rw [if_pos rfl, h1]; rfl) (by omega) HB1.out
  · have h1 : ((n : Int) == (m : Int)) = false := beq_eq_false_iff_ne.2 (by omega)
    have h2 : ((n : Int) != (m : Int)) = true := by rw [bne_iff_ne]; omega
    go_enter Try.func9, Try.ntmps9
    go_wp2
    go_ret2
    exact Comb.none (by unfold combE; rw [if_neg hnm]) (by omega) HB.out

def bad (xs : Nat → Int) (k : Nat) : Bool := decide (xs k ≠ 0) && decide (xs k ≠ 1)
def ofE (n m : Nat) (gain : Int) (xs ys : Nat → Int) : Int := if gain < 0 ∨ 127 < gain ∨ anyB (out ys 1000) m = true then 3 else if anyB (bad xs) n then 4 else 0
def ofN (n m : Nat) (gain : Int) (xs ys : Nat → Int) : Nat := if ofE n m gain xs ys = 0 then n else 0
def ofV (m : Nat) (gain : Int) (xs ys : Nat → Int) (k : Nat) : Int := clip (gain * (1 - 2 * xs k) + (if k < m then ys k else 0))
/-- What Of hands back. -/
def OfR (n m : Nat) (gain : Int) (xs ys : Nat → Int) (w : World) (e : Ending) (w' : World) : Prop :=
  ∃ a c, e = .returned (.tuple #[.slice a (ofN n m gain xs ys) c, .int .i64 (ofE n m gain xs ys)]) ∧ ofN n m gain xs ys ≤ c ∧ Row w' a (ofN n m gain xs ys) (ofV m gain xs ys) ∧ Below w.heap.size w w'
theorem OfR.none {n m : Nat} {gain : Int} {xs ys : Nat → Int} {w w' : World} {E : Int} (h : ofE n m gain xs ys = E) (h0 : E ≠ 0) (hb : Below w.heap.size w w') : OfR n m gain xs ys w (.returned (.tuple #[.slice .none 0 0, .int .i64 E])) w' := by
  have hn : ofN n m gain xs ys = 0 := by unfold ofN; rw [if_neg (by omega)]
  refine ⟨.none, 0, by rw [hn, h], by rw [hn]; omega, by rw [hn]; exact Row.zero _ _ _, hb⟩

set_option maxHeartbeats 2000000 in
theorem of7 (a d : Option Addr) (n c m l : Nat) (gain : Int) (xs ys : Nat → Int) (w : World) (R : Row w a n xs) (S : Row w d m ys) (hn : n ≤ 1000) (hm : m ≤ 1000) :
    Calls Try.prog 7 #[.slice a n c, .int .i64 gain, .slice d m l] w (OfR n m gain xs ys w) := by
  have hB0 : Below w.heap.size w (((w.alloc (.cells #[.slice a n c] 22)).alloc (.cells #[.int .i64 gain] 3)).alloc (.cells #[.slice d m l] 22)) := (((Below.refl _ _).alloc (Nat.le_refl _) _).alloc (by simp) _).alloc (by simp; omega) _
  have R0 := R.mono hB0
  have S0 := S.mono hB0
  have hnl : n ≤ maxLen := by unfold maxLen; omega
  have hml : m ≤ maxLen := by unfold maxLen; omega
  have HR := Lib.hid R0
  have HS := Lib.hid S0
  have HB := Lib.hid hB0
  clear R S R0 S0 hB0
  by_cases hg0 : gain < 0
  · go_enter Try.func7, Try.ntmps7
    go_wp2
    go_ret2
    exact OfR.none (by unfold ofE; rw [if_pos (by omega)]) (by omega) HB.out
  · by_cases hg1 : 127 < gain
    · go_enter Try.func7, Try.ntmps7
      go_wp2
      go_ret2
      exact OfR.none (by unfold ofE; rw [if_pos (by omega)]) (by omega) HB.out
    · go_enter Try.func7, Try.ntmps7
      go_wp2_with (go_at_call 17; refine (outside17 d m l ys 1000 _ HS.out hml (by omega) (by omega)).mono ?_)
      rintro e w1 rfl hb0
      have hb : Below (((w.alloc (.cells #[.slice a n c] 22)).alloc (.cells #[.int .i64 gain] 3)).alloc (.cells #[.slice d m l] 22)).heap.size (((w.alloc (.cells #[.slice a n c] 22)).alloc (.cells #[.int .i64 gain] 3)).alloc (.cells #[.slice d m l] 22)) w1 := by simpa using hb0
      clear hb0
      have hc0 := up hb (b := w.heap.size) (o := 0) (v := .slice a n c) (by simp [go_sem])
      have hc1 := up hb (b := w.heap.size + 1) (o := 0) (v := .int .i64 gain) (by simp [go_sem])
      have hc2 := up hb (b := w.heap.size + 2) (o := 0) (v := .slice d m l) (by simp [go_sem])
      have hB1 : Below w.heap.size w w1 := HB.out.trans (hb.mono (by simp; omega))
      have HR1 := Lib.hid (HR.out.mono hb)
      have HS1 := Lib.hid (HS.out.mono hb)
      have HB1 := Lib.hid hB1
      have hsz := hB1.size
      clear HR HS HB hb hB1
      cases h1 : anyB (out ys 1000) m
      · go_wp2
        go_loopw [22] (fun i wr => ∃ k : Nat, k ≤ n ∧ i = .int .i64 k ∧ wr = w1 ∧ anyB (bad xs) k = false) (fun i _ => n - (intOf i).toNat)
        case atStart => exact ⟨0, Nat.zero_le _, rfl, rfl, rfl⟩
        case round =>
          obtain ⟨k, hk, rfl, rfl, hf⟩ := hrel
          have HF := Lib.hid hf
          clear hf
          by_cases hlt : k < n
          · obtain ⟨b, o, ha, hx⟩ := HR1.out
            have hxk := hx k hlt
            have hak := ha (by omega)
            clear hx ha
            subst hak
            by_cases q0 : xs k = 0
            · go_wp2
              go_roundw
              case rel => exact ⟨k + 1, by omega, by go_num, trivial, by unfold anyB; rw [HF.out]; unfold bad; simp [q0]⟩
              case measure => simp [intOf]; omega
            · have q0' : (xs k == 0) = false := beq_eq_false_iff_ne.2 q0
              have q0'' : (xs k != 0) = true := by rw [bne_iff_ne]; exact q0
              by_cases q1 : xs k = 1
              · go_wp2
                go_roundw
                case rel => exact ⟨k + 1, by omega, by go_num, trivial, by unfold anyB; rw [HF.out]; unfold bad; simp [q1]⟩
                case measure => simp [intOf]; omega
              · have q1' : (xs k == 1) = false := beq_eq_false_iff_ne.2 q1
                have q1'' : (xs k != 1) = true := by rw [bne_iff_ne]; exact q1
                go_wp2
                go_ret2
                refine OfR.none ?_ (by omega) HB1.out
                unfold ofE
                rw [if_neg (by rw [h1]; simp; omega), anyB_true hlt (by unfold bad; simp [q0, q1])]
                rfl
          · have : k = n := by omega
            subst this
            have hE : ofE k m gain xs ys = 0 := by unfold ofE; rw [if_neg (by rw [h1]; simp; omega), HF.out]; rfl
            have hN : ofN k m gain xs ys = k := by unfold ofN; rw [if_pos hE]
            have hxb : ∀ j, j < k → xs j = 0 ∨ xs j = 1 := fun j hj => by have := anyB_false.1 HF.out j hj; unfold bad at this; simp at this; omega
            have hyb : ∀ j, j < m → -1000 ≤ ys j ∧ ys j ≤ 1000 := fun j hj => by have := anyB_false.1 h1 j hj; unfold out at this; simp at this; omega
            have HXB := Lib.hid hxb
            have HYB := Lib.hid hyb
            have HE := Lib.hid hE
            have HN := Lib.hid hN
            have HD0 := Lib.hid hc0
            have HD1 := Lib.hid hc1
            have HD2 := Lib.hid hc2
            clear hxb hyb hE hN
            go_wp2_with (go_at_call 18; refine (each19 k (w.heap.size + 1) w.heap.size (w.heap.size + 2) (ofV m gain xs ys) _ hn ?_).mono ?_)
            · intro j hj w' hb
              obtain ⟨b, o, ha, hx⟩ := HR1.out
              obtain ⟨b2, o2, hd, hy⟩ := HS1.out
              exact of19 _ b o k c _ b2 o2 m l _ gain a d xs ys j hj hnl hml w' ⟨up hb HD0.out, ha, fun j hj => up hb (hx j hj)⟩ ⟨up hb HD2.out, hd, fun j hj => up hb (hy j hj)⟩ (up hb HD1.out) (by omega) (HXB.out j hj) (fun h => HYB.out j h)
            · rintro e w3 ⟨g, rfl, hr, hb⟩
              go_wp2
              go_ret2
              exact ⟨_, k, by rw [HE.out, HN.out]; rfl, by rw [HN.out]; omega, by rw [HN.out]; exact hr, bthen HB1.out hb hsz⟩
      · go_wp2
        go_ret2
        exact OfR.none (by unfold ofE; rw [if_pos (by simp [h1])]) (by omega) HB1.out
end Go.Proofs.Ytdhfadmeablkpaa
