/- Layer 33: what can be planned; what is feasible. -/
import Derived.Test.YteokhadpenalaaaG3
namespace Go.Proofs.Yteokhadpenalaaa
set_option linter.unusedVariables false
set_option linter.unusedSimpArgs false
open Go.RowKit Go.Sort
attribute [local go_sem] gcell

/-- Guarantees can be planned at all. -/
def plB (n : Nat) (F W B : Nat → Int) (r h : Int) : Bool := decide (ck n F W B = 0 ∧ (0 ≤ r ∧ r ≤ 12) ∧ 0 ≤ h ∧ h ≤ 600)

set_option maxHeartbeats 1000000 in
theorem planned29 (a : Option Addr) (n c : Nat) (F W B : Nat → Int) (r h : Int) (w : World) (R : R3 w a n F W B) (hn : n ≤ maxLen) :
    Calls Try.prog 29 #[.slice a n c, .int .i64 r, .int .i64 h] w fun e w' => e = .returned (.bool (plB n F W B r h)) ∧ Below w.heap.size w w' := by
  have K := check24 a n c F W B w R hn
  clear R
  unfold plB
  generalize ck n F W B = E at *
  have HK := Lib.hid K
  clear K
  by_cases hg : E = 0 ∧ (0 ≤ r ∧ r ≤ 12) ∧ 0 ≤ h ∧ h ≤ 600
  · rw [decide_eq_true hg]
    obtain ⟨rfl, h1, h2⟩ := hg
    go_enter Try.func29, Try.ntmps29
    go_wp2_with fail
    refine HK.out.mono ?_
    rintro e w1 ⟨rfl, hb⟩
    have HB := Lib.hid hb
    clear hb
    go_wp2
    go_ret
    exact ⟨rfl, HB.out⟩
  · rw [decide_eq_false hg]
    by_cases h0 : E = 0
    · subst h0
      have hbad : r < 0 ∨ 12 < r ∨ h < 0 ∨ 600 < h := by
        by_cases c1 : r < 0 ∨ 12 < r ∨ h < 0 ∨ 600 < h
        · exact c1
        · exact absurd ⟨rfl, by omega, by omega⟩ hg
      clear hg
      go_enter Try.func29, Try.ntmps29
      go_wp2_with fail
      refine HK.out.mono ?_
      rintro e w1 ⟨rfl, hb⟩
      have HB := Lib.hid hb
      clear hb
      by_cases b1 : r < 0
      · go_wp2
        go_ret
        exact ⟨rfl, HB.out⟩
      · by_cases b2 : 12 < r
        · go_wp2
          go_ret
          exact ⟨rfl, HB.out⟩
        · by_cases b3 : h < 0
          · go_wp2
            go_ret
            exact ⟨rfl, HB.out⟩
          · have b4 : 600 < h := by omega
            clear hbad
            go_wp2
            go_ret
            exact ⟨ret_bool (by simp; omega), HB.out⟩
    · have q1 : (E == 0) = false := beq_eq_false_iff_ne.2 h0
      clear hg
      go_enter Try.func29, Try.ntmps29
      go_wp2_with fail
      refine HK.out.mono ?_
      rintro e w1 ⟨rfl, hb⟩
      have HB := Lib.hid hb
      clear hb
      go_wp2
      go_ret
      exact ⟨rfl, HB.out⟩

set_option maxHeartbeats 1000000 in
theorem right31 (a : Option Addr) (n c : Nat) (F W B : Nat → Int) (r h : Int) (w : World) (R : R3 w a n F W B) (hn : n ≤ maxLen) :
    Calls Try.prog 31 #[.slice a n c, .int .i64 r, .int .i64 h] w fun e w' => e = .returned (.bool (plB n F W B r h)) ∧ Below w.heap.size w w' := by
  have K := check25 a n c F W B w R hn
  clear R
  unfold plB
  generalize ck n F W B = E at *
  have HK := Lib.hid K
  clear K
  by_cases hg : E = 0 ∧ (0 ≤ r ∧ r ≤ 12) ∧ 0 ≤ h ∧ h ≤ 600
  · rw [decide_eq_true hg]
    obtain ⟨rfl, h1, h2⟩ := hg
    go_enter Try.func31, Try.ntmps31
    go_wp2_with fail
    refine HK.out.mono ?_
    rintro e w1 ⟨rfl, hb⟩
    have HB := Lib.hid hb
    clear hb
    go_wp2
    go_ret
    exact ⟨rfl, HB.out⟩
  · rw [decide_eq_false hg]
    by_cases h0 : E = 0
    · subst h0
      have hbad : r < 0 ∨ 12 < r ∨ h < 0 ∨ 600 < h := by
        by_cases c1 : r < 0 ∨ 12 < r ∨ h < 0 ∨ 600 < h
        · exact c1
        · exact absurd ⟨rfl, by omega, by omega⟩ hg
      clear hg
      go_enter Try.func31, Try.ntmps31
      go_wp2_with fail
      refine HK.out.mono ?_
      rintro e w1 ⟨rfl, hb⟩
      have HB := Lib.hid hb
      clear hb
      by_cases b1 : r < 0
      · go_wp2
        go_ret
        exact ⟨rfl, HB.out⟩
      · by_cases b2 : 12 < r
        · go_wp2
          go_ret
          exact ⟨rfl, HB.out⟩
        · by_cases b3 : h < 0
          · go_wp2
            go_ret
            exact ⟨rfl, HB.out⟩
          · have b4 : 600 < h := by omega
            clear hbad
            go_wp2
            go_ret
            exact ⟨ret_bool (by simp; omega), HB.out⟩
    · have q1 : (E == 0) = false := beq_eq_false_iff_ne.2 h0
      clear hg
      go_enter Try.func31, Try.ntmps31
      go_wp2_with fail
      refine HK.out.mono ?_
      rintro e w1 ⟨rfl, hb⟩
      have HB := Lib.hid hb
      clear hb
      go_wp2
      go_ret
      exact ⟨rfl, HB.out⟩

/-- An interval asks for too much. -/
def over (n : Nat) (F W B : Nat → Int) (r : Int) (a b : Nat) : Bool := decide (a < b) && decide (r * ((b : Int) - a) < dem F W B n a b)
/-- No interval up to a horizon asks for too much. -/
def fz (n : Nat) (F W B : Nat → Int) (r : Int) (h : Nat) : Bool := !anyB (fun a => anyB (over n F W B r a) (h + 1)) h
def fsB (n : Nat) (F W B : Nat → Int) (r h : Int) : Bool := plB n F W B r h && fz n F W B r h.toNat
theorem fz_iff {n : Nat} {F W B : Nat → Int} {r : Int} {h : Nat} : fz n F W B r h = true ↔ ∀ a b : Nat, a < b → b ≤ h → dem F W B n a b ≤ r * ((b : Int) - a) := by
  unfold fz
  rw [Bool.not_eq_true', anyB_false]
  constructor
  · intro hh a b hab hb
    have h1 := anyB_false.1 (hh a (by omega)) b (by omega)
    unfold over at h1
    simp at h1
    have := h1 hab
    omega
  · intro hh a ha
    rw [anyB_false]
    intro b hb
    unfold over
    simp
    intro hab
    have := hh a b hab (by omega)
    omega
theorem plB_true {n : Nat} {F W B : Nat → Int} {r h : Int} (H : plB n F W B r h = true) : ck n F W B = 0 ∧ (0 ≤ r ∧ r ≤ 12) ∧ 0 ≤ h ∧ h ≤ 600 := of_decide_eq_true H
theorem dm_in {n : Nat} {F W B : Nat → Int} (hc : ck n F W B = 0) {a b : Nat} (ha : a ≤ 600) (hb : b ≤ 600) : dm n F W B a b = dem F W B n a b := by
  unfold dm
  rw [if_pos ⟨hc, by omega, by omega⟩]
  simp

set_option maxRecDepth 100000 in
set_option maxHeartbeats 4000000 in
theorem feasible16 (a : Option Addr) (n c : Nat) (F W B : Nat → Int) (r h : Int) (w : World) (R : R3 w a n F W B) (hn : n ≤ maxLen) :
    Calls Try.prog 16 #[.slice a n c, .int .i64 r, .int .i64 h] w fun e w' => e = .returned (.bool (fsB n F W B r h)) ∧ Below w.heap.size w w' := by
  have K := planned29 a n c F W B r h w R hn
  have KD := Lib.hid fun fr til w' R => demand18 a n c F W B fr til w' R hn
  have HR := Lib.hid R
  clear R
  unfold fsB
  cases hp : plB n F W B r h
  · rw [hp] at K
    have HK := Lib.hid K
    clear K hp
    go_enter Try.func16, Try.ntmps16
    go_wp2_with fail
    refine HK.out.mono ?_
    rintro e w1 ⟨rfl, hb⟩
    have HB := Lib.hid hb
    clear hb
    go_wp2
    go_ret
    exact ⟨rfl, HB.out⟩
  · rw [hp] at K
    obtain ⟨hc, hr, hh⟩ := plB_true hp
    obtain ⟨H, rfl⟩ : ∃ H : Nat, h = H := ⟨h.toNat, by omega⟩
    rw [Bool.true_and]
    simp only [Int.toNat_natCast]
    have HK := Lib.hid K
    have HC := Lib.hid hc
    clear K hp hc
    go_enter Try.func16, Try.ntmps16
    go_wp2_with fail
    refine HK.out.mono ?_
    rintro e w1 ⟨rfl, hb⟩
    have HB1 := Lib.hid hb
    clear hb
    go_wp2_with fail
    go_loopw [15] (fun s15 wr => ∃ k : Nat, s15 = .int .i64 k ∧ k ≤ H ∧ anyB (fun a => anyB (over n F W B r a) (H + 1)) k = false ∧ Below w.heap.size w wr) (fun s15 _ => H - (intOf s15).toNat)
    case atStart => exact ⟨0, rfl, Nat.zero_le _, rfl, HB1.out⟩
    case round =>
      obtain ⟨k, rfl, hk, hf, hB⟩ := hrel
      have HB := Lib.hid hB
      have HF := Lib.hid hf
      clear hB hf
      by_cases hlt : k < H
      · go_wp2_with fail
        go_loopw [8] (fun s8 wx => ∃ b : Nat, s8 = .int .i64 b ∧ k + 1 ≤ b ∧ b ≤ H + 1 ∧ anyB (over n F W B r k) b = false ∧ Below w.heap.size w wx) (fun s8 _ => H + 1 - (intOf s8).toNat)
        case atStart =>
          refine ⟨k + 1, by go_num, Nat.le_refl _, by omega, anyB_false.2 fun j hj => ?_, HB.out⟩
          unfold over
          simp
          omega
        case round =>
          clear HB
          obtain ⟨b, rfl, hb1, hb2, hg, hB⟩ := hrel
          have HB := Lib.hid hB
          have HG := Lib.hid hg
          clear hB hg
          by_cases hlb : b ≤ H
          · have kd := KD.out (k : Int) (b : Int) wr (HR.out.mono HB.out)
            rw [dm_in HC.out (by omega) (by omega)] at kd
            obtain ⟨D, hD⟩ : ∃ D, dem F W B n k b = D := ⟨_, rfl⟩
            rw [hD] at kd
            have HKD := Lib.hid kd
            have hP : 0 ≤ r * ((b : Int) - k) ∧ r * ((b : Int) - k) ≤ 12 * 600 := mul_bd hr (by omega)
            have ho : over n F W B r k b = decide (r * ((b : Int) - k) < D) := by
              unfold over
              rw [hD, decide_eq_true (show k < b by omega)]
              rfl
            have HO := Lib.hid ho
            clear kd hD ho
            go_wp2_with fail
            refine HKD.out.mono ?_
            rintro e w2 ⟨rfl, hb⟩
            have HB2 := Lib.hid (bthen HB.out hb HB.out.size)
            clear hb
            by_cases hov : r * ((b : Int) - k) < D
            · have hfz : fz n F W B r H = false := by
                unfold fz
                rw [anyB_true (p := fun a => anyB (over n F W B r a) (H + 1)) hlt (anyB_true (p := over n F W B r k) (k := b) (by omega) (by rw [HO.out]; exact decide_eq_true hov))]
                rfl
              have HFZ := Lib.hid hfz
              clear hfz
              go_wp2
              go_ret
              exact ⟨ret_bool HFZ.out.symm, HB2.out⟩
            · go_wp2_with fail
              exact ⟨⟨b + 1, by go_num, by omega, by omega, by show (anyB (over n F W B r k) b || over n F W B r k b) = false; rw [HG.out, HO.out]; simpa using hov, HB2.out⟩, by simp [intOf]; omega⟩
          · have : b = H + 1 := by omega
            subst this
            have hlb' : ¬ ((H : Int) + 1 ≤ H) := by omega
            go_wp2_with fail
            exact ⟨⟨k + 1, by go_num, by omega, by show (anyB _ k || anyB (over n F W B r k) (H + 1)) = false; rw [HF.out, HG.out]; rfl, HB.out⟩, by simp [intOf]; omega⟩
      · have : k = H := by omega
        subst this
        have hfz : fz n F W B r k = true := by unfold fz; rw [HF.out]; rfl
        have HFZ := Lib.hid hfz
        clear hfz
        go_wp2
        go_ret
        exact ⟨ret_bool HFZ.out.symm, HB.out⟩
end Go.Proofs.Yteokhadpenalaaa
