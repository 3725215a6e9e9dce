/- Layer 31: ChannelSure. -/
import Derived.Test.YtfkbcjpiijcbfaaC15
namespace Go.Proofs.Ytfkbcjpiijcbfaa
set_option linter.unusedVariables false
set_option linter.unusedSimpArgs false
open Go.RowKit Go.Sort
attribute [local go_sem] gcell
def bitv (l : Nat → Bool) (k : Nat) : Int := if l k then 1 else 0
theorem bitv_or (l : Nat → Bool) (k : Nat) : bitv l k = 0 ∨ bitv l k = 1 := by unfold bitv; split <;> simp
def sureX (g z : Int) : Nat → Fd := fun _ => ⟨2, 1, 0, g, z⟩
theorem sure_at (g z ti : Int) (h : 0 ≤ ti) : atF 2 1 ti (sureX g z) 1 = (g, z) := atF_yes (by unfold hits sureX; simp [h])
theorem sure_chk (g z : Int) (hg : 1 ≤ g ∧ g ≤ 127) (hz : 0 ≤ z ∧ z < g) : chk 1 (sureX g z) = 0 := by
  unfold chk
  rw [if_neg (by omega)]
  refine firstErr_next (k := 0) rfl ?_
  unfold errOf sureX
  simp only
  rw [btw_t (by omega), btw_t (by omega), btw_t (by omega), btw_t (by omega), btw_t (by omega)]
  rfl
theorem sure_rec (g z s ti : Int) (n : Nat) (l : Nat → Bool) (hg : 1 ≤ g ∧ g ≤ 127) (hz : 0 ≤ z ∧ z < g) (hs : 0 ≤ s ∧ s ≤ 65535) (ht : 0 ≤ ti ∧ ti ≤ 65535) (hn : n ≤ 300) :
    recE 1 (sureX g z) s 2 1 ti n (bitv l) = 0 ∧ recN 1 (sureX g z) s 2 1 ti n (bitv l) = n ∧ ∀ k, k < n → hard1 (recV 1 (sureX g z) s 2 1 ti n (bitv l) k) = bitv l k := by
  have e1 := sure_chk g z hg hz
  have e2 := sure_at g z ti ht.1
  have hb := fun k => nzV_bd (nz0 s 2 1 ti) z k hz.1
  have e3 : ofE n n g (bitv l) (nzV (nz0 s 2 1 ti) z) = 0 := by
    unfold ofE
    rw [if_neg, anyB_false.2 fun k _ => by unfold bad bitv; split <;> simp]
    · rfl
    · rw [anyB_false.2 fun k _ => by have := hb k; unfold out; simp; omega]
      simp; omega
  have e4 : recE 1 (sureX g z) s 2 1 ti n (bitv l) = 0 := by
    rw [recE_def, if_pos e1, e2, if_pos (nzOk_of (by omega) (by omega) (by omega) (by omega) (by omega) (by omega))]
    exact e3
  refine ⟨e4, by unfold recN; rw [if_pos e4], fun k hk => ?_⟩
  rw [recV_def, e2]
  show hard1 (ofV n g (bitv l) (nzV (nz0 s 2 1 ti) z) k) = bitv l k
  have h3 := hb k
  unfold hard1 ofV clip
  rw [if_pos hk]
  rcases bitv_or l k with h | h
  all_goals
    rw [h]
    split <;> omega
set_option maxRecDepth 100000 in
set_option maxHeartbeats 8000000 in
theorem sure7 (a : Option Addr) (b o n cp : Nat) (l : Nat → Bool) (s ti ga no : Int) (w : World) (ha : 0 < n → a = some ⟨b, o, none⟩) (hl : ∀ k, k < n → w.cell? ⟨b, o + k, none⟩ = some (.bool (l k))) (hn : n ≤ 140737488351232)
    (bs : 0 ≤ s ∧ s ≤ 65535) (bt : 0 ≤ ti ∧ ti ≤ 65535) (bg : 0 ≤ ga ∧ ga ≤ 255) (bn : 0 ≤ no ∧ no ≤ 255) :
    Calls Try.prog 7 #[.slice a n cp, .int .u16 s, .int .u16 ti, .int .u8 ga, .int .u8 no] w fun e w' => e = .returned (.bool true) ∧ Below w.heap.size w w' := by
  by_cases h1 : 300 < n
  · clear ha hl
    go_enter Try.func7, Try.ntmps7
    go_wp2_with fail
    refine (awake9 w).mono ?_
    rintro e w2 ⟨rfl, hb⟩
    have HB := Lib.hid hb
    clear hb
    go_wp2
    go_ret
    exact ⟨rfl, HB.out⟩
  · have HA := Lib.hid ha
    have HL := Lib.hid hl
    have hn3 : n ≤ 300 := by omega
    obtain ⟨g, hg⟩ : ∃ g : Int, g = 1 + ga % 127 := ⟨_, rfl⟩
    have bg1 : 1 ≤ g := by omega
    have bg2 : g ≤ 127 := by omega
    obtain ⟨z, hz⟩ : ∃ z : Int, z = no % g := ⟨_, rfl⟩
    have bz0 : 0 ≤ z := by rw [hz]; exact Int.emod_nonneg _ (by omega)
    have bz1 : z < g := by rw [hz]; exact Int.emod_lt_of_pos _ (by omega)
    have t1 : ga.tmod 127 = g - 1 := by rw [Int.tmod_eq_emod_of_nonneg bg.1]; omega
    have t1' : 1 + (g - 1) = g := by omega
    have t2 : no.tmod g = z := by rw [Int.tmod_eq_emod_of_nonneg bn.1, hz]
    have t3 : (g == 0) = false := beq_eq_false_iff_ne.2 (by omega)
    have t4 : g ≠ 0 := by omega
    have REC := Lib.hid (sure_rec g z s ti n l ⟨bg1, bg2⟩ ⟨bz0, bz1⟩ bs bt hn3)
    clear ha hl hg hz
    obtain ⟨i0, hi, hz0, hz1, hz2⟩ := info_split intInfo
    go_enter Try.func7, Try.ntmps7
    go_wp2_with (refine wpList_make_full _ rfl (.tmp 21) (.tmp 21) 23 rfl w.heap.size 3 i0 (.int .i64 0) 1 Try.underlying23 hi hz0 hz1 .i64 .i64 (n : Int) (n : Int) n rfl rfl rfl rfl ?c1 ?c2 (Nat.le_refl _) ?_)
    case c1 => rw [hz2]; omega
    case c2 => unfold maxLen; omega
    intro w1 hown hgrow
    have hlt : w.heap.size < w1.heap.size := (hown.lt _ rfl).2
    have HF := Lib.hid (Fill.made (ys := bitv l) hown hgrow hlt)
    clear hown hgrow hz1 hz2 hz0 hi hlt
    generalize w.heap.size = G at HF ⊢
    go_wp2
    go_loopw [12] (fun s12 wr => ∃ k : Nat, k ≤ n ∧ s12 = .int .i64 k ∧ Fill w wr G n k (fun _ => 0) (bitv l)) (fun s12 _ => n - (intOf s12).toNat)
    case atStart => exact ⟨0, Nat.zero_le _, rfl, HF.out⟩
    case round =>
      clear HF
      obtain ⟨k, hk, rfl, F⟩ := hrel
      have HF := Lib.hid F
      by_cases hlt : k < n
      · have hlk := up F.bel (HL.out k hlt)
        have hak := HA.out (by omega)
        subst hak
        have hc := F.x k hlt
        have hf := F.f k
        clear F
        cases hb : l k
        · have e1 : bitv l k = 0 := by unfold bitv; rw [hb]; rfl
          rw [hb] at hlk
          go_wp2
          go_roundw
          case rel => exact ⟨k + 1, by omega, by go_num, HF.out.keep e1⟩
          case measure => simp [intOf]; omega
        · have e1 : bitv l k = 1 := by unfold bitv; rw [hb]; rfl
          rw [hb] at hlk
          go_wp2
          go_roundw
          case rel =>
            have h5 := HF.out.set hlt
            simp only [e1] at h5
            exact ⟨k + 1, by omega, by go_num, h5⟩
          case measure => simp [intOf]; omega
      · have : k = n := by omega
        subst this
        have HR := Lib.hid F.row
        have HB := Lib.hid F.bel
        have hsz := F.bel.size
        clear F HF
        have hb0 : Below wr.heap.size wr (wr.alloc (.cells #[.int .i64 2, .int .i64 1, .int .i64 0, .int .i64 g, .int .i64 z] 35)) := (Below.refl _ _).alloc (Nat.le_refl _) _
        have r0 : R5 (wr.alloc (.cells #[.int .i64 2, .int .i64 1, .int .i64 0, .int .i64 g, .int .i64 z] 35)) (some ⟨wr.heap.size, 0, none⟩) 1 (sureX g z) := ⟨wr.heap.size, 0, fun _ => rfl, fun j hj => by
          obtain rfl : j = 0 := by omega
          simp [go_sem, sureX]⟩
        have K1 := Lib.hid (recv15 (some ⟨wr.heap.size, 0, none⟩) 1 1 (sureX g z) s 2 1 ti (some ⟨G, 0, none⟩) k k (bitv l) _ r0 (by unfold maxLen; omega) (HR.out.mono hb0) (by omega))
        have HB0 := Lib.hid hb0
        clear r0 hb0
        go_wp2_with fail
        refine K1.out.mono ?_
        rintro e w3 ⟨a3, c3, rfl, hr3, hb3⟩
        obtain ⟨e1, e2, e3⟩ := REC.out
        rw [e2] at hr3
        have hr4 := bthen' HB0.out hb3
        have HR3 := Lib.hid hr3
        have HB3 := Lib.hid (bthen' HB.out hr4)
        have HRB := Lib.hid (HR.out.mono hr4)
        have HE := Lib.hid e3
        rw [e1, e2]
        clear e1 e2 e3 hr3 hb3 hr4 K1 HB0 HR HB REC
        go_wp2_with fail
        refine (hard17 a3 k c3 _ w3 HR3.out (by omega)).mono ?_
        rintro e w4 ⟨g4, rfl, hr4, hb4⟩
        have HB4 := Lib.hid (bthen' HB3.out hb4)
        have K5 := Lib.hid (same16 (some ⟨g4, 0, none⟩) (some ⟨G, 0, none⟩) k k k k _ _ w4 hr4 (HRB.out.mono hb4) (by unfold maxLen; omega) (by unfold maxLen; omega))
        rw [same_true rfl fun j hj => HE.out j hj] at K5
        clear hr4 hb4 HB3 HR3 HRB
        go_wp2_with fail
        refine K5.out.mono ?_
        rintro e w5 ⟨rfl, hb5⟩
        have HB5 := Lib.hid (bthen' HB4.out hb5)
        clear hb5
        go_wp2_with fail
        refine (awake9 w5).mono ?_
        rintro e w6 ⟨rfl, hb6⟩
        have HB6 := Lib.hid (bthen' HB5.out hb6)
        clear hb6
        go_wp2
        go_ret
        exact ⟨rfl, HB6.out⟩
end Go.Proofs.Ytfkbcjpiijcbfaa
