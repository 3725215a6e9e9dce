/- Layer 25: the reference's Tick hands back a new block. -/
import Derived.Test.YtgcplboiodnfpaaP3
namespace Go.Proofs.Ytgcplboiodnfpaa
set_option linter.unusedVariables false
set_option linter.unusedSimpArgs false
open Go.RowKit Go.Sort
attribute [local go_sem] gcell

section
variable (a : Option Addr) (n c : Nat) (P R M T : Nat → Int) (w : World)
set_option maxRecDepth 100000 in
set_option maxHeartbeats 4000000 in
theorem tick19f (hn : n ≤ 1000) (ha : a = none → n = 0) (H : R4 w a n P R M T) (hok : okB n P R M T = true) (h : 0 < n) : Calls Try.prog 19 #[.slice a n c] w fun e w' => ∃ c b, e = .returned (.slice (some ⟨b, 0, none⟩) n c) ∧ w.heap.size ≤ b ∧ B4 w' b n P R M (tk R M T) ∧ Below w.heap.size w w' := by
  have HOK := Lib.hid hok
  have HV := Lib.hid (okB_true hok).2
  have h8 := (okB_true hok).1
  clear hok
  have hml : n ≤ maxLen := by unfold maxLen; omega
  have HR := Lib.hid H
  have HA := Lib.hid ha
  clear H ha
  go_enter Try.func19, Try.ntmps19
  go_wp2_with (at_builtin; refine copy19 a n c P R M T w hn HA.out HR.out rfl (.tmp 5) (.tmp 6) rfl rfl rfl rfl ?_; rintro v' w1 ⟨a', c', b, rfl, hc', hC, hb⟩; have HC := Lib.hid hC; have HB := Lib.hid hb; have hs1 := hb.size; clear hC hb)
  have K2 := Lib.hid fun W (h : Below w.heap.size w W) => valid30 a n c P R M T W (HR.out.mono h) hml
  clear HA
  rw [HOK.out] at K2
  obtain ⟨rfl, hbs, hVA⟩ := HC.out h
  have HQ := Lib.hid (show B4 w1 b n P R M T from hVA)
  clear hVA HC
  go_wp2_with fail
  go_loopw [4] (fun s4 wr => ∃ k : Nat, s4 = .int .i64 k ∧ k ≤ n ∧ Below w.heap.size w wr ∧ B4 wr b n P R M (upto k (tk R M T) T)) (fun s4 _ => n - (intOf s4).toNat)
  case atStart => exact ⟨0, rfl, Nat.zero_le _, HB.out, HQ.out.congr fun j _ => upto_ge _ _ (Nat.zero_le _)⟩
  case round =>
    clear HQ
    obtain ⟨k, rfl, hk, hb, hQ⟩ := hrel
    have HB := Lib.hid hb
    have HQ := Lib.hid hQ
    have hsr := hb.size
    clear hb hQ
    by_cases hlt : k < n
    · have d0 : decide (k < n) = true := decide_eq_true hlt
      have i2 : (k : Int) < (n : Int) := by omega
      have i1 : (0 : Int) ≤ (k : Int) := by omega
      go_wp2_with fail
      refine (K2.out _ HB.out).mono ?_
      rintro e w3 ⟨rfl, hb⟩
      have hb3 := bthen HB.out hb hsr
      have hQ := HQ.out.mono hb
      have HB3 := Lib.hid hb3
      have HQ3 := Lib.hid hQ
      have hs3 := hb3.size
      clear hb HB HQ
      obtain ⟨c0, c1, c2, c3⟩ := hQ.cells hlt
      rw [upto_ge _ _ (Nat.le_refl k)] at c3
      have hv := vb_true (HV.out k hlt)
      have hx : tk R M T k = min (T k + R k) (M k) := rfl
      have HS := Lib.hid fun (W : World) (hW : Below w3.heap.size w3 W) => ((hQ.mono hW).set k (tk R M T k)).congr fun j _ => upto_put rfl j
      have HBW := Lib.hid fun (W : World) (hW : Below w3.heap.size w3 W) (x : Value) => (bthen hb3 hW hs3).setCell (p := ⟨b, k * 4 + 3, none⟩) hbs x
      have f3 := hQ.fr (k * 4 + 3)
      clear hb3 hQ
      rw [hx] at HS
      generalize T k = tt at *
      generalize R k = rr at *
      generalize M k = mm at *
      have e1 : IntKind.i64.wrap (tt + rr) = tt + rr := IntWalk.i64_in _ (by omega)
      have ltb := lt_of_cell c0
      by_cases hm : tt + rr ≤ mm
      all_goals
        first
          | have em : min (tt + rr) mm = tt + rr := Int.min_eq_left hm
          | have em : min (tt + rr) mm = mm := Int.min_eq_right (by omega)
        rw [em] at HS
        clear em
        go_wp2_with fail
        refine wp_region_grown_tail 21 (by kernel_rfl) (by kernel_rfl) ?_
        simp only [List.take_succ_cons, List.take_zero, List.drop_succ_cons, List.drop_zero]
        repeat (go_big_quiet_step (fail))
        refine wpQuiet_nil ?_
        intro w4 hw4
        have hb4 := below_of_regrown hw4
        have HS4 := Lib.hid (HS.out w4 hb4)
        have HB4 := Lib.hid (HBW.out w4 hb4)
        have c34 := up hb4 c3
        have f34 := upf hb4 ltb f3
        clear hw4 hb4 c0 c1 c2 c3 f3 ltb HS HBW HQ3 HB3
        go_wp2
        go_roundw
        case rel => exact ⟨k + 1, by go_num, by omega, HB4.out _, HS4.out⟩
        case measure => simp [intOf] <;> omega
    · obtain rfl : k = n := by omega
      have HE := Lib.hid (HQ.out.congr fun j hj => (upto_lt _ _ hj).symm)
      have d0 : decide (k < k) = false := by simp
      go_wp2
      go_ret
      exact ⟨c', b, rfl, hbs, HE.out, HB.out⟩
end
end Go.Proofs.Ytgcplboiodnfpaa
