/- Layer 35: the walk of SleepReaches. -/
import Derived.Test.YtjbokpejfifamaaD1
import Derived.Test.YtjbokpejfifamaaS6
namespace Go.Proofs.Ytjbokpejfifamaa
open Go.RowKit Go.Sort
attribute [local go_sem] gcell
set_option linter.unusedVariables false

/-- A list that came in, as Roll reads it. -/
structure ListIn (w : World) (a : Option Addr) (b m n c : Nat) (xs : Nat → Int) : Prop where
  hc : n ≤ c
  h0 : a = none → c = 0
  ha : 0 < c → a = some ⟨b, m, none⟩
  hx : ∀ i, i < n → w.cell? ⟨b, m + i, none⟩ = some (.int .i64 (xs i))

theorem ok_of {c o m l s h : Int} (H : 1 ≤ c ∧ c ≤ 40 ∧ 0 ≤ o ∧ o < c ∧ 1 ≤ m ∧ m ≤ c ∧ 0 ≤ l ∧ l < 9 ∧ (s = 0 ∨ (m ≤ s ∧ s ≤ c)) ∧ 0 ≤ h ∧ h < 5) : okR ⟨c, o, m, l, s, h⟩ = true := by
  rw [okR_iff]; dsimp only; omega

theorem lookB_of {r : Rh} {last tick most : Int} (h : okR r = true) (h1 : 0 ≤ tick) (h2 : tick ≤ most) (h3 : -1 ≤ last) (h4 : last ≤ tick) : lookB r last tick most = true := (lookB_iff _ _ _ _).2 ⟨h, h1, h2, h3, h4⟩

theorem awk_linger {r : Rh} {last t : Int} (h : lookB r last t 1048576 = true) (h1 : 0 ≤ last) (h2 : t - last ≤ r.l) : awk r last t = true := by
  unfold awk lis ling
  rw [h]
  simp [h1, h2]

set_option maxRecDepth 100000 in
set_option maxHeartbeats 4000000 in
theorem reaches3 (a : Option Addr) (b m n c : Nat) (xs : Nat → Int) (last more : Int) (w : World) (L : ListIn w a b m n c xs) (hn64 : n ≤ 140737488351232) (l0 : 0 ≤ last ∧ last ≤ 65535) (m0 : 0 ≤ more ∧ more ≤ 65535) :
    Calls Try.prog 3 #[.slice a n c, .int .u16 last, .int .u16 more] w fun e w' => e = .returned (.bool true) ∧ Below w.heap.size w w' := by
  have HL := Lib.hid L
  clear L
  by_cases h300 : n ≤ 300
  · have hd : decide (n ≤ 300) = true := by simpa using h300
    go_enter Try.func3, Try.ntmps3
    go_wp2_with fail
    refine (light_any a n c _).mono ?_
    rw [hd]
    rintro e w' ⟨rfl, rfl⟩
    go_wp2_with fail
    refine (roll_any _ a b m n c xs h300 HL.out.hc HL.out.h0 HL.out.ha HL.out.hx).mono ?_
    rintro e w1 ⟨p, g, aa, cap, rfl, hD, hp, hB⟩
    have HB := Lib.hid hB
    have hp2 := lt_of_cell hD.c0
    go_wp2_with fail
    refine (rhythm10 p g aa cap n xs 0 _ h300 hD).mono ?_
    rintro e w2 ⟨c', o, m', l, s, h, k, rfl, hr, hD2, hO⟩
    replace HB := Lib.hid (HB.out.trans (only_below hO hp (HB.out.size)))
    clear hD hD2 hO hB hp2
    have q0 : 0 ≤ more % 200 ∧ more % 200 < 200 := by omega
    have hok := ok_of hr
    have hlk : lookB ⟨c', o, m', l, s, h⟩ last (last + more % 200) 1048320 = true := lookB_of hok (by omega) (by omega) (by omega) (by omega)
    have hnv := nextV_yes hlk
    obtain ⟨n1, n2, n3, n4⟩ := next_spec hlk
    have hlu : ∀ t, last + more % 200 ≤ t → t ≤ last + more % 200 + 256 → lookB ⟨c', o, m', l, s, h⟩ last t 1048576 = true := fun t h1 h2 => look_up hlk h1 h2
    have hlg : ∀ i, 0 ≤ i → i ≤ l → awk ⟨c', o, m', l, s, h⟩ last (last + i) = true := fun i h1 h2 => awk_linger (lookB_of hok (by omega) (by omega) (by omega) (by omega)) (by omega) (by dsimp only; omega)
    have HNV := Lib.hid hnv
    have HN1 := Lib.hid n1
    have HN4 := Lib.hid n4
    have HLG := Lib.hid hlg
    dsimp only at n3
    clear hnv n1 n4 hlu hlg hlk hok
    have hR0 : Rbox (w2.alloc (.cells #[.int .i64 c', .int .i64 o, .int .i64 m', .int .i64 l, .int .i64 s, .int .i64 h] 27)) w2.heap.size c' o m' l s h := Rbox.new _ _ _ _ _ _ _ _
    have HR := Lib.hid hR0
    have HB2 := Lib.hid (HB.out.alloc HB.out.size (.cells #[.int .i64 c', .int .i64 o, .int .i64 m', .int .i64 l, .int .i64 s, .int .i64 h] 27))
    clear hR0
    go_wp2_with fail
    refine (next12 _ _ _ _ _ _ _ _ _).mono ?_
    rw [HNV.out]
    generalize ht : next ⟨c', o, m', l, s, h⟩ last (last + more % 200) = t at *
    generalize more % 200 = q at *
    clear ht
    rintro e w3 ⟨rfl, hb3⟩
    replace HR := Lib.hid (HR.out.mono hb3)
    replace HB2 := Lib.hid (bthen HB2.out hb3 HB2.out.size)
    clear hb3 HB HNV
    have d0 := HR.out.r0
    have d1 := HR.out.r1
    have d2 := HR.out.r2
    have d3 := HR.out.r3
    have d4 := HR.out.r4
    have d5 := HR.out.r5
    go_wp2_with fail
    refine (awake13 _ _ _ _ _ _ _ _ _).mono ?_
    rw [HN1.out]
    rintro e w4 ⟨rfl, hb4⟩
    replace HR := Lib.hid (HR.out.mono hb4)
    replace HB2 := Lib.hid (bthen HB2.out hb4 HB2.out.size)
    clear hb4 d0 d1 d2 d3 d4 d5
    go_wp2_with fail
    go_loopw [11] (fun i wr => ∃ k : Nat, i = .int .i64 (last + q + k) ∧ last + q + k ≤ t ∧ Rbox wr w2.heap.size c' o m' l s h ∧ Below w'.heap.size w' wr) (fun i _ => 2000000 - (intOf i).toNat)
    case atStart => exact ⟨0, by simp, by omega, HR.out, HB2.out⟩
    case round =>
      clear HR HB2
      obtain ⟨k1, rfl, hk, hR, hB⟩ := hrel
      have HR := Lib.hid hR
      have HB2 := Lib.hid hB
      have d0 := HR.out.r0
      have d1 := HR.out.r1
      have d2 := HR.out.r2
      have d3 := HR.out.r3
      have d4 := HR.out.r4
      have d5 := HR.out.r5
      clear hR hB
      by_cases hlt : last + q + k1 < t
      · have HAW := Lib.hid (HN4.out (last + q + k1) (by omega) hlt)
        go_wp2_with (go_at_call 13; refine (awake13 _ _ _ _ _ _ _ _ _).mono ?_; rw [HAW.out]; rintro e w5 ⟨rfl, hb5⟩)
        go_roundw
        case rel => exact ⟨k1 + 1, by go_num, by omega, HR.out.mono hb5, bthen HB2.out hb5 HB2.out.size⟩
        case measure => simp [intOf] <;> omega
      · go_wp2_with fail
        go_loopw [12] (fun i wr => ∃ k : Nat, i = .int .i64 k ∧ (k : Int) ≤ l + 1 ∧ Rbox wr w2.heap.size c' o m' l s h ∧ Below w'.heap.size w' wr) (fun i _ => 10 - (intOf i).toNat)
        case atStart => exact ⟨0, rfl, by omega, HR.out, HB2.out⟩
        case round =>
          clear HR HB2 d0 d1 d2 d3 d4 d5
          obtain ⟨k2, rfl, hk2, hR, hB⟩ := hrel
          have HR := Lib.hid hR
          have HB2 := Lib.hid hB
          have d0 := HR.out.r0
          have d1 := HR.out.r1
          have d2 := HR.out.r2
          have d3 := HR.out.r3
          have d4 := HR.out.r4
          have d5 := HR.out.r5
          clear hR hB
          by_cases hlt2 : (k2 : Int) ≤ l
          · have HAW := Lib.hid (HLG.out k2 (by omega) hlt2)
            go_wp2_with (go_at_call 13; refine (awake13 _ _ _ _ _ _ _ _ _).mono ?_; rw [HAW.out]; rintro e w5 ⟨rfl, hb5⟩)
            go_roundw
            case rel => exact ⟨k2 + 1, by go_num, by omega, HR.out.mono hb5, bthen HB2.out hb5 HB2.out.size⟩
            case measure => simp [intOf] <;> omega
          · go_wp2_with (go_at_call 9; refine (awake9 _).mono ?_; rintro e w6 ⟨rfl, hb6⟩)
            go_ret
            exact ⟨rfl, bthen HB2.out hb6 HB2.out.size⟩
  · have hd : decide (n ≤ 300) = false := by simpa using h300
    go_enter Try.func3, Try.ntmps3
    go_wp2_with (first
      | (go_at_call 8; refine (light_any a n c _).mono ?_; rw [hd]; rintro e w' ⟨rfl, rfl⟩)
      | (go_at_call 9; refine (awake9 _).mono ?_; rintro e w' ⟨rfl, hb⟩))
    go_ret
    exact ⟨rfl, hb⟩
end Go.Proofs.Ytjbokpejfifamaa
