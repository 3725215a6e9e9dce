/- Layer 37: the walk of MeasureRuns. -/
import Derived.Test.YtbhldnfldkjoiaaM12
import Derived.Test.YtbhldnfldkjoiaaM10
import Derived.Test.YtbhldnfldkjoiaaMArgs
import Derived.Deep.DeepCutAuto
import Derived.Deep.RegionHeld3
namespace Go.Proofs.Ytbhldnfldkjoiaa
set_option linter.unusedVariables false
set_option linter.unusedSimpArgs false
open Go.RowKit Go.Sort
attribute [local go_sem] gcell

structure ListIn (w : World) (a : Option Addr) (b m n c : Nat) (xs : Nat → Int) : Prop where
  hc : n ≤ c
  h0 : a = none → c = 0
  ha : 0 < c → a = some ⟨b, m, none⟩
  hx : ∀ i, i < n → w.cell? ⟨b, m + i, none⟩ = some (.int .i64 (xs i))

theorem keep_only {w w' : World} {p b o : Nat} {v : Value} (h : OnlyP w.drew w' p) (hb : b ≠ p) (hc : w.cell? ⟨b, o, none⟩ = some v) : w'.cell? ⟨b, o, none⟩ = some v := only_cell h hb (by exact hc)

/-- The variables at the loop's head. -/
def Head (w wx : World) (p g : Nat) (aa : Option Addr) (cap n0 : Nat) (xs : Nat → Int) (k zR zS : Nat) (mg bk hd : Int) (a d : Option Addr) (nn c l : Nat) (s8 : Value) : Prop :=
  ∃ zQ, s8 = .slice (some ⟨zQ, 0, none⟩) nn nn ∧ RM w wx p g aa cap n0 xs k zR zS zQ mg bk hd a d nn c l zz zz zz

set_option maxRecDepth 100000 in
set_option maxHeartbeats 4000000 in
theorem runs4 (a : Option Addr) (b m n c : Nat) (xs : Nat → Int) (w : World) (L : ListIn w a b m n c xs) (hn : n ≤ 140737488351232) :
    Calls Try.prog 4 #[.slice a n c] w fun e w' => e = .returned (.bool true) ∧ Below w.heap.size w w' := by
  have HL := Lib.hid L
  clear L
  by_cases h300 : n ≤ 300
  · have hd : decide (n ≤ 300) = true := by simpa using h300
    go_enter Try.func4, Try.ntmps4
    go_wp2_with fail
    refine (light_any a n c _).mono ?_
    rw [hd]
    rintro e w' ⟨rfl, rfl⟩
    go_wp2_with fail
    refine (roll_any _ a b m n c xs h300 HL.out.hc HL.out.h0 HL.out.ha HL.out.hx).mono ?_
    rintro e w1 ⟨p, g, aa, cap, rfl, hD, hp, hB⟩
    have HB1 := Lib.hid hB
    have HD1 := Lib.hid hD
    clear hB hD
    go_wp2_with fail
    refine (dice_next p g aa cap n xs 0 9 _ (by omega) h300 HD1.out).mono ?_
    have bv1 := dval_bd xs n 0 9 (by omega)
    generalize dval xs n 0 9 = v1 at *
    obtain ⟨k1, hk1⟩ : ∃ j, dnext n 0 = j := ⟨_, rfl⟩
    have lk1 : k1 ≤ n := hk1 ▸ dnext_le (by omega)
    rw [hk1]
    clear hk1
    rintro e w2 ⟨rfl, hD, hO⟩
    have HB2 := Lib.hid (HB1.out.trans (only_below hO hp HB1.out.size))
    have HD2 := Lib.hid hD
    clear hD hO HB1 HD1
    go_wp2_with fail
    refine (dice_next p g aa cap n xs k1 4 _ (by omega) h300 HD2.out).mono ?_
    have bv2 := dval_bd xs n k1 4 (by omega)
    generalize dval xs n k1 4 = v2 at *
    obtain ⟨k2, hk2⟩ : ∃ j, dnext n k1 = j := ⟨_, rfl⟩
    have lk2 : k2 ≤ n := hk2 ▸ dnext_le (by omega)
    rw [hk2]
    clear hk2
    rintro e w3 ⟨rfl, hD, hO⟩
    have HB3 := Lib.hid (HB2.out.trans (only_below hO hp HB2.out.size))
    have HD3 := Lib.hid hD
    clear hD hO HB2 HD2
    go_wp2_with fail
    refine (dice_next p g aa cap n xs k2 5 _ (by omega) h300 HD3.out).mono ?_
    have bv3 := dval_bd xs n k2 5 (by omega)
    generalize dval xs n k2 5 = v3 at *
    obtain ⟨k3, hk3⟩ : ∃ j, dnext n k2 = j := ⟨_, rfl⟩
    have lk3 : k3 ≤ n := hk3 ▸ dnext_le (by omega)
    rw [hk3]
    clear hk3
    rintro e w4 ⟨rfl, hD, hO⟩
    have HB4 := Lib.hid (HB3.out.trans (only_below hO hp HB3.out.size))
    have HD4 := Lib.hid hD
    clear hD hO HB3 HD3
    have lp := lt_of_cell HD4.out.c0
    have zz4 := HB4.out.size
    have R4 := Lib.hid (Rb.new w4 (v1 - 3) v2 (1 + v3))
    have HBa := Lib.hid (HB4.out.alloc zz4 (.cells #[.int .i64 (v1 - 3), .int .i64 v2, .int .i64 (1 + v3)] 23))
    have HDa := Lib.hid (HD4.out.alloc (.cells #[.int .i64 (v1 - 3), .int .i64 v2, .int .i64 (1 + v3)] 23))
    clear HB4 HD4
    go_wp2_with fail
    refine (dice_next p g aa cap n xs k3 3 _ (by omega) h300 HDa.out).mono ?_
    have bv4 := dval_bd xs n k3 3 (by omega)
    generalize dval xs n k3 3 = v4 at *
    obtain ⟨k4, hk4⟩ : ∃ j, dnext n k3 = j := ⟨_, rfl⟩
    have lk4 : k4 ≤ n := hk4 ▸ dnext_le (by omega)
    rw [hk4]
    clear hk4
    rintro e w5 ⟨rfl, hD, hO⟩
    have HB5 := Lib.hid (HBa.out.trans (only_below hO hp HBa.out.size))
    have HD5 := Lib.hid hD
    have R5 := Lib.hid (R4.out.only hO (by omega))
    have lR := lt_of_cell R5.out.r0
    have lg := hD.gl
    clear hD hO HBa HDa R4
    go_upto_region 6 with fail
    have bV : 1 ≤ 1 + v4 ∧ 1 + v4 ≤ 3 := by omega
    clear bv4
    generalize 1 + v4 = V at *
    obtain ⟨nn, rfl⟩ : ∃ nn : Nat, V = nn := ⟨V.toNat, by omega⟩
    have bn : 1 ≤ nn ∧ nn ≤ 3 := by omega
    have k10 := new10L (nn : Int)
    rw [show newN (nn : Int) = nn from by unfold newN; rw [if_pos (by omega)]; simp, show newE (nn : Int) = 0 from if_pos (by omega)] at k10
    have K10 := Lib.hid k10
    clear k10 bV
    go_wp2_with (go_at_call 10; refine (K10.out _).mono ?_)
    intro e w6 h
    obtain ⟨v, rfl, s6, hb, hf⟩ := h
    have S6 := s6
    obtain ⟨a1, d1, c1, l1, rfl, _⟩ := s6
    have hA := below_alloc w6 (.cells #[.slice a1 nn c1, .slice d1 nn l1] 26)
    have z65 := hb.size
    have hB6 := bthen HB5.out hb HB5.out.size
    have z6 := hB6.size
    have hRM : ∀ Z : Array Value, (∀ k, k < nn → Z[k]? = some (.int .i64 0)) → RM w' ((w6.alloc (.cells #[.slice a1 nn c1, .slice d1 nn l1] 26)).alloc (.cells Z 3)) p g aa cap n xs k4 w4.heap.size w6.heap.size (w6.heap.size + 1) (v1 - 3) v2 (1 + v3) a1 d1 nn c1 l1 zz zz zz := fun Z hZ => by
      have hA2 := below_alloc (w6.alloc (.cells #[.slice a1 nn c1, .slice d1 nn l1] 26)) (.cells Z 3)
      refine ⟨((HD5.out.mono hb).alloc _).alloc _, ((R5.out.mono hb).mono hA).mono hA2, (Sx.new S6 rfl).mono hA2, hf.off' S6 fun b hb => ?_, ⟨fun k hk => ?_, fun k => ?_, by simp⟩, (hB6.alloc z6 _).alloc (by simp; omega) _, ⟨hp, z6, by omega⟩, by omega⟩
      · simp at hb; omega
      · have := hZ k hk
        simp [go_sem, zz]
        exact this
      · simp [go_sem]
    have HRM := Lib.hid hRM
    clear hRM hA hB6 hb hf S6 HB5 HD5 R5
    unfold sv
    go_upto_region 7 with fail
    go_cut [8] (fun s8 wx => Head w' wx p g aa cap n xs k4 w4.heap.size w6.heap.size (v1 - 3) v2 (1 + v3) a1 d1 nn c1 l1 s8)
    case first =>
      have h3 : nn = 1 ∨ nn = 2 ∨ nn = 3 := by omega
      have m1 := mk1
      have m2 := mk2
      have m3 := mk3
      rcases h3 with rfl | rfl | rfl
      · go_wp2_with fail
        go_meet
        exact ⟨_, rfl, HRM.out _ fun k hk => by match k, hk with | 0, _ => rfl⟩
      · go_wp2_with fail
        go_meet
        exact ⟨_, rfl, HRM.out _ fun k hk => by match k, hk with | 0, _ => rfl | 1, _ => rfl⟩
      · go_wp2_with fail
        go_meet
        exact ⟨_, rfl, HRM.out _ fun k hk => by match k, hk with | 0, _ => rfl | 1, _ => rfl | 2, _ => rfl⟩
    case rest =>
      obtain ⟨zQ, rfl, hrm⟩ := hcut
      have HRM0 := Lib.hid hrm
      clear hrm HRM
      generalize w4.heap.size = zR at *
      generalize w6.heap.size = zS at *
      go_wp2_with fail
      go_loopw [9] (fun s9 wr => ∃ (t k : Nat) (a d : Option Addr) (c l : Nat) (fs hs qs : Nat → Int), s9 = .int .i64 t ∧ t ≤ 60 ∧ k ≤ n ∧ RM w' wr p g aa cap n xs k zR zS zQ (v1 - 3) v2 (1 + v3) a d nn c l fs hs qs) (fun s9 _ => 60 - (intOf s9).toNat)
      case atStart => exact ⟨0, k4, _, _, _, _, _, _, _, rfl, by omega, lk4, HRM0.out⟩
      case round =>
        clear HRM0
        obtain ⟨t, k, a2, d2, c2, l2, fs, hs, qs, rfl, ht, hk, hS⟩ := hrel
        have HS := Lib.hid hS
        clear hS
        by_cases hT : t < 60
        · by_cases hlt : k < n
          · have hgt : (0 : Int) < (n : Int) - k := by omega
            go_wp2_with fail
            refine (dice_rest p g aa cap n xs k _ hk h300 HS.out.D).mono ?_
            rintro e w7 ⟨rfl, q, rfl⟩
            have HS1 := Lib.hid (HS.out.mono (below_drewN (Below.refl _ _) q))
            clear HS
            go_wp2_with fail
            refine (dice_next p g aa cap n xs k (nn : Int) _ (by omega) h300 HS1.out.D).mono ?_
            have bi := dval_bd xs n k (nn : Int) (by omega)
            generalize dval xs n k (nn : Int) = x1 at *
            obtain ⟨i, rfl⟩ : ∃ i : Nat, x1 = i := ⟨x1.toNat, by omega⟩
            obtain ⟨j1, hj1⟩ : ∃ j, dnext n k = j := ⟨_, rfl⟩
            have lj1 : j1 ≤ n := hj1 ▸ dnext_le (by omega)
            rw [hj1]
            clear hj1
            rintro e w8 ⟨rfl, hD, hO⟩
            have HS2 := Lib.hid (HS1.out.only hD hO)
            clear hD hO HS1
            go_wp2_with fail
            refine (dice_next p g aa cap n xs j1 16 _ (by omega) h300 HS2.out.D).mono ?_
            generalize dval xs n j1 16 = x2 at *
            obtain ⟨j2, hj2⟩ : ∃ j, dnext n j1 = j := ⟨_, rfl⟩
            have lj2 : j2 ≤ n := hj2 ▸ dnext_le (by omega)
            rw [hj2]
            clear hj2
            rintro e w9 ⟨rfl, hD, hO⟩
            have hS := HS2.out.only hD hO
            have HS3 := Lib.hid (hS.setQ i x2)
            have q1 := hS.Q.c i (by omega)
            have q2 := hS.Q.f i
            clear hD hO HS2 hS
            go_upto_region 12 with fail
            generalize hW : w9.setCell ⟨zQ, i, none⟩ (.int .i64 x2) = W at *
            clear hW q1 q2
            generalize putN qs i x2 = qs' at *
            have K11 := Lib.hid fun own w S RQ => agree11 (v1 - 3) v2 (1 + v3) own (sv a2 d2 nn c2 nn l2) (some ⟨zQ, 0, none⟩) nn nn nn nn fs hs qs' w S RQ (by omega) (by omega) (by omega)
            have K17 := Lib.hid fun w S RQ => step17L (v1 - 3) v2 (1 + v3) 0 (sv a2 d2 nn c2 nn l2) (some ⟨zQ, 0, none⟩) nn nn nn nn fs hs qs' w S RQ (by omega) (by omega) (by omega)
            unfold rv sv at K11 K17
            have hS := HS3.out
            have r0 := hS.R.r0
            have r1 := hS.R.r1
            have r2 := hS.R.r2
            have c0 := hS.S.b.c0
            have c1' := hS.S.b.c1
            have lt1 := lt_of_cell r0
            have lt2 := lt_of_cell c0
            clear hS
            go_region_held3 (fun w' => w'.cell? ⟨zR, 0, none⟩ = some (.int .i64 (v1 - 3)) ∧ w'.cell? ⟨zR, 1, none⟩ = some (.int .i64 v2) ∧ w'.cell? ⟨zR, 2, none⟩ = some (.int .i64 (1 + v3)) ∧ w'.cell? ⟨zS, 0, none⟩ = some (.slice a2 nn c2) ∧ w'.cell? ⟨zS, 1, none⟩ = some (.slice d2 nn l2)) (first | (go_keep; done) | exact ⟨HS5.out.R.r0, HS5.out.R.r1, HS5.out.R.r2, HS5.out.S.b.c0, HS5.out.S.b.c1⟩ | exact ⟨HS4.out.R.r0, HS4.out.R.r1, HS4.out.R.r2, HS4.out.S.b.c0, HS4.out.S.b.c1⟩)
              ((first
                | (go_at_call 15; refine (dice_next p g aa cap n xs j2 (nn : Int) _ (by omega) h300 HS3.out.D.drew).mono ?_; rintro e w10 ⟨rfl, hD, hO⟩; have HS4 := Lib.hid ((HS3.out.mono (Below.refl _ _).drew).only hD hO); clear hD hO)
                | (go_at_call 11; refine (K11.out _ _ HS4.out.S.b.s HS4.out.Q.row).mono ?_; rintro e w11 ⟨rfl, hb⟩; have HS5 := Lib.hid (HS4.out.mono hb); clear hb)))
            clear r0 r1 r2 c0 c1' lt1 lt2
            have hS := HS5.out
            have r0 := hS.R.r0
            have r1 := hS.R.r1
            have r2 := hS.R.r2
            have c0 := hS.S.b.c0
            have c1' := hS.S.b.c1
            have f0 := hS.S.f0
            have f1' := hS.S.f1
            have lt1 := lt_of_cell r0
            have lt2 := lt_of_cell c0
            clear hS
            go_wp2_with (go_at_call 17; refine (K17.out _ HS5.out.S.b.s HS5.out.Q.row).mono ?_)
            intro e w12 h
            obtain ⟨v', rfl, s', hb, hl⟩ := h
            have S' := s'
            obtain ⟨a3, d3, c3, l3, rfl, _⟩ := s'
            have hp12 := lt_of_cell HS5.out.D.c0
            have hq12 := HS5.out.Q.lt
            have hO2 : Off [p, zS, zQ] (sv a3 d3 nn c3 nn l3) := by
              rcases hl with e | h
              · rw [e]; exact HS5.out.O
              · exact h.off fun b hb => by simp at hb; omega
            have hT12 := HS5.out.mono hb
            have HS7 := Lib.hid (hT12.setS S' hO2)
            clear r0 r1 r2 c0 c1' f0 f1' lt1 lt2
            have c0 := hT12.S.b.c0
            have c1' := hT12.S.b.c1
            have f0 := hT12.S.f0
            have f1' := hT12.S.f1
            clear hT12 hO2 hl hb S' HS5 HS4 HS3
            unfold sv
            go_wp2_with fail
            exact ⟨⟨t + 1, dnext n j2, _, _, _, _, _, _, _, by simp, by omega, dnext_le lj2, HS7.out⟩, by simp [intOf]; omega⟩
          · have hgt : ¬ (0 : Int) < (n : Int) - k := by omega
            go_wp2_with fail
            refine (dice_rest p g aa cap n xs k _ hk h300 HS.out.D).mono ?_
            rintro e w7 ⟨rfl, q, rfl⟩
            have HB := Lib.hid (below_drewN HS.out.bel q)
            go_wp2_with fail
            refine (awake8 _).mono ?_
            rintro e w8 ⟨rfl, hb⟩
            have HB2 := Lib.hid (bthen HB.out hb HB.out.size)
            clear hb
            go_wp2
            go_ret
            exact ⟨rfl, HB2.out⟩
        · have HB := Lib.hid HS.out.bel
          go_wp2_with fail
          refine (awake8 _).mono ?_
          rintro e w8 ⟨rfl, hb⟩
          have HB2 := Lib.hid (bthen HB.out hb HB.out.size)
          clear hb
          go_wp2
          go_ret
          exact ⟨rfl, HB2.out⟩
  · have hd : decide (n ≤ 300) = false := by simpa using h300
    go_enter Try.func4, Try.ntmps4
    go_wp2_with (first
      | (go_at_call 13; refine (light_any a n c _).mono ?_; rw [hd]; rintro e w' ⟨rfl, rfl⟩)
      | (go_at_call 8; refine (awake8 _).mono ?_; rintro e w' ⟨rfl, hb⟩))
    go_ret
    exact ⟨rfl, hb⟩
end Go.Proofs.Ytbhldnfldkjoiaa
