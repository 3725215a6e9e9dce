/- Layer 34: the reference's Assign. -/
import Derived.Test.YtdcogbokcbpnnaaR3
namespace Go.Proofs.Ytdcogbokcbpnnaa
set_option linter.unusedVariables false
set_option linter.unusedSimpArgs false
open Go.RowKit Go.Sort
attribute [local go_sem] gcell
def lenOf : Value → Nat
  | .slice _ m _ => m
  | _ => 0
def AsgR2 (n : Nat) (L : Nat → Dm) (R : Int) (w : World) (e : Ending) (w' : World) : Prop :=
  ∃ a c, e = .returned (.tuple #[.slice a (if chkE n L R = 0 then R.toNat else 0) c, .int .i64 (chkE n L R)]) ∧ (chkE n L R = 0 → Row w' a R.toNat (asg R.toNat L n).ow) ∧ Below w.heap.size w w'
set_option maxRecDepth 100000 in
set_option maxHeartbeats 16000000 in
theorem rassign21 (la : Option Addr) (n lc : Nat) (L : Nat → Dm) (R : Int) (w : World) (H : RD w la n L) (hn : n ≤ maxLen) :
    Calls Try.prog 21 #[.slice la n lc, .int .i64 R] w (AsgR2 n L R w) := by
  have K1 := Lib.hid (check23 la n lc L R w H hn)
  have HH := Lib.hid H
  clear H
  by_cases hE : chkE n L R = 0
  · have HE := Lib.hid hE
    obtain ⟨hR, hn4⟩ : (0 ≤ R ∧ R ≤ 12) ∧ n ≤ 4 := by
      unfold chkE at hE
      split at hE
      · cases hE
      · split at hE
        · cases hE
        · omega
    have hok : ∀ k, k < n → dOk (L k) = true := fun k hk => by
      unfold chkE at hE
      rw [if_neg (by omega), if_neg (by omega)] at hE
      cases h : anyB (badD L) n
      · have := anyB_false.1 h k hk
        unfold badD at this
        simpa using this
      · rw [h] at hE; cases hE
    have HOK := Lib.hid hok
    rw [hE] at K1
    clear hE hok
    obtain ⟨R, rfl⟩ := Int.eq_ofNat_of_zero_le hR.1
    obtain ⟨i0, hi, hz0, hz1, hz2⟩ := info_split intInfo
    go_enter Try.func21, Try.ntmps21
    go_wp2_with fail
    refine K1.out.mono ?_
    rintro e w1 ⟨rfl, hb1⟩
    have HB1 := Lib.hid hb1
    have HRD := Lib.hid (HH.out.mono hb1)
    clear hb1 K1
    go_wp2_with (refine wpList_make_full _ rfl (.tmp 23) (.tmp 23) 23 rfl w1.heap.size 3 i0 (.int .i64 0) 1 Try.underlying23 hi hz0 hz1 .i64 .i64 (n : Int) (n : Int) n rfl rfl rfl rfl ?c1 ?c2 (Nat.le_refl _) ?_)
    case c1 => first | omega | (rw [hz2]; omega)
    case c2 => unfold maxLen; omega
    intro w2 hown hgrow
    have hV := VAt.made hown
    have HX0 := Lib.hid (show RS w1 w2 w2 w1.heap.size n (.slice none 0 0) (R - (st0 R).left) (st0 R).ow (st0 R).hs from ⟨by rw [show R - (st0 R).left = 0 from Nat.sub_self R]; exact World.ownsRow_nil _ _ _ _, hV.congr fun _ _ => rfl, ⟨Nat.le_refl _, hV.lt⟩, below_of_grown hgrow, Nat.le_refl _⟩)
    clear hown hgrow hz1 hz2 hz0 hi hV
    generalize hHz : w1.heap.size = H at *
    have HHz := Lib.hid hHz
    clear hHz
    rw [← HHz.out] at HX0
    rw [HHz.out] at HX0
    go_wp2_with fail
    go_loopw [7, 9, 10, 11] (fun s7 s9 s10 s11 wr => ∃ c : Nat, s9 = .int .i64 c ∧ c ≤ 16 ∧ RS w1 w2 wr H n s7 (R - ((ordP (clOf L) n c).foldl (againF R L) (st0 R)).left) ((ordP (clOf L) n c).foldl (againF R L) (st0 R)).ow ((ordP (clOf L) n c).foldl (againF R L) (st0 R)).hs) (fun _ s9 _ _ _ => 16 - (intOf s9).toNat)
    case atStart => exact ⟨0, rfl, by omega, HX0.out⟩
    case round =>
      clear HX0
      obtain ⟨c, rfl, hc, hX⟩ := hrel
      have HX := Lib.hid hX
      clear hX
      by_cases hc16 : c < 16
      · have hc15 : (c : Int) ≤ 15 := by omega
        go_wp2_with fail
        go_loopw [7, 10, 11] (fun s7 s10 s11 wr => ∃ i : Nat, s10 = .int .i64 i ∧ i ≤ n ∧ RS w1 w2 wr H n s7 (R - ((ordP (clOf L) n c ++ grp (clOf L) c i).foldl (againF R L) (st0 R)).left) ((ordP (clOf L) n c ++ grp (clOf L) c i).foldl (againF R L) (st0 R)).ow ((ordP (clOf L) n c ++ grp (clOf L) c i).foldl (againF R L) (st0 R)).hs) (fun _ s10 _ _ => n - (intOf s10).toNat)
        case atStart => exact ⟨0, rfl, Nat.zero_le _, by rw [show grp (clOf L) c 0 = [] from rfl, List.append_nil]; exact HX.out⟩
        case round =>
          clear HX
          obtain ⟨i, rfl, hin, hX⟩ := hrel
          by_cases hi : i < n
          · have hi' : (i : Int) < (n : Int) := by omega
            have i0' : (0 : Int) ≤ (i : Int) := by omega
            obtain ⟨b, m0, h1, h2⟩ := HRD.out.mono hX.bel
            obtain rfl := h1 (by omega)
            obtain ⟨-, c1, -, -, -, -, c6⟩ := h2 i hi
            have HP0 := Lib.hid fun h => pre_zero (R := R) (n := n) (L := L) c i h
            have HPY := Lib.hid fun h => pre_yes (R := R) (n := n) (L := L) c i h
            have HPN := Lib.hid fun h => pre_no (R := R) (n := n) (L := L) c i h
            have HI := Lib.hid (foldl_inv (R := R) (n := n) (L := L) (ordP (clOf L) n c ++ grp (clOf L) c i) (st0_inv (by omega)))
            have HX := Lib.hid hX
            have HCF := Lib.hid (show clOf L i = (L i).cl from rfl)
            clear h1 h2 hX
            generalize (ordP (clOf L) n c ++ grp (clOf L) c i).foldl (againF R L) (st0 R) = S at *
            have HAF := Lib.hid (show againF R L S i = if 0 < (L i).ag ∧ (L i).ag ≤ S.left then giveS R S i (L i).ag.toNat else S from rfl)
            by_cases hcl : (L i).cl = c
            · have q1 : ((L i).cl == (c : Int)) = true := beq_iff_eq.2 hcl
              have HY := Lib.hid (HPY.out hcl)
              have HZ := Lib.hid (HP0.out hcl)
              have HAG0 := Lib.hid (show (L i).ag = (L i).ag from rfl)
              clear hcl
              by_cases hg : 0 < (L i).ag
              · obtain ⟨g, hgg⟩ := Int.eq_ofNat_of_zero_le (show 0 ≤ (L i).ag by omega)
                rw [hgg] at c1
                have hg' : 0 < g := by omega
                have HAG := Lib.hid hgg
                have q2 : decide ((0 : Int) < (g : Int)) = true := by simpa using hg'
                obtain ⟨va, vc, hv, -⟩ := HX.out.len
                have hle := HI.out.le
                have hr := HI.out.r12
                have em : (R : Int) - ((R - S.left : Nat) : Int) = (S.left : Int) := by omega
                clear hg hgg
                by_cases hgl : g ≤ S.left
                · have q3 : (g : Int) ≤ (S.left : Int) := by omega
                  have HE2 := Lib.hid (show againF R L S i = ⟨S.left - g, giveO R S.left i g S.ow, putI S.hs i (0 + g)⟩ by rw [HAF.out, if_pos (by rw [HAG.out]; omega), HAG.out, ← HZ.out]; rfl)
                  obtain ⟨lv, ow, hs⟩ := S
                  simp only at hle em hgl q3 HX HE2 hv HZ
                  obtain ⟨m, hm⟩ : ∃ m, R - lv = m := ⟨_, rfl⟩
                  have hmr : m + lv = R := by omega
                  rw [hm] at HX em hv
                  subst hv
                  clear hm hle
                  have HX0 := Lib.hid (HX.out.congr (m' := m + 0) (ow' := giveO R lv i 0 ow) (hs' := hs) rfl (fun x hx => by unfold giveO; rw [if_neg (by omega)]) fun _ _ => rfl)
                  clear HX
                  go_wp2_with fail
                  go_loopw [7, 11] (fun s7 sk wr => ∃ k : Nat, sk = .int .i64 k ∧ k ≤ g ∧ RS w1 w2 wr H n s7 (m + k) (giveO R lv i k ow) hs) (fun _ sk _ => g - (intOf sk).toNat)
                  case atStart => exact ⟨0, rfl, Nat.zero_le _, HX0.out⟩
                  case round =>
                    clear HX0
                    obtain ⟨k, rfl, hk, hX⟩ := hrel
                    by_cases hkg : k < g
                    · have hkg' : (k : Int) < (g : Int) := by omega
                      have HXc := Lib.hid (hX.congr (ow' := giveO R lv i (k + 1) ow) (hs' := hs) rfl (fun x hx => by
                        unfold giveO
                        by_cases h2 : R - lv ≤ x ∧ x < R - lv + k
                        · rw [if_pos h2, if_pos (by omega)]
                        · rw [if_neg h2, if_neg (by omega)]) fun _ _ => rfl)
                      have HU := Lib.hid (show iv (giveO R lv i (k + 1) ow) (m + k) = .int .i64 i by unfold iv giveO; rw [if_pos (by omega)])
                      obtain ⟨b', m', h1', h2'⟩ := HRD.out.mono hX.bel
                      cases h1' (by omega)
                      obtain ⟨-, c1, -, -, -, -, -⟩ := h2' i hi
                      rw [HAG.out] at c1
                      clear h1' h2'
                      clear hX
                      go_wp2_with (at_builtin; refine wpList_append1 _ wr w2.heap.size rfl (.tmp 71) (.tmp 73) 23 rfl 3 (.int .i64 0) 8 Try.underlying23 intInfo rfl (by decide) _ (m + k) (iv (giveO R lv i (k + 1) ow)) rfl _ rfl HXc.out.own (Below.refl _ _) HXc.out.sz HU.out.symm rfl (by omega) ?_; intro v' w4 hown hB4 hb4 _ _; have HX4 := Lib.hid (HXc.out.push hown hB4); clear hown hB4 hb4)
                      go_roundw
                      case rel => exact ⟨k + 1, by go_num, by omega, HX4.out⟩
                      case measure => simp [intOf]; omega
                    · obtain rfl : k = g := by omega
                      obtain ⟨b', m', h1', h2'⟩ := HRD.out.mono hX.bel
                      cases h1' (by omega)
                      obtain ⟨-, c1, -, -, -, -, -⟩ := h2' i hi
                      rw [HAG.out] at c1
                      clear h1' h2'

                      have fH := hX.has.fr i
                      have cH := hX.has.c i hi
                      unfold iv at cH
                      have HX9 := Lib.hid (hX.setH i k)
                      clear hX
                      go_wp2
                      go_roundw
                      case rel => exact ⟨i + 1, by go_num, by omega, by
                        rw [HY.out, HE2.out]
                        exact HX9.out.congr (show R - (lv - k) = m + k by omega) (fun _ _ => rfl) fun x _ => by show putI hs i (0 + (k : Int)) x = putI hs i k x; rw [Int.zero_add]⟩
                      case measure => simp [intOf]; omega
                · have q3 : ¬ (g : Int) ≤ (S.left : Int) := by omega
                  have HE2 := Lib.hid (show againF R L S i = S by rw [HAF.out, if_neg (by rw [HAG.out]; omega)])
                  have HXv := Lib.hid HX.out
                  subst hv
                  go_wp2
                  go_roundw
                  case rel => exact ⟨i + 1, by go_num, by omega, by rw [HY.out, HE2.out]; exact HXv.out⟩
                  case measure => simp [intOf]; omega
              · have q2 : decide ((0 : Int) < (L i).ag) = false := by simp; omega
                have HE2 := Lib.hid (show againF R L S i = S by rw [HAF.out, if_neg (by omega)])
                go_wp2
                go_roundw
                case rel => exact ⟨i + 1, by go_num, by omega, by rw [HY.out, HE2.out]; exact HX.out⟩
                case measure => simp [intOf]; omega
            · have q1 : ((L i).cl == (c : Int)) = false := beq_eq_false_iff_ne.2 hcl
              have HE2 := Lib.hid (HPN.out hcl)
              clear hcl
              go_wp2
              go_roundw
              case rel => exact ⟨i + 1, by go_num, by omega, by rw [HE2.out]; exact HX.out⟩
              case measure => simp [intOf]; omega
          · obtain rfl : i = n := by omega
            have HX := Lib.hid hX
            clear hX
            go_wp2
            go_roundw
            case rel => exact ⟨c + 1, by go_num, by omega, HX.out⟩
            case measure => simp [intOf]; omega
      · obtain rfl : c = 16 := by omega
        rw [show ((16 : Nat) : Int) = 16 from rfl]
        have HX1 := Lib.hid (show RS w1 w2 wr H n u7 (R - (againS R L n (st0 R)).left) (againS R L n (st0 R)).ow (againS R L n (st0 R)).hs from HX.out)
        clear HX
        have HAGS := Lib.hid (show ∀ k, k < n → 0 ≤ (L k).ag from fun k hk => (dOk_true.1 (HOK.out k hk)).2.1.1)
        have HMNS := Lib.hid (show ∀ k, k < n → 0 ≤ (L k).mn ∧ (L k).mn ≤ 67108864 from fun k hk => (dOk_true.1 (HOK.out k hk)).2.2.2.1)
        have HI1 := Lib.hid (show Inv R n (againS R L n (st0 R)) from foldl_inv _ (st0_inv (by omega)))
        have HI2' := Lib.hid (show Inv R n (owedS R L n 13 (againS R L n (st0 R))) from owedS_inv 13 HI1.out)
        go_wp2_with fail
        go_loopw [7, 12, 13, 14, 15] (fun s7 s12 s13 s14 s15 wr => ∃ S : St, RS w1 w2 wr H n s7 (R - S.left) S.ow S.hs ∧ ((s12 = .int .i64 2 ∧ S = againS R L n (st0 R)) ∨ (s12 = .int .i64 3 ∧ S = owedS R L n 13 (againS R L n (st0 R))) ∨ (s12 = .int .i64 4 ∧ S = asg R L n))) (fun _ s12 _ _ _ _ => 4 - (intOf s12).toNat)
        case atStart => exact ⟨_, HX1.out, .inl ⟨rfl, rfl⟩⟩
        case round =>
          clear HX1
          obtain ⟨S0, hX, hS⟩ := hrel
          have HX1 := Lib.hid hX
          clear hX
          rcases hS with ⟨rfl, rfl⟩ | ⟨rfl, rfl⟩ | ⟨rfl, rfl⟩
          · go_wp2_with fail
            go_loopw [7, 13, 14, 15] (fun s7 s13 s14 s15 wr => ∃ (f : Nat) (S : St), owedS R L n f S = owedS R L n 13 (againS R L n (st0 R)) ∧ S.left < f ∧ Inv R n S ∧ RS w1 w2 wr H n s7 (R - S.left) S.ow S.hs) (fun s7 _ _ _ _ => R - lenOf s7)
            case atStart => exact ⟨13, _, rfl, by have := HI1.out.le; omega, HI1.out, HX1.out⟩
            case round =>
              clear HX1
              obtain ⟨f, S, hf, hlf, hI, hX⟩ := hrel
              obtain ⟨va, vc, rfl, -⟩ := hX.len
              have K29 := Lib.hid (rowed29 la (some ⟨H, 0, none⟩) n lc n L S wr (HRD.out.mono hX.bel) hX.has.row hn4 HAGS.out HMNS.out (fun x hx => by have := hI.h x hx; have := hI.r12; omega))
              have HF := Lib.hid hf
              have HLF := Lib.hid hlf
              have HI := Lib.hid hI
              have HX := Lib.hid hX
              have hle := hI.le
              have hr := hI.r12
              have em : (R : Int) - ((R - S.left : Nat) : Int) = (S.left : Int) := by omega
              have HSP := Lib.hid (@nextO_spec L n S)
              have HEND := Lib.hid (@owedS_end R L n f S)
              have HGO := Lib.hid fun q => @owedS_go R L n q S
              clear hX hI hf hlf
              by_cases hneg : nextO L n S < 0
              · have r1 : refAt (nextO L n S) = 0 := by unfold refAt; rw [if_pos hneg]
                have r2 : refN L S (nextO L n S) = 0 := by unfold refN; rw [if_pos hneg]
                rw [r1, r2] at K29
                have HEN := Lib.hid (HEND.out hneg)
                clear r1 r2 hneg
                generalize hm : R - S.left = m at *
                have HMM := Lib.hid hm
                clear hm
                go_wp2_with fail
                refine K29.out.mono ?_
                rintro e w5 ⟨rfl, hb⟩
                have HX5 := Lib.hid (HX.out.mono hb)
                clear hb
                go_wp2
                go_roundw
                case rel => exact ⟨S, by rw [HMM.out]; exact HX5.out, .inr (.inl ⟨rfl, by rw [← HEN.out, HF.out]⟩)⟩
                case measure => decide
              · obtain ⟨i, hni⟩ := Int.eq_ofNat_of_zero_le (show 0 ≤ nextO L n S by omega)
                obtain ⟨hi, hw, -⟩ := HSP.out (by omega)
                have hit : (nextO L n S).toNat = i := by omega
                rw [hit] at hi hw
                have r1 : refAt (nextO L n S) = (i : Int) := by unfold refAt; rw [if_neg hneg]; exact hni
                have r2 : refN L S (nextO L n S) = ((wantsP (L i) (S.hs i) S.left : Nat) : Int) := by unfold refN; rw [if_neg hneg, hit]
                rw [r1, r2] at K29
                have hsi := HI.out.hs12 i hi
                have hsl := (HI.out.h i hi).2
                have hwl := wantsP_le (L i) (S.hs i) S.left
                obtain ⟨q, rfl⟩ : ∃ q, f = q + 1 := ⟨f - 1, by have := HLF.out; omega⟩
                have HGO2 := Lib.hid (show owedS R L n (q + 1) S = owedS R L n q (giveS R S i (wantsP (L i) (S.hs i) S.left)) by rw [HGO.out q hneg, hit])
                have HI2 := Lib.hid (HI.out.give (i := i) (k := wantsP (L i) (S.hs i) S.left) (by omega))
                have i0q : (0 : Int) ≤ (i : Int) := by omega
                have i1q : (i : Int) < (n : Int) := by omega
                have HLF2 := HLF.out
                clear r1 r2 hneg hni hit HSP HEND HGO HI
                obtain ⟨g, hg⟩ : ∃ g, wantsP (L i) (S.hs i) S.left = g := ⟨_, rfl⟩
                rw [hg] at HGO2 HI2 K29 hw hwl
                have hg0 : 0 < g := by omega
                have hgl : g ≤ S.left := by omega
                have q0 : ((g : Int) == 0) = false := beq_eq_false_iff_ne.2 (by omega)
                clear hg
                have HGS := Lib.hid (show giveS R S i g = ⟨S.left - g, giveO R S.left i g S.ow, putI S.hs i (S.hs i + g)⟩ from rfl)
                generalize giveS R S i g = GS at *
                obtain ⟨lv, ow, hs⟩ := S
                simp only at *
                obtain ⟨m, hm⟩ : ∃ m, R - lv = m := ⟨_, rfl⟩
                have hmr : m + lv = R := by omega
                rw [hm] at HX em
                have hm2 := hm
                simp only [hm] at *
                clear hm hm2
                have d0w := HX.out.has.c i hi
                go_wp2_with fail
                refine K29.out.mono ?_
                rintro e w5 ⟨rfl, hb⟩
                have HX5 := Lib.hid (HX.out.mono hb)
                clear hb HX K29
                have HX := Lib.hid HX5.out
                clear HX5 d0w
                have HX0 := Lib.hid (HX.out.congr (m' := m + 0) (ow' := giveO R lv i 0 ow) (hs' := hs) rfl (fun x hx => by unfold giveO; rw [if_neg (by omega)]) fun _ _ => rfl)
                clear HX
                go_wp2_with fail
                go_loopw [7, 15] (fun s7 sk wr => ∃ k : Nat, sk = .int .i64 k ∧ k ≤ g ∧ RS w1 w2 wr H n s7 (m + k) (giveO R lv i k ow) hs) (fun _ sk _ => g - (intOf sk).toNat)
                case atStart => exact ⟨0, rfl, Nat.zero_le _, HX0.out⟩
                case round =>
                  clear HX0
                  obtain ⟨k, rfl, hk, hX⟩ := hrel
                  by_cases hkg : k < g
                  · have hkg' : (k : Int) < (g : Int) := by omega
                    have HXc := Lib.hid (hX.congr (ow' := giveO R lv i (k + 1) ow) (hs' := hs) rfl (fun x hx => by
                      unfold giveO
                      by_cases h2 : R - lv ≤ x ∧ x < R - lv + k
                      · rw [if_pos h2, if_pos (by omega)]
                      · rw [if_neg h2, if_neg (by omega)]) fun _ _ => rfl)
                    have HU := Lib.hid (show iv (giveO R lv i (k + 1) ow) (m + k) = .int .i64 i by unfold iv giveO; rw [if_pos (by omega)])
                    skip
                    clear hX
                    go_wp2_with (at_builtin; refine wpList_append1 _ wr w2.heap.size rfl (.tmp 131) (.tmp 133) 23 rfl 3 (.int .i64 0) 8 Try.underlying23 intInfo rfl (by decide) _ (m + k) (iv (giveO R lv i (k + 1) ow)) rfl _ rfl HXc.out.own (Below.refl _ _) HXc.out.sz HU.out.symm rfl (by omega) ?_; intro v' w4 hown hB4 hb4 _ _; have HX4 := Lib.hid (HXc.out.push hown hB4); clear hown hB4 hb4)
                    go_roundw
                    case rel => exact ⟨k + 1, by go_num, by omega, HX4.out⟩
                    case measure => simp [intOf]; omega
                  · obtain rfl : k = g := by omega
                    skip
                    have fH := hX.has.fr i
                    have cH := hX.has.c i hi
                    unfold iv at cH
                    have HX9 := Lib.hid (hX.setH i (hs i + k))
                    obtain ⟨vb, vd, rfl, -⟩ := hX.len
                    clear hX
                    go_wp2
                    exact ⟨⟨q, GS, by rw [← HF.out, HGO2.out], by rw [HGS.out]; show lv - k < q; omega, HI2.out, by
                      rw [HGS.out]
                      exact HX9.out.congr (show R - (lv - k) = m + k by omega) (fun _ _ => rfl) fun _ _ => rfl⟩, by simp only [lenOf]; omega⟩
          · go_wp2_with fail
            go_loopw [7, 13, 14, 15] (fun s7 s13 s14 s15 wr => ∃ (f : Nat) (S : St), fairS R L n f S = fairS R L n 13 (owedS R L n 13 (againS R L n (st0 R))) ∧ S.left < f ∧ Inv R n S ∧ RS w1 w2 wr H n s7 (R - S.left) S.ow S.hs) (fun s7 _ _ _ _ => R - lenOf s7)
            case atStart => exact ⟨13, _, rfl, by have := HI2'.out.le; omega, HI2'.out, HX1.out⟩
            case round =>
              clear HX1
              obtain ⟨f, S, hf, hlf, hI, hX⟩ := hrel
              obtain ⟨va, vc, rfl, -⟩ := hX.len
              have K29 := Lib.hid (rowed29 la (some ⟨H, 0, none⟩) n lc n L S wr (HRD.out.mono hX.bel) hX.has.row hn4 HAGS.out HMNS.out (fun x hx => by have := hI.h x hx; have := hI.r12; omega))
              have K30 := Lib.hid fun (W : World) (hW : Below wr.heap.size wr W) => rfair30 la (some ⟨H, 0, none⟩) n lc n L S W ((HRD.out.mono hX.bel).mono hW) (hX.mono hW).has.row hn4 HAGS.out HMNS.out (fun x hx => by have := hI.h x hx; have := hI.r12; omega)
              have HF := Lib.hid hf
              have HLF := Lib.hid hlf
              have HI := Lib.hid hI
              have HX := Lib.hid hX
              have hle := hI.le
              have hr := hI.r12
              have em : (R : Int) - ((R - S.left : Nat) : Int) = (S.left : Int) := by omega
              have HSP := Lib.hid (@nextF_spec L n S)
              have HEND := Lib.hid (@fairS_end R L n f S)
              have HGO := Lib.hid fun q => @fairS_go R L n q S
              clear hX hI hf hlf
              generalize refAt (nextO L n S) = ra0 at *
              generalize refN L S (nextO L n S) = rn0 at *
              by_cases hneg : nextF L n S < 0
              · have r1 : refAt (nextF L n S) = 0 := by unfold refAt; rw [if_pos hneg]
                have r2 : refN L S (nextF L n S) = 0 := by unfold refN; rw [if_pos hneg]
                rw [r1, r2] at K30
                have HEN := Lib.hid (HEND.out hneg)
                clear r1 r2 hneg
                generalize hm : R - S.left = m at *
                have HMM := Lib.hid hm
                clear hm
                go_wp2_with fail
                refine K29.out.mono ?_
                rintro e w5 ⟨rfl, hb⟩
                have HX5 := Lib.hid (HX.out.mono hb)
                have HB5 := Lib.hid hb
                clear hb
                go_wp2_with fail
                refine (K30.out w5 HB5.out).mono ?_
                rintro e w6 ⟨rfl, hb⟩
                have HX6 := Lib.hid (HX5.out.mono hb)
                clear hb
                go_wp2
                go_roundw
                case rel => exact ⟨S, by rw [HMM.out]; exact HX6.out, .inr (.inr ⟨rfl, by rw [← HEN.out, HF.out]; rfl⟩)⟩
                case measure => decide
              · obtain ⟨i, hni⟩ := Int.eq_ofNat_of_zero_le (show 0 ≤ nextF L n S by omega)
                obtain ⟨hi, hw⟩ := HSP.out (by omega)
                have hit : (nextF L n S).toNat = i := by omega
                rw [hit] at hi hw
                have r1 : refAt (nextF L n S) = (i : Int) := by unfold refAt; rw [if_neg hneg]; exact hni
                have r2 : refN L S (nextF L n S) = ((wantsP (L i) (S.hs i) S.left : Nat) : Int) := by unfold refN; rw [if_neg hneg, hit]
                rw [r1, r2] at K30
                have hsi := HI.out.hs12 i hi
                have hsl := (HI.out.h i hi).2
                have hwl := wantsP_le (L i) (S.hs i) S.left
                have hcp := coverP_pos (L i) (S.hs i) S.left (by omega)
                have hcl := coverP_le (L i) (S.hs i) S.left
                have K31 := Lib.hid fun W => renough31 (L i) (S.hs i) S.left W hsi.1 (by omega) (by omega)
                unfold dv at K31
                obtain ⟨q, rfl⟩ : ∃ q, f = q + 1 := ⟨f - 1, by have := HLF.out; omega⟩
                have HGO2 := Lib.hid (show fairS R L n (q + 1) S = fairS R L n q (giveS R S i (coverP (L i) (S.hs i) S.left)) by rw [HGO.out q hneg, hit])
                have HI2 := Lib.hid (HI.out.give (i := i) (k := coverP (L i) (S.hs i) S.left) (by omega))
                have i0q : (0 : Int) ≤ (i : Int) := by omega
                have i1q : (i : Int) < (n : Int) := by omega
                have HLF2 := HLF.out
                have qw : (0 : Int) < ((wantsP (L i) (S.hs i) S.left : Nat) : Int) := by omega
                clear r1 r2 hneg hni hit HSP HEND HGO HI
                obtain ⟨g, hg⟩ : ∃ g, coverP (L i) (S.hs i) S.left = g := ⟨_, rfl⟩
                rw [hg] at HGO2 HI2 K31 hcp hcl
                have hg0 : 0 < g := by omega
                have hgl : g ≤ S.left := by omega
                have q0 : ((g : Int) == 0) = false := beq_eq_false_iff_ne.2 (by omega)
                clear hg
                have HGS := Lib.hid (show giveS R S i g = ⟨S.left - g, giveO R S.left i g S.ow, putI S.hs i (S.hs i + g)⟩ from rfl)
                generalize giveS R S i g = GS at *
                obtain ⟨lv, ow, hs⟩ := S
                simp only at *
                obtain ⟨m, hm⟩ : ∃ m, R - lv = m := ⟨_, rfl⟩
                have hmr : m + lv = R := by omega
                rw [hm] at HX em
                have hm2 := hm
                simp only [hm] at *
                clear hm hm2
                have d0w := HX.out.has.c i hi
                go_wp2_with fail
                refine K29.out.mono ?_
                rintro e w5 ⟨rfl, hb⟩
                have HX5 := Lib.hid (HX.out.mono hb)
                have HB5 := Lib.hid hb
                clear hb HX K29
                go_wp2_with fail
                refine (K30.out w5 HB5.out).mono ?_
                rintro e w6 ⟨rfl, hb⟩
                have HX6 := Lib.hid (HX5.out.mono hb)
                clear hb HX5 K30 HB5 d0w
                obtain ⟨b', m', h1', h2'⟩ := HRD.out.mono HX6.out.bel
                obtain rfl := h1' (by omega)
                obtain ⟨c0, c1, c2, c3, c4, c5, c6⟩ := h2' i hi
                have d0 := HX6.out.has.c i hi
                unfold iv at d0
                have lb := lt_of_cell c0
                have lh := lt_of_cell d0
                clear h1' h2'
                go_wp2_with fail
                refine wp_region_quiet_below (by kernel_rfl) (by kernel_rfl) ?_
                repeat (go_big_quiet_step (first | (go_at_call 31; exact Calls.regrown_of (K31.out _))))
                refine wpQuiet_nil ?_
                intro w7 hw7
                have HX := Lib.hid (HX6.out.mono (below_of_regrown hw7))
                clear hw7 HX6 K31 c0 c1 c2 c3 c4 c5 c6 d0 lb lh
                have HX0 := Lib.hid (HX.out.congr (m' := m + 0) (ow' := giveO R lv i 0 ow) (hs' := hs) rfl (fun x hx => by unfold giveO; rw [if_neg (by omega)]) fun _ _ => rfl)
                clear HX
                go_wp2_with fail
                go_loopw [7, 15] (fun s7 sk wr => ∃ k : Nat, sk = .int .i64 k ∧ k ≤ g ∧ RS w1 w2 wr H n s7 (m + k) (giveO R lv i k ow) hs) (fun _ sk _ => g - (intOf sk).toNat)
                case atStart => exact ⟨0, rfl, Nat.zero_le _, HX0.out⟩
                case round =>
                  clear HX0
                  obtain ⟨k, rfl, hk, hX⟩ := hrel
                  by_cases hkg : k < g
                  · have hkg' : (k : Int) < (g : Int) := by omega
                    have HXc := Lib.hid (hX.congr (ow' := giveO R lv i (k + 1) ow) (hs' := hs) rfl (fun x hx => by
                      unfold giveO
                      by_cases h2 : R - lv ≤ x ∧ x < R - lv + k
                      · rw [if_pos h2, if_pos (by omega)]
                      · rw [if_neg h2, if_neg (by omega)]) fun _ _ => rfl)
                    have HU := Lib.hid (show iv (giveO R lv i (k + 1) ow) (m + k) = .int .i64 i by unfold iv giveO; rw [if_pos (by omega)])
                    skip
                    clear hX
                    go_wp2_with (at_builtin; refine wpList_append1 _ wr w2.heap.size rfl (.tmp 131) (.tmp 133) 23 rfl 3 (.int .i64 0) 8 Try.underlying23 intInfo rfl (by decide) _ (m + k) (iv (giveO R lv i (k + 1) ow)) rfl _ rfl HXc.out.own (Below.refl _ _) HXc.out.sz HU.out.symm rfl (by omega) ?_; intro v' w4 hown hB4 hb4 _ _; have HX4 := Lib.hid (HXc.out.push hown hB4); clear hown hB4 hb4)
                    go_roundw
                    case rel => exact ⟨k + 1, by go_num, by omega, HX4.out⟩
                    case measure => simp [intOf]; omega
                  · obtain rfl : k = g := by omega
                    skip
                    have fH := hX.has.fr i
                    have cH := hX.has.c i hi
                    unfold iv at cH
                    have HX9 := Lib.hid (hX.setH i (hs i + k))
                    obtain ⟨vb, vd, rfl, -⟩ := hX.len
                    clear hX
                    go_wp2
                    exact ⟨⟨q, GS, by rw [← HF.out, HGO2.out], by rw [HGS.out]; show lv - k < q; omega, HI2.out, by
                      rw [HGS.out]
                      exact HX9.out.congr (show R - (lv - k) = m + k by omega) (fun _ _ => rfl) fun _ _ => rfl⟩, by simp only [lenOf]; omega⟩
          · have I9 := asg_inv2 (R := R) (L := L) (n := n) (by omega) fun k hk => (dOk_true.1 (HOK.out k hk)).2.2.2.2.2.2
            have HI9 := Lib.hid I9
            clear I9
            go_wp2_with fail
            go_loopw [7] (fun s7 wr => ∃ m : Nat, R - (asg R L n).left ≤ m ∧ m ≤ R ∧ RS w1 w2 wr H n s7 m (asg R L n).ow (asg R L n).hs) (fun s7 _ => R - lenOf s7)
            case atStart => exact ⟨_, Nat.le_refl _, by omega, HX1.out⟩
            case round =>
              clear HX1
              obtain ⟨m, hm1, hm2, hX⟩ := hrel
              obtain ⟨va, vc, rfl, hrow⟩ := hX.len
              have HRW := Lib.hid hrow
              have HX := Lib.hid hX
              clear hX hrow
              by_cases hmR : m < R
              · have hmR' : (m : Int) < (R : Int) := by omega
                have HU := Lib.hid (show iv (asg R L n).ow m = .int .i64 (-1) from congrArg (Value.int .i64) (HI9.out.neg m hm1 hmR))
                go_wp2_with (at_builtin; refine wpList_append1 _ wr w2.heap.size rfl (.tmp 148) (.tmp 149) 23 rfl 3 (.int .i64 0) 8 Try.underlying23 intInfo rfl (by decide) _ m (iv (asg R L n).ow) rfl _ rfl HX.out.own (Below.refl _ _) HX.out.sz HU.out.symm rfl (by omega) ?_; intro v' w4 hown hB4 hb4 _ _; have HX4 := Lib.hid (HX.out.push hown hB4); clear hown hB4 hb4)
                obtain ⟨vb, vd, hv', -⟩ := HX4.out.len
                subst hv'
                go_roundw
                case rel => exact ⟨m + 1, by omega, by omega, HX4.out⟩
                case measure => simp [lenOf]; omega
              · obtain rfl : m = R := by omega
                go_wp2
                go_ret2
                exact ⟨va, vc, by rw [HE.out]; rfl, fun _ => HRW.out, bthen' HB1.out (by rw [HHz.out]; exact (show Below H w1 wr from by rw [← HHz.out]; exact HX.out.bel))⟩
  · have HE := Lib.hid hE
    generalize hCE : chkE n L R = CE at *
    have q1 : (CE != 0) = true := by simp [hE]
    have HCE := Lib.hid hCE
    clear hE hCE
    go_enter Try.func21, Try.ntmps21
    go_wp2_with fail
    refine K1.out.mono ?_
    rintro e w1 ⟨rfl, hb1⟩
    have HB1 := Lib.hid hb1
    clear hb1 K1
    go_wp2
    go_ret2
    exact ⟨none, 0, by rw [HCE.out, if_neg HE.out]; rfl, fun h => absurd (HCE.out.symm.trans h) HE.out, HB1.out⟩
end Go.Proofs.Ytdcogbokcbpnnaa
