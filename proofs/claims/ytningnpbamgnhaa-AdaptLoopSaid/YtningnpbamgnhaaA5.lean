/- Layer 30: the walk of AdaptLoop. -/
import Derived.Test.YtningnpbamgnhaaA3
namespace Go.Proofs.Ytningnpbamgnhaa
open Go.RowKit Go.Sort
attribute [local go_sem] gcell
set_option linter.unusedVariables false

/-- The offset behind so many successes and failures. -/
def offs (U D G L : Nat) : Int := (1 + (U : Int)) * (1 + D - G) - (1 + (D : Int)) * (1 + U - L)
theorem offs_bd (U D G L : Nat) (hU : U < 6) (hD : D < 6) (hG : G ≤ 1 + D) (hL : L ≤ 1 + U) : -36 ≤ offs U D G L ∧ offs U D G L ≤ 36 := by
  have a1 : 0 ≤ (1 + (U : Int)) * (1 + D - G) := Int.mul_nonneg (by omega) (by omega)
  have a2 : (1 + (U : Int)) * (1 + D - G) ≤ 6 * 6 := Int.mul_le_mul (by omega) (by omega) (by omega) (by omega)
  have a3 : 0 ≤ (1 + (D : Int)) * (1 + U - L) := Int.mul_nonneg (by omega) (by omega)
  have a4 : (1 + (D : Int)) * (1 + U - L) ≤ 6 * 6 := Int.mul_le_mul (by omega) (by omega) (by omega) (by omega)
  unfold offs; omega
theorem offs_good (U D G L : Nat) : offs U D G L = offs U D (G + 1) L + (1 + (U : Int)) := by
  unfold offs
  have : (1 + (U : Int)) * (1 + D - G) = (1 + (U : Int)) * (1 + D - (G + 1 : Nat)) + (1 + U) * 1 := by rw [← Int.mul_add]; congr 1; omega
  omega
theorem offs_lost (U D G L : Nat) : offs U D G L = offs U D G (L + 1) - (1 + (D : Int)) := by
  unfold offs
  have : (1 + (D : Int)) * (1 + U - L) = (1 + (D : Int)) * (1 + U - (L + 1 : Nat)) + (1 + D) * 1 := by rw [← Int.mul_add]; congr 1; omega
  omega
theorem offs_start (U D : Nat) : offs U D (1 + D) (1 + U) = 0 := by
  unfold offs
  have a : 1 + (D : Int) - (1 + D : Nat) = 0 := by omega
  have b : 1 + (U : Int) - (1 + U : Nat) = 0 := by omega
  rw [a, b]; simp
theorem offs_end (U D : Nat) : offs U D 0 0 = 0 := by
  unfold offs
  have a : 1 + (D : Int) - ((0 : Nat) : Int) = 1 + D := by omega
  have b : 1 + (U : Int) - ((0 : Nat) : Int) = 1 + U := by omega
  rw [a, b, Int.mul_comm]; omega
theorem learn_good (s u d : Int) (h : -36 ≤ s ∧ s ≤ 36) (hu : 0 ≤ u ∧ u ≤ 6) : learnO s u d true = s + u := by
  show clampO (clampO s + stepO u) = _
  unfold clampO stepO; rw [if_neg (by omega)]; omega
theorem learn_lost (s u d : Int) (h : -36 ≤ s ∧ s ≤ 36) (hd : 0 ≤ d ∧ d ≤ 6) : learnO s u d false = s - d := by
  show clampO (clampO s - stepO d) = _
  unfold clampO stepO; rw [if_neg (by omega)]; omega
theorem eff_bd (o : Int) : 1 ≤ effective o 7 ∧ effective o 7 ≤ 15 := by unfold effective; rw [if_neg (by omega)]; omega

structure LW (w wr : World) (b : Nat) (s u d : Int) : Prop where
  c0 : wr.cell? ⟨b, 0, none⟩ = some (.int .i64 s)
  c1 : wr.cell? ⟨b, 1, none⟩ = some (.int .i64 u)
  c2 : wr.cell? ⟨b, 2, none⟩ = some (.int .i64 d)
  f : ∀ o, wr.frozen? ⟨b, o, none⟩ = false
  bb : Below w.heap.size w wr
  bl : w.heap.size ≤ b
theorem LW.mono {w wr w1 : World} {b : Nat} {s u d : Int} (T : LW w wr b s u d) (hb : Below wr.heap.size wr w1) : LW w w1 b s u d :=
  ⟨up hb T.c0, up hb T.c1, up hb T.c2, fun o => upf hb (lt_of_cell T.c0) (T.f o), bthen T.bb hb T.bb.size, T.bl⟩
theorem LW.set {w wr : World} {b : Nat} {s u d s' : Int} (T : LW w wr b s u d) : LW w (((wr.setCell ⟨b, 0, none⟩ (.int .i64 s')).setCell ⟨b, 1, none⟩ (.int .i64 u)).setCell ⟨b, 2, none⟩ (.int .i64 d)) b s' u d := by
  have h0 := T.c0
  have h1 := T.c1
  have h2 := T.c2
  refine ⟨?_, ?_, ?_, fun o => ?_, ((T.bb.setCell T.bl _).setCell T.bl _).setCell T.bl _, T.bl⟩
  all_goals simp [cell_set, h0, h1, h2, T.f]

/-- A slice of truth values as it lies in memory. -/
def BRow (w : World) (a : Option Addr) (n : Nat) (xs : Nat → Bool) : Prop := ∃ b m, (0 < n → a = some ⟨b, m, none⟩) ∧ ∀ k, k < n → w.cell? ⟨b, m + k, none⟩ = some (.bool (xs k))

set_option maxRecDepth 100000 in
set_option maxHeartbeats 4000000 in
theorem loop6 (a b : Int) (ao : Option Addr) (n c : Nat) (xs : Nat → Bool) (w : World) (a0 : 0 ≤ a ∧ a ≤ 255) (b0 : 0 ≤ b ∧ b ≤ 255) (hn : n ≤ 140737488351232) (R : BRow w ao n xs) :
    Calls Try.prog 6 #[.int .u8 a, .int .u8 b, .slice ao n c] w fun e w' => e = .returned (.bool true) ∧ Below w.heap.size w w' := by
  obtain ⟨U, hU⟩ : ∃ q : Nat, a % 6 = q := ⟨(a % 6).toNat, by omega⟩
  obtain ⟨D, hD⟩ : ∃ q : Nat, b % 6 = q := ⟨(b % 6).toNat, by omega⟩
  have hU6 : U < 6 := by omega
  have hD6 : D < 6 := by omega
  obtain ⟨bo, mo, hao, hxs⟩ := R
  have HX := Lib.hid hxs
  have HA := Lib.hid hao
  clear hxs hao
  go_enter Try.func6, Try.ntmps6
  go_wp2
  clear hU hD a0 b0
  have hW : LW w (w.alloc (.cells #[.int .i64 0, .int .i64 (1 + U), .int .i64 (1 + D)] 28)) w.heap.size (offs U D (1 + D) (1 + U)) (1 + U) (1 + D) := by
    rw [offs_start]
    exact ⟨by simp [go_sem], by simp [go_sem], by simp [go_sem], fun o => by simp [go_sem], (Below.refl _ _).alloc (Nat.le_refl _) _, Nat.le_refl _⟩
  have HW := Lib.hid hW
  clear hW
  go_loopw [10, 11, 12] (fun g l i wr => ∃ G L I : Nat, g = .int .i64 G ∧ l = .int .i64 L ∧ i = .int .i64 I ∧ G ≤ 1 + D ∧ L ≤ 1 + U ∧ I ≤ 12 ∧ G + L + I = 2 + U + D ∧ LW w wr w.heap.size (offs U D G L) (1 + U) (1 + D)) (fun g l _ _ => (intOf g).toNat + (intOf l).toNat)
  case atStart => exact ⟨1 + D, 1 + U, 0, by go_num, by go_num, rfl, by omega, by omega, by omega, by omega, HW.out⟩
  case round =>
    clear HW
    obtain ⟨G, L, I, rfl, rfl, rfl, hG, hL, hI, hsum, hW⟩ := hrel
    have HW := Lib.hid hW
    clear hW
    by_cases hlt : 0 < G + L
    · have hIx : (n ≤ I) ∨ (I < n ∧ xs I = false) ∨ (I < n ∧ xs I = true) := by
        rcases Nat.lt_or_ge I n with h | h
        · cases hx : xs I
          · exact .inr (.inl ⟨h, rfl⟩)
          · exact .inr (.inr ⟨h, rfl⟩)
        · exact .inl h
      -- is this one a success?
      have hcase : (∃ G', G = G' + 1 ∧ (L = 0 ∨ (I < n ∧ xs I = true))) ∨ (∃ L', L = L' + 1 ∧ (G = 0 ∨ (0 < G ∧ (n ≤ I ∨ (I < n ∧ xs I = false))))) := by
        rcases Nat.eq_zero_or_pos G with h | h
        · exact .inr ⟨L - 1, by omega, .inl h⟩
        · rcases Nat.eq_zero_or_pos L with h2 | h2
          · exact .inl ⟨G - 1, by omega, .inl h2⟩
          · rcases hIx with h3 | h3 | h3
            · exact .inr ⟨L - 1, by omega, .inr ⟨h, .inl h3⟩⟩
            · exact .inr ⟨L - 1, by omega, .inr ⟨h, .inr h3⟩⟩
            · exact .inl ⟨G - 1, by omega, .inr h3⟩
      have hs := offs_bd U D G L hU6 hD6 hG hL
      have c0 := HW.out.c0
      have c1 := HW.out.c1
      have c2 := HW.out.c2
      have f0 := HW.out.f
      have lt0 := lt_of_cell c0
      rcases hcase with ⟨G', rfl, hwhy⟩ | ⟨L', rfl, hwhy⟩
      · have he := learn_good (offs U D (G' + 1) L) (1 + U) (1 + D) hs (by omega)
        rw [← offs_good] at he
        have hs2 := offs_bd U D G' L hU6 hD6 (by omega) hL
        have HE := Lib.hid he
        have hb2 := eff_bd (offs U D G' L)
        clear he
        generalize hz : offs U D G' L = s' at *
        generalize hz2 : offs U D (G' + 1) L = s at *
        have HZ := Lib.hid hz
        clear hz hz2
        have hIx2 : (n ≤ I ∧ L = 0) ∨ (I < n ∧ xs I = false ∧ L = 0) ∨ (I < n ∧ xs I = true) := by
          rcases hIx with h | h | h
          · rcases hwhy with h2 | h2
            · exact .inl ⟨h, h2⟩
            · omega
          · rcases hwhy with h2 | h2
            · exact .inr (.inl ⟨h.1, h.2, h2⟩)
            · rw [h.2] at h2; cases h2.2
          · exact .inr (.inr h)
        have gz : (((G' : Int) + 1) == 0) = false := beq_eq_false_iff_ne.2 (by omega)
        clear hwhy hIx
        rcases hIx2 with ⟨x1, x2⟩ | ⟨x1, x3, x2⟩ | ⟨x1, x3⟩
        · subst x2
          go_wp2_with fail
          refine (learn16 _ _ _ _ _).mono ?_
          rw [HE.out]
          rintro e w1 ⟨rfl, hb1⟩
          have HL1 := Lib.hid (HW.out.mono hb1)
          have d0 := HL1.out.c0
          have d1 := HL1.out.c1
          have d2 := HL1.out.c2
          have df := HL1.out.f
          clear c0 c1 c2 f0 hb1
          go_wp2_with fail
          have HL2 := Lib.hid (HL1.out.set (s' := s'))
          refine (effective14 _ _ _ _ _).mono ?_
          rintro e w2 ⟨rfl, hb2⟩
          have HL3 := Lib.hid (HL2.out.mono hb2)
          have e0 := HL3.out.c0
          clear d0 d1 d2 df hb2
          go_wp2
          go_roundw
          case rel => exact ⟨G', 0, I + 1, by go_num, by go_num, by go_num, by omega, by omega, by omega, by omega, by rw [HZ.out]; exact HL3.out⟩
          case measure => simp [intOf] <;> omega
        · subst x2
          obtain rfl := HA.out (by omega)
          have hx := HX.out I x1
          rw [x3] at hx
          have cx : wr.cell? ⟨bo, mo + I, none⟩ = some (.bool false) := up HW.out.bb hx
          have i1 : (0 : Int) ≤ (I : Int) := by omega
          have i2 : (I : Int) < (n : Int) := by omega
          clear hx x3
          go_wp2_with fail
          refine (learn16 _ _ _ _ _).mono ?_
          rw [HE.out]
          rintro e w1 ⟨rfl, hb1⟩
          have HL1 := Lib.hid (HW.out.mono hb1)
          have d0 := HL1.out.c0
          have d1 := HL1.out.c1
          have d2 := HL1.out.c2
          have df := HL1.out.f
          clear c0 c1 c2 f0 hb1
          go_wp2_with fail
          have HL2 := Lib.hid (HL1.out.set (s' := s'))
          refine (effective14 _ _ _ _ _).mono ?_
          rintro e w2 ⟨rfl, hb2⟩
          have HL3 := Lib.hid (HL2.out.mono hb2)
          have e0 := HL3.out.c0
          clear d0 d1 d2 df hb2
          go_wp2
          go_roundw
          case rel => exact ⟨G', 0, I + 1, by go_num, by go_num, by go_num, by omega, by omega, by omega, by omega, by rw [HZ.out]; exact HL3.out⟩
          case measure => simp [intOf] <;> omega
        · skip
          obtain rfl := HA.out (by omega)
          have hx := HX.out I x1
          rw [x3] at hx
          have cx : wr.cell? ⟨bo, mo + I, none⟩ = some (.bool true) := up HW.out.bb hx
          have i1 : (0 : Int) ≤ (I : Int) := by omega
          have i2 : (I : Int) < (n : Int) := by omega
          clear hx x3
          go_wp2_with fail
          refine (learn16 _ _ _ _ _).mono ?_
          rw [HE.out]
          rintro e w1 ⟨rfl, hb1⟩
          have HL1 := Lib.hid (HW.out.mono hb1)
          have d0 := HL1.out.c0
          have d1 := HL1.out.c1
          have d2 := HL1.out.c2
          have df := HL1.out.f
          clear c0 c1 c2 f0 hb1
          go_wp2_with fail
          have HL2 := Lib.hid (HL1.out.set (s' := s'))
          refine (effective14 _ _ _ _ _).mono ?_
          rintro e w2 ⟨rfl, hb2⟩
          have HL3 := Lib.hid (HL2.out.mono hb2)
          have e0 := HL3.out.c0
          clear d0 d1 d2 df hb2
          go_wp2
          go_roundw
          case rel => exact ⟨G', L, I + 1, by go_num, by go_num, by go_num, by omega, by omega, by omega, by omega, by rw [HZ.out]; exact HL3.out⟩
          case measure => simp [intOf] <;> omega
      · have he := learn_lost (offs U D G (L' + 1)) (1 + U) (1 + D) hs (by omega)
        rw [← offs_lost] at he
        have hs2 := offs_bd U D G L' hU6 hD6 hG (by omega)
        have HE := Lib.hid he
        have hb2 := eff_bd (offs U D G L')
        clear he
        generalize hz : offs U D G L' = s' at *
        generalize hz2 : offs U D G (L' + 1) = s at *
        have HZ := Lib.hid hz
        clear hz hz2
        have hIx2 : (n ≤ I) ∨ (I < n ∧ xs I = false) ∨ (I < n ∧ xs I = true ∧ G = 0) := by
          rcases hIx with h | h | h
          · exact .inl h
          · exact .inr (.inl h)
          · rcases hwhy with h2 | ⟨_, h2 | h2⟩
            · exact .inr (.inr ⟨h.1, h.2, h2⟩)
            · omega
            · rw [h.2] at h2; cases h2.2
        clear hwhy hIx
        rcases hIx2 with x1 | ⟨x1, x3⟩ | ⟨x1, x3, x2⟩
        · by_cases g0 : G = 0
          · subst g0
            go_wp2_with fail
            refine (learn16 _ _ _ _ _).mono ?_
            rw [HE.out]
            rintro e w1 ⟨rfl, hb1⟩
            have HL1 := Lib.hid (HW.out.mono hb1)
            have d0 := HL1.out.c0
            have d1 := HL1.out.c1
            have d2 := HL1.out.c2
            have df := HL1.out.f
            clear c0 c1 c2 f0 hb1
            go_wp2_with fail
            have HL2 := Lib.hid (HL1.out.set (s' := s'))
            refine (effective14 _ _ _ _ _).mono ?_
            rintro e w2 ⟨rfl, hb2⟩
            have HL3 := Lib.hid (HL2.out.mono hb2)
            have e0 := HL3.out.c0
            clear d0 d1 d2 df hb2
            go_wp2
            go_roundw
            case rel => exact ⟨0, L', I + 1, by go_num, by go_num, by go_num, by omega, by omega, by omega, by omega, by rw [HZ.out]; exact HL3.out⟩
            case measure => simp [intOf] <;> omega
          · have gz : ((G : Int) == 0) = false := beq_eq_false_iff_ne.2 (by omega)
            go_wp2_with fail
            refine (learn16 _ _ _ _ _).mono ?_
            rw [HE.out]
            rintro e w1 ⟨rfl, hb1⟩
            have HL1 := Lib.hid (HW.out.mono hb1)
            have d0 := HL1.out.c0
            have d1 := HL1.out.c1
            have d2 := HL1.out.c2
            have df := HL1.out.f
            clear c0 c1 c2 f0 hb1
            go_wp2_with fail
            have HL2 := Lib.hid (HL1.out.set (s' := s'))
            refine (effective14 _ _ _ _ _).mono ?_
            rintro e w2 ⟨rfl, hb2⟩
            have HL3 := Lib.hid (HL2.out.mono hb2)
            have e0 := HL3.out.c0
            clear d0 d1 d2 df hb2
            go_wp2
            go_roundw
            case rel => exact ⟨G, L', I + 1, by go_num, by go_num, by go_num, by omega, by omega, by omega, by omega, by rw [HZ.out]; exact HL3.out⟩
            case measure => simp [intOf] <;> omega
        · skip
          obtain rfl := HA.out (by omega)
          have hx := HX.out I x1
          rw [x3] at hx
          have cx : wr.cell? ⟨bo, mo + I, none⟩ = some (.bool false) := up HW.out.bb hx
          have i1 : (0 : Int) ≤ (I : Int) := by omega
          have i2 : (I : Int) < (n : Int) := by omega
          clear hx x3
          by_cases g0 : G = 0
          · subst g0
            go_wp2_with fail
            refine (learn16 _ _ _ _ _).mono ?_
            rw [HE.out]
            rintro e w1 ⟨rfl, hb1⟩
            have HL1 := Lib.hid (HW.out.mono hb1)
            have d0 := HL1.out.c0
            have d1 := HL1.out.c1
            have d2 := HL1.out.c2
            have df := HL1.out.f
            clear c0 c1 c2 f0 hb1
            go_wp2_with fail
            have HL2 := Lib.hid (HL1.out.set (s' := s'))
            refine (effective14 _ _ _ _ _).mono ?_
            rintro e w2 ⟨rfl, hb2⟩
            have HL3 := Lib.hid (HL2.out.mono hb2)
            have e0 := HL3.out.c0
            clear d0 d1 d2 df hb2
            go_wp2
            go_roundw
            case rel => exact ⟨0, L', I + 1, by go_num, by go_num, by go_num, by omega, by omega, by omega, by omega, by rw [HZ.out]; exact HL3.out⟩
            case measure => simp [intOf] <;> omega
          · have gz : ((G : Int) == 0) = false := beq_eq_false_iff_ne.2 (by omega)
            go_wp2_with fail
            refine (learn16 _ _ _ _ _).mono ?_
            rw [HE.out]
            rintro e w1 ⟨rfl, hb1⟩
            have HL1 := Lib.hid (HW.out.mono hb1)
            have d0 := HL1.out.c0
            have d1 := HL1.out.c1
            have d2 := HL1.out.c2
            have df := HL1.out.f
            clear c0 c1 c2 f0 hb1
            go_wp2_with fail
            have HL2 := Lib.hid (HL1.out.set (s' := s'))
            refine (effective14 _ _ _ _ _).mono ?_
            rintro e w2 ⟨rfl, hb2⟩
            have HL3 := Lib.hid (HL2.out.mono hb2)
            have e0 := HL3.out.c0
            clear d0 d1 d2 df hb2
            go_wp2
            go_roundw
            case rel => exact ⟨G, L', I + 1, by go_num, by go_num, by go_num, by omega, by omega, by omega, by omega, by rw [HZ.out]; exact HL3.out⟩
            case measure => simp [intOf] <;> omega
        · subst x2
          obtain rfl := HA.out (by omega)
          have hx := HX.out I x1
          rw [x3] at hx
          have cx : wr.cell? ⟨bo, mo + I, none⟩ = some (.bool true) := up HW.out.bb hx
          have i1 : (0 : Int) ≤ (I : Int) := by omega
          have i2 : (I : Int) < (n : Int) := by omega
          clear hx x3
          go_wp2_with fail
          refine (learn16 _ _ _ _ _).mono ?_
          rw [HE.out]
          rintro e w1 ⟨rfl, hb1⟩
          have HL1 := Lib.hid (HW.out.mono hb1)
          have d0 := HL1.out.c0
          have d1 := HL1.out.c1
          have d2 := HL1.out.c2
          have df := HL1.out.f
          clear c0 c1 c2 f0 hb1
          go_wp2_with fail
          have HL2 := Lib.hid (HL1.out.set (s' := s'))
          refine (effective14 _ _ _ _ _).mono ?_
          rintro e w2 ⟨rfl, hb2⟩
          have HL3 := Lib.hid (HL2.out.mono hb2)
          have e0 := HL3.out.c0
          clear d0 d1 d2 df hb2
          go_wp2
          go_roundw
          case rel => exact ⟨0, L', I + 1, by go_num, by go_num, by go_num, by omega, by omega, by omega, by omega, by rw [HZ.out]; exact HL3.out⟩
          case measure => simp [intOf] <;> omega
    · have g0 : G = 0 := by omega
      have l0 : L = 0 := by omega
      subst g0 l0
      have c0 := HW.out.c0
      rw [offs_end] at c0
      go_wp2_with (go_at_call 10; refine (awake10 _).mono ?_; rintro e w' ⟨rfl, hb⟩)
      go_ret
      exact ⟨rfl, bthen HW.out.bb hb HW.out.bb.size⟩
end Go.Proofs.Ytningnpbamgnhaa
