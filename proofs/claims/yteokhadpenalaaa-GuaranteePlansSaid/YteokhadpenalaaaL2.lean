/- Layer 33: whether all functions agree; the walk of GuaranteeRaw. -/
import Derived.Test.YteokhadpenalaaaG11
namespace Go.Proofs.Yteokhadpenalaaa
set_option linter.unusedVariables false
set_option linter.unusedSimpArgs false
open Go.RowKit Go.Sort
attribute [local go_sem] gcell beq_self_eq_true

set_option maxHeartbeats 1000000 in
theorem same33 (a d : Option Addr) (n c l : Nat) (xs : Nat → Int) (w : World) (R : Row w a n xs) (S : Row w d n xs) (hn : n ≤ maxLen) :
    Calls Try.prog 33 #[.slice a n c, .slice d n l] w fun e w' => e = .returned (.bool true) ∧ Below w.heap.size w w' := by
  have HR := Lib.hid R
  have HS := Lib.hid S
  clear R S
  unfold maxLen at hn
  have q1 : ((n : Int) == (n : Int)) = true := beq_self_eq_true _
  have q2 : ((n : Int) != (n : Int)) = false := by simp
  go_enter Try.func33, Try.ntmps33
  go_wp2
  go_loopw [5] (fun s5 wr => ∃ k : Nat, s5 = .int .i64 k ∧ k ≤ n ∧ Below w.heap.size w wr) (fun s5 _ => n - (intOf s5).toNat)
  case atStart => exact ⟨0, rfl, Nat.zero_le _, Below.refl _ _⟩
  case round =>
    obtain ⟨k, rfl, hk, hB⟩ := hrel
    have HB := Lib.hid hB
    clear q1 q2
    by_cases hlt : k < n
    · obtain ⟨b, o, g1, g2⟩ := HR.out.mono hB
      obtain rfl := g1 (by omega)
      obtain ⟨b', o', g3, g4⟩ := HS.out.mono hB
      obtain rfl := g3 (by omega)
      have x0 := g2 k hlt
      have y0 := g4 k hlt
      have i1 : (0 : Int) ≤ (k : Int) := by omega
      have i2 : (k : Int) < (n : Int) := by omega
      have q3 : (xs k != xs k) = false := by simp
      have q4 : (xs k == xs k) = true := beq_self_eq_true _
      clear g1 g2 g3 g4 hB
      go_wp2_with fail
      go_quiet (fail)
      go_wp2_with fail
      exact ⟨⟨k + 1, by go_num, by omega, below_drewN HB.out _⟩, by simp [intOf]; omega⟩
    · have : k = n := by omega
      subst this
      go_wp2
      go_ret
      exact ⟨rfl, HB.out⟩
set_option maxHeartbeats 2000000 in
theorem samePlan23 (v v' : Value) (h : Nat) (L : Nat → List Nat) (w : World) (R : Rows2 w v h L) (S : Rows2 w v' h L) (hh : h ≤ 1000) (hL : ∀ t, t < h → (L t).length ≤ 1000) :
    Calls Try.prog 23 #[v, v'] w fun e w' => e = .returned (.bool true) ∧ Below w.heap.size w w' := by
  obtain ⟨a, c, b, o, A, C, rfl, h1, h2⟩ := R
  obtain ⟨a', c', b', o', A', C', rfl, h3, h4⟩ := S
  have H2 := Lib.hid h2
  have H4 := Lib.hid h4
  have H1 := Lib.hid h1
  have H3 := Lib.hid h3
  have HL := Lib.hid hL
  clear h1 h2 h3 h4 hL
  have q2 : ((h : Int) != (h : Int)) = false := by simp
  go_enter Try.func23, Try.ntmps23
  go_wp2
  go_loopw [5] (fun s5 wr => ∃ k : Nat, s5 = .int .i64 k ∧ k ≤ h ∧ Below w.heap.size w wr) (fun s5 _ => h - (intOf s5).toNat)
  case atStart => exact ⟨0, rfl, Nat.zero_le _, Below.refl _ _⟩
  case round =>
    obtain ⟨k, rfl, hk, hB⟩ := hrel
    have HB := Lib.hid hB
    clear q2
    by_cases hlt : k < h
    · obtain rfl := H1.out (by omega)
      obtain rfl := H3.out (by omega)
      have x0 := up hB (H2.out k hlt).1
      have y0 := up hB (H4.out k hlt).1
      have i1 : (0 : Int) ≤ (k : Int) := by omega
      have i2 : (k : Int) < (h : Int) := by omega
      have lt1 := lt_of_cell x0
      have lt2 := lt_of_cell y0
      have K := Lib.hid fun dd os => same33 (A k) (A' k) (L k).length (C k) (C' k) (nums (L k)) (grow (redrawn wr dd) os) (((H2.out k hlt).2.mono hB).mono (below_regrown _ _ _)) (((H4.out k hlt).2.mono hB).mono (below_regrown _ _ _)) (by have := HL.out k hlt; unfold maxLen; omega)
      clear hB
      go_wp2_with fail
      refine wp_region_quiet_below (by kernel_rfl) (by kernel_rfl) ?_
      repeat (go_big_quiet_step ((go_at_call 33; exact Calls.regrown_of (K.out _ _))))
      refine wpQuiet_nil ?_
      intro w5 hw5
      have HB5 := Lib.hid (bthen HB.out (below_of_regrown hw5) HB.out.size)
      clear hw5
      go_wp2_with fail
      exact ⟨⟨k + 1, by go_num, by omega, HB5.out⟩, by simp [intOf]; omega⟩
    · have : k = h := by omega
      subst this
      go_wp2
      go_ret
      exact ⟨rfl, HB.out⟩

set_option maxRecDepth 100000 in
set_option maxHeartbeats 8000000 in
theorem agree9 (a ag : Option Addr) (n c m cg : Nat) (F W B g : Nat → Int) (x y t r h : Int) (w : World) (R : R3 w a n F W B) (G : Row w ag m g) (hn : n ≤ 1000) (hm : m ≤ 1000) :
    Calls Try.prog 9 #[.slice a n c, .slice ag m cg, .int .i64 x, .int .i64 y, .int .i64 t, .int .i64 r, .int .i64 h] w fun e w' => e = .returned (.bool true) ∧ Below w.heap.size w w' := by
  have hnl : n ≤ maxLen := by unfold maxLen; omega
  have hml : m ≤ maxLen := by unfold maxLen; omega
  have HR := Lib.hid R
  have HG := Lib.hid G
  clear R G
  obtain ⟨KP, hKP⟩ : ∃ KP, (plB n F W B r h && keptB n F W B r.toNat h.toNat) = KP := ⟨_, rfl⟩
  obtain ⟨H, hH⟩ : ∃ H, (if plB n F W B r h = true then h.toNat else 0) = H := ⟨_, rfl⟩
  obtain ⟨L, hL⟩ : ∃ L, who n F W B r.toNat = L := ⟨_, rfl⟩
  have hHb : H ≤ 1000 ∧ ∀ s, s < H → (L s).length ≤ 1000 := by
    cases hp : plB n F W B r h
    · rw [hp, if_neg (by decide)] at hH
      subst hH
      exact ⟨by omega, fun s hs => absurd hs (Nat.not_lt_zero _)⟩
    · obtain ⟨_, h1, h2⟩ := plB_true hp
      refine ⟨by rw [← hH, if_pos hp]; omega, fun s _ => ?_⟩
      rw [← hL]
      have := ls_len (F := F) (W := W) (B := B) (g := rst F W (got F W B n r.toNat s) s) (n := n) (t := (s : Int)) r.toNat
      unfold who
      omega
  have k15 := fun w R => plan15 a n c F W B r h w R hnl
  have k19 := fun w R => plan19 a n c F W B r h w R hnl
  unfold PlanR at k15 k19
  rw [hKP, hH, hL] at k15 k19
  have k20 := fun w R G => next20 a ag n c m cg F W B g t w R G hnl hml
  have k21 := fun w R G => next21 a ag n c m cg F W B g t w R G hnl hml
  obtain ⟨X, hX⟩ : ∃ X, nextV n F W B m g t = X := ⟨_, rfl⟩
  rw [hX] at k20 k21
  obtain ⟨X1, X2⟩ := X
  have k24 := fun w R => check24 a n c F W B w R hnl
  have k25 := fun w R => check25 a n c F W B w R hnl
  have k18 := fun w R => demand18 a n c F W B x y w R hnl
  have k26 := fun w R => demand26 a n c F W B x y w R hnl
  have k16 := fun w R => feasible16 a n c F W B r h w R hnl
  have k27 := fun w R => feasible27 a n c F W B r h w R hnl
  generalize ck n F W B = CK at *
  generalize dm n F W B x y = DM at *
  generalize fsB n F W B r h = FS at *
  have K15 := Lib.hid k15
  have K19 := Lib.hid k19
  have K20 := Lib.hid k20
  have K21 := Lib.hid k21
  have K24 := Lib.hid k24
  have K25 := Lib.hid k25
  have K18 := Lib.hid k18
  have K26 := Lib.hid k26
  have K16 := Lib.hid k16
  have K27 := Lib.hid k27
  have HHB := Lib.hid hHb
  clear k15 k19 k20 k21 k24 k25 k18 k26 k16 k27 hKP hH hL hX hHb
  go_enter Try.func9, Try.ntmps9
  go_wp2_with fail
  refine (K15.out _ HR.out).mono ?_
  rintro e w1 ⟨v1, rfl, r1, hb⟩
  have HP1 := Lib.hid r1
  have HB1 := Lib.hid hb
  have HR1 := Lib.hid (HR.out.mono hb)
  have HG1 := Lib.hid (HG.out.mono hb)
  clear r1 hb HR HG
  go_wp2_with fail
  refine (K19.out _ HR1.out).mono ?_
  rintro e w2 ⟨v2, rfl, r2, hb⟩
  have HQ2 := Lib.hid r2
  have HP2 := Lib.hid (HP1.out.mono hb)
  have HB2 := Lib.hid (bthen HB1.out hb HB1.out.size)
  have HR2 := Lib.hid (HR1.out.mono hb)
  have HG2 := Lib.hid (HG1.out.mono hb)
  clear r2 hb HR1 HG1 HP1 HB1
  go_wp2_with fail
  refine (K20.out _ HR2.out HG2.out).mono ?_
  rintro e w3 ⟨rfl, hb⟩
  have HQ3 := Lib.hid (HQ2.out.mono hb)
  have HP3 := Lib.hid (HP2.out.mono hb)
  have HB3 := Lib.hid (bthen HB2.out hb HB2.out.size)
  have HR3 := Lib.hid (HR2.out.mono hb)
  have HG3 := Lib.hid (HG2.out.mono hb)
  clear hb HR2 HG2 HP2 HB2 HQ2
  go_wp2_with fail
  refine (K21.out _ HR3.out HG3.out).mono ?_
  rintro e w4 ⟨rfl, hb⟩
  have HQ4 := Lib.hid (HQ3.out.mono hb)
  have HP4 := Lib.hid (HP3.out.mono hb)
  have HB4 := Lib.hid (bthen HB3.out hb HB3.out.size)
  have HR4 := Lib.hid (HR3.out.mono hb)
  clear hb HR3 HG3 HP3 HB3 HQ3
  go_wp2_with fail
  go_loopw [23] (fun s23 wr => ∃ k : Nat, s23 = .int .i64 k ∧ k ≤ n ∧ Below w4.heap.size w4 wr) (fun s23 _ => n - (intOf s23).toNat)
  case atStart => exact ⟨0, rfl, Nat.zero_le _, Below.refl _ _⟩
  case round =>
    obtain ⟨k, rfl, hk, hB⟩ := hrel
    have HB := Lib.hid hB
    by_cases hlt : k < n
    · obtain ⟨b, o, g1, g2⟩ := HR4.out.mono hB
      obtain rfl := g1 (by omega)
      obtain ⟨c0, c1, c2⟩ := g2 k hlt
      have i1 : (0 : Int) ≤ (k : Int) := by omega
      have i2 : (k : Int) < (n : Int) := by omega
      have k17 := window17 (F k) (W k) (B k) t
      have k22 := window22 (F k) (W k) (B k) t
      generalize win (F k) (W k) (B k) t = Y at *
      obtain ⟨Y1, Y2⟩ := Y
      unfold gvv at k17 k22
      have K17 := Lib.hid k17
      have K22 := Lib.hid k22
      have C0 := Lib.hid c0
      have C1 := Lib.hid c1
      have C2 := Lib.hid c2
      have q1 : (Y1 != Y1) = false := by simp
      have q2 : (Y2 != Y2) = false := by simp
      clear g1 g2 hB k17 k22
      go_wp2_with fail
      refine (K17.out _).mono ?_
      rintro e w5 ⟨rfl, hb⟩
      have HB5 := Lib.hid (bthen HB.out hb HB.out.size)
      clear c0 c1 c2
      have c0 := up hb C0.out
      have c1 := up hb C1.out
      have c2 := up hb C2.out
      clear hb C0 C1 C2 HB
      go_wp2_with fail
      refine (K22.out _).mono ?_
      rintro e w6 ⟨rfl, hb⟩
      have HB6 := Lib.hid (bthen HB5.out hb HB5.out.size)
      clear hb c0 c1 c2 HB5
      go_wp2_with fail
      exact ⟨⟨k + 1, by go_num, by omega, HB6.out⟩, by simp [intOf]; omega⟩
    · have : k = n := by omega
      subst this
      have HQ5 := Lib.hid (HQ4.out.mono hB)
      have HP5 := Lib.hid (HP4.out.mono hB)
      have HB5 := Lib.hid (bthen HB4.out hB HB4.out.size)
      have HR5 := Lib.hid (HR4.out.mono hB)
      clear hB HB HQ4 HP4 HB4 HR4
      go_wp2_with fail
      refine (samePlan23 v1 v2 H L _ HP5.out HQ5.out HHB.out.1 HHB.out.2).mono ?_
      rintro e w6 ⟨rfl, hb⟩
      have HB6 := Lib.hid (bthen HB5.out hb HB5.out.size)
      have HR6 := Lib.hid (HR5.out.mono hb)
      clear hb HB5 HR5 HQ5 HP5
      go_wp2_with fail
      refine (K24.out _ HR6.out).mono ?_
      rintro e w7 ⟨rfl, hb⟩
      have HB7 := Lib.hid (bthen HB6.out hb HB6.out.size)
      have HR7 := Lib.hid (HR6.out.mono hb)
      clear hb HB6 HR6
      go_wp2_with fail
      refine (K25.out _ HR7.out).mono ?_
      rintro e w8 ⟨rfl, hb⟩
      have HB8 := Lib.hid (bthen HB7.out hb HB7.out.size)
      have HR8 := Lib.hid (HR7.out.mono hb)
      clear hb HB7 HR7
      go_wp2_with fail
      refine (K18.out _ HR8.out).mono ?_
      rintro e w9 ⟨rfl, hb⟩
      have HB9 := Lib.hid (bthen HB8.out hb HB8.out.size)
      have HR9 := Lib.hid (HR8.out.mono hb)
      clear hb HB8 HR8
      go_wp2_with fail
      refine (K26.out _ HR9.out).mono ?_
      rintro e w10 ⟨rfl, hb⟩
      have HB10 := Lib.hid (bthen HB9.out hb HB9.out.size)
      have HR10 := Lib.hid (HR9.out.mono hb)
      clear hb HB9 HR9
      go_wp2_with fail
      refine (K16.out _ HR10.out).mono ?_
      rintro e w11 ⟨rfl, hb⟩
      have HB11 := Lib.hid (bthen HB10.out hb HB10.out.size)
      have HR11 := Lib.hid (HR10.out.mono hb)
      clear hb HB10 HR10
      go_wp2_with fail
      refine (K27.out _ HR11.out).mono ?_
      rintro e w12 ⟨rfl, hb⟩
      have HB12 := Lib.hid (bthen HB11.out hb HB11.out.size)
      clear hb HB11 HR11
      go_wp2
      go_ret
      exact ⟨ret_bool (by simp), HB12.out⟩
theorem raw3 (a ag : Option Addr) (n c m cg : Nat) (F W B g : Nat → Int) (x y t r h : Int) (w : World) (R : R3 w a n F W B) (G : Row w ag m g) (hn : n ≤ 140737488351232) (hm : m ≤ 140737488351232) :
    Calls Try.prog 3 #[.slice a n c, .slice ag m cg, .int .i64 x, .int .i64 y, .int .i64 t, .int .i64 r, .int .i64 h] w fun e w' => e = .returned (.bool true) ∧ Below w.heap.size w w' := by
  have HR := Lib.hid R
  have HG := Lib.hid G
  clear R G
  by_cases h30 : n + m ≤ 30
  · have d1 : ¬ (30 : Int) < (n : Int) + (m : Int) := by omega
    go_enter Try.func3, Try.ntmps3
    go_wp2_with fail
    refine (agree9 a ag n c m cg F W B g x y t r h _ HR.out HG.out (by omega) (by omega)).mono ?_
    rintro e w1 ⟨rfl, hb⟩
    have HB1 := Lib.hid hb
    clear hb
    go_wp2_with fail
    refine (awake10 _).mono ?_
    rintro e w2 ⟨rfl, hb⟩
    have HB2 := Lib.hid (bthen HB1.out hb HB1.out.size)
    clear hb
    go_wp2
    go_ret
    exact ⟨rfl, HB2.out⟩
  · have d1 : (30 : Int) < (n : Int) + (m : Int) := by omega
    go_enter Try.func3, Try.ntmps3
    go_wp2_with fail
    refine (awake10 _).mono ?_
    rintro e w2 ⟨rfl, hb⟩
    have HB2 := Lib.hid hb
    clear hb
    go_wp2
    go_ret
    exact ⟨rfl, HB2.out⟩
end Go.Proofs.Yteokhadpenalaaa
