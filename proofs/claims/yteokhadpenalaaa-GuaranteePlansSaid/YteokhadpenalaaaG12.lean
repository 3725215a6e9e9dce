/- Layer 33: guarantees that are made of numbers. -/
import Derived.Test.YteokhadpenalaaaL2
import Derived.Test.YteokhadpenalaaaDice
namespace Go.Proofs.Yteokhadpenalaaa
set_option linter.unusedVariables false
set_option linter.unusedSimpArgs false
open Go.RowKit Go.Sort
attribute [local go_sem] gcell

theorem dnext_le {n k : Nat} (h : k ≤ n) : dnext n k ≤ n := by unfold dnext; split <;> omega
theorem gInfo : (Try.prog.info? 39).map (fun i => (i.zero, i.size, i.bytes)) = some (some (.agg #[.int .i64 0, .int .i64 0, .int .i64 0]), 3, 24) := by kernel_rfl
/-- Guarantees cell by cell. -/
def fl (F W B : Nat → Int) (j : Nat) : Int := if j % 3 = 0 then F (j / 3) else if j % 3 = 1 then W (j / 3) else B (j / 3)
def flat (F W B : Nat → Int) (k : Nat) : List Value := (List.range (k * 3)).map fun j => .int .i64 (fl F W B j)
theorem flat_len (F W B : Nat → Int) (k : Nat) : (flat F W B k).length = k * 3 := by unfold flat; simp
theorem flat_snoc (F W B : Nat → Int) (k : Nat) (x y z : Int) : flat F W B k ++ [.int .i64 x, .int .i64 y, .int .i64 z] = flat (putI F k x) (putI W k y) (putI B k z) (k + 1) := by
  have e : flat (putI F k x) (putI W k y) (putI B k z) (k + 1) = flat (putI F k x) (putI W k y) (putI B k z) k ++ [.int .i64 x, .int .i64 y, .int .i64 z] := by
    unfold flat
    rw [show (k + 1) * 3 = k * 3 + 1 + 1 + 1 by omega, List.range_succ, List.range_succ, List.range_succ]
    simp only [List.map_append, List.map_cons, List.map_nil, List.append_assoc, List.cons_append, List.nil_append]
    have h0 : fl (putI F k x) (putI W k y) (putI B k z) (k * 3) = x := by
      unfold fl putI
      rw [if_pos (by omega), if_pos (by omega)]
    have h1 : fl (putI F k x) (putI W k y) (putI B k z) (k * 3 + 1) = y := by
      unfold fl putI
      rw [if_neg (by omega), if_pos (by omega), if_pos (by omega)]
    have h2 : fl (putI F k x) (putI W k y) (putI B k z) (k * 3 + 1 + 1) = z := by
      unfold fl putI
      rw [if_neg (by omega), if_neg (by omega), if_pos (by omega)]
    rw [h0, h1, h2]
  rw [e]
  congr 1
  unfold flat
  refine List.map_congr_left fun j hj => ?_
  have hj' := List.mem_range.1 hj
  have hd : j / 3 ≠ k := by omega
  unfold fl putI
  rw [if_neg hd, if_neg hd, if_neg hd]
theorem own_R3 {w : World} {base : Nat} {v : Value} {n : Nat} {F W B : Nat → Int} (h : w.ownsRow base 39 3 v n (flat F W B n)) (hn : 0 < n) :
    ∃ b c, v = .slice (some ⟨b, 0, none⟩) n c ∧ n ≤ c ∧ base ≤ b ∧ b < w.heap.size ∧ ∀ k, k < n → w.cell? ⟨b, k * 3, none⟩ = some (.int .i64 (F k)) ∧ w.cell? ⟨b, k * 3 + 1, none⟩ = some (.int .i64 (W k)) ∧ w.cell? ⟨b, k * 3 + 2, none⟩ = some (.int .i64 (B k)) := by
  obtain ⟨_, ⟨hv, rfl⟩ | ⟨g, cap, cur, hv, hg, hh, hnc, hm, hs, ht⟩⟩ := h
  · omega
  · have hc : ∀ j, j < n * 3 → w.cell? ⟨g, j, none⟩ = some (.int .i64 (fl F W B j)) := fun j hj => by
      have h2 := congrArg (fun l => l[j]?) ht
      unfold flat at h2
      simp only [List.getElem?_take, List.getElem?_map, List.getElem?_range hj, Option.map_some, if_pos hj] at h2
      rw [cell_of_row w g j cur 39 (0, 0) hh]
      simpa using h2
    refine ⟨g, cap, hv, hnc, hg, (Array.getElem?_eq_some_iff.1 hh).1, fun k hk => ⟨?_, ?_, ?_⟩⟩
    · rw [hc _ (by omega)]
      unfold fl
      rw [if_pos (by omega), show k * 3 / 3 = k by omega]
    · rw [hc _ (by omega)]
      unfold fl
      rw [if_neg (by omega), if_pos (by omega), show (k * 3 + 1) / 3 = k by omega]
    · rw [hc _ (by omega)]
      unfold fl
      rw [if_neg (by omega), if_neg (by omega), show (k * 3 + 2) / 3 = k by omega]
theorem only_then {a b c : World} {p B : Nat} (h : OnlyP a b p) (k : Below B b c) (hB : a.heap.size ≤ B) : OnlyP a c p :=
  ⟨k.os.trans h.os, k.tape.trans h.tape, k.output.trans h.output, Nat.le_trans h.size k.size, fun i hi hne => (k.block i (by omega)).trans (h.block i hi hne)⟩
theorem DiceAt.low {w w' : World} {p g : Nat} {a : Option Addr} {cap n : Nat} {xs : Nat → Int} {k B : Nat} (D : DiceAt w p g a cap n xs k) (hb : Below B w w') (hp : p < B) (hg : g < B) : DiceAt w' p g a cap n xs k :=
  ⟨(hb.cell (p := ⟨p, 0, none⟩) hp).trans D.c0, (hb.cell (p := ⟨p, 1, none⟩) hp).trans D.c1, fun o => (hb.frozen (p := ⟨p, o, none⟩) hp).trans (D.f o), D.ea, D.ne, Nat.lt_of_lt_of_le D.gl hb.size, fun i hi => (hb.cell (p := ⟨g, i, none⟩) hg).trans (D.xs i hi)⟩
theorem own_only {w w' : World} {base e s n p : Nat} {v : Value} {xs : List Value} (h : w.ownsRow base e s v n xs) (hO : OnlyP w w' p) (hp : p < base) : w'.ownsRow base e s v n xs :=
  h.kept hO (.inr fun hc => by have := (h.lt p hc).1; omega)
/-- A guarantee that is made of numbers. -/
def GMade (r F W B : Int) : Prop := (0 ≤ F ∧ F ≤ 11) ∧ (1 ≤ W ∧ W ≤ 9) ∧ 0 ≤ B ∧ B ≤ r * W + 1
theorem GMade.vg {r F W B : Int} (h : GMade r F W B) (hr : 1 ≤ r ∧ r ≤ 4) : vg F W B = true := by
  obtain ⟨h1, h2, h3, h4⟩ := h
  have := mul_bd (show 0 ≤ r ∧ r ≤ 4 by omega) (show 0 ≤ W ∧ W ≤ 9 by omega)
  have h5 : r * W ≤ 4 * W := Int.mul_le_mul_of_nonneg_right (by omega) (by omega)
  exact decide_eq_true (by omega)
/-- What hands back guarantees that are made of numbers. -/
def GsR (p g : Nat) (aa : Option Addr) (cap n0 : Nat) (xs : Nat → Int) (r : Int) (w : World) (e : Ending) (w' : World) : Prop :=
  ∃ (n b c kd : Nat) (F W B : Nat → Int), e = .returned (.slice (some ⟨b, 0, none⟩) n c) ∧ (1 ≤ n ∧ n ≤ 4 ∧ n ≤ c) ∧ (w.heap.size ≤ b ∧ b < w'.heap.size) ∧ (∀ k, k < n → w'.cell? ⟨b, k * 3, none⟩ = some (.int .i64 (F k)) ∧ w'.cell? ⟨b, k * 3 + 1, none⟩ = some (.int .i64 (W k)) ∧ w'.cell? ⟨b, k * 3 + 2, none⟩ = some (.int .i64 (B k))) ∧
    (∀ k, k < n → GMade r (F k) (W k) (B k)) ∧ DiceAt w' p g aa cap n0 xs kd ∧ kd ≤ n0 ∧ OnlyP w w' p

set_option maxRecDepth 100000 in
set_option maxHeartbeats 4000000 in
theorem guarantees14 (p g : Nat) (aa : Option Addr) (cap n0 : Nat) (xs : Nat → Int) (k0' : Nat) (r : Int) (w : World) (hr : 1 ≤ r ∧ r ≤ 4) (h300 : n0 ≤ 300) (hk0 : k0' ≤ n0) (D : DiceAt w p g aa cap n0 xs k0') :
    Calls Try.prog 14 #[.pointer (some ⟨p, 0, none⟩), .int .i64 r] w (GsR p g aa cap n0 xs r w) := by
  have HD := Lib.hid D
  have lp := lt_of_cell D.c0
  have lg := D.gl
  obtain ⟨i0, hi, hz0, hz1, hz2⟩ := info_split gInfo
  have HI := Lib.hid hi
  have HZ0 := Lib.hid hz0
  have HZ1 := Lib.hid hz1
  have HZ2 := Lib.hid hz2
  clear D hi hz0 hz1 hz2
  go_enter Try.func14, Try.ntmps14
  go_wp2_with fail
  refine (dice_next p g aa cap n0 xs k0' 4 _ (by omega) h300 HD.out).mono ?_
  have bv := dval_bd xs n0 k0' 4 (by omega)
  generalize dval xs n0 k0' 4 = v1 at *
  obtain ⟨M, hM⟩ : ∃ M : Nat, v1 = M := ⟨v1.toNat, by omega⟩
  subst hM
  rintro e w1 ⟨rfl, hD, hO⟩
  have hk1 : dnext n0 k0' ≤ n0 := dnext_le hk0
  generalize dnext n0 k0' = k1 at *
  have HD1 := Lib.hid hD
  have HO1 := Lib.hid hO
  clear hD hO HD
  go_wp2_with fail
  go_loopw [5, 6] (fun s5 s6 wr => ∃ (k kd : Nat) (F W B : Nat → Int), s6 = .int .i64 (1 + (M : Int) - k) ∧ k ≤ M + 1 ∧ kd ≤ n0 ∧ wr.ownsRow w.heap.size 39 3 s5 k (flat F W B k) ∧ (∀ j, j < k → GMade r (F j) (W j) (B j)) ∧ DiceAt wr p g aa cap n0 xs kd ∧ OnlyP w wr p) (fun _ s6 _ => (intOf s6).toNat)
  case atStart => exact ⟨0, k1, fun _ => 0, fun _ => 0, fun _ => 0, by simp, by omega, hk1, World.ownsRow_nil _ _ _ _, fun j hj => absurd hj (Nat.not_lt_zero _), HD1.out, HO1.out⟩
  case round =>
    rename_i u5
    clear HD1 HO1
    obtain ⟨k, kd, F, W, B, rfl, hk, hkd, hown, hm, hD, hO⟩ := hrel
    have HW := Lib.hid hown
    have HM := Lib.hid hm
    have HD := Lib.hid hD
    have HO := Lib.hid hO
    clear hown hm hD hO
    by_cases hlt : k < M + 1
    · have hpos : (0 : Int) < 1 + (M : Int) - k := by omega
      go_wp2_with fail
      refine (dice_next p g aa cap n0 xs kd 9 _ (by omega) h300 HD.out).mono ?_
      have b1 := dval_bd xs n0 kd 9 (by omega)
      generalize dval xs n0 kd 9 = x1 at *
      have l1 : dnext n0 kd ≤ n0 := dnext_le hkd
      generalize dnext n0 kd = j1 at *
      rintro e w2 ⟨rfl, hD, hO⟩
      have HD2 := Lib.hid hD
      have HO2 := Lib.hid (only_trans HO.out hO)
      have HW2 := Lib.hid (own_only HW.out hO lp)
      have hP := mul_bd (show 0 ≤ r ∧ r ≤ 4 by omega) (show 0 ≤ 1 + x1 ∧ 1 + x1 ≤ 9 by omega)
      clear hD hO HD HO HW
      go_wp2_with fail
      refine (dice_next p g aa cap n0 xs j1 12 _ (by omega) h300 HD2.out).mono ?_
      have b2 := dval_bd xs n0 j1 12 (by omega)
      generalize dval xs n0 j1 12 = x2 at *
      have l2 : dnext n0 j1 ≤ n0 := dnext_le l1
      generalize dnext n0 j1 = j2 at *
      rintro e w3 ⟨rfl, hD, hO⟩
      have HD3 := Lib.hid hD
      have HO3 := Lib.hid (only_trans HO2.out hO)
      have HW3 := Lib.hid (own_only HW2.out hO lp)
      clear hD hO HD2 HO2 HW2
      go_wp2_with fail
      refine (dice_next p g aa cap n0 xs j2 (r * (1 + x1) + 2) _ (by omega) h300 HD3.out).mono ?_
      have b3 := dval_bd xs n0 j2 (r * (1 + x1) + 2) (by omega)
      generalize dval xs n0 j2 (r * (1 + x1) + 2) = x3 at *
      have l3 : dnext n0 j2 ≤ n0 := dnext_le l2
      generalize dnext n0 j2 = j3 at *
      rintro e w4 ⟨rfl, hD, hO⟩
      have hO4 := only_trans HO3.out hO
      have HD4 := Lib.hid hD
      have HO4 := Lib.hid hO4
      have HW4 := Lib.hid (own_only HW3.out hO lp)
      have z4 := hO4.size
      have hnews : ∀ j u, ([.int .i64 x2, .int .i64 (1 + x1), .int .i64 x3] : List Value)[j]? = some u → (w4.alloc (.cells #[.int .i64 x2, .int .i64 (1 + x1), .int .i64 x3] 39)).cell? ((⟨w4.heap.size, 0, none⟩ : Addr).add j) = some u := fun j u hu => by
        match j with
        | 0 => simp at hu; subst hu; simp [go_sem, Addr.add_mid]
        | 1 => simp at hu; subst hu; simp [go_sem, Addr.add_mid]
        | 2 => simp at hu; subst hu; simp [go_sem, Addr.add_mid]
        | j + 3 => simp at hu
      have HN := Lib.hid hnews
      have H1 := Lib.hid (show ∀ u ∈ ([.int .i64 x2, .int .i64 (1 + x1), .int .i64 x3] : List Value), u.oneCell' = true from fun u hu => by
        simp at hu
        rcases hu with rfl | rfl | rfl <;> rfl)
      clear hD hO hO4 hnews HD3 HO3 HW3
      go_wp2_with (at_builtin; refine wpList_append_own _ rfl (.tmp 18) (.tmp 29) 22 rfl w.heap.size 39 i0 (.agg #[.int .i64 0, .int .i64 0, .int .i64 0]) 3 24 Try.underlying22 HI.out HZ0.out HZ1.out HZ2.out rfl (by decide) _ k (flat F W B k) rfl (HW4.out.alloc _) ⟨w4.heap.size, 0, none⟩ 1 1 [.int .i64 x2, .int .i64 (1 + x1), .int .i64 x3] rfl rfl HN.out H1.out ?c1 ?c2 ?c3 ?_)
      case c1 => unfold maxLen; omega
      case c2 => omega
      case c3 => simp; omega
      intro v' w5 hown5 hgrow _
      rw [flat_snoc] at hown5
      have hB5 : Below w.heap.size w4 w5 := ((Below.refl w.heap.size w4).alloc z4 _).grown hgrow (by simp; omega) (fun k hk => (HW4.out.lt k hk).1)
      have HW5 := Lib.hid hown5
      have HO5 := Lib.hid (only_then HO4.out hB5 (Nat.le_refl _))
      have HD5 := Lib.hid (HD4.out.low hB5 lp lg)
      clear hown5 hgrow hB5 HN H1 HD4 HO4 HW4
      have hmm : ∀ j, j < k + 1 → GMade r (putI F k x2 j) (putI W k (1 + x1) j) (putI B k x3 j) := fun j hj => by
        unfold putI
        by_cases e : j = k
        · rw [if_pos e, if_pos e, if_pos e]
          exact ⟨by omega, by omega, by omega, by omega⟩
        · rw [if_neg e, if_neg e, if_neg e]
          exact HM.out j (by omega)
      have HMM := Lib.hid hmm
      clear hmm
      go_wp2_with fail
      exact ⟨⟨k + 1, j3, _, _, _, by congr 1; omega, by omega, l3, HW5.out, HMM.out, HD5.out, HO5.out⟩, by simp [intOf]; omega⟩
    · obtain rfl : k = M + 1 := by omega
      obtain ⟨b, c, rfl, h1, h2, h3, h4⟩ := own_R3 HW.out (by omega)
      have hpos : ¬ (0 : Int) < 1 + (M : Int) - ((M + 1 : Nat) : Int) := by omega
      have H4 := Lib.hid h4
      clear h4
      go_wp2
      go_ret
      exact ⟨M + 1, b, c, kd, F, W, B, rfl, by omega, ⟨h2, h3⟩, H4.out, HM.out, HD.out, hkd, HO.out⟩
end Go.Proofs.Yteokhadpenalaaa
