/- Layer 37: a step. -/
import Derived.Test.YtbhldnfldkjoiaaM6
import Derived.Deep.DeepCutAuto
import Derived.Deep.RegionHeld3
import Derived.Deep.RegionWith
namespace Go.Proofs.Ytbhldnfldkjoiaa
set_option linter.unusedVariables false
set_option linter.unusedSimpArgs false
open Go.RowKit Go.Sort
attribute [local go_sem] gcell

theorem Cl.fr {W wx : World} {P n m B : Nat} {a d : Option Addr} {c l g1 g2 : Nat} {fs hs : Nat → Int} (C : Cl W wx P n m a d c l g1 g2 fs hs) (h : B ≤ W.heap.size) : Fr B (sv a d n c m l) :=
  ⟨_, _, _, _, _, _, rfl, fun h0 => ⟨g1, C.a0 h0, Nat.le_trans h (C.lo.2.1 h0)⟩, fun h0 => ⟨g2, C.d0 h0, Nat.le_trans h (C.lo.2.2 h0)⟩⟩
set_option maxHeartbeats 4000000 in
theorem step18L (mg bk hd own : Int) (v : Value) (ar : Option Addr) (n m r cr : Nat) (fs hs qs : Nat → Int) (w : World) (S : Sg w v n m fs hs) (RQ : Row w ar r qs) (hn : n ≤ 1000) (hm : m ≤ 1000) (hr : r ≤ 1000) :
    Calls Try.prog 18 #[rv mg bk hd, v, .int .i64 own, .slice ar r cr] w (SRL (Fr w.heap.size) n m (stepF mg bk hd n m fs hs own r qs) (stepH mg bk hd n m fs hs own r qs) (stepE mg bk hd n m fs hs own r qs) w) := by
  obtain ⟨a, d, c, l, rfl, an, dn, r1, q1⟩ := S
  have hB : Below w.heap.size w ((((w.alloc (.cells #[.int .i64 mg, .int .i64 bk, .int .i64 hd] 23)).alloc (.cells #[.slice a n c, .slice d m l] 26)).alloc (.cells #[.int .i64 own] 3)).alloc (.cells #[.slice none 0 0, .slice none 0 0] 26)) := ((((Below.refl _ _).alloc (Nat.le_refl _) _).alloc (by simp) _).alloc (by simp; omega) _).alloc (by simp; omega) _
  have R := Lib.hid (r1.mono hB)
  have Q := Lib.hid (q1.mono hB)
  have RQ0 := Lib.hid (RQ.mono hB)
  have HB := Lib.hid hB
  have AN := Lib.hid an
  have DN := Lib.hid dn
  clear r1 q1 hB RQ an dn
  unfold rv sv
  have BX : Bx ((((w.alloc (.cells #[.int .i64 mg, .int .i64 bk, .int .i64 hd] 23)).alloc (.cells #[.slice a n c, .slice d m l] 26)).alloc (.cells #[.int .i64 own] 3)).alloc (.cells #[.slice none 0 0, .slice none 0 0] 26)) w.heap.size mg bk hd own a d n m c l := ⟨by simp [go_sem], by simp [go_sem], by simp [go_sem], by simp [go_sem], by simp [go_sem], by simp [go_sem], by simp [go_sem], by simp [go_sem], by simp [go_sem], by simp [go_sem]⟩
  have k0 : ((((w.alloc (.cells #[.int .i64 mg, .int .i64 bk, .int .i64 hd] 23)).alloc (.cells #[.slice a n c, .slice d m l] 26)).alloc (.cells #[.int .i64 own] 3)).alloc (.cells #[.slice none 0 0, .slice none 0 0] 26)).cell? ⟨w.heap.size + 1, 0, none⟩ = some (.slice a n c) := by simp [go_sem]
  have k1 : ((((w.alloc (.cells #[.int .i64 mg, .int .i64 bk, .int .i64 hd] 23)).alloc (.cells #[.slice a n c, .slice d m l] 26)).alloc (.cells #[.int .i64 own] 3)).alloc (.cells #[.slice none 0 0, .slice none 0 0] 26)).cell? ⟨w.heap.size + 1, 1, none⟩ = some (.slice d m l) := by simp [go_sem]
  have zW : ((((w.alloc (.cells #[.int .i64 mg, .int .i64 bk, .int .i64 hd] 23)).alloc (.cells #[.slice a n c, .slice d m l] 26)).alloc (.cells #[.int .i64 own] 3)).alloc (.cells #[.slice none 0 0, .slice none 0 0] 26)).heap.size = w.heap.size + 4 := by simp
  go_enter Try.func18, Try.ntmps18
  go_upto_region 1 with fail
  generalize ((((w.alloc (.cells #[.int .i64 mg, .int .i64 bk, .int .i64 hd] 23)).alloc (.cells #[.slice a n c, .slice d m l] 26)).alloc (.cells #[.int .i64 own] 3)).alloc (.cells #[.slice none 0 0, .slice none 0 0] 26)) = W0 at *
  have ZW := Lib.hid zW
  have HBX := Lib.hid BX
  clear zW BX
  go_cut [10] (fun s10 wx => ∃ (P : Nat) (a' d' : Option Addr) (c' l' g1 g2 : Nat), s10 = .pointer (some ⟨P, 0, none⟩) ∧ Cl W0 wx P n m a' d' c' l' g1 g2 fs hs)
  case first =>
    have kd0 : W0.drew.cell? ⟨w.heap.size + 1, 0, none⟩ = some (.slice a n c) := k0
    have kd1 : W0.drew.cell? ⟨w.heap.size + 1, 1, none⟩ = some (.slice d m l) := k1
    go_region_held3 (fun w' => w'.cell? ⟨w.heap.size + 1, 0, none⟩ = some (.slice a n c) ∧ w'.cell? ⟨w.heap.size + 1, 1, none⟩ = some (.slice d m l)) (first | go_keep | (go_split_ands; exact ⟨up hbA (by assumption), up hbA (by assumption)⟩) | (go_split_ands; exact ⟨up hbB (by assumption), up hbB (by assumption)⟩) | (go_split_ands; exact ⟨up ((Below.refl _ _).alloc (Nat.le_refl _) _) (by assumption), up ((Below.refl _ _).alloc (Nat.le_refl _) _) (by assumption)⟩) | (go_split_ands; exact ⟨up ((Below.refl _ _).alloc (Nat.le_refl _) _) sA0, up ((Below.refl _ _).alloc (Nat.le_refl _) _) sA1⟩) | (go_split_ands; exact ⟨up ((Below.refl _ _).alloc (Nat.le_refl _) _) sB0, up ((Below.refl _ _).alloc (Nat.le_refl _) _) sB1⟩) | (go_split_ands; exact ⟨set2_other (lt_of_cell k0) (by assumption), set2_other (lt_of_cell k0) (by assumption)⟩) | (go_split_ands; exact ⟨set2_other (lt_of_cell sA0) (by assumption), set2_other (lt_of_cell sA0) (by assumption)⟩) | (go_split_ands; exact ⟨set2_other (lt_of_cell sB0) (by assumption), set2_other (lt_of_cell sB0) (by assumption)⟩))
      ((first | (go_at_call_of 27 a; refine (clone27 _ a n c fs hn AN.out (by first | exact R.out.mono (Below.refl _ _).drew | exact (R.out.mono (Below.refl _ _).drew).mono ((Below.refl _ _).alloc (Nat.le_refl _) _) | exact (R.out.mono (Below.refl _ _).drew).mono hbB | exact ((R.out.mono (Below.refl _ _).drew).mono hbB).mono ((Below.refl _ _).alloc (Nat.le_refl _) _) | exact ((R.out.mono (Below.refl _ _).drew).mono ((Below.refl _ _).alloc (Nat.le_refl _) _)).mono hbB)).mono ?_; rintro e wA ⟨aA, cA, rfl, hcA, ⟨gA, hgA, hxA, hfA⟩, hbA⟩; have zA := hbA.size; have sA0 := (by first | exact up hbA k0 | exact up hbA (up ((Below.refl _ _).alloc (Nat.le_refl _) _) kd0) | exact up hbA sB0 | exact up hbA (up ((Below.refl _ _).alloc (Nat.le_refl _) _) sB0) : wA.cell? ⟨w.heap.size + 1, 0, none⟩ = some (.slice a n c)); have sA1 := (by first | exact up hbA k1 | exact up hbA (up ((Below.refl _ _).alloc (Nat.le_refl _) _) kd1) | exact up hbA sB1 | exact up hbA (up ((Below.refl _ _).alloc (Nat.le_refl _) _) sB1) : wA.cell? ⟨w.heap.size + 1, 1, none⟩ = some (.slice d m l)); (first | (have hlA : Below (W0.drew.alloc (.cells #[.slice none 0 0, .slice none 0 0] 26)).heap.size (W0.drew.alloc (.cells #[.slice none 0 0, .slice none 0 0] 26)) wA := hbA; have pA0 := up hlA (b := W0.heap.size) (o := 0) (v := .slice none 0 0) (by simp [go_sem]); have pA1 := up hlA (b := W0.heap.size) (o := 1) (v := .slice none 0 0) (by simp [go_sem]); have fA0 := upf hlA (b := W0.heap.size) (o := 0) (by simp) (by simp [go_sem]); have fA1 := upf hlA (b := W0.heap.size) (o := 1) (by simp) (by simp [go_sem]); have hP := Nat.le_refl W0.heap.size; have nA : 0 < n → W0.heap.size ≠ gA := fun h => Nat.ne_of_lt (Nat.lt_of_lt_of_le (show W0.heap.size < (W0.drew.alloc (.cells #[.slice none 0 0, .slice none 0 0] 26)).heap.size by simp) (hgA h).2.1)) | (have hlA : Below (wB.alloc (.cells #[.slice none 0 0, .slice none 0 0] 26)).heap.size (wB.alloc (.cells #[.slice none 0 0, .slice none 0 0] 26)) wA := hbA; have pA0 := up hlA (b := wB.heap.size) (o := 0) (v := .slice none 0 0) (by simp [go_sem]); have pA1 := up hlA (b := wB.heap.size) (o := 1) (v := .slice none 0 0) (by simp [go_sem]); have fA0 := upf hlA (b := wB.heap.size) (o := 0) (by simp) (by simp [go_sem]); have fA1 := upf hlA (b := wB.heap.size) (o := 1) (by simp) (by simp [go_sem]); have hP := cpB.bel.size; have nA : 0 < n → wB.heap.size ≠ gA := fun h => Nat.ne_of_lt (Nat.lt_of_lt_of_le (show wB.heap.size < (wB.alloc (.cells #[.slice none 0 0, .slice none 0 0] 26)).heap.size by simp) (hgA h).2.1); have nB : 0 < m → wB.heap.size ≠ gB := fun h => Nat.ne_of_gt (cpB.lo h).2.2) | (have pA0 := up hbA pB0; have pA1 := up hbA pB1; have fA0 := upf hbA (lt_of_cell pB0) fB0; have fA1 := upf hbA (lt_of_cell pB0) fB1; have nA : 0 < n → W0.heap.size ≠ gA := fun h => Nat.ne_of_lt (Nat.lt_of_lt_of_le (lt_of_cell pB0) (hgA h).2.1)) | skip); have cpA := (by first | exact Cp.of (Below.refl _ _).drew hbA hgA hxA hfA | exact Cp.of ((Below.refl _ _).drew.alloc (Nat.le_refl _) _) hbA hgA hxA hfA | exact Cp.of cpB.bel hbA hgA hxA hfA | exact Cp.of (cpB.bel.alloc cpB.bel.size _) hbA hgA hxA hfA : Cp W0 wA n aA gA fs); first | (have cqB := cpB.mono hbA; have ne : 0 < n → 0 < m → gA ≠ gB := fun h h' => Nat.ne_of_gt (Nat.lt_of_lt_of_le (cpB.lo h').2.2 (hgA h).2.1)) | (have cqB := (cpB.mono ((Below.refl _ _).alloc (Nat.le_refl _) _)).mono hbA; have ne : 0 < n → 0 < m → gA ≠ gB := fun h h' => Nat.ne_of_gt (Nat.lt_of_lt_of_le ((cpB.mono ((Below.refl _ _).alloc (Nat.le_refl _) _)).lo h').2.2 (hgA h).2.1)) | skip) | (go_at_call_of 27 d; refine (clone27 _ d m l hs hm DN.out (by first | exact Q.out.mono (Below.refl _ _).drew | exact (Q.out.mono (Below.refl _ _).drew).mono ((Below.refl _ _).alloc (Nat.le_refl _) _) | exact (Q.out.mono (Below.refl _ _).drew).mono hbA | exact ((Q.out.mono (Below.refl _ _).drew).mono hbA).mono ((Below.refl _ _).alloc (Nat.le_refl _) _) | exact ((Q.out.mono (Below.refl _ _).drew).mono ((Below.refl _ _).alloc (Nat.le_refl _) _)).mono hbA)).mono ?_; rintro e wB ⟨aB, cB, rfl, hcB, ⟨gB, hgB, hxB, hfB⟩, hbB⟩; have zB := hbB.size; have sB0 := (by first | exact up hbB k0 | exact up hbB (up ((Below.refl _ _).alloc (Nat.le_refl _) _) kd0) | exact up hbB sA0 | exact up hbB (up ((Below.refl _ _).alloc (Nat.le_refl _) _) sA0) : wB.cell? ⟨w.heap.size + 1, 0, none⟩ = some (.slice a n c)); have sB1 := (by first | exact up hbB k1 | exact up hbB (up ((Below.refl _ _).alloc (Nat.le_refl _) _) kd1) | exact up hbB sA1 | exact up hbB (up ((Below.refl _ _).alloc (Nat.le_refl _) _) sA1) : wB.cell? ⟨w.heap.size + 1, 1, none⟩ = some (.slice d m l)); (first | (have hlB : Below (W0.drew.alloc (.cells #[.slice none 0 0, .slice none 0 0] 26)).heap.size (W0.drew.alloc (.cells #[.slice none 0 0, .slice none 0 0] 26)) wB := hbB; have pB0 := up hlB (b := W0.heap.size) (o := 0) (v := .slice none 0 0) (by simp [go_sem]); have pB1 := up hlB (b := W0.heap.size) (o := 1) (v := .slice none 0 0) (by simp [go_sem]); have fB0 := upf hlB (b := W0.heap.size) (o := 0) (by simp) (by simp [go_sem]); have fB1 := upf hlB (b := W0.heap.size) (o := 1) (by simp) (by simp [go_sem]); have hP := Nat.le_refl W0.heap.size; have nB : 0 < m → W0.heap.size ≠ gB := fun h => Nat.ne_of_lt (Nat.lt_of_lt_of_le (show W0.heap.size < (W0.drew.alloc (.cells #[.slice none 0 0, .slice none 0 0] 26)).heap.size by simp) (hgB h).2.1)) | (have hlB : Below (wA.alloc (.cells #[.slice none 0 0, .slice none 0 0] 26)).heap.size (wA.alloc (.cells #[.slice none 0 0, .slice none 0 0] 26)) wB := hbB; have pB0 := up hlB (b := wA.heap.size) (o := 0) (v := .slice none 0 0) (by simp [go_sem]); have pB1 := up hlB (b := wA.heap.size) (o := 1) (v := .slice none 0 0) (by simp [go_sem]); have fB0 := upf hlB (b := wA.heap.size) (o := 0) (by simp) (by simp [go_sem]); have fB1 := upf hlB (b := wA.heap.size) (o := 1) (by simp) (by simp [go_sem]); have hP := cpA.bel.size; have nB : 0 < m → wA.heap.size ≠ gB := fun h => Nat.ne_of_lt (Nat.lt_of_lt_of_le (show wA.heap.size < (wA.alloc (.cells #[.slice none 0 0, .slice none 0 0] 26)).heap.size by simp) (hgB h).2.1); have nA : 0 < n → wA.heap.size ≠ gA := fun h => Nat.ne_of_gt (cpA.lo h).2.2) | (have pB0 := up hbB pA0; have pB1 := up hbB pA1; have fB0 := upf hbB (lt_of_cell pA0) fA0; have fB1 := upf hbB (lt_of_cell pA0) fA1; have nB : 0 < m → W0.heap.size ≠ gB := fun h => Nat.ne_of_lt (Nat.lt_of_lt_of_le (lt_of_cell pA0) (hgB h).2.1)) | skip); have cpB := (by first | exact Cp.of (Below.refl _ _).drew hbB hgB hxB hfB | exact Cp.of ((Below.refl _ _).drew.alloc (Nat.le_refl _) _) hbB hgB hxB hfB | exact Cp.of cpA.bel hbB hgB hxB hfB | exact Cp.of (cpA.bel.alloc cpA.bel.size _) hbB hgB hxB hfB : Cp W0 wB m aB gB hs); first | (have cqA := cpA.mono hbB; have ne : 0 < n → 0 < m → gA ≠ gB := fun h h' => Nat.ne_of_lt (Nat.lt_of_lt_of_le (cpA.lo h).2.2 (hgB h').2.1)) | (have cqA := (cpA.mono ((Below.refl _ _).alloc (Nat.le_refl _) _)).mono hbB; have ne : 0 < n → 0 < m → gA ≠ gB := fun h h' => Nat.ne_of_lt (Nat.lt_of_lt_of_le ((cpA.mono ((Below.refl _ _).alloc (Nat.le_refl _) _)).lo h).2.2 (hgB h').2.1)) | skip)))
    all_goals
      go_wp2_with fail
      go_meet
      first
        | exact ⟨_, _, _, _, _, _, _, rfl, Cl.last cqA cpB ne⟩
        | exact ⟨_, _, _, _, _, _, _, rfl, Cl.last cpA cqB ne⟩
        | exact ⟨_, _, _, _, _, _, _, rfl, Cl.kept cqA cpB ne pB0 pB1 hP nA nB⟩
        | exact ⟨_, _, _, _, _, _, _, rfl, Cl.kept cpA cqB ne pA0 pA1 hP nA nB⟩
  case rest =>
    obtain ⟨P, a', d', c', l', G1, G2, rfl, C⟩ := hcut
    have HC := Lib.hid C
    have B1 := HBX.out.mono C.bel
    have HB1 := Lib.hid B1
    have R1 := Lib.hid (R.out.mono C.bel)
    have Q1 := Lib.hid (Q.out.mono C.bel)
    have RQ1 := Lib.hid (RQ0.out.mono C.bel)
    have zz0 := HB.out.size
    have HW1 := Lib.hid (bthen HB.out C.bel zz0)
    obtain ⟨b0, b1, b2, b3, b4, b5, b6, b7, b8, b9⟩ := B1
    clear C k0 k1 R
    have hck := check22 mg bk hd a d n c m l fs hs
    unfold rv sv at hck
    go_wp2_with (go_at_call 22; refine (hck _ R1.out Q1.out hn hm).mono ?_)
    intro e w2 h
    obtain ⟨rfl, hb⟩ := h
    have C2 := HC.out.mono hb
    have HC2 := Lib.hid C2
    have B2 := HB1.out.mono hb
    have HB2 := Lib.hid B2
    have RQ2 := Lib.hid (RQ1.out.mono hb)
    have Q2 := Lib.hid (Q1.out.mono hb)
    have HW2 := Lib.hid (bthen HW1.out hb HW1.out.size)
    have z2 := HW2.out.size
    obtain ⟨t0, t1, t2, t3, t4, t5, t6, t7, t8, t9⟩ := B2
    have p0 := C2.p0
    have p1 := C2.p1
    clear b0 b1 b2 b3 b4 b5 b6 b7 b8 b9 hck hb C2 HC HB1 RQ1 R1 Q1 HW1
    obtain ⟨E1, hE1⟩ : ∃ E1, chk mg bk hd n m fs hs = E1 := ⟨_, rfl⟩
    rw [hE1]
    have HE1 := Lib.hid hE1
    by_cases g0 : E1 = 0
    · subst g0
      obtain ⟨ok1, ⟨hnm, hn1, hn3⟩, ok2⟩ := chk_ok hE1
      subst hnm
      have OK2 := Lib.hid ok2
      clear ok2 hE1
      by_cases g1 : own < 0
      · have hS : stepE mg bk hd n n fs hs own r qs = 63 := by unfold stepE; rw [HE1.out, if_pos rfl, if_pos (.inl g1)]
        have hF : stepF mg bk hd n n fs hs own r qs = fs := by unfold stepF; rw [hS, if_neg (by decide)]
        have hH : stepH mg bk hd n n fs hs own r qs = hs := by unfold stepH; rw [hS, if_neg (by decide)]
        have HS := Lib.hid hS
        have HF := Lib.hid hF
        have HH := Lib.hid hH
        clear hS hF hH
        go_wp2
        refine bodyPost_ret (v := .tuple #[sv a' d' n c' n l', .int .i64 63]) (by simp [results, Try.results18, go_sem, cell_set, sv, t6, t7]) rfl ?_
        rw [HS.out, HF.out, HH.out]
        exact ⟨_, rfl, HC2.out.rows2 (by rw [ZW.out]; omega) _ _, (HW2.out.setCell (by simp; omega) _).setCell (by simp; omega) _, HC2.out.fr (by rw [ZW.out]; omega)⟩
      · by_cases g2 : (n : Int) ≤ own
        · have hS : stepE mg bk hd n n fs hs own r qs = 63 := by unfold stepE; rw [HE1.out, if_pos rfl, if_pos (.inr g2)]
          have hF : stepF mg bk hd n n fs hs own r qs = fs := by unfold stepF; rw [hS, if_neg (by decide)]
          have hH : stepH mg bk hd n n fs hs own r qs = hs := by unfold stepH; rw [hS, if_neg (by decide)]
          have HS := Lib.hid hS
          have HF := Lib.hid hF
          have HH := Lib.hid hH
          clear hS hF hH
          go_wp2
          refine bodyPost_ret (v := .tuple #[sv a' d' n c' n l', .int .i64 63]) (by simp [results, Try.results18, go_sem, cell_set, sv, t6, t7]) rfl ?_
          rw [HS.out, HF.out, HH.out]
          exact ⟨_, rfl, HC2.out.rows2 (by rw [ZW.out]; omega) _ _, (HW2.out.setCell (by simp; omega) _).setCell (by simp; omega) _, HC2.out.fr (by rw [ZW.out]; omega)⟩
        · obtain ⟨O, rfl⟩ : ∃ O : Nat, own = O := ⟨own.toNat, by omega⟩
          have g2' : decide (n ≤ O) = false := by simpa using g2
          have g1' : decide ((O : Int) < 0) = false := by simp
          by_cases g3 : r = n
          · subst g3
            have q1 : ((r : Int) == (r : Int)) = true := beq_self_eq_true _
            have q2 : ((r : Int) != (r : Int)) = false := by simp
            have hrl : r ≤ maxLen := by unfold maxLen; omega
            go_wp2_with (go_at_call 28; refine (outside28 ar r cr qs 15 _ RQ2.out hrl).mono ?_)
            intro e w3 h
            obtain ⟨rfl, hb⟩ := h
            have C3 := HC2.out.mono hb
            have HC3 := Lib.hid C3
            have B3 := HB2.out.mono hb
            have HB3 := Lib.hid B3
            have RQ3 := Lib.hid (RQ2.out.mono hb)
            have Q3 := Lib.hid (Q2.out.mono hb)
            have HW3 := Lib.hid (bthen HW2.out hb z2)
            have z3 := HW3.out.size
            obtain ⟨u0, u1, u2, u3, u4, u5, u6, u7, u8, u9⟩ := B3
            have p2 := C3.p0
            have p3 := C3.p1
            clear t0 t1 t2 t3 t4 t5 t6 t7 t8 t9 p0 p1 hb C3 HC2 HB2 RQ2 Q2 HW2
            cases g4 : anyB (out qs 15) r
            · have hS : stepE mg bk hd r r fs hs O r qs = 0 := by unfold stepE; rw [HE1.out, if_pos rfl, if_neg (by omega), if_pos rfl, g4]; rfl
              have hF : stepF mg bk hd r r fs hs O r qs = f1 fs qs := by unfold stepF; rw [hS, if_pos rfl]
              have hH : stepH mg bk hd r r fs hs O r qs = held (f1 fs qs) O mg bk hs := by unfold stepH; rw [hS, if_pos rfl]; rfl
              have HS := Lib.hid hS
              have HF := Lib.hid hF
              have HH := Lib.hid hH
              clear hS hF hH
              go_wp2
              have hz : ∀ k, k < r → 0 ≤ fs k ∧ fs k ≤ 240 ∧ 0 ≤ qs k ∧ qs k ≤ 15 := fun k hk => by
                have h1 := anyB_false.1 g4 k hk
                unfold out at h1
                simp at h1
                have h2 := OK2.out k hk
                omega
              have HZ := Lib.hid hz
              clear hz
              go_loopw [55] (fun i wr => ∃ k : Nat, k ≤ r ∧ i = .int .i64 k ∧ Cl W0 wr P r r a' d' c' l' G1 G2 (upto k (f1 fs qs) fs) hs) (fun i _ => r - (intOf i).toNat)
              case atStart => exact ⟨0, Nat.zero_le _, rfl, HC3.out.congr (fun j _ => if_neg (Nat.not_lt_zero _)) (fun _ _ => rfl)⟩
              case round =>
                clear u0 u1 u2 u3 u4 u5 u6 u7 u8 u9 p2 p3 HC3 HB3 RQ3 Q3
                obtain ⟨k, hk, rfl, C⟩ := hrel
                by_cases hlt : k < r
                · have p0 := C.p0
                  have x := C.x k hlt
                  rw [upto_at] at x
                  have fz := C.fx (by omega) k
                  obtain rfl := C.a0 (by omega)
                  obtain ⟨b, o, hq0, hq1⟩ := RQ0.out.mono C.bel
                  obtain rfl := hq0 (by omega)
                  have q := hq1 k hlt
                  have HC := Lib.hid C
                  clear hq0 hq1 C
                  have t1 := lt_of_cell p0
                  have t2 := lt_of_cell x
                  have t3 := lt_of_cell q
                  have bz := HZ.out k hlt
                  have i1 : (0 : Int) ≤ (k : Int) := by omega
                  have i2 : (k : Int) < (r : Int) := by omega
                  have e1 : IntKind.i64.wrap (16 * qs k) = 16 * qs k := IntWalk.i64_in _ (by omega)
                  have e2 : IntKind.i64.wrap (16 * qs k - fs k) = 16 * qs k - fs k := IntWalk.i64_in _ (by omega)
                  generalize hfk : fs k = fk at *
                  generalize hqk : qs k = qk at *
                  have HFK := Lib.hid hfk
                  have HQK := Lib.hid hqk
                  clear hfk hqk
                  go_wp2_with fail
                  refine wp_region_grown_tail 16 (by kernel_rfl) (by kernel_rfl) ?_
                  simp only [List.take_succ_cons, List.take_zero, List.drop_succ_cons, List.drop_zero]
                  repeat (go_big_quiet_step (fail))
                  refine wpQuiet_nil ?_
                  intro w4 hw4
                  have C4 := HC.out.mono (below_of_regrown hw4)
                  have x4 := up (below_of_regrown hw4) x
                  have f4 := upf (below_of_regrown hw4) t2 fz
                  have HC4 := Lib.hid C4
                  have hv : f1 fs qs k = fk + (16 * qk - fk) / 4 := by unfold f1; rw [HFK.out, HQK.out]
                  have HV := Lib.hid hv
                  clear hw4 x fz C4 HC hv p0 q
                  go_wp2
                  go_roundw
                  case rel => exact ⟨k + 1, by omega, by go_num, HC4.out.setF hlt (fun j _ => by rw [upto_succ, HV.out])⟩
                  case measure => simp [intOf] <;> omega
                · have : k = r := by omega
                  subst this
                  have HC := Lib.hid (C.congr (xs := f1 fs qs) (ys := hs) (fun j hj => (upto_lt _ _ hj).symm) (fun _ _ => rfl))
                  have hbf : ∀ j, j < k → -1000 ≤ f1 fs qs j ∧ f1 fs qs j ≤ 1000 := fun j hj => by
                    have := HZ.out j hj
                    unfold f1
                    omega
                  have HBF := Lib.hid hbf
                  have p1 := C.p1
                  clear hbf C
                  go_wp2_with fail
                  go_loopw [81] (fun i wx => ∃ j : Nat, j ≤ k ∧ i = .int .i64 j ∧ Cl W0 wx P k k a' d' c' l' G1 G2 (f1 fs qs) (upto j (held (f1 fs qs) O mg bk hs) hs)) (fun i _ => k - (intOf i).toNat)
                  case atStart => exact ⟨0, Nat.zero_le _, rfl, HC.out.congr (fun _ _ => rfl) (fun j _ => if_neg (Nat.not_lt_zero _))⟩
                  case round =>
                    clear HC p1
                    obtain ⟨j, hj, rfl, C⟩ := hrel
                    by_cases hlt2 : j < k
                    · have p1 := C.p1
                      have y := C.y j hlt2
                      have fz := C.fy (by omega) j
                      obtain rfl := C.a0 (by omega)
                      obtain rfl := C.d0 (by omega)
                      have t1 := lt_of_cell p1
                      have t2 := lt_of_cell y
                      have i1 : (0 : Int) ≤ (j : Int) := by omega
                      have i2 : (j : Int) < (k : Int) := by omega
                      have hcall : ∀ d os, Calls Try.prog 29 #[.int .i64 j, .pointer (some ⟨P, 0, none⟩), .pointer (some ⟨w.heap.size + 1 + 1, 0, none⟩), .pointer (some ⟨w.heap.size, 0, none⟩), .pointer (some ⟨w.heap.size + 1, 0, none⟩)] (grow (redrawn wr d) os) fun e w' => e = .returned (.int .i64 (held (f1 fs qs) O mg bk hs j)) ∧ Below (grow (redrawn wr d) os).heap.size (grow (redrawn wr d) os) w' := fun dd os => by
                        have hb := below_regrown wr dd os
                        have C4 := C.mono hb
                        have B4 := HBX.out.mono C4.bel
                        exact held29 P _ _ _ G1 0 k c' l k (some ⟨G1, 0, none⟩) d .nilIface .nilIface O j mg bk (f1 fs qs) hs _ hlt2 (by omega) hr rfl C4.p0 C4.x B4.o B4.r0 B4.r1 B4.s1 (Q.out.mono C4.bel) HBF.out (by omega) (fun i hi => (OK2.out i hi).2)
                      have HCALL := Lib.hid hcall
                      have HC := Lib.hid C
                      clear hcall C
                      go_wp2_with fail
                      refine wp_region_grown_tail 7 (by kernel_rfl) (by kernel_rfl) ?_
                      simp only [List.take_succ_cons, List.take_zero, List.drop_succ_cons, List.drop_zero]
                      repeat (go_big_quiet_step ((go_at_call 29; exact Calls.regrown_of (HCALL.out _ _))))
                      refine wpQuiet_nil ?_
                      intro w4 hw4
                      have C4 := HC.out.mono (below_of_regrown hw4)
                      have y4 := up (below_of_regrown hw4) y
                      have f4 := upf (below_of_regrown hw4) t2 fz
                      have HC4 := Lib.hid C4
                      clear hw4 y fz C4 HC p1 HCALL
                      go_wp2
                      go_roundw
                      case rel => exact ⟨j + 1, by omega, by go_num, HC4.out.setH hlt2 (fun j _ => by rw [upto_succ])⟩
                      case measure => simp [intOf] <;> omega
                    · have : j = k := by omega
                      subst this
                      have HC := Lib.hid (C.congr (xs := f1 fs qs) (ys := held (f1 fs qs) O mg bk hs) (fun _ _ => rfl) (fun i hi => (upto_lt _ _ hi).symm))
                      obtain ⟨u0, u1, u2, u3, u4, u5, u6, u7, u8, u9⟩ := HBX.out.mono C.bel
                      have p0 := C.p0
                      have p1 := C.p1
                      have HW := Lib.hid (bthen HB.out C.bel zz0)
                      clear C
                      go_wp2
                      refine bodyPost_ret (v := .tuple #[sv a' d' j c' j l', .int .i64 0]) (by simp [results, Try.results18, go_sem, cell_set, sv, u6, u7]) rfl ?_
                      rw [HS.out, HF.out, HH.out]
                      exact ⟨_, rfl, HC.out.rows2 (by rw [ZW.out]; omega) _ _, (HW.out.setCell (by simp; omega) _).setCell (by simp; omega) _, HC.out.fr (by rw [ZW.out]; omega)⟩
            · have hS : stepE mg bk hd r r fs hs O r qs = 3 := by unfold stepE; rw [HE1.out, if_pos rfl, if_neg (by omega), if_pos rfl, g4, if_pos rfl]
              have hF : stepF mg bk hd r r fs hs O r qs = fs := by unfold stepF; rw [hS, if_neg (by decide)]
              have hH : stepH mg bk hd r r fs hs O r qs = hs := by unfold stepH; rw [hS, if_neg (by decide)]
              have HS := Lib.hid hS
              have HF := Lib.hid hF
              have HH := Lib.hid hH
              clear hS hF hH
              go_wp2
              refine bodyPost_ret (v := .tuple #[sv a' d' r c' r l', .int .i64 3]) (by simp [results, Try.results18, go_sem, cell_set, sv, u6, u7]) rfl ?_
              rw [HS.out, HF.out, HH.out]
              exact ⟨_, rfl, HC3.out.rows2 (by rw [ZW.out]; omega) _ _, (HW3.out.setCell (by simp; omega) _).setCell (by simp; omega) _, HC3.out.fr (by rw [ZW.out]; omega)⟩
          · have q1 : ((r : Int) == (n : Int)) = false := beq_eq_false_iff_ne.2 (by omega)
            have q2 : ((r : Int) != (n : Int)) = true := by rw [bne_iff_ne]; omega
            have hS : stepE mg bk hd n n fs hs O r qs = 2 := by unfold stepE; rw [HE1.out, if_pos rfl, if_neg (by omega), if_neg g3]
            have hF : stepF mg bk hd n n fs hs O r qs = fs := by unfold stepF; rw [hS, if_neg (by decide)]
            have hH : stepH mg bk hd n n fs hs O r qs = hs := by unfold stepH; rw [hS, if_neg (by decide)]
            have HS := Lib.hid hS
            have HF := Lib.hid hF
            have HH := Lib.hid hH
            clear hS hF hH
            go_wp2
            refine bodyPost_ret (v := .tuple #[sv a' d' n c' n l', .int .i64 2]) (by simp [results, Try.results18, go_sem, cell_set, sv, t6, t7]) rfl ?_
            rw [HS.out, HF.out, HH.out]
            exact ⟨_, rfl, HC2.out.rows2 (by rw [ZW.out]; omega) _ _, (HW2.out.setCell (by simp; omega) _).setCell (by simp; omega) _, HC2.out.fr (by rw [ZW.out]; omega)⟩
    · have q1 : (E1 == 0) = false := beq_eq_false_iff_ne.2 g0
      have q2 : (E1 != 0) = true := by rw [bne_iff_ne]; exact g0
      have hS : stepE mg bk hd n m fs hs own r qs = E1 := by unfold stepE; rw [hE1, if_neg g0]
      have hF : stepF mg bk hd n m fs hs own r qs = fs := by unfold stepF; rw [hS, if_neg g0]
      have hH : stepH mg bk hd n m fs hs own r qs = hs := by unfold stepH; rw [hS, if_neg g0]
      have HS := Lib.hid hS
      have HF := Lib.hid hF
      have HH := Lib.hid hH
      clear hS hF hH hE1
      go_wp2
      refine bodyPost_ret (v := .tuple #[sv a' d' n c' m l', .int .i64 E1]) (by simp [results, Try.results18, go_sem, cell_set, sv, t6, t7]) rfl ?_
      rw [HS.out, HF.out, HH.out]
      exact ⟨_, rfl, HC2.out.rows2 (by rw [ZW.out]; omega) _ _, (HW2.out.setCell (by simp; omega) _).setCell (by simp; omega) _, HC2.out.fr (by rw [ZW.out]; omega)⟩
theorem step18 (mg bk hd own : Int) (v : Value) (ar : Option Addr) (n m r cr : Nat) (fs hs qs : Nat → Int) (w : World) (S : Sg w v n m fs hs) (RQ : Row w ar r qs) (hn : n ≤ 1000) (hm : m ≤ 1000) (hr : r ≤ 1000) :
    Calls Try.prog 18 #[rv mg bk hd, v, .int .i64 own, .slice ar r cr] w (SR n m (stepF mg bk hd n m fs hs own r qs) (stepH mg bk hd n m fs hs own r qs) (stepE mg bk hd n m fs hs own r qs) w) :=
  (step18L mg bk hd own v ar n m r cr fs hs qs w S RQ hn hm hr).mono fun _ _ h => h.sr
end Go.Proofs.Ytbhldnfldkjoiaa
