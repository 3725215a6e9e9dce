/- Layer 34: blocks are given. -/
import Derived.Test.YtdcogbokcbpnnaaD1
namespace Go.Proofs.Ytdcogbokcbpnnaa
set_option linter.unusedVariables false
set_option linter.unusedSimpArgs false
open Go.RowKit Go.Sort
attribute [local go_sem] gcell
/-- Only the three blocks of a table may have turned, among those that were there. -/
structure Only3 (w w' : World) (T O H : Nat) : Prop where
  os : w'.os = w.os
  tape : w'.tape = w.tape
  output : w'.output = w.output
  size : w.heap.size ≤ w'.heap.size
  block : ∀ i, i < w.heap.size → i ≠ T → i ≠ O → i ≠ H → w'.heap[i]? = w.heap[i]?
theorem Only3.refl (w : World) (T O H : Nat) : Only3 w w T O H := ⟨rfl, rfl, rfl, Nat.le_refl _, fun _ _ _ _ _ => rfl⟩
theorem Only3.trans {a b c : World} {T O H : Nat} (h : Only3 a b T O H) (k : Only3 b c T O H) : Only3 a c T O H :=
  ⟨k.os.trans h.os, k.tape.trans h.tape, k.output.trans h.output, Nat.le_trans h.size k.size, fun i hi n1 n2 n3 => (k.block i (Nat.lt_of_lt_of_le hi h.size) n1 n2 n3).trans (h.block i hi n1 n2 n3)⟩
theorem Only3.below {a b c : World} {T O H : Nat} (h : Only3 a b T O H) (k : Below b.heap.size b c) : Only3 a c T O H :=
  ⟨k.os.trans h.os, k.tape.trans h.tape, k.output.trans h.output, Nat.le_trans h.size k.size, fun i hi n1 n2 n3 => (k.block i (Nat.lt_of_lt_of_le hi h.size)).trans (h.block i hi n1 n2 n3)⟩
theorem Only3.of {a b : World} {T O H : Nat} (k : Below a.heap.size a b) : Only3 a b T O H := (Only3.refl a T O H).below k
theorem Only3.set {a b : World} {T O H z : Nat} (h : Only3 a b T O H) (hz : z = T ∨ z = O ∨ z = H) (o : Nat) (v : Value) : Only3 a (b.setCell ⟨z, o, none⟩ v) T O H :=
  ⟨h.os, h.tape, h.output, by simpa using h.size, fun i hi n1 n2 n3 => by
    have : z ≠ i := by rcases hz with rfl | rfl | rfl <;> (first | exact Ne.symm n1 | exact Ne.symm n2 | exact Ne.symm n3)
    exact (Below.heap_setCell _ _ _ _ (by simpa using Ne.symm this)).trans (h.block i hi n1 n2 n3)⟩
theorem Only3.cell {w w' : World} {T O H b o : Nat} {v : Value} (h : Only3 w w' T O H) (n1 : b ≠ T) (n2 : b ≠ O) (n3 : b ≠ H) (hc : w.cell? ⟨b, o, none⟩ = some v) : w'.cell? ⟨b, o, none⟩ = some v := by
  rw [World.cell?_of_block (h.block b (lt_of_cell hc) n1 n2 n3)]; exact hc
theorem Only3.frozen {w w' : World} {T O H b o : Nat} (h : Only3 w w' T O H) (n1 : b ≠ T) (n2 : b ≠ O) (n3 : b ≠ H) (hl : b < w.heap.size) (hc : w.frozen? ⟨b, o, none⟩ = false) : w'.frozen? ⟨b, o, none⟩ = false := by
  rw [World.frozen?_of_block (h.block b hl n1 n2 n3)]; exact hc
theorem Only3.vat {w w' : World} {T O H b n : Nat} {f : Nat → Value} (h : Only3 w w' T O H) (n1 : b ≠ T) (n2 : b ≠ O) (n3 : b ≠ H) (V : VAt w b n f) : VAt w' b n f :=
  ⟨fun k hk => h.cell n1 n2 n3 (V.c k hk), fun k => h.frozen n1 n2 n3 V.lt (V.fr k), Nat.lt_of_lt_of_le V.lt h.size⟩
section
variable {w0 w : World} {T O H : Nat} {la : Option Addr} {n lc R : Nat} {L : Nat → Dm} {s : St}
theorem Tb.setO (X : Tb w0 w T O H la n lc R L s) (x : Nat) (v : Int) : Tb w0 (w.setCell ⟨O, x, none⟩ (.int .i64 v)) T O H la n lc R L ⟨s.left, putI s.ow x v, s.hs⟩ :=
  ⟨X.bel.setCell X.zo _, X.rd, X.t.far (Ne.symm X.n1), X.o.setI x v, X.h.far X.n3, X.zt, X.zo, X.zh, X.n1, X.n2, X.n3⟩
theorem Tb.setH (X : Tb w0 w T O H la n lc R L s) (x : Nat) (v : Int) : Tb w0 (w.setCell ⟨H, x, none⟩ (.int .i64 v)) T O H la n lc R L ⟨s.left, s.ow, putI s.hs x v⟩ :=
  ⟨X.bel.setCell X.zh _, X.rd, X.t.far (Ne.symm X.n2), X.o.far (Ne.symm X.n3), X.h.setI x v, X.zt, X.zo, X.zh, X.n1, X.n2, X.n3⟩
theorem Tb.setL (X : Tb w0 w T O H la n lc R L s) (p : Nat) : Tb w0 (w.setCell ⟨T, 2, none⟩ (.int .i64 p)) T O H la n lc R L ⟨p, s.ow, s.hs⟩ :=
  ⟨X.bel.setCell X.zt _, X.rd, (X.t.set 2 (.int .i64 p)).congr fun k hk => by
    unfold putV tf
    by_cases h : k = 2
    · subst h; rfl
    · rw [if_neg h]; rcases (show k = 0 ∨ k = 1 ∨ k = 3 by omega) with rfl | rfl | rfl <;> rfl, X.o.far X.n1, X.h.far X.n2, X.zt, X.zo, X.zh, X.n1, X.n2, X.n3⟩
theorem Tb.congr {s' : St} (X : Tb w0 w T O H la n lc R L s) (h1 : s'.left = s.left) (h2 : ∀ k, k < R → s'.ow k = s.ow k) (h3 : ∀ k, k < n → s'.hs k = s.hs k) : Tb w0 w T O H la n lc R L s' :=
  ⟨X.bel, X.rd, by rw [h1]; exact X.t, X.o.congr fun k hk => by unfold iv; rw [h2 k hk], X.h.congr fun k hk => by unfold iv; rw [h3 k hk], X.zt, X.zo, X.zh, X.n1, X.n2, X.n3⟩
/-- j blocks of those that are left go to i. -/
def giveO (R left i j : Nat) (ow : Nat → Int) (x : Nat) : Int := if R - left ≤ x ∧ x < R - left + j then i else ow x
def giveS (R : Nat) (s : St) (i k : Nat) : St := ⟨s.left - k, giveO R s.left i k s.ow, putI s.hs i (s.hs i + k)⟩
set_option maxRecDepth 100000 in
set_option maxHeartbeats 4000000 in
theorem give37 (X : Tb w0 w T O H la n lc R L s) (i k : Nat) (hi : i < n) (hn : n ≤ 4) (hs : 0 ≤ s.hs i ∧ s.hs i ≤ 12) (hk : k ≤ s.left) (hl : s.left ≤ R) (hR : R ≤ 12) : Calls Try.prog 37 #[.pointer (some ⟨T, 0, none⟩), .int .i64 i, .int .i64 k] w fun e w' => e = .returned (.tuple #[]) ∧ Tb w0 w' T O H la n lc R L (giveS R s i k) ∧ Only3 w w' T O H := by
  have HX := Lib.hid X
  have i1 : (0 : Int) ≤ (i : Int) := by omega
  have i2 : (i : Int) < (n : Int) := by omega
  clear X
  have HG := Lib.hid (show giveS R s i k = ⟨s.left - k, giveO R s.left i k s.ow, putI s.hs i (s.hs i + k)⟩ from rfl)
  generalize giveS R s i k = GS at *
  generalize hlv : s.left = lv at *
  have HX0 := Lib.hid (show Tb w0 w T O H la n lc R L ⟨lv - 0, giveO R lv i 0 s.ow, s.hs⟩ from HX.out.congr (by simp [hlv]) (fun x hx => by show giveO R lv i 0 s.ow x = s.ow x; unfold giveO; rw [if_neg (by omega)]) fun _ _ => rfl)
  clear HX hlv
  go_enter Try.func37, Try.ntmps37
  go_wp2_with fail
  go_loopw [7] (fun s7 wr => ∃ j : Nat, s7 = .int .i64 j ∧ j ≤ k ∧ Tb w0 wr T O H la n lc R L ⟨lv - j, giveO R lv i j s.ow, s.hs⟩ ∧ Only3 w wr T O H) (fun s7 _ => k - (intOf s7).toNat)
  case atStart => exact ⟨0, rfl, Nat.zero_le _, HX0.out, Only3.refl _ _ _ _⟩
  case round =>
    clear HX0
    obtain ⟨j, rfl, hj, hX, hO⟩ := hrel
    have HX := Lib.hid hX
    have HO := Lib.hid hO
    obtain ⟨t0, t1, t2, t3⟩ := hX.cells
    have lT := hX.t.lt
    have lO := hX.o.lt
    have lH := hX.h.lt
    by_cases hlt : j < k
    · have hlt' : (j : Int) < (k : Int) := by omega
      obtain ⟨p, hp⟩ : ∃ p : Nat, lv - j = p + 1 := ⟨lv - j - 1, by omega⟩
      obtain ⟨x, hx⟩ : ∃ x : Nat, x = R - (p + 1) := ⟨_, rfl⟩
      have ex : (R : Int) - ((p : Int) + 1) = (x : Int) := by omega
      have x1 : (0 : Int) ≤ (x : Int) := by omega
      have x2 : (x : Int) < (R : Int) := by omega
      have o1 := hX.o.c x (by omega)
      have f1 := hX.o.fr x
      have f2 := hX.t.fr 2
      simp only at t2
      rw [hp] at t2
      rw [show (((p + 1 : Nat)) : Int) = (p : Int) + 1 by omega] at t2
      have HXX := Lib.hid hx
      clear hX hO hx
      go_wp2_with fail
      refine wp_region_grown_tail 16 (by kernel_rfl) (by kernel_rfl) ?_
      simp only [List.take_succ_cons, List.take_zero, List.drop_succ_cons, List.drop_zero]
      repeat (go_big_quiet_step (fail))
      refine wpQuiet_nil ?_
      intro w4 hw4
      have hb4 := below_of_regrown hw4
      have HX4 := Lib.hid (HX.out.mono hb4)
      have HO4 := Lib.hid (HO.out.below hb4)
      have o4 := up hb4 o1
      have g1 := upf hb4 lO f1
      have g2 := upf hb4 lT f2
      have t4 := up hb4 t2
      have l4 := Nat.lt_of_lt_of_le lT hb4.size
      have n1 := HX.out.n1
      have t5 : (w4.setCell ⟨O, x, none⟩ (.int .i64 i)).cell? ⟨T, 2, none⟩ = some (.int .i64 ((p : Int) + 1)) := by rw [cell_set, if_neg (by simp [Ne.symm n1])]; exact t4
      have HX5 := Lib.hid ((HX4.out.setO x i).setL p)
      have HO5 := Lib.hid ((HO4.out.set (.inr (.inl rfl)) x (.int .i64 i)).set (z := T) (.inl rfl) 2 (.int .i64 p))
      clear hw4 hb4 HX HO o1 f1 f2 t0 t1 t2 t3 t4
      go_wp2
      have hx := HXX.out
      go_roundw
      case rel => exact ⟨j + 1, by go_num, by omega, HX5.out.congr (by show lv - (j + 1) = p; omega) (fun y hy => by
        show giveO R lv i (j + 1) s.ow y = putI (giveO R lv i j s.ow) x i y
        unfold putI giveO
        by_cases h : y = x
        · rw [if_pos h, if_pos (by omega)]
        · rw [if_neg h]
          by_cases h2 : R - lv ≤ y ∧ y < R - lv + j
          · rw [if_pos h2, if_pos (by omega)]
          · rw [if_neg h2, if_neg (by omega)]) fun _ _ => rfl, HO5.out⟩
      case measure => simp [intOf]; omega
    · obtain rfl : j = k := by omega
      have d0 := hX.h.c i hi
      have fd := hX.h.fr i
      unfold iv at d0
      simp only at d0
      have HX5 := Lib.hid (hX.setH i (s.hs i + j))
      have HO5 := Lib.hid (hO.set (.inr (.inr rfl)) i (.int .i64 (s.hs i + j)))
      have HG2 := Lib.hid (show GS = ⟨lv - j, giveO R lv i j s.ow, putI s.hs i (s.hs i + j)⟩ from HG.out)
      clear hX hO HX HO HG
      generalize s.hs i = hv at *
      go_wp2
      go_end0
      exact ⟨rfl, by rw [HG2.out]; exact HX5.out, HO5.out⟩
end
end Go.Proofs.Ytdcogbokcbpnnaa
