/- Layer 34: the walk of the retransmissions. -/
import Derived.Test.YtdcogbokcbpnnaaD6
namespace Go.Proofs.Ytdcogbokcbpnnaa
set_option linter.unusedVariables false
set_option linter.unusedSimpArgs false
open Go.RowKit Go.Sort
attribute [local go_sem] gcell
theorem Only3.grownNew {a b c : World} {T O H z : Nat} (h : Only3 a b T O H) (hz : a.heap.size ≤ z) (k : b.grownBy c (some z)) : Only3 a c T O H :=
  ⟨k.os.trans h.os, k.tape.trans h.tape, k.output.trans h.output, Nat.le_trans h.size k.size, fun i hi n1 n2 n3 => (k.block i (Nat.lt_of_lt_of_le hi h.size) (by simp; omega)).trans (h.block i hi n1 n2 n3)⟩
theorem grown_cell {w w' : World} {z b o : Nat} {v : Value} (h : w.grownBy w' (some z)) (hb : b ≠ z) (hc : w.cell? ⟨b, o, none⟩ = some v) : w'.cell? ⟨b, o, none⟩ = some v := by
  rw [World.cell?_of_block (h.block b (lt_of_cell hc) (by simpa using hb))]; exact hc
theorem grown_vat {w w' : World} {z b n : Nat} {f : Nat → Value} (h : w.grownBy w' (some z)) (hb : b ≠ z) (V : VAt w b n f) : VAt w' b n f :=
  ⟨fun k hk => grown_cell h hb (V.c k hk), fun k => by rw [World.frozen?_of_block (h.block b V.lt (by simpa using hb))]; exact V.fr k, Nat.lt_of_lt_of_le V.lt h.size⟩
section
variable {w0 w : World} {T O H : Nat} {la : Option Addr} {n lc R : Nat} {L : Nat → Dm} {s : St}
theorem Tb.grown {w' : World} (X : Tb w0 w T O H la n lc R L s) {z : Nat} (hz : w0.heap.size ≤ z) (n1 : T ≠ z) (n2 : O ≠ z) (n3 : H ≠ z) (k : w.grownBy w' (some z)) : Tb w0 w' T O H la n lc R L s :=
  ⟨below_grown X.bel k hz X.bel.size, X.rd, grown_vat k n1 X.t, grown_vat k n2 X.o, grown_vat k n3 X.h, X.zt, X.zo, X.zh, X.n1, X.n2, X.n3⟩
set_option maxRecDepth 100000 in
set_option maxHeartbeats 4000000 in
theorem again25 (X : Tb w0 w T O H la n lc R L s) (hn : n ≤ 4) (I : Inv R n s) (hcl : ∀ k, k < n → 0 ≤ (L k).cl ∧ (L k).cl ≤ 15) :
    Calls Try.prog 25 #[.pointer (some ⟨T, 0, none⟩)] w fun e w' => e = .returned (.tuple #[]) ∧ Tb w0 w' T O H la n lc R L (againS R L n s) ∧ Only3 w w' T O H := by
  have hb1 := blk w (.cells #[.pointer (some ⟨T, 0, none⟩)] 57)
  have HX0 := Lib.hid (X.mono hb1)
  have HB0 := Lib.hid hb1
  have hc0 : (w.alloc (.cells #[.pointer (some ⟨T, 0, none⟩)] 57)).cell? ⟨w.heap.size, 0, none⟩ = some (.pointer (some ⟨T, 0, none⟩)) := by simp [go_sem]
  have HZ := Lib.hid (show T < w.heap.size ∧ O < w.heap.size ∧ H < w.heap.size ∧ w0.heap.size ≤ w.heap.size from ⟨X.t.lt, X.o.lt, X.h.lt, X.bel.size⟩)
  have HI := Lib.hid I
  have HCL := Lib.hid hcl
  clear X I hcl hb1
  obtain ⟨i0, hi, hz0, hz1, hz2⟩ := info_split intInfo
  go_enter Try.func25, Try.ntmps25
  go_upto_region 1 with fail
  have HS1 := Lib.hid (show w.heap.size < (w.alloc (.cells #[.pointer (some ⟨T, 0, none⟩)] 57)).heap.size by simp)
  generalize (w.alloc (.cells #[.pointer (some ⟨T, 0, none⟩)] 57)) = w1 at *
  generalize hb : w.heap.size = b at *
  have Hb := Lib.hid hb
  clear hb
  obtain ⟨t0, -, -, -⟩ := HX0.out.cells
  go_wp2_with (refine wpList_make_full _ rfl (.tmp 11) (.tmp 11) 23 rfl w1.heap.size 3 i0 (.int .i64 0) 1 Try.underlying23 hi hz0 hz1 .i64 .i64 (n : Int) (n : Int) n rfl rfl rfl rfl ?c1 ?c2 (Nat.le_refl _) ?_)
  case c1 => first | omega | (rw [hz2]; omega)
  case c2 => unfold maxLen; omega
  intro w2 hown hgrow
  have hV := VAt.made hown
  have hb2 := below_of_grown hgrow
  have HV2 := Lib.hid (hV.congr fun k _ => show iv (fun q => if q < 0 then (q : Int) else 0) k = Value.int .i64 0 from congrArg (Value.int .i64) (if_neg (by omega)))
  have HB2 := Lib.hid hb2
  clear hown hgrow hz1 hz2 hz0 hi t0 hb2
  have HC0 := Lib.hid hc0
  clear hc0 hV
  generalize hz : w1.heap.size = z at *
  have Hz := Lib.hid hz
  clear hz
  go_wp2_with fail
  go_loopw [3, 15] (fun s3 s15 wr => ∃ k : Nat, s15 = .int .i64 k ∧ k ≤ n ∧ Below z w1 wr ∧ VAt wr z n (iv fun q => if q < k then (q : Int) else 0)) (fun _ s15 _ => n - (intOf s15).toNat)
  case atStart => exact ⟨0, rfl, Nat.zero_le _, HB2.out, HV2.out⟩
  case round =>
    clear HB2 HV2
    obtain ⟨k, rfl, hk, hB, hV⟩ := hrel
    have HB := Lib.hid hB
    have HV := Lib.hid hV
    by_cases hlt : k < n
    · have hlt' : (k : Int) < (n : Int) := by omega
      have i1 : (0 : Int) ≤ (k : Int) := by omega
      have c := hV.c k hlt
      have fc := hV.fr k
      unfold iv at c
      have HV3 := Lib.hid ((hV.setI k (k : Int)).congr fun q hq => show iv (fun q => if q < k + 1 then (q : Int) else 0) q = iv (putI _ k (k : Int)) q by
        unfold iv putI
        by_cases h1 : q = k
        · subst h1; simp
        · simp only [if_neg h1]
          by_cases h2 : q < k
          · rw [if_pos h2, if_pos (by omega)]
          · rw [if_neg h2, if_neg (by omega)])
      have HB3 := Lib.hid (hB.setCell (p := ⟨z, k, none⟩) (Nat.le_refl _) (.int .i64 k))
      clear hB hV HB HV
      go_wp2
      go_roundw
      case rel => exact ⟨k + 1, by go_num, by omega, HB3.out, HV3.out⟩
      case measure => simp [intOf]; omega
    · obtain rfl : k = n := by omega
      have hV9 : VAt wr z k (iv fun q => q) := hV.congr fun q hq => by unfold iv; simp only [if_pos hq]
      have hB1 : Below w1.heap.size w1 wr := by rw [Hz.out]; exact hB
      have HBr := Lib.hid hB1
      have KS : Hid (Calls Try.prog 34 #[.slice (some ⟨z, 0, none⟩) k k, .func (.func 35) #[] #[.pointer (some ⟨b, 0, none⟩)]] wr fun e w' => e = .returned (.tuple #[]) ∧ wr.grownBy w' (some z) ∧ VAt w' z k (iv (row (ordP (clOf L) k 16) k))) := by
        rcases Nat.eq_zero_or_pos k with h0 | h0
        · subst h0
          refine (stable34z z b wr).mono ?_
          rintro e w' ⟨rfl, rfl⟩
          exact ⟨rfl, ⟨rfl, rfl, rfl, Nat.le_refl _, fun _ _ _ => rfl⟩, fun j hj => absurd hj (Nat.not_lt_zero _), hV9.fr, hV9.lt⟩
        · exact stable34 b z k k (clOf L) w1 wr (fun i j W hi hj hW => again35 (HX0.out.mono hW) b (up hW HC0.out) i j hi hj hn) (fun q hq => HCL.out q hq) (by omega) hB1 (by rw [Hz.out]; exact Nat.le_refl _) hV9 h0
      have HX3 := Lib.hid (HX0.out.mono hB1)
      have HO3 := Lib.hid (show Only3 w wr T O H from Only3.of (by rw [Hb.out]; exact bthen HB0.out hB1 (Nat.le_of_lt (by rw [Hz.out]; exact HS1.out))))
      have HC3 := Lib.hid (up hB1 HC0.out)
      obtain ⟨w4, rfl⟩ : ∃ w4, w4 = wr := ⟨_, rfl⟩
      clear hB hV HB HV hV9 hB1 HBr HX0 HB0 HC0
      go_wp2_with fail
      refine KS.out.mono ?_
      rintro e w5 ⟨rfl, hG, hV5⟩
      have z1 := HZ.out
      have z2 := HS1.out
      have HX5 := Lib.hid (HX3.out.grown (by omega) (by omega) (by omega) (by omega) hG)
      have HO5 := Lib.hid (HO3.out.grownNew (by rw [Hb.out]; omega) hG)
      have HC5 := Lib.hid (grown_cell hG (by omega) HC3.out)
      have HV5 := Lib.hid hV5
      have HOL := Lib.hid (ord_all (k := clOf L) k fun q hq => HCL.out q hq).1
      have HOM := Lib.hid fun q (hq : q < k) => show (ordP (clOf L) k 16).getD q 0 < k from (ord_of (k := clOf L) fun q hq => HCL.out q hq).lt q hq
      have HAG := Lib.hid (show againS R L k s = (ordP (clOf L) k 16).foldl (againF R L) s from rfl)
      clear hG hV5 HX3 HO3 HC3 KS
      generalize ordP (clOf L) k 16 = od at *
      go_wp2_with fail
      go_loopw [5, 6, 28] (fun s5 s6 s28 wr => ∃ q : Nat, s28 = .int .i64 q ∧ q ≤ k ∧ Tb w0 wr T O H la k lc R L ((od.take q).foldl (againF R L) s) ∧ Only3 w wr T O H ∧ wr.cell? ⟨b, 0, none⟩ = some (.pointer (some ⟨T, 0, none⟩)) ∧ VAt wr z k (iv (row od k))) (fun _ _ s28 _ => k - (intOf s28).toNat)
      case atStart => exact ⟨0, rfl, Nat.zero_le _, HX5.out, HO5.out, HC5.out, HV5.out⟩
      case round =>
        clear HX5 HO5 HC5 HV5
        obtain ⟨q, rfl, hq, hX, hO, hcb, hV⟩ := hrel
        have HX := Lib.hid hX
        have HO := Lib.hid hO
        have HV := Lib.hid hV
        by_cases hlt : q < k
        · have hlt' : (q : Int) < (k : Int) := by omega
          have q0 : (0 : Int) ≤ (q : Int) := by omega
          have hi := HOM.out q hlt
          have c := hV.c q hlt
          have HTK := Lib.hid (take_step (R := R) (L := L) (s := s) (l := od) (k := q) (by rw [HOL.out]; exact hlt))
          have e1 : iv (row od k) q = .int .i64 ((od.getD q 0 : Nat) : Int) := by unfold iv row; rw [if_pos hlt]
          rw [e1] at c
          clear e1
          obtain ⟨t0, -, t2, -⟩ := hX.cells
          obtain ⟨bb, m, h1, h2⟩ := hX.row
          obtain rfl := h1 (by omega)
          obtain ⟨-, c1, -, -, -, -, -⟩ := h2 _ hi
          have HIq := Lib.hid (foldl_inv (L := L) (od.take q) HI.out)
          clear h1 h2 hX hV hO
          generalize (od.take q).foldl (againF R L) s = sq at *
          generalize od.getD q 0 = i at *
          have i1 : (0 : Int) ≤ (i : Int) := by omega
          have i2 : (i : Int) < (k : Int) := by omega
          generalize hag : (L i).ag = ag at *
          have HAg := Lib.hid hag
          clear hag
          by_cases hg : 0 < ag
          · obtain ⟨g, rfl⟩ := Int.eq_ofNat_of_zero_le (show 0 ≤ ag by omega)
            have hg' : 0 < g := by omega
            have q1 : decide ((0 : Int) < (g : Int)) = true := by simpa using hg
            by_cases hl : (g : Int) ≤ sq.left
            · have hl' : g ≤ sq.left := by omega
              have KG := Lib.hid (give37 HX.out i g hi hn (HIq.out.hs12 i hi) hl' HIq.out.le HIq.out.r12)
              have HE := Lib.hid (show againF R L sq i = giveS R sq i g by unfold againF; rw [HAg.out, if_pos ⟨hg, hl⟩]; rfl)
              clear hg
              go_wp2_with fail
              refine KG.out.mono ?_
              rintro e w6 ⟨rfl, hX6, hO6⟩
              have HX6 := Lib.hid hX6
              have HO6 := Lib.hid (HO.out.trans hO6)
              have cb6 := hO6.cell (by omega) (by omega) (by omega) hcb
              have HV6 := Lib.hid (hO6.vat (by omega) (by omega) (by omega) HV.out)
              clear hX6 hO6 KG HX HO HV t0 t2 c c1 hcb
              go_wp2
              exact ⟨⟨q + 1, by go_num, by omega, by rw [HTK.out, HE.out]; exact HX6.out, HO6.out, cb6, HV6.out⟩, by simp only [intOf]; omega⟩
            · have q2 : decide ((g : Int) ≤ (sq.left : Int)) = false := by simp; omega
              have HE := Lib.hid (show againF R L sq i = sq by unfold againF; rw [HAg.out, if_neg (by omega)])
              clear hg
              go_wp2
              exact ⟨⟨q + 1, by go_num, by omega, by rw [HTK.out, HE.out]; exact HX.out, HO.out, hcb, HV.out⟩, by simp only [intOf]; omega⟩
          · have q1 : decide ((0 : Int) < ag) = false := by simp; omega
            have HE := Lib.hid (show againF R L sq i = sq by unfold againF; rw [HAg.out, if_neg (by omega)])
            go_wp2
            exact ⟨⟨q + 1, by go_num, by omega, by rw [HTK.out, HE.out]; exact HX.out, HO.out, hcb, HV.out⟩, by simp only [intOf]; omega⟩
        · obtain rfl : q = k := by omega
          have hft : od.take q = od := List.take_of_length_le (by rw [HOL.out]; exact Nat.le_refl _)
          rw [hft] at HX
          clear hX hV hO
          go_wp2
          go_end0
          exact ⟨rfl, by rw [HAG.out]; exact HX.out, HO.out⟩
end
end Go.Proofs.Ytdcogbokcbpnnaa
