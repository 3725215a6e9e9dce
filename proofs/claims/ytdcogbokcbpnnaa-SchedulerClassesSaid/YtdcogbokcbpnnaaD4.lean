/- Layer 34: the guarantees, and who is preferred. -/
import Derived.Test.YtdcogbokcbpnnaaP0
namespace Go.Proofs.Ytdcogbokcbpnnaa
set_option linter.unusedVariables false
set_option linter.unusedSimpArgs false
open Go.RowKit Go.Sort
attribute [local go_sem] gcell
theorem intInfo : (Try.prog.info? 3).map (fun i => (i.zero, i.size, i.bytes)) = some (some (.int .i64 0), 1, 8) := by kernel_rfl
theorem Only3.setNew {a b : World} {T O H z : Nat} (h : Only3 a b T O H) (hz : a.heap.size ≤ z) (o : Nat) (v : Value) : Only3 a (b.setCell ⟨z, o, none⟩ v) T O H :=
  ⟨h.os, h.tape, h.output, by simpa using h.size, fun i hi n1 n2 n3 => by
    have : i ≠ z := by omega
    exact (Below.heap_setCell _ _ _ _ (by simpa using this)).trans (h.block i hi n1 n2 n3)⟩
theorem Tb.far {w0 w : World} {T O H : Nat} {la : Option Addr} {n lc R : Nat} {L : Nat → Dm} {s : St} (X : Tb w0 w T O H la n lc R L s) {z : Nat} (hz : w0.heap.size ≤ z) (n1 : z ≠ T) (n2 : z ≠ O) (n3 : z ≠ H) (o : Nat) (v : Value) : Tb w0 (w.setCell ⟨z, o, none⟩ v) T O H la n lc R L s :=
  ⟨X.bel.setCell hz _, X.rd, X.t.far n1, X.o.far n2, X.h.far n3, X.zt, X.zo, X.zh, X.n1, X.n2, X.n3⟩
/-- How many blocks are left, as it stands in memory. -/
def leftAt (T : Nat) (w : World) : Nat := match w.cell? ⟨T, 2, none⟩ with
  | some v => (intOf v).toNat
  | none => 0
theorem Tb.leftAt {w0 w : World} {T O H : Nat} {la : Option Addr} {n lc R : Nat} {L : Nat → Dm} {s : St} (X : Tb w0 w T O H la n lc R L s) : leftAt T w = s.left := by
  unfold Go.Proofs.Ytdcogbokcbpnnaa.leftAt
  rw [X.cells.2.2.1]
  simp [intOf]
section
variable {w0 w : World} {T O H : Nat} {la : Option Addr} {n lc R : Nat} {L : Nat → Dm} {s : St}
set_option maxRecDepth 100000 in
set_option maxHeartbeats 4000000 in
theorem fairly27 (X : Tb w0 w T O H la n lc R L s) (hn : n ≤ 4) (I : Inv R n s) (hm : ∀ k, k < n → 0 ≤ (L k).mn ∧ (L k).mn ≤ 67108864) :
    Calls Try.prog 27 #[.pointer (some ⟨T, 0, none⟩)] w fun e w' => e = .returned (.tuple #[]) ∧ Tb w0 w' T O H la n lc R L (fairS R L n 13 s) ∧ Only3 w w' T O H := by
  have hb1 := blk w (.cells #[.pointer (some ⟨T, 0, none⟩)] 57)
  have HX0 := Lib.hid (X.mono hb1)
  have HB0 := Lib.hid (Only3.of (T := T) (O := O) (H := H) hb1)
  have hc0 : (w.alloc (.cells #[.pointer (some ⟨T, 0, none⟩)] 57)).cell? ⟨w.heap.size, 0, none⟩ = some (.pointer (some ⟨T, 0, none⟩)) := by simp [go_sem]
  have HC0 := Lib.hid hc0
  have HZ := Lib.hid (show w.heap.size ≠ T ∧ w.heap.size ≠ O ∧ w.heap.size ≠ H from ⟨Nat.ne_of_gt X.t.lt, Nat.ne_of_gt X.o.lt, Nat.ne_of_gt X.h.lt⟩)
  have HI := Lib.hid I
  have HM := Lib.hid hm
  clear X I hm hb1 hc0
  go_enter Try.func27, Try.ntmps27
  go_wp2_with fail
  generalize (w.alloc (.cells #[.pointer (some ⟨T, 0, none⟩)] 57)) = w1 at *
  generalize w.heap.size = b at *
  go_loopw [2] (fun s2 wr => ∃ (f : Nat) (s' : St), fairS R L n f s' = fairS R L n 13 s ∧ s'.left < f ∧ Inv R n s' ∧ Tb w0 wr T O H la n lc R L s' ∧ Only3 w wr T O H ∧ wr.cell? ⟨b, 0, none⟩ = some (.pointer (some ⟨T, 0, none⟩))) (fun _ wr => leftAt T wr)
  case atStart => exact ⟨13, s, rfl, by have := HI.out.le; have := HI.out.r12; omega, HI.out, HX0.out, HB0.out, HC0.out⟩
  case round =>
    clear HX0 HB0 HC0
    obtain ⟨f, s', hf, hlf, hI, hX, hO, hcb⟩ := hrel
    have HF := Lib.hid hf
    have HLF := Lib.hid hlf
    have HI' := Lib.hid hI
    have HX := Lib.hid hX
    have HO := Lib.hid hO
    have HLA := Lib.hid hX.leftAt
    have KB := Lib.hid (bestB hX b hcb HM.out hn hI.hs12 (by have := hI.le; have := hI.r12; omega))
    have HE := Lib.hid (@fairS_end R L n f s')
    have HSP := Lib.hid (@nextF_spec L n s')
    have hbd := bestP_bd (fun i => canF i && wantB L s' i) (ahF L s'.hs) n
    have HN := Lib.hid (show nextF L n s' = bestP (fun i => canF i && wantB L s' i) (ahF L s'.hs) n from rfl)
    clear hX hO hI hf hlf
    generalize bestP (fun i => canF i && wantB L s' i) (ahF L s'.hs) n = bp at *
    go_wp2_with fail
    refine KB.out.mono ?_
    rintro e w2 ⟨rfl, hb2⟩
    by_cases hneg : bp < 0
    · have HX2 := Lib.hid (HX.out.mono hb2)
      have HO2 := Lib.hid (HO.out.below hb2)
      clear hb2
      go_wp2
      refine bodyPost_ret (results_none rfl _ _ _) rfl ?_
      exact ⟨rfl, by rw [← HF.out, HE.out (by rw [HN.out]; exact hneg)]; exact HX2.out, HO2.out⟩
    · obtain ⟨i, rfl⟩ := Int.eq_ofNat_of_zero_le (show 0 ≤ bp by omega)
      have hsp := HSP.out (by rw [HN.out]; omega)
      rw [HN.out, show ((i : Int)).toNat = i by omega] at hsp
      obtain ⟨hi, hw⟩ := hsp
      have hl1 : 0 < s'.left := Nat.lt_of_lt_of_le hw (wantsP_le _ _ _)
      have hcp := coverP_pos (L i) (s'.hs i) s'.left hl1
      have hcl := coverP_le (L i) (s'.hs i) s'.left
      obtain ⟨g, rfl⟩ : ∃ g, f = g + 1 := ⟨f - 1, by have := HLF.out; omega⟩
      have HGO := Lib.hid (show fairS R L n (g + 1) s' = fairS R L n g (giveS R s' i (coverP (L i) (s'.hs i) s'.left)) by
        rw [fairS_go (by rw [HN.out]; exact hneg), HN.out]; rfl)
      have HX2 := Lib.hid (HX.out.mono hb2)
      have HO2 := Lib.hid (HO.out.below hb2)
      have cb2 := up hb2 hcb
      have hsi := HI'.out.hs12 i hi
      have hle := HI'.out.le
      have hr := HI'.out.r12
      have HI2 := Lib.hid (HI'.out.give (i := i) hcl)
      have KC := Lib.hid fun W (hb : Below w2.heap.size w2 W) => cover46 (HX2.out.mono hb) i hi hn hsi (by omega)
      have KG := Lib.hid fun W (hb : Below w2.heap.size w2 W) => give37 (HX2.out.mono hb) i (coverP (L i) (s'.hs i) s'.left) hi hn hsi hcl hle hr
      clear hb2 hw HSP HN HE HX HO HX2 hneg hcb hbd
      generalize coverP (L i) (s'.hs i) s'.left = cv at *
      have lb := lt_of_cell cb2
      go_wp2_with fail
      refine wp_region_grown_tail 5 (by kernel_rfl) (by kernel_rfl) ?_
      simp only [List.take_succ_cons, List.take_zero, List.drop_succ_cons, List.drop_zero]
      repeat (go_big_quiet_step (first | (go_at_call 46; exact Calls.regrown_of (KC.out _ (below_regrown _ _ _)))))
      refine wpQuiet_nil ?_
      intro w4 hw4
      have hb4 := below_of_regrown hw4
      have cb4 := up hb4 cb2
      have HO4 := Lib.hid (HO2.out.below hb4)
      have KG4 := Lib.hid (KG.out w4 hb4)
      clear hw4 hb4 KG KC cb2 lb
      go_wp2_with fail
      refine KG4.out.mono ?_
      rintro e w5 ⟨rfl, hX5, hO5⟩
      have HX5 := Lib.hid hX5
      have HO5 := Lib.hid (HO4.out.trans hO5)
      have cb5 := hO5.cell HZ.out.1 HZ.out.2.1 HZ.out.2.2 cb4
      have HL5 := Lib.hid hX5.leftAt
      clear hX5 hO5 KG4 cb4
      go_wp2
      have hL5 := HL5.out
      have hLA := HLA.out
      have hlf := HLF.out
      have hgl : (giveS R s' i cv).left = s'.left - cv := rfl
      exact ⟨⟨g, _, by rw [← HF.out, HGO.out], by omega, HI2.out, HX5.out, HO5.out, cb5⟩, by omega⟩
set_option maxRecDepth 100000 in
set_option maxHeartbeats 4000000 in
theorem owed26 (X : Tb w0 w T O H la n lc R L s) (hn : n ≤ 4) (I : Inv R n s) (h0 : ∀ i, i < n → (L i).ag ≤ 0 → s.hs i = 0) :
    Calls Try.prog 26 #[.pointer (some ⟨T, 0, none⟩)] w fun e w' => e = .returned (.tuple #[]) ∧ Tb w0 w' T O H la n lc R L (owedS R L n 13 s) ∧ Only3 w w' T O H := by
  have hb1 := blk w (.cells #[.pointer (some ⟨T, 0, none⟩)] 57)
  have HX0 := Lib.hid (X.mono hb1)
  have HB0 := Lib.hid hb1
  have hc0 : (w.alloc (.cells #[.pointer (some ⟨T, 0, none⟩)] 57)).cell? ⟨w.heap.size, 0, none⟩ = some (.pointer (some ⟨T, 0, none⟩)) := by simp [go_sem]
  have HZ := Lib.hid (show T < w.heap.size ∧ O < w.heap.size ∧ H < w.heap.size ∧ w0.heap.size ≤ w.heap.size from ⟨X.t.lt, X.o.lt, X.h.lt, X.bel.size⟩)
  have HI := Lib.hid I
  have H0 := Lib.hid h0
  clear X I h0 hb1
  obtain ⟨i0, hi, hz0, hz1, hz2⟩ := info_split intInfo
  go_enter Try.func26, Try.ntmps26
  go_upto_region 1 with fail
  have HS1 := Lib.hid (show w.heap.size < (w.alloc (.cells #[.pointer (some ⟨T, 0, none⟩)] 57)).heap.size by simp)
  generalize (w.alloc (.cells #[.pointer (some ⟨T, 0, none⟩)] 57)) = w1 at *
  generalize hb : w.heap.size = b at *
  have Hb := Lib.hid hb
  clear hb
  obtain ⟨t0, -, -, -⟩ := HX0.out.cells
  go_wp2_with (refine wpList_make_full _ rfl (.tmp 9) (.tmp 9) 23 rfl w1.heap.size 3 i0 (.int .i64 0) 1 Try.underlying23 hi hz0 hz1 .i64 .i64 (n : Int) (n : Int) n rfl rfl rfl rfl ?c1 ?c2 (Nat.le_refl _) ?_)
  case c1 => first | omega | (rw [hz2]; omega)
  case c2 => unfold maxLen; omega
  intro w2 hown hgrow
  have hV := VAt.made hown
  have hb2 := below_of_grown hgrow
  clear hown hgrow hz1 hz2 hz0 hi t0
  have hb3 := blk w2 (.cells #[.slice (some ⟨w1.heap.size, 0, none⟩) n n] 23)
  have hb13 := bthen' hb2 hb3
  have HX3 := Lib.hid (HX0.out.mono hb13)
  have HO3 := Lib.hid (show Only3 w (w2.alloc (.cells #[.slice (some ⟨w1.heap.size, 0, none⟩) n n] 23)) T O H from Only3.of (by rw [Hb.out]; exact bthen HB0.out hb13 (by have := HS1.out; omega)))
  have HC3 := Lib.hid (up hb13 hc0)
  have hg3 : (w2.alloc (.cells #[.slice (some ⟨w1.heap.size, 0, none⟩) n n] 23)).cell? ⟨w2.heap.size, 0, none⟩ = some (.slice (some ⟨w1.heap.size, 0, none⟩) n n) := by simp [go_sem]
  have HG3 := Lib.hid hg3
  have HV3 := Lib.hid (hV.mono hb3)
  have HS2 := Lib.hid (show w1.heap.size < w2.heap.size from hV.lt)
  clear hb2 hb3 hb13 hg3 hV hc0 HB0 HX0
  go_wp2_with fail
  generalize (w2.alloc (.cells #[.slice (some ⟨w1.heap.size, 0, none⟩) n n] 23)) = w3 at *
  generalize w2.heap.size = g at *
  generalize w1.heap.size = G at *
  go_loopw [3, 4] (fun s3 s4 wr => ∃ (f : Nat) (s' : St) (got : Nat → Int), owedS R L n f s' = owedS R L n 13 s ∧ s'.left < f ∧ Inv R n s' ∧ (∀ i, i < n → (L i).ag ≤ 0 → got i = s'.hs i) ∧ Tb w0 wr T O H la n lc R L s' ∧ Only3 w wr T O H ∧ wr.cell? ⟨b, 0, none⟩ = some (.pointer (some ⟨T, 0, none⟩)) ∧ wr.cell? ⟨g, 0, none⟩ = some (.slice (some ⟨G, 0, none⟩) n n) ∧ VAt wr G n (iv got)) (fun _ _ wr => leftAt T wr)
  case atStart => exact ⟨13, s, fun _ => 0, rfl, by have := HI.out.le; have := HI.out.r12; omega, HI.out, fun i a c => (H0.out i a c).symm, HX3.out, HO3.out, HC3.out, HG3.out, HV3.out⟩
  case round =>
    clear HX3 HO3 HC3 HG3 HV3
    obtain ⟨f, s', got, hf, hlf, hI, hgot, hX, hO, hcb, hcg, hV⟩ := hrel
    have HF := Lib.hid hf
    have HLF := Lib.hid hlf
    have HI' := Lib.hid hI
    have HGT := Lib.hid hgot
    have HX := Lib.hid hX
    have HO := Lib.hid hO
    have HV := Lib.hid hV
    have HLA := Lib.hid hX.leftAt
    have KB := Lib.hid (bestA hX b g G got hcb hcg hV.c hn hI.hs12 (by have := hI.le; have := hI.r12; omega))
    rw [nextO_got hgot] at KB
    have HE := Lib.hid (@owedS_end R L n f s')
    have HSP := Lib.hid (@nextO_spec L n s')
    have hbd := (bestP_bd (fun i => canO L s'.hs i && wantB L s' i) (ahO L) n).1
    have HGO0 := Lib.hid fun g => @owedS_go R L n g s'
    have hbd' : -1 ≤ nextO L n s' := hbd
    clear hX hO hI hf hlf hgot hV hbd
    generalize nextO L n s' = bp at *
    go_wp2_with fail
    refine KB.out.mono ?_
    rintro e w4 ⟨rfl, hb4⟩
    have HX4 := Lib.hid (HX.out.mono hb4)
    have HO4 := Lib.hid (HO.out.below hb4)
    have HV4 := Lib.hid (HV.out.mono hb4)
    have cb4 := up hb4 hcb
    have cg4 := up hb4 hcg
    clear hb4 hcb hcg HX HO HV KB
    by_cases hneg : bp < 0
    · go_wp2
      refine bodyPost_ret (results_none rfl _ _ _) rfl ?_
      exact ⟨rfl, by rw [← HF.out, HE.out hneg]; exact HX4.out, HO4.out⟩
    · obtain ⟨i, rfl⟩ := Int.eq_ofNat_of_zero_le (show 0 ≤ bp by omega)
      obtain ⟨hi, hw, how⟩ := HSP.out (by omega)
      rw [show ((i : Int)).toNat = i by omega] at hi hw how
      have hag := (wantsP_ag hw).1
      have hwl := wantsP_le (L i) (s'.hs i) s'.left
      have hgi := HGT.out i hi hag
      obtain ⟨q, rfl⟩ : ∃ q, f = q + 1 := ⟨f - 1, by have := HLF.out; omega⟩
      have hgo := HGO0.out q (by omega)
      rw [show ((i : Int)).toNat = i by omega] at hgo
      have hsi := HI'.out.hs12 i hi
      have hle := HI'.out.le
      have hr := HI'.out.r12
      have KW := Lib.hid (wants41 HX4.out i hi hn hsi (by omega))
      have HI2 := Lib.hid (HI'.out.give (i := i) hwl)
      have d1 := HV4.out.c i hi
      have fd := HV4.out.fr i
      unfold iv at d1
      rw [hgi] at d1
      have KG := Lib.hid fun (W : World) (XX : Tb w0 W T O H la n lc R L s') => give37 XX i (wantsP (L i) (s'.hs i) s'.left) hi hn hsi hwl hle hr
      have HGO := Lib.hid hgo
      have hgl : (giveS R s' i (wantsP (L i) (s'.hs i) s'.left)).left = s'.left - wantsP (L i) (s'.hs i) s'.left := rfl
      have hgh : (giveS R s' i (wantsP (L i) (s'.hs i) s'.left)).hs = putI s'.hs i (s'.hs i + wantsP (L i) (s'.hs i) s'.left) := rfl
      have HGI := Lib.hid hgi
      clear HSP HE hgo how HGO0 hgi hneg hbd'
      generalize wantsP (L i) (s'.hs i) s'.left = wv at *
      generalize giveS R s' i wv = gs at *
      generalize hhv : s'.hs i = hv at *
      have HHV := Lib.hid hhv
      clear hhv
      have i1 : (0 : Int) ≤ (i : Int) := by omega
      have i2 : (i : Int) < (n : Int) := by omega
      have HGH := Lib.hid hgh
      have HGL := Lib.hid hgl
      clear hgh hgl
      go_wp2_with fail
      refine KW.out.mono ?_
      rintro e w5 ⟨rfl, hb5⟩
      have HX5 := Lib.hid (HX4.out.mono hb5)
      have HO5 := Lib.hid (HO4.out.below hb5)
      have HV5 := Lib.hid (HV4.out.mono hb5)
      have cb5 := up hb5 cb4
      have cg5 := up hb5 cg4
      have d5 := up hb5 d1
      have f5 := upf hb5 HV4.out.lt fd
      clear hb5 HX4 HO4 HV4 cb4 cg4 d1 fd KW
      have z1 := HZ.out
      have z2 := HS1.out
      have z3 := HS2.out
      have HX6 := Lib.hid (HX5.out.far (z := G) (by omega) (by omega) (by omega) (by omega) i (.int .i64 (hv + wv)))
      have HO6 := Lib.hid (HO5.out.setNew (z := G) (by rw [Hb.out]; omega) i (.int .i64 (hv + wv)))
      have HV6 := Lib.hid (HV5.out.setI i (hv + wv))
      have cb6 : (w5.setCell ⟨G, i, none⟩ (.int .i64 (hv + wv))).cell? ⟨b, 0, none⟩ = some (.pointer (some ⟨T, 0, none⟩)) := by rw [cell_set, if_neg (by simp <;> omega)]; exact cb5
      have cg6 : (w5.setCell ⟨G, i, none⟩ (.int .i64 (hv + wv))).cell? ⟨g, 0, none⟩ = some (.slice (some ⟨G, 0, none⟩) n n) := by rw [cell_set, if_neg (by simp <;> omega)]; exact cg5
      have KG6 := Lib.hid (KG.out _ HX6.out)
      clear HX5 HO5 HV5 KG
      go_upto_region 6 with fail
      clear cb5 cg5 d5 f5
      generalize w5.setCell ⟨G, i, none⟩ (.int .i64 (hv + wv)) = w6 at *
      go_wp2_with fail
      refine KG6.out.mono ?_
      rintro e w7 ⟨rfl, hX7, hO7⟩
      have HX7 := Lib.hid hX7
      have HO7 := Lib.hid (HO6.out.trans hO7)
      have HV7 := Lib.hid (hO7.vat (by omega) (by omega) (by omega) HV6.out)
      have cb7 := hO7.cell (by omega) (by omega) (by omega) cb6
      have cg7 := hO7.cell (by omega) (by omega) (by omega) cg6
      have HL7 := Lib.hid hX7.leftAt
      clear hX7 hO7 KG6 HX6 HO6 HV6 cb6 cg6
      go_wp2
      have hL7 := HL7.out
      have hLA := HLA.out
      have hlf := HLF.out
      have hgl := HGL.out
      exact ⟨⟨q, _, _, by rw [← HF.out, HGO.out], by omega, HI2.out, fun j hj ha => by
        rw [HGH.out]
        unfold putI
        split
        · rfl
        · exact HGT.out j hj ha, HX7.out, HO7.out, cb7, cg7, HV7.out⟩, by omega⟩
end
end Go.Proofs.Ytdcogbokcbpnnaa
