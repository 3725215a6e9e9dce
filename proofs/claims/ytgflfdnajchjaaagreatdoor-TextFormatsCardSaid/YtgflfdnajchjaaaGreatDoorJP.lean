import Derived.Test.YtgflfdnajchjaaaGreatDoorJN
import Derived.Test.YtgflfdnajchjaaaGreatDoorJO
/- Layer 45: a line is read by the program. -/
namespace Go.Proofs.YtgflfdnajchjaaaGreatDoor
set_option linter.unusedVariables false
set_option linter.unusedSimpArgs false
open Go.RowKit Go.Sort
open Go.Lib (itoa atoiAll decDigits)
theorem bs_tl (l : List UInt8) : (bs l).toList = l := by rw [ByteArray.toList_eq]; exact bs_toList l
attribute [local go_sem] gcell bs_tl
set_option maxRecDepth 100000 in
set_option maxHeartbeats 2000000 in
theorem read56 (kd : Nat) (hk : kd < 8) (s : ByteArray) (hs : s.size ≤ 1000000) (b : Nat) (l : List Addr) (w : World) (G : Gl w) (HP : PtrAt w b l) (hbw : b < w.heap.size) (hbl : ∀ a ∈ l, a.block ≠ b) (h16 : ∀ a ∈ l, 8 ≤ a.block) (HT : TgtN w l w.heap.size) (hl : l.length ≤ 100) :
    Calls Tryz.prog 56 #[.string s, .int .i64 kd, .slice (some ⟨b, 0, none⟩) l.length l.length] w (ReadPost w l (readS (wordAt kd) l.length s.data.toList)) := by
  have hix := fun wx => run_index_words wx kd hk
  have HHead := Lib.hid (fun h => readS_head (word := wordAt kd) (k := l.length) (s := s.data.toList) h)
  have HShort := Lib.hid (fun h => readS_short (word := wordAt kd) (k := l.length) (s := s.data.toList) h)
  have HFail := Lib.hid (fun t j => readS_fail (word := wordAt kd) (k := l.length) (s := s.data.toList) (t := t) (j := j))
  have HEnd := Lib.hid (fun t ns => readS_end (word := wordAt kd) (k := l.length) (s := s.data.toList) (t := t) (ns := ns))
  have HLen := Lib.hid (spl_len 32 s.data.toList)
  have HCnt := Lib.hid (spl_count 32 s.data.toList)
  have HNe := Lib.hid (spl_ne 32 s.data.toList)
  have K := Lib.hid (split35 s hs 32 w G)
  have hsz : s.data.toList.length = s.size := by simp
  generalize readS (wordAt kd) l.length s.data.toList = o at *
  have HSZ := Lib.hid hsz
  clear hsz
  generalize spl 32 s.data.toList = L at *
  go_enter Tryz.func56, Tryz.ntmps56
  go_wp2_with (go_at_call 35; refine K.out.mono ?_; rintro e w1 ⟨rfl, hS, hb1, hz1⟩; refine Hid.out ?_)
  refine Lib.hid ?_
  have HS := Lib.hid hS
  have HB1 := Lib.hid hb1
  have HZ1 := Lib.hid hz1
  clear hS hb1 hz1 K
  rcases L with _ | ⟨w0, t⟩
  · exact absurd rfl HNe.out
  have hc0 := HS.out 0 (by simp)
  have hc1 : w1.cell? ⟨w.heap.size, 0, none⟩ = some (.string (bs w0)) := hc0
  clear hc0
  have hd := lt_of_cell hc1
  by_cases hh : w0 = wordAt kd
  · subst hh
    have heq : (wordAt kd == wordAt kd) = true := beq_self_eq_true _
    have HTL := Lib.hid (show t.length ≤ 1000000 by have := HCnt.out; rw [HSZ.out] at this; simp only [List.length_cons] at this; omega)
    have e1 : IntKind.i64.wrap (1 + (l.length : Int)) = 1 + (l.length : Int) := IntWalk.i64_in _ (by omega)
    by_cases hsh : t.length < l.length
    · have hd2 : decide ((t.length : Int) + 1 < 1 + (l.length : Int)) = true := decide_eq_true (by omega)
      have HO := Lib.hid (HShort.out (by simp only [List.length_cons]; omega))
      go_wp2
      refine wp_region_quiet_below (by kernel_rfl) (by kernel_rfl) ?_
      repeat (go_big_quiet_step (first | (go_at_call 51; exact Calls.regrown_of (words51 _))))
      refine wpQuiet_nil ?_
      intro w2 hw2
      have HB2 := Lib.hid (bthen' HB1.out (below_of_regrown hw2))
      clear hw2
      go_wp2
      go_ret2
      rw [HO.out]
      exact ⟨rfl, read_early HB2.out⟩
    · have hd2 : decide ((t.length : Int) + 1 < 1 + (l.length : Int)) = false := decide_eq_false (by omega)
      go_wp2
      refine wp_region_quiet_below (by kernel_rfl) (by kernel_rfl) ?_
      repeat (go_big_quiet_step (first | (go_at_call 51; exact Calls.regrown_of (words51 _))))
      refine wpQuiet_nil ?_
      intro w2 hw2
      have HB2 := Lib.hid (below_of_regrown hw2)
      clear hw2 hix
      have HHP := Lib.hid HP
      have HHT := Lib.hid HT
      have Hbl := Lib.hid hbl
      have H16 := Lib.hid h16
      have hl2 : l.length ≤ t.length := by omega
      clear HP HT hbl h16 hd2 heq e1 hc1 hd hsh
      go_wp2
      simp only [List.length_cons]
      go_loopw [32] (fun i wr => ∃ (j : Nat) (ns : List Int), j ≤ l.length ∧ i = .int .i64 j ∧ ns.length = j ∧ (∀ n ∈ ns, smallI n) ∧ t.take j = ns.map itoa ∧ Below (w.heap.size + 1) (putN w1 (l.take j) ns) wr) (fun i _ => l.length - (intOf i).toNat)
      case atStart => exact ⟨0, [], Nat.zero_le _, rfl, rfl, by simp, rfl, by rw [putN_nil]; exact HB2.out.mono (by rw [HZ1.out]; exact Nat.le_refl _)⟩
      case round =>
        obtain ⟨j, ns, hj, rfl, hnl, hsm, htk, hbr⟩ := hrel
        have HNL := Lib.hid hnl
        have HSM := Lib.hid hsm
        have HTK := Lib.hid htk
        have HR := Lib.hid hbr
        clear hnl hsm htk hbr
        by_cases hlt : j < l.length
        · have hcP : wr.cell? ⟨b, j, none⟩ = some (.pointer (some (l.getD j ⟨0, 0, none⟩))) := by
            rw [HR.out.cell (p := ⟨b, j, none⟩) (show b < w.heap.size + 1 by omega), putN_cell _ _ _ (fun a ha e => Hbl.out a (List.mem_of_mem_take ha) (by rw [e]))]
            exact (HHP.out.mono HB1.out) j hlt
          have hcS : wr.cell? ⟨w.heap.size, 1 + j, none⟩ = some (.string (bs (t.getD j []))) := by
            have h1 := HS.out (1 + j) (by simp only [List.length_cons]; omega)
            rw [HR.out.cell (p := ⟨w.heap.size, 1 + j, none⟩) (show w.heap.size < w.heap.size + 1 by omega), putN_cell _ _ _ (fun a ha e => by
              have := (HHT.out a (List.mem_of_mem_take ha)).1
              rw [e] at this
              exact absurd this (Nat.lt_irrefl _))]
            rw [Nat.zero_add, Nat.add_comm 1 j] at h1
            rw [Nat.add_comm 1 j]
            exact h1
          have HB16 := Lib.hid (show Below 8 w wr from ((HB1.out.mono G.sz).trans (putN_base _ _ _ fun a ha => H16.out a (List.mem_of_mem_take ha))).trans (HR.out.mono (by have := G.sz; omega)))
          have GR := G.on HB16.out (Nat.le_refl _)
          have HG := Lib.hid (fun (W : World) (hb : Below wr.heap.size wr W) => GR.mono hb)
          have hjt : j < t.length := by omega
          have hwl : (bs (t.getD j [])).size ≤ 1000000 := by
            have h1 := HLen.out (t.getD j []) (by rw [List.getD_eq_getElem?_getD, List.getElem?_eq_getElem hjt]; exact List.mem_cons_of_mem _ (List.getElem_mem hjt))
            rw [HSZ.out] at h1
            rw [bs_size]; omega
          have HF := Lib.hid (HFail.out t j rfl hlt)
          have hTa : l.getD j ⟨0, 0, none⟩ ∈ l := by rw [List.getD_eq_getElem?_getD, List.getElem?_eq_getElem hlt]; exact List.getElem_mem hlt
          have HTG := Lib.hid (((HHT.out.on HB1.out (Nat.le_refl _)).put (l.take j) ns).on HR.out (Nat.le_succ _) _ hTa)
          have HTS := Lib.hid (show t.take (j + 1) = t.take j ++ [t.getD j []] by rw [List.take_succ_eq_append_getElem hjt, List.getD_eq_getElem?_getD, List.getElem?_eq_getElem hjt]; rfl)
          have HLS := Lib.hid (show l.take (j + 1) = l.take j ++ [l.getD j ⟨0, 0, none⟩] by rw [List.take_succ_eq_append_getElem hlt, List.getD_eq_getElem?_getD, List.getElem?_eq_getElem hlt]; rfl)
          have HAA := Lib.hid (HHT.out _ hTa).1
          clear hTa GR
          generalize t.getD j [] = wj at *
          generalize l.getD j ⟨0, 0, none⟩ = a at *
          have HBad := Lib.hid (show ∀ W, Below wr.heap.size wr W → ∃ ns : List Int, ns.length ≤ l.length ∧ Below w.heap.size (putN w (l.take ns.length) ns) W from fun W hb => ⟨ns, by rw [HNL.out]; exact hj, by
            rw [HNL.out]
            exact ((putN_below (l.take j) ns HB1.out).trans (HR.out.mono (Nat.le_succ _))).trans (hb.mono (Nat.le_trans HB1.out.size (Nat.le_trans (by rw [← putN_size (l.take j) ns w1]; exact Nat.le_refl _) HR.out.size)))⟩)
          cases hr : rdW wj with
          | some x =>
            obtain ⟨rfl, hsx⟩ := rdW_some.1 hr
            have KA := Lib.hid (atoi_ok88 (bs (itoa x)) hwl x (by rw [bs_toList]; exact atoiAll_itoa hsx))
            have hx1 := hsx.1
            have hx2 := hsx.2
            have HSX := Lib.hid hsx
            have KI := Lib.hid (itoa52 x (by omega) (by omega))
            have heq : (itoa x == itoa x) = true := beq_self_eq_true _
            clear hr hsx
            go_wp2_with (go_at_call 88; refine (KA.out _).mono ?_; rintro e w3 ⟨rfl, hb3⟩; refine Hid.out ?_)
            refine Lib.hid ?_
            have HB3 := Lib.hid hb3
            clear hb3
            have hcS3 := up HB3.out hcS
            have dx1 : decide (x < -1099511627776) = false := decide_eq_false (by omega)
            have dx2 : decide (1099511627776 < x) = false := decide_eq_false (by omega)
            have hd3 := lt_of_cell hcS3
            have e1 : IntKind.i64.wrap (1 + (j : Int)) = 1 + (j : Int) := IntWalk.i64_in _ (by omega)
            have HG3 := Lib.hid (fun d os => HG.out (grow (redrawn w3 d) os) (bthen' HB3.out (below_regrown w3 d os)))
            go_wp2
            refine wp_region_quiet_below (by kernel_rfl) (by kernel_rfl) ?_
            repeat (go_big_quiet_step (first | (go_at_call 52; exact Calls.regrown_of (KI.out _ (HG3.out _ _)))))
            refine wpQuiet_nil ?_
            intro w4 hw4
            have HB4 := Lib.hid (bthen' HB3.out (below_of_regrown hw4))
            obtain ⟨g1, ⟨v0, g2⟩, g3⟩ := HTG.out
            have hc4 : w4.cell? a = some v0 := (HB4.out.cell (World.block_lt_of_cell? _ _ g2)).trans g2
            have hf4 : w4.frozen? a = false := (HB4.out.frozen (World.block_lt_of_cell? _ _ g2)).trans g3
            clear hw4 g1 g2 g3 hcS3 hcS hcP
            go_wp2
            go_roundw
            case rel =>
              refine ⟨j + 1, ns ++ [x], by omega, by go_num, by rw [List.length_append, HNL.out]; rfl, fun n hn => ?_, ?_, ?_⟩
              · rcases List.mem_append.1 hn with h | h
                · exact HSM.out n h
                · rw [List.mem_singleton.1 h]; exact HSX.out
              · rw [HTS.out, HTK.out, List.map_append]; rfl
              · rw [HLS.out, putN_snoc _ _ _ _ _ (by rw [List.length_take, HNL.out]; omega)]
                exact below_both (HR.out.trans (HB4.out.mono (Nat.le_trans (by rw [← HZ1.out, ← putN_size (l.take j) ns w1]; exact Nat.le_refl _) HR.out.size))) _ _
            case measure => simp [intOf]; omega
          | none =>
            have HO := Lib.hid (HF.out hr)
            cases ha : atoiAll wj with
            | ok x =>
              have hxb := Lib.atoiAll_bounds ha
              have KA := Lib.hid (atoi_ok88 (bs wj) hwl x (by rw [bs_toList]; exact ha))
              have KI := Lib.hid (itoa52 x hxb.1 hxb.2)
              by_cases hxe : itoa x = wj
              · have hxn : x < -1099511627776 ∨ 1099511627776 < x := by
                  unfold rdW at hr
                  rw [ha] at hr
                  simp only at hr
                  by_cases h : -1099511627776 ≤ x ∧ x ≤ 1099511627776
                  · rw [if_pos ⟨hxe, h⟩] at hr; cases hr
                  · omega
                have heq : (itoa x == itoa x) = true := beq_self_eq_true _
                have e1 : IntKind.i64.wrap (1 + (j : Int)) = 1 + (j : Int) := IntWalk.i64_in _ (by omega)
                subst hxe
                clear hr ha
                rcases hxn with hxn | hxn
                · have dx1 : decide (x < -1099511627776) = true := decide_eq_true (by omega)
                  go_wp2_with (go_at_call 88; refine (KA.out _).mono ?_; rintro e w3 ⟨rfl, hb3⟩; refine Hid.out ?_)
                  refine Lib.hid ?_
                  have HB3 := Lib.hid hb3
                  have hcS3 := up hb3 hcS
                  have hd3 := lt_of_cell hcS3
                  have HG3 := Lib.hid (fun d os => HG.out (grow (redrawn w3 d) os) (bthen' HB3.out (below_regrown w3 d os)))
                  clear hb3
                  go_wp2
                  refine wp_region_quiet_below (by kernel_rfl) (by kernel_rfl) ?_
                  repeat (go_big_quiet_step (first | (go_at_call 52; exact Calls.regrown_of (KI.out _ (HG3.out _ _)))))
                  refine wpQuiet_nil ?_
                  intro w4 hw4
                  have HB4 := Lib.hid (bthen' HB3.out (below_of_regrown hw4))
                  clear hw4
                  go_wp2
                  go_ret2
                  rw [HO.out]
                  exact ⟨rfl, HBad.out _ HB4.out⟩
                · have dx1 : decide (x < -1099511627776) = false := decide_eq_false (by omega)
                  have dx2 : decide (1099511627776 < x) = true := decide_eq_true (by omega)
                  go_wp2_with (go_at_call 88; refine (KA.out _).mono ?_; rintro e w3 ⟨rfl, hb3⟩; refine Hid.out ?_)
                  refine Lib.hid ?_
                  have HB3 := Lib.hid hb3
                  have hcS3 := up hb3 hcS
                  have hd3 := lt_of_cell hcS3
                  have HG3 := Lib.hid (fun d os => HG.out (grow (redrawn w3 d) os) (bthen' HB3.out (below_regrown w3 d os)))
                  clear hb3
                  go_wp2
                  refine wp_region_quiet_below (by kernel_rfl) (by kernel_rfl) ?_
                  repeat (go_big_quiet_step (first | (go_at_call 52; exact Calls.regrown_of (KI.out _ (HG3.out _ _)))))
                  refine wpQuiet_nil ?_
                  intro w4 hw4
                  have HB4 := Lib.hid (bthen' HB3.out (below_of_regrown hw4))
                  clear hw4
                  go_wp2
                  go_ret2
                  rw [HO.out]
                  exact ⟨rfl, HBad.out _ HB4.out⟩
              · have heq : (itoa x == wj) = false := beq_false_of_ne hxe
                have e1 : IntKind.i64.wrap (1 + (j : Int)) = 1 + (j : Int) := IntWalk.i64_in _ (by omega)
                clear hr ha
                go_wp2_with (go_at_call 88; refine (KA.out _).mono ?_; rintro e w3 ⟨rfl, hb3⟩; refine Hid.out ?_)
                refine Lib.hid ?_
                have HB3 := Lib.hid hb3
                have hcS3 := up hb3 hcS
                have hd3 := lt_of_cell hcS3
                have HG3 := Lib.hid (fun d os => HG.out (grow (redrawn w3 d) os) (bthen' HB3.out (below_regrown w3 d os)))
                clear hb3
                go_wp2
                refine wp_region_quiet_below (by kernel_rfl) (by kernel_rfl) ?_
                repeat (go_big_quiet_step (first | (go_at_call 52; exact Calls.regrown_of (KI.out _ (HG3.out _ _)))))
                refine wpQuiet_nil ?_
                intro w4 hw4
                have HB4 := Lib.hid (bthen' HB3.out (below_of_regrown hw4))
                clear hw4
                go_wp2
                go_ret2
                rw [HO.out]
                exact ⟨rfl, HBad.out _ HB4.out⟩
            | _ =>
              have hbad : ∀ v, atoiAll wj ≠ .ok v := fun v h => by rw [ha] at h; cases h
              have KA := Lib.hid (atoi_bad88 (bs wj) hwl (by rw [bs_toList]; exact hbad) wr (HG.out wr (Below.refl _ _)))
              clear hr ha hbad
              go_wp2_with (go_at_call 88; refine KA.out.mono ?_; rintro e w3 ⟨x, tp, pp, rfl, hb3⟩; refine Hid.out ?_)
              refine Lib.hid ?_
              have HB3 := Lib.hid hb3
              have hcS3 := up hb3 hcS
              have hd3 := lt_of_cell hcS3
              clear hb3
              go_wp2
              refine wp_region_quiet_below (by kernel_rfl) (by kernel_rfl) ?_
              repeat (go_big_quiet_step (fail))
              refine wpQuiet_nil ?_
              intro w4 hw4
              have HB4 := Lib.hid (bthen' HB3.out (below_of_regrown hw4))
              clear hw4
              go_wp2
              go_ret2
              rw [HO.out]
              exact ⟨rfl, HBad.out _ HB4.out⟩
        · obtain rfl : j = l.length := by omega
          have HO := Lib.hid (HEnd.out t ns rfl HNL.out HSM.out HTK.out)
          have e1 : IntKind.i64.wrap (1 + (l.length : Int)) = 1 + (l.length : Int) := IntWalk.i64_in _ (by omega)
          have HFin := Lib.hid (show Below w.heap.size (putN w l ns) wr by
            have h1 := putN_below l ns HB1.out
            have h2 := HR.out.mono (Nat.le_succ w.heap.size)
            rw [List.take_length] at h2
            exact h1.trans h2)
          have HStr := Lib.hid (show StrAt wr w.heap.size (1 + l.length) (t.drop l.length) from fun k hk => by
            rw [List.length_drop] at hk
            have h1 := HS.out (1 + l.length + k) (by simp only [List.length_cons]; omega)
            rw [HR.out.cell (p := ⟨w.heap.size, 1 + l.length + k, none⟩) (show w.heap.size < w.heap.size + 1 by omega), putN_cell _ _ _ (fun a ha e => by
              have := (HHT.out a (List.mem_of_mem_take ha)).1
              rw [e] at this
              exact absurd this (Nat.lt_irrefl _))]
            rw [Nat.zero_add] at h1
            rw [h1]
            congr 3
            rw [List.getD_eq_getElem?_getD, List.getD_eq_getElem?_getD, List.getElem?_drop, show 1 + l.length + k = (l.length + k) + 1 by omega]
            rfl)
          have hdl : (t.drop l.length).length = t.length - l.length := List.length_drop
          have e2 : (t.drop l.length).length = t.length + 1 - (1 + l.length) := by omega
          go_wp2
          · go_ret2
            rw [HO.out]
            have e3 : (t.drop l.length).length = 0 := by omega
            refine ⟨⟨_, _, by rw [e3]; rfl, by rw [e3]; exact Nat.zero_le _, fun h0 => by omega⟩, HFin.out⟩
          · go_ret2
            rw [HO.out]
            refine ⟨⟨_, _, by rw [e2]; rfl, by rw [e2]; exact Nat.le_refl _, fun h0 => ⟨_, _, rfl, Nat.le_refl _, HStr.out⟩⟩, HFin.out⟩
  · have hne : (w0 == wordAt kd) = false := beq_false_of_ne hh
    go_wp2
    refine wp_region_quiet_below (by kernel_rfl) (by kernel_rfl) ?_
    repeat (go_big_quiet_step (first | (go_at_call 51; exact Calls.regrown_of (words51 _))))
    refine wpQuiet_nil ?_
    intro w2 hw2
    have HB2 := Lib.hid (bthen' HB1.out (below_of_regrown hw2))
    have HO := Lib.hid (HHead.out hh)
    clear hw2
    go_wp2
    go_ret2
    rw [HO.out]
    exact ⟨rfl, read_early HB2.out⟩
end Go.Proofs.YtgflfdnajchjaaaGreatDoor
/- Layer 45: a line of numbers alone is read by the program. -/
namespace Go.Proofs.YtgflfdnajchjaaaGreatDoor
set_option linter.unusedVariables false
set_option linter.unusedSimpArgs false
open Go.RowKit Go.Sort
open Go.Lib (itoa atoiAll decDigits)
def WholePost (w : World) (l : List Addr) (o : Option (List Int)) (e : Ending) (w' : World) : Prop := match o with
  | none => e = .returned (.bool false) ∧ ∃ ns : List Int, ns.length ≤ l.length ∧ Below w.heap.size (putN w (l.take ns.length) ns) w'
  | some ns => e = .returned (.bool true) ∧ Below w.heap.size (putN w l ns) w'
set_option maxRecDepth 100000 in
set_option maxHeartbeats 2000000 in
theorem whole36 (kd : Nat) (hk : kd < 8) (s : ByteArray) (hs : s.size ≤ 1000000) (b : Nat) (l : List Addr) (w : World) (G : Gl w) (HP : PtrAt w b l) (hbw : b < w.heap.size) (hbl : ∀ a ∈ l, a.block ≠ b) (h16 : ∀ a ∈ l, 8 ≤ a.block) (HT : TgtN w l w.heap.size) (hl : l.length ≤ 100) :
    Calls Tryz.prog 36 #[.string s, .int .i64 kd, .slice (some ⟨b, 0, none⟩) l.length l.length] w (WholePost w l (okW (readS (wordAt kd) l.length s.data.toList))) := by
  have K := Lib.hid (read56 kd hk s hs b l w G HP hbw hbl h16 HT hl)
  have HLn := Lib.hid (fun ns r (h : readS (wordAt kd) l.length s.data.toList = some (ns, r)) => (readS_some.1 h).1)
  clear HP hbw hbl h16 HT hl G hs hk
  generalize readS (wordAt kd) l.length s.data.toList = o at *
  rcases o with _ | ⟨ns, r⟩
  · go_enter Tryz.func36, Tryz.ntmps36
    go_wp2_with (go_at_call 56; refine K.out.mono ?_; rintro e w1 ⟨rfl, hb⟩; have HB := Lib.hid hb; clear hb)
    go_ret
    exact ⟨rfl, HB.out⟩
  · have HW := Lib.hid (show ∀ w1, Below w.heap.size (putN w l ns) w1 → ∃ ns : List Int, ns.length ≤ l.length ∧ Below w.heap.size (putN w (l.take ns.length) ns) w1 from fun w1 hb => ⟨ns, by rw [HLn.out ns r rfl]; exact Nat.le_refl _, by rw [HLn.out ns r rfl, List.take_length]; exact hb⟩)
    rcases r with _ | ⟨x, r⟩
    · go_enter Tryz.func36, Tryz.ntmps36
      go_wp2_with (go_at_call 56; refine K.out.mono ?_; rintro e w1 ⟨⟨a, c, rfl, hc, -⟩, hb⟩; have HB := Lib.hid hb; clear hb)
      go_ret
      exact ⟨rfl, HB.out⟩
    · have hd : decide ((r.length : Int) + 1 = 0) = false := decide_eq_false (by omega)
      go_enter Tryz.func36, Tryz.ntmps36
      go_wp2_with (go_at_call 56; refine K.out.mono ?_; rintro e w1 ⟨⟨a, c, rfl, hc, -⟩, hb⟩; have HB := Lib.hid hb; clear hb)
      go_ret
      exact ⟨ret_bool (by simp; try omega), HW.out _ HB.out⟩
end Go.Proofs.YtgflfdnajchjaaaGreatDoor
/- Layer 45: a line of numbers is read into boxes. -/
namespace Go.Proofs.YtgflfdnajchjaaaGreatDoor
set_option linter.unusedVariables false
set_option linter.unusedSimpArgs false
open Go.RowKit Go.Sort
open Tm
def setC : Array Value → List Nat → List Int → Array Value
  | cs, k :: ks, x :: xs => setC (cs.setIfInBounds k (.int .i64 x)) ks xs
  | cs, _, _ => cs
theorem setC_nil (cs : Array Value) (ks : List Nat) : setC cs ks [] = cs := by cases ks <;> rfl
theorem heap_putN_same {z e : Nat} {fz : Nat × Nat} : ∀ (ks : List Nat) (xs : List Int) {w : World} {cs : Array Value}, w.heap[z]? = some (.cells cs e fz) → (putN w (adr z ks) xs).heap[z]? = some (.cells (setC cs ks xs) e fz)
  | [], xs, w, cs, h => h
  | k :: ks, [], w, cs, h => h
  | k :: ks, x :: xs, w, cs, h => heap_putN_same ks xs (heap_set_same h _)
theorem heap_putN_other {z i : Nat} (hi : i ≠ z) : ∀ (ks : List Nat) (xs : List Int) {w : World}, (putN w (adr z ks) xs).heap[i]? = w.heap[i]?
  | [], xs, w => rfl
  | k :: ks, [], w => rfl
  | k :: ks, x :: xs, w => (heap_putN_other hi ks xs (w := w.setCell ⟨z, k, none⟩ (.int .i64 x))).trans (heap_set_other _ hi)
theorem setC_zero : ∀ (ks : List Nat) (cs : Array Value) (m : Nat), (∀ k ∈ ks, cs[k]? = some (.int .i64 0)) → setC cs ks (List.replicate m 0) = cs
  | [], cs, m, h => by cases m <;> rfl
  | k :: ks, cs, 0, h => rfl
  | k :: ks, cs, m + 1, h => by
    have h0 := h k (by simp)
    have e : cs.setIfInBounds k (.int .i64 0) = cs := by
      apply Array.ext_getElem?
      intro i
      rw [Array.getElem?_setIfInBounds]
      split
      · rename_i hki
        subst hki
        have hlt : k < cs.size := (Array.getElem?_eq_some_iff.1 h0).1
        simp [hlt] at h0 ⊢
        exact h0.symm
      · rfl
    rw [List.replicate_succ, setC, e]
    exact setC_zero ks cs m fun j hj => h j (by simp [hj])
theorem setC_pad : ∀ (ks : List Nat) (cs : Array Value) (ns : List Int) (m : Nat), (∀ k ∈ ks, cs[k]? = some (.int .i64 0)) → ks.Nodup → setC cs (ks.take ns.length) ns = setC cs ks (ns ++ List.replicate m 0)
  | [], cs, ns, m, h, hn => by cases ns <;> cases m <;> rfl
  | k :: ks, cs, [], m, h, hn => by rw [List.nil_append, setC_zero _ _ _ h]; rfl
  | k :: ks, cs, x :: ns, m, h, hn => by
    have hn2 := List.nodup_cons.1 hn
    show setC (cs.setIfInBounds k (.int .i64 x)) (ks.take ns.length) ns = setC (cs.setIfInBounds k (.int .i64 x)) ks (ns ++ List.replicate m 0)
    exact setC_pad ks _ ns m (fun j hj => by
      have hkj : k ≠ j := fun e => hn2.1 (by rw [e]; exact hj)
      rw [Array.getElem?_setIfInBounds_ne hkj]
      exact h j (by simp [hj])) hn2.2
theorem adr_take (z : Nat) (ks : List Nat) (m : Nat) : (adr z ks).take m = adr z (ks.take m) := by simp [adr, List.map_take]
theorem adr_len (z : Nat) (ks : List Nat) : (adr z ks).length = ks.length := by simp [adr]
theorem adr_mem {z : Nat} {ks : List Nat} {a : Addr} (h : a ∈ adr z ks) : ∃ k ∈ ks, a = ⟨z, k, none⟩ := by
  obtain ⟨k, hk, rfl⟩ := List.mem_map.1 h
  exact ⟨k, hk, rfl⟩
/-- How a line of numbers was read. -/
def BoxRes (o : Option (List Int)) (ok : Bool) (vs : List Int) : Prop := match o with
  | some ns => ok = true ∧ vs = ns
  | none => ok = false
theorem okW_len {k : Nat} {word s : List UInt8} {ns : List Int} (h : okW (readS word k s) = some ns) : ns.length = k := (readS_some.1 (okW_some.1 h)).1
/-- One box. -/
theorem whole_box (kd : Nat) (hk : kd < 8) (s : ByteArray) (hs : s.size ≤ 1000000) (b zb : Nat) (ks : List Nat) (cs0 : Array Value) (e0 : Nat) (w : World) (G : Gl w) (HP : PtrAt w b (adr zb ks)) (hbw : b < w.heap.size) (hzb : w.heap[zb]? = some (.cells cs0 e0 (0, 0))) (hne : zb ≠ b) (h16 : 8 ≤ zb)
    (hin : ∀ k ∈ ks, cs0[k]? = some (.int .i64 0)) (hnd : ks.Nodup) (hl : ks.length ≤ 100) :
    Calls Tryz.prog 36 #[.string s, .int .i64 kd, .slice (some ⟨b, 0, none⟩) ks.length ks.length] w fun e w' => ∃ ok vs, e = .returned (.bool ok) ∧ vs.length = ks.length ∧ w'.heap[zb]? = some (.cells (setC cs0 ks vs) e0 (0, 0)) ∧ (∀ i, i < w.heap.size → i ≠ zb → w'.heap[i]? = w.heap[i]?) ∧ Below zb w w' ∧ BoxRes (okW (readS (wordAt kd) ks.length s.data.toList)) ok vs := by
  have hzl := heap_lt hzb
  have K := whole36 kd hk s hs b (adr zb ks) w G HP hbw (fun a ha => by obtain ⟨k, -, rfl⟩ := adr_mem ha; exact hne) (fun a ha => by obtain ⟨k, -, rfl⟩ := adr_mem ha; exact h16) (fun a ha => by
    obtain ⟨k, hk, rfl⟩ := adr_mem ha
    exact ⟨hzl, ⟨_, cell_box hzb (hin k hk)⟩, frozen_of_row w zb k cs0 e0 hzb⟩) (by rw [adr_len]; exact hl)
  rw [adr_len] at K
  refine K.mono fun e w' h => ?_
  have hB : ∀ xs, Below zb w (putN w (adr zb xs) []) := fun xs => by rw [putN_nil]; exact Below.refl _ _
  have hbase : ∀ (js : List Nat) (xs : List Int), Below zb w (putN w (adr zb js) xs) := fun js xs => putN_base _ _ _ fun a ha => by obtain ⟨k, -, rfl⟩ := adr_mem ha; exact Nat.le_refl _
  cases ho : okW (readS (wordAt kd) ks.length s.data.toList) with
  | some ns =>
    rw [ho] at h
    obtain ⟨he, hb⟩ := h
    refine ⟨true, ns, he, okW_len ho, ?_, fun i hi hiz => ?_, (hbase ks ns).trans (hb.mono (Nat.le_of_lt hzl)), rfl, rfl⟩
    · rw [hb.block zb hzl]; exact heap_putN_same ks ns hzb
    · rw [hb.block i hi]; exact heap_putN_other hiz ks ns
  | none =>
    rw [ho] at h
    obtain ⟨he, ns, hn, hb⟩ := h
    rw [adr_len] at hn
    rw [adr_take] at hb
    refine ⟨false, ns ++ List.replicate (ks.length - ns.length) 0, he, by rw [List.length_append, List.length_replicate]; omega, ?_, fun i hi hiz => ?_, (hbase _ ns).trans (hb.mono (Nat.le_of_lt hzl)), rfl⟩
    · rw [hb.block zb hzl, heap_putN_same _ ns hzb, setC_pad _ _ _ _ hin hnd]
    · rw [hb.block i hi]; exact heap_putN_other hiz _ ns
theorem putN_append : ∀ (l1 l2 : List Addr) (ns : List Int) (w : World), putN w (l1 ++ l2) ns = putN (putN w l1 (ns.take l1.length)) l2 (ns.drop l1.length)
  | [], l2, ns, w => rfl
  | a :: l1, l2, [], w => by
    rw [putN_nil]
    simp only [List.take_nil, List.drop_nil, putN_nil]
  | a :: l1, l2, x :: ns, w => putN_append l1 l2 ns (w.setCell a (.int .i64 x))
set_option maxHeartbeats 1000000 in
/-- Two boxes. -/
theorem whole_box2 (kd : Nat) (hk : kd < 8) (s : ByteArray) (hs : s.size ≤ 1000000) (b zb zk : Nat) (ks js : List Nat) (cs0 ds0 : Array Value) (e0 e1 : Nat) (w : World) (G : Gl w) (HP : PtrAt w b (adr zb ks ++ adr zk js)) (hbw : b < w.heap.size) (hzb : w.heap[zb]? = some (.cells cs0 e0 (0, 0))) (hzk : w.heap[zk]? = some (.cells ds0 e1 (0, 0))) (hne : zb ≠ b) (hne2 : zk ≠ b) (hlt : zb < zk) (h16 : 8 ≤ zb)
    (hin : ∀ k ∈ ks, cs0[k]? = some (.int .i64 0)) (hnd : ks.Nodup) (hin2 : ∀ k ∈ js, ds0[k]? = some (.int .i64 0)) (hnd2 : js.Nodup) (hl : ks.length + js.length ≤ 100) :
    Calls Tryz.prog 36 #[.string s, .int .i64 kd, .slice (some ⟨b, 0, none⟩) (ks.length + js.length) (ks.length + js.length)] w fun e w' => ∃ ok vs, e = .returned (.bool ok) ∧ vs.length = ks.length + js.length ∧ w'.heap[zb]? = some (.cells (setC cs0 ks (vs.take ks.length)) e0 (0, 0)) ∧ w'.heap[zk]? = some (.cells (setC ds0 js (vs.drop ks.length)) e1 (0, 0)) ∧ (∀ i, i < w.heap.size → i ≠ zb → i ≠ zk → w'.heap[i]? = w.heap[i]?) ∧ Below zb w w' ∧ BoxRes (okW (readS (wordAt kd) (ks.length + js.length) s.data.toList)) ok vs := by
  have hzl := heap_lt hzb
  have hkl := heap_lt hzk
  have hzz : zb ≠ zk := by omega
  have K := whole36 kd hk s hs b (adr zb ks ++ adr zk js) w G HP hbw (fun a ha => by
    rcases List.mem_append.1 ha with ha | ha
    · obtain ⟨k, -, rfl⟩ := adr_mem ha; exact hne
    · obtain ⟨k, -, rfl⟩ := adr_mem ha; exact hne2) (fun a ha => by
    rcases List.mem_append.1 ha with ha | ha
    · obtain ⟨k, -, rfl⟩ := adr_mem ha; exact h16
    · obtain ⟨k, -, rfl⟩ := adr_mem ha; show 8 ≤ zk; omega) (fun a ha => by
    rcases List.mem_append.1 ha with ha | ha
    · obtain ⟨k, hk, rfl⟩ := adr_mem ha
      exact ⟨hzl, ⟨_, cell_box hzb (hin k hk)⟩, frozen_of_row w zb k cs0 e0 hzb⟩
    · obtain ⟨k, hk, rfl⟩ := adr_mem ha
      exact ⟨hkl, ⟨_, cell_box hzk (hin2 k hk)⟩, frozen_of_row w zk k ds0 e1 hzk⟩) (by rw [List.length_append, adr_len, adr_len]; exact hl)
  rw [List.length_append, adr_len, adr_len] at K
  refine K.mono fun e w' h => ?_
  have hbase : ∀ (j1 j2 : List Nat) (x1 x2 : List Int), Below zb w (putN (putN w (adr zb j1) x1) (adr zk j2) x2) := fun j1 j2 x1 x2 => (putN_base _ _ _ fun a ha => by obtain ⟨k, -, rfl⟩ := adr_mem ha; exact Nat.le_refl _).trans (putN_base _ _ _ fun a ha => by obtain ⟨k, -, rfl⟩ := adr_mem ha; exact Nat.le_of_lt hlt)
  have g1 : ∀ (j1 j2 : List Nat) (x1 x2 : List Int), (putN (putN w (adr zb j1) x1) (adr zk j2) x2).heap[zb]? = some (.cells (setC cs0 j1 x1) e0 (0, 0)) := fun j1 j2 x1 x2 => by
    rw [heap_putN_other hzz]; exact heap_putN_same _ _ hzb
  have g2 : ∀ (j1 j2 : List Nat) (x1 x2 : List Int), (putN (putN w (adr zb j1) x1) (adr zk j2) x2).heap[zk]? = some (.cells (setC ds0 j2 x2) e1 (0, 0)) := fun j1 j2 x1 x2 => heap_putN_same _ _ (by rw [heap_putN_other hzz.symm]; exact hzk)
  have g3 : ∀ (j1 j2 : List Nat) (x1 x2 : List Int) i, i ≠ zb → i ≠ zk → (putN (putN w (adr zb j1) x1) (adr zk j2) x2).heap[i]? = w.heap[i]? := fun j1 j2 x1 x2 i h1 h2 => by
    rw [heap_putN_other h2, heap_putN_other h1]
  cases ho : okW (readS (wordAt kd) (ks.length + js.length) s.data.toList) with
  | some ns =>
    rw [ho] at h
    obtain ⟨he, hb⟩ := h
    rw [putN_append, adr_len] at hb
    refine ⟨true, ns, he, okW_len ho, ?_, ?_, fun i hi h1 h2 => ?_, (hbase _ _ _ _).trans (hb.mono (Nat.le_of_lt hzl)), rfl, rfl⟩
    · rw [hb.block zb hzl]; exact g1 _ _ _ _
    · rw [hb.block zk hkl]; exact g2 _ _ _ _
    · rw [hb.block i hi]; exact g3 _ _ _ _ i h1 h2
  | none =>
    rw [ho] at h
    obtain ⟨he, ns, hn, hb⟩ := h
    rw [List.length_append, adr_len, adr_len] at hn
    have ek : ∀ (m : Nat), (adr zb ks ++ adr zk js).take m = adr zb (ks.take m) ++ adr zk (js.take (m - ks.length)) := fun m => by rw [List.take_append, adr_take, adr_take, adr_len]
    rw [ek, putN_append, adr_len] at hb
    have hz : ∃ m, m = ks.length + js.length - ns.length := ⟨_, rfl⟩
    obtain ⟨m, hm⟩ := hz
    refine ⟨false, ns ++ List.replicate m 0, he, by rw [List.length_append, List.length_replicate]; omega, ?_, ?_, fun i hi h1 h2 => ?_, (hbase _ _ _ _).trans (hb.mono (Nat.le_of_lt hzl)), rfl⟩
    · rw [hb.block zb hzl, g1]
      by_cases hle : ns.length ≤ ks.length
      · rw [List.length_take, Nat.min_eq_left hle, List.take_of_length_le (Nat.le_refl _), setC_pad _ _ _ (ks.length - ns.length) hin hnd, List.take_append, List.take_of_length_le hle, List.take_replicate, Nat.min_eq_left (by omega)]
      · rw [List.take_of_length_le (l := ks) (by omega), List.take_append, show ks.length - ns.length = 0 by omega, List.take_zero, List.append_nil]
    · rw [hb.block zk hkl, g2]
      by_cases hle : ns.length ≤ ks.length
      · rw [show ns.length - ks.length = 0 by omega, List.take_zero, List.length_take, Nat.min_eq_left hle, List.drop_of_length_le (Nat.le_refl _), List.drop_append, List.drop_of_length_le hle, List.nil_append, List.drop_replicate, setC_zero _ _ _ hin2]
        rfl
      · rw [List.take_of_length_le (l := ks) (by omega), List.drop_append, show ks.length - ns.length = 0 by omega, List.drop_zero]
        have : ns.length - ks.length = (ns.drop ks.length).length := by rw [List.length_drop]
        rw [this]
        exact congrArg (fun c => some (Obj.cells c e1 (0, 0))) (setC_pad js ds0 _ m hin2 hnd2)
    · rw [hb.block i hi]; exact g3 _ _ _ _ i h1 h2
end Go.Proofs.YtgflfdnajchjaaaGreatDoor
