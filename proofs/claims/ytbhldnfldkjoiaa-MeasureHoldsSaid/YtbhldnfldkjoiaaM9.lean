/- Layer 37: the reference's step, walked. -/
import Derived.Test.YtbhldnfldkjoiaaM8
import Derived.Test.YtbhldnfldkjoiaaM4
import Derived.Test.YtbhldnfldkjoiaaTailL
namespace Go.Proofs.Ytbhldnfldkjoiaa
set_option linter.unusedVariables false
set_option linter.unusedSimpArgs false
open Go.RowKit Go.Sort
attribute [local go_sem] gcell

structure Bz (W : World) (z : Nat) (mg bk hd : Int) (a d : Option Addr) (n m c l : Nat) : Prop where
  r0 : W.cell? ⟨z, 0, none⟩ = some (.int .i64 mg)
  r1 : W.cell? ⟨z, 1, none⟩ = some (.int .i64 bk)
  r2 : W.cell? ⟨z, 2, none⟩ = some (.int .i64 hd)
  s0 : W.cell? ⟨z + 1, 0, none⟩ = some (.slice a n c)
  s1 : W.cell? ⟨z + 1, 1, none⟩ = some (.slice d m l)
  e0 : W.cell? ⟨z + 1 + 1, 0, none⟩ = some (.slice none 0 0)
  e1 : W.cell? ⟨z + 1 + 1, 1, none⟩ = some (.slice none 0 0)
  f0 : W.frozen? ⟨z + 1 + 1, 0, none⟩ = false
  f1 : W.frozen? ⟨z + 1 + 1, 1, none⟩ = false
theorem Bz.mono {W w' : World} {z : Nat} {mg bk hd : Int} {a d : Option Addr} {n m c l : Nat} (B : Bz W z mg bk hd a d n m c l) (hb : Below W.heap.size W w') : Bz w' z mg bk hd a d n m c l :=
  ⟨up hb B.r0, up hb B.r1, up hb B.r2, up hb B.s0, up hb B.s1, up hb B.e0, up hb B.e1, upf hb (lt_of_cell B.e0) B.f0, upf hb (lt_of_cell B.e0) B.f1⟩

theorem Hl.fr {W wr : World} {X B bF N : Nat} {aF : Option Addr} {cF n : Nat} {fs : Nat → Int} {m : Nat} {d : Option Addr} {l : Nat} {ys : Nat → Int} (F : Hl W wr X B bF aF cF n fs (.slice d m l) m ys) (hN : N ≤ X) : Fr N (sv aF d n cF m l) := by
  refine ⟨_, _, _, _, _, _, rfl, fun h0 => ⟨bF, F.a0 h0, by have := F.lo.2.1 h0; omega⟩, fun h0 => ?_⟩
  obtain ⟨d', l', g, h1, h2, h3, _⟩ := own_cells F.own
  injection h1 with e1 e2 e3
  subst e1
  obtain ⟨h4, h5, _⟩ := h3 h0
  exact ⟨g, h4, by have := F.lo.1; omega⟩
set_option maxRecDepth 100000 in
set_option maxHeartbeats 4000000 in
theorem step17L (mg bk hd own : Int) (v : Value) (ar : Option Addr) (n m r cr : Nat) (fs hs qs : Nat → Int) (w : World) (S : Sg w v n m fs hs) (RQ : Row w ar r qs) (hn : n ≤ 1000) (hm : m ≤ 1000) (hr : r ≤ 1000) :
    Calls Try.prog 17 #[rv mg bk hd, v, .int .i64 own, .slice ar r cr] w (SRL (fun v' => v' = v ∨ Fr w.heap.size v') n m (stepF mg bk hd n m fs hs own r qs) (stepH mg bk hd n m fs hs own r qs) (stepE mg bk hd n m fs hs own r qs) w) := by
  have HSG := Lib.hid S
  obtain ⟨a, d, c, l, rfl, an, dn, r1, q1⟩ := S
  have hB : Below w.heap.size w (((w.alloc (.cells #[.int .i64 mg, .int .i64 bk, .int .i64 hd] 23)).alloc (.cells #[.slice a n c, .slice d m l] 26)).alloc (.cells #[.slice none 0 0, .slice none 0 0] 26)) := (((Below.refl _ _).alloc (Nat.le_refl _) _).alloc (by simp) _).alloc (by simp; omega) _
  have BX : Bz (((w.alloc (.cells #[.int .i64 mg, .int .i64 bk, .int .i64 hd] 23)).alloc (.cells #[.slice a n c, .slice d m l] 26)).alloc (.cells #[.slice none 0 0, .slice none 0 0] 26)) w.heap.size mg bk hd a d n m c l := ⟨by simp [go_sem], by simp [go_sem], by simp [go_sem], by simp [go_sem], by simp [go_sem], by simp [go_sem], by simp [go_sem], by simp [go_sem], by simp [go_sem]⟩
  have R := Lib.hid r1
  have Q := Lib.hid q1
  have RQ0 := Lib.hid RQ
  have HB := Lib.hid hB
  have HBX := Lib.hid BX
  clear r1 q1 hB RQ an dn BX
  have hck := check23 mg bk hd a d n c m l fs hs
  unfold rv sv at hck
  unfold rv sv
  unfold sv at HSG
  go_enter Try.func17, Try.ntmps17
  go_wp2_with (go_at_call 23; refine (hck _ (R.out.mono HB.out) (Q.out.mono HB.out) hn hm).mono ?_)
  intro e w2 h
  obtain ⟨rfl, hb⟩ := h
  have B2 := HBX.out.mono hb
  have HB2 := Lib.hid B2
  have HW2 := Lib.hid (bthen HB.out hb HB.out.size)
  have z2 := HW2.out.size
  obtain ⟨t0, t1, t2, t3, t4, t6, t7, t8, t9⟩ := B2
  clear HB HBX hck hb
  obtain ⟨E1, hE1⟩ : ∃ E1, chk mg bk hd n m fs hs = E1 := ⟨_, rfl⟩
  rw [hE1]
  have HE1 := Lib.hid hE1
  by_cases g0 : E1 = 0
  · subst g0
    obtain ⟨ok1, ⟨hnm, hn1, hn3⟩, ok2⟩ := chk_ok hE1
    subst hnm
    have OK2 := Lib.hid ok2
    clear ok2 hE1
    by_cases g1 : own < 0 ∨ (n : Int) ≤ own
    · have hS : stepE mg bk hd n n fs hs own r qs = 63 := by unfold stepE; rw [HE1.out, if_pos rfl, if_pos g1]
      have hF : stepF mg bk hd n n fs hs own r qs = fs := by unfold stepF; rw [hS, if_neg (by decide)]
      have hH : stepH mg bk hd n n fs hs own r qs = hs := by unfold stepH; rw [hS, if_neg (by decide)]
      have HS := Lib.hid hS
      have HF := Lib.hid hF
      have HH := Lib.hid hH
      clear hS hF hH
      by_cases g2 : own < 0
      · go_wp2
        refine bodyPost_ret (v := .tuple #[sv a d n c n l, .int .i64 63]) (by simp [results, Try.results17, go_sem, cell_set, sv, t6, t7]) rfl ?_
        rw [HS.out, HF.out, HH.out]
        exact ⟨_, rfl, HSG.out.far (q := w.heap.size + 1 + 1) (by omega) HW2.out _ _, (HW2.out.setCell (by simp; omega) _).setCell (by simp; omega) _, .inl rfl⟩
      · have g3 : (n : Int) ≤ own := by omega
        go_wp2
        refine bodyPost_ret (v := .tuple #[sv a d n c n l, .int .i64 63]) (by simp [results, Try.results17, go_sem, cell_set, sv, t6, t7]) rfl ?_
        rw [HS.out, HF.out, HH.out]
        exact ⟨_, rfl, HSG.out.far (q := w.heap.size + 1 + 1) (by omega) HW2.out _ _, (HW2.out.setCell (by simp; omega) _).setCell (by simp; omega) _, .inl rfl⟩
    · obtain ⟨O, rfl⟩ : ∃ O : Nat, own = O := ⟨own.toNat, by omega⟩
      have g2 : decide (n ≤ O) = false := by simp; omega
      have g2' : O < n := by omega
      have g1' : decide ((O : Int) < 0) = false := by simp
      by_cases g3 : r = n
      · subst g3
        have q1 : ((r : Int) == (r : Int)) = true := beq_self_eq_true _
        have q2 : ((r : Int) != (r : Int)) = false := by simp
        have hE : anyB (out qs 15) r = true → stepE mg bk hd r r fs hs O r qs = 3 := fun h => by unfold stepE; rw [HE1.out, if_pos rfl, if_neg (by omega), if_pos rfl, h, if_pos rfl]
        have hZ : anyB (out qs 15) r = false → stepE mg bk hd r r fs hs O r qs = 0 := fun h => by unfold stepE; rw [HE1.out, if_pos rfl, if_neg (by omega), if_pos rfl, h]; rfl
        have HE := Lib.hid hE
        have HZ := Lib.hid hZ
        clear hE hZ g1
        go_wp2
        go_loopw [12] (fun i wr => ∃ (k : Nat) (v : Value), k ≤ r ∧ i = .int .i64 k ∧ Fl w2 wr w2.heap.size v k (f1 fs qs) ∧ anyB (out qs 15) k = false) (fun i _ => r - (intOf i).toNat)
        case atStart => exact ⟨0, _, Nat.zero_le _, rfl, Fl.start _ _, rfl⟩
        case round =>
          clear t0 t1 t2 t3 t4 t6 t7 t8 t9
          obtain ⟨k, v, hk, rfl, F, hf⟩ := hrel
          have HF := Lib.hid F
          have HQF := Lib.hid hf
          clear hf F
          have hbz : Below w2.heap.size w2 wr := HF.out.bel
          obtain ⟨t0, t1, t2, t3, t4, t6, t7, t8, t9⟩ := HB2.out.mono hbz
          have HW := Lib.hid (bthen HW2.out hbz z2)
          have z3 := HW.out.size
          clear hbz
          by_cases hlt : k < r
          · obtain ⟨b, o, hq0, hq1⟩ := RQ0.out.mono HW.out
            obtain rfl := hq0 (by omega)
            have q := hq1 k hlt
            clear hq0 hq1
            cases hq : out qs 15 k
            · have hqb : 0 ≤ qs k ∧ qs k ≤ 15 := by unfold out at hq; simp at hq; omega
              have HQ := Lib.hid hq
              obtain ⟨b1, o1, hx0, hx1⟩ := R.out.mono HW.out
              obtain rfl := hx0 (by omega)
              have x := hx1 k hlt
              have bz := (OK2.out k hlt).1
              have x0 := HF.out.x0
              have x1 := HF.out.x1
              have f0 := HF.out.f0
              clear hx0 hx1 hq
              have i1 : (0 : Int) ≤ (k : Int) := by omega
              have i2 : (k : Int) < (r : Int) := by omega
              have e1 : IntKind.i64.wrap (16 * qs k) = 16 * qs k := IntWalk.i64_in _ (by omega)
              have e2 : IntKind.i64.wrap (16 * qs k - fs k) = 16 * qs k - fs k := IntWalk.i64_in _ (by omega)
              have e3 : IntKind.i64.wrap (fs k + (16 * qs k - fs k) / 4) = fs k + (16 * qs k - fs k) / 4 := IntWalk.i64_in _ (by omega)
              have lt1 := lt_of_cell x0
              have lt2 := lt_of_cell x
              have lt3 := lt_of_cell q
              have lt4 := lt_of_cell t0
              have lt5 := lt_of_cell t3
              go_wp2_with fail
              refine wp_region_grown_tail2 (.pointer (some ⟨w2.heap.size, 0, none⟩)) v 20 (by kernel_rfl) (by kernel_rfl) rfl rfl rfl rfl (fun _ => by rfl) (fun d os => by go_simp) (fun _ _ _ h => h) (fun _ _ _ h => h) ?_
              simp only [Nat.reduceSub, List.take_succ_cons, List.take_zero, List.drop_succ_cons, List.drop_zero]
              conv => arg 6; simp [Act.put, Act.eval]
              repeat (go_big_quiet_step ((go_at_call 26; exact regrown_same (quarter26 _ (by omega) _))))
              refine wpQuiet_nil ?_
              intro w3 hw3
              have hB3 := below_of_regrown hw3
              have F3 := HF.out.mono hB3
              have HF3 := Lib.hid F3
              have z4 := F3.sz
              have x0' := F3.x0
              have f0' := F3.f0
              refine ⟨.slice (some ⟨w3.heap.size, 0, none⟩) 1 1, w3.alloc (.cells #[.int .i64 (fs k + (16 * qs k - fs k) / 4)] 3), by go_simp, regrown_alloc hw3 _, ?_⟩
              clear HF hw3 hB3 F3 x q x0 x1 f0 t0 t1 t2 t3 t4 t6 t7 t8 t9
              go_wp2_with (at_builtin; refine wpList_append1 w3 w3 (w2.heap.size + 1) rfl (.tmp 60) (.tmp 79) 24 rfl 3 (.int .i64 0) 8 Try.underlying24 intInfo rfl (by decide) _ k (fun i => .int .i64 (f1 fs qs i)) rfl _ rfl HF3.out.own (Below.refl _ _) z4 rfl rfl (by omega) ?_; intro v' w4 hown hB4 hb4 _ _; obtain ⟨a4, c4, g4, rfl, u1, u2, u3⟩ := own_cells hown; clear u1 u2 u3; have x4 := (hB4.cell (p := ⟨w2.heap.size, 0, none⟩) (Nat.lt_succ_self _)).trans x0'; have f4 := (hB4.frozen (p := ⟨w2.heap.size, 0, none⟩) (Nat.lt_succ_self _)).trans f0'; have HF4 := Lib.hid (HF3.out.put hown hB4); clear hown hB4 x0' f0')
              go_roundw
              case rel => exact ⟨k + 1, _, by omega, by go_num, HF4.out, by unfold anyB; rw [HQF.out, HQ.out]; rfl⟩
              case measure => simp [intOf] <;> omega
            · have hS : stepE mg bk hd r r fs hs O r qs = 3 := HE.out (anyB_true hlt hq)
              have hF : stepF mg bk hd r r fs hs O r qs = fs := by unfold stepF; rw [hS, if_neg (by decide)]
              have hH : stepH mg bk hd r r fs hs O r qs = hs := by unfold stepH; rw [hS, if_neg (by decide)]
              have HS := Lib.hid hS
              have HF := Lib.hid hF
              have HH := Lib.hid hH
              have hqb : qs k < 0 ∨ 15 < qs k := by unfold out at hq; simp at hq; omega
              clear hS hF hH hq
              by_cases hneg : qs k < 0
              · go_wp2
                refine bodyPost_ret (v := .tuple #[sv a d r c r l, .int .i64 3]) (by simp [results, Try.results17, go_sem, cell_set, sv, t6, t7]) rfl ?_
                rw [HS.out, HF.out, HH.out]
                exact ⟨_, rfl, HSG.out.far (q := w.heap.size + 1 + 1) (by omega) HW.out _ _, (HW.out.setCell (by simp; omega) _).setCell (by simp; omega) _, .inl rfl⟩
              · have hpos : 15 < qs k := by omega
                go_wp2
                refine bodyPost_ret (v := .tuple #[sv a d r c r l, .int .i64 3]) (by simp [results, Try.results17, go_sem, cell_set, sv, t6, t7]) rfl ?_
                rw [HS.out, HF.out, HH.out]
                exact ⟨_, rfl, HSG.out.far (q := w.heap.size + 1 + 1) (by omega) HW.out _ _, (HW.out.setCell (by simp; omega) _).setCell (by simp; omega) _, .inl rfl⟩
          · have : k = r := by omega
            subst this
            have hS : stepE mg bk hd k k fs hs O k qs = 0 := HZ.out HQF.out
            have hF : stepF mg bk hd k k fs hs O k qs = f1 fs qs := by unfold stepF; rw [hS, if_pos rfl]
            have hH : stepH mg bk hd k k fs hs O k qs = held (f1 fs qs) O mg bk hs := by unfold stepH; rw [hS, if_pos rfl]; rfl
            have hbf : ∀ j, j < k → 0 ≤ f1 fs qs j ∧ f1 fs qs j ≤ 240 := fun j hj => by
              have h1 := anyB_false.1 HQF.out j hj
              unfold out at h1
              simp at h1
              have h2 := (OK2.out j hj).1
              unfold f1
              omega
            have HBF := Lib.hid hbf
            have HSS := Lib.hid hS
            have HSF := Lib.hid hF
            have HSH := Lib.hid hH
            obtain ⟨aF, cF, bF, rfl, hl⟩ := HF.out.next (zs := held (f1 fs qs) O mg bk hs)
            have HL := Lib.hid hl
            obtain ⟨B, hB⟩ : ∃ B, B = wr.heap.size := ⟨_, rfl⟩
            rw [← hB] at HL
            have x0 := HF.out.x0
            clear hS hF hH hbf hl hB HF
            go_wp2_with fail
            go_loopw [13] (fun i wx => ∃ (j : Nat) (v : Value), j ≤ k ∧ i = .int .i64 j ∧ Hl w2 wx w2.heap.size B bF aF cF k (f1 fs qs) v j (held (f1 fs qs) O mg bk hs)) (fun i _ => k - (intOf i).toNat)
            case atStart => exact ⟨0, _, Nat.zero_le _, rfl, HL.out⟩
            case round =>
              clear t0 t1 t2 t3 t4 t6 t7 t8 t9 HL x0 z3 HW
              obtain ⟨j, v, hj, rfl, F⟩ := hrel
              have hbz : Below w2.heap.size w2 wr := F.bel
              obtain ⟨t0, t1, t2, t3, t4, t6, t7, t8, t9⟩ := HB2.out.mono hbz
              have HW := Lib.hid (bthen HW2.out hbz z2)
              have z3 := HW.out.size
              by_cases hlt2 : j < k
              · have x0 := F.x0
                have x1 := F.x1
                have c1 := F.f1
                obtain rfl := F.a0 (by omega)
                have r1 := F.row j hlt2
                have r2 := F.row O g2'
                obtain ⟨b1, o1, hx0, hx1⟩ := Q.out.mono HW.out
                obtain rfl := hx0 (by omega)
                have x := hx1 j hlt2
                have HL := Lib.hid F
                have bx := HBF.out j hlt2
                have bo := HBF.out O g2'
                have bh := (OK2.out j hlt2).2
                obtain ⟨V, hV⟩ : ∃ V, V = held (f1 fs qs) O mg bk hs j := ⟨_, rfl⟩
                have hv := hV
                unfold held at hv
                have HV := Lib.hid hV
                generalize f1 fs qs j = u at *
                generalize f1 fs qs O = y at *
                generalize hs j = h at *
                have HV2 := Lib.hid hv
                clear hbz F hx0 hx1 hV hv
                have i1 : (0 : Int) ≤ (j : Int) := by omega
                have i2 : (j : Int) < (k : Int) := by omega
                have i3 : (0 : Int) ≤ (O : Int) := by omega
                have i4 : (O : Int) < (k : Int) := by omega
                have lt1 := lt_of_cell x0
                have lt2 := lt_of_cell x
                have lt4 := lt_of_cell t0
                have lt5 := lt_of_cell t3
                have lt6 := lt_of_cell r1
                have e1 : IntKind.i64.wrap (mg - bk) = mg - bk := IntWalk.i64_in _ (by omega)
                have e2 : IntKind.i64.wrap (16 * (mg - bk)) = 16 * (mg - bk) := IntWalk.i64_in _ (by omega)
                have e3 : IntKind.i64.wrap (y + 16 * (mg - bk)) = y + 16 * (mg - bk) := IntWalk.i64_in _ (by omega)
                have e4 : IntKind.i64.wrap (16 * mg) = 16 * mg := IntWalk.i64_in _ (by omega)
                have e5 : IntKind.i64.wrap (y + 16 * mg) = y + 16 * mg := IntWalk.i64_in _ (by omega)
                by_cases hjo : j = O
                · have k1 : ((j : Int) == (O : Int)) = true := by rw [hjo]; exact beq_self_eq_true _
                  have k2 : ((j : Int) != (O : Int)) = false := by rw [hjo]; simp
                  have hv : V = 0 := by rw [HV2.out, if_pos (.inl hjo)]
                  have HV3 := Lib.hid hv
                  clear hv hjo
                  go_wp2_with fail
                  go_quiet (fail)
                  go_wp2_with fail
                  go_quiet (fail)
                  go_wp2_with (at_builtin; refine wpList_append1 (wr.drewN _) wr B rfl (.tmp 145) (.tmp 147) 24 rfl 3 (.int .i64 0) 8 Try.underlying24 intInfo rfl (by decide) _ j (fun i => .int .i64 (held (f1 fs qs) O mg bk hs i)) rfl _ rfl HL.out.own (below_drewN (Below.refl _ _) _) HL.out.lo.2.2 (by rw [← HV.out, HV3.out]) rfl (by omega) ?_; intro v' w4 hown hB4 hb4 _ _; obtain ⟨a4, c4, g4, rfl, u1, u2, u3⟩ := own_cells hown; clear u1 u2 u3; have x4 := (hB4.cell (p := ⟨w2.heap.size, 1, none⟩) HL.out.lo.1).trans x1; have f4 := (hB4.frozen (p := ⟨w2.heap.size, 1, none⟩) HL.out.lo.1).trans c1; have HL4 := Lib.hid (HL.out.put hown hB4); clear hown hB4)
                  go_roundw
                  case rel => exact ⟨j + 1, _, by omega, by go_num, HL4.out⟩
                  case measure => simp [intOf] <;> omega
                · have k1 : ((j : Int) == (O : Int)) = false := beq_eq_false_iff_ne.2 (by omega)
                  have k2 : ((j : Int) != (O : Int)) = true := by rw [bne_iff_ne]; omega
                  by_cases h2 : u ≤ y + 16 * (mg - bk)
                  · have hv : V = 0 := by rw [HV2.out, if_pos (.inr (by omega))]
                    have HV3 := Lib.hid hv
                    have h3 : ¬ y + 16 * mg < u := by omega
                    clear hv
                    go_wp2_with fail
                    go_quiet (fail)
                    go_wp2_with fail
                    go_quiet (fail)
                    go_wp2_with (at_builtin; refine wpList_append1 (wr.drewN _) wr B rfl (.tmp 145) (.tmp 147) 24 rfl 3 (.int .i64 0) 8 Try.underlying24 intInfo rfl (by decide) _ j (fun i => .int .i64 (held (f1 fs qs) O mg bk hs i)) rfl _ rfl HL.out.own (below_drewN (Below.refl _ _) _) HL.out.lo.2.2 (by rw [← HV.out, HV3.out]) rfl (by omega) ?_; intro v' w4 hown hB4 hb4 _ _; obtain ⟨a4, c4, g4, rfl, u1, u2, u3⟩ := own_cells hown; clear u1 u2 u3; have x4 := (hB4.cell (p := ⟨w2.heap.size, 1, none⟩) HL.out.lo.1).trans x1; have f4 := (hB4.frozen (p := ⟨w2.heap.size, 1, none⟩) HL.out.lo.1).trans c1; have HL4 := Lib.hid (HL.out.put hown hB4); clear hown hB4)
                    go_roundw
                    case rel => exact ⟨j + 1, _, by omega, by go_num, HL4.out⟩
                    case measure => simp [intOf] <;> omega
                  · by_cases h3 : y + 16 * mg < u
                    · by_cases h4 : h = 1000
                      · subst h4
                        have hv : V = 1000 := by rw [HV2.out, if_neg (by omega), if_pos (by omega)]; rfl
                        have HV3 := Lib.hid hv
                        clear hv
                        go_wp2_with fail
                        go_quiet (fail)
                        go_wp2_with fail
                        go_quiet (fail)
                        go_wp2_with (at_builtin; refine wpList_append1 (wr.drewN _) wr B rfl (.tmp 145) (.tmp 147) 24 rfl 3 (.int .i64 0) 8 Try.underlying24 intInfo rfl (by decide) _ j (fun i => .int .i64 (held (f1 fs qs) O mg bk hs i)) rfl _ rfl HL.out.own (below_drewN (Below.refl _ _) _) HL.out.lo.2.2 (by rw [← HV.out, HV3.out]) rfl (by omega) ?_; intro v' w4 hown hB4 hb4 _ _; obtain ⟨a4, c4, g4, rfl, u1, u2, u3⟩ := own_cells hown; clear u1 u2 u3; have x4 := (hB4.cell (p := ⟨w2.heap.size, 1, none⟩) HL.out.lo.1).trans x1; have f4 := (hB4.frozen (p := ⟨w2.heap.size, 1, none⟩) HL.out.lo.1).trans c1; have HL4 := Lib.hid (HL.out.put hown hB4); clear hown hB4)
                        go_roundw
                        case rel => exact ⟨j + 1, _, by omega, by go_num, HL4.out⟩
                        case measure => simp [intOf] <;> omega
                      · have h5 : h < 1000 := by omega
                        have hv : V = h + 1 := by rw [HV2.out, if_neg (by omega), if_pos (by omega)]; omega
                        have HV3 := Lib.hid hv
                        clear hv
                        go_wp2_with fail
                        go_quiet (fail)
                        go_wp2_with fail
                        go_quiet (fail)
                        go_wp2_with (at_builtin; refine wpList_append1 (wr.drewN _) wr B rfl (.tmp 145) (.tmp 147) 24 rfl 3 (.int .i64 0) 8 Try.underlying24 intInfo rfl (by decide) _ j (fun i => .int .i64 (held (f1 fs qs) O mg bk hs i)) rfl _ rfl HL.out.own (below_drewN (Below.refl _ _) _) HL.out.lo.2.2 (by rw [← HV.out, HV3.out]; split <;> (try rfl) <;> (congr 1; omega)) rfl (by omega) ?_; intro v' w4 hown hB4 hb4 _ _; obtain ⟨a4, c4, g4, rfl, u1, u2, u3⟩ := own_cells hown; clear u1 u2 u3; have x4 := (hB4.cell (p := ⟨w2.heap.size, 1, none⟩) HL.out.lo.1).trans x1; have f4 := (hB4.frozen (p := ⟨w2.heap.size, 1, none⟩) HL.out.lo.1).trans c1; have HL4 := Lib.hid (HL.out.put hown hB4); clear hown hB4)
                        go_roundw
                        case rel => exact ⟨j + 1, _, by omega, by go_num, HL4.out⟩
                        case measure => simp [intOf] <;> omega
                    · have hv : V = h := by rw [HV2.out, if_neg (by omega), if_neg (by omega)]
                      have HV3 := Lib.hid hv
                      clear hv
                      go_wp2_with fail
                      go_quiet (fail)
                      go_wp2_with fail
                      go_quiet (fail)
                      go_wp2_with (at_builtin; refine wpList_append1 (wr.drewN _) wr B rfl (.tmp 145) (.tmp 147) 24 rfl 3 (.int .i64 0) 8 Try.underlying24 intInfo rfl (by decide) _ j (fun i => .int .i64 (held (f1 fs qs) O mg bk hs i)) rfl _ rfl HL.out.own (below_drewN (Below.refl _ _) _) HL.out.lo.2.2 (by rw [← HV.out, HV3.out]) rfl (by omega) ?_; intro v' w4 hown hB4 hb4 _ _; obtain ⟨a4, c4, g4, rfl, u1, u2, u3⟩ := own_cells hown; clear u1 u2 u3; have x4 := (hB4.cell (p := ⟨w2.heap.size, 1, none⟩) HL.out.lo.1).trans x1; have f4 := (hB4.frozen (p := ⟨w2.heap.size, 1, none⟩) HL.out.lo.1).trans c1; have HL4 := Lib.hid (HL.out.put hown hB4); clear hown hB4)
                      go_roundw
                      case rel => exact ⟨j + 1, _, by omega, by go_num, HL4.out⟩
                      case measure => simp [intOf] <;> omega
              · have : j = k := by omega
                subst this
                have x0 := F.x0
                have x1 := F.x1
                obtain ⟨d2, l2, rfl, hsg⟩ := F.rowsSet (q := w.heap.size + 1 + 1) (by have := lt_of_cell t6; have := HB2.out.e0; have := lt_of_cell this; omega) (.slice aF j cF) v
                have HSG2 := Lib.hid hsg
                have HFR := Lib.hid (F.fr (N := w.heap.size) z2)
                clear F hbz hsg
                go_wp2
                refine bodyPost_ret (v := .tuple #[sv aF d2 j cF j l2, .int .i64 0]) (by simp [results, Try.results17, go_sem, cell_set, sv, t6, t7]) rfl ?_
                rw [HSS.out, HSF.out, HSH.out]
                exact ⟨_, rfl, HSG2.out, (HW.out.setCell (by simp; omega) _).setCell (by simp; omega) _, .inr HFR.out⟩
      · have q1 : ((r : Int) == (n : Int)) = false := beq_eq_false_iff_ne.2 (by omega)
        have q2 : ((r : Int) != (n : Int)) = true := by rw [bne_iff_ne]; omega
        have hS : stepE mg bk hd n n fs hs O r qs = 2 := by unfold stepE; rw [HE1.out, if_pos rfl, if_neg (by omega), if_neg g3]
        have hF : stepF mg bk hd n n fs hs O r qs = fs := by unfold stepF; rw [hS, if_neg (by decide)]
        have hH : stepH mg bk hd n n fs hs O r qs = hs := by unfold stepH; rw [hS, if_neg (by decide)]
        have HS := Lib.hid hS
        have HF := Lib.hid hF
        have HH := Lib.hid hH
        clear hS hF hH g1
        go_wp2
        refine bodyPost_ret (v := .tuple #[sv a d n c n l, .int .i64 2]) (by simp [results, Try.results17, go_sem, cell_set, sv, t6, t7]) rfl ?_
        rw [HS.out, HF.out, HH.out]
        exact ⟨_, rfl, HSG.out.far (q := w.heap.size + 1 + 1) (by omega) HW2.out _ _, (HW2.out.setCell (by simp; omega) _).setCell (by simp; omega) _, .inl rfl⟩
  · have q1 : (E1 == 0) = false := beq_eq_false_iff_ne.2 g0
    have q2 : (E1 != 0) = true := by rw [bne_iff_ne]; exact g0
    have hS : stepE mg bk hd n m fs hs own r qs = E1 := by unfold stepE; rw [hE1, if_neg g0]
    have hF : stepF mg bk hd n m fs hs own r qs = fs := by unfold stepF; rw [hS, if_neg g0]
    have hH : stepH mg bk hd n m fs hs own r qs = hs := by unfold stepH; rw [hS, if_neg g0]
    have HS := Lib.hid hS
    have HF := Lib.hid hF
    have HH := Lib.hid hH
    clear hS hF hH hE1
    go_wp2
    refine bodyPost_ret (v := .tuple #[sv a d n c m l, .int .i64 E1]) (by simp [results, Try.results17, go_sem, cell_set, sv, t6, t7]) rfl ?_
    rw [HS.out, HF.out, HH.out]
    exact ⟨_, rfl, HSG.out.far (q := w.heap.size + 1 + 1) (by omega) HW2.out _ _, (HW2.out.setCell (by simp; omega) _).setCell (by simp; omega) _, .inl rfl⟩
theorem step17 (mg bk hd own : Int) (v : Value) (ar : Option Addr) (n m r cr : Nat) (fs hs qs : Nat → Int) (w : World) (S : Sg w v n m fs hs) (RQ : Row w ar r qs) (hn : n ≤ 1000) (hm : m ≤ 1000) (hr : r ≤ 1000) :
    Calls Try.prog 17 #[rv mg bk hd, v, .int .i64 own, .slice ar r cr] w (SR n m (stepF mg bk hd n m fs hs own r qs) (stepH mg bk hd n m fs hs own r qs) (stepE mg bk hd n m fs hs own r qs) w) :=
  (step17L mg bk hd own v ar n m r cr fs hs qs w S RQ hn hm hr).mono fun _ _ h => h.sr
end Go.Proofs.Ytbhldnfldkjoiaa
