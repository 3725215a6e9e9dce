/- Layer 25: the program's Share. -/
import Derived.Test.YtgcplboiodnfpaaP4
namespace Go.Proofs.Ytgcplboiodnfpaa
set_option linter.unusedVariables false
set_option linter.unusedSimpArgs false
open Go.RowKit Go.Sort
attribute [local go_sem] gcell

theorem below_alloc (w : World) (o : Obj) : Below w.heap.size w (w.alloc o) := (Below.refl _ _).alloc (Nat.le_refl _) _
theorem VAt.of_alloc (w : World) (n : Nat) (x : Int) : VAt (w.alloc (.cells (madeCells #[.int .i64 x] n) 3)) w.heap.size n (iv fun _ => x) := by
  have h := (MapKept.heap_alloc w (.cells (madeCells #[.int .i64 x] n) 3)).1
  refine ⟨fun k hk => ?_, fun k => ?_, by simp⟩
  · rw [cell_of_row _ w.heap.size k _ 3 (0, 0) h]
    have e := congrArg (fun l => l[k]?) (toList_madeCells_one (.int .i64 x) n)
    simp only [List.getElem?_replicate, if_pos hk] at e
    simpa [iv] using e
  · unfold World.frozen?
    show (match (w.alloc (.cells (madeCells #[.int .i64 x] n) 3)).heap[w.heap.size]? with | some (.cells c elem (lo, hi)) => decide (lo ≤ k) && decide (k < hi) | x => false) = false
    rw [h]
    simp
theorem VAt.grown {w w' : World} {b n z : Nat} {f : Nat → Value} (V : VAt w b n f) (h : w.grownBy w' (some z)) (hne : b ≠ z) : VAt w' b n f := by
  have hb := h.block b V.lt (fun e => hne (Option.some.inj e))
  refine ⟨fun k hk => ?_, fun k => ?_, Nat.lt_of_lt_of_le V.lt h.size⟩
  · rw [← V.c k hk]
    simp only [World.cell?]
    rw [hb]
  · rw [← V.fr k]
    simp only [World.frozen?]
    rw [hb]
/-- What Share holds while it hands out: block ob: the buckets, gb: what each one has got, z: the order. -/
structure Sh (w0 wr : World) (ob gb z m : Nat) (P R M T g t : Nat → Int) (L : List Nat) : Prop where
  bel : Below w0.heap.size w0 wr
  out : B4 wr ob m P R M (fun i => T i - t i)
  got : VAt wr gb m (iv g)
  ord : VAt wr z m (iv (nums L))
  ne : ob ≠ gb ∧ ob ≠ z ∧ gb ≠ z
  hi : w0.heap.size ≤ ob ∧ w0.heap.size ≤ gb
section
variable {w0 wr w' : World} {ob gb z m : Nat} {P R M T g t : Nat → Int} {L : List Nat}
theorem Sh.mono (S : Sh w0 wr ob gb z m P R M T g t L) (hb : Below wr.heap.size wr w') : Sh w0 w' ob gb z m P R M T g t L :=
  ⟨bthen S.bel hb S.bel.size, S.out.mono hb, S.got.mono hb, S.ord.mono hb, S.ne, S.hi⟩
theorem Sh.setG (S : Sh w0 wr ob gb z m P R M T g t L) (y : Nat) (x : Int) : Sh w0 (wr.setCell ⟨gb, y, none⟩ (.int .i64 x)) ob gb z m P R M T (putI g y x) t L :=
  ⟨S.bel.setCell (p := ⟨gb, y, none⟩) S.hi.2 _, VAt.far S.out (Ne.symm S.ne.1), S.got.setI y x, S.ord.far S.ne.2.2, S.ne, S.hi⟩
theorem Sh.setT (S : Sh w0 wr ob gb z m P R M T g t L) (y : Nat) (x : Int) : Sh w0 (wr.setCell ⟨ob, y * 4 + 3, none⟩ (.int .i64 (T y - x))) ob gb z m P R M T g (putI t y x) L :=
  ⟨S.bel.setCell (p := ⟨ob, y * 4 + 3, none⟩) S.hi.1 _, (B4.set S.out y (T y - x)).congr fun k _ => by unfold putI; split <;> simp_all, S.got.far S.ne.1, S.ord.far S.ne.2.1, S.ne, S.hi⟩
theorem Sh.congr (S : Sh w0 wr ob gb z m P R M T g t L) {g' t' : Nat → Int} (hg : ∀ k, k < m → g' k = g k) (ht : ∀ k, k < m → t' k = t k) : Sh w0 wr ob gb z m P R M T g' t' L :=
  ⟨S.bel, S.out.congr fun k hk => by rw [ht k hk], S.got.congr fun k hk => congrArg (Value.int .i64) (hg k hk), S.ord, S.ne, S.hi⟩
end
theorem gv_put {cap : Nat → Int} {L : List Nat} {s : Int} {j : Nat} {y : Nat} {x : Int} (hy : L.getD j 0 = y) (hx : x = min (cap y) (lf cap L s j)) (k : Nat) : gv cap L s (j + 1) k = putI (gv cap L s j) y x k := by
  subst hx
  subst hy
  rfl
/-- The error of Share. -/
def eS (n m : Nat) (ok : Bool) (W : Nat → Int) (s : Int) : Int := if ok = false then 1 else if m ≠ n then 2 else if (!btw s 0 256 || anyB (badW W) m) = true then 3 else 0
theorem eS_0 {n m : Nat} {ok : Bool} {W : Nat → Int} {s : Int} (h : eS n m ok W s = 0) : ok = true ∧ m = n ∧ (0 ≤ s ∧ s ≤ 256) ∧ ∀ k, k < n → 0 ≤ W k ∧ W k ≤ 1048576 := by
  unfold eS at h
  cases ok
  · simp at h
  · rw [if_neg (by simp)] at h
    by_cases hm : m ≠ n
    · rw [if_pos hm] at h; cases h
    · rw [if_neg hm] at h
      have hm : m = n := by omega
      subst hm
      cases h1 : btw s 0 256
      · rw [h1] at h; simp at h
      · cases h2 : anyB (badW W) m
        · refine ⟨rfl, rfl, btw_true.1 h1, fun k hk => ?_⟩
          have := anyB_false.1 h2 k hk
          unfold badW at this
          exact btw_true.1 (by simpa using this)
        · rw [h1, h2] at h; simp at h
/-- What Share hands back. -/
def ShareR (n m : Nat) (P R M T W : Nat → Int) (s : Int) (w : World) (e : Ending) (w' : World) : Prop :=
  ∃ (N : Nat) (a1 a2 : Option Addr) (c1 c2 : Nat), e = .returned (.tuple #[.slice a1 N c1, .slice a2 N c2, .int .i64 (eS n m (okB n P R M T) W s)]) ∧ N = (if eS n m (okB n P R M T) W s = 0 then n else 0) ∧ N ≤ c1 ∧ (a1 = none → N = 0) ∧
    R4 w' a1 N P R M (fun i => T i - g1 W T (ordP P n 16) n s i) ∧ Row w' a2 N (gAll W T (ordP P n 16) n s) ∧ Below w.heap.size w w'
theorem share_bad {n m : Nat} {P R M T W : Nat → Int} {s x : Int} {w w' : World} (hx : eS n m (okB n P R M T) W s = x) (h0 : x ≠ 0) (hb : Below w.heap.size w w') : ShareR n m P R M T W s w (.returned (.tuple #[.slice none 0 0, .slice none 0 0, .int .i64 x])) w' :=
  ⟨0, none, none, 0, 0, by rw [hx], by rw [hx, if_neg h0], Nat.le_refl _, fun _ => rfl, R4.zero _ _ _ _ _ _, Row.zero _ _ _, hb⟩
section
variable (a : Option Addr) (n c : Nat) (d : Option Addr) (m l : Nat) (P R M T W : Nat → Int) (s : Int) (w : World)
set_option maxRecDepth 100000 in
set_option maxHeartbeats 8000000 in
theorem share14_pos (h0' : 0 < n) (hn : n ≤ 1000) (hm : m ≤ 1000) (ha : a = none → n = 0) (H : R4 w a n P R M T) (HW : Row w d m W) (hW0 : ∀ i, m ≤ i → W i = 0) : Calls Try.prog 14 #[.slice a n c, .slice d m l, .int .i64 s] w (ShareR n m P R M T W s w) := by
  have hml : n ≤ maxLen := by unfold maxLen; omega
  have hmm : m ≤ maxLen := by unfold maxLen; omega
  have hb0 : Below w.heap.size w (w.alloc (.cells #[.slice a n c] 25)) := (Below.refl _ _).alloc (Nat.le_refl _) _
  have HR := Lib.hid (H.mono hb0)
  have HRW := Lib.hid (HW.mono hb0)
  have HA := Lib.hid ha
  have HB0 := Lib.hid hb0
  have hbox : (w.alloc (.cells #[.slice a n c] 25)).cell? ⟨w.heap.size, 0, none⟩ = some (.slice a n c) := by simp [go_sem]
  have HBX := Lib.hid hbox
  have K1 := Lib.hid fun W1 (h : Below (w.alloc (.cells #[.slice a n c] 25)).heap.size (w.alloc (.cells #[.slice a n c] 25)) W1) => valid21 a n c P R M T W1 (HR.out.mono h) hml
  have K2 := Lib.hid fun W1 (h : Below (w.alloc (.cells #[.slice a n c] 25)).heap.size (w.alloc (.cells #[.slice a n c] 25)) W1) => contains23 d m l W W1 (HRW.out.mono h) hmm
  have HW0 := Lib.hid hW0
  clear H HW ha hb0 hbox hW0
  go_enter Try.func14, Try.ntmps14
  go_upto_region 1 with fail
  have hz0 : (w.alloc (.cells #[.slice a n c] 25)).heap.size = w.heap.size + 1 := by simp
  generalize w.alloc (.cells #[.slice a n c] 25) = w0 at *
  have hbox := HBX.out
  go_wp2_with fail
  refine (K1.out w0 (Below.refl _ _)).mono ?_
  rintro e w1 ⟨rfl, hb⟩
  have hbox1 := up hb HBX.out
  have HB1 := Lib.hid hb
  clear hb hbox
  cases hok : okB n P R M T
  · have HE := Lib.hid (show eS n m (okB n P R M T) W s = 1 by unfold eS; rw [hok, if_pos rfl])
    have HBW := Lib.hid (bthen HB0.out (show Below w0.heap.size w0 w1 from HB1.out) (by omega))
    clear hok
    go_wp2
    go_ret3
    exact share_bad HE.out (by decide) HBW.out
  · have HOK := Lib.hid hok
    clear hok
    by_cases hmn : m = n
    · subst hmn
      cases hbs : btw s 0 256
      · have HE := Lib.hid (show eS m m (okB m P R M T) W s = 3 by unfold eS; rw [HOK.out, if_neg (by simp), if_neg (by simp), hbs]; rfl)
        have HBW := Lib.hid (bthen HB0.out (show Below w0.heap.size w0 w1 from HB1.out) (by omega))
        go_wp2_with (go_at_call 22; refine (between22 s 0 256 _).mono ?_; rw [hbs]; rintro e wz ⟨rfl, rfl⟩)
        go_ret3
        exact share_bad HE.out (by decide) HBW.out
      · cases hany : anyB (badW W) m
        · have he : eS m m (okB m P R M T) W s = 0 := by unfold eS; rw [HOK.out, if_neg (by simp), if_neg (by simp), hbs, hany]; rfl
          obtain ⟨_, _, hs, hWb⟩ := eS_0 he
          have HE := Lib.hid he
          have HWB := Lib.hid hWb
          have hW : ∀ i, 0 ≤ W i := fun i => by
            rcases Nat.lt_or_ge i m with h | h
            · exact (hWb i h).1
            · rw [HW0.out i h]; exact Int.le_refl _
          have HWN := Lib.hid hW
          obtain ⟨h8, hv⟩ := okB_true HOK.out
          have HV := Lib.hid hv
          have HP := Lib.hid fun k hk => (vb_true (hv k hk)).1
          have HO := Lib.hid (ord_of fun k hk => (vb_true (hv k hk)).1)
          clear he hWb hW hv
          rcases Nat.eq_zero_or_pos m with hm0 | hm0
          · omega
          · go_upto_region 7 with (first | (go_at_call 22; refine (between22 s 0 256 _).mono ?_; rw [hbs]; rintro e wz ⟨rfl, rfl⟩) | (go_at_call 23; refine (K2.out _ HB1.out).mono ?_; rw [hany]; rintro e wz ⟨rfl, rfl⟩))
            clear hbs hany K1 K2
            have hmk := fun W1 : World => run_make_row' (P := Try.prog) 22 3 (.int .i64 0) 8 Try.underlying22 intInfo rfl .i64 .i64 m (by omega) (by omega) W1
            have hz1 := HB1.out.size
            go_cut [9, 10] (fun s9 s10 W1 => ∃ ob cc gb, s9 = .slice (some ⟨ob, 0, none⟩) m cc ∧ m ≤ cc ∧ s10 = .slice (some ⟨gb, 0, none⟩) m m ∧ ob ≠ gb ∧ w0.heap.size ≤ ob ∧ w0.heap.size ≤ gb ∧ Below w0.heap.size w0 W1 ∧ B4 W1 ob m P R M T ∧ VAt W1 gb m (iv fun _ => 0))
            case first =>
              go_region_held3 (fun w' => w'.cell? ⟨w.heap.size, 0, none⟩ = some (.slice a m c)) (first | assumption | (go_keep; done) | exact up hbC (by first | assumption | (go_keep; done)))
                ((go_at_call 25; refine (clone25 _ a m c P R M T hn HA.out (HR.out.mono (by first | exact HB1.out.drew | exact HB1.out.drew.alloc hz1 _))).mono ?_; rintro e wc ⟨v, rfl, aC, cC, bC, rfl, hcC, hC, hbC⟩; obtain ⟨rfl, hlC, hVC⟩ := hC hm0))
              · have z1 : wz.heap.size ≤ wc.heap.size := hbC.size
                have z2 : wz.heap.size ≤ bC := hlC
                have hlt := hVC.lt
                go_wp2_with fail
                go_meet
                exact ⟨bC, cC, _, rfl, hcC, rfl, Nat.ne_of_lt hlt, by omega, by omega, (bthen HB1.out.drew hbC (by simpa using hz1)).alloc (by omega) _, hVC.mono (below_alloc _ _), VAt.of_alloc _ _ _⟩
              · have z2 : wz.heap.size + 1 ≤ bC := by simpa using hlC
                have z3 : wz.heap.size + 1 ≤ wc.heap.size := by simpa using hbC.size
                have hbC2 : Below (wz.heap.size + 1) (wz.alloc (.cells (madeCells #[.int .i64 0] m) 3)).drew wc := by simpa using hbC
                go_wp2_with fail
                go_meet
                exact ⟨bC, cC, _, rfl, hcC, rfl, by omega, by omega, by omega, bthen (HB1.out.alloc hz1 _).drew hbC (by simp; omega), hVC, ((VAt.of_alloc wz m 0).mono ((Below.refl _ _).drew)).mono hbC⟩
            case rest =>
              clear hbox1 HB1 hmk hz1
              obtain ⟨ob, cc, gb, rfl, hcc, rfl, hne, hob, hgb, hb, hQ, hG⟩ := hcut
              have HB2 := Lib.hid hb
              have HQ2 := Lib.hid hQ
              have HG2 := Lib.hid hG
              have lo := hQ.lt
              have lg := hG.lt
              have hbox2 := up hb HBX.out
              clear hQ hG
              have sc := hb.size
              clear hb
              go_wp2_with fail
              go_loopw [11, 45] (fun s11 s45 wr => ∃ k : Nat, s45 = .int .i64 k ∧ k ≤ m ∧ wr.ownsRow wc.heap.size 3 1 s11 k ((List.range k).map (iv fun q => (q : Int))) ∧ Below wc.heap.size wc wr) (fun _ s45 _ => m - (intOf s45).toNat)
              case atStart => exact ⟨0, rfl, Nat.zero_le _, World.ownsRow_nil _ _ _ _, Below.refl _ _⟩
              case round =>
                rename_i v11
                obtain ⟨k, rfl, hk, hO, hb⟩ := hrel
                have HOW := Lib.hid hO
                have HB := Lib.hid hb
                have hsz := hb.size
                clear hO hb
                by_cases hlt : k < m
                · have hk6 : k + 1 ≤ 1000000 := by omega
                  go_wp2_with (at_builtin; refine wpList_append1 wr wc wc.heap.size rfl (.tmp 48) (.tmp 50) 22 rfl 3 (.int .i64 0) 8 Try.underlying22 intInfo rfl (by decide) _ k (iv fun q => (q : Int)) rfl _ rfl HOW.out HB.out hsz rfl rfl hk6 ?_; intro v' w7 hown hB7 hb7 hs7 _; have HO7 := Lib.hid hown; have HB7 := Lib.hid hB7; clear hown hB7 hb7 hs7)
                  go_roundw
                  case rel => exact ⟨k + 1, by go_num, by omega, HO7.out, HB7.out⟩
                  case measure => simp [intOf]; omega
                · obtain rfl : k = m := by omega
                  obtain ⟨a', cap, z, rfl, hcap, h3, h4⟩ := own_cellsK (s := 1) (by simpa using HOW.out)
                  obtain ⟨rfl, hz1, hz2, hzf⟩ := h3 hm0
                  have hV : VAt wr z k (iv fun q => (q : Int)) := ⟨fun q hq => h4 q (by omega), hzf, hz2⟩
                  have hbw := HB.out.mono (Nat.le_refl _)
                  have hb0 := bthen HB2.out hbw sc
                  have K := Lib.hid (stable26 w.heap.size z a k c cap P R M T w0 wr HBX.out HR.out HP.out h8 hb0 (by omega) hV hm0)
                  have HQ3 := Lib.hid (HQ2.out.mono hbw)
                  have HG3 := Lib.hid (HG2.out.mono hbw)
                  have HB3 := Lib.hid hb0
                  have hs3 := hb0.size
                  clear hbw hb0 hV h3 h4 hzf HOW HB HQ2 HG2 HB2 hbox2
                  go_wp2_with fail
                  refine K.out.mono ?_
                  rintro e w3 ⟨rfl, hG, hV⟩
                  have HL := HO.out
                  have HS0 := Lib.hid (show Sh w0 w3 ob gb z k P R M T (gv (cap1 W T) (ordP P k 16) s 0) (gv (cap1 W T) (ordP P k 16) s 0) (ordP P k 16) from
                    ⟨below_grown HB3.out hG (by omega) hs3, (VAt.grown HQ3.out hG (by omega)).congr fun j hj => bf_congr (fun q _ => by simp [gv]) j hj, HG3.out.grown hG (by omega), hV.congr fun q hq => congrArg (Value.int .i64) (show nums _ q = row _ k q from by unfold row; rw [if_pos hq]; rfl), ⟨hne, by omega, by omega⟩, hob, hgb⟩)
                  clear hG hV HQ3 HG3 HB3 K HL
                  generalize hLL : ordP P k 16 = L at *
                  have HLL := Lib.hid hLL
                  clear hLL
                  go_wp2_with fail
                  go_loopw [13, 59] (fun s13 s59 wr => ∃ j : Nat, s59 = .int .i64 j ∧ j ≤ k ∧ s13 = .int .i64 (lf (cap1 W T) L s j) ∧ Sh w0 wr ob gb z k P R M T (gv (cap1 W T) L s j) (gv (cap1 W T) L s j) L) (fun _ s59 _ => k - (intOf s59).toNat)
                  case atStart => exact ⟨0, rfl, Nat.zero_le _, rfl, HS0.out⟩
                  case round =>
                    clear HS0
                    obtain ⟨j, rfl, hj, rfl, hS⟩ := hrel
                    have HS := Lib.hid hS
                    by_cases hlt : j < k
                    · have hyk := HO.out.lt j hlt
                      have hgf := gv_fresh (cap := cap1 W T) (s := s) HO.out (Nat.le_refl j) hlt
                      have hlf := lf_bd (L := L) (cap := cap1 W T) hs.1 (cap1_nn HWN.out) j
                      have HGP := Lib.hid fun x hx => gv_put (cap := cap1 W T) (L := L) (s := s) (j := j) (x := x) rfl hx
                      have HLF := Lib.hid (show lf (cap1 W T) L s (j + 1) = lf (cap1 W T) L s j - min (cap1 W T (L.getD j 0)) (lf (cap1 W T) L s j) from rfl)
                      have o0 := hS.ord.c j hlt
                      unfold iv nums at o0
                      generalize L.getD j 0 = y at *
                      have g0 := hS.got.c y hyk
                      unfold iv at g0
                      rw [hgf] at g0
                      have t0 := (hS.out.cells hyk).2.2.2
                      rw [hgf, Int.sub_zero] at t0
                      have gf := hS.got.fr y
                      have tf := hS.out.fr (y * 4 + 3)
                      obtain ⟨wb, wo, wa, wx⟩ := HRW.out.mono hS.bel
                      obtain rfl := wa hm0
                      have w1 := wx y hyk
                      obtain ⟨lb, lo2, la, lx⟩ := HR.out.mono hS.bel
                      obtain rfl := la hm0
                      have l0 := (lx y hyk).2.2.2
                      have bx := up hS.bel HBX.out
                      have bv := vb_true (HV.out y hyk)
                      have bw := HWB.out y hyk
                      have hc1 : cap1 W T y = min (W y) (max (T y) 0) := rfl
                      have HT := Lib.hid fun (w4 : World) (h4 : Below wr.heap.size wr w4) x => ((hS.mono h4).setG y x).setT y x
                      have i1 : (0 : Int) ≤ (y : Int) := by omega
                      have i2 : (y : Int) < (k : Int) := by omega
                      have i3 : (0 : Int) ≤ (j : Int) := by omega
                      have i4 : (j : Int) < (k : Int) := by omega
                      have ltg := lt_of_cell g0
                      have lto := lt_of_cell t0
                      rw [hc1] at HGP HLF
                      clear hS wa wx la lx hgf hc1
                      generalize W y = wy at *
                      generalize T y = ty at *
                      generalize lf (cap1 W T) L s j = lj at *
                      go_upto_region 19 with fail
                      obtain ⟨mx, hmx⟩ : ∃ mx, (if ty < 0 then 0 else ty) = mx := ⟨_, rfl⟩
                      obtain ⟨mn, hmn⟩ : ∃ mn, (if mx < wy then mx else wy) = mn := ⟨_, rfl⟩
                      obtain ⟨x, hxx⟩ : ∃ x, (if lj < mn then lj else mn) = x := ⟨_, rfl⟩
                      have e1 : max ty 0 = mx := by rw [← hmx]; split <;> omega
                      have e2 : min wy mx = mn := by rw [← hmn]; split <;> omega
                      have hx : min mn lj = x := by rw [← hxx]; split <;> omega
                      rw [e1, e2] at HGP HLF
                      have hxb : 0 ≤ x ∧ x ≤ lj := by omega
                      clear e1 e2
                      go_quiet (fail)
                      clear hmx hmn hxx
                      generalize hqq : nq = q at *
                      clear hqq
                      have hb4 : Below wr.heap.size wr (wr.drewN q) := below_drewN (Below.refl _ _) q
                      have HS4 := Lib.hid (((HT.out _ hb4 x).congr (fun i _ => HGP.out x hx.symm i) (fun i _ => HGP.out x hx.symm i)))
                      have HLF2 := HLF.out
                      rw [hx] at HLF2
                      have HLF3 := Lib.hid HLF2
                      have g4 := up hb4 g0
                      have t4 := up hb4 t0
                      have gf4 := upf hb4 ltg gf
                      have tf4 := upf hb4 lto tf
                      clear g0 t0 gf tf o0 w1 l0 bx ltg lto HT HGP HLF HS hx hb4 HLF2
                      generalize wr.drewN q = w4 at *
                      have t5 : (w4.setCell ⟨gb, y, none⟩ (.int .i64 x)).cell? ⟨ob, y * 4 + 3, none⟩ = some (.int .i64 ty) := by
                        rw [cell_set, if_neg (by simp [Ne.symm hne])]; exact t4
                      have tf5 : (w4.setCell ⟨gb, y, none⟩ (.int .i64 x)).frozen? ⟨ob, y * 4 + 3, none⟩ = false := by
                        rw [World.frozen?_setCell]; exact tf4
                      go_wp2_with fail
                      go_roundw
                      case rel => exact ⟨j + 1, by go_num, by omega, by rw [HLF3.out], HS4.out⟩
                      case measure => simp [intOf]; omega
                    · obtain rfl : j = k := by omega
                      have hl1 := l1_bd (W := W) (T := T) (L := L) (n := j) hs.1 HWN.out
                      have HS1 := Lib.hid (show Sh w0 wr ob gb z j P R M T (fun i => g1 W T L j s i + g2 W T L j s 0 i) (g1 W T L j s) L from hS.congr (fun i _ => by show g1 W T L j s i + 0 = gv _ L s j i; rw [Int.add_zero]; rfl) (fun _ _ => rfl))
                      have HL0 := Lib.hid (show lf (cap1 W T) L s j = lf (cap2 W T L j s) L (l1 W T L j s) 0 from rfl)
                      rw [HL0.out]
                      clear hS HS
                      go_wp2_with fail
                      go_loopw [13, 97] (fun s13 s97 wr => ∃ i : Nat, s97 = .int .i64 i ∧ i ≤ j ∧ s13 = .int .i64 (lf (cap2 W T L j s) L (l1 W T L j s) i) ∧ Sh w0 wr ob gb z j P R M T (fun x => g1 W T L j s x + g2 W T L j s i x) (g1 W T L j s) L) (fun _ s97 _ => j - (intOf s97).toNat)
                      case atStart => exact ⟨0, rfl, Nat.zero_le _, rfl, HS1.out⟩
                      case round =>
                        clear HS1
                        obtain ⟨i, rfl, hi, rfl, hS⟩ := hrel
                        have HS := Lib.hid hS
                        by_cases hlt : i < j
                        · have hyk := HO.out.lt i hlt
                          have hgf : g2 W T L j s i (L.getD i 0) = 0 := gv_fresh HO.out (Nat.le_refl i) hlt
                          have hlf := lf_bd (L := L) (cap := cap2 W T L j s) hl1.1 (cap2_nn (T := T) (L := L) (n := j) hs.1 HWN.out) i
                          have HGP := Lib.hid fun x hx => gv_put (cap := cap2 W T L j s) (L := L) (s := l1 W T L j s) (j := i) (x := x) rfl hx
                          have HLF := Lib.hid (show lf (cap2 W T L j s) L (l1 W T L j s) (i + 1) = lf (cap2 W T L j s) L (l1 W T L j s) i - min (cap2 W T L j s (L.getD i 0)) (lf (cap2 W T L j s) L (l1 W T L j s) i) from rfl)
                          have o0 := hS.ord.c i hlt
                          unfold iv nums at o0
                          have hgb1 := gv_bd (cap := cap1 W T) (L := L) hs.1 (cap1_nn (T := T) HWN.out) j (L.getD i 0)
                          have hc2 : cap2 W T L j s (L.getD i 0) = W (L.getD i 0) - g1 W T L j s (L.getD i 0) := rfl
                          have hg1 : 0 ≤ g1 W T L j s (L.getD i 0) ∧ g1 W T L j s (L.getD i 0) ≤ W (L.getD i 0) := by
                            unfold g1
                            have : cap1 W T (L.getD i 0) ≤ W (L.getD i 0) := by unfold cap1; omega
                            omega
                          rw [hc2] at HGP HLF
                          clear hgb1 hc2
                          generalize L.getD i 0 = y at *
                          have g0 := hS.got.c y hyk
                          unfold iv at g0
                          simp only [hgf, Int.add_zero] at g0
                          have gf := hS.got.fr y
                          obtain ⟨wb, wo, wa, wx⟩ := HRW.out.mono hS.bel
                          obtain rfl := wa hm0
                          have w1 := wx y hyk
                          have bw := HWB.out y hyk
                          have HT := Lib.hid fun (w4 : World) (h4 : Below wr.heap.size wr w4) x => ((hS.mono h4).setG y x)
                          have i1 : (0 : Int) ≤ (y : Int) := by omega
                          have i2 : (y : Int) < (j : Int) := by omega
                          have i3 : (0 : Int) ≤ (i : Int) := by omega
                          have i4 : (i : Int) < (j : Int) := by omega
                          have ltg := lt_of_cell g0
                          clear hS wa wx hgf
                          have HY := Lib.hid (rfl : g1 W T L j s y = g1 W T L j s y)
                          generalize hgy : g1 W T L j s y = gy at *
                          have HGY := Lib.hid hgy
                          generalize W y = wy at *
                          generalize lf (cap2 W T L j s) L (l1 W T L j s) i = lj at *
                          clear hgy
                          have e1 : IntKind.i64.wrap (wy - gy) = wy - gy := IntWalk.i64_in _ (by omega)
                          go_upto_region 27 with fail
                          obtain ⟨x, hxx⟩ : ∃ x, (if lj < wy - gy then lj else wy - gy) = x := ⟨_, rfl⟩
                          have hx : min (wy - gy) lj = x := by rw [← hxx]; split <;> omega
                          have hxb : 0 ≤ x ∧ x ≤ lj := by omega
                          go_quiet (fail)
                          clear hxx
                          generalize hqq : nq = q at *
                          clear hqq
                          have hb4 : Below wr.heap.size wr (wr.drewN q) := below_drewN (Below.refl _ _) q
                          have HS4 := Lib.hid (((HT.out _ hb4 (gy + x)).congr (g' := fun i' => g1 W T L j s i' + g2 W T L j s (i + 1) i') (fun i' _ => by
                            have := HGP.out x hx.symm i'
                            show g1 W T L j s i' + gv _ L _ (i + 1) i' = _
                            rw [this]
                            unfold putI
                            split
                            · rename_i e; rw [e, HGY.out]
                            · rfl) (fun i _ => rfl)))
                          have HLF2 := HLF.out
                          rw [hx] at HLF2
                          have HLF3 := Lib.hid HLF2
                          have g4 := up hb4 g0
                          have gf4 := upf hb4 ltg gf
                          clear g0 gf o0 w1 ltg HT HGP HLF HS hx hb4 HLF2
                          generalize wr.drewN q = w4 at *
                          go_wp2_with fail
                          go_roundw
                          case rel => exact ⟨i + 1, by go_num, by omega, by rw [HLF3.out], HS4.out⟩
                          case measure => simp [intOf]; omega
                        · obtain rfl : i = j := by omega
                          have HF := Lib.hid hS
                          have HBW := Lib.hid (bthen HB0.out (show Below w0.heap.size w0 wr from hS.bel) (by omega))
                          clear hS HS
                          have hLL := HLL.out
                          go_wp2
                          go_ret3
                          subst hLL
                          exact ⟨i, _, _, cc, i, by rw [HE.out]; rfl, by rw [HE.out]; rfl, hcc, fun h => by simp at h, B4.r4 HF.out.out, VAt.row HF.out.got, HBW.out⟩
        · have HE := Lib.hid (show eS m m (okB m P R M T) W s = 3 by unfold eS; rw [HOK.out, if_neg (by simp), if_neg (by simp), hbs, hany]; rfl)
          have HBW := Lib.hid (bthen HB0.out (show Below w0.heap.size w0 w1 from HB1.out) (by omega))
          go_wp2_with (first | (go_at_call 22; refine (between22 s 0 256 _).mono ?_; rw [hbs]; rintro e wz ⟨rfl, rfl⟩) | (go_at_call 23; refine (K2.out _ HB1.out).mono ?_; rw [hany]; rintro e wz ⟨rfl, rfl⟩))
          go_ret3
          exact share_bad HE.out (by decide) HBW.out
    · have HE := Lib.hid (show eS n m (okB n P R M T) W s = 2 by unfold eS; rw [HOK.out, if_neg (by simp), if_pos hmn])
      have HBW := Lib.hid (bthen HB0.out (show Below w0.heap.size w0 w1 from HB1.out) (by omega))
      have q1 : ((m : Int) != (n : Int)) = true := by rw [bne_iff_ne]; omega
      go_wp2
      go_ret3
      exact share_bad HE.out (by decide) HBW.out
end
end Go.Proofs.Ytgcplboiodnfpaa
