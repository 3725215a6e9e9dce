/- Layer 33: the reference's plan. -/
import Derived.Test.YteokhadpenalaaaG8
import Derived.Deep.DeepCutAuto
import Derived.Deep.CutBlock
namespace Go.Proofs.Yteokhadpenalaaa
set_option linter.unusedVariables false
set_option linter.unusedSimpArgs false
open Go.RowKit Go.Sort
attribute [local go_sem] gcell

theorem rowInfo : (Try.prog.info? 23).map (fun i => (i.zero, i.size, i.bytes)) = some (some (.slice none 0 0), 1, 24) := by kernel_rfl
/-- What a plan hands back. -/
def PlanR (n : Nat) (F W B : Nat → Int) (r h : Int) (w : World) (e : Ending) (w' : World) : Prop :=
  ∃ v, e = .returned (.tuple #[v, .bool (plB n F W B r h && keptB n F W B r.toNat h.toNat)]) ∧ Rows2 w' v (if plB n F W B r h = true then h.toNat else 0) (who n F W B r.toNat) ∧ Below w.heap.size w w'
theorem Rows2.nil (w : World) (L : Nat → List Nat) : Rows2 w (.slice none 0 0) 0 L :=
  ⟨none, 0, 0, 0, fun _ => none, fun _ => 0, rfl, fun h => absurd h (Nat.lt_irrefl _), fun t ht => absurd ht (Nat.not_lt_zero _)⟩
def upto (k : Nat) (new old : Nat → Int) (j : Nat) : Int := if j < k then new j else old j
theorem upto_put {k : Nat} {new old : Nat → Int} {x : Int} (h : x = new k) (j : Nat) : upto (k + 1) new old j = putI (upto k new old) k x j := by
  show (if j < k + 1 then new j else old j) = (if j = k then x else (if j < k then new j else old j))
  by_cases e : j = k
  · subst e; rw [if_pos (by omega), if_pos rfl, h]
  · rw [if_neg e]
    by_cases c : j < k
    · rw [if_pos (by omega), if_pos c]
    · rw [if_neg (by omega), if_neg c]
theorem upto_keep {k : Nat} {new old : Nat → Int} (h : old k = new k) (j : Nat) : upto (k + 1) new old j = upto k new old j := by
  show (if j < k + 1 then new j else old j) = (if j < k then new j else old j)
  by_cases e : j = k
  · subst e; rw [if_pos (by omega), if_neg (by omega), h]
  · by_cases c : j < k
    · rw [if_pos (by omega), if_pos c]
    · rw [if_neg (by omega), if_neg c]
theorem upto_lt {k j : Nat} (new old : Nat → Int) (h : j < k) : upto k new old j = new j := if_pos h
theorem upto_ge {k j : Nat} (new old : Nat → Int) (h : k ≤ j) : upto k new old j = old j := if_neg (by omega)
theorem keptB_succ (n : Nat) (F W B : Nat → Int) (r t : Nat) : keptB n F W B r (t + 1) = (keptB n F W B r t && !missB n F W B r t) := by
  unfold keptB
  show (!(anyB (missB n F W B r) t || missB n F W B r t)) = _
  rw [Bool.not_or]
theorem bump_put (g : Nat → Int) (j i : Nat) : bump g j i = putI g j (g j + 1) i := by
  unfold bump putI
  split
  · rename_i e; rw [e]
  · rfl
/-- The window of a tick, by cases. -/
theorem win_cases {F W B : Int} (hv : vg F W B = true) {t : Nat} (ht : t ≤ 600) : (F ≤ t ∧ win F W B t = (rel F W t, rel F W t + W) ∧ 0 ≤ rel F W t ∧ rel F W t ≤ t ∧ (t : Int) < rel F W t + W) ∨ (¬ F ≤ t ∧ win F W B t = (0, 0)) := by
  have h := vg_true hv
  have hb := rel_bd (F := F) (t : Int) (show 1 ≤ W by omega)
  by_cases c : F ≤ (t : Int)
  · have := rel_ge (show 1 ≤ W by omega) c
    exact .inl ⟨c, if_pos ⟨hv, c, by omega⟩, by omega, hb.1, hb.2⟩
  · exact .inr ⟨c, if_neg fun h => c h.2.1⟩

set_option maxRecDepth 100000 in
set_option maxHeartbeats 16000000 in
theorem plan19 (a : Option Addr) (n c : Nat) (F W B : Nat → Int) (r h : Int) (w : World) (R : R3 w a n F W B) (hn : n ≤ maxLen) :
    Calls Try.prog 19 #[.slice a n c, .int .i64 r, .int .i64 h] w (PlanR n F W B r h w) := by
  have K := right31 a n c F W B r h w R hn
  have HR := Lib.hid R
  clear R
  cases hp : plB n F W B r h
  · rw [hp] at K
    have HK := Lib.hid K
    have HP := Lib.hid hp
    clear K hp
    go_enter Try.func19, Try.ntmps19
    go_wp2_with fail
    refine HK.out.mono ?_
    rintro e w1 ⟨rfl, hb⟩
    have HB := Lib.hid hb
    clear hb
    go_wp2
    go_ret2
    exact ⟨_, by rw [HP.out]; rfl, by rw [HP.out]; exact Rows2.nil _ _, HB.out⟩
  · rw [hp] at K
    obtain ⟨hc, hr, hh⟩ := plB_true hp
    obtain ⟨H, rfl⟩ : ∃ H : Nat, h = H := ⟨h.toNat, by omega⟩
    obtain ⟨N, rfl⟩ : ∃ N : Nat, r = N := ⟨r.toNat, by omega⟩
    have HP := Lib.hid hp
    have HK := Lib.hid K
    have HC := Lib.hid hc
    obtain ⟨ok1, ok2⟩ := ck_ok hc
    have OK2 := Lib.hid ok2
    obtain ⟨i0, hi, hz0, hz1, hz2⟩ := info_split intInfo
    obtain ⟨i1, hj, hy0, hy1, hy2⟩ := info_split rowInfo
    have HI := Lib.hid hi
    have HZ0 := Lib.hid hz0
    have HZ1 := Lib.hid hz1
    have HZ2 := Lib.hid hz2
    have HJ := Lib.hid hj
    have HY0 := Lib.hid hy0
    have HY1 := Lib.hid hy1
    have HY2 := Lib.hid hy2
    clear K hp hc ok2 hi hz0 hz1 hz2 hj hy0 hy1 hy2
    go_enter Try.func19, Try.ntmps19
    go_wp2_with fail
    refine HK.out.mono ?_
    rintro e w1 ⟨rfl, hb⟩
    have HB1 := Lib.hid hb
    have z1 := hb.size
    clear hb
    go_wp2_with (refine wpList_make_full _ rfl (.tmp 26) (.tmp 26) 32 rfl w1.heap.size 23 i1 (.slice none 0 0) 1 Try.underlying32 HJ.out HY0.out HY1.out .i64 .i64 (H : Int) (H : Int) H rfl rfl rfl rfl ?c1 ?c2 (Nat.le_refl _) ?_)
    case c1 => rw [HY2.out]; omega
    case c2 => unfold maxLen; omega
    intro w2 hown hgrow
    have HO := Lib.hid (VAt.made hown)
    have HB2 := Lib.hid (bthen HB1.out (below_of_grown hgrow) z1)
    have z2 := HB2.out.size
    clear hown hgrow
    generalize w1.heap.size = O at *
    go_wp2_with (refine wpList_make_full _ rfl (.tmp 29) (.tmp 29) 23 rfl w2.heap.size 3 i0 (.int .i64 0) 1 Try.underlying23 HI.out HZ0.out HZ1.out .i64 .i64 (n : Int) (n : Int) n rfl rfl rfl rfl ?d1 ?d2 (Nat.le_refl _) ?_)
    case d1 => rw [HZ2.out]; omega
    case d2 => exact hn
    intro w3 hown hgrow
    have hbw := below_of_grown hgrow
    have hG : VAt w3 w2.heap.size n (iv (got F W B n N 0)) := VAt.made hown
    have HS0 := Lib.hid (Sv.start (w := w) (h := H) (L := who n F W B N) (bthen HB2.out hbw z2) (HO.out.mono hbw) hG z1 z2 (Nat.ne_of_lt HO.out.lt))
    clear hown hgrow hbw hG HO HB2
    generalize w2.heap.size = G at *
    go_wp2_with fail
    go_loopw [10, 11] (fun s10 s11 wr => ∃ t D : Nat, s11 = .int .i64 t ∧ s10 = .bool (keptB n F W B N t) ∧ t ≤ H ∧ Sv w wr O G H t D n (who n F W B N) [] (got F W B n N t) (.slice none 0 0)) (fun _ s11 _ => H - (intOf s11).toNat)
    case atStart => exact ⟨0, _, rfl, rfl, Nat.zero_le _, HS0.out⟩
    case round =>
      clear HS0
      obtain ⟨t, D, rfl, rfl, ht, hS⟩ := hrel
      have HS := Lib.hid hS
      clear hS
      by_cases hlt : t < H
      · go_wp2_with fail
        go_loopw [12] (fun s12 wx => ∃ i : Nat, s12 = .int .i64 i ∧ i ≤ n ∧ Sv w wx O G H t D n (who n F W B N) [] (upto i (rst F W (got F W B n N t) t) (got F W B n N t)) (.slice none 0 0)) (fun s12 _ => n - (intOf s12).toNat)
        case atStart => exact ⟨0, rfl, Nat.zero_le _, HS.out.congrG fun j _ => upto_ge _ _ (Nat.zero_le _)⟩
        case round =>
          clear HS
          obtain ⟨i, rfl, hi, hS⟩ := hrel
          have HS := Lib.hid hS
          by_cases hin : i < n
          · obtain ⟨b, m, g1, g2⟩ := HR.out.mono hS.bel
            obtain rfl := g1 (by omega)
            obtain ⟨c0, c1, c2⟩ := g2 i hin
            have hv := OK2.out i hin
            have K := window22 (F i) (W i) (B i) t
            have i1 : (0 : Int) ≤ (i : Int) := by omega
            have i2 : (i : Int) < (n : Int) := by omega
            clear hS g1 g2
            rcases win_cases hv (show t ≤ 600 by omega) with ⟨hF, hw, hr0, hr1, hr2⟩ | ⟨hF, hw⟩
            · rw [hw] at K
              unfold gvv at K
              have HKW := Lib.hid K
              clear K hw hv
              go_wp2_with fail
              refine (HKW.out _).mono ?_
              rintro e w4 ⟨rfl, hb⟩
              have hS4 := HS.out.mono hb
              have HS4 := Lib.hid hS4
              have d0 := hS4.got.c i hin
              have d1 := hS4.got.fr i
              unfold iv at d0
              rw [upto_ge _ _ (Nat.le_refl i)] at d0
              clear hb hS4 c0 c1 c2 HS
              by_cases hrt : rel (F i) (W i) t = t
              · have q1 : (rel (F i) (W i) t == (t : Int)) = true := by rw [hrt]; exact beq_self_eq_true _
                have hx : (0 : Int) = rst F W (got F W B n N t) t i := by unfold rst; rw [if_pos ⟨hF, hrt⟩]
                have HS5 := Lib.hid ((HS4.out.setG i 0).congrG fun j _ => upto_put hx j)
                have p1 : 0 < rel (F i) (W i) t + W i := by omega
                clear hx hrt
                go_wp2_with fail
                exact ⟨⟨i + 1, by go_num, by omega, HS5.out⟩, by simp [intOf]; omega⟩
              · have q1 : (rel (F i) (W i) t == (t : Int)) = false := beq_eq_false_iff_ne.2 hrt
                have hx : got F W B n N t i = rst F W (got F W B n N t) t i := by unfold rst; rw [if_neg (fun h => hrt h.2)]
                have HS5 := Lib.hid (HS4.out.congrG fun j _ => upto_keep hx j)
                have p1 : 0 < rel (F i) (W i) t + W i := by omega
                clear hx hrt
                go_wp2_with fail
                exact ⟨⟨i + 1, by go_num, by omega, HS5.out⟩, by simp [intOf]; omega⟩
            · rw [hw] at K
              unfold gvv at K
              have HKW := Lib.hid K
              clear K hw hv
              go_wp2_with fail
              refine (HKW.out _).mono ?_
              rintro e w4 ⟨rfl, hb⟩
              have HS4 := Lib.hid (HS.out.mono hb)
              have hx : got F W B n N t i = rst F W (got F W B n N t) t i := by unfold rst; rw [if_neg (fun h => absurd h.1 (by omega))]
              have HS5 := Lib.hid (HS4.out.congrG fun j _ => upto_keep hx j)
              clear hb hx c0 c1 c2 HS
              go_wp2_with fail
              exact ⟨⟨i + 1, by go_num, by omega, HS5.out⟩, by simp [intOf]; omega⟩
          · have : i = n := by omega
            subst this
            have HS1 := Lib.hid (hS.congrG (g' := rst F W (got F W B i N t) t) fun j hj => (upto_lt _ _ hj).symm)
            clear hS HS
            go_upto_block 4 with fail
            go_cut [15] (fun s15 wx => ∃ v, Sv w wx O G H t D i (who i F W B N) (who i F W B N t) (got F W B i N (t + 1)) v)
            case first =>
              go_wp2_with fail
              go_loopw [15] (fun s15 wx => ∃ (j : Nat) (v : Value), s15 = .int .i64 j ∧ j ≤ N ∧ Sv w wx O G H t D i (who i F W B N) (ls F W B i (rst F W (got F W B i N t) t) t j) (gs F W B i (rst F W (got F W B i N t) t) t j) v) (fun s15 _ => N - (intOf s15).toNat)
              case atStart => exact ⟨0, _, rfl, Nat.zero_le _, HS1.out⟩
              case round =>
                clear HS1
                obtain ⟨j, v, rfl, hj, hS⟩ := hrel
                have HS := Lib.hid hS
                by_cases hjN : j < N
                · have K := next21 a (some ⟨G, 0, none⟩) i c i i F W B (gs F W B i (rst F W (got F W B i N t) t) t j) t wr (HR.out.mono hS.bel) hS.got.row hn hn
                  rw [nextV_nx HC.out (by omega)] at K
                  have hnx := nx_spec F W B (gs F W B i (rst F W (got F W B i N t) t) t j) t i
                  have hst := gs_stop (F := F) (W := W) (B := B) (g := rst F W (got F W B i N t) t) (n := i) (t := t) (j := j)
                  have hgo := gs_go (F := F) (W := W) (B := B) (g := rst F W (got F W B i N t) t) (n := i) (t := t) (j := j)
                  have hll := ls_len (F := F) (W := W) (B := B) (g := rst F W (got F W B i N t) t) (n := i) (t := t) j
                  have hgb := gs_bd F W B i (g := rst F W (got F W B i N t) t) (t := t) (rst_bd F W B i (fun x hx => (vg_true (OK2.out x hx)).2.2.2.2.1) (got_bd F W B i (fun x hx => (vg_true (OK2.out x hx)).2.2.2.2.1) N t)) j
                  generalize gs F W B i (rst F W (got F W B i N t) t) t j = g at *
                  obtain ⟨y, hy⟩ : ∃ y, nx F W B g t i = y := ⟨_, rfl⟩
                  rw [hy] at K hnx hst hgo
                  have HST := Lib.hid hst
                  have HGO := Lib.hid hgo
                  have HKN := Lib.hid K
                  clear hS K hst hgo hy
                  go_wp2_with fail
                  refine HKN.out.mono ?_
                  rintro e w5 ⟨rfl, hb⟩
                  have hS5 := HS.out.mono hb
                  have HS5 := Lib.hid hS5
                  clear hb HS HKN
                  rcases hnx with ⟨h0, h4⟩ | ⟨h1, h2, h3, h4, h5⟩
                  all_goals clear h4
                  rotate_left
                  all_goals try clear h5
                  rotate_left
                  · have q1 : decide (0 < y.2) = false := by simp; omega
                    have he := (HST.out h0 (N - j))
                    rw [show j + (N - j) = N by omega] at he
                    have HE := Lib.hid he
                    clear hS5 h0 he hgb
                    go_wp2_with fail
                    go_meet
                    refine ⟨v, ?_⟩
                    have h6 := HS5.out
                    rw [← HE.out.2] at h6
                    exact h6.congrG fun x _ => congrFun HE.out.1 x
                  · have q1 : decide (0 < y.2) = true := by simp; omega
                    have he := HGO.out (by omega)
                    have HE := Lib.hid he
                    have d0 := hS5.got.c y.1 h1
                    have d1 := hS5.got.fr y.1
                    unfold iv at d0
                    have bg := hgb y.1 h1
                    have bB := vg_true (OK2.out y.1 h1)
                    have lt1 := lt_of_cell d0
                    have j1 : (0 : Int) ≤ (y.1 : Int) := by omega
                    have j2 : (y.1 : Int) < (i : Int) := by omega
                    have HS6 := Lib.hid ((hS5.setG y.1 (g y.1 + 1)).congrG fun x _ => bump_put g y.1 x)
                    clear hS5 he hgb
                    generalize hgy : g y.1 = gy at *
                    have hgy2 : gy + 1 ≤ 1000 ∧ 0 ≤ gy := by omega
                    clear hgy bB bg h3
                    go_upto_region 21 with fail
                    clear d0 d1 lt1 j1 j2
                    generalize w5.setCell ⟨G, y.1, none⟩ (.int .i64 (gy + 1)) = w6 at *
                    obtain ⟨f, hf1, _, hf3, _⟩ := HS6.out.f
                    have o0 : w6.cell? ⟨O, t, none⟩ = some v := by rw [← hf3]; exact hf1.c t hlt
                    have o1 := hf1.fr t
                    have lD := HS6.out.lt
                    have hsn := own_snoc y.1 HS6.out.own
                    have HSN := Lib.hid hsn
                    have HLT := Lib.hid lD
                    have k1 : (0 : Int) ≤ (t : Int) := by omega
                    have k2 : (t : Int) < (H : Int) := by omega
                    have hll2 : (ls F W B i (rst F W (got F W B i N t) t) t j).length + 1 ≤ 1000000 := by omega
                    have hLT2 := lD.2.2.1
                    generalize hl : ls F W B i (rst F W (got F W B i N t) t) t j = l at *
                    have HLs := Lib.hid hl
                    clear hf1 hf3 hsn lD hll hl
                    go_wp2_with (at_builtin; refine wpList_append1 w6 w6 D rfl (.tmp 86) (.tmp 88) 23 rfl 3 (.int .i64 0) 8 Try.underlying23 intInfo rfl (by decide) v l.length (fun x => .int .i64 (nums (l ++ [y.1]) x)) rfl _ rfl HSN.out (Below.refl _ _) HLT.out.2.2.2.2.2 (by rw [nums_snoc]) rfl hll2 ?_; intro v' w7 hown hB7 hb7 hs7 _; obtain ⟨a7, c7, g7, rfl, u1, u2, u3⟩ := own_cells hown; clear u1 u2 u3; have o2 := (hB7.cell (p := ⟨O, t, none⟩) hLT2).trans o0; have o3 := (hB7.frozen (p := ⟨O, t, none⟩) hLT2).trans o1; have HS7 := Lib.hid (HS6.out.push hlt hown hB7 hs7); clear hown hB7 hb7 hs7)
                    exact ⟨⟨j + 1, _, by go_num, by omega, by rw [HE.out.1, HE.out.2]; exact HS7.out⟩, by simp [intOf]; omega⟩
                · have : j = N := by omega
                  subst this
                  clear hS
                  go_wp2_with fail
                  go_meet
                  exact ⟨v, HS.out⟩
            case rest =>
              obtain ⟨v, hS⟩ := hcut
              have HS2 := Lib.hid hS
              clear hS HS1
              obtain ⟨p, hp⟩ : ∃ p : Nat → Bool, (fun x => decide (F x ≤ t) && decide (rel (F x) (W x) t + W x = t + 1) && decide (got F W B i N (t + 1) x < B x)) = p := ⟨_, rfl⟩
              have HPP := Lib.hid hp
              clear hp
              go_wp2_with fail
              go_loopw [10, 18] (fun s10 s18 wx => ∃ q : Nat, s18 = .int .i64 q ∧ s10 = .bool (keptB i F W B N t && !anyB p q) ∧ q ≤ i ∧ Sv w wx O G H t D i (who i F W B N) (who i F W B N t) (got F W B i N (t + 1)) v) (fun _ s18 _ => i - (intOf s18).toNat)
              case atStart => exact ⟨0, rfl, by show _ = Value.bool (keptB i F W B N t && !false); simp, Nat.zero_le _, HS2.out⟩
              case round =>
                clear HS2
                obtain ⟨q, rfl, rfl, hq, hS⟩ := hrel
                have HS := Lib.hid hS
                by_cases hqi : q < i
                · obtain ⟨b, m, g1, g2⟩ := HR.out.mono hS.bel
                  obtain rfl := g1 (by omega)
                  obtain ⟨c0, c1, c2⟩ := g2 q hqi
                  have hv := OK2.out q hqi
                  have K := window22 (F q) (W q) (B q) t
                  have i1 : (0 : Int) ≤ (q : Int) := by omega
                  have i2 : (q : Int) < (i : Int) := by omega
                  have e1 : IntKind.i64.wrap ((t : Int) + 1) = (t : Int) + 1 := IntWalk.i64_in _ (by omega)
                  have hany : anyB p (q + 1) = (anyB p q || p q) := rfl
                  have hpq : p q = (decide (F q ≤ t) && decide (rel (F q) (W q) t + W q = t + 1) && decide (got F W B i N (t + 1) q < B q)) := by rw [← HPP.out]
                  clear hS g1 g2
                  generalize anyB p q = PQ at *
                  generalize keptB i F W B N t = KB at *
                  rcases win_cases hv (show t ≤ 600 by omega) with ⟨hF, hw, hr0, hr1, hr2⟩ | ⟨hF, hw⟩
                  · rw [hw] at K
                    unfold gvv at K
                    have HKW := Lib.hid K
                    rw [decide_eq_true hF, Bool.true_and] at hpq
                    have HPQ := Lib.hid hpq
                    have HAN := Lib.hid hany
                    clear K hw hv hpq hany hF
                    generalize rel (F q) (W q) t + W q = y at *
                    generalize rel (F q) (W q) t = y0 at *
                    go_wp2_with fail
                    refine (HKW.out _).mono ?_
                    rintro e w8 ⟨rfl, hb⟩
                    have hS8 := HS.out.mono hb
                    have HS8 := Lib.hid hS8
                    have d0 := hS8.got.c q hqi
                    unfold iv at d0
                    have c2 := up hb c2
                    clear hb hS8 c0 c1 HS
                    generalize got F W B i N (t + 1) q = gq at *
                    generalize B q = bq at *
                    by_cases hy : y = (t : Int) + 1
                    · have q1 : (y == (t : Int) + 1) = true := by rw [hy]; exact beq_self_eq_true _
                      by_cases hg : gq < bq
                      · have q2 : decide (gq < bq) = true := decide_eq_true hg
                        have hpq : p q = true := by rw [HPQ.out, decide_eq_true hy, q2]; rfl
                        have HPT := Lib.hid hpq
                        clear hy hpq
                        go_wp2_with fail
                        go_quiet (fail)
                        go_wp2_with fail
                        exact ⟨⟨q + 1, by go_num, by rw [HAN.out, HPT.out]; simp, by omega, HS8.out.mono (below_drewN (Below.refl _ _) _)⟩, by simp [intOf]; omega⟩
                      · have q2 : decide (gq < bq) = false := decide_eq_false hg
                        have hpq : p q = false := by rw [HPQ.out, q2]; simp
                        have HPT := Lib.hid hpq
                        clear hy hpq
                        go_wp2_with fail
                        go_quiet (fail)
                        go_wp2_with fail
                        exact ⟨⟨q + 1, by go_num, by rw [HAN.out, HPT.out]; simp, by omega, HS8.out.mono (below_drewN (Below.refl _ _) _)⟩, by simp [intOf]; omega⟩
                    · have q1 : (y == (t : Int) + 1) = false := beq_eq_false_iff_ne.2 hy
                      have hpq : p q = false := by rw [HPQ.out, decide_eq_false hy]; rfl
                      have HPT := Lib.hid hpq
                      clear hy hpq
                      go_wp2_with fail
                      go_quiet (fail)
                      go_wp2_with fail
                      exact ⟨⟨q + 1, by go_num, by rw [HAN.out, HPT.out]; simp, by omega, HS8.out.mono (below_drewN (Below.refl _ _) _)⟩, by simp [intOf]; omega⟩
                  · rw [hw] at K
                    unfold gvv at K
                    have HKW := Lib.hid K
                    have hpq' : p q = false := by rw [hpq, decide_eq_false hF]; rfl
                    have HPT := Lib.hid hpq'
                    have HAN := Lib.hid hany
                    have q1 : ((0 : Int) == (t : Int) + 1) = false := beq_eq_false_iff_ne.2 (by omega)
                    clear K hw hv hpq hany hF hpq'
                    go_wp2_with fail
                    refine (HKW.out _).mono ?_
                    rintro e w8 ⟨rfl, hb⟩
                    have HS8 := Lib.hid (HS.out.mono hb)
                    clear hb c0 c1 c2 HS
                    go_wp2_with fail
                    go_quiet (fail)
                    go_wp2_with fail
                    exact ⟨⟨q + 1, by go_num, by rw [HAN.out, HPT.out]; simp, by omega, HS8.out.mono (below_drewN (Below.refl _ _) _)⟩, by simp [intOf]; omega⟩
                · have : q = i := by omega
                  subst this
                  have HTK := Lib.hid (hS.tick rfl hlt)
                  have hks := keptB_succ q F W B N t
                  have hmb : missB q F W B N t = anyB p q := by unfold missB; rw [HPP.out]
                  rw [hmb] at hks
                  have HKS := Lib.hid hks
                  clear hS HS hks hmb
                  go_wp2_with fail
                  exact ⟨⟨t + 1, _, by go_num, by rw [HKS.out], by omega, HTK.out⟩, by simp [intOf]; omega⟩
      · have : t = H := by omega
        subst this
        have HRW := Lib.hid HS.out.rows
        have HBW := Lib.hid HS.out.bel
        go_wp2
        go_ret2
        exact ⟨_, by rw [HP.out]; rfl, by rw [HP.out]; exact HRW.out, HBW.out⟩
end Go.Proofs.Yteokhadpenalaaa
