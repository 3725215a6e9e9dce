/- Layer 33: who is next. -/
import Derived.Test.YteokhadpenalaaaG4
namespace Go.Proofs.Yteokhadpenalaaa
set_option linter.unusedVariables false
set_option linter.unusedSimpArgs false
open Go.RowKit Go.Sort
attribute [local go_sem] gcell

theorem below_alloc (w : World) (o : Obj) : Below w.heap.size w (w.alloc o) := (Below.refl _ _).alloc (Nat.le_refl _) _
/-- Who is served first among the first k, for any ends of windows. -/
def nxg (e : Nat → Int) (B g : Nat → Int) : Nat → Nat × Int
  | 0 => (0, 0)
  | k + 1 => if 0 < e k ∧ g k < B k ∧ ((nxg e B g k).2 = 0 ∨ e k < (nxg e B g k).2) then (k, e k) else nxg e B g k
theorem nxg_yes {e B g : Nat → Int} {k : Nat} (h : 0 < e k ∧ g k < B k ∧ ((nxg e B g k).2 = 0 ∨ e k < (nxg e B g k).2)) : nxg e B g (k + 1) = (k, e k) := if_pos h
theorem nxg_no {e B g : Nat → Int} {k : Nat} (h : ¬ (0 < e k ∧ g k < B k ∧ ((nxg e B g k).2 = 0 ∨ e k < (nxg e B g k).2))) : nxg e B g (k + 1) = nxg e B g k := if_neg h
theorem nxg_bd {e B g : Nat → Int} (he : ∀ i, e i ≤ 2000000) : ∀ k : Nat, 0 ≤ (nxg e B g k).2 ∧ (nxg e B g k).2 ≤ 2000000 ∧ (nxg e B g k).1 ≤ k
  | 0 => ⟨Int.le_refl _, by show (0 : Int) ≤ _; omega, Nat.le_refl _⟩
  | k + 1 => by
    have ih := nxg_bd (B := B) (g := g) he k
    by_cases c : 0 < e k ∧ g k < B k ∧ ((nxg e B g k).2 = 0 ∨ e k < (nxg e B g k).2)
    · rw [nxg_yes c]
      exact ⟨by show 0 ≤ e k; omega, he k, Nat.le_succ k⟩
    · rw [nxg_no c]
      exact ⟨ih.1, ih.2.1, by omega⟩
def winE (F W B : Nat → Int) (t : Int) (i : Nat) : Int := (win (F i) (W i) (B i) t).2
theorem winE_bd (F W B : Nat → Int) (t : Int) (i : Nat) : 0 ≤ winE F W B t i ∧ winE F W B t i ≤ 2000000 := by
  unfold winE win
  split
  · rename_i h
    have hv := vg_true h.1
    have hb := rel_bd (F := F i) t (show 1 ≤ W i by omega)
    have := rel_ge (F := F i) (show 1 ≤ W i by omega) h.2.1
    simp only
    omega
  · simp only; omega
/-- Who is next, and whether there is anybody. -/
def nextV (n : Nat) (F W B : Nat → Int) (m : Nat) (g : Nat → Int) (t : Int) : Nat × Bool :=
  if ck n F W B = 0 ∧ m = n then ((nxg (winE F W B t) B g n).1, decide (0 < (nxg (winE F W B t) B g n).2)) else (0, false)
theorem ret_ib {a b : Int} {x y : Bool} (h : a = b) (k : x = y) : Ending.returned (.tuple #[.int .i64 a, .bool x]) = .returned (.tuple #[.int .i64 b, .bool y]) := by rw [h, k]

set_option maxRecDepth 100000 in
set_option maxHeartbeats 4000000 in
theorem next20 (a ag : Option Addr) (n c m cg : Nat) (F W B g : Nat → Int) (t : Int) (w : World) (R : R3 w a n F W B) (G : Row w ag m g) (hn : n ≤ maxLen) (hm : m ≤ maxLen) :
    Calls Try.prog 20 #[.slice a n c, .slice ag m cg, .int .i64 t] w fun e w' => e = .returned (.tuple #[.int .i64 (nextV n F W B m g t).1, .bool (nextV n F W B m g t).2]) ∧ Below w.heap.size w w' := by
  have K := check24 a n c F W B w R hn
  have HR := Lib.hid R
  have HG := Lib.hid G
  clear R G
  obtain ⟨E, hE⟩ : ∃ E, ck n F W B = E := ⟨_, rfl⟩
  rw [hE] at K
  have HK := Lib.hid K
  clear K
  unfold maxLen at hn hm
  by_cases hgood : ck n F W B = 0 ∧ m = n
  · have hd : nextV n F W B m g t = ((nxg (winE F W B t) B g n).1, decide (0 < (nxg (winE F W B t) B g n).2)) := if_pos hgood
    rw [hd]
    obtain ⟨h0, h1⟩ := hgood
    rw [hE] at h0
    subst h0
    subst h1
    have q1 : ((m : Int) == (m : Int)) = true := beq_self_eq_true _
    have q2 : ((m : Int) != (m : Int)) = false := by simp
    clear hd hE
    go_enter Try.func20, Try.ntmps20
    go_wp2_with fail
    refine HK.out.mono ?_
    rintro e w1 ⟨rfl, hb⟩
    have HB1 := Lib.hid hb
    clear hb
    go_wp2_with fail
    clear q1 q2
    go_loopw [8, 9, 26] (fun s8 s9 s26 wr => ∃ k : Nat, s8 = .int .i64 (nxg (winE F W B t) B g k).1 ∧ s9 = .int .i64 (nxg (winE F W B t) B g k).2 ∧ s26 = .int .i64 k ∧ k ≤ m ∧ Below w.heap.size w wr) (fun _ _ i _ => m - (intOf i).toNat)
    case atStart => exact ⟨0, rfl, rfl, rfl, Nat.zero_le _, HB1.out⟩
    case round =>
      obtain ⟨k, rfl, rfl, rfl, hk, hB⟩ := hrel
      have HB := Lib.hid hB
      clear hB
      by_cases hlt : k < m
      · obtain ⟨b, o, g1, g2⟩ := HR.out.mono HB.out
        obtain rfl := g1 (by omega)
        obtain ⟨c0, c1, c2⟩ := g2 k hlt
        obtain ⟨b', o', g3, g4⟩ := HG.out.mono HB.out
        obtain rfl := g3 (by omega)
        have d0 := g4 k hlt
        have i1 : (0 : Int) ≤ (k : Int) := by omega
        have i2 : (k : Int) < (m : Int) := by omega
        have bu := nxg_bd (B := B) (g := g) (fun i => (winE_bd F W B t i).2) k
        have be := winE_bd F W B t k
        have K := window17 (F k) (W k) (B k) t
        rw [show (win (F k) (W k) (B k) t).2 = winE F W B t k from rfl] at K
        have huy := nxg_yes (e := winE F W B t) (B := B) (g := g) (k := k)
        have hun := nxg_no (e := winE F W B t) (B := B) (g := g) (k := k)
        obtain ⟨u, hu⟩ : ∃ u, (nxg (winE F W B t) B g k).2 = u := ⟨_, rfl⟩
        obtain ⟨x, hx⟩ : ∃ x, (nxg (winE F W B t) B g k).1 = x := ⟨_, rfl⟩
        rw [hu] at bu huy hun
        rw [hu, hx]
        obtain ⟨y, hy⟩ : ∃ y, winE F W B t k = y := ⟨_, rfl⟩
        rw [hy] at be K huy hun
        have hpair : nxg (winE F W B t) B g k = (x, u) := by rw [← hu, ← hx]
        rw [hpair] at hun
        have UY := Lib.hid huy
        have UN := Lib.hid hun
        unfold gvv at K
        have HKW := Lib.hid K
        clear g1 g2 g3 g4 huy hun K hu hx hy hpair
        have lt1 := lt_of_cell c0
        have lt2 := lt_of_cell d0
        go_wp2_with fail
        refine (HKW.out _).mono ?_
        rintro e w2 ⟨rfl, hb⟩
        have HB3 := Lib.hid (bthen (HB.out.alloc HB.out.size (.cells #[.int .i64 (F k), .int .i64 (W k), .int .i64 (B k)] 39)) hb (by simp; have := HB.out.size; omega))
        have c2 := up (b := wr.heap.size) (o := 2) (v := .int .i64 (B k)) hb (by simp [go_sem])
        have d0 := up hb (up (below_alloc wr _) d0)
        clear hb c0 c1 lt1 lt2
        generalize hgk : g k = gk at *
        generalize hbk : B k = bk at *
        go_wp2_with fail
        by_cases h1 : 0 < y
        · have p1 : decide (0 < y) = true := decide_eq_true h1
          by_cases h2 : gk < bk
          · have p2 : decide (gk < bk) = true := decide_eq_true h2
            by_cases h3 : u = 0
            · subst h3
              have HUY := Lib.hid (UY.out ⟨h1, h2, .inl rfl⟩)
              clear UY UN hgk hbk
              go_quiet (fail)
              go_wp2_with fail
              exact ⟨⟨k + 1, by rw [HUY.out], by rw [HUY.out], by go_num, by omega, below_drewN HB3.out _⟩, by simp [intOf]; omega⟩
            · have h3' : (u == 0) = false := beq_eq_false_iff_ne.2 h3
              by_cases h4 : y < u
              · have p3 : decide (y < u) = true := decide_eq_true h4
                have HUY := Lib.hid (UY.out ⟨h1, h2, .inr h4⟩)
                clear UY UN hgk hbk
                go_quiet (fail)
                go_wp2_with fail
                exact ⟨⟨k + 1, by rw [HUY.out], by rw [HUY.out], by go_num, by omega, below_drewN HB3.out _⟩, by simp [intOf]; omega⟩
              · have p3 : decide (y < u) = false := decide_eq_false h4
                have HUN := Lib.hid (UN.out fun h => h.2.2.elim h3 h4)
                clear UY UN hgk hbk
                go_quiet (fail)
                go_wp2_with fail
                exact ⟨⟨k + 1, by rw [HUN.out], by rw [HUN.out], by go_num, by omega, below_drewN HB3.out _⟩, by simp [intOf]; omega⟩
          · have p2 : decide (gk < bk) = false := decide_eq_false h2
            have HUN := Lib.hid (UN.out fun h => h2 h.2.1)
            clear UY UN hgk hbk
            go_quiet (fail)
            go_wp2_with fail
            exact ⟨⟨k + 1, by rw [HUN.out], by rw [HUN.out], by go_num, by omega, below_drewN HB3.out _⟩, by simp [intOf]; omega⟩
        · have p1 : decide (0 < y) = false := decide_eq_false h1
          have HUN := Lib.hid (UN.out fun h => h1 h.1)
          clear UY UN hgk hbk
          go_quiet (fail)
          go_wp2_with fail
          exact ⟨⟨k + 1, by rw [HUN.out], by rw [HUN.out], by go_num, by omega, below_drewN HB3.out _⟩, by simp [intOf]; omega⟩
      · have : k = m := by omega
        subst this
        go_wp2
        go_ret2
        exact ⟨rfl, HB.out⟩
  · have hd : nextV n F W B m g t = (0, false) := if_neg hgood
    rw [hd]
    clear hd
    by_cases h0 : E = 0
    · subst h0
      have hne : m ≠ n := fun h => hgood ⟨hE, h⟩
      have q1 : ((m : Int) == (n : Int)) = false := beq_eq_false_iff_ne.2 (by omega)
      have q2 : ((m : Int) != (n : Int)) = true := by rw [bne_iff_ne]; omega
      clear hgood hE
      go_enter Try.func20, Try.ntmps20
      go_wp2_with fail
      refine HK.out.mono ?_
      rintro e w1 ⟨rfl, hb⟩
      have HB1 := Lib.hid hb
      clear hb
      go_wp2
      go_ret2
      exact ⟨rfl, HB1.out⟩
    · have q1 : (E == 0) = false := beq_eq_false_iff_ne.2 h0
      have q2 : (E != 0) = true := by rw [bne_iff_ne]; exact h0
      clear hgood hE
      go_enter Try.func20, Try.ntmps20
      go_wp2_with fail
      refine HK.out.mono ?_
      rintro e w1 ⟨rfl, hb⟩
      have HB1 := Lib.hid hb
      clear hb
      go_wp2
      go_ret2
      exact ⟨rfl, HB1.out⟩

set_option maxRecDepth 100000 in
set_option maxHeartbeats 4000000 in
theorem next21 (a ag : Option Addr) (n c m cg : Nat) (F W B g : Nat → Int) (t : Int) (w : World) (R : R3 w a n F W B) (G : Row w ag m g) (hn : n ≤ maxLen) (hm : m ≤ maxLen) :
    Calls Try.prog 21 #[.slice a n c, .slice ag m cg, .int .i64 t] w fun e w' => e = .returned (.tuple #[.int .i64 (nextV n F W B m g t).1, .bool (nextV n F W B m g t).2]) ∧ Below w.heap.size w w' := by
  have K := check25 a n c F W B w R hn
  have HR := Lib.hid R
  have HG := Lib.hid G
  clear R G
  obtain ⟨E, hE⟩ : ∃ E, ck n F W B = E := ⟨_, rfl⟩
  rw [hE] at K
  have HK := Lib.hid K
  clear K
  unfold maxLen at hn hm
  by_cases hgood : ck n F W B = 0 ∧ m = n
  · have hd : nextV n F W B m g t = ((nxg (winE F W B t) B g n).1, decide (0 < (nxg (winE F W B t) B g n).2)) := if_pos hgood
    rw [hd]
    obtain ⟨h0, h1⟩ := hgood
    rw [hE] at h0
    subst h0
    subst h1
    have q1 : ((m : Int) == (m : Int)) = true := beq_self_eq_true _
    have q2 : ((m : Int) != (m : Int)) = false := by simp
    clear hd hE
    go_enter Try.func21, Try.ntmps21
    go_wp2_with fail
    refine HK.out.mono ?_
    rintro e w1 ⟨rfl, hb⟩
    have HB1 := Lib.hid hb
    clear hb
    go_wp2_with fail
    clear q1 q2
    go_loopw [8, 9, 10, 11] (fun s8 s9 s10 s11 wr => ∃ k : Nat, s8 = .int .i64 (nxg (winE F W B t) B g k).1 ∧ s9 = .int .i64 (nxg (winE F W B t) B g k).2 ∧ s10 = .bool (decide (0 < (nxg (winE F W B t) B g k).2)) ∧ s11 = .int .i64 k ∧ k ≤ m ∧ Below w.heap.size w wr) (fun _ _ _ i _ => m - (intOf i).toNat)
    case atStart => exact ⟨0, rfl, rfl, rfl, rfl, Nat.zero_le _, HB1.out⟩
    case round =>
      obtain ⟨k, rfl, rfl, rfl, rfl, hk, hB⟩ := hrel
      have HB := Lib.hid hB
      clear hB
      by_cases hlt : k < m
      · obtain ⟨b, o, g1, g2⟩ := HR.out.mono HB.out
        obtain rfl := g1 (by omega)
        obtain ⟨c0, c1, c2⟩ := g2 k hlt
        obtain ⟨b', o', g3, g4⟩ := HG.out.mono HB.out
        obtain rfl := g3 (by omega)
        have d0 := g4 k hlt
        have i1 : (0 : Int) ≤ (k : Int) := by omega
        have i2 : (k : Int) < (m : Int) := by omega
        have bu := nxg_bd (B := B) (g := g) (fun i => (winE_bd F W B t i).2) k
        have be := winE_bd F W B t k
        have K := window22 (F k) (W k) (B k) t
        rw [show (win (F k) (W k) (B k) t).2 = winE F W B t k from rfl] at K
        have huy := nxg_yes (e := winE F W B t) (B := B) (g := g) (k := k)
        have hun := nxg_no (e := winE F W B t) (B := B) (g := g) (k := k)
        obtain ⟨u, hu⟩ : ∃ u, (nxg (winE F W B t) B g k).2 = u := ⟨_, rfl⟩
        obtain ⟨x, hx⟩ : ∃ x, (nxg (winE F W B t) B g k).1 = x := ⟨_, rfl⟩
        rw [hu] at bu huy hun
        rw [hu, hx]
        obtain ⟨y, hy⟩ : ∃ y, winE F W B t k = y := ⟨_, rfl⟩
        rw [hy] at be K huy hun
        have hpair : nxg (winE F W B t) B g k = (x, u) := by rw [← hu, ← hx]
        rw [hpair] at hun
        have UY := Lib.hid huy
        have UN := Lib.hid hun
        unfold gvv at K
        have HKW := Lib.hid K
        clear g1 g2 g3 g4 huy hun K hu hx hy hpair
        have lt1 := lt_of_cell c0
        have lt2 := lt_of_cell d0
        go_wp2_with fail
        refine (HKW.out _).mono ?_
        rintro e w2 ⟨rfl, hb⟩
        have HB3 := Lib.hid (bthen HB.out hb HB.out.size)
        have c2 := up hb c2
        have d0 := up hb d0
        clear hb c0 c1 lt1 lt2
        generalize hgk : g k = gk at *
        generalize hbk : B k = bk at *
        go_wp2_with fail
        by_cases h1 : 0 < y
        · have p1 : decide (0 < y) = true := decide_eq_true h1
          by_cases h2 : gk < bk
          · have p2 : decide (gk < bk) = true := decide_eq_true h2
            by_cases h3 : u = 0
            · subst h3
              have HUY := Lib.hid (UY.out ⟨h1, h2, .inl rfl⟩)
              clear UY UN hgk hbk
              go_quiet (fail)
              go_wp2_with fail
              exact ⟨⟨k + 1, by rw [HUY.out], by rw [HUY.out], by rw [HUY.out]; simp; omega, by go_num, by omega, below_drewN HB3.out _⟩, by simp [intOf]; omega⟩
            · have h3' : (u == 0) = false := beq_eq_false_iff_ne.2 h3
              have q2 : decide (0 < u) = true := by simp; omega
              by_cases h4 : y < u
              · have p3 : decide (y < u) = true := decide_eq_true h4
                have HUY := Lib.hid (UY.out ⟨h1, h2, .inr h4⟩)
                clear UY UN hgk hbk
                go_quiet (fail)
                go_wp2_with fail
                exact ⟨⟨k + 1, by rw [HUY.out], by rw [HUY.out], by rw [HUY.out]; simp; omega, by go_num, by omega, below_drewN HB3.out _⟩, by simp [intOf]; omega⟩
              · have p3 : decide (y < u) = false := decide_eq_false h4
                have HUN := Lib.hid (UN.out fun h => h.2.2.elim h3 h4)
                clear UY UN hgk hbk
                go_quiet (fail)
                go_wp2_with fail
                exact ⟨⟨k + 1, by rw [HUN.out], by rw [HUN.out], by rw [HUN.out], by go_num, by omega, below_drewN HB3.out _⟩, by simp [intOf]; omega⟩
          · have p2 : decide (gk < bk) = false := decide_eq_false h2
            have HUN := Lib.hid (UN.out fun h => h2 h.2.1)
            clear UY UN hgk hbk
            go_quiet (fail)
            go_wp2_with fail
            exact ⟨⟨k + 1, by rw [HUN.out], by rw [HUN.out], by rw [HUN.out], by go_num, by omega, below_drewN HB3.out _⟩, by simp [intOf]; omega⟩
        · have p1 : decide (0 < y) = false := decide_eq_false h1
          have HUN := Lib.hid (UN.out fun h => h1 h.1)
          clear UY UN hgk hbk
          go_quiet (fail)
          go_wp2_with fail
          exact ⟨⟨k + 1, by rw [HUN.out], by rw [HUN.out], by rw [HUN.out], by go_num, by omega, below_drewN HB3.out _⟩, by simp [intOf]; omega⟩
      · have : k = m := by omega
        subst this
        go_wp2
        go_ret2
        exact ⟨rfl, HB.out⟩
  · have hd : nextV n F W B m g t = (0, false) := if_neg hgood
    rw [hd]
    clear hd
    by_cases h0 : E = 0
    · subst h0
      have hne : m ≠ n := fun h => hgood ⟨hE, h⟩
      have q1 : ((m : Int) == (n : Int)) = false := beq_eq_false_iff_ne.2 (by omega)
      have q2 : ((m : Int) != (n : Int)) = true := by rw [bne_iff_ne]; omega
      clear hgood hE
      go_enter Try.func21, Try.ntmps21
      go_wp2_with fail
      refine HK.out.mono ?_
      rintro e w1 ⟨rfl, hb⟩
      have HB1 := Lib.hid hb
      clear hb
      go_wp2
      go_ret2
      exact ⟨rfl, HB1.out⟩
    · have q1 : (E == 0) = false := beq_eq_false_iff_ne.2 h0
      have q2 : (E != 0) = true := by rw [bne_iff_ne]; exact h0
      clear hgood hE
      go_enter Try.func21, Try.ntmps21
      go_wp2_with fail
      refine HK.out.mono ?_
      rintro e w1 ⟨rfl, hb⟩
      have HB1 := Lib.hid hb
      clear hb
      go_wp2
      go_ret2
      exact ⟨rfl, HB1.out⟩
end Go.Proofs.Yteokhadpenalaaa
