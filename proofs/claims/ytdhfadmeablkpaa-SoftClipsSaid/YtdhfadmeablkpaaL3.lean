/- Layer 27: the walk of SoftClips. -/
import Derived.Test.YtdhfadmeablkpaaL1
namespace Go.Proofs.Ytdhfadmeablkpaa
open Go.RowKit Go.Sort
attribute [local go_sem] gcell
set_option linter.unusedVariables false

def va (ls : Nat → Int) (k : Nat) : Int := max (-127) (ls k)
def vb (ls : Nat → Int) (k : Nat) : Int := -(max (-127) (ls k))
def vz (k : Nat) : Int := 0

/-- Three rows that grow side by side. -/
structure Three (W w : World) (x y z : Value) (i j k : Nat) (ls : Nat → Int) : Prop where
  a : w.ownsRow W.heap.size 3 1 x i ((List.range i).map fun q => .int .i64 (va ls q))
  b : w.ownsRow W.heap.size 3 1 y j ((List.range j).map fun q => .int .i64 (vb ls q))
  c : w.ownsRow W.heap.size 3 1 z k ((List.range k).map fun q => .int .i64 (vz q))
  ab : Apart x y
  ac : Apart x z
  bc : Apart y z
  bel : Below W.heap.size W w
theorem Three.stepA {W w w' : World} {x x' y z : Value} {i j k : Nat} {ls : Nat → Int} (T : Three W w x y z i j k ls) (h1 : w'.ownsRow W.heap.size 3 1 x' (i + 1) ((List.range (i + 1)).map fun q => .int .i64 (va ls q))) (h2 : Below W.heap.size W w') (h3 : w.grownBy w' x.ownBlock) (h4 : x'.ownBlock = x.ownBlock ∨ x'.ownBlock = some (w.heap.size + 1)) : Three W w' x' y z (i + 1) j k ls :=
  ⟨h1, T.ab.symm.keep T.b h3, T.ac.symm.keep T.c h3, (T.ab.symm.grown T.b h4).symm, (T.ac.symm.grown T.c h4).symm, T.bc, h2⟩
theorem Three.stepB {W w w' : World} {x y y' z : Value} {i j k : Nat} {ls : Nat → Int} (T : Three W w x y z i j k ls) (h1 : w'.ownsRow W.heap.size 3 1 y' (j + 1) ((List.range (j + 1)).map fun q => .int .i64 (vb ls q))) (h2 : Below W.heap.size W w') (h3 : w.grownBy w' y.ownBlock) (h4 : y'.ownBlock = y.ownBlock ∨ y'.ownBlock = some (w.heap.size + 1)) : Three W w' x y' z i (j + 1) k ls :=
  ⟨T.ab.keep T.a h3, h1, T.bc.symm.keep T.c h3, T.ab.grown T.a h4, T.ac, (T.bc.symm.grown T.c h4).symm, h2⟩
theorem Three.stepC {W w w' : World} {x y z z' : Value} {i j k : Nat} {ls : Nat → Int} (T : Three W w x y z i j k ls) (h1 : w'.ownsRow W.heap.size 3 1 z' (k + 1) ((List.range (k + 1)).map fun q => .int .i64 (vz q))) (h2 : Below W.heap.size W w') (h3 : w.grownBy w' z.ownBlock) (h4 : z'.ownBlock = z.ownBlock ∨ z'.ownBlock = some (w.heap.size + 1)) : Three W w' x y z' i j (k + 1) ls :=
  ⟨T.ac.keep T.a h3, T.bc.keep T.b h3, h1, T.ab, T.ac.grown T.a h4, T.bc.grown T.b h4, h2⟩
theorem Three.start (w : World) (ls : Nat → Int) : Three w w (.slice none 0 0) (.slice none 0 0) (.slice none 0 0) 0 0 0 ls :=
  ⟨World.ownsRow_nil _ _ _ _, World.ownsRow_nil _ _ _ _, World.ownsRow_nil _ _ _ _, Apart.nil _, Apart.nil _, Apart.nil _, Below.refl _ _⟩

theorem comb_ok3 (n : Nat) (xs ys : Nat → Int) (hx : ∀ k, k < n → -127 ≤ xs k ∧ xs k ≤ 127) (hy : ∀ k, k < n → -127 ≤ ys k ∧ ys k ≤ 127) : combE n n xs ys = 0 ∧ combN n n xs ys = n := by
  have e : combE n n xs ys = 0 := by
    unfold combE
    rw [if_pos rfl, anyB_false.2 fun k hk => by have := hx k hk; unfold out; simp; omega, anyB_false.2 fun k hk => by have := hy k hk; unfold out; simp; omega]
    rfl
  exact ⟨e, by unfold combN; rw [if_pos e]⟩

set_option maxRecDepth 100000 in
set_option maxHeartbeats 8000000 in
theorem clips5 (al : Option Addr) (n cl bl ol : Nat) (ls : Nat → Int) (x : Int) (w : World)
    (hal : 0 < n → al = some ⟨bl, ol, none⟩) (hl : ∀ k, k < n → w.cell? ⟨bl, ol + k, none⟩ = some (.int .i8 (ls k)) ∧ -128 ≤ ls k ∧ ls k ≤ 127) (h1 : n ≤ 140737488351232) :
    Calls Try.prog 5 #[.slice al n cl, .int .i64 x] w fun e w' => e = .returned (.bool true) ∧ Below w.heap.size w w' := by
  have HAL := Lib.hid hal
  have HL := Lib.hid hl
  clear hal hl
  by_cases hs : n ≤ 300
  · go_enter Try.func5, Try.ntmps5
    go_wp2
    go_loopw [5, 6, 7, 8] (fun s5 s6 s7 i wr => ∃ k : Nat, k ≤ n ∧ i = .int .i64 k ∧ Three w wr s5 s6 s7 k k k ls) (fun _ _ _ i _ => n - (intOf i).toNat)
    case atStart => exact ⟨0, Nat.zero_le _, rfl, Three.start _ _⟩
    case round =>
      obtain ⟨k, hk, rfl, T⟩ := hrel
      have HT := Lib.hid T
      clear T
      by_cases hlt : k < n
      · obtain ⟨hx, hx1, hx2⟩ := HL.out k hlt
        have hxk := up HT.out.bel hx
        have hak := HAL.out (by omega)
        subst hak
        by_cases hm : -127 < ls k
        all_goals
          go_wp2_with (first | (at_builtin; refine wpList_append1_at _ w w.heap.size rfl (.tmp 34) (.tmp 36) 22 rfl 3 (.int .i64 0) 8 Try.underlying22 intInfo rfl (by decide) _ k (fun i => .int .i64 (va ls i)) rfl _ rfl HT.out.a HT.out.bel HT.out.bel.size (show Value.int .i64 _ = .int .i64 (va ls k) by unfold va; congr 1; omega) rfl (by omega) ?_; intro v' w4 g1 g2 g3 g4 g5; have HT1 := Lib.hid (HT.out.stepA g1 g2 g4 g5); clear g1 g2 g3 g4 g5) | (at_builtin; refine wpList_append1_at _ w w.heap.size rfl (.tmp 38) (.tmp 41) 22 rfl 3 (.int .i64 0) 8 Try.underlying22 intInfo rfl (by decide) _ k (fun i => .int .i64 (vb ls i)) rfl _ rfl HT1.out.b HT1.out.bel HT1.out.bel.size (show Value.int .i64 _ = .int .i64 (vb ls k) by unfold vb; congr 1; omega) rfl (by omega) ?_; intro v' w4 g1 g2 g3 g4 g5; have HT2 := Lib.hid (HT1.out.stepB g1 g2 g4 g5); clear g1 g2 g3 g4 g5) | (at_builtin; refine wpList_append1_at _ w w.heap.size rfl (.tmp 43) (.tmp 44) 22 rfl 3 (.int .i64 0) 8 Try.underlying22 intInfo rfl (by decide) _ k (fun i => .int .i64 (vz i)) rfl _ rfl HT2.out.c HT2.out.bel HT2.out.bel.size rfl rfl (by omega) ?_; intro v' w4 g1 g2 g3 g4 g5; have HT3 := Lib.hid (HT2.out.stepC g1 g2 g4 g5); clear g1 g2 g3 g4 g5))
          go_wp2
          go_roundw
          case rel => exact ⟨k + 1, by omega, by go_num, HT3.out⟩
          case measure => simp [intOf]; omega
      · have : k = n := by omega
        subst this
        obtain ⟨a1, c1, rfl, hc1, r1⟩ := own_row HT.out.a
        obtain ⟨a2, c2, rfl, hc2, r2⟩ := own_row HT.out.b
        obtain ⟨a3, c3, rfl, hc3, r3⟩ := own_row HT.out.c
        have hB := HT.out.bel
        have HA1 := Lib.hid r1
        have HB1 := Lib.hid r2
        have HZ1 := Lib.hid r3
        have HW1 := Lib.hid hB
        obtain ⟨w1, hw1⟩ : ∃ w1, w1 = wr := ⟨_, rfl⟩
        rw [← hw1] at HA1 HB1 HZ1 HW1 hB ⊢
        clear hw1
        have z1 := hB.size
        have bA : ∀ q, q < k → -127 ≤ va ls q ∧ va ls q ≤ 127 := fun q hq => by have := (HL.out q hq).2; unfold va; omega
        have bB : ∀ q, q < k → -127 ≤ vb ls q ∧ vb ls q ≤ 127 := fun q hq => by have := (HL.out q hq).2; unfold vb; omega
        have bZ : ∀ q, q < k → -127 ≤ vz q ∧ vz q ≤ 127 := fun q hq => by unfold vz; omega
        have C1 := Lib.hid (comb_ok3 k (va ls) (vb ls) bA bB)
        have C2 := Lib.hid (comb_ok3 k (va ls) vz bA bZ)
        have C3 := Lib.hid (comb_ok3 k (va ls) (va ls) bA bA)
        have j1 : same k k (fun q => clip (va ls q + vb ls q)) vz = true := same_true rfl fun q hq => by unfold va vb vz clip; omega
        have j2 : same k k (fun q => clip (va ls q + vz q)) (va ls) = true := same_true rfl fun q hq => by have := bA q hq; unfold vz clip; omega
        have J1 := Lib.hid j1
        have J2 := Lib.hid j2
        have BA := Lib.hid bA
        have kl : k ≤ maxLen := by unfold maxLen; omega
        clear r1 r2 r3 hB HT bA bB bZ j1 j2
        go_wp2_with (go_at_call 9; refine (combine9 _ _ k _ k _ (va ls) (vb ls) _ HA1.out HB1.out (by omega) (by omega)).mono ?_)
        intro e w2 h
        obtain ⟨b1, d1, rfl, hd1, s1, hb⟩ := h
        rw [C1.out.2] at hd1 s1
        rw [C1.out.1, C1.out.2]
        have HA2 := Lib.hid (HA1.out.mono hb)
        have HZ2 := Lib.hid (HZ1.out.mono hb)
        have HX2 := Lib.hid s1
        have hB := bthen HW1.out hb z1
        have HW2 := Lib.hid hB
        have z2 := hB.size
        clear HA1 HB1 HZ1 s1 hb hB HW1 C1
        go_wp2_with (go_at_call 9; refine (combine9 _ _ k _ k _ (va ls) vz _ HA2.out HZ2.out (by omega) (by omega)).mono ?_)
        intro e w3 h
        obtain ⟨b2, d2, rfl, hd2, s2, hb⟩ := h
        rw [C2.out.2] at hd2 s2
        rw [C2.out.1, C2.out.2]
        have HA3 := Lib.hid (HA2.out.mono hb)
        have HZ3 := Lib.hid (HZ2.out.mono hb)
        have HX3 := Lib.hid (HX2.out.mono hb)
        have HY3 := Lib.hid s2
        have hB := bthen HW2.out hb z2
        have HW3 := Lib.hid hB
        have z3 := hB.size
        clear HA2 HZ2 HX2 s2 hb hB HW2 C2
        go_wp2_with (go_at_call 9; refine (combine9 _ _ k _ k _ (va ls) (va ls) _ HA3.out HA3.out (by omega) (by omega)).mono ?_)
        intro e w4 h
        obtain ⟨b3, d3, rfl, hd3, s3, hb⟩ := h
        rw [C3.out.2] at hd3 s3
        rw [C3.out.1, C3.out.2]
        have HA4 := Lib.hid (HA3.out.mono hb)
        have HZ4 := Lib.hid (HZ3.out.mono hb)
        have HX4 := Lib.hid (HX3.out.mono hb)
        have HY4 := Lib.hid (HY3.out.mono hb)
        have HS4 := Lib.hid s3
        have hB := bthen HW3.out hb z3
        have HW4 := Lib.hid hB
        have z4 := hB.size
        clear HA3 HZ3 HX3 HY3 s3 hb hB HW3 C3
        go_wp2
        go_loopw [16] (fun i wx => ∃ r : Nat, r ≤ k ∧ i = .int .i64 r ∧ Below w4.heap.size w4 wx) (fun i _ => k - (intOf i).toNat)
        case atStart => exact ⟨0, Nat.zero_le _, rfl, Below.refl _ _⟩
        case round =>
          obtain ⟨r, hr, rfl, hB5⟩ := hrel
          have HB5 := Lib.hid hB5
          by_cases hlt : r < k
          · obtain ⟨p1, o1, e1, x1⟩ := HA4.out
            obtain ⟨p2, o2, e2, x2⟩ := HS4.out
            have f1 := e1 (by omega)
            have f2 := e2 (by omega)
            have y1 := up hB5 (x1 r hlt)
            have y2 := up hB5 (x2 r hlt)
            have bv := BA.out r hlt
            clear x1 x2 e1 e2 hB5
            subst f1 f2
            simp only at y2
            generalize va ls r = v at y1 y2 bv
            have wv : IntKind.i64.wrap (2 * v) = 2 * v := IntWalk.i64_in _ (by omega)
            by_cases q1 : 2 * v < -127
            · have hv : clip (v + v) = -127 := by unfold clip; omega
              rw [hv] at y2
              go_wp2_with fail
              go_quiet (fail)
              go_wp2
              go_roundw
              case rel => exact ⟨r + 1, by omega, by go_num, ⟨HB5.out.os, HB5.out.tape, HB5.out.output, HB5.out.size, HB5.out.block⟩⟩
              case measure => simp [intOf]; omega
            · by_cases q2 : 127 < 2 * v
              · have hv : clip (v + v) = 127 := by unfold clip; omega
                rw [hv] at y2
                go_wp2_with fail
                go_quiet (fail)
                go_wp2
                go_roundw
                case rel => exact ⟨r + 1, by omega, by go_num, ⟨HB5.out.os, HB5.out.tape, HB5.out.output, HB5.out.size, HB5.out.block⟩⟩
                case measure => simp [intOf]; omega
              · have hv : clip (v + v) = 2 * v := by unfold clip; omega
                rw [hv] at y2
                have hq : (2 * v == 2 * v) = true := beq_self_eq_true _
                go_wp2_with fail
                go_quiet (fail)
                go_wp2
                go_roundw
                case rel => exact ⟨r + 1, by omega, by go_num, ⟨HB5.out.os, HB5.out.tape, HB5.out.output, HB5.out.size, HB5.out.block⟩⟩
                case measure => simp [intOf]; omega
          · have : r = k := by omega
            subst this
            have HA5 := Lib.hid (HA4.out.mono hB5)
            have HZ5 := Lib.hid (HZ4.out.mono hB5)
            have HX5 := Lib.hid (HX4.out.mono hB5)
            have HY5 := Lib.hid (HY4.out.mono hB5)
            have hB := bthen HW4.out hB5 z4
            have HW5 := Lib.hid hB
            have z5 := hB.size
            have cb := clip_bd x
            clear HA4 HZ4 HX4 HY4 HS4 HB5 hB5 hB HW4
            have hcx : x < -127 ∨ 127 < x ∨ clip x = x := by unfold clip; omega
            obtain ⟨cx, hcl⟩ : ∃ cx, clip x = cx := ⟨_, rfl⟩
            rw [hcl] at cb hcx
            have kk : ((r : Int) == (r : Int)) = true := beq_self_eq_true _
            go_wp2_with (go_at_call 14; refine (clip14 _ _).mono ?_)
            rw [hcl]
            clear hcl
            intro e w6 h
            obtain ⟨rfl, rfl⟩ := h
            go_wp2_with (go_at_call 11; refine (same11 _ _ r _ r _ _ _ _ HX5.out HZ5.out kl kl).mono ?_)
            rw [J1.out]
            intro e w7 h
            obtain ⟨rfl, hb⟩ := h
            have HA7 := Lib.hid (HA5.out.mono hb)
            have HY7 := Lib.hid (HY5.out.mono hb)
            have hB := bthen HW5.out hb z5
            have HW7 := Lib.hid hB
            have z7 := hB.size
            clear HA5 HZ5 HX5 HY5 hb hB HW5
            go_wp2_with (go_at_call 11; refine (same11 _ _ r _ r _ _ _ _ HY7.out HA7.out kl kl).mono ?_)
            rw [J2.out]
            intro e w8 h
            obtain ⟨rfl, hb⟩ := h
            have hB := bthen HW7.out hb z7
            have HW8 := Lib.hid hB
            have z8 := hB.size
            clear HA7 HY7 hb hB HW7
            by_cases q1 : x < -127
            · go_wp2_with (go_at_call 6; refine (awake6 _).mono ?_; intro e w9 h; obtain ⟨rfl, hb⟩ := h; have HW9 := Lib.hid (bthen HW8.out hb z8); clear hb)
              go_ret
              exact ⟨rfl, HW9.out⟩
            · by_cases q2 : 127 < x
              · go_wp2_with (go_at_call 6; refine (awake6 _).mono ?_; intro e w9 h; obtain ⟨rfl, hb⟩ := h; have HW9 := Lib.hid (bthen HW8.out hb z8); clear hb)
                go_ret
                exact ⟨rfl, HW9.out⟩
              · obtain rfl : cx = x := by omega
                have hq : (cx == cx) = true := beq_self_eq_true _
                go_wp2_with (go_at_call 6; refine (awake6 _).mono ?_; intro e w9 h; obtain ⟨rfl, hb⟩ := h; have HW9 := Lib.hid (bthen HW8.out hb z8); clear hb)
                go_ret
                exact ⟨rfl, HW9.out⟩
  · go_enter Try.func5, Try.ntmps5
    go_wp2_with (go_at_call 6; refine (awake6 _).mono ?_; intro e w10 h; obtain ⟨rfl, hb10⟩ := h; have HB10 := Lib.hid hb10; clear hb10)
    go_ret
    exact ⟨rfl, HB10.out⟩
end Go.Proofs.Ytdhfadmeablkpaa
