/- Layer 27: the reference. -/
import Derived.Test.YtdhfadmeablkpaaC3
import Derived.Test.YtdhfadmeablkpaaTailM
namespace Go.Proofs.Ytdhfadmeablkpaa
open Go.RowKit Go.Sort
attribute [local go_sem] gcell
set_option linter.unusedVariables false

set_option maxHeartbeats 2000000 in
theorem hard13 (a : Option Addr) (n c : Nat) (xs : Nat → Int) (w : World) (R : Row w a n xs) (hn : n ≤ 1000) :
    Calls Try.prog 13 #[.slice a n c] w fun e w' => ∃ g, e = .returned (.slice (some ⟨g, 0, none⟩) n n) ∧ Row w' (some ⟨g, 0, none⟩) n (fun k => hard1 (xs k)) ∧ Below w.heap.size w w' := by
  have HR := Lib.hid R
  clear R
  obtain ⟨i0, hi, hz0, hz1, hz2⟩ := info_split intInfo
  go_enter Try.func13, Try.ntmps13
  go_wp2_with (refine wpList_make_full _ rfl (.tmp 6) (.tmp 6) 22 rfl w.heap.size 3 i0 (.int .i64 0) 1 Try.underlying22 hi hz0 hz1 .i64 .i64 (n : Int) (n : Int) n rfl rfl rfl rfl ?c1 ?c2 (Nat.le_refl _) ?_)
  case c1 => rw [hz2]; omega
  case c2 => unfold maxLen; omega
  intro w1 hown hgrow
  have hl : w.heap.size < w1.heap.size := (hown.lt _ rfl).2
  have HF := Lib.hid (Fill.made (ys := fun k => hard1 (xs k)) hown hgrow hl)
  clear hown hgrow hz1 hz2 hz0 hi
  generalize w.heap.size = g at HF ⊢
  go_wp2
  go_loopw [4] (fun i wr => ∃ k : Nat, k ≤ n ∧ i = .int .i64 k ∧ Fill w wr g n k (fun _ => 0) (fun k => hard1 (xs k))) (fun i _ => n - (intOf i).toNat)
  case atStart => exact ⟨0, Nat.zero_le _, rfl, HF.out⟩
  case round =>
    clear HF
    obtain ⟨k, hk, rfl, F⟩ := hrel
    by_cases hlt : k < n
    · obtain ⟨b, o, ha, hx⟩ := HR.out
      have hxk := up F.bel (hx k hlt)
      have hak := ha (by omega)
      clear hx ha
      subst hak
      have hc := F.x k hlt
      have hf := F.f k
      have HF := Lib.hid F
      clear F
      by_cases h0 : xs k < 0
      · have e1 : hard1 (xs k) = 1 := by unfold hard1; rw [if_pos h0]
        go_wp2
        go_roundw
        case rel =>
          have h5 := HF.out.set hlt
          simp only [e1] at h5
          exact ⟨k + 1, by omega, by go_num, h5⟩
        case measure => simp [intOf]; omega
      · have e1 : hard1 (xs k) = 0 := by unfold hard1; rw [if_neg h0]
        go_wp2
        go_roundw
        case rel => exact ⟨k + 1, by omega, by go_num, HF.out.keep e1⟩
        case measure => simp [intOf]; omega
    · have : k = n := by omega
      subst this
      go_wp2
      go_ret
      exact ⟨g, rfl, F.row, F.bel⟩

/-- A list that grows, at a round's head. -/
structure Out (w wr : World) (v : Value) (k : Nat) (ys : Nat → Int) : Prop where
  own : wr.ownsRow w.heap.size 3 1 v k ((List.range k).map fun i => .int .i64 (ys i))
  bel : Below w.heap.size w wr
theorem Out.mono {w wr w' : World} {v : Value} {k : Nat} {ys : Nat → Int} (O : Out w wr v k ys) (hb : Below wr.heap.size wr w') : Out w w' v k ys :=
  ⟨O.own.kept (row := none) ⟨hb.os, hb.tape, hb.output, hb.size, fun i hi _ => hb.block i hi⟩ (by cases h : v.ownBlock <;> simp), bthen O.bel hb O.bel.size⟩
theorem Out.start (w : World) (ys : Nat → Int) : Out w w (.slice none 0 0) 0 ys := ⟨World.ownsRow_nil _ _ _ _, Below.refl _ _⟩

set_option maxHeartbeats 2000000 in
theorem combine10 (a d : Option Addr) (n c m l : Nat) (xs ys : Nat → Int) (w : World) (R : Row w a n xs) (S : Row w d m ys) (hn : n ≤ 1000) (hm : m ≤ 1000) :
    Calls Try.prog 10 #[.slice a n c, .slice d m l] w (Comb n m xs ys w) := by
  have hnl : n ≤ maxLen := by unfold maxLen; omega
  have hml : m ≤ maxLen := by unfold maxLen; omega
  have HR := Lib.hid R
  have HS := Lib.hid S
  clear R S
  by_cases hnm : n = m
  · subst hnm
    go_enter Try.func10, Try.ntmps10
    go_wp2_with (go_at_call 21; refine (soft21 a n c xs _ HR.out hnl).mono ?_)
    rintro e w1 ⟨rfl, hb⟩
    have HR1 := Lib.hid (HR.out.mono hb)
    have HS1 := Lib.hid (HS.out.mono hb)
    have HB1 := Lib.hid hb
    have hsz := hb.size
    clear HR HS hb
    cases h1 : anyB (out xs 127) n
    · go_wp2_with (go_at_call 21; refine (soft21 d n l ys _ HS1.out hnl).mono ?_)
      rintro e w2 ⟨rfl, hb⟩
      have hB2 := bthen HB1.out hb hsz
      have HR2 := Lib.hid (HR1.out.mono hb)
      have HS2 := Lib.hid (HS1.out.mono hb)
      have HB2 := Lib.hid hB2
      have hsz2 := hB2.size
      clear HR1 HS1 HB1 hb hB2
      cases h2 : anyB (out ys 127) n
      · have hE : combE n n xs ys = 0 := by unfold combE; rw [if_pos rfl, h1, h2]; rfl
        have hN : combN n n xs ys = n := by unfold combN; rw [if_pos hE]
        have hxb : ∀ k, k < n → -127 ≤ xs k ∧ xs k ≤ 127 := fun k hk => by have := anyB_false.1 h1 k hk; unfold out at this; simp at this; omega
        have hyb : ∀ k, k < n → -127 ≤ ys k ∧ ys k ≤ 127 := fun k hk => by have := anyB_false.1 h2 k hk; unfold out at this; simp at this; omega
        have HXB := Lib.hid hxb
        have HYB := Lib.hid hyb
        have HE := Lib.hid hE
        have HN := Lib.hid hN
        clear hxb hyb hE hN
        go_wp2
        go_loopw [6, 7] (fun v i wr => ∃ k : Nat, k ≤ n ∧ i = .int .i64 k ∧ Out w2 wr v k (fun k => clip (xs k + ys k))) (fun _ i _ => n - (intOf i).toNat)
        case atStart => exact ⟨0, Nat.zero_le _, rfl, Out.start _ _⟩
        case round =>
          obtain ⟨k, hk, rfl, O⟩ := hrel
          have HO := Lib.hid O
          clear O
          by_cases hlt : k < n
          · obtain ⟨b, o, ha, hx⟩ := HR2.out
            obtain ⟨b2, o2, hd, hy⟩ := HS2.out
            have hxk := up HO.out.bel (hx k hlt)
            have hyk := up HO.out.bel (hy k hlt)
            have hak := ha (by omega)
            have hdk := hd (by omega)
            clear hx ha hy hd
            subst hak hdk
            have hbl := lt_of_cell hxk
            have hdl := lt_of_cell hyk
            have b1 := HXB.out k hlt
            have b2' := HYB.out k hlt
            have e1 : IntKind.i64.wrap (xs k + ys k) = xs k + ys k := IntWalk.i64_in _ (by omega)
            go_wp2_with fail
            refine wp_region_grown_tail1 (.tmp 6) 11 (by kernel_rfl) (by kernel_rfl) rfl rfl (fun _ _ _ h => h) ?_
            simp only [Nat.reduceSub, List.take_succ_cons, List.take_zero, List.drop_succ_cons, List.drop_zero]
            conv => arg 6; simp [Act.put, Act.eval]
            repeat (go_big_quiet_step (first | (go_at_call 15; exact regrown_same (clip15 _ _))))
            refine wpQuiet_nil ?_
            intro w3 hw3
            have hB3 := below_of_regrown hw3
            have O3 := HO.out.mono hB3
            have HO3 := Lib.hid O3
            have hsz3 := O3.bel.size
            clear HO hw3 hB3 O3 hxk hyk
            go_wp2_with (at_builtin; refine wpList_append1 w3 w2 w2.heap.size rfl (.tmp 27) (.tmp 38) 22 rfl 3 (.int .i64 0) 8 Try.underlying22 intInfo rfl (by decide) _ k (fun i => .int .i64 (clip (xs i + ys i))) rfl _ rfl HO3.out.own HO3.out.bel hsz3 rfl rfl (by omega) ?_; intro v' w4 hown hB4 hb4 _ _; have HO4 := Lib.hid (show Out w2 w4 v' (k + 1) (fun k => clip (xs k + ys k)) from ⟨hown, hB4⟩); clear hown hB4)
            go_roundw
            case rel => exact ⟨k + 1, by omega, by go_num, HO4.out⟩
            case measure => simp [intOf]; omega
          · have : k = n := by omega
            subst this
            obtain ⟨ar, cr, rfl, hcr, hr⟩ := own_row HO.out.own
            go_wp2
            go_ret2
            exact ⟨ar, cr, by rw [HE.out, HN.out]; rfl, by rw [HN.out]; exact hcr, by rw [HN.out]; exact hr, bthen HB2.out HO.out.bel hsz2⟩
      · go_wp2
        go_ret2
        exact Comb.none (by unfold combE; rw [if_pos rfl, h1, h2]; rfl) (by omega) HB2.out
    · go_wp2
      go_ret2
      exact Comb.none (by unfold combE; rw [if_pos rfl, h1]; rfl) (by omega) HB1.out
  · have h1 : ((n : Int) == (m : Int)) = false := beq_eq_false_iff_ne.2 (by omega)
    have h2 : ((n : Int) != (m : Int)) = true := by rw [bne_iff_ne]; omega
    go_enter Try.func10, Try.ntmps10
    go_wp2
    go_ret2
    exact Comb.none (by unfold combE; rw [if_neg hnm]) (by omega) (Below.refl _ _)
end Go.Proofs.Ytdhfadmeablkpaa
