/- Layer 25: Share. -/
import Derived.Test.YtgcplboiodnfpaaP3
import Derived.Deep.OwnRows
import Derived.Deep.DeepCutAuto
import Derived.Deep.CutBlock
import Derived.Deep.RegionHeld3
namespace Go.Proofs.Ytgcplboiodnfpaa
set_option linter.unusedVariables false
set_option linter.unusedSimpArgs false
open Go.RowKit Go.Sort
attribute [local go_sem] gcell

def nums (l : List Nat) (k : Nat) : Int := ((l.getD k 0 : Nat) : Int)
theorem nums_snoc (l : List Nat) (i : Nat) : nums (l ++ [i]) l.length = i := by unfold nums; simp
theorem nums_keep (l : List Nat) (i k : Nat) (h : k < l.length) : nums (l ++ [i]) k = nums l k := by
  unfold nums
  rw [List.getD_eq_getElem?_getD, List.getD_eq_getElem?_getD, List.getElem?_append_left h]
/-- A list of indices in a row of one's own. -/
def OwnL (w : World) (base : Nat) (v : Value) (l : List Nat) : Prop := w.ownsRow base 3 1 v l.length ((List.range l.length).map fun j => .int .i64 (nums l j))
theorem OwnL.snoc {base : Nat} {w : World} {v : Value} {l : List Nat} (i : Nat) (h : OwnL w base v l) : w.ownsRow base 3 1 v l.length ((List.range l.length).map fun j => .int .i64 (nums (l ++ [i]) j)) := by
  have : ((List.range l.length).map fun j => Value.int .i64 (nums (l ++ [i]) j)) = (List.range l.length).map fun j => .int .i64 (nums l j) :=
    List.map_congr_left fun j hj => by rw [nums_keep l i j (List.mem_range.1 hj)]
  rw [this]
  exact h
theorem OwnL.of {base : Nat} {w : World} {v : Value} {l : List Nat} {i : Nat} (h : w.ownsRow base 3 1 v (l.length + 1) ((List.range (l.length + 1)).map fun j => .int .i64 (nums (l ++ [i]) j))) : OwnL w base v (l ++ [i]) := by
  unfold OwnL
  rw [List.length_append, List.length_singleton]
  exact h
theorem OwnL.keep {base : Nat} {w w' : World} {v : Value} {l : List Nat} (h : OwnL w base v l) (hb : Below w.heap.size w w') : OwnL w' base v l :=
  h.kept (row := none) ⟨hb.os, hb.tape, hb.output, hb.size, fun i hi _ => hb.block i hi⟩ (by cases h : v.ownBlock <;> simp)
theorem grp_len (k : Nat → Int) (p : Nat) : ∀ n, (grp k p n).length ≤ n
  | 0 => Nat.le_refl _
  | n + 1 => by
    have := grp_len k p n
    unfold grp
    split
    · simp; omega
    · omega
theorem ordP_len (k : Nat → Int) (n : Nat) : ∀ p, (ordP k n p).length ≤ p * n
  | 0 => by simp [ordP]
  | p + 1 => by
    have := ordP_len k n p
    have := grp_len k p n
    unfold ordP
    rw [List.length_append, Nat.add_mul, Nat.one_mul]
    omega

section
variable (a : Option Addr) (n c : Nat) (P R M T : Nat → Int) (w : World)
set_option maxRecDepth 100000 in
set_option maxHeartbeats 4000000 in
theorem order31 (hn : n ≤ 8) (H : R4 w a n P R M T) : Calls Try.prog 31 #[.slice a n c] w fun e w' => ∃ v, e = .returned v ∧ OwnL w' w.heap.size v (ordP P n 16) ∧ Below w.heap.size w w' := by
  have HR := Lib.hid H
  clear H
  go_enter Try.func31, Try.ntmps31
  go_wp2_with fail
  go_loopw [3, 4] (fun s3 s4 wr => ∃ p : Nat, s4 = .int .i64 p ∧ p ≤ 16 ∧ OwnL wr w.heap.size s3 (ordP P n p) ∧ Below w.heap.size w wr) (fun _ s4 _ => 16 - (intOf s4).toNat)
  case atStart => exact ⟨0, rfl, by omega, World.ownsRow_nil _ _ _ _, Below.refl _ _⟩
  case round =>
    rename_i v3
    obtain ⟨p, rfl, hp, hO, hb⟩ := hrel
    have HO := Lib.hid hO
    have HB := Lib.hid hb
    clear hO hb
    by_cases hlt : p < 16
    · have hpl : (p : Int) ≤ 15 := by omega
      have hol := ordP_len P n p
      have hol2 : p * n ≤ 16 * 8 := Nat.mul_le_mul (by omega) hn
      go_wp2_with fail
      go_loopw [3, 5] (fun s3 s5 wr => ∃ i : Nat, s5 = .int .i64 i ∧ i ≤ n ∧ OwnL wr w.heap.size s3 (ordP P n p ++ grp P p i) ∧ Below w.heap.size w wr) (fun _ s5 _ => n - (intOf s5).toNat)
      case atStart => exact ⟨0, rfl, Nat.zero_le _, by simpa [grp] using HO.out, HB.out⟩
      case round =>
        rename_i v3
        clear HO HB
        obtain ⟨i, rfl, hi, hO, hb⟩ := hrel
        have HO := Lib.hid hO
        have HB := Lib.hid hb
        by_cases hin : i < n
        · obtain ⟨b, m, h1, h2⟩ := HR.out.mono hb
          obtain rfl := h1 (by omega)
          have c0 := (h2 i hin).1
          have i1 : (0 : Int) ≤ (i : Int) := by omega
          have i2 : (i : Int) < (n : Int) := by omega
          have hgl := grp_len P p i
          have hsz := hb.size
          clear hO hb h1 h2
          by_cases hq : P i = p
          · have q1 : (P i == (p : Int)) = true := by rw [hq]; exact beq_self_eq_true _
            have hg : ordP P n p ++ grp P p (i + 1) = (ordP P n p ++ grp P p i) ++ [i] := by
              show _ ++ (if P i = p then grp P p i ++ [i] else grp P p i) = _
              rw [if_pos hq, List.append_assoc]
            have HG := Lib.hid hg
            have hll : (ordP P n p ++ grp P p i).length + 1 ≤ 1000000 := by simp; omega
            clear hg
            generalize ordP P n p ++ grp P p i = l at *
            have HSN := Lib.hid (HO.out.snoc i)
            clear hq
            go_wp2_with (at_builtin; refine wpList_append1 wr w w.heap.size rfl (.tmp 23) (.tmp 25) 22 rfl 3 (.int .i64 0) 8 Try.underlying22 intInfo rfl (by decide) _ l.length (fun x => .int .i64 (nums (l ++ [i]) x)) rfl _ rfl HSN.out HB.out hsz (by rw [nums_snoc]) rfl hll ?_; intro v' w7 hown hB7 hb7 hs7 _; have HO7 := Lib.hid (OwnL.of hown); have HB7 := Lib.hid hB7; clear hown hB7 hb7 hs7)
            go_roundw
            case rel => exact ⟨i + 1, by go_num, by omega, by rw [HG.out]; exact HO7.out, HB7.out⟩
            case measure => simp [intOf]; omega
          · have q1 : (P i == (p : Int)) = false := beq_eq_false_iff_ne.2 hq
            have hg : ordP P n p ++ grp P p (i + 1) = ordP P n p ++ grp P p i := by
              show _ ++ (if P i = p then grp P p i ++ [i] else grp P p i) = _
              rw [if_neg hq]
            have HG := Lib.hid hg
            clear hg hq
            go_wp2_with fail
            go_roundw
            case rel => exact ⟨i + 1, by go_num, by omega, by rw [HG.out]; exact HO.out, HB.out⟩
            case measure => simp [intOf]; omega
        · obtain rfl : i = n := by omega
          clear hO hb
          go_wp2_with fail
          go_roundw
          case rel => exact ⟨p + 1, by go_num, by omega, HO.out, HB.out⟩
          case measure => simp [intOf]; omega
    · obtain rfl : p = 16 := by omega
      go_wp2
      go_ret
      exact ⟨_, rfl, HO.out, HB.out⟩
end
end Go.Proofs.Ytgcplboiodnfpaa
