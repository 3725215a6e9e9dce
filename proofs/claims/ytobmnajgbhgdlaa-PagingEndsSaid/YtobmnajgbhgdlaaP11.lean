/- Layer 36: slices.Delete of one page. -/
import Derived.Test.YtobmnajgbhgdlaaP10
import Derived.Deep.RegionLaw
import Derived.Lib.SlicesDelete
namespace Go.Proofs.Ytobmnajgbhgdlaa
set_option linter.unusedVariables false
set_option linter.unusedSimpArgs false
open Go.RowKit Go.Sort
attribute [local go_sem] gcell
def sh (i : Nat) (f : Nat → Int) (k : Nat) : Int := if k < i then f k else f (k + 1)
/-- Cells that are put one behind the other. -/
def putL (f : Nat → Value) (o : Nat) (vs : List Value) (k : Nat) : Value := if o ≤ k ∧ k < o + vs.length then vs.getD (k - o) undef else f k
theorem VAt.setL {z n : Nat} : ∀ (vs : List Value) {w : World} {f : Nat → Value} (o : Nat) (Q : VAt w z n f), VAt (w.setCells z o vs) z n (putL f o vs)
  | [], w, f, o, Q => Q.congr fun k _ => if_neg (by simp only [List.length_nil]; omega)
  | v :: r, w, f, o, Q => (VAt.setL r (o + 1) (Q.set o v)).congr fun k hk => by
    unfold putL putV
    by_cases h1 : k = o
    · subst h1
      rw [if_pos ⟨Nat.le_refl _, by simp⟩, if_neg (by omega), if_pos rfl, Nat.sub_self]; rfl
    · by_cases h2 : o ≤ k ∧ k < o + (v :: r).length
      · have h3 : o + 1 ≤ k ∧ k < o + 1 + r.length := by simp at h2; omega
        rw [if_pos h2, if_pos h3]
        obtain ⟨m, hm⟩ : ∃ m, k - o = m + 1 := ⟨k - o - 1, by omega⟩
        rw [hm, show k - (o + 1) = m by omega]
        rfl
      · rw [if_neg h2, if_neg (by simp at h2; omega), if_neg h1]
theorem grown_setCells {b : Nat} : ∀ (vs : List Value) (o : Nat) {w : World}, w.grownBy (w.setCells b o vs) (some b)
  | [], _, w => ⟨rfl, rfl, rfl, Nat.le_refl _, fun _ _ _ => rfl⟩
  | v :: r, o, w => by
    obtain ⟨h1, h2, h3, h4, h5⟩ := grown_setCells (b := b) r (o + 1) (w := w.setCell ⟨b, o, none⟩ v)
    refine ⟨h1, h2, h3, Nat.le_trans (by simp) h4, fun k hk hne => (h5 k (by simpa using hk) hne).trans ?_⟩
    have : b ≠ k := fun e => hne (by rw [e])
    simp [World.setCell, Array.getElem?_modify, this]
theorem zero54 : ∀ w, (zeroValue 54).run Try.prog w = .ok pz w := fun w => by kernel_rfl
theorem run_clear1 (w : World) (ty : TypeId) (b o c : Nat) (hc : ∀ j, j < 3 → (w.cell? ⟨b, o + j, none⟩).isSome = true) (hf : ∀ j, j < 3 → w.frozen? ⟨b, o + j, none⟩ = false) :
    (Builtin.clear_ #[23] ty #[.slice (some ⟨b, o, none⟩) 1 c]).run Try.prog w = .ok (.tuple #[]) (w.setCells b o [.int .i64 0, .int .i64 0, .int .i64 0]) := by
  have hzc : (Builtin.zeroCells (Value.agg #[.int .i64 0, .int .i64 0, .int .i64 0]).cells 1).toList = [.int .i64 0, .int .i64 0, .int .i64 0] := by kernel_rfl
  have hst := run_storeCells_cells (P := Try.prog) b o [.int .i64 0, .int .i64 0, .int .i64 0] 0 w (by simpa using hc) (by simpa using hf) (by intro v hv; simp at hv; rw [hv]; rfl)
  simp only [Nat.add_zero] at hst
  simp [Builtin.clear_, run_underlying Try.underlying23, zero54, hzc, hst]
set_option maxRecDepth 100000 in
set_option maxHeartbeats 4000000 in
theorem delete30 (w : World) (b n c i : Nat) (I S C : Nat → Int) (Q : VAt w b (n * 3) (pf I S C)) (hi : i < n) (hc : n ≤ c) (hm : c ≤ 9223372036854775807) :
    Calls Try.prog 30 #[.slice (some ⟨b, 0, none⟩) n c, .int .i64 i, .int .i64 (i + 1)] w fun e w' => e = .returned (.slice (some ⟨b, 0, none⟩) (n - 1) c) ∧ VAt w' b ((n - 1) * 3) (pf (sh i I) (sh i S) (sh i C)) ∧ w.grownBy w' (some b) := by
  have HQ := Lib.hid Q
  clear Q
  have i1 : ((i : Int) == (i : Int) + 1) = false := beq_eq_false_iff_ne.2 (by omega)
  have i2 : ((i : Int) + 1).toNat = i + 1 := by omega
  have i3 : (i : Int) + 1 ≤ (n : Int) := by omega
  have i4 : (0 : Int) ≤ (i : Int) + 1 := by omega
  have i5 : (i : Int) + 1 ≤ (c : Int) := by omega
  obtain ⟨i0, hi0, hz0, hz1, hz2⟩ := info_split pInfo
  obtain ⟨news, hnews⟩ : ∃ news, news = (List.range ((n - (i + 1)) * 3)).map (fun t => pf I S C ((i + 1) * 3 + t)) := ⟨_, rfl⟩
  have hlen : news.length = (n - (i + 1)) * 3 := by rw [hnews]; simp
  have hget : ∀ t u, news[t]? = some u → t < (n - (i + 1)) * 3 ∧ u = pf I S C ((i + 1) * 3 + t) := fun t u hu => by
    have ht : t < (n - (i + 1)) * 3 := by rw [← hlen]; exact (List.getElem?_eq_some_iff.1 hu).1
    rw [hnews, List.getElem?_map, List.getElem?_range ht] at hu
    exact ⟨ht, (Option.some.inj hu).symm⟩
  obtain ⟨A, hA, hsrc⟩ : ∃ A : Addr, (if c = i + 1 then (some ⟨b, 0, none⟩ : Option Addr) else some ⟨b, (i + 1) * 3, none⟩) = some A ∧ Hid (∀ t u, news[t]? = some u → w.drew.cell? (A.add t) = some u) := by
    by_cases h : c = i + 1
    · refine ⟨⟨b, 0, none⟩, by simp [h], fun t u hu => ?_⟩
      have := (hget t u hu).1
      omega
    · refine ⟨⟨b, (i + 1) * 3, none⟩, by simp [h], fun t u hu => ?_⟩
      obtain ⟨h1, h2⟩ := hget t u hu
      rw [Addr.add_mid, h2]
      exact HQ.out.c _ (by omega)
  have s1 := Lib.hid hlen
  have s2 : Hid (∀ u ∈ news, u.oneCell' = true) := fun u hu => by
    rw [hnews] at hu
    obtain ⟨x, _, rfl⟩ := List.mem_map.1 hu
    rfl
  have s3 : Hid (∀ t, t < news.length → (w.drew.cell? ⟨b, 0 + i * 3 + t, none⟩).isSome = true ∧ w.drew.frozen? ⟨b, 0 + i * 3 + t, none⟩ = false) := fun t ht => by
    rw [hlen] at ht
    rw [Nat.zero_add]
    exact ⟨by show (w.cell? _).isSome = true; rw [HQ.out.c _ (by omega)]; rfl, HQ.out.fr _⟩
  have HG := Lib.hid hget
  have HNW := Lib.hid hnews
  have Q1 : VAt w.drew b (n * 3) (pf I S C) := ⟨HQ.out.c, HQ.out.fr, HQ.out.lt⟩
  have Q2 := VAt.setL news (0 + i * 3) Q1
  obtain ⟨W1, hW1⟩ : ∃ W1, W1 = w.drew.setCells b (0 + i * 3) news := ⟨_, rfl⟩
  have HGR : Hid (w.grownBy W1 (some b)) := by
    rw [hW1]
    have h := grown_setCells (b := b) news (0 + i * 3) (w := w.drew)
    exact ⟨h.os, h.tape, h.output, h.size, h.block⟩
  rw [← hW1] at Q2
  have HQ2 := Lib.hid Q2
  have hcl := fun ty => run_clear1 W1 ty b ((n - 1) * 3) (c - (n - 1)) (fun j hj => by rw [Q2.c _ (by omega)]; rfl) (fun j hj => Q2.fr _)
  have hW := Lib.hid hW1
  clear hW1 hlen hget hnews Q1 Q2
  have i9 : n - (n - 1) = 1 := by omega
  have i7 : i ≤ c := by omega
  have i8 : i + 1 ≤ c := by omega
  have i6 : i + (n - (i + 1)) = n - 1 := by omega
  go_enter Try.func30, Try.ntmps30
  go_wp2_with fail
  go_region_law (refine step_append_room rfl (.tmp 22) (.tmp 25) 23 rfl 54 i0 3 Try.underlying23 hi0 hz1 b 0 i c (by simp [Act.eval, Act.put]) A (n - (i + 1)) (c - (i + 1)) news (by simp [Act.eval, Act.put]) s1.out hsrc.out s2.out (by omega) s3.out ?_; rw [← hW.out])
  go_wp2
  go_ret
  have G2 := grown_setCells (b := b) [.int .i64 0, .int .i64 0, .int .i64 0] ((n - 1) * 3) (w := W1)
  refine ⟨rfl, ?_, ⟨G2.os.trans HGR.out.os, G2.tape.trans HGR.out.tape, G2.output.trans HGR.out.output, Nat.le_trans HGR.out.size G2.size, fun k hk hne => (G2.block k (Nat.lt_of_lt_of_le hk HGR.out.size) hne).trans (HGR.out.block k hk hne)⟩⟩
  have Q3 := VAt.setL [.int .i64 0, .int .i64 0, .int .i64 0] ((n - 1) * 3) HQ2.out
  refine ⟨fun k hk => ?_, Q3.fr, Q3.lt⟩
  rw [Q3.c k (by omega)]
  unfold putL
  rw [if_neg (by omega), s1.out]
  by_cases h1 : k < i * 3
  · rw [if_neg (by omega)]
    unfold pf sh
    rw [if_pos (show k / 3 < i by omega)]
    simp only [if_pos (show k / 3 < i by omega)]
  · rw [if_pos (by omega)]
    have h2 : k - (0 + i * 3) < (n - (i + 1)) * 3 := by omega
    rw [HNW.out, List.getD_eq_getElem?_getD, List.getElem?_map, List.getElem?_range h2]
    simp only [Option.map_some, Option.getD_some]
    rw [show (i + 1) * 3 + (k - (0 + i * 3)) = k + 3 by omega]
    unfold pf sh
    simp only [if_neg (show ¬ k / 3 < i by omega), show (k + 3) % 3 = k % 3 by omega, show (k + 3) / 3 = k / 3 + 1 by omega]
end Go.Proofs.Ytobmnajgbhgdlaa
