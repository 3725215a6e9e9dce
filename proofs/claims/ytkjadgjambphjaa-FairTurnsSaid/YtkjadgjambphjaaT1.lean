/- The plain law of FairTurns. -/
import Derived.Test.YtkjadgjambphjaaN1
import Derived.Test.YtkjadgjambphjaaTail
namespace Go.Proofs.Ytkjadgjambphjaa
open Go.RowKit Go.Sort

/-- The least that the one who is served from the first tick on has, and the most that the other one has. -/
def xs : Nat → Int
  | 0 => 0
  | k + 1 => fe (fe (xs k)) + 40
def ys : Nat → Int
  | 0 => 255
  | k + 1 => fe (ys k)
theorem xy7 : ys 7 < xs 7 := by decide +kernel

/-- After k ticks: p: the mean of the one served last (its place: w), q: the other's; the ticks and the bytes of both. -/
structure TInv (n : Int) (k w : Nat) (p q lp lq sp sq : Int) : Prop where
  pb : 0 ≤ p ∧ p ≤ 20000
  qb : 0 ≤ q ∧ q ≤ 20000
  sb : 0 ≤ sp ∧ sp ≤ 265 * k ∧ 0 ≤ sq ∧ sq ≤ 265 * k
  ll : lp = k ∧ 0 ≤ lq ∧ lq ≤ k ∧ k ≤ lq + 7
  dd : -(8 * n) ≤ sp - sq ∧ sp - sq ≤ 9 * n
  z : k = 0 → p ≤ q ∧ (w = 1 → p < q)
  xy : 0 < k → ∃ x y, 0 ≤ x ∧ x ≤ y ∧ p = fe (fe x) + 4 * n ∧ q = fe y
  ph : (k ≤ 7 ∧ xs k ≤ p ∧ q ≤ ys k ∧ lq = 0 ∧ sp - sq = k * n) ∨ q < p

theorem fe_le (x : Int) (h : 0 ≤ x) : 0 ≤ fe x ∧ fe x ≤ x ∧ 16 * fe x ≤ 15 * x + 15 ∧ 15 * x ≤ 16 * fe x := by unfold fe; omega

theorem served_bd {n x : Int} (hn : 10 ≤ n) (hn2 : n ≤ 265) (h : 0 ≤ x) (h2 : x ≤ 20000) : 0 ≤ fe (fe x) + 4 * n ∧ fe (fe x) + 4 * n ≤ 20000 := by
  have := fe_le x h
  have := fe_le (fe x) (by omega)
  omega

theorem TInv.same {n : Int} {k w : Nat} {p q lp lq sp sq : Int} (hn : 10 ≤ n) (hn2 : n ≤ 265) (H : TInv n k w p q lp lq sp sq) (h : p ≤ q) : TInv n (k + 1) w (fe (fe p) + 4 * n) (fe q) (k + 1) lq (sp + n) sq := by
  have hp := H.pb; have hq := H.qb; have hs := H.sb; have hl := H.ll; have hd := H.dd
  have h1 := served_bd hn hn2 hp.1 hp.2
  have h2 := fe_le q hq.1
  rcases H.ph with ⟨hk, hx, hy, hlq, hkn⟩ | h3
  · have hk7 : k ≠ 7 := by
      rintro rfl
      have := xy7
      omega
    have e : ((k + 1 : Nat) : Int) * n = k * n + n := by rw [Int.natCast_add, Int.add_mul]; simp
    have hkn7 : (k : Int) * n ≤ 7 * n := Int.mul_le_mul_of_nonneg_right (by omega) (by omega)
    have hkn0 : 0 ≤ (k : Int) * n := Int.mul_nonneg (by omega) (by omega)
    refine ⟨h1, by omega, ⟨by omega, by omega, by omega, by omega⟩, ⟨by omega, by omega, by omega, by omega⟩, by omega, fun h0 => by omega, fun _ => ⟨p, q, hp.1, h, rfl, rfl⟩, .inl ⟨by omega, ?_, ?_, hlq, by rw [e]; omega⟩⟩
    · show fe (fe (xs k)) + 40 ≤ _
      have := fe_mono (fe_mono hx)
      omega
    · exact fe_mono hy
  · omega

theorem TInv.other {n : Int} {k w w' : Nat} {p q lp lq sp sq : Int} (hn : 10 ≤ n) (hn2 : n ≤ 265) (H : TInv n k w p q lp lq sp sq) (h : q ≤ p) (h0 : k = 0 → False) : TInv n (k + 1) w' (fe (fe q) + 4 * n) (fe p) (k + 1) lp (sq + n) sp := by
  have hp := H.pb; have hq := H.qb; have hs := H.sb; have hl := H.ll; have hd := H.dd
  have h1 := served_bd hn hn2 hq.1 hq.2
  have h2 := fe_le p hp.1
  obtain ⟨x, y, hx, hxy, rfl, rfl⟩ := H.xy (Nat.pos_of_ne_zero h0)
  refine ⟨h1, by omega, ⟨by omega, by omega, by omega, by omega⟩, ⟨by omega, by omega, by omega, by omega⟩, by omega, fun h0 => by omega, fun _ => ⟨_, _, hq.1, h, rfl, rfl⟩, .inr ?_⟩
  have a1 := fe_mono (fe_mono (fe_mono hxy))
  have a2 : fe (fe (fe x) + 4 * n) < fe (fe (fe x)) + 4 * n := by
    have a3 := (fe_le (fe x) (fe_le x hx).1).1
    generalize fe (fe x) = u at *
    unfold fe; omega
  omega

theorem TInv.start {n a b : Int} (ha : 0 ≤ a ∧ a ≤ 255) (hb : 0 ≤ b ∧ b ≤ 255) (hn : 10 ≤ n) (w : Nat) (h : a ≤ b) (h1 : w = 1 → a < b) : TInv n 0 w a b 0 0 0 0 :=
  ⟨by omega, by omega, ⟨by omega, by omega, by omega, by omega⟩, ⟨rfl, by omega, by omega, by omega⟩, by omega, fun _ => ⟨h, h1⟩, fun h => absurd h (Nat.lt_irrefl _), .inl ⟨by omega, ha.1, hb.2, rfl, by simp⟩⟩

/-- Whoever was served last. -/
def TBoth (n : Int) (k : Nat) (m0 m1 l0 l1 s0 s1 : Int) : Prop := TInv n k 0 m0 m1 l0 l1 s0 s1 ∨ TInv n k 1 m1 m0 l1 l0 s1 s0

theorem TBoth.zero {n : Int} {k : Nat} {m0 m1 l0 l1 s0 s1 : Int} (hn : 10 ≤ n) (hn2 : n ≤ 265) (H : TBoth n k m0 m1 l0 l1 s0 s1) (h : ¬ m1 < m0) : TBoth n (k + 1) (fe (fe m0) + 4 * n) (fe m1) (k + 1) l1 (s0 + n) s1 := by
  rcases H with H | H
  · exact .inl (H.same hn hn2 (by omega))
  · exact .inl (H.other hn hn2 (by omega) (fun h0 => by have := H.z h0; omega))
theorem TBoth.one {n : Int} {k : Nat} {m0 m1 l0 l1 s0 s1 : Int} (hn : 10 ≤ n) (hn2 : n ≤ 265) (H : TBoth n k m0 m1 l0 l1 s0 s1) (h : m1 < m0) : TBoth n (k + 1) (fe m0) (fe (fe m1) + 4 * n) l0 (k + 1) s0 (s1 + n) := by
  rcases H with H | H
  · exact .inr (H.other hn hn2 (by omega) (fun h0 => by have := H.z h0; omega))
  · exact .inr (H.same hn hn2 (by omega))
theorem TBoth.start {n a b : Int} (ha : 0 ≤ a ∧ a ≤ 255) (hb : 0 ≤ b ∧ b ≤ 255) (hn : 10 ≤ n) : TBoth n 0 a b 0 0 0 0 := by
  by_cases h : b < a
  · exact .inr (TInv.start hb ha hn 1 (by omega) (fun _ => h))
  · exact .inl (TInv.start ha hb hn 0 (by omega) (fun h => by omega))
theorem TBoth.bounds {n : Int} {k : Nat} {m0 m1 l0 l1 s0 s1 : Int} (_hn : 10 ≤ n) (H : TBoth n k m0 m1 l0 l1 s0 s1) :
    (0 ≤ m0 ∧ m0 ≤ 20000 ∧ 0 ≤ m1 ∧ m1 ≤ 20000) ∧ (0 ≤ s0 ∧ s0 ≤ 265 * k ∧ 0 ≤ s1 ∧ s1 ≤ 265 * k) ∧ (0 ≤ l0 ∧ l0 ≤ k ∧ k ≤ l0 + 7 ∧ 0 ≤ l1 ∧ l1 ≤ k ∧ k ≤ l1 + 7) ∧ (s0 - s1 ≤ 60 * n ∧ -(60 * n) ≤ s0 - s1) := by
  rcases H with H | H
  · have hp := H.pb; have hq := H.qb; have hs := H.sb; have hl := H.ll; have hd := H.dd
    omega
  · have hp := H.pb; have hq := H.qb; have hs := H.sb; have hl := H.ll; have hd := H.dd
    omega

theorem learn_0 (m : Int) (h : 0 ≤ m) (h2 : m ≤ 20000) : learn m 0 = fe m := by unfold learn mean within fe; omega
theorem learn_n (m n : Int) (h : 0 ≤ m) (h2 : m ≤ 20000) (hn : 0 ≤ n) (hn2 : n ≤ 265) : learn m n = fe m + 4 * n := by unfold learn mean within fe; omega

def m2 (m0 m1 : Int) : Nat → Int := fun k => if k = 0 then m0 else m1
theorem turnBest (m0 m1 : Int) (h0 : 0 ≤ m0) (h1 : m0 ≤ 20000) (h2 : 0 ≤ m1) (h3 : m1 ≤ 20000) : theBest (fun _ => 5) (m2 m0 m1) 2 = (if m1 < m0 then 1 else 0, true) := by
  have e : prefer 5 m1 5 m0 = decide (m1 < m0) := by
    have e5 : within 5 1048576 = 5 := by decide
    unfold prefer; rw [e5]; unfold mean within; congr 1; apply propext; omega
  by_cases h : m1 < m0
  · simp [theBest, bestTo, pick, m2, e, h] <;> omega
  · simp [theBest, bestTo, pick, m2, e, h]
end Go.Proofs.Ytkjadgjambphjaa
