/- Layer 25: two rows that grow side by side; the walk of PriorityAlone. -/
import Derived.Test.YtgcplboiodnfpaaL1
namespace Go.Proofs.Ytgcplboiodnfpaa
set_option linter.unusedVariables false
set_option linter.unusedSimpArgs false
open Go.RowKit Go.Sort
attribute [local go_sem] gcell

theorem bf_snoc (P R M T : Nat → Int) (n : Nat) (j : Nat) (h : j < 4) : (#[.int .i64 (P n), .int .i64 (R n), .int .i64 (M n), .int .i64 (T n)] : Array Value)[j]? = some (bf P R M T (n * 4 + j)) := by
  match j, h with
  | 0, _ => rw [Nat.add_zero, bf0]; rfl
  | 1, _ => rw [bf1]; rfl
  | 2, _ => rw [bf2]; rfl
  | 3, _ => rw [bf3]; rfl
theorem one4 (a b c d : Int) : ∀ y ∈ (#[.int .i64 a, .int .i64 b, .int .i64 c, .int .i64 d] : Array Value).toList, y.oneCell' = true := fun y hy => by
  simp at hy
  rcases hy with rfl | rfl | rfl | rfl <;> rfl
/-- Buckets and what waits, in two rows of one's own. -/
structure Two (w0 w : World) (u v : Value) (k : Nat) (P R M T W : Nat → Int) : Prop where
  ru : w.ownsRow w0.heap.size 35 4 u k ((List.range (k * 4)).map (bf P R M T))
  rv : w.ownsRow w0.heap.size 3 1 v k ((List.range k).map (iv W))
  ap : Apart u v
  bel : Below w0.heap.size w0 w
theorem Two.pushU {w0 w w' : World} {u v u' : Value} {k : Nat} {P R M T W : Nat → Int} (S : Two w0 w u v k P R M T W) (h : w'.ownsRow w0.heap.size 35 4 u' (k + 1) ((List.range ((k + 1) * 4)).map (bf P R M T))) (hb : Below w0.heap.size w0 w') (hg : w.grownBy w' u.ownBlock) (ha : u'.ownBlock = u.ownBlock ∨ u'.ownBlock = some (w.heap.size + 1)) :
    w'.ownsRow w0.heap.size 3 1 v k ((List.range k).map (iv W)) ∧ Apart v u' := ⟨S.ap.symm.keep S.rv hg, S.ap.symm.grown S.rv ha⟩
theorem Two.r4 {w0 w : World} {u v : Value} {k : Nat} {P R M T W : Nat → Int} (S : Two w0 w u v k P R M T W) : ∃ a c a' c', u = .slice a k c ∧ v = .slice a' k c' ∧ (a = none → k = 0) ∧ R4 w a k P R M T ∧ Row w a' k W := by
  obtain ⟨a, c, b, rfl, h1, h2, h3⟩ := own_cellsK S.ru
  obtain ⟨a', c', rfl, h4, h5⟩ := own_row S.rv
  refine ⟨a, c, a', c', rfl, rfl, fun h => ?_, R4.of_cells h3 fun h0 => (h2 h0).1, h5⟩
  rcases Nat.eq_zero_or_pos k with h0 | h0
  · exact h0
  · rw [(h2 h0).1] at h; cases h

def qP (p : Int) (j : Nat) : Int := if j = 0 then p else (j : Int) - 1
def qM (j : Nat) : Int := if j = 0 then 40000 else 9
def qT (t : Int) (j : Nat) : Int := if j = 0 then t else 9
def qW (x : Int) (j : Nat) : Int := if j = 0 then x else 0
def q0 (_ : Nat) : Int := 0
set_option maxRecDepth 100000 in
set_option maxHeartbeats 8000000 in
theorem alone4 (x0 x1 x2 x3 x4 : Int) (w : World) (b0 : -32768 ≤ x0 ∧ x0 ≤ 32767) (b1 : 0 ≤ x1 ∧ x1 ≤ 255) (b2 : 0 ≤ x2 ∧ x2 ≤ 255) (b3 : 0 ≤ x3 ∧ x3 ≤ 255) (b4 : 0 ≤ x4 ∧ x4 ≤ 255) :
    Calls Try.prog 4 #[.int .i16 x0, .int .u8 x1, .int .u8 x2, .int .u8 x3, .int .u8 x4] w fun e w' => e = .returned (.bool true) ∧ Below w.heap.size w w' := by
  have m1 : 0 ≤ x1 % 16 ∧ x1 % 16 ≤ 15 := by omega
  have m4 : 0 ≤ x4 % 5 ∧ x4 % 5 ≤ 4 := by omega
  go_enter Try.func4, Try.ntmps4
  go_upto_region 3 with fail
  generalize x1 % 16 = p1 at *
  have HS0 := Lib.hid (show Two w ((w.alloc (.cells #[.int .i64 p1, .int .i64 0, .int .i64 40000, .int .i64 x0] 35)).alloc (.cells #[.int .i64 x2] 3)) (.slice (some ⟨w.heap.size, 0, none⟩) 1 1) (.slice (some ⟨w.heap.size + 1, 0, none⟩) 1 1) 1 (qP p1) q0 qM (qT x0) (qW x2) from
    ⟨(World.ownsRow_lit w _ 1 (Nat.le_refl _) (by decide) rfl).alloc _, by
      have h := World.ownsRow_lit (base := w.heap.size) (e := 3) (size := 1) (w.alloc (.cells #[.int .i64 p1, .int .i64 0, .int .i64 40000, .int .i64 x0] 35)) #[.int .i64 x2] 1 (by simp) (by decide) rfl
      simpa [iv, qW] using h, fun b h1 h2 => by
      have e1 : w.heap.size = b := Option.some.inj h1
      have e2 : w.heap.size + 1 = b := Option.some.inj h2
      omega, (below_alloc _ _).alloc (by simp) _⟩)
  obtain ⟨K, hK⟩ : ∃ K : Nat, x4 % 5 = K := ⟨(x4 % 5).toNat, by omega⟩
  have HK := Lib.hid hK
  have hK4 : K ≤ 4 := by omega
  generalize hwz : ((w.alloc (.cells #[.int .i64 p1, .int .i64 0, .int .i64 40000, .int .i64 x0] 35)).alloc (.cells #[.int .i64 x2] 3)) = wz at *
  clear hwz
  go_wp2_with fail
  go_loopw [11, 12, 13] (fun s11 s12 s13 wr => ∃ i : Nat, s13 = .int .i64 i ∧ i ≤ K ∧ Two w wr s11 s12 (i + 1) (qP p1) q0 qM (qT x0) (qW x2)) (fun _ _ s13 _ => K - (intOf s13).toNat)
  case atStart => exact ⟨0, rfl, Nat.zero_le _, HS0.out⟩
  case round =>
    rename_i v11 v12
    clear HS0
    obtain ⟨i, rfl, hi, hS⟩ := hrel
    have HS := Lib.hid hS
    have hsr := hS.bel.size
    clear hS
    by_cases hlt : i < K
    · have i6 : i + 1 + 1 ≤ 1000000 := by omega
      have hl4 : (i : Int) < x4 % 5 := by omega
      go_wp2_with (first
        | (at_builtin; refine wpList_append_elem wr w w.heap.size rfl (.tmp 35) (.tmp 38) 25 rfl 35 bz 4 32 Try.underlying25 bInfo rfl (by decide) (by decide) _ (i + 1) (bf (qP p1) q0 qM (qT x0)) rfl #[.int .i64 i, .int .i64 0, .int .i64 9, .int .i64 9] rfl rfl (one4 _ _ _ _) (bf (qP p1) q0 qM (qT x0)) (fun _ _ => rfl) (fun j hj => (by have h := bf_snoc (qP p1) q0 qM (qT x0) (i + 1) j hj; have e1 : qP p1 (i + 1) = (i : Int) := (by unfold qP; rw [if_neg (by omega)]; omega); rw [e1] at h; exact h)) HS.out.ru HS.out.bel hsr i6 ?_; intro u' w6 hown hB6 hs6 hg6 ha6; obtain ⟨hv6, hap6⟩ := HS.out.pushU hown hB6 hg6 ha6; have HU6 := Lib.hid hown; have HV6 := Lib.hid hv6; have HA6 := Lib.hid hap6; have HB6 := Lib.hid hB6; have hsz6 := hB6.size; clear hown hB6 hs6 hg6 ha6 hv6 hap6)
        | (at_builtin; refine wpList_append1_at w6 w w.heap.size rfl (.tmp 40) (.tmp 41) 22 rfl 3 (.int .i64 0) 8 Try.underlying22 intInfo rfl (by decide) _ (i + 1) (iv (qW x2)) rfl _ rfl HV6.out HB6.out hsz6 (by unfold iv qW; rw [if_neg (by omega)]) rfl i6 ?_; intro v' w7 hown hB7 hs7 hg7 ha7; have HS7 := Lib.hid (show Two w w7 u' v' (i + 1 + 1) (qP p1) q0 qM (qT x0) (qW x2) from ⟨HA6.out.symm.keep HU6.out hg7, hown, HA6.out.symm.grown HU6.out ha7, hB7⟩); clear hown hB7 hs7 hg7 ha7))
      go_roundw
      case rel => exact ⟨i + 1, by go_num, by omega, HS7.out⟩
      case measure => simp [intOf]; omega
    · obtain rfl : i = K := by omega
      obtain ⟨a, c, a', c', rfl, rfl, ha, hR, hW⟩ := HS.out.r4
      have hok : okB (i + 1) (qP p1) q0 qM (qT x0) = true := okB_mk (by omega) fun k hk => by
        unfold vb btw qP q0 qM qT
        by_cases h : k = 0
        · simp [h]; omega
        · simp [h]; omega
      have HRR := Lib.hid hR
      have hW0 : ∀ k, 0 ≤ qW x2 k := fun k => by unfold qW; split <;> omega
      have hO := ord_of (n := i + 1) (k := qP p1) fun k hk => by unfold qP; split <;> omega
      obtain ⟨e1, e2⟩ := g_alone (T := qT x0) (W := qW x2) hO (s := x3) b3.1 hW0 (fun k hk => by unfold qW; rw [if_neg (by omega)]) (by omega)
      have hWr : Row wr a' (i + 1) (fun k => if k < i + 1 then qW x2 k else 0) := hW.congr rfl fun k hk => (if_pos hk).symm
      have hWe : (fun k => if k < i + 1 then qW x2 k else 0) = qW x2 := by
        funext k
        unfold qW
        split
        · rfl
        · rw [if_neg (by omega)]
      rw [hWe] at hWr
      have hE : eS (i + 1) (i + 1) true (qW x2) x3 = 0 := by
        unfold eS
        rw [if_neg (by simp), if_neg (by simp), if_neg]
        rw [btw_true.2 (by omega), anyB_false.2]
        · simp
        · intro k hk
          unfold badW
          rw [btw_true.2]
          · rfl
          · unfold qW; split <;> omega
      have K1 := share14 a (i + 1) c a' (i + 1) c' (qP p1) q0 qM (qT x0) (qW x2) x3 wr (by omega) (by omega) ha hR hWr (fun k hk => by unfold qW; rw [if_neg (by omega)])
      unfold ShareR at K1
      rw [hok, hE] at K1
      have HK1 := Lib.hid K1
      have HE1 := Lib.hid e1
      have HE2 := Lib.hid e2
      have HB := Lib.hid HS.out.bel
      have nl : ¬ (i : Int) < x4 % 5 := by omega
      have h17 : (((i + 1 : Nat)) : Int) = (i : Int) + 1 := by omega
      clear hR hW hok hW0 hO e1 e2 hWr hWe hE K1 HS HRR ha
      go_wp2_with fail
      refine HK1.out.mono ?_
      rintro e w1 ⟨N, a1, a2, c1, c2, rfl, hN, hc1, hA1, hR1, hG1, hb⟩
      obtain rfl : N = i + 1 := hN
      obtain ⟨bb1, mm1, p1', z1⟩ := hR1
      obtain ⟨bb2, mm2, p2', z2⟩ := hG1
      obtain rfl := p1' (by omega)
      obtain rfl := p2' (by omega)
      have t0 := (z1 0 (by omega)).2.2.2
      have g0 := z2 0 (by omega)
      simp only [HE1.out] at t0
      rw [HE2.out] at g0
      have HB1 := Lib.hid (bthen HB.out hb hsr)
      have hs1 := HB1.out.size
      clear p1' z1 p2' z2 hb HK1 HB hA1
      simp only [Nat.zero_mul, Nat.add_zero, qW, qT, if_true] at t0 g0
      obtain ⟨nn, hnn⟩ : ∃ nn, (if x3 < x2 then x3 else x2) = nn := ⟨_, rfl⟩
      obtain ⟨mx, hmx⟩ : ∃ mx, (if 0 < x0 then x0 else 0) = mx := ⟨_, rfl⟩
      obtain ⟨qq, hqq⟩ : ∃ qq, (if mx < nn then mx else nn) = qq := ⟨_, rfl⟩
      have f1 : min x2 x3 = nn := by rw [← hnn]; split <;> omega
      have f2 : max 0 x0 = mx := by rw [← hmx]; split <;> omega
      have f3 : min nn mx = qq := by rw [← hqq]; split <;> omega
      rw [f1] at g0
      rw [f1, f2, f3] at t0
      have hqb : -40000 ≤ x0 - qq ∧ x0 - qq ≤ 40000 := by omega
      clear f1 f2 f3
      go_wp2_with fail
      refine (awake10 _).mono ?_
      rintro e w2 ⟨rfl, hb⟩
      have HB2 := Lib.hid (bthen HB1.out hb hs1)
      clear hb
      go_wp2
      go_ret
      exact ⟨rfl, HB2.out⟩
end Go.Proofs.Ytgcplboiodnfpaa
