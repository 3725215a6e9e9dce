/- Layer 37: the walk of MeasureRaw. -/
import Derived.Test.YtbhldnfldkjoiaaM11
namespace Go.Proofs.Ytbhldnfldkjoiaa
open Go.RowKit Go.Sort
attribute [local go_sem] gcell
set_option linter.unusedVariables false

set_option maxRecDepth 100000 in
set_option maxHeartbeats 4000000 in
theorem raw3 (mg bk hd own cl : Int) (v : Value) (ar : Option Addr) (n m r cr : Nat) (fs hs qs : Nat → Int) (w : World) (S : Sg w v n m fs hs) (RQ : Row w ar r qs) (hn : n ≤ 140737488351232) (hm : m ≤ 140737488351232) (hr : r ≤ 140737488351232) :
    Calls Try.prog 3 #[rv mg bk hd, v, .int .i64 own, .int .i64 cl, .slice ar r cr] w fun e w' => e = .returned (.bool true) ∧ Below w.heap.size w w' := by
  have S1 := S
  obtain ⟨a, d, c, l, rfl, _⟩ := S
  have hB0 := (below_alloc w (.cells #[.int .i64 mg, .int .i64 bk, .int .i64 hd] 23))
  have hB1 := hB0.alloc hB0.size (.cells #[.slice a n c, .slice d m l] 26)
  have HX := Lib.hid (Sb.new (p := w.heap.size + 1) (S1.mono hB0) (by simp))
  have HR := Lib.hid ((Rb.new w mg bk hd).mono (below_alloc _ (.cells #[.slice a n c, .slice d m l] 26)))
  have HB := Lib.hid hB1
  have HQ := Lib.hid (RQ.mono hB1)
  clear S1 RQ hB0 hB1
  by_cases h60 : n + m + r ≤ 60
  · obtain ⟨p, hp⟩ : ∃ p, p = newN cl := ⟨_, rfl⟩
    have hp3 : p ≤ 3 := by rw [hp]; unfold newN; split <;> omega
    obtain ⟨E, hE⟩ : ∃ E, E = newE cl := ⟨_, rfl⟩
    have K1 := Lib.hid fun w => new9 cl w
    have K2 := Lib.hid fun w => new10 cl w
    rw [← hp, ← hE] at K1 K2
    have K3 := Lib.hid fun w S RQ => agree11 mg bk hd own (sv a d n c m l) ar n m r cr fs hs qs w S RQ (by omega) (by omega) (by omega)
    unfold rv sv at K3
    clear hp hE
    unfold rv sv
    go_enter Try.func3, Try.ntmps3
    go_wp2_with (go_at_call 9; refine (K1.out _).mono ?_)
    intro e w1 h
    obtain ⟨v1, rfl, s1, hb1⟩ := h
    have S1 := s1
    obtain ⟨a1, d1, c1, l1, rfl, _⟩ := s1
    have hA := below_alloc w1 (.cells #[.slice a1 p c1, .slice d1 p l1] 26)
    have HY1 := Lib.hid (Sb.new S1 rfl)
    have HX1 := Lib.hid ((HX.out.mono hb1).mono hA)
    have HR1 := Lib.hid ((HR.out.mono hb1).mono hA)
    have HQ1 := Lib.hid ((HQ.out.mono hb1).mono hA)
    have hB1 := bthen HB.out hb1 HB.out.size
    have HB1 := Lib.hid (bthen hB1 hA hB1.size)
    clear hb1 hA S1 hB1 HX HR HQ HB
    unfold sv
    go_wp2_with (go_at_call 10; refine (K2.out _).mono ?_)
    intro e w2 h
    obtain ⟨v2, rfl, s2, hb2⟩ := h
    have S2 := s2
    obtain ⟨a2, d2, c2, l2, rfl, _⟩ := s2
    have hA := below_alloc w2 (.cells #[.slice a2 p c2, .slice d2 p l2] 26)
    have HZ2 := Lib.hid (Sb.new S2 rfl)
    have HY2 := Lib.hid ((HY1.out.mono hb2).mono hA)
    have hX2 := HX1.out.mono hb2
    have hR2 := HR1.out.mono hb2
    have HX2 := Lib.hid (hX2.mono hA)
    have HQ2 := Lib.hid ((HQ1.out.mono hb2).mono hA)
    have hB2 := bthen HB1.out hb2 HB1.out.size
    have HB2 := Lib.hid (bthen hB2 hA hB2.size)
    have b0 := hX2.c0
    have b1 := hX2.c1
    have r0 := hR2.r0
    have r1 := hR2.r1
    have r2 := hR2.r2
    have lt0 := lt_of_cell b0
    have lt1 := lt_of_cell r0
    clear hb2 hA S2 hB2 HX1 HR1 HQ1 HB1 HY1 hX2 hR2
    unfold sv
    go_wp2_with (go_at_call 11; refine (K3.out _ HX2.out.s HQ2.out).mono ?_)
    rintro e w3 ⟨rfl, hb3⟩
    have HY3 := Lib.hid (HY2.out.mono hb3)
    have HZ3 := Lib.hid (HZ2.out.mono hb3)
    have HB3 := Lib.hid (bthen HB2.out hb3 HB2.out.size)
    clear b0 b1 r0 r1 r2 lt0 lt1
    have y0 := HY3.out.c0
    have y1 := HY3.out.c1
    have z0 := HZ3.out.c0
    have z1 := HZ3.out.c1
    have lt0 := lt_of_cell y0
    have lt1 := lt_of_cell z0
    clear hb3 HY2 HZ2 HB2
    have k12 : Calls Try.prog 12 #[sv a1 d1 p c1 p l1, sv a2 d2 p c2 p l2] w3 fun e w' => e = .returned (.bool true) ∧ Below w3.heap.size w3 w' := by
      have h := same12 _ _ p p p p zz zz zz zz w3 HY3.out.s HZ3.out.s (by omega) (by omega) (by omega) (by omega)
      rw [same_self] at h
      exact h
    have K12 := Lib.hid k12
    clear k12
    unfold sv at K12
    go_wp2_with (go_at_call 12; refine (K12.out).mono ?_)
    rintro e w4 ⟨rfl, hb4⟩
    have HB4 := Lib.hid (bthen HB3.out hb4 HB3.out.size)
    clear hb4 K12 y0 y1 z0 z1 lt0 lt1
    go_wp2_with (go_at_call 8; refine (awake8 _).mono ?_)
    rintro e w5 ⟨rfl, hb5⟩
    have HB5 := Lib.hid (bthen HB4.out hb5 HB4.out.size)
    clear hb5
    go_wp2
    go_ret
    exact ⟨rfl, HB5.out⟩
  · unfold rv sv
    go_enter Try.func3, Try.ntmps3
    go_wp2_with (go_at_call 8; refine (awake8 _).mono ?_)
    rintro e w1 ⟨rfl, hb1⟩
    have HB1 := Lib.hid (bthen HB.out hb1 HB.out.size)
    clear hb1
    go_wp2
    go_ret
    exact ⟨rfl, HB1.out⟩
end Go.Proofs.Ytbhldnfldkjoiaa
