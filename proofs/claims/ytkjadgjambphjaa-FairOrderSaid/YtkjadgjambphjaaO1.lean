/- The walk of FairOrder. -/
import Derived.Test.YtkjadgjambphjaaO0
import Derived.Maps.AppendAt
import Derived.Deep.AppendLies
import Derived.Deep.RegionHeld3
import Derived.Deep.DeepCutAuto
import Derived.OwnWalk
namespace Go.Proofs.Ytkjadgjambphjaa
open Go.RowKit Go.Sort
set_option linter.unusedVariables false
set_option linter.unusedSimpArgs false
attribute [local go_sem] gcell

theorem info_split {P : Program} {e : TypeId} {z : Value} {n b : Nat} (h : (P.info? e).map (fun i => (i.zero, i.size, i.bytes)) = some (some z, n, b)) : ∃ i, P.info? e = some i ∧ i.zero = some z ∧ i.size = n ∧ i.bytes = b := by
  cases hi : P.info? e with
  | none => rw [hi] at h; simp at h
  | some i => rw [hi] at h; simp at h; exact ⟨i, rfl, h.1, h.2.1, h.2.2⟩
theorem intInfo : (Try.prog.info? 3).map (fun i => (i.zero, i.size, i.bytes)) = some (some (.int .i64 0), 1, 8) := by kernel_rfl
theorem meanInfo : (Try.prog.info? 23).map (fun i => (i.zero, i.size, i.bytes)) = some (some (.agg #[.int .i64 0]), 1, 8) := by kernel_rfl
def iv (xs : Nat → Int) (k : Nat) : Value := .int .i64 (xs k)
theorem snocv (xs : Nat → Int) (n : Nat) : (List.range n).map (iv xs) ++ [.int .i64 (xs n)] = (List.range (n + 1)).map (iv xs) := by
  rw [List.range_succ, List.map_append]; rfl
theorem rowMono {u w : World} {a : Option Addr} {n : Nat} {xs : Nat → Int} (R : Row u a n xs) (hb : Below u.heap.size u w) : Row w a n xs := by
  obtain ⟨b, m, h1, h2⟩ := R
  exact ⟨b, m, h1, fun k hk => (hb.cell (p := ⟨b, m + k, none⟩) (lt_of_cell (h2 k hk))).trans (h2 k hk)⟩
theorem bthen' {a b c : World} (h : Below a.heap.size a b) (k : Below b.heap.size b c) : Below a.heap.size a c := h.trans (k.mono h.size)
theorem bthen {B : Nat} {a b c : World} (h : Below B a b) (k : Below b.heap.size b c) (hB : B ≤ b.heap.size) : Below B a c := h.trans (k.mono hB)
theorem news1 {W : World} {b : Nat} {v : Value} (h : W.cell? ⟨b, 0, none⟩ = some v) : ∀ j u, [v][j]? = some u → W.cell? ((⟨b, 0, none⟩ : Addr).add j) = some u := fun j u hj => by
  match j, hj with
  | 0, hj =>
    simp at hj
    subst hj
    rw [Addr.add_mid]
    exact h
  | j + 1, hj => simp at hj
theorem one1 (x : Int) : ∀ u ∈ [Value.int .i64 x], u.oneCell' = true := fun u hu => by
  simp at hu
  rw [hu]
  rfl
/-- Two rows that lie in different blocks. -/
def Apart (u v : Value) : Prop := ∀ b, u.ownBlock = some b → v.ownBlock ≠ some b
theorem Apart.symm {u v : Value} (h : Apart u v) : Apart v u := fun b h1 h2 => h b h2 h1
theorem push {W wA w2 : World} {u v : Value} {n e e' : Nat} {xs ys : Nat → Int} {m g cap : Nat} (hU : W.ownsRow w2.heap.size e 1 u n ((List.range n).map (iv xs))) (hV : W.ownsRow w2.heap.size e' 1 v m ((List.range m).map (iv ys))) (ha : Apart u v) (hB : Below w2.heap.size w2 W)
    (h : wA.ownsRow w2.heap.size e 1 (.slice (some ⟨g, 0, none⟩) (n + 1) cap) (n + 1) ((List.range n).map (iv xs) ++ [.int .i64 (xs n)])) (hg : W.grownBy wA u.ownBlock) (hat : u.ownBlock = some g ∨ g = W.heap.size) (hs : w2.heap.size ≤ W.heap.size) :
    wA.ownsRow w2.heap.size e 1 (.slice (some ⟨g, 0, none⟩) (n + 1) cap) (n + 1) ((List.range (n + 1)).map (iv xs)) ∧ wA.ownsRow w2.heap.size e' 1 v m ((List.range m).map (iv ys)) ∧ Apart (.slice (some ⟨g, 0, none⟩) (n + 1) cap) v ∧ Below w2.heap.size w2 wA := by
  refine ⟨by rw [← snocv]; exact h, hV.kept hg ?_, fun b h1 h2 => ?_, hB.grown hg hs (fun k hk => (hU.lt k hk).1)⟩
  · cases hb : v.ownBlock with
    | none => exact .inl rfl
    | some b => exact .inr fun h2 => ha b h2.symm hb
  · have e1 : g = b := Option.some.inj h1
    subst e1
    rcases hat with h3 | h3
    · exact ha g h3 h2
    · have := (hV.lt g h2).2
      omega
theorem own_rowL {w : World} {base e n : Nat} {v : Value} {xs : Nat → Int} (h : w.ownsRow base e 1 v n ((List.range n).map (iv xs))) : ∃ a c, v = .slice a n c ∧ Row w a n xs := by
  obtain ⟨_, ⟨hv, rfl⟩ | ⟨g, cap, cur, hv, hg, hh, hn, hm, hs, ht⟩⟩ := h
  · exact ⟨none, 0, hv, 0, 0, fun h => absurd h (Nat.lt_irrefl _), fun i hi => absurd hi (Nat.not_lt_zero _)⟩
  · refine ⟨_, cap, hv, g, 0, fun _ => rfl, fun i hi => ?_⟩
    have h2 := congrArg (fun l => l[i]?) ht
    simp only [Nat.mul_one, List.getElem?_take, List.getElem?_map, List.getElem?_range hi, Option.map_some, if_pos hi] at h2
    rw [Nat.zero_add, cell_of_row w g i cur e (0, 0) hh]
    simpa [iv] using h2

set_option maxRecDepth 100000 in
set_option maxHeartbeats 8000000 in
theorem order5 (x0 x1 x2 y0 y1 y2 : Int) (w : World) (hx : (0 ≤ x0 ∧ x0 ≤ 65535) ∧ (0 ≤ x1 ∧ x1 ≤ 65535) ∧ (0 ≤ x2 ∧ x2 ≤ 65535)) (hy : (0 ≤ y0 ∧ y0 ≤ 4294967295) ∧ (0 ≤ y1 ∧ y1 ≤ 4294967295) ∧ (0 ≤ y2 ∧ y2 ≤ 4294967295)) :
    Calls Try.prog 5 #[.agg #[.int .u16 x0, .int .u16 x1, .int .u16 x2], .agg #[.int .u32 y0, .int .u32 y1, .int .u32 y2]] w fun e w' => e = .returned (.bool true) ∧ Below w.heap.size w w' := by
  obtain ⟨i0, hi, hz0, hz1, hz2⟩ := info_split intInfo
  obtain ⟨iM, hj, hy0, hy1, hy2⟩ := info_split meanInfo
  have HI := Lib.hid hi
  have HZ0 := Lib.hid hz0
  have HZ1 := Lib.hid hz1
  have HZ2 := Lib.hid hz2
  have HJ := Lib.hid hj
  have HY0 := Lib.hid hy0
  have HY1 := Lib.hid hy1
  have HY2 := Lib.hid hy2
  clear hi hz0 hz1 hz2 hj hy0 hy1 hy2
  obtain ⟨rs, hrs⟩ : ∃ rs : Nat → Int, rs = fun k => if k = 0 then x0 else if k = 1 then x1 else x2 := ⟨_, rfl⟩
  obtain ⟨ys, hys⟩ : ∃ ys : Nat → Int, ys = fun k => if k = 0 then y0 else if k = 1 then y1 else y2 := ⟨_, rfl⟩
  have hrb : ∀ k, 0 ≤ rs k ∧ rs k ≤ 65535 := fun k => by rw [hrs]; dsimp only; split <;> (try split) <;> omega
  have hyb : ∀ k, 0 ≤ ys k ∧ ys k ≤ 4294967295 := fun k => by rw [hys]; dsimp only; split <;> (try split) <;> omega
  have hB2 : Below w.heap.size w ((w.alloc (.cells #[.int .u16 x0, .int .u16 x1, .int .u16 x2] 35)).alloc (.cells #[.int .u32 y0, .int .u32 y1, .int .u32 y2] 36)) := ((Below.refl _ _).alloc (Nat.le_refl _) _).alloc (by simp) _
  have hcx : ∀ k, k < 3 → ((w.alloc (.cells #[.int .u16 x0, .int .u16 x1, .int .u16 x2] 35)).alloc (.cells #[.int .u32 y0, .int .u32 y1, .int .u32 y2] 36)).cell? ⟨w.heap.size, k, none⟩ = some (.int .u16 (rs k)) := fun k hk => by
    rw [hrs]
    match k, hk with
    | 0, _ => simp [go_sem]
    | 1, _ => simp [go_sem]
    | 2, _ => simp [go_sem]
  have hcy : ∀ k, k < 3 → ((w.alloc (.cells #[.int .u16 x0, .int .u16 x1, .int .u16 x2] 35)).alloc (.cells #[.int .u32 y0, .int .u32 y1, .int .u32 y2] 36)).cell? ⟨w.heap.size + 1, k, none⟩ = some (.int .u32 (ys k)) := fun k hk => by
    rw [hys]
    match k, hk with
    | 0, _ => simp [go_sem]
    | 1, _ => simp [go_sem]
    | 2, _ => simp [go_sem]
  have hsz : ((w.alloc (.cells #[.int .u16 x0, .int .u16 x1, .int .u16 x2] 35)).alloc (.cells #[.int .u32 y0, .int .u32 y1, .int .u32 y2] 36)).heap.size = w.heap.size + 2 := by simp
  have HB2 := Lib.hid hB2
  have HCX := Lib.hid hcx
  have HCY := Lib.hid hcy
  clear hB2 hcx hcy hrs hys
  obtain ⟨ms, hms⟩ : ∃ ms : Nat → Int, ms = fun k => ys k % 67108864 := ⟨_, rfl⟩
  go_enter Try.func5, Try.ntmps5
  go_upto_region 3 with fail
  generalize (w.alloc (.cells #[.int .u16 x0, .int .u16 x1, .int .u16 x2] 35)).alloc (.cells #[.int .u32 y0, .int .u32 y1, .int .u32 y2] 36) = w2 at *
  go_wp2_with fail
  go_loopw [5, 6, 7] (fun s5 s6 s7 wr => ∃ i : Nat, s7 = .int .i64 i ∧ i ≤ 3 ∧ wr.ownsRow w2.heap.size 3 1 s5 i ((List.range i).map (iv rs)) ∧ wr.ownsRow w2.heap.size 23 1 s6 i ((List.range i).map (iv ms)) ∧ Apart s5 s6 ∧ Below w2.heap.size w2 wr) (fun _ _ s7 _ => 3 - (intOf s7).toNat)
  case atStart => exact ⟨0, rfl, by omega, World.ownsRow_nil _ _ _ _, World.ownsRow_nil _ _ _ _, fun b h => (by cases h), Below.refl _ _⟩
  case round =>
    obtain ⟨i, rfl, hi, hU, hV, hA, hb⟩ := hrel
    have HU := Lib.hid hU
    have HV := Lib.hid hV
    have HA := Lib.hid hA
    have HB := Lib.hid hb
    have hsr := hb.size
    by_cases hlt : i < 3
    · have cx := (hb.cell (p := ⟨w.heap.size, i, none⟩) (by show w.heap.size < _; omega)).trans (HCX.out i hlt)
      have cy := (hb.cell (p := ⟨w.heap.size + 1, i, none⟩) (by show w.heap.size + 1 < _; omega)).trans (HCY.out i hlt)
      have bx := hrb i
      have by' := hyb i
      have hmi : ms i = ys i % 67108864 := by rw [hms]
      have i1 : (0 : Int) ≤ (i : Int) := by omega
      have i2 : (i : Int) < 3 := by omega
      have HMI := Lib.hid hmi
      have ew1 : IntKind.i64.wrap (rs i) = rs i := IntWalk.i64_in _ (by omega)
      have htm : (ys i).tmod 67108864 = ys i % 67108864 := Int.tmod_eq_emod_of_nonneg by'.1
      have ew2 : IntKind.i64.wrap (ys i % 67108864) = ys i % 67108864 := IntWalk.i64_in _ (by omega)
      clear hU hV hA hb hmi
      go_upto_region 6 with fail
      go_region_held3 (fun w' => w'.cell? ⟨w.heap.size, i, none⟩ = some (.int .u16 (rs i)) ∧ w'.cell? ⟨w.heap.size + 1, i, none⟩ = some (.int .u32 (ys i)))
        (first | (go_keep; done) | exact ⟨(q4.cell (p := ⟨w.heap.size, i, none⟩) (by show w.heap.size < _; omega)).trans (HCX.out i hlt), (q4.cell (p := ⟨w.heap.size + 1, i, none⟩) (by show w.heap.size + 1 < _; omega)).trans (HCY.out i hlt)⟩ | exact ⟨(p4.cell (p := ⟨w.heap.size, i, none⟩) (by show w.heap.size < _; omega)).trans (HCX.out i hlt), (p4.cell (p := ⟨w.heap.size + 1, i, none⟩) (by show w.heap.size + 1 < _; omega)).trans (HCY.out i hlt)⟩)
        ((first
          | (refine step_append_lies _ (by rfl) _ _ _ (by rfl) w2.heap.size 3 i0 (.int .i64 0) 1 8 Try.underlying24 HI.out HZ0.out HZ1.out HZ2.out rfl (by omega) u5 i ((List.range i).map (iv rs)) (by rfl) (by first | exact HU.out.alloc _ | exact (HU.out.alloc _).alloc _) ⟨wr.heap.size, 0, none⟩ 1 1 [.int .i64 (rs i)] (by rfl) rfl (news1 (by simp [go_sem])) (one1 _) (by omega) (by unfold maxLen; omega) (by omega) (by simp; omega) _ (by rfl) ?_; intro gA capA wA hownA hgrowA hatA hltA; obtain ⟨p1, p2, p3, p4⟩ := push (by first | exact HU.out.alloc _ | exact (HU.out.alloc _).alloc _ | exact (HU.out.alloc _).drew | exact ((HU.out.alloc _).alloc _).drew) (by first | exact HV.out.alloc _ | exact (HV.out.alloc _).alloc _ | exact (HV.out.alloc _).drew | exact ((HV.out.alloc _).alloc _).drew | exact HV.out.alloc _ | exact (HV.out.alloc _).alloc _) HA.out (by first | exact (HB.out.alloc hsr _).drew | exact ((HB.out.alloc hsr _).alloc (by simp; omega) _).drew | exact (HB.out.alloc hsr _) | exact (HB.out.alloc hsr _).alloc (by simp; omega) _) hownA hgrowA hatA (by simp; omega); have s4 := p4.size; (first | (have nM : wA.cell? ⟨wr.heap.size, 0, none⟩ = some (.int .i64 (ys i % 67108864)) := by rw [hgrowA.cell_far _ (by simp <;> omega) (fun e => by have h := (HU.out.lt _ e.symm).2; simp at h)]; simp [go_sem]) | (have nM : wA.cell? ⟨wr.heap.size + 1, 0, none⟩ = some (.int .i64 (ys i % 67108864)) := by rw [hgrowA.cell_far _ (by simp <;> omega) (fun e => by have h := (HU.out.lt _ e.symm).2; simp at h; omega)]; simp [go_sem]) | skip))
          | (refine step_append_lies _ (by rfl) _ _ _ (by rfl) w2.heap.size 3 i0 (.int .i64 0) 1 8 Try.underlying24 HI.out HZ0.out HZ1.out HZ2.out rfl (by omega) u5 i ((List.range i).map (iv rs)) (by rfl) (by first | exact HU.out.alloc _ | exact (HU.out.alloc _).alloc _) ⟨wr.heap.size + 1, 0, none⟩ 1 1 [.int .i64 (rs i)] (by rfl) rfl (news1 (by simp [go_sem])) (one1 _) (by omega) (by unfold maxLen; omega) (by omega) (by simp; omega) _ (by rfl) ?_; intro gA capA wA hownA hgrowA hatA hltA; obtain ⟨p1, p2, p3, p4⟩ := push (by first | exact HU.out.alloc _ | exact (HU.out.alloc _).alloc _ | exact (HU.out.alloc _).drew | exact ((HU.out.alloc _).alloc _).drew) (by first | exact HV.out.alloc _ | exact (HV.out.alloc _).alloc _ | exact (HV.out.alloc _).drew | exact ((HV.out.alloc _).alloc _).drew | exact HV.out.alloc _ | exact (HV.out.alloc _).alloc _) HA.out (by first | exact (HB.out.alloc hsr _).drew | exact ((HB.out.alloc hsr _).alloc (by simp; omega) _).drew | exact (HB.out.alloc hsr _) | exact (HB.out.alloc hsr _).alloc (by simp; omega) _) hownA hgrowA hatA (by simp; omega); have s4 := p4.size; (first | (have nM : wA.cell? ⟨wr.heap.size, 0, none⟩ = some (.int .i64 (ys i % 67108864)) := by rw [hgrowA.cell_far _ (by simp <;> omega) (fun e => by have h := (HU.out.lt _ e.symm).2; simp at h)]; simp [go_sem]) | (have nM : wA.cell? ⟨wr.heap.size + 1, 0, none⟩ = some (.int .i64 (ys i % 67108864)) := by rw [hgrowA.cell_far _ (by simp <;> omega) (fun e => by have h := (HU.out.lt _ e.symm).2; simp at h; omega)]; simp [go_sem]) | skip))
          | (refine step_append_lies _ (by rfl) _ _ _ (by rfl) w2.heap.size 23 iM (.agg #[.int .i64 0]) 1 8 Try.underlying25 HJ.out HY0.out HY1.out HY2.out rfl (by omega) u6 i ((List.range i).map (iv ms)) (by rfl) (by first | exact p2 | exact p2.alloc _) ⟨wA.heap.size, 0, none⟩ 1 1 [.int .i64 (ys i % 67108864)] (by rfl) rfl (news1 (by first | exact nM | simp [go_sem])) (one1 _) (by omega) (by unfold maxLen; omega) (by omega) (by first | exact s4 | (simp; omega)) _ (by rfl) ?_; intro gB capB wB hownB hgrowB hatB hltB; rw [← HMI.out] at hownB; obtain ⟨q1, q2, q3, q4⟩ := push (by first | exact p2 | exact p2.alloc _ | exact p2.drew | exact (p2.alloc _).drew) (by first | exact p1.drew | exact (p1.alloc _).drew | exact p1 | exact p1.alloc _) p3.symm (by first | exact p4 | exact p4.alloc s4 _ | exact p4.drew | exact (p4.alloc s4 _).drew) hownB hgrowB hatB (by first | exact s4 | (simp; omega)))
          | (refine step_append_lies _ (by rfl) _ _ _ (by rfl) w2.heap.size 23 iM (.agg #[.int .i64 0]) 1 8 Try.underlying25 HJ.out HY0.out HY1.out HY2.out rfl (by omega) u6 i ((List.range i).map (iv ms)) (by rfl) (by first | exact p2 | exact p2.alloc _) ⟨wr.heap.size, 0, none⟩ 1 1 [.int .i64 (ys i % 67108864)] (by rfl) rfl (news1 (by first | exact nM | simp [go_sem])) (one1 _) (by omega) (by unfold maxLen; omega) (by omega) (by first | exact s4 | (simp; omega)) _ (by rfl) ?_; intro gB capB wB hownB hgrowB hatB hltB; rw [← HMI.out] at hownB; obtain ⟨q1, q2, q3, q4⟩ := push (by first | exact p2 | exact p2.alloc _ | exact p2.drew | exact (p2.alloc _).drew) (by first | exact p1.drew | exact (p1.alloc _).drew | exact p1 | exact p1.alloc _) p3.symm (by first | exact p4 | exact p4.alloc s4 _ | exact p4.drew | exact (p4.alloc s4 _).drew) hownB hgrowB hatB (by first | exact s4 | (simp; omega)))
          | (refine step_append_lies _ (by rfl) _ _ _ (by rfl) w2.heap.size 23 iM (.agg #[.int .i64 0]) 1 8 Try.underlying25 HJ.out HY0.out HY1.out HY2.out rfl (by omega) u6 i ((List.range i).map (iv ms)) (by rfl) (by first | exact p2 | exact p2.alloc _) ⟨wr.heap.size + 1, 0, none⟩ 1 1 [.int .i64 (ys i % 67108864)] (by rfl) rfl (news1 (by first | exact nM | simp [go_sem])) (one1 _) (by omega) (by unfold maxLen; omega) (by omega) (by first | exact s4 | (simp; omega)) _ (by rfl) ?_; intro gB capB wB hownB hgrowB hatB hltB; rw [← HMI.out] at hownB; obtain ⟨q1, q2, q3, q4⟩ := push (by first | exact p2 | exact p2.alloc _ | exact p2.drew | exact (p2.alloc _).drew) (by first | exact p1.drew | exact (p1.alloc _).drew | exact p1 | exact p1.alloc _) p3.symm (by first | exact p4 | exact p4.alloc s4 _ | exact p4.drew | exact (p4.alloc s4 _).drew) hownB hgrowB hatB (by first | exact s4 | (simp; omega)))))
      all_goals clear cx cy
      all_goals go_wp2_with fail
      all_goals go_roundw
      all_goals first
        | exact ⟨i + 1, by go_num, by omega, q2, q1, q3.symm, q4⟩
        | (simp [intOf]; omega)
    · obtain rfl : i = 3 := by omega
      obtain ⟨ar, cr, rfl, R⟩ := own_rowL hU
      obtain ⟨am, cm, rfl, M⟩ := own_rowL hV
      have hwb := bthen' HB2.out (show Below w2.heap.size w2 wr from hb)
      have HW := Lib.hid hwb
      have HR := Lib.hid R
      have HM := Lib.hid M
      have hs0 := hwb.size
      have K00 := Lib.hid fun (W : World) (h : Below wr.heap.size wr W) => (show Calls Try.prog 14 #[.slice ar 3 cr, .slice am 3 cm, .int .i64 0, .int .i64 0] W fun e w' => e = .returned (.bool (prefer (rs 0) (ms 0) (rs 0) (ms 0))) ∧ Below W.heap.size W w' from prefer14 ar am cr cm rs ms 0 0 W (rowMono HR.out h) (rowMono HM.out h) (by omega) (by omega))
      have K01 := Lib.hid fun (W : World) (h : Below wr.heap.size wr W) => (show Calls Try.prog 14 #[.slice ar 3 cr, .slice am 3 cm, .int .i64 0, .int .i64 1] W fun e w' => e = .returned (.bool (prefer (rs 0) (ms 0) (rs 1) (ms 1))) ∧ Below W.heap.size W w' from prefer14 ar am cr cm rs ms 0 1 W (rowMono HR.out h) (rowMono HM.out h) (by omega) (by omega))
      have K10 := Lib.hid fun (W : World) (h : Below wr.heap.size wr W) => (show Calls Try.prog 14 #[.slice ar 3 cr, .slice am 3 cm, .int .i64 1, .int .i64 0] W fun e w' => e = .returned (.bool (prefer (rs 1) (ms 1) (rs 0) (ms 0))) ∧ Below W.heap.size W w' from prefer14 ar am cr cm rs ms 1 0 W (rowMono HR.out h) (rowMono HM.out h) (by omega) (by omega))
      have K12 := Lib.hid fun (W : World) (h : Below wr.heap.size wr W) => (show Calls Try.prog 14 #[.slice ar 3 cr, .slice am 3 cm, .int .i64 1, .int .i64 2] W fun e w' => e = .returned (.bool (prefer (rs 1) (ms 1) (rs 2) (ms 2))) ∧ Below W.heap.size W w' from prefer14 ar am cr cm rs ms 1 2 W (rowMono HR.out h) (rowMono HM.out h) (by omega) (by omega))
      have K02 := Lib.hid fun (W : World) (h : Below wr.heap.size wr W) => (show Calls Try.prog 14 #[.slice ar 3 cr, .slice am 3 cm, .int .i64 0, .int .i64 2] W fun e w' => e = .returned (.bool (prefer (rs 0) (ms 0) (rs 2) (ms 2))) ∧ Below W.heap.size W w' from prefer14 ar am cr cm rs ms 0 2 W (rowMono HR.out h) (rowMono HM.out h) (by omega) (by omega))
      rw [prefer_irrefl] at K00
      clear hU hV hA hb hwb HU HV HA HB R M
      go_upto_region 7 with fail
      go_cut [59] (fun s59 W1 => s59 = .bool false ∧ Below wr.heap.size wr W1)
      case first =>
        cases h01 : prefer (rs 0) (ms 0) (rs 1) (ms 1)
        · rw [h01] at K01
          clear h01
          go_wp2_with fail
          refine (K00.out wr (Below.refl _ _)).mono ?_
          rintro e W0 ⟨rfl, hb⟩
          have B0 := Lib.hid hb
          clear hb
          go_wp2_with fail
          refine (K01.out _ B0.out).mono ?_
          rintro e W1 ⟨rfl, hb⟩
          have B1 := Lib.hid (bthen B0.out hb (B0.out.size))
          clear hb
          go_wp2_with fail
          refine (K01.out _ B1.out).mono ?_
          rintro e W2 ⟨rfl, hb⟩
          have B2 := Lib.hid (bthen B1.out hb (B1.out.size))
          clear hb
          go_wp2_with fail
          go_meet
          exact ⟨rfl, B2.out⟩
        · rw [h01] at K01
          rw [prefer_asymm h01] at K10
          cases h12 : prefer (rs 1) (ms 1) (rs 2) (ms 2)
          · rw [h12] at K12
            clear h01 h12
            go_wp2_with fail
            refine (K00.out wr (Below.refl _ _)).mono ?_
            rintro e W0 ⟨rfl, hb⟩
            have B0 := Lib.hid hb
            clear hb
            go_wp2_with fail
            refine (K01.out _ B0.out).mono ?_
            rintro e W1 ⟨rfl, hb⟩
            have B1 := Lib.hid (bthen B0.out hb (B0.out.size))
            clear hb
            go_wp2_with fail
            refine (K10.out _ B1.out).mono ?_
            rintro e W2 ⟨rfl, hb⟩
            have B2 := Lib.hid (bthen B1.out hb (B1.out.size))
            clear hb
            go_wp2_with fail
            refine (K01.out _ B2.out).mono ?_
            rintro e W3 ⟨rfl, hb⟩
            have B3 := Lib.hid (bthen B2.out hb (B2.out.size))
            clear hb
            go_wp2_with fail
            refine (K12.out _ B3.out).mono ?_
            rintro e W4 ⟨rfl, hb⟩
            have B4 := Lib.hid (bthen B3.out hb (B3.out.size))
            clear hb
            go_wp2_with fail
            go_meet
            exact ⟨rfl, B4.out⟩
          · rw [h12] at K12
            rw [prefer_trans h01 h12] at K02
            clear h01 h12
            go_wp2_with fail
            refine (K00.out wr (Below.refl _ _)).mono ?_
            rintro e W0 ⟨rfl, hb⟩
            have B0 := Lib.hid hb
            clear hb
            go_wp2_with fail
            refine (K01.out _ B0.out).mono ?_
            rintro e W1 ⟨rfl, hb⟩
            have B1 := Lib.hid (bthen B0.out hb (B0.out.size))
            clear hb
            go_wp2_with fail
            refine (K10.out _ B1.out).mono ?_
            rintro e W2 ⟨rfl, hb⟩
            have B2 := Lib.hid (bthen B1.out hb (B1.out.size))
            clear hb
            go_wp2_with fail
            refine (K01.out _ B2.out).mono ?_
            rintro e W3 ⟨rfl, hb⟩
            have B3 := Lib.hid (bthen B2.out hb (B2.out.size))
            clear hb
            go_wp2_with fail
            refine (K12.out _ B3.out).mono ?_
            rintro e W4 ⟨rfl, hb⟩
            have B4 := Lib.hid (bthen B3.out hb (B3.out.size))
            clear hb
            go_wp2_with fail
            refine (K02.out _ B4.out).mono ?_
            rintro e W5 ⟨rfl, hb⟩
            have B5 := Lib.hid (bthen B4.out hb (B4.out.size))
            clear hb
            go_wp2_with fail
            go_meet
            exact ⟨rfl, B5.out⟩
      case rest =>
        obtain ⟨h59, hb⟩ := hcut
        subst h59
        have HB1 := Lib.hid hb
        have hs1 := hb.size
        have KB := Lib.hid (best8 wc ar am 3 cr cm rs ms (by decide) (rowMono HR.out hb) (rowMono HM.out hb))
        have hsp := bestTo_spec rs ms 3
        have hlt3 := bestTo_lt rs ms 3
        unfold theBest at KB
        generalize hbt : bestTo rs ms 3 = bt at *
        have HSP := Lib.hid hsp
        have KP := Lib.hid fun (W : World) (h : Below wr.heap.size wr W) (i k : Nat) (hi : i < 3) (hk : k < 3) => prefer14 ar am cr cm rs ms i k W (rowMono HR.out h) (rowMono HM.out h) hi hk
        clear hb K00 K01 K10 K12 K02 hbt hsp
        go_wp2_with fail
        refine KB.out.mono ?_
        rintro e W2 ⟨rfl, hb⟩
        have HB2' := Lib.hid (bthen HB1.out hb hs1)
        have hs2 := HB2'.out.size
        clear hb KB HB1
        rcases Int.lt_or_le bt 0 with hbn | hbn
        · have hz : ∀ i, i < 3 → rs i = 0 := fun i hi => by
            have := hrb i
            rcases Int.lt_or_le 0 (rs i) with h | h
            · have := (HSP.out.1 i hi h).1; omega
            · omega
          obtain rfl : bt = -1 := by omega
          have hsum : decide (0 < rs 0 + rs 1 + rs 2) = false := decide_eq_false (by have := hz 0 (by omega); have := hz 1 (by omega); have := hz 2 (by omega); omega)
          go_wp2_with fail
          go_loopw [10] (fun s10 wx => ∃ i : Nat, s10 = .int .i64 i ∧ i ≤ 3 ∧ Below wr.heap.size wr wx) (fun s10 _ => 3 - (intOf s10).toNat)
          case atStart => exact ⟨0, rfl, by omega, HB2'.out⟩
          case round =>
            clear HB2'
            rename_i wr0 _ _ _ _
            obtain ⟨i, rfl, hi, hb⟩ := hrel
            have HBI := Lib.hid hb
            have hsi := hb.size
            obtain ⟨rb, ro, r1, r2⟩ := rowMono HR.out hb
            obtain rfl := r1 (by omega)
            by_cases hin : i < 3
            · have c0 := r2 i hin
              have i1 : (0 : Int) ≤ (i : Int) := by omega
              have i2 : (i : Int) < 3 := by omega
              have d1 : decide (0 < rs i) = false := decide_eq_false (by have := hz i hin; omega)
              clear hb r1 r2
              go_wp2_with fail
              go_roundw
              case rel => exact ⟨i + 1, by go_num, by omega, HBI.out⟩
              case measure => simp [intOf]; omega
            · have c0 := r2 0 (by omega)
              have c1 := r2 1 (by omega)
              have c2 := r2 2 (by omega)
              rw [Nat.add_zero] at c0
              have l0 := lt_of_cell c0
              have h0 := hrb 0
              have h1 := hrb 1
              have h2 := hrb 2
              have e1 : IntKind.i64.wrap (rs 0 + rs 1) = rs 0 + rs 1 := IntWalk.i64_in _ (by omega)
              have e2 : IntKind.i64.wrap (rs 0 + rs 1 + rs 2) = rs 0 + rs 1 + rs 2 := IntWalk.i64_in _ (by omega)
              clear hb r1 r2
              go_wp2_with fail
              refine wp_region_quiet_below (by kernel_rfl) (by kernel_rfl) ?_
              repeat (go_big_quiet_step (first | (go_at_call 7; exact Calls.regrown_of (awake7 _))))
              refine wpQuiet_nil ?_
              rintro _ ⟨p, rfl⟩
              have HE := Lib.hid (bthen HW.out (bthen HBI.out (below_regrown wr p.d p.os) hsi) hs0)
              go_wp2
              go_ret
              exact ⟨rfl, HE.out⟩
        · obtain ⟨t, rfl⟩ : ∃ t : Nat, bt = t := ⟨bt.toNat, by omega⟩
          have ht : t < 3 := by omega
          have hrt := (HSP.out.2 hbn).1
          rw [Int.toNat_natCast] at hrt
          have f1 : max (t : Int) 0 = t := by omega
          have f2 : decide ((0 : Int) ≤ (t : Int)) = true := decide_eq_true hbn
          rw [f1, f2]
          clear f1 f2
          have hsum : decide (0 < rs 0 + rs 1 + rs 2) = true := decide_eq_true (by have := hrb 0; have := hrb 1; have := hrb 2; match t, ht, hrt with | 0, _, h => omega | 1, _, h => omega | 2, _, h => omega)
          go_wp2_with fail
          go_loopw [10] (fun s10 wx => ∃ i : Nat, s10 = .int .i64 i ∧ i ≤ 3 ∧ Below wr.heap.size wr wx) (fun s10 _ => 3 - (intOf s10).toNat)
          case atStart => exact ⟨0, rfl, by omega, HB2'.out⟩
          case round =>
            clear HB2'
            rename_i wr0 _ _ _ _
            obtain ⟨i, rfl, hi, hb⟩ := hrel
            have HBI := Lib.hid hb
            have hsi := hb.size
            obtain ⟨rb, ro, r1, r2⟩ := rowMono HR.out hb
            obtain rfl := r1 (by omega)
            by_cases hin : i < 3
            · have c0 := r2 i hin
              have i1 : (0 : Int) ≤ (i : Int) := by omega
              have i2 : (i : Int) < 3 := by omega
              by_cases hr : 0 < rs i
              · have d1 : decide (0 < rs i) = true := decide_eq_true hr
                have hp := (HSP.out.1 i hin hr).2
                rw [Int.toNat_natCast] at hp
                have K := KP.out _ hb i t hin ht
                rw [hp] at K
                have HK := Lib.hid K
                clear hb r1 r2 hp K
                go_wp2_with fail
                refine HK.out.mono ?_
                rintro e W3 ⟨rfl, hb⟩
                have HB3 := Lib.hid (bthen HBI.out hb hsi)
                clear hb
                go_wp2_with fail
                go_roundw
                case rel => exact ⟨i + 1, by go_num, by omega, HB3.out⟩
                case measure => simp [intOf]; omega
              · have d1 : decide (0 < rs i) = false := decide_eq_false hr
                clear hb r1 r2
                go_wp2_with fail
                go_roundw
                case rel => exact ⟨i + 1, by go_num, by omega, HBI.out⟩
                case measure => simp [intOf]; omega
            · have c0 := r2 0 (by omega)
              have c1 := r2 1 (by omega)
              have c2 := r2 2 (by omega)
              rw [Nat.add_zero] at c0
              have l0 := lt_of_cell c0
              have h0 := hrb 0
              have h1 := hrb 1
              have h2 := hrb 2
              have e1 : IntKind.i64.wrap (rs 0 + rs 1) = rs 0 + rs 1 := IntWalk.i64_in _ (by omega)
              have e2 : IntKind.i64.wrap (rs 0 + rs 1 + rs 2) = rs 0 + rs 1 + rs 2 := IntWalk.i64_in _ (by omega)
              clear hb r1 r2
              go_wp2_with fail
              refine wp_region_quiet_below (by kernel_rfl) (by kernel_rfl) ?_
              repeat (go_big_quiet_step (first | (go_at_call 7; exact Calls.regrown_of (awake7 _))))
              refine wpQuiet_nil ?_
              rintro _ ⟨p, rfl⟩
              have HE := Lib.hid (bthen HW.out (bthen HBI.out (below_regrown wr p.d p.os) hsi) hs0)
              go_wp2
              go_ret
              exact ⟨rfl, HE.out⟩
end Go.Proofs.Ytkjadgjambphjaa
