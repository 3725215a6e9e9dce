/- Layer 45: a packet is built; the packet with a number. -/
import Derived.Test.YtgflfdnajchjaaaGreatDoorMB1
namespace Go.Proofs.YtgflfdnajchjaaaGreatDoor
set_option linter.unusedVariables false
set_option linter.unusedSimpArgs false
open Go.RowKit Go.Sort
attribute [local go_sem] gcell
theorem ByR.gl {w : World} {B n g c : Nat} (h : ByR w B (.slice (some ⟨g, 0, none⟩) n c) n) : g < w.heap.size := (h.lt g rfl).2
theorem ByR.cells {w : World} {B n g c : Nat} (h : ByR w B (.slice (some ⟨g, 0, none⟩) n c) n) : ∀ k, k < n → ∃ c : UInt8, w.cell? ⟨g, 0 + k, none⟩ = some (.int .u8 (c.toNat : Int)) := fun k hk => by
  obtain ⟨a, c', e, hc, hp⟩ := h.slice
  injection e with e1 e2 e3
  subst e1 e3
  obtain ⟨g', e, hB, hg, hfr, hcell⟩ := hp (by omega)
  injection e with e; injection e with e; subst e
  rw [Nat.zero_add]
  exact hcell k hk
theorem below_own {B g : Nat} {w u u' : World} (hb : Below B w u) (hw : B ≤ w.heap.size) (hg : u.grownBy u' (some g)) (hB : B ≤ g) : Below B w u' :=
  hb.grown hg (Nat.le_trans hw hb.size) fun k hk => by
    injection hk with hk
    omega
theorem cells_up {w w' : World} {g m C : Nat} (hb : Below C w w') (hg : g < C) (h : ∀ k, k < m → ∃ c : UInt8, w.cell? ⟨g, 0 + k, none⟩ = some (.int .u8 (c.toNat : Int))) : ∀ k, k < m → ∃ c : UInt8, w'.cell? ⟨g, 0 + k, none⟩ = some (.int .u8 (c.toNat : Int)) := fun k hk => by
  obtain ⟨c, hc⟩ := h k hk
  exact ⟨c, by rw [hb.cell (p := ⟨g, 0 + k, none⟩) hg]; exact hc⟩
set_option maxRecDepth 100000 in
set_option maxHeartbeats 4000000 in
theorem build49 (h : Hd) (H : HdOk h) (w : World) (C m q c : Nat) (A : ByR w C (.slice (some ⟨q, 0, none⟩) m c) m) (hm : m ≤ 1000) : Calls Tryz.prog 49 #[hdv h, .slice (some ⟨q, 0, none⟩) m c] w fun e w' => ∃ v n, e = .returned (.tuple #[v, .int .i64 0]) ∧ 28 ≤ n ∧ n ≤ 1040 ∧ ByR w' w.heap.size v n ∧ Below w.heap.size w w' := by
  have K71 := Lib.hid (fun W => (valid71 h H W))
  have K72 := Lib.hid (fun W => (head72 h H W))
  have HB := Lib.hid ((Below.refl w.heap.size w).alloc (Nat.le_refl _) (.cells (hdc h).toArray 121))
  have HZ := Lib.hid (bx_range (bx_new w (hdc h).toArray 121) rfl)
  have hz : w.heap.size < (w.alloc (.cells (hdc h).toArray 121)).heap.size := by simp
  have HA := Lib.hid (A.cells)
  have hql := A.gl
  clear H A
  have hv : hdv h = .agg (hdc h).toArray := rfl
  rw [hv] at *
  clear hv
  go_enter Tryz.func49, Tryz.ntmps49
  go_upto_region 1 with fail
  generalize hw1 : w.alloc (.cells (hdc h).toArray 121) = w1 at *
  clear hw1
  go_upto_region 3 with (first | (refine wpList_load_mid rfl 121 (.tmp 2) rfl w.heap.size 0 rfl (hdc h) _ HZ.out Tryz.underlying121 rfl (by kernel_rfl) ?_) | (go_at_call 71; refine (K71.out _).mono ?_; rintro e w2 ⟨rfl, hb2⟩; refine Hid.out ?_))
  refine Lib.hid ?_
  go_upto_region 3 with fail
  have HZ2 := Lib.hid (show w2.rangeAt w.heap.size 0 (hdc h) from fun j v hv => up hb2 (HZ.out j v hv))
  go_upto_region 4 with (first | (refine wpList_load_mid rfl 121 (.tmp 2) rfl w.heap.size 0 rfl (hdc h) _ HZ2.out Tryz.underlying121 rfl (by kernel_rfl) ?_) | (go_at_call 72; refine (K72.out _).mono ?_; rintro e w3 ⟨v1, rfl, ⟨n, hn1, hn2, hv1⟩, hb3⟩; refine Hid.out ?_))
  refine Lib.hid ?_
  have HU := Lib.hid hv1
  have HB3 := Lib.hid (HB.out.trans ((hb2.trans (hb3.mono hb2.size)).mono (Nat.le_of_lt hz)))
  have HA3 := Lib.hid (cells_up HB3.out hql HA.out)
  have hB2 : w2.heap.size + 1 ≤ w3.heap.size := by
    obtain ⟨a, c', e, -, hp⟩ := hv1.slice
    obtain ⟨g', -, h1, h2, -⟩ := hp (by omega)
    omega
  have hw12 : w1.heap.size ≤ w2.heap.size := hb2.size
  clear hv1 hb2 hb3 HB HZ HZ2 K71 K72
  go_upto_region 4 with (at_builtin; refine wpList_append_by w3 (w2.heap.size + 1) rfl (.tmp 11) (.tmp 12) rfl v1 n rfl HU.out q 0 m c rfl HA3.out (by omega) hB2 ?_; intro v5 w5 h5 hg5 hv5)
  replace HB3 := Lib.hid (HB3.out.grown hg5 (by omega) (fun k hk => by have := (HU.out.lt k hk).1; omega))
  replace HU := Lib.hid (h5.base (C := w.heap.size + 1) (by omega))
  clear h5 hg5 hv5 HA HA3 hB2 hw12
  obtain ⟨N, hN⟩ : ∃ N, N = n + m := ⟨_, rfl⟩
  rw [← hN] at HU
  have hN1 : 28 ≤ N := by omega
  have hN2 : N ≤ 1040 := by omega
  clear hN hn1 hn2
  obtain ⟨a5, c5, e5, hc5, hp5⟩ := HU.out.slice
  obtain ⟨g5, rfl, hg5, -⟩ := hp5 (by omega)
  subst e5
  clear hp5
  go_upto_region 6 with fail
  have HS1 := Lib.hid (set73 w5 (w.heap.size + 1) N c5 g5 2 N (by omega) (by omega) (by omega) HU.out)
  go_upto_region 7 with (go_at_call 73; refine HS1.out.mono ?_; rintro e w6 ⟨rfl, hv6, hg6⟩; refine Hid.out ?_)
  refine Lib.hid ?_
  replace HB3 := Lib.hid (below_own HB3.out (Nat.le_refl _) hg6 (by omega))
  replace HU := Lib.hid hv6
  clear hv6 hg6 HS1
  go_upto_region 7 with fail
  have HS1 := Lib.hid (set73 w6 (w.heap.size + 1) N c5 g5 24 ((N : Int) - 20) (by omega) (by omega) (by omega) HU.out)
  go_upto_region 8 with (go_at_call 73; refine HS1.out.mono ?_; rintro e w7 ⟨rfl, hv7, hg7⟩; refine Hid.out ?_)
  refine Lib.hid ?_
  replace HB3 := Lib.hid (below_own HB3.out (Nat.le_refl _) hg7 (by omega))
  replace HU := Lib.hid hv7
  clear hv7 hg7 HS1
  go_upto_region 8 with fail
  have HS2 := Lib.hid (sum74 20 g5 c5 (by omega) w7 (fun k hk => by have := HU.out.cells k (by omega); rwa [Nat.zero_add] at this))
  have HS1 := Lib.hid (fun x hx => set73 w7 (w.heap.size + 1) N c5 g5 10 x hx (by omega) (by omega) HU.out)
  go_wp2_with (first | (go_at_call 74; refine HS2.out.mono ?_; rintro e w' ⟨⟨y, rfl, h0, h1⟩, rfl⟩) | (go_at_call 73; refine (HS1.out _ (by omega)).mono ?_; rintro e w8 ⟨rfl, hv8, hg8⟩))
  go_ret2
  exact ⟨_, N, rfl, by omega, by omega, hv8.base (by omega), below_own HB3.out (Nat.le_refl _) hg8 (by omega)⟩
end Go.Proofs.YtgflfdnajchjaaaGreatDoor
