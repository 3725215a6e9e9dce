/- Layer 45: a network that dice make is right. -/
import Derived.Test.YtgflfdnajchjaaaGreatDoorN1
namespace Go.Proofs.YtgflfdnajchjaaaGreatDoor
set_option linter.unusedVariables false
set_option linter.unusedSimpArgs false
open Tm
theorem firstE_zero {f : Nat → Int} : ∀ {n : Nat}, (∀ k, k < n → f k = 0) → firstE f n = 0
  | 0, _ => rfl
  | n + 1, h => by
    unfold firstE
    rw [firstE_zero fun k hk => h k (by omega), if_pos rfl]
    exact h n (by omega)
theorem anyB_none {p : Nat → Bool} : ∀ {n : Nat}, (∀ k, k < n → p k = false) → anyB p n = false
  | 0, _ => rfl
  | n + 1, h => by
    unfold anyB
    rw [anyB_none fun k hk => h k (by omega), h n (by omega)]
    rfl
theorem firstErr_zero {X : Nat → Ch.Fd} : ∀ {n : Nat}, (∀ k, k < n → Ch.errOf (X k) = 0) → Ch.firstErr X n = 0
  | 0, _ => rfl
  | n + 1, h => by
    unfold Ch.firstErr
    rw [firstErr_zero fun k hk => h k (by omega), if_pos rfl]
    exact h n (by omega)
theorem btw_of {n l h : Int} (h0 : l ≤ n) (h1 : n ≤ h) : Ch.btw n l h = true := decide_eq_true ⟨h0, h1⟩
theorem fd_right {tn m : Int} {x : Ch.Fd} (h : FdB' tn m x) (ht : tn ≤ 3) (hm : m ≤ 3) : Ch.errOf x = 0 := by
  obtain ⟨h1, h2, h3, h4, h5, h6, h7, h8, h9, h10⟩ := h
  unfold Ch.errOf
  rw [btw_of (n := x.t) h1 (by omega), btw_of (n := x.c) h3 (by omega), btw_of (n := x.f) h5 (by omega), btw_of (n := x.g) h7 (by omega), btw_of (n := x.n) h9 (by omega)]
  rfl
theorem be_right {mo : Int} {r : BeR} (hm : mo = 1 ∨ mo = 2) (S : SideB mo r) : beOf r = 0 := by
  have := S.mo; have := S.co; have := S.wi; have := S.bi; have := S.wa; have := S.b; have := S.e; have := S.p; have := S.v; have := S.q; have := S.t
  unfold beOf Be.beC
  have hl : Be.lkB r.b r.e r.p r.v r.q r.t = true := by
    unfold Be.lkB
    simp [Ch.btw]
    omega
  rw [if_neg (by omega), if_neg (by omega), hl]
  rfl
theorem te_right {m : Int} {t : Te} (H : TeB m t) (hm : m ≤ 3) : teC m t = 0 := by
  have h1 := H.cl; have h2 := H.cs; have h3 := H.bt; have h4 := H.fr; have h5 := H.wd; have h6 := H.bk; have h7 := H.ry; have h8 := H.z; have h9 := H.n; have h10 := H.e
  have e1 : Ch.btw t.cl 0 (m - 1) = true := btw_of h1.1 (by omega)
  have e2 : Ch.btw t.bn 1 2 = true := btw_of (by omega) (by omega)
  have e3 : firstE (fun k => beOf (t.be k)) t.bn = 0 := firstE_zero fun k hk => by
    obtain ⟨mo, hmo, S⟩ := H.bb.b k hk
    exact be_right hmo S
  unfold teC
  rw [e1, e2, e3, if_neg (by decide), if_neg (fun h => h.elim (fun h => by cases h) (fun h => h h10)), if_neg (by decide)]
  unfold teL
  rw [if_pos]
  refine ⟨?_, btw_of h2.1 (by omega), btw_of (by omega) (by omega), decide_eq_true (by omega), ?_⟩
  · unfold Pr.okB
    rw [anyB_none fun k hk => ?_]
    · simp
      omega
    · obtain ⟨k1, k2, k3, k4⟩ := H.bb.k k (by omega)
      unfold Pr.badB Pr.vb
      rw [Pr.btw_true.2 (show (0 : Int) ≤ t.P k ∧ t.P k ≤ 15 by omega), Pr.btw_true.2 (show (0 : Int) ≤ t.R k ∧ t.R k ≤ 1048576 by omega), Pr.btw_true.2 (show (0 : Int) ≤ t.M k ∧ t.M k ≤ 1048576 by omega), Pr.btw_true.2 (show (-1048576 : Int) ≤ t.T k ∧ t.T k ≤ t.M k by omega)]
      rfl
  · unfold Sl.check
    rw [if_neg, if_neg]
    · unfold Sl.bad2
      dsimp only
      omega
    · unfold Sl.bad1
      dsimp only
      omega
theorem netC_net {c : Cf} {X : Nat → Ch.Fd} {T : Nat → Te} {i : Nat} (H : CfB c X T i) (hi : 1 ≤ i ∧ i ≤ 3) : netC c X T = 0 := by
  have h := H.h
  have ht := H.tn
  have hf := H.fn
  have := h.b0; have := h.b1; have := h.b2; have := h.b3; have := h.b4; have := h.b5; have := h.b6; have := h.b7; have := h.b8; have := h.b9; have := h.b10; have := h.b11; have := h.b12; have := h.b13; have := h.b14; have := h.b15; have := h.b16; have := h.b17
  have e1 : Ch.btw (c.h 1) 1 3 = true := btw_of (by omega) (by omega)
  have e2 : Ch.btw c.tn 1 4 = true := btw_of (by omega) (by omega)
  have e3 : rngC c = true := by
    unfold rngC
    rw [btw_of (n := c.h 0) (by omega) (by omega), btw_of (n := c.h 2) (by omega) (by omega), btw_of (n := c.h 3) (by omega) (by omega), btw_of (n := c.h 4) (by omega) (by omega), btw_of (n := c.h 5) (by omega) (by omega)]
    rfl
  have e4 : subC c := by
    refine ⟨if_neg (by omega), ?_, ?_, by omega, btw_of (by omega) (by omega), btw_of (by omega) (by omega)⟩
    · unfold Ho.chkP Ho.goodP
      rw [Ho.good_yes (by omega), Ho.good_yes (by omega), Ho.good_yes (by omega)]
      rfl
    · unfold Me.rok
      simp
      omega
  have e5 : Ch.chk c.fn X = 0 := by
    unfold Ch.chk
    rw [if_neg (by omega)]
    exact firstErr_zero fun k hk => fd_right (H.f k hk) (by omega) (by omega)
  have e6 : firstE (fun k => teC (c.h 1) (T k)) c.tn = 0 := firstE_zero fun k hk => te_right (H.t k hk) (by omega)
  unfold netC
  rw [e1, e2, e3, e5, e6, if_neg (by decide), if_neg (by decide), if_neg (by decide), if_neg (fun h => h e4), if_neg (by decide)]
theorem trafC_net {c : Cf} {n : Nat} {Q : Nat → Tr} {tk : Int} (hn : n ≤ 20) (htk : tk ≤ 100) (hc : c.tn ≤ 3) (HQ : ∀ k, k < n → TrB tk c.tn (Q k)) : trafC n (fun k => trS (Q k)) = 0 := by
  unfold trafC
  rw [if_neg (by omega)]
  refine firstE_zero fun k hk => ?_
  obtain ⟨q1, q2, q3, q4, q5, q6, q7, q8, q9, q10⟩ := HQ k hk
  unfold pktC trS
  dsimp only
  rw [if_neg (by omega), if_pos ⟨btw_of (by show _ ≤ (Q k).a; omega) (by show (Q k).a ≤ _; omega), btw_of (by show _ ≤ (Q k).t; omega) (by show (Q k).t ≤ _; omega), btw_of (by show _ ≤ (Q k).b; omega) (by show (Q k).b ≤ _; omega), btw_of (by show _ ≤ (Q k).d; omega) (by show (Q k).d ≤ _; omega)⟩]
/-- The check finds nothing. -/
theorem chk_net {c : Cf} {X : Nat → Ch.Fd} {T : Nat → Te} {i n : Nat} {Q : Nat → Tr} {tk : Int} (H : CfB c X T i) (hi : 1 ≤ i ∧ i ≤ 3) (hn : n ≤ 20) (htk : tk ≤ 100) (HQ : ∀ k, k < n → TrB tk c.tn (Q k)) : chkD (docOf c X T n Q) = 0 := by
  rw [← chkM_doc c X T n Q H.h.b15 (fun k hk => (H.t k hk).e)]
  unfold chkM
  rw [netC_net H hi, if_neg (fun h => h rfl)]
  exact trafC_net hn htk (by have := H.tn; omega) HQ
end Go.Proofs.YtgflfdnajchjaaaGreatDoor
