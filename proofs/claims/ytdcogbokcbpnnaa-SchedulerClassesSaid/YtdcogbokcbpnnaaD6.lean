/- Layer 34: retransmissions. -/
import Derived.Test.YtdcogbokcbpnnaaD5
namespace Go.Proofs.Ytdcogbokcbpnnaa
set_option linter.unusedVariables false
set_option linter.unusedSimpArgs false
open Go.RowKit Go.Sort
attribute [local go_sem] gcell
def clOf (L : Nat → Dm) (i : Nat) : Int := (L i).cl
def againF (R : Nat) (L : Nat → Dm) (s : St) (i : Nat) : St := if 0 < (L i).ag ∧ (L i).ag ≤ s.left then giveS R s i (L i).ag.toNat else s
/-- Retransmissions. -/
def againS (R : Nat) (L : Nat → Dm) (n : Nat) (s : St) : St := (ordP (clOf L) n 16).foldl (againF R L) s
theorem againF_inv {R n : Nat} {L : Nat → Dm} {s : St} (I : Inv R n s) (i : Nat) : Inv R n (againF R L s i) := by
  unfold againF
  split
  · exact I.give (by omega)
  · exact I
theorem foldl_inv {R n : Nat} {L : Nat → Dm} : ∀ (l : List Nat) {s : St}, Inv R n s → Inv R n (l.foldl (againF R L) s)
  | [], _, I => I
  | i :: l, _, I => foldl_inv l (againF_inv I i)
theorem againF_keep {R : Nat} {L : Nat → Dm} {s : St} {i j : Nat} (h : (L j).ag ≤ 0) : (againF R L s i).hs j = s.hs j := by
  unfold againF
  split
  · show putI s.hs i _ j = _
    unfold putI
    rw [if_neg]
    intro e
    subst e
    omega
  · rfl
theorem foldl_keep {R : Nat} {L : Nat → Dm} {j : Nat} (h : (L j).ag ≤ 0) : ∀ (l : List Nat) (s : St), (l.foldl (againF R L) s).hs j = s.hs j
  | [], _ => rfl
  | i :: l, s => (foldl_keep h l _).trans (againF_keep h)
theorem take_step {l : List Nat} {k : Nat} {R : Nat} {L : Nat → Dm} {s : St} (hk : k < l.length) : (l.take (k + 1)).foldl (againF R L) s = againF R L ((l.take k).foldl (againF R L) s) (l.getD k 0) := by
  rw [List.take_add_one, List.foldl_append]
  have : l[k]?.toList = [l.getD k 0] := by simp [List.getD, hk]
  rw [this]
  rfl
set_option maxRecDepth 100000 in
set_option maxHeartbeats 4000000 in
theorem again35 {w0 w : World} {T O H : Nat} {la : Option Addr} {n lc R : Nat} {L : Nat → Dm} {s : St} (X : Tb w0 w T O H la n lc R L s) (b : Nat) (hb : w.cell? ⟨b, 0, none⟩ = some (.pointer (some ⟨T, 0, none⟩))) (i j : Nat) (hi : i < n) (hj : j < n) (hn : n ≤ 4) :
    Calls Try.prog 35 #[.int .i64 i, .int .i64 j, .pointer (some ⟨b, 0, none⟩)] w fun e w' => e = .returned (.int .i64 (cmpI (clOf L i) (clOf L j))) ∧ ∃ m, w' = w.drewN m := by
  obtain ⟨t0, t1, t2, t3⟩ := X.cells
  obtain ⟨bb, m, h1, h2⟩ := X.row
  obtain rfl := h1 (by omega)
  obtain ⟨-, -, -, -, -, -, c6⟩ := h2 i hi
  obtain ⟨-, -, -, -, -, -, d6⟩ := h2 j hj
  have i1 : (0 : Int) ≤ (i : Int) := by omega
  have i2 : (i : Int) < (n : Int) := by omega
  have j1 : (0 : Int) ≤ (j : Int) := by omega
  have j2 : (j : Int) < (n : Int) := by omega
  have e1 : clOf L i = (L i).cl := rfl
  have e2 : clOf L j = (L j).cl := rfl
  rw [e1, e2]
  clear h1 h2 X t1 t2 t3 e1 e2
  generalize (L i).cl = di at *
  generalize (L j).cl = dj at *
  go_enter Try.func35, Try.ntmps35
  go_wp2_with fail
  go_quiet (first | (go_at_call 36; refine Calls.quiet_of ((compare36 _ _ _).mono fun e w' h => ⟨h.1, 0, by rw [h.2]; rfl⟩)))
  go_wp2
  go_ret
  exact ⟨rfl, _, rfl⟩
theorem sort56z (z b : Nat) (w : World) : Calls Try.prog 56 #[.slice (some ⟨z, 0, none⟩) 0 0, .int .i64 0, .int .i64 0, .func (.func 35) #[] #[.pointer (some ⟨b, 0, none⟩)]] w fun e w' => e = .returned (.tuple #[]) ∧ w' = w := by
  go_enter Try.func56, Try.ntmps56
  go_wp2_with fail
  go_loopw [8] (fun s8 wr => s8 = .int .i64 1 ∧ wr = w) (fun _ _ => 0)
  case atStart => exact ⟨rfl, rfl⟩
  case round =>
    obtain ⟨rfl, rfl⟩ := hrel
    go_wp2
    go_end0
    exact ⟨rfl, rfl⟩
theorem stable50z (z b : Nat) (w : World) : Calls Try.prog 50 #[.slice (some ⟨z, 0, none⟩) 0 0, .int .i64 0, .func (.func 35) #[] #[.pointer (some ⟨b, 0, none⟩)]] w fun e w' => e = .returned (.tuple #[]) ∧ w' = w := by
  go_enter Try.func50, Try.ntmps50
  go_wp2_with fail
  go_loopw [7, 8] (fun s7 s8 wr => s7 = .int .i64 0 ∧ s8 = .int .i64 20 ∧ wr = w) (fun _ _ _ => 0)
  case atStart => exact ⟨rfl, rfl, rfl⟩
  case round =>
    obtain ⟨rfl, rfl, rfl⟩ := hrel
    go_wp2_with fail
    refine (sort56z z b wr).mono ?_
    rintro e w1 ⟨rfl, rfl⟩
    go_wp2_with fail
    go_loopw [6] (fun s6 wr => s6 = .int .i64 20 ∧ wr = w1) (fun _ _ => 0)
    case atStart => exact ⟨rfl, rfl⟩
    case round =>
      obtain ⟨rfl, rfl⟩ := hrel
      go_wp2_with fail
      go_end0
      exact ⟨rfl, rfl⟩
theorem stable34z (z b : Nat) (w : World) : Calls Try.prog 34 #[.slice (some ⟨z, 0, none⟩) 0 0, .func (.func 35) #[] #[.pointer (some ⟨b, 0, none⟩)]] w fun e w' => e = .returned (.tuple #[]) ∧ w' = w := by
  go_enter Try.func34, Try.ntmps34
  go_wp2_with (go_at_call 50; refine (stable50z z b w).mono ?_; rintro e w1 ⟨rfl, rfl⟩)
  go_end0
  exact ⟨rfl, rfl⟩
end Go.Proofs.Ytdcogbokcbpnnaa
