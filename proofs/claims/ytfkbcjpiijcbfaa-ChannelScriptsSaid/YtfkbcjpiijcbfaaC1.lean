/- Layer 31: the numbers. -/
import Derived.Test.YtfkbcjpiijcbfaaC0
import Derived.Test.YtfkbcjpiijcbfaaRange
import Derived.Laws.Closers25b
import Derived.Sort.LoopGhostIn
namespace Go.Proofs.Ytfkbcjpiijcbfaa
set_option linter.unusedVariables false
set_option linter.unusedSimpArgs false
open Go.RowKit Go.Sort
attribute [local go_sem] gcell

def nx1 (x : Int) : Int := bits BinOp.xor .u32 x (x * 8192 % 4294967296)
def nx2 (x : Int) : Int := bits BinOp.xor .u32 x (x / 131072)
def nx3 (x : Int) : Int := bits BinOp.xor .u32 x (x * 32 % 4294967296)
def nxs (x : Int) : Nat → Int
  | 0 => x
  | k + 1 => nx3 (nx2 (nx1 (nxs x k)))
theorem nx3_bd (x : Int) : 0 ≤ nx3 x ∧ nx3 x < 4294967296 := by
  have h1 := bits_lo_u32 BinOp.xor x (x * 32 % 4294967296)
  have h2 := bits_hi_u32 BinOp.xor x (x * 32 % 4294967296)
  unfold nx3
  omega
theorem nxs_bd {x : Int} (h : 0 ≤ x ∧ x < 4294967296) : ∀ k, 0 ≤ nxs x k ∧ nxs x k < 4294967296
  | 0 => h
  | k + 1 => nx3_bd _
set_option maxRecDepth 100000 in
set_option maxHeartbeats 4000000 in
theorem gives29 (B N : Nat) (x : Int) (hx : 0 ≤ x ∧ x < 4294967296) (W : World) (hc : W.cell? ⟨B, 0, none⟩ = some (.int .u32 x)) : GivesTill Try.prog 29 #[.pointer (some ⟨B, 0, none⟩)] (fun k => .int .u32 (nxs x (k + 1))) N W := fun l I Ix h0 hY => by
  have HY := Lib.hid hY
  have H0 := Lib.hid h0
  clear hY h0
  refine callsIn_of_wp Try.func29 rfl trivial ?_ rfl
  simp only [Try.ntmps29, List.size_toArray, List.length_cons, List.length_nil, Nat.reduceAdd, Nat.reduceSub, Array.replicate_succ, Array.replicate_zero, List.push_toArray, List.append_toArray, List.nil_append, List.cons_append]
  gi_wp2
  gi_loopg [3] (N + 1) (fun g s3 wx => ∃ k, k ≤ N ∧ g = N + 1 - k ∧ s3 = .int .u32 (nxs x k) ∧ I k wx)
  case atStart => exact ⟨0, Nat.zero_le _, rfl, rfl, H0.out⟩
  case round =>
    obtain ⟨k, hk, hg, rfl, hI⟩ := hrel
    have hb := nxs_bd hx k
    have e1 := fun y => show bits BinOp.xor .u32 y (y * 8192 % 4294967296) = nx1 y from rfl
    obtain ⟨fn, tmps, assign, body, hy, hR⟩ := HY.out k wr hk hI
    have hsucc : nxs x (k + 1) = nx3 (nx2 (nx1 (nxs x k))) := rfl
    have HSU := Lib.hid hsucc
    have HR := Lib.hid hR
    rw [hsucc] at hy
    unfold nx3 nx2 nx1 at hy
    clear hR hI hsucc e1
    generalize nxs x k = xk at *
    gi_wp2
    refine HR.out.mono ?_
    rintro e W' (⟨h1, rfl, h2⟩ | ⟨h1, rfl, h2⟩)
    · have H2 := Lib.hid h2
      clear h2
      gi_wp2
      gi_roundg (N - k)
      case rel => exact ⟨k + 1, by omega, by omega, by rw [HSU.out]; rfl, H2.out⟩
      case measure => omega
    · have H2 := Lib.hid h2
      clear h2
      gi_wp2
      refine bodyPost_ret (results_none rfl _ _ _) rfl ?_
      exact ⟨⟨_, rfl⟩, H2.out⟩
end Go.Proofs.Ytfkbcjpiijcbfaa
