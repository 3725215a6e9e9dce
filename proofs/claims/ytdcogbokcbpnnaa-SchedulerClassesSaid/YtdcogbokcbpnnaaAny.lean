/- Whether any of the first n has a property. Nothing of the program is named here. -/
import Derived.ProofKit
namespace Go.Proofs.Ytdcogbokcbpnnaa
set_option linter.unusedVariables false
set_option linter.unusedSimpArgs false

def anyB (p : Nat → Bool) : Nat → Bool
  | 0 => false
  | k + 1 => anyB p k || p k
theorem anyB_true {p : Nat → Bool} {n k : Nat} (hk : k < n) (h : p k = true) : anyB p n = true := by
  induction n with
  | zero => omega
  | succ n ih =>
    unfold anyB
    by_cases h2 : k < n
    · rw [ih h2]; rfl
    · have : k = n := by omega
      subst this; rw [h]; simp
theorem anyB_false {p : Nat → Bool} {n : Nat} : anyB p n = false ↔ ∀ k, k < n → p k = false := by
  constructor
  · intro h k hk
    cases hp : p k
    · rfl
    · rw [anyB_true hk hp] at h; cases h
  · intro h
    induction n with
    | zero => rfl
    | succ n ih => unfold anyB; rw [ih (fun k hk => h k (by omega)), h n (by omega)]; rfl

theorem anyB_or (p q : Nat → Bool) (n : Nat) : anyB (fun k => p k || q k) n = (anyB p n || anyB q n) := by
  induction n with
  | zero => rfl
  | succ n ih => unfold anyB; rw [ih]; cases anyB p n <;> cases anyB q n <;> cases p n <;> cases q n <;> rfl
end Go.Proofs.Ytdcogbokcbpnnaa
