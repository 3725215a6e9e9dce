/- Layer 45: the reference's Format of a document in memory. -/
import Derived.Test.YtgflfdnajchjaaaGreatDoorFA
import Derived.Test.YtgflfdnajchjaaaGreatDoorKK
namespace Go.Proofs.YtgflfdnajchjaaaGreatDoor
set_option linter.unusedVariables false
set_option linter.unusedSimpArgs false
open Go.RowKit Go.Sort
open Go.Lib (itoa)
open Tm
def Text24 : Prop := ∀ (c : Cf) (X : Nat → Ch.Fd) (T : Nat → Te) (a : Option Addr) (n cc : Nat) (Q : Nat → Tr) (w : World), CfIn w c X T → TrR w a n Q → n ≤ maxLen → NumN c X T n Q → (textS (docOf c X T n Q)).length ≤ 1000000 →
    Calls Tryz.prog 24 #[cfv c, .slice a n cc] w fun e w' => ∃ v, e = .returned v ∧ OwnS w' w.heap.size v (textS (docOf c X T n Q)) ∧ Below w.heap.size w w'
theorem text24_all : Text24 := fun c X T a n cc Q w H HQ hn hN hs => text24 c X T a n cc Q w H HQ hn hN hs
/-- The reference's Format of a document in memory, by what it says. -/
theorem fmt13_doc {c : Cf} {X : Nat → Ch.Fd} {T : Nat → Te} {a : Option Addr} {n cc : Nat} {Q : Nat → Tr} {D : DocS} {W : World} (H : DocIn W c X T a n Q D) (hN : chkD D = 0 → DocN D) (hz : (catL (textS D)).length ≤ 1000000) :
    Calls Tryz.prog 13 #[cfv c, .slice a n cc] W fun e w' => e = .returned (.tuple #[.string (bs (if chkD D = 0 then catL (textS D) else [])), .int .i64 (chkD D)]) ∧ Below W.heap.size W w' := by
  have e := H.eq
  have ec : chkM c X T n Q = chkD D := by rw [chkM_doc c X T n Q H.h15 H.kb, e]
  have k := fmt13 c X T a n cc Q (textS D) W H.cf H.tr H.le (by omega) (fun h0 W' hb => by
    have k2 := text24_all c X T a n cc Q W' (H.cf.mono hb) (H.tr.mono hb) H.le (numN_doc e (hN (ec ▸ h0)) hz H.kb) (by rw [e]; exact Nat.le_trans (catL_ge _) hz)
    rw [e] at k2
    exact k2)
  rw [ec] at k
  exact k
end Go.Proofs.YtgflfdnajchjaaaGreatDoor
