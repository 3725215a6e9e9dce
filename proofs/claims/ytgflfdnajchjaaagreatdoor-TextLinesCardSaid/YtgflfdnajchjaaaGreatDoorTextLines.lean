/- TextLines: how many lines a network has, and that a text without its last line is one. Conditions: none. -/
import Derived.Test.YtgflfdnajchjaaaGreatDoorL6
import Derived.Test.YtgflfdnajchjaaaGreatDoorHL
import Derived.Test.YtgflfdnajchjaaaGreatDoorArgs
import Derived.Test.YtgflfdnajchjaaaGreatDoorTie
import Derived.Test.YtgflfdnajchjaaaGreatDoorCards
import Derived.SevenTiedAt
namespace Go.Proofs.YtgflfdnajchjaaaGreatDoor
open Go.ChangeShapes Go.WideShapes Go.ChangeAt Go.RowKit
set_option linter.unusedVariables false
set_option linter.unusedSimpArgs false
set_option maxRecDepth 100000 in
theorem textLines_lifted (os : Os) (started : os.Started) (H : Type) (enc : TypeId × Value → H) :
    ReturnsInHanded {} Tryz.checked os 6 .any (fun w args => (Rows.textLinesSpec.pre enc Tryz.prog Tryz.f6 Rows.textLinesRow.domain false w args ∧ laidMetH Tryz.prog Rows.textLinesRow.laid w) ∧ sizedMet enc Tryz.prog Tryz.f6 (OpenSpec.ofChange Rows.textLinesSpec) false w args)
      (Rows.textLinesSpec.post enc Tryz.prog Tryz.f6 false true false false) := by
  refine lift_lawX (C := Tryz.checked) (tb := 4) (X := fun w _ => laidMetH Tryz.prog Rows.textLinesRow.laid w) (fun _ _ _ hh h => h.of_heap hh) own45 started (by kernel_rfl) Tryz.func6
    (ChangeSpec.witness_shaped (enc := enc) (C := Tryz.checked) (os := os) (X := fun w _ => laidMetH Tryz.prog Rows.textLinesRow.laid w) false (World.laidAll Tryz.prog os Rows.textLinesRow.laid) #[.slice none 0 0] 8 (World.laidAll_os _ _ _)
      (World.shaped_of_ZipB (by kernel_rfl) (by kernel_rfl)) (by kernel_rfl) (by kernel_rfl) (by kernel_rfl) (laid45 os _))
    laidOut45 rfl rfl Tryz.underlying4 (by kernel_rfl) (fun ds hd => ?_) ?_
  · match ds, hd with
    | [_], _ => rfl
  · intro W base args hx hsh hargs hsz
    obtain ⟨l⟩ := args
    match l, hsz with
    | [v0], _ =>
      obtain ⟨a, n, c, b, m, xs, rfl, h1, h2, h3, h4, h5⟩ := arg_intsOf (B := 8) (hargs 0 24 v0 rfl rfl) Tryz.underlying24 Tryz.underlying3 (by kernel_rfl) (by kernel_rfl) (by decide)
      exact lines6 a b m n c xs W (gl_of hx hsh) h1 h3 h4 (fun k hk => (h5 k (by omega)).1)
theorem textLines_row : Rows.TextLinesSaid :=
  OpenClaim.holds_of_wide 6 Tryz.f6 rfl rfl rfl rfl rfl rfl rfl ⟨rfl, rfl, rfl, rfl, rfl⟩ rfl rfl rfl rfl rfl (by kernel_rfl) Tryz.func6 (by kernel_rfl)
    (of_decide_eq_true (by kernel_rfl)) (by unfold Func.isWrapper; rw [if_neg (of_decide_eq_false (by kernel_rfl))]; exact ⟨rfl, rfl⟩)
    (fun os started H enc _ => textLines_lifted os started H enc)
theorem textLines_holds : Rows.TextLinesCardSaid :=
  Claim7.holds_tied_plain_at .later [] [.data, .data, .data, .data, .sentinel, .sentinel, .pinned] true (true, "e7f77c4cf7680146b1e907c9ee941b65837d137b9552015af63258e6a8ca8502") true
    textLines_row (fun _ h => by cases h) (by kernel_rfl) (fun _ h => by cases h) textLines_row_tie rfl ⟨rfl, rfl⟩ (by kernel_rfl) rfl
    (fun f fn hf hfn => by
      obtain rfl : f = 6 := Option.some.inj ((show Tryz.prog.funcNamed "radiolink/radiolinklaw45.TextLines" = some 6 by kernel_rfl).symm.trans hf) |>.symm
      obtain rfl : fn = Tryz.f6 := (Option.some.inj (Tryz.func6.symm.trans hfn)).symm
      exact ⟨by kernel_rfl, fun j t ht => by
        rw [Tryz.params6] at ht
        have h3 : t = 24 := by
          rcases j with _ | j
          · simpa using ht.symm
          · simp at ht
        subst h3
        exact (show Tryz.prog.wantsStandIn 24 = false by kernel_rfl)⟩)
    (by kernel_rfl)
end Go.Proofs.YtgflfdnajchjaaaGreatDoor
