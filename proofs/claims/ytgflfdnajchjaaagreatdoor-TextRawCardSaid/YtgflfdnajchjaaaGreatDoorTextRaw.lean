/- TextRaw: what any text means, to the program and to the reference: the same. Conditions: none. -/
import Derived.Test.YtgflfdnajchjaaaGreatDoorKN
import Derived.Test.YtgflfdnajchjaaaGreatDoorTie
import Derived.Test.YtgflfdnajchjaaaGreatDoorCards
import Derived.SevenTiedAt
namespace Go.Proofs.YtgflfdnajchjaaaGreatDoor
open Go.ChangeShapes Go.WideShapes Go.ChangeAt Go.RowKit
set_option linter.unusedVariables false
set_option linter.unusedSimpArgs false
set_option maxRecDepth 100000 in
theorem textRaw_lifted (os : Os) (started : os.Started) (H : Type) (enc : TypeId × Value → H) :
    ReturnsInHanded {} Tryz.checked os 3 .any (fun w args => (Rows.textRawSpec.pre enc Tryz.prog Tryz.f3 Rows.textRawRow.domain false w args ∧ laidMetH Tryz.prog Rows.textRawRow.laid w) ∧ sizedMet enc Tryz.prog Tryz.f3 (OpenSpec.ofChange Rows.textRawSpec) false w args)
      (Rows.textRawSpec.post enc Tryz.prog Tryz.f3 false true false false) := by
  refine lift_lawX (C := Tryz.checked) (tb := 4) (X := fun w _ => laidMetH Tryz.prog Rows.textRawRow.laid w) (fun _ _ _ hh h => h.of_heap hh) own45 started (by kernel_rfl) Tryz.func3
    (ChangeSpec.witness_shaped (enc := enc) (C := Tryz.checked) (os := os) (X := fun w _ => laidMetH Tryz.prog Rows.textRawRow.laid w) false (World.laidAll Tryz.prog os Rows.textRawRow.laid) #[.string ⟨#[]⟩] 8 (World.laidAll_os _ _ _)
      (World.shaped_of_ZipB (by kernel_rfl) (by kernel_rfl)) (by kernel_rfl) (by kernel_rfl) (by kernel_rfl) (laid45 os _))
    laidOut45 rfl rfl Tryz.underlying4 (by kernel_rfl) (fun ds hd => ?_) ?_
  · match ds, hd with
    | [_], _ => rfl
  · intro W base args hx hsh hargs hsz
    obtain ⟨l⟩ := args
    match l, hsz with
    | [v0], _ =>
      obtain ⟨s, rfl, -⟩ := (hargs 0 9 v0 rfl rfl).string Tryz.underlying9
      exact raw3 s W (gl_of hx hsh)
theorem textRaw_row : Rows.TextRawSaid :=
  OpenClaim.holds_of_wide 3 Tryz.f3 rfl rfl rfl rfl rfl rfl rfl ⟨rfl, rfl, rfl, rfl, rfl⟩ rfl rfl rfl rfl rfl (by kernel_rfl) Tryz.func3 (by kernel_rfl)
    (of_decide_eq_true (by kernel_rfl)) (by unfold Func.isWrapper; rw [if_neg (of_decide_eq_false (by kernel_rfl))]; exact ⟨rfl, rfl⟩)
    (fun os started H enc _ => textRaw_lifted os started H enc)
theorem textRaw_holds : Rows.TextRawCardSaid :=
  Claim7.holds_tied_plain_at .later [] [.data, .data, .data, .data, .sentinel, .sentinel, .pinned] true (true, "e7f77c4cf7680146b1e907c9ee941b65837d137b9552015af63258e6a8ca8502") true
    textRaw_row (fun _ h => by cases h) (by kernel_rfl) (fun _ h => by cases h) textRaw_row_tie rfl ⟨rfl, rfl⟩ (by kernel_rfl) rfl
    (fun f fn hf hfn => by
      obtain rfl : f = 3 := Option.some.inj ((show Tryz.prog.funcNamed "radiolink/radiolinklaw45.TextRaw" = some 3 by kernel_rfl).symm.trans hf) |>.symm
      obtain rfl : fn = Tryz.f3 := (Option.some.inj (Tryz.func3.symm.trans hfn)).symm
      exact ⟨by kernel_rfl, fun j t ht => by
        rw [Tryz.params3] at ht
        have h3 : t = 9 := by
          rcases j with _ | j
          · simpa using ht.symm
          · simp at ht
        subst h3
        exact (show Tryz.prog.wantsStandIn 9 = false by kernel_rfl)⟩)
    (by kernel_rfl)
end Go.Proofs.YtgflfdnajchjaaaGreatDoor
