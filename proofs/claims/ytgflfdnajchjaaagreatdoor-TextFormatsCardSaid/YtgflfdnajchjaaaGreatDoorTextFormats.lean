/- TextFormats: the text of any network and traffic, and that it is read back. Conditions: none. -/
import Derived.Test.YtgflfdnajchjaaaGreatDoorL5
import Derived.Test.YtgflfdnajchjaaaGreatDoorHF
import Derived.Test.YtgflfdnajchjaaaGreatDoorF2
import Derived.Test.YtgflfdnajchjaaaGreatDoorTie
import Derived.Test.YtgflfdnajchjaaaGreatDoorCards
import Derived.SevenTiedAt
namespace Go.Proofs.YtgflfdnajchjaaaGreatDoor
open Go.ChangeShapes Go.WideShapes Go.ChangeAt Go.RowKit
set_option linter.unusedVariables false
set_option linter.unusedSimpArgs false
set_option maxRecDepth 100000 in
theorem textFormats_lifted (os : Os) (started : os.Started) (H : Type) (enc : TypeId × Value → H) :
    ReturnsInHanded {} Tryz.checked os 5 .any (fun w args => (Rows.textFormatsSpec.pre enc Tryz.prog Tryz.f5 Rows.textFormatsRow.domain false w args ∧ laidMetH Tryz.prog Rows.textFormatsRow.laid w) ∧ sizedMet enc Tryz.prog Tryz.f5 (OpenSpec.ofChange Rows.textFormatsSpec) false w args)
      (Rows.textFormatsSpec.post enc Tryz.prog Tryz.f5 false true false false) := by
  refine lift_lawX (C := Tryz.checked) (tb := 4) (X := fun w _ => laidMetH Tryz.prog Rows.textFormatsRow.laid w) (fun _ _ _ hh h => h.of_heap hh) own45 started (by kernel_rfl) Tryz.func5
    (ChangeSpec.witness_shaped (enc := enc) (C := Tryz.checked) (os := os) (X := fun w _ => laidMetH Tryz.prog Rows.textFormatsRow.laid w) false (World.laidAll Tryz.prog os Rows.textFormatsRow.laid) #[.slice none 0 0, .slice none 0 0, .int .i64 0, .int .i64 0] 8 (World.laidAll_os _ _ _)
      (World.shaped_of_ZipB (by kernel_rfl) (by kernel_rfl)) (by kernel_rfl) (by kernel_rfl) (by kernel_rfl) (laid45 os _))
    laidOut45 rfl rfl Tryz.underlying4 (by kernel_rfl) (fun ds hd => ?_) ?_
  · match ds, hd with
    | [_, _, _, _], _ => rfl
  · intro W base args hx hsh hargs hsz
    obtain ⟨l⟩ := args
    match l, hsz with
    | [v0, v1, v2, v3], _ =>
      obtain ⟨a, n, c, b, m, xs, rfl, h1, h2, h3, h4, h5⟩ := arg_intsOf (B := 8) (hargs 0 24 v0 rfl rfl) Tryz.underlying24 Tryz.underlying3 (by kernel_rfl) (by kernel_rfl) (by decide)
      obtain ⟨oa, on, oc, ob, om, R, rfl, o1, o2, o3, o4, o5, o6⟩ := arg_tr (hargs 1 43 v1 rfl rfl)
      obtain ⟨wh, rfl, w2⟩ := (hargs 2 3 v2 rfl rfl).int Tryz.underlying3
      obtain ⟨bx, rfl, w3⟩ := (hargs 3 3 v3 rfl rfl).int Tryz.underlying3
      exact formats5 a b m n c xs oa ob om on oc R wh bx W (gl_of hx hsh) h1 h3 h4 (fun k hk => (h5 k (by omega)).1) o1 o2 o3 o4 o5 o6 (bounds_i64 w2) (bounds_i64 w3)
theorem textFormats_row : Rows.TextFormatsSaid :=
  OpenClaim.holds_of_wide 5 Tryz.f5 rfl rfl rfl rfl rfl rfl rfl ⟨rfl, rfl, rfl, rfl, rfl⟩ rfl rfl rfl rfl rfl (by kernel_rfl) Tryz.func5 (by kernel_rfl)
    (of_decide_eq_true (by kernel_rfl)) (by unfold Func.isWrapper; rw [if_neg (of_decide_eq_false (by kernel_rfl))]; exact ⟨rfl, rfl⟩)
    (fun os started H enc _ => textFormats_lifted os started H enc)
theorem textFormats_holds : Rows.TextFormatsCardSaid :=
  Claim7.holds_tied_plain_at .later [] [.data, .data, .data, .data, .sentinel, .sentinel, .pinned] true (true, "e7f77c4cf7680146b1e907c9ee941b65837d137b9552015af63258e6a8ca8502") true
    textFormats_row (fun _ h => by cases h) (by kernel_rfl) (fun _ h => by cases h) textFormats_row_tie rfl ⟨rfl, rfl⟩ (by kernel_rfl) rfl
    (fun f fn hf hfn => by
      obtain rfl : f = 5 := Option.some.inj ((show Tryz.prog.funcNamed "radiolink/radiolinklaw45.TextFormats" = some 5 by kernel_rfl).symm.trans hf) |>.symm
      obtain rfl : fn = Tryz.f5 := (Option.some.inj (Tryz.func5.symm.trans hfn)).symm
      exact ⟨by kernel_rfl, fun j t ht => by
        rw [Tryz.params5] at ht
        have h3 : t = 24 ∨ t = 43 ∨ t = 3 := by
          rcases j with _ | _ | _ | _ | j
          · exact .inl (by simpa using ht.symm)
          · exact .inr (.inl (by simpa using ht.symm))
          · exact .inr (.inr ((by simpa using ht.symm)))
          · exact .inr (.inr ((by simpa using ht.symm)))
          · simp at ht
        rcases h3 with rfl | rfl | rfl
        · exact (show Tryz.prog.wantsStandIn 24 = false by kernel_rfl)
        · exact (show Tryz.prog.wantsStandIn 43 = false by kernel_rfl)
        · exact (show Tryz.prog.wantsStandIn 3 = false by kernel_rfl)⟩)
    (by kernel_rfl)
end Go.Proofs.YtgflfdnajchjaaaGreatDoor
