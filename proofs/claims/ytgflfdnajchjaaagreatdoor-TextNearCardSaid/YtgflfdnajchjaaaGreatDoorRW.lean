/- TextNear: what a text means in which a byte is changed, left out or doubled, or a line is moved. Conditions: none. -/
import Derived.Test.YtgflfdnajchjaaaGreatDoorPC
import Derived.Test.YtgflfdnajchjaaaGreatDoorPB
import Derived.Test.YtgflfdnajchjaaaGreatDoorRows
import Derived.Shelf.Vars
import Derived.Stop.LaidErr
import Derived.Stop.Joined
import Derived.Lib.LaidTab
import Derived.MakeChecks
import Derived.Lay
import Derived.Test.YtgflfdnajchjaaaGreatDoorRV
import Derived.Test.YtgflfdnajchjaaaGreatDoorTie
import Derived.Test.YtgflfdnajchjaaaGreatDoorCards
import Derived.SevenTiedAt
set_option linter.unusedVariables false
set_option linter.unusedSimpArgs false
namespace Go.Proofs.YtgflfdnajchjaaaGreatDoor
open Go.Lib (hid)
open Go.RowKit
section
open Go.RowKit Go.ChangeShapes Go.WideShapes Go.ChangeAt
theorem own45 : ownKnob Tryz.prog.godebug = none := by kernel_rfl
theorem laidOut45 : laidOutB Tryz.prog = true := by kernel_rfl
theorem plain45 : (Rows.textNearRow.laid.all fun x => x.2.handleName?.isNone) = true := by kernel_rfl
theorem row230 (u : TypeId) (h : Tryz.prog.typeName? 3 u = some "*errors.errorString") : u = 230 := by
 have e : "*" ++ "errors.errorString" = "*errors.errorString" := by decide
 exact typeName_ptr_named (nm := "errors.errorString") (by rw [e]; kernel_rfl) (by kernel_rfl) (by decide) u (by rw [e]; exact h)
theorem gl_of {W : World} (h : laidMetH Tryz.prog Rows.textNearRow.laid W) (hsh : W.ShapedOpen Tryz.prog) : Gl W := by
 have hL := h;rw [MakeChecks.laidMetH_plain _ _ _ plain45] at hL;have h2 := hL.tail.tail;have h4 := h2.tail.tail;have h5 := h4.tail;obtain ⟨m, hm⟩ := cell_of_shapedOpen_int (g := 0) (t := 3) (zero := #[.int .i64 0]) (k := .i64) hsh (of_decide_eq_true (by kernel_rfl)) (by kernel_rfl) rfl (by kernel_rfl) (by kernel_rfl) (by kernel_rfl);have ht : Lib.TabIs Tryz.prog W "internal/strconv.uint64pow10" .u64 Lib.pow10Tab := Lib.tabIs_of_head (t := 213) (e := 199) (n := 20) (g := 1) (by kernel_rfl) (by kernel_rfl) Tryz.underlying213 Tryz.underlying199 (by kernel_rfl) (by kernel_rfl) h2;obtain ⟨a1, s1, hv1, -, -, -⟩ := laid_sentinel h4 (g := 5) (ti := 112) (tp := 230) (te := 232) (ts := 9) (by kernel_rfl) (by kernel_rfl) Tryz.underlying112 row230 Tryz.underlying230 Tryz.underlying232 rfl rfl Tryz.underlying9 (by kernel_rfl) (by kernel_rfl);obtain ⟨a0, s0, hv0, -, -, -⟩ := laid_sentinel h5 (g := 4) (ti := 112) (tp := 230) (te := 232) (ts := 9) (by kernel_rfl) (by kernel_rfl) Tryz.underlying112 row230 Tryz.underlying230 Tryz.underlying232 rfl rfl Tryz.underlying9 (by kernel_rfl) (by kernel_rfl);obtain ⟨ps, ⟨g0, t0, cs0, f0, p0, q0, hg0, ht0, hv7, -, -, -⟩, -⟩ := hL.tail;have hg7 : Tryz.prog.globalNamed "math/bits.deBruijn64tab" = some 7 := by kernel_rfl
 have h7 : 7 < W.heap.size := by
  unfold World.var? at hv7;simp only [hg7, Option.bind_some] at hv7;rcases Nat.lt_or_ge 7 W.heap.size with h | h
  · exact h
  · rw [Array.getElem?_eq_none h] at hv7
    cases hv7
 exact ⟨⟨m, hm⟩, ht, ⟨_, _, hv0⟩, ⟨_, _, hv1⟩, h7⟩
theorem laid45 (os : Os) (args : Array Value) : laidMetH Tryz.prog Rows.textNearRow.laid ((World.laidAll Tryz.prog os Rows.textNearRow.laid).forCall (fun _ _ => 0) ⟨#[], args, []⟩).memory := by
 rw [MakeChecks.laidMetH_plain _ _ _ plain45];exact laidMet_laidAll _ (by kernel_rfl) (by kernel_rfl)
end
section
open Go.ChangeShapes Go.WideShapes Go.ChangeAt Go.RowKit
theorem arg_intsOf {P : Program} {W : World} {base : Nat} {v : Value} {t e : TypeId} {κ : IntKind} {B : Nat} (h : Arg P W base t v) (ht : P.underlying t = some (.slice e)) (he : P.underlying e = some (.int κ)) (hn : P.cellsOf e = 1) (hb : P.bytesOf e = B) (hB : 0 < B) :
 ∃ (a : Option Addr) (len cap b m : Nat) (xs : Nat → Int), v = .slice a len cap ∧ len ≤ cap ∧ cap ≤ 140737488351232 ∧ (a = none → cap = 0) ∧ (0 < cap → a = some ⟨b, m, none⟩) ∧ ∀ k, k < cap → W.cell? ⟨b, m + k, none⟩ = some (.int κ (xs k)) ∧ (Lit.int κ (xs k)).wf = true := by
 obtain ⟨a, len, cap, b, m, xs, rfl, h1, h2, h3, h4, h6, h5⟩ := h.ints ht he hn;rw [hb] at h3;simp only [reachBytes] at h3;have : cap * 1 ≤ cap * B := Nat.mul_le_mul_left _ hB;exact ⟨a, len, cap, b, m, xs, rfl, h1, by omega, h6, h4, h5⟩
theorem arg_row {P : Program} {W : World} {base : Nat} {v : Value} {t e : TypeId} (h : Arg P W base t v) (ht : P.underlying t = some (.slice e)) (he : P.underlying e = some (.int .i64)) (hn : P.cellsOf e = 1) (hb : P.bytesOf e = 8) :
 ∃ (a : Option Addr) (n c : Nat) (xs : Nat → Int), v = .slice a n c ∧ n ≤ c ∧ c ≤ 140737488351232 ∧ Row W a n xs := by
 obtain ⟨a, n, c, b, m, xs, rfl, h1, h2, _, h4, h5⟩ := arg_intsOf h ht he hn hb (by decide);exact ⟨a, n, c, xs, rfl, h1, h2, b, m, fun h0 => h4 (by omega), fun k hk => (h5 k (by omega)).1⟩
theorem arg_bools {P : Program} {W : World} {base : Nat} {v : Value} {t e : TypeId} (h : Arg P W base t v) (ht : P.underlying t = some (.slice e)) (he : P.underlying e = some .bool) (hn : P.cellsOf e = 1) (hb : P.bytesOf e = 1) : ∃ (a : Option Addr) (len cap : Nat) (xs : Nat → Bool), v = .slice a len cap ∧ len ≤ 140737488351232 ∧ ∃ b m, (0 < len → a = some ⟨b, m, none⟩) ∧ ∀ k, k < len → W.cell? ⟨b, m + k, none⟩ = some (.bool (xs k)) := by
 obtain ⟨a, len, cap, b, m, C, rfl, h1, h2, h3, h4, _, h5⟩ := h.rows ht hn Nat.one_pos;obtain ⟨xs, hxs⟩ := Deep.choose_lt (α := Bool) (n := cap) (p := fun k x => C k = [.bool x]) fun k hk => (h5 k hk).2.1.bool he
 rw [hb] at h3;simp only [reachBytes] at h3;refine ⟨a, len, cap, xs, rfl, by omega, b, m, fun h0 => h4 (by omega), fun k hk => ?_⟩
 have := (h5 k (by omega)).2.2 0 Nat.one_pos;rw [hxs k (by omega)] at this;simpa using this
end
section
open Go.ChangeShapes Go.WideShapes Go.ChangeAt Go.RowKit
set_option maxRecDepth 100000 in
theorem textNear_lifted (os : Os) (started : os.Started) (H : Type) (enc : TypeId × Value → H) :
 ReturnsInHanded {} Tryz.checked os 4 .any (fun w args => (Rows.textNearSpec.pre enc Tryz.prog Tryz.f4 Rows.textNearRow.domain false w args ∧ laidMetH Tryz.prog Rows.textNearRow.laid w) ∧ sizedMet enc Tryz.prog Tryz.f4 (OpenSpec.ofChange Rows.textNearSpec) false w args)
  (Rows.textNearSpec.post enc Tryz.prog Tryz.f4 false true false false) := by
 refine lift_lawX (C := Tryz.checked) (tb := 4) (X := fun w _ => laidMetH Tryz.prog Rows.textNearRow.laid w) (fun _ _ _ hh h => h.of_heap hh) own45 started (by kernel_rfl) Tryz.func4
  (ChangeSpec.witness_shaped (enc := enc) (C := Tryz.checked) (os := os) (X := fun w _ => laidMetH Tryz.prog Rows.textNearRow.laid w) false (World.laidAll Tryz.prog os Rows.textNearRow.laid) #[.slice none 0 0, .int .i64 0, .int .i64 0, .int .u8 0, .int .u8 0] 8 (World.laidAll_os _ _ _)
   (World.shaped_of_ZipB (by kernel_rfl) (by kernel_rfl)) (by kernel_rfl) (by kernel_rfl) (by kernel_rfl) (laid45 os _))
  laidOut45 rfl rfl Tryz.underlying4 (by kernel_rfl) (fun ds hd => ?_) ?_
 · match ds, hd with
   | [_, _, _, _, _], _ => rfl
 · intro W base args hx hsh hargs hsz;obtain ⟨l⟩ := args
   match l, hsz with
   | [v0, v1, v2, v3, v4], _ =>
     obtain ⟨a, n, c, b, m, xs, rfl, h1, h2, h3, h4, h5⟩ := arg_intsOf (B := 8) (hargs 0 24 v0 rfl rfl) Tryz.underlying24 Tryz.underlying3 (by kernel_rfl) (by kernel_rfl) (by decide);obtain ⟨at', rfl, w1⟩ := (hargs 1 3 v1 rfl rfl).int Tryz.underlying3;obtain ⟨tw, rfl, w2⟩ := (hargs 2 3 v2 rfl rfl).int Tryz.underlying3;obtain ⟨y3, rfl, w3⟩ := (hargs 3 5 v3 rfl rfl).int Tryz.underlying5;obtain ⟨y4, rfl, w4⟩ := (hargs 4 5 v4 rfl rfl).int Tryz.underlying5;obtain ⟨b3, rfl⟩ := u8_of (bounds_u8 w3);obtain ⟨b4, rfl⟩ := u8_of (bounds_u8 w4);exact near4 a b m n c xs at' tw b3 b4 W (gl_of hx hsh) h1 h3 h4 (fun k hk => (h5 k (by omega)).1) (bounds_i64 w1) (bounds_i64 w2)
theorem textNear_row : Rows.TextNearSaid :=
 OpenClaim.holds_of_wide 4 Tryz.f4 rfl rfl rfl rfl rfl rfl rfl ⟨rfl, rfl, rfl, rfl, rfl⟩ rfl rfl rfl rfl rfl (by kernel_rfl) Tryz.func4 (by kernel_rfl)
  (of_decide_eq_true (by kernel_rfl)) (by unfold Func.isWrapper; rw [if_neg (of_decide_eq_false (by kernel_rfl))]; exact ⟨rfl, rfl⟩)
  (fun os started H enc _ => textNear_lifted os started H enc)
theorem textNear_holds : Rows.TextNearCardSaid :=
 Claim7.holds_tied_plain_at .later [] [.data, .data, .data, .data, .sentinel, .sentinel, .pinned] true (true, "e7f77c4cf7680146b1e907c9ee941b65837d137b9552015af63258e6a8ca8502") true
  textNear_row (fun _ h => by cases h) (by kernel_rfl) (fun _ h => by cases h) textNear_row_tie rfl ⟨rfl, rfl⟩ (by kernel_rfl) rfl
  (fun f fn hf hfn => by
   obtain rfl : f = 4 := oI ((show Tryz.prog.funcNamed "radiolink/radiolinklaw45.TextNear" = some 4 by kernel_rfl).symm.trans hf) |>.symm
   obtain rfl : fn = Tryz.f4 := (oI (Tryz.func4.symm.trans hfn)).symm
   exact ⟨by kernel_rfl, fun j t ht => by
    rw [Tryz.params4] at ht
    have h3 : t = 24 ∨ t = 3 ∨ t = 5 := by
     rcases j with _ | _ | _ | _ | _ | j
     · exact .inl (by simpa using ht.symm)
     · exact .inr (.inl (by simpa using ht.symm))
     · exact .inr (.inl (by simpa using ht.symm))
     · exact .inr (.inr ((by simpa using ht.symm)))
     · exact .inr (.inr ((by simpa using ht.symm)))
     · simp at ht
    rcases h3 with rfl | rfl | rfl
    · exact (show Tryz.prog.wantsStandIn 24 = false by kernel_rfl)
    · exact (show Tryz.prog.wantsStandIn 3 = false by kernel_rfl)
    · exact (show Tryz.prog.wantsStandIn 5 = false by kernel_rfl)⟩)
  (by kernel_rfl)
end
end Go.Proofs.YtgflfdnajchjaaaGreatDoor
