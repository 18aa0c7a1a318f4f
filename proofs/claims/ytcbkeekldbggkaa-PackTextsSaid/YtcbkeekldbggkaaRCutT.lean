import Derived.Test.YtcbkeekldbggkaaRows
import Derived.Test.YtcbkeekldbggkaaK1
import Derived.Test.YtcbkeekldbggkaaLE
import Derived.Test.YtcbkeekldbggkaaCG1H
/- For whatever arguments the program's law cuvette/cuvettelaw03.PackTexts returns true and its input reads as it did; no condition. -/
namespace Go.Proofs.Ytcbkeekldbggkaa.T.PackTexts
open Go Go.VL Go.Proofs Go.Proofs.Ytcbkeekldbggkaa.T Go.Proofs.Ytcbkeekldbggkaa
open Go.ChangeShapes Go.WideShapes Go.ChangeAt Go.RowKit
open Go.ChangeMaps (open_string shut_string)
set_option linter.unusedVariables false

theorem row (Ds : List D) (h : Ty.hasAll [.sl (.sl (.int .u8)), .sl (.int .u8)] Ds) : Fun Try.prog 4 Ds fun r => r = .v (.bool true) := by
  obtain ⟨c0, _, rfl, h0, c1, _, rfl, h1, rfl⟩ := h
  obtain ⟨l0, e0, w0⟩ := has_rows h0
  obtain ⟨l1, e1, w1⟩ := has_ints h1
  rw [e0, e1]
  exact packTexts_law l0 l1 (fun x hx => r8 (w0 x hx)) (r8 w1)

set_option maxRecDepth 100000 in
theorem lifted (os : Os) (started : os.Started) (H : Type) (enc : TypeId × Value → H) :
    ReturnsInHanded {} Try.checked os 4 .any (Rows.packTextsSpec.pre6 enc Try.prog Try.f4 Rows.packTextsRow.domain false) (Rows.packTextsSpec.post enc Try.prog Try.f4 false true false false) := by
  refine returnsInHanded_of_change (C := Try.checked) own started (by kernel_rfl) Try.func4
    (ChangeSpec.witness6 (enc := enc) (C := Try.checked) false ⟨#[], #[.slice none 0 0, .slice none 0 0], []⟩ 8 (by kernel_rfl) (by kernel_rfl) (by kernel_rfl) (by kernel_rfl)) ?_
  intro W base args ds gs before hval0 hW hcnd _
  have hval : ∀ (j : Nat) t v, Try.f4.params[j]? = some t → args[j]? = some v → Value.okWide Try.prog W .any base t v := hval0
  have hW' := hW
  obtain ⟨p, q, hA0, hV, rfl, hfz, hnd⟩ := hW
  have hA : DataW.TrodAll enc Try.prog W 0 (fun _ => true) true Try.f4.params.toList args.toList ds p := hA0
  obtain ⟨Ds, hR, hT⟩ := args_read [.sl (.sl (.int .u8)), .sl (.int .u8)] Try.f4.params.toList args.toList ds p (by kernel_rfl) (fun j t v ht hv => hval j t v (by simpa using ht) (by simpa using hv)) hA
  have hB : ∀ W', Below W.heap.size W W' → DataW.TrodAll enc Try.prog W' 0 (fun b => decide (b < W.heap.size)) true Try.f4.params.toList args.toList ds p := fun W' hb => args_back laidOut hb _ _ _ _ (by kernel_rfl) hA
  have hl0 : ds.length = 2 := (trodAll_len _ _ _ _ hA).trans (by kernel_rfl)
  obtain ⟨d0, ds1, rfl, hl1⟩ := cons_of hl0
  obtain ⟨d1, ds2, rfl, hl2⟩ := cons_of hl1
  obtain rfl := nil_of hl2
  obtain ⟨rfl, rfl⟩ := trodVars_none hV
  have key : Calls Try.prog 4 args W fun e w' => e = .returned (.bool true) ∧ Below W.heap.size W w' := by
    have := (row Ds hT).calls (Olds W) W args.toList (fun _ h => h) hR
    simpa using this
  refine key.mono fun e W' ⟨he, bel⟩ => ?_
  subst he
  exact ⟨_, rfl, _, _, _, [], _, [], hW', trodAll_mk1 (shut_bool Try.underlying4 _), hB W' bel, rfl, bel.frame _, fun h => by cases h⟩

theorem closed : joinedFacts Try.checked.prog 4 Try.f4 Rows.packTextsSpec Rows.packTextsRow = true :=
  joined_of (by kernel_rfl) c_laid c_maps (by kernel_rfl) (by kernel_rfl) rfl c_stops rfl c_knobs (by kernel_rfl) (by kernel_rfl) (by kernel_rfl) (by kernel_rfl) (by kernel_rfl) (by kernel_rfl) (by kernel_rfl) (by kernel_rfl) (by kernel_rfl) (by kernel_rfl) (by kernel_rfl) (by kernel_rfl) (by kernel_rfl)
    (by kernel_rfl) rfl c_heard enters lifts cut rfl rfl rfl (by kernel_rfl) (by kernel_rfl)

theorem over : Rows.packTextsRow.holds Try.pinned (OpenSpec.ofChange Rows.packTextsSpec) :=
  OpenClaim.holds_of_wide 4 Try.f4 rfl rfl rfl rfl rfl rfl rfl ⟨rfl, rfl, rfl, rfl, rfl⟩ rfl rfl rfl rfl rfl (by kernel_rfl) Try.func4 closed
    (of_decide_eq_true (by kernel_rfl)) (by unfold Func.isWrapper; rw [if_neg (by decide +kernel)]; exact ⟨rfl, rfl⟩)
    (fun os started H enc _ => lifted os started H enc)
end Go.Proofs.Ytcbkeekldbggkaa.T.PackTexts
namespace Go.Proofs.Ytcbkeekldbggkaa
theorem packTexts_holds : Rows.PackTextsSaid := T.PackTexts.over
end Go.Proofs.Ytcbkeekldbggkaa
