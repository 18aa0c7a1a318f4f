import Derived.Test.YtpkampecmlpfmaaRows
import Derived.Test.YtpkampecmlpfmaaK2
import Derived.Test.YtpkampecmlpfmaaLE
import Derived.Test.YtpkampecmlpfmaaEG1H
import Derived.Test.YtpkampecmlpfmaaK3
/- For whatever arguments the program's law cuvette/cuvettelaw08.BookTrains returns true and its input reads as it did; no condition. -/
namespace Go.Proofs.Ytpkampecmlpfmaa.T.BookTrains
open Go Go.VL Go.Proofs Go.Proofs.Ytpkampecmlpfmaa.T Go.Proofs.Ytpkampecmlpfmaa
open Go.ChangeShapes Go.WideShapes Go.ChangeAt Go.RowKit
open Go.ChangeMaps (open_string shut_string)
set_option linter.unusedVariables false

theorem row (Ds : List D) (h : Ty.hasAll [.st [.int .i64, .sl (.sl (.int .i16))], .int .i64, .sl (.sl (.int .i16))] Ds) : Fun Try.prog 15 Ds fun r => r = .v (.bool true) := by
  obtain ⟨c0, _, rfl, h0, c1, _, rfl, h1, c2, _, rfl, h2, rfl⟩ := h
  obtain ⟨n0, l0, e0, w0, ww0⟩ := has_book h0
  obtain ⟨n1, e1, w1⟩ := has_int h1
  obtain ⟨l2, e2, w2⟩ := has_rows h2
  rw [e0, e1, e2]
  exact bookTrains_law sorted16 n0 l0 n1 l2 (rr16 w2) (rr16 ww0)

set_option maxRecDepth 100000 in
theorem lifted (os : Os) (started : os.Started) (H : Type) (enc : TypeId × Value → H) :
    ReturnsInHanded {} Try.checked os 15 .any (Rows.bookTrainsSpec.pre6 enc Try.prog Try.f15 Rows.bookTrainsRow.domain false) (Rows.bookTrainsSpec.post enc Try.prog Try.f15 false true false false) := by
  refine returnsInHanded_of_change (C := Try.checked) own started (by kernel_rfl) Try.func15
    (ChangeSpec.witness6 (enc := enc) (C := Try.checked) false ⟨#[], #[.agg #[.int .i64 0, .slice none 0 0], .int .i64 0, .slice none 0 0], []⟩ 8 (by kernel_rfl) (by kernel_rfl) (by kernel_rfl) (by kernel_rfl)) ?_
  intro W base args ds gs before hval0 hW hcnd _
  have hval : ∀ (j : Nat) t v, Try.f15.params[j]? = some t → args[j]? = some v → Value.okWide Try.prog W .any base t v := hval0
  have hW' := hW
  obtain ⟨p, q, hA0, hV, rfl, hfz, hnd⟩ := hW
  have hA : DataW.TrodAll enc Try.prog W 0 (fun _ => true) true Try.f15.params.toList args.toList ds p := hA0
  obtain ⟨Ds, hR, hT⟩ := args_read [.st [.int .i64, .sl (.sl (.int .i16))], .int .i64, .sl (.sl (.int .i16))] Try.f15.params.toList args.toList ds p (by kernel_rfl) (fun j t v ht hv => hval j t v (by simpa using ht) (by simpa using hv)) hA
  have hB : ∀ W', Below W.heap.size W W' → DataW.TrodAll enc Try.prog W' 0 (fun b => decide (b < W.heap.size)) true Try.f15.params.toList args.toList ds p := fun W' hb => args_back laidOut hb _ _ _ _ (by kernel_rfl) hA
  have hl0 : ds.length = 3 := (trodAll_len _ _ _ _ hA).trans (by kernel_rfl)
  obtain ⟨d0, ds1, rfl, hl1⟩ := cons_of hl0
  obtain ⟨d1, ds2, rfl, hl2⟩ := cons_of hl1
  obtain ⟨d2, ds3, rfl, hl3⟩ := cons_of hl2
  obtain rfl := nil_of hl3
  obtain ⟨rfl, rfl⟩ := trodVars_none hV
  have key : Calls Try.prog 15 args W fun e w' => e = .returned (.bool true) ∧ Below W.heap.size W w' := by
    have := (row Ds hT).calls (Olds W) W args.toList (fun _ h => h) hR
    simpa using this
  refine key.mono fun e W' ⟨he, bel⟩ => ?_
  subst he
  exact ⟨_, rfl, _, _, _, [], _, [], hW', trodAll_mk1 (shut_bool Try.underlying4 _), hB W' bel, rfl, bel.frame _, fun h => by cases h⟩

theorem closed : joinedFacts Try.checked.prog 15 Try.f15 Rows.bookTrainsSpec Rows.bookTrainsRow = true :=
  joined_of (by kernel_rfl) c_laid c_maps (by kernel_rfl) (by kernel_rfl) rfl c_stops rfl c_knobs (by kernel_rfl) (by kernel_rfl) (by kernel_rfl) (by kernel_rfl) (by kernel_rfl) (by kernel_rfl) (by kernel_rfl) (by kernel_rfl) (by kernel_rfl) (by kernel_rfl) (by kernel_rfl) (by kernel_rfl) (by kernel_rfl)
    (by kernel_rfl) rfl c_heard enters lifts cut rfl rfl rfl (by kernel_rfl) (by kernel_rfl)

theorem over : Rows.bookTrainsRow.holds Try.pinned (OpenSpec.ofChange Rows.bookTrainsSpec) :=
  OpenClaim.holds_of_wide 15 Try.f15 rfl rfl rfl rfl rfl rfl rfl ⟨rfl, rfl, rfl, rfl, rfl⟩ rfl rfl rfl rfl rfl (by kernel_rfl) Try.func15 closed
    (of_decide_eq_true (by kernel_rfl)) (by unfold Func.isWrapper; rw [if_neg (by decide +kernel)]; exact ⟨rfl, rfl⟩)
    (fun os started H enc _ => lifted os started H enc)
end Go.Proofs.Ytpkampecmlpfmaa.T.BookTrains
namespace Go.Proofs.Ytpkampecmlpfmaa
theorem bookTrains_holds : Rows.BookTrainsSaid := T.BookTrains.over
end Go.Proofs.Ytpkampecmlpfmaa
