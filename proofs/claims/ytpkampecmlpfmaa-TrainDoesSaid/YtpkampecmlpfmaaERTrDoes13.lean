import Derived.Test.YtpkampecmlpfmaaRows
import Derived.Test.YtpkampecmlpfmaaK3
import Derived.Test.YtpkampecmlpfmaaLE
import Derived.Test.YtpkampecmlpfmaaEG1H
import Derived.Test.YtpkampecmlpfmaaK4
import Derived.Test.YtpkampecmlpfmaaK1
/- For whatever arguments the program's law cuvette/cuvettelaw13.TrainDoes returns true and its input reads as it did; no condition. -/
namespace Go.Proofs.Ytpkampecmlpfmaa.T.TrainDoes
open Go Go.VL Go.Proofs Go.Proofs.Ytpkampecmlpfmaa.T Go.Proofs.Ytpkampecmlpfmaa
open Go.ChangeShapes Go.WideShapes Go.ChangeAt Go.RowKit
open Go.ChangeMaps (open_string shut_string)
set_option linter.unusedVariables false

theorem row (Ds : List D) (h : Ty.hasAll [.int .i64, .st [.int .u64, .int .i64, .sl (.sl (.int .i16))], .st [.int .u64, .int .i64, .sl (.sl (.int .i16))], .st [.int .i64, .sl (.int .i64), .sl (.sl (.int .i16))], .int .i64, .int .i64, .st [.int .i64, .sl (.sl (.int .i16))]] Ds) : Fun Try.prog 22 Ds fun r => r = .v (.bool true) := by
  obtain ⟨c0, _, rfl, h0, c1, _, rfl, h1, c2, _, rfl, h2, c3, _, rfl, h3, c4, _, rfl, h4, c5, _, rfl, h5, c6, _, rfl, h6, rfl⟩ := h
  obtain ⟨n0, e0, w0⟩ := has_int h0
  obtain ⟨n1, a1, l1, e1, w1, ww1, www1⟩ := has_train h1
  obtain ⟨n2, a2, l2, e2, w2, ww2, www2⟩ := has_train h2
  obtain ⟨n3, l3, m3, e3, w3, ww3, www3⟩ := has_slots h3
  obtain ⟨n4, e4, w4⟩ := has_int h4
  obtain ⟨n5, e5, w5⟩ := has_int h5
  obtain ⟨n6, l6, e6, w6, ww6⟩ := has_book h6
  rw [e0, e1, e2, e3, e4, e5, e6]
  exact trainDoes_law sorted16 n0 n1 a1 l1 n2 a2 l2 n3 l3 m3 n4 n5 n6 l6 (wf_i64 w0).2 ⟨(wf_u64 w1).1, by have := (wf_u64 w1).2; omega⟩ (rr16 www1) (rr16 ww6)

set_option maxRecDepth 100000 in
theorem lifted (os : Os) (started : os.Started) (H : Type) (enc : TypeId × Value → H) :
    ReturnsInHanded {} Try.checked os 22 .any (Rows.trainDoesSpec.pre6 enc Try.prog Try.f22 Rows.trainDoesRow.domain false) (Rows.trainDoesSpec.post enc Try.prog Try.f22 false true false false) := by
  refine returnsInHanded_of_change (C := Try.checked) own started (by kernel_rfl) Try.func22
    (ChangeSpec.witness6 (enc := enc) (C := Try.checked) false ⟨#[], #[.int .i64 0, .agg #[.int .u64 0, .int .i64 0, .slice none 0 0], .agg #[.int .u64 0, .int .i64 0, .slice none 0 0], .agg #[.int .i64 0, .slice none 0 0, .slice none 0 0], .int .i64 0, .int .i64 0, .agg #[.int .i64 0, .slice none 0 0]], []⟩ 8 (by kernel_rfl) (by kernel_rfl) (by kernel_rfl) (by kernel_rfl)) ?_
  intro W base args ds gs before hval0 hW hcnd _
  have hval : ∀ (j : Nat) t v, Try.f22.params[j]? = some t → args[j]? = some v → Value.okWide Try.prog W .any base t v := hval0
  have hW' := hW
  obtain ⟨p, q, hA0, hV, rfl, hfz, hnd⟩ := hW
  have hA : DataW.TrodAll enc Try.prog W 0 (fun _ => true) true Try.f22.params.toList args.toList ds p := hA0
  obtain ⟨Ds, hR, hT⟩ := args_read [.int .i64, .st [.int .u64, .int .i64, .sl (.sl (.int .i16))], .st [.int .u64, .int .i64, .sl (.sl (.int .i16))], .st [.int .i64, .sl (.int .i64), .sl (.sl (.int .i16))], .int .i64, .int .i64, .st [.int .i64, .sl (.sl (.int .i16))]] Try.f22.params.toList args.toList ds p (by kernel_rfl) (fun j t v ht hv => hval j t v (by simpa using ht) (by simpa using hv)) hA
  have hB : ∀ W', Below W.heap.size W W' → DataW.TrodAll enc Try.prog W' 0 (fun b => decide (b < W.heap.size)) true Try.f22.params.toList args.toList ds p := fun W' hb => args_back laidOut hb _ _ _ _ (by kernel_rfl) hA
  have hl0 : ds.length = 7 := (trodAll_len _ _ _ _ hA).trans (by kernel_rfl)
  obtain ⟨d0, ds1, rfl, hl1⟩ := cons_of hl0
  obtain ⟨d1, ds2, rfl, hl2⟩ := cons_of hl1
  obtain ⟨d2, ds3, rfl, hl3⟩ := cons_of hl2
  obtain ⟨d3, ds4, rfl, hl4⟩ := cons_of hl3
  obtain ⟨d4, ds5, rfl, hl5⟩ := cons_of hl4
  obtain ⟨d5, ds6, rfl, hl6⟩ := cons_of hl5
  obtain ⟨d6, ds7, rfl, hl7⟩ := cons_of hl6
  obtain rfl := nil_of hl7
  obtain ⟨rfl, rfl⟩ := trodVars_none hV
  have key : Calls Try.prog 22 args W fun e w' => e = .returned (.bool true) ∧ Below W.heap.size W w' := by
    have := (row Ds hT).calls (Olds W) W args.toList (fun _ h => h) hR
    simpa using this
  refine key.mono fun e W' ⟨he, bel⟩ => ?_
  subst he
  exact ⟨_, rfl, _, _, _, [], _, [], hW', trodAll_mk1 (shut_bool Try.underlying4 _), hB W' bel, rfl, bel.frame _, fun h => by cases h⟩

theorem closed : joinedFacts Try.checked.prog 22 Try.f22 Rows.trainDoesSpec Rows.trainDoesRow = true :=
  joined_of (by kernel_rfl) c_laid c_maps (by kernel_rfl) (by kernel_rfl) rfl c_stops rfl c_knobs (by kernel_rfl) (by kernel_rfl) (by kernel_rfl) (by kernel_rfl) (by kernel_rfl) (by kernel_rfl) (by kernel_rfl) (by kernel_rfl) (by kernel_rfl) (by kernel_rfl) (by kernel_rfl) (by kernel_rfl) (by kernel_rfl)
    (by kernel_rfl) rfl c_heard enters lifts cut rfl rfl rfl (by kernel_rfl) (by kernel_rfl)

theorem over : Rows.trainDoesRow.holds Try.pinned (OpenSpec.ofChange Rows.trainDoesSpec) :=
  OpenClaim.holds_of_wide 22 Try.f22 rfl rfl rfl rfl rfl rfl rfl ⟨rfl, rfl, rfl, rfl, rfl⟩ rfl rfl rfl rfl rfl (by kernel_rfl) Try.func22 closed
    (of_decide_eq_true (by kernel_rfl)) (by unfold Func.isWrapper; rw [if_neg (by decide +kernel)]; exact ⟨rfl, rfl⟩)
    (fun os started H enc _ => lifted os started H enc)
end Go.Proofs.Ytpkampecmlpfmaa.T.TrainDoes
namespace Go.Proofs.Ytpkampecmlpfmaa
theorem trainDoes_holds : Rows.TrainDoesSaid := T.TrainDoes.over
end Go.Proofs.Ytpkampecmlpfmaa
