/- For whatever arguments the program's law cuvette/cuvettelaw18.AskDoes returns true and its input reads as it did; no condition. -/
import Derived.Test.YtfmeiapglpphpaaDoorRows
import Derived.Test.YtfmeiapglpphpaaDoorTie
import Derived.Test.YtfmeiapglpphpaaDoorCards
import Derived.Test.YtfmeiapglpphpaaDoorDADoes
import Derived.Test.YtfmeiapglpphpaaDoorDALaid
import Derived.Test.YtfmeiapglpphpaaDoorDARowS
import Derived.Test.YtfmeiapglpphpaaDoorLE
import Derived.Test.YtfmeiapglpphpaaDoorDG1H
namespace Go.Proofs.YtfmeiapglpphpaaDoor.T.AskDoes
open Go Go.VL Go.Proofs Go.Proofs.YtfmeiapglpphpaaDoor.T Go.Proofs.YtfmeiapglpphpaaDoor
open Go.ChangeShapes Go.WideShapes Go.ChangeAt Go.RowKit
open Go.ChangeMaps (open_string shut_string)
set_option linter.unusedVariables false

theorem row (Ds : List D) (h : Ty.hasAll [.st [.int .i64, .int .i64, .int .i64, .int .i64, .sl (.int .i16)], .st [.int .i64, .int .i64, .int .i64, .int .i64, .sl (.int .i16)], .sl (.int .u8), .int .i64, .int .i64, .int .i64] Ds) : Fun Tryd.prog 4 Ds fun r => r = .v (.bool true) := by
  obtain ⟨c0, _, rfl, h0, c1, _, rfl, h1, c2, _, rfl, h2, c3, _, rfl, h3, c4, _, rfl, h4, c5, _, rfl, h5, rfl⟩ := h
  obtain ⟨k0, i0, n0, s0, l0, e0, w0, ww0⟩ := has_askS h0
  obtain ⟨k1, i1, n1, s1, l1, e1, w1, ww1⟩ := has_askS h1
  obtain ⟨l2, e2, w2⟩ := has_ints h2
  obtain ⟨n3, e3, w3⟩ := has_int h3
  obtain ⟨n4, e4, w4⟩ := has_int h4
  obtain ⟨n5, e5, w5⟩ := has_int h5
  rw [e0, e1, e2, e3, e4, e5]
  exact askDoes_law k0 i0 n0 s0 l0 k1 i1 n1 s1 l1 l2 n3 n4 n5 (r16 ww0) (r8 w2) (wf_i64 w0.1) (wf_i64 w0.2).2

set_option maxRecDepth 100000 in
theorem lifted (os : Os) (started : os.Started) (H : Type) (enc : TypeId × Value → H) :
    ReturnsInHanded {} Tryd.checked os 4 .any (fun w args => (Rows.askDoesSpec.pre enc Tryd.prog Tryd.f4 Rows.askDoesRow.domain false w args ∧ laidMetH Tryd.prog Rows.askDoesRow.laid w) ∧ sizedMet enc Tryd.prog Tryd.f4 (OpenSpec.ofChange Rows.askDoesSpec) false w args) (Rows.askDoesSpec.post enc Tryd.prog Tryd.f4 false true false false) := by
  refine returnsInHanded_of_change_and (C := Tryd.checked) (X := fun w _ => laidMetH Tryd.prog Rows.askDoesRow.laid w) (fun _ _ _ hh h => h.of_heap hh) own started (by kernel_rfl) Tryd.func4
    (ChangeSpec.witness_at (enc := enc) (C := Tryd.checked) (os := os) (X := fun w _ => laidMetH Tryd.prog Rows.askDoesRow.laid w) false (laidWorld os) #[.agg #[.int .i64 0, .int .i64 0, .int .i64 0, .int .i64 0, .slice none 0 0], .agg #[.int .i64 0, .int .i64 0, .int .i64 0, .int .i64 0, .slice none 0 0], .slice none 0 0, .int .i64 0, .int .i64 0, .int .i64 0] 8 rfl (by kernel_rfl) (by kernel_rfl) (by kernel_rfl) (by kernel_rfl) (by kernel_rfl) (laidWorld_met os _)) ?_
  intro W base args ds gs before hval0 hW hcnd _ hL _
  have hval : ∀ (j : Nat) t v, Tryd.f4.params[j]? = some t → args[j]? = some v → Value.okWide Tryd.prog W .any base t v := hval0
  have hW' := hW
  obtain ⟨p, q, hA0, hV, rfl, hfz, hnd⟩ := hW
  have hA : DataW.TrodAll enc Tryd.prog W 0 (fun _ => true) true Tryd.f4.params.toList args.toList ds p := hA0
  obtain ⟨Ds, hR, hT⟩ := args_read [.st [.int .i64, .int .i64, .int .i64, .int .i64, .sl (.int .i16)], .st [.int .i64, .int .i64, .int .i64, .int .i64, .sl (.int .i16)], .sl (.int .u8), .int .i64, .int .i64, .int .i64] Tryd.f4.params.toList args.toList ds p (by kernel_rfl) (fun j t v ht hv => hval j t v (by simpa using ht) (by simpa using hv)) hA
  have hB : ∀ W', Below W.heap.size W W' → DataW.TrodAll enc Tryd.prog W' 0 (fun b => decide (b < W.heap.size)) true Tryd.f4.params.toList args.toList ds p := fun W' hb => args_back laidOut hb _ _ _ _ (by kernel_rfl) hA
  have hl0 : ds.length = 6 := (trodAll_len _ _ _ _ hA).trans (by kernel_rfl)
  obtain ⟨d0, ds1, rfl, hl1⟩ := cons_of hl0
  obtain ⟨d1, ds2, rfl, hl2⟩ := cons_of hl1
  obtain ⟨d2, ds3, rfl, hl3⟩ := cons_of hl2
  obtain ⟨d3, ds4, rfl, hl4⟩ := cons_of hl3
  obtain ⟨d4, ds5, rfl, hl5⟩ := cons_of hl4
  obtain ⟨d5, ds6, rfl, hl6⟩ := cons_of hl5
  obtain rfl := nil_of hl6
  obtain ⟨rfl, rfl⟩ := trodVars_none hV
  have key : Calls Tryd.prog 4 args W fun e w' => e = .returned (.bool true) ∧ Below W.heap.size W w' := by
    have := (row Ds hT).calls (Olds W) W args.toList (fun _ h => h) hR (laid_of hL)
    simpa using this
  refine key.mono fun e W' ⟨he, bel⟩ => ?_
  subst he
  exact ⟨_, rfl, _, _, _, [], _, [], hW', trodAll_mk1 (shut_bool Tryd.underlying4 _), hB W' bel, rfl, bel.frame _, fun h => by cases h⟩

theorem closed : joinedFacts Tryd.checked.prog 4 Tryd.f4 Rows.askDoesSpec Rows.askDoesRow = true :=
  joined_of (by kernel_rfl) c_laid c_maps (by kernel_rfl) (by kernel_rfl) rfl c_stops rfl c_knobs (by kernel_rfl) (by kernel_rfl) (by kernel_rfl) (by kernel_rfl) (by kernel_rfl) (by kernel_rfl) (by kernel_rfl) (by kernel_rfl) (by kernel_rfl) (by kernel_rfl) (by kernel_rfl) (by kernel_rfl) (by kernel_rfl)
    (by kernel_rfl) rfl c_heard enters lifts cut rfl rfl rfl (by kernel_rfl) (by kernel_rfl)

theorem over : Rows.askDoesRow.holds Tryd.pinned (OpenSpec.ofChange Rows.askDoesSpec) :=
  OpenClaim.holds_of_wide 4 Tryd.f4 rfl rfl rfl rfl rfl rfl rfl ⟨rfl, rfl, rfl, rfl, rfl⟩ rfl rfl rfl rfl rfl (by kernel_rfl) Tryd.func4 closed
    (of_decide_eq_true (by kernel_rfl)) (by unfold Func.isWrapper; rw [if_neg (by decide +kernel)]; exact ⟨rfl, rfl⟩)
    (fun os started H enc _ => lifted os started H enc)
end Go.Proofs.YtfmeiapglpphpaaDoor.T.AskDoes
namespace Go.Proofs.YtfmeiapglpphpaaDoor
open Go Go.Proofs.YtfmeiapglpphpaaDoor.T
theorem askDoes_holds : Rows.AskDoesCardSaid :=
  Claim7.holds_tied_plain_at .later [] [.data] true (true, "7aaceef8a988237838066eb18011e9644a2d2dbe1f332f062ff80556b4a4b30f") false
    T.AskDoes.over (fun _ h => by cases h) (by kernel_rfl) (fun _ h => by cases h) askDoes_row_tie rfl ⟨rfl, rfl⟩ (by kernel_rfl) rfl
    (fun f fn hf hfn => by
      obtain rfl : f = 4 := Option.some.inj ((show Tryd.prog.funcNamed "cuvette/cuvettelaw18.AskDoes" = some 4 by kernel_rfl).symm.trans hf) |>.symm
      obtain rfl : fn = Tryd.f4 := (Option.some.inj (Tryd.func4.symm.trans hfn)).symm
      exact ⟨by kernel_rfl, fun j t ht => by
        have hall : (Tryd.f4.params.toList.all fun t => !Tryd.prog.wantsStandIn t) = true := by kernel_rfl
        rw [List.all_eq_true] at hall
        have hm : t ∈ Tryd.f4.params.toList := by
          rw [← Array.getElem?_toList] at ht
          exact List.mem_of_getElem? ht
        have hw : Tryd.prog.wantsStandIn t = false := by simpa using hall t hm
        exact hw⟩)
    (by kernel_rfl)
end Go.Proofs.YtfmeiapglpphpaaDoor
