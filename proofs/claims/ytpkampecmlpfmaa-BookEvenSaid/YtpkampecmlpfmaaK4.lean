import Derived.Test.YtpkampecmlpfmaaK3
section
set_option linter.unusedSimpArgs false
set_option linter.unusedVariables false
/- slices.Sort, walked. -/
namespace Go.Proofs.Ytpkampecmlpfmaa.T
open Go Go.VL Go.Proofs
set_option maxRecDepth 100000
set_option maxHeartbeats 8000000

theorem sort16 (l : List Int) (hl : l.length ≤ 60000) : FunL Try.prog 138 [.ref 0 l.length] [own16 l] fun r os => r = .tup [] ∧ os = [own16 (sortI l)] := by
  refine FunL.of_awpI [(100000, 0)] rfl Try.func138 rfl cal138 Try.ntmps138 (by simp) fun hwf hlw ls => ?_
  simp only [lentWf, D.wfs, D.wf, ints_length, ints_wfs, rows_length, rows_wfs, capMax, and_true, true_and] at hwf hlw
  have hbl := bitsLen_fun l.length (by omega)
  repeat' (first | simp only [go_sem, Ret_eq Try.results138] | simp (disch := omega) only [arith, IntKind.bits, capMax, fill_len, elt_fill] | (refine opCallI_gv (by simp only [go_sem, Ret_eq Try.results138]; first | done | rfl) (hbl) ?_; rintro _ ⟨n, rfl, hn⟩) | fail)
  have hp : SortsL16 _ l 0 l.length n := pdq16 l.length l 0 l.length n (by omega) (Nat.zero_le _) (Nat.le_refl _) hl (by have := hn.1; omega) (.inl rfl)
  unfold SortsL16 at hp
  rw [show ((0 : Nat) : Int) = 0 from rfl] at hp
  refine opCallI_lend [0] (by simp only [go_sem, Ret_eq Try.results138]; first | done | rfl) (by simp only [go_sem, Ret_eq Try.results138]; first | done | rfl) (by decide) (by simp only [go_sem, Ret_eq Try.results138]; first | done | decide) (by simp only [go_sem, Ret_eq Try.results138]; first | done | decide) hp ?_
  rintro _ _ ⟨rfl, l2, rfl, s2, d2⟩
  have e := sortI_of s2 d2
  subst e
  repeat' (first | simp only [go_sem, Ret_eq Try.results138] | refine RetL_calc Try.results138 rfl ?_ | fail)
  all_goals first | exact ⟨rfl, rfl⟩ | rfl
end Go.Proofs.Ytpkampecmlpfmaa.T

end
section
set_option linter.unusedSimpArgs false
set_option linter.unusedVariables false
/- slices.Sorted over slices.Values at int16, walked. -/
namespace Go.Proofs.Ytpkampecmlpfmaa.T
open Go Go.VL Go.Proofs
set_option maxRecDepth 100000
set_option maxHeartbeats 8000000

theorem sorted16 : Sorted16 := by
  intro l h1 h2
  have hcol := collect16_fun l h1 h2
  have hso := sort16 l h2
  have hsl := sortI_length l
  refine FunO.of_awpI Try.func89 rfl cal89 Try.ntmps89 (by simp) fun hwf => ?_
  simp only [D.wfs, D.wf, ints_length, ints_wfs, rows_length, rows_wfs, capMax, and_true, true_and] at hwf
  repeat' (first | simp only [go_sem, Ret_eq Try.results89] | (refine opCallI_ownGv (by simp only [go_sem, Ret_eq Try.results89]; first | done | rfl) (hcol) ?_; rintro _ _ ⟨rfl, rfl⟩) | fail)
  refine opCallI_lend [5] (by simp only [go_sem, Ret_eq Try.results89]; first | done | rfl) (by simp only [go_sem, Ret_eq Try.results89]; first | done | rfl) (by decide) (by simp only [go_sem, Ret_eq Try.results89]; first | done | decide) (by simp only [go_sem, Ret_eq Try.results89]; first | done | decide) hso ?_
  rintro _ _ ⟨rfl, rfl⟩
  repeat' (first | simp only [go_sem, hsl, Ret_eq Try.results89] | refine RetO_calc Try.results89 ?_ | fail)
end Go.Proofs.Ytpkampecmlpfmaa.T

end
section
/- A book as an argument. -/
namespace Go.VL
open Go Go.RowKit
theorem has_book {ds : List D} (h : (Ty.st [.int .i64, .sl (.sl (.int .i16))]).has ds) : ∃ (w : Int) (c : List (List Int)), (Ty.st [.int .i64, .sl (.sl (.int .i16))]).wrap ds = .agg [.v (.int .i64 w), .lst (rows .i16 c)] ∧
    (Lit.int .i64 w).wf = true ∧ ∀ x ∈ c, ∀ n ∈ x, (Lit.int .i16 n).wf = true := by
  obtain ⟨a, b, rfl, h1, b1, b2, rfl, h2, h3⟩ := h
  obtain ⟨w, rfl, hw⟩ := h1
  obtain ⟨els, rfl, h2⟩ := h2
  have h3 : b2 = [] := h3
  subst h3
  obtain ⟨l, e, hl⟩ := has_rows (ds := [.lst (els.map (Ty.sl (.int .i16)).wrap)]) ⟨els, rfl, h2⟩
  refine ⟨w, l, ?_, hw, hl⟩
  have e' : D.lst (els.map (Ty.sl (.int .i16)).wrap) = .lst (rows .i16 l) := e
  show D.agg ([.v (.int .i64 w)] ++ ([.lst (els.map (Ty.sl (.int .i16)).wrap)] ++ [])) = _
  rw [e']
  rfl
end Go.VL

end
