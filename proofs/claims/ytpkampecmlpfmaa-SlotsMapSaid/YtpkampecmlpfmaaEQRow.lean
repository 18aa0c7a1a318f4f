import Derived.Test.YtpkampecmlpfmaaLE
/- A book as an argument. -/
namespace Go.VL
open Go Go.RowKit
theorem has_book {ds : List D} (h : (Ty.st [.int .i64, .sl (.sl (.int .i16))]).has ds) : ∃ (w : Int) (c : List (List Int)), (Ty.st [.int .i64, .sl (.sl (.int .i16))]).wrap ds = .agg [.v (.int .i64 w), .lst (rows .i16 c)] ∧
    (Lit.int .i64 w).wf = true ∧ ∀ x ∈ c, ∀ n ∈ x, (Lit.int .i16 n).wf = true := by
  obtain ⟨a, b, rfl, h1, b1, b2, rfl, h2, h3⟩ := h
  obtain ⟨w, rfl, hw⟩ := h1
  obtain ⟨els, rfl, h2⟩ := h2
  have h3 : b2 = [] := h3
  subst h3
  obtain ⟨l, e, hl⟩ := has_rows (ds := [.lst (els.map (Ty.sl (.int .i16)).wrap)]) ⟨els, rfl, h2⟩
  refine ⟨w, l, ?_, hw, hl⟩
  have e' : D.lst (els.map (Ty.sl (.int .i16)).wrap) = .lst (rows .i16 l) := e
  show D.agg ([.v (.int .i64 w)] ++ ([.lst (els.map (Ty.sl (.int .i16)).wrap)] ++ [])) = _
  rw [e']
  rfl
end Go.VL
