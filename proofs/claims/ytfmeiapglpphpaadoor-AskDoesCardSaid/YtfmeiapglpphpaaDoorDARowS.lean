import Derived.Test.YtfmeiapglpphpaaDoorDARowL
/- What is asked as an argument, with its seed. -/
namespace Go.VL
open Go Go.RowKit Go.Proofs.YtfmeiapglpphpaaDoor.T
theorem has_askS {ds : List D} (h : (Ty.st [.int .i64, .int .i64, .int .i64, .int .i64, .sl (.int .i16)]).has ds) : ∃ (k id n s : Int) (v : List Int), (Ty.st [.int .i64, .int .i64, .int .i64, .int .i64, .sl (.int .i16)]).wrap ds = askD k id n s v ∧
    ((Lit.int .i64 n).wf = true ∧ (Lit.int .i64 s).wf = true) ∧ ∀ x ∈ v, (Lit.int .i16 x).wf = true := by
  obtain ⟨a1, b1, rfl, h1, a2, b2, rfl, h2, a3, b3, rfl, h3, a4, b4, rfl, h4, a5, b5, rfl, h5, h6⟩ := h
  obtain ⟨k, rfl, _⟩ := h1
  obtain ⟨id, rfl, _⟩ := h2
  obtain ⟨n, rfl, hn⟩ := h3
  obtain ⟨s, rfl, hs⟩ := h4
  obtain ⟨els, rfl, h5⟩ := h5
  have h6 : b5 = [] := h6
  subst h6
  obtain ⟨v, e, hv⟩ := has_ints (ds := [.lst (els.map (Ty.int .i16).wrap)]) ⟨els, rfl, h5⟩
  refine ⟨k, id, n, s, v, ?_, ⟨hn, hs⟩, hv⟩
  have e' : D.lst (els.map (Ty.int .i16).wrap) = .lst (ints .i16 v) := e
  show D.agg ([.v (.int .i64 k)] ++ ([.v (.int .i64 id)] ++ ([.v (.int .i64 n)] ++ ([.v (.int .i64 s)] ++ ([.lst (els.map (Ty.int .i16).wrap)] ++ []))))) = _
  rw [e']
  rfl
end Go.VL
