import Derived.Test.YtpkampecmlpfmaaESRow
import Derived.Test.YtpkampecmlpfmaaESMap
/- What is done with slots, as arguments. -/
namespace Go.VL
open Go Go.RowKit Go.Proofs.Ytpkampecmlpfmaa.T
theorem has_op {ds : List D} (h : (Ty.st [.int .i64, .int .i64, .int .i16]).has ds) : ∃ o : OpV, (Ty.st [.int .i64, .int .i64, .int .i16]).wrap ds = opvD o := by
  obtain ⟨a, b, rfl, h1, b1, b2, rfl, h2, b3, b4, rfl, h4, h5⟩ := h
  obtain ⟨w, rfl, _⟩ := h1
  obtain ⟨u, rfl, _⟩ := h2
  obtain ⟨x, rfl, _⟩ := h4
  have h5 : b4 = [] := h5
  subst h5
  exact ⟨(w, u, x), rfl⟩
theorem has_ops {ds : List D} (h : (Ty.sl (.st [.int .i64, .int .i64, .int .i16])).has ds) : ∃ l : List OpV, (Ty.sl (.st [.int .i64, .int .i64, .int .i16])).wrap ds = .lst (gl opvD l) := by
  obtain ⟨els, rfl, h⟩ := h
  have key : ∀ els : List (List D), (∀ c ∈ els, (Ty.st [.int .i64, .int .i64, .int .i16]).has c) → ∃ l : List OpV, els.map (Ty.st [.int .i64, .int .i64, .int .i16]).wrap = gl opvD l := by
    intro els
    induction els with
    | nil => intro _; exact ⟨[], rfl⟩
    | cons e r ih =>
      intro h
      obtain ⟨l, h1⟩ := ih fun c hc => h c (List.mem_cons_of_mem _ hc)
      obtain ⟨c, h3⟩ := has_op (h e List.mem_cons_self)
      exact ⟨c :: l, by rw [List.map_cons, h1, h3]; rfl⟩
  obtain ⟨l, h1⟩ := key els h
  refine ⟨l, ?_⟩
  show D.lst (els.map (Ty.st [.int .i64, .int .i64, .int .i16]).wrap) = _
  rw [h1]
end Go.VL
