import Derived.Test.YtfmeiapglpphpaaQRow
import Derived.Test.YtfmeiapglpphpaaCParts
/- Slots and codes as arguments. -/
namespace Go.VL
open Go Go.RowKit Go.Proofs.Ytfmeiapglpphpaa.T
theorem has_slots {ds : List D} (h : (Ty.st [.int .i64, .sl (.int .i64), .sl (.sl (.int .i16))]).has ds) : ∃ (w : Int) (l : List Int) (c : List (List Int)), (Ty.st [.int .i64, .sl (.int .i64), .sl (.sl (.int .i16))]).wrap ds = .agg [.v (.int .i64 w), .lst (ints .i64 l), .lst (rows .i16 c)] ∧
    (Lit.int .i64 w).wf = true ∧ (∀ n ∈ l, (Lit.int .i64 n).wf = true) ∧ ∀ x ∈ c, ∀ n ∈ x, (Lit.int .i16 n).wf = true := by
  obtain ⟨a, b, rfl, h1, b1, b2, rfl, h2, b3, b4, rfl, h4, h5⟩ := h
  obtain ⟨w, rfl, hw⟩ := h1
  obtain ⟨els, rfl, h2⟩ := h2
  obtain ⟨els4, rfl, h4⟩ := h4
  have h5 : b4 = [] := h5
  subst h5
  obtain ⟨l, e, hl⟩ := has_ints (ds := [.lst (els.map (Ty.int .i64).wrap)]) ⟨els, rfl, h2⟩
  obtain ⟨c, e4, hc⟩ := has_rows (ds := [.lst (els4.map (Ty.sl (.int .i16)).wrap)]) ⟨els4, rfl, h4⟩
  refine ⟨w, l, c, ?_, hw, hl, hc⟩
  have e' : D.lst (els.map (Ty.int .i64).wrap) = .lst (ints .i64 l) := e
  have e4' : D.lst (els4.map (Ty.sl (.int .i16)).wrap) = .lst (rows .i16 c) := e4
  show D.agg ([.v (.int .i64 w)] ++ ([.lst (els.map (Ty.int .i64).wrap)] ++ ([.lst (els4.map (Ty.sl (.int .i16)).wrap)] ++ []))) = _
  rw [e', e4']
  rfl
theorem has_code {ds : List D} (h : (Ty.st [.bool, .sl (.int .u8)]).has ds) : ∃ c : CodeV, (Ty.st [.bool, .sl (.int .u8)]).wrap ds = codeD c ∧ ∀ n ∈ c.2, (Lit.int .u8 n).wf = true := by
  obtain ⟨a, b, rfl, h1, b1, b2, rfl, h2, h3⟩ := h
  obtain ⟨w, rfl⟩ := h1
  obtain ⟨els, rfl, h2⟩ := h2
  have h3 : b2 = [] := h3
  subst h3
  obtain ⟨l, e, hl⟩ := has_ints (ds := [.lst (els.map (Ty.int .u8).wrap)]) ⟨els, rfl, h2⟩
  refine ⟨(w, l), ?_, hl⟩
  have e' : D.lst (els.map (Ty.int .u8).wrap) = .lst (ints .u8 l) := e
  show D.agg ([.v (.bool w)] ++ ([.lst (els.map (Ty.int .u8).wrap)] ++ [])) = _
  rw [e']
  rfl
theorem has_codes {ds : List D} (h : (Ty.sl (.st [.bool, .sl (.int .u8)])).has ds) : ∃ l : List CodeV, (Ty.sl (.st [.bool, .sl (.int .u8)])).wrap ds = .lst (gl codeD l) ∧ ∀ c ∈ l, ∀ n ∈ c.2, (Lit.int .u8 n).wf = true := by
  obtain ⟨els, rfl, h⟩ := h
  have key : ∀ els : List (List D), (∀ c ∈ els, (Ty.st [.bool, .sl (.int .u8)]).has c) → ∃ l : List CodeV, els.map (Ty.st [.bool, .sl (.int .u8)]).wrap = gl codeD l ∧ ∀ c ∈ l, ∀ n ∈ c.2, (Lit.int .u8 n).wf = true := by
    intro els
    induction els with
    | nil => intro _; exact ⟨[], rfl, fun c hc => absurd hc List.not_mem_nil⟩
    | cons e r ih =>
      intro h
      obtain ⟨l, h1, h2⟩ := ih fun c hc => h c (List.mem_cons_of_mem _ hc)
      obtain ⟨c, h3, h4⟩ := has_code (h e List.mem_cons_self)
      refine ⟨c :: l, by rw [List.map_cons, h1, h3]; rfl, fun x hx => ?_⟩
      rcases List.mem_cons.1 hx with rfl | hx
      · exact h4
      · exact h2 x hx
  obtain ⟨l, h1, h2⟩ := key els h
  refine ⟨l, ?_, h2⟩
  show D.lst (els.map (Ty.st [.bool, .sl (.int .u8)]).wrap) = _
  rw [h1]
end Go.VL
