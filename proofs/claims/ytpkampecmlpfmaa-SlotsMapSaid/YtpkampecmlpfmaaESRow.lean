import Derived.Test.YtpkampecmlpfmaaEQRow
import Derived.Test.YtpkampecmlpfmaaECSlots
/- Slots, and what gathers a sample, as arguments. -/
namespace Go.VL
open Go Go.RowKit Go.Proofs.Ytpkampecmlpfmaa.T
theorem has_slots {ds : List D} (h : (Ty.st [.int .i64, .sl (.int .i64), .sl (.sl (.int .i16))]).has ds) : ∃ (w : Int) (l : List Int) (c : List (List Int)), (Ty.st [.int .i64, .sl (.int .i64), .sl (.sl (.int .i16))]).wrap ds = .agg [.v (.int .i64 w), .lst (ints .i64 l), .lst (rows .i16 c)] ∧
    (Lit.int .i64 w).wf = true ∧ (∀ n ∈ l, (Lit.int .i64 n).wf = true) ∧ ∀ x ∈ c, ∀ n ∈ x, (Lit.int .i16 n).wf = true := by
  obtain ⟨a, b, rfl, h1, b1, b2, rfl, h2, b3, b4, rfl, h4, h5⟩ := h
  obtain ⟨w, rfl, hw⟩ := h1
  obtain ⟨els, rfl, h2⟩ := h2
  obtain ⟨els4, rfl, h4⟩ := h4
  have h5 : b4 = [] := h5
  subst h5
  obtain ⟨l, e, hl⟩ := has_ints (ds := [.lst (els.map (Ty.int .i64).wrap)]) ⟨els, rfl, h2⟩
  obtain ⟨c, e4, hc⟩ := has_rows (ds := [.lst (els4.map (Ty.sl (.int .i16)).wrap)]) ⟨els4, rfl, h4⟩
  refine ⟨w, l, c, ?_, hw, hl, hc⟩
  have e' : D.lst (els.map (Ty.int .i64).wrap) = .lst (ints .i64 l) := e
  have e4' : D.lst (els4.map (Ty.sl (.int .i16)).wrap) = .lst (rows .i16 c) := e4
  show D.agg ([.v (.int .i64 w)] ++ ([.lst (els.map (Ty.int .i64).wrap)] ++ ([.lst (els4.map (Ty.sl (.int .i16)).wrap)] ++ []))) = _
  rw [e', e4']
  rfl
theorem has_train {ds : List D} (h : (Ty.st [.int .u64, .int .i64, .sl (.sl (.int .i16))]).has ds) : ∃ (w a : Int) (c : List (List Int)), (Ty.st [.int .u64, .int .i64, .sl (.sl (.int .i16))]).wrap ds = .agg [.v (.int .u64 w), .v (.int .i64 a), .lst (rows .i16 c)] ∧
    (Lit.int .u64 w).wf = true ∧ (Lit.int .i64 a).wf = true ∧ ∀ x ∈ c, ∀ n ∈ x, (Lit.int .i16 n).wf = true := by
  obtain ⟨a, b, rfl, h1, b1, b2, rfl, h2, b3, b4, rfl, h4, h5⟩ := h
  obtain ⟨w, rfl, hw⟩ := h1
  obtain ⟨y, rfl, hy⟩ := h2
  obtain ⟨els4, rfl, h4⟩ := h4
  have h5 : b4 = [] := h5
  subst h5
  obtain ⟨c, e4, hc⟩ := has_rows (ds := [.lst (els4.map (Ty.sl (.int .i16)).wrap)]) ⟨els4, rfl, h4⟩
  refine ⟨w, y, c, ?_, hw, hy, hc⟩
  have e4' : D.lst (els4.map (Ty.sl (.int .i16)).wrap) = .lst (rows .i16 c) := e4
  show D.agg ([.v (.int .u64 w)] ++ ([.v (.int .i64 y)] ++ ([.lst (els4.map (Ty.sl (.int .i16)).wrap)] ++ []))) = _
  rw [e4']
  rfl
end Go.VL
