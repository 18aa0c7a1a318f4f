import Derived.Test.YtfmeiapglpphpaaDoorDASpec
import Derived.Test.YtfmeiapglpphpaaDoorLE
/- The table of shapes, read. -/
namespace Go.Proofs.YtfmeiapglpphpaaDoor.T
open Go Go.VL Go.Proofs
def shapesD : D := match theGlobs with | p :: _ => p.2 | [] => .any
theorem ev_shapes {st : St} : st.ev (.global 0) = .ptr shapesD := (rfl)
attribute [go_sem] ev_shapes
theorem shapes_width : shapesD.width = 36 := by decide
theorem part_shapes {k : Int} (h : kindOk k) : partOf shapesD (k.toNat * 4) 4 true = some (.agg [.v (.int .i64 (shI k)), .v (.int .i64 (shK k)), .v (.int .i64 (shS k)), .v (.bool (shV k))]) := by
  obtain ⟨h1, h2⟩ := h
  have : k = 1 ∨ k = 2 ∨ k = 3 ∨ k = 4 ∨ k = 5 ∨ k = 6 ∨ k = 7 ∨ k = 8 := by omega
  rcases this with rfl | rfl | rfl | rfl | rfl | rfl | rfl | rfl <;> rfl
end Go.Proofs.YtfmeiapglpphpaaDoor.T
