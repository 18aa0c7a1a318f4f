import Derived.Test.YtfmeiapglpphpaaPBack
import Derived.Test.YtfmeiapglpphpaaVL24
/- The law, of what came in. -/
namespace Go.Proofs.Ytfmeiapglpphpaa.T
open Go Go.VL Go.Proofs
theorem packBack_row (Ds : List D) (h : Ty.hasAll [.sl (.int .u8), .sl (.int .u8), .int .i64, .sl (.int .i64), .int .i64] Ds) : Fun Try.prog 4 Ds fun r => r = .v (.bool true) := by
  obtain ⟨c0, _, rfl, h0, c1, _, rfl, h1, c2, _, rfl, h2, c3, _, rfl, h3, c4, _, rfl, h4, rfl⟩ := h
  obtain ⟨l0, e0, w0⟩ := has_ints h0
  obtain ⟨l1, e1, w1⟩ := has_ints h1
  obtain ⟨n2, e2, w2⟩ := has_int h2
  obtain ⟨l3, e3, w3⟩ := has_ints h3
  obtain ⟨n4, e4, w4⟩ := has_int h4
  rw [e0, e1, e2, e3, e4]
  exact packBack_law l0 l1 n2 l3 n4 (fun x hx => wf_i64 (w3 x hx)) (fun x hx => wf_u8 (w1 x hx))
end Go.Proofs.Ytfmeiapglpphpaa.T
