import Derived.Test.YtfmeiapglpphpaaDoorDARefDA1
import Derived.Test.YtfmeiapglpphpaaDoorDARefDA0
import Derived.Test.YtfmeiapglpphpaaDoorDARefDK
import Derived.Test.YtfmeiapglpphpaaDoorDARefDN
import Derived.Test.YtfmeiapglpphpaaDoorDARefDS
import Derived.Test.YtfmeiapglpphpaaDoorDPNum
set_option linter.unusedSimpArgs false
set_option linter.unusedVariables false
/- The law on what is asked: it does what the document says. -/
namespace Go.Proofs.YtfmeiapglpphpaaDoor.T
open Go Go.VL Go.Proofs
set_option maxRecDepth 100000
set_option maxHeartbeats 8000000
theorem refRead18_own (b : List Int) (dim slots : Int) (ho : Octets b) (hbl : b.length ≤ 65536) : FunO Tryd.prog 11 [.lst (ints .u8 b), .v (.int .i64 dim), .v (.int .i64 slots)] (ReadR b dim slots) := by
  by_cases h : sizesOk dim slots
  · by_cases hf : 1 ≤ b.length ∧ kindOk (b.getD 0 0)
    · rcases shapes_five hf.2 with ⟨e1, e2, e3, e4⟩ | ⟨e1, e2, e3, e4⟩ | ⟨e1, e2, e3, e4⟩ | ⟨e1, e2, e3, e4⟩ | ⟨e1, e2, e3, e4⟩
      · exact refRead18_A1 b dim slots h hf.1 hbl ho hf.2 e1 e2 e3 e4
      · exact refRead18_A0 b dim slots h hf.1 hbl ho hf.2 e1 e2 e3 e4
      · exact refRead18_K b dim slots h hf.1 hbl ho hf.2 e1 e2 e3 e4
      · exact refRead18_N b dim slots h hf.1 hbl ho hf.2 e1 e2 e3 e4
      · exact refRead18_S b dim slots h hf.1 hbl ho hf.2 e1 e2 e3 e4
    · exact refRead18_head b dim slots ho h hf
  · exact refRead18_sizes b dim slots h
theorem refRead18_ok (b : List Int) (dim slots : Int) (ho : Octets b) (hbl : b.length ≤ 65536) (h : readErr b dim slots = 0) : Fun Tryd.prog 11 [.lst (ints .u8 b), .v (.int .i64 dim), .v (.int .i64 slots)] fun r =>
    r = .tup [askD (b.getD 0 0) (rId b) (rK b) (rSeed b) (rV b), .v (.int .i64 0)] := by
  refine (refRead18_own b dim slots ho hbl).toFun ?_
  rintro r o (⟨q, _, _⟩ | ⟨_, q, rfl, rfl⟩ | ⟨_, q, rfl, rfl⟩)
  · exact absurd h q
  · have := List.length_eq_zero_iff.1 q
    rw [this]; rfl
  · refine ⟨by simp only [go_sem], by simp only [go_sem], ?_⟩
    simp only [go_sem]
theorem refRead18_bad (b : List Int) (dim slots : Int) (ho : Octets b) (hbl : b.length ≤ 65536) (h : readErr b dim slots ≠ 0) : Fun Tryd.prog 11 [.lst (ints .u8 b), .v (.int .i64 dim), .v (.int .i64 slots)] fun r =>
    r = .tup [askD 0 0 0 0 [], .v (.int .i64 (readErr b dim slots))] := by
  refine (refRead18_own b dim slots ho hbl).toFun ?_
  rintro r o (⟨q, rfl, rfl⟩ | ⟨q, _⟩ | ⟨q, _⟩)
  · rfl
  · exact absurd q h
  · exact absurd q h
theorem read18_mine (b : List Int) (dim slots : Int) (ho : Octets b) (hbl : b.length ≤ 65536) (h : readErr b dim slots = 0) (hv : (rV b).length ≠ 0) : FunO Tryd.prog 9 [.lst (ints .u8 b), .v (.int .i64 dim), .v (.int .i64 slots)] fun r o =>
    r = .tup [.agg [.v (.int .i64 (b.getD 0 0)), .v (.int .i64 (rId b)), .v (.int .i64 (rK b)), .v (.int .i64 (rSeed b)), .ref 0 (rV b).length], .v (.int .i64 0)] ∧ o = some ⟨38, 1, ints .i16 (rV b)⟩ := by
  refine FunO.mono (read18_own b dim slots ho hbl) ?_
  rintro r o (⟨q, _, _⟩ | ⟨_, q, _⟩ | ⟨_, _, h1, h2⟩)
  · exact absurd h q
  · exact absurd q hv
  · exact ⟨h1, h2⟩
end Go.Proofs.YtfmeiapglpphpaaDoor.T
