import Derived.Test.YtpkampecmlpfmaaLE
import Derived.Test.YtpkampecmlpfmaaEQMath
import Derived.Test.YtpkampecmlpfmaaEG1P
set_option linter.unusedSimpArgs false
set_option linter.unusedVariables false
/- How far a code may be: places, walked. -/
namespace Go.Proofs.Ytpkampecmlpfmaa.T
open Go Go.VL Go.Proofs
set_option maxRecDepth 100000
set_option maxHeartbeats 4000000
abbrev Place := Int × Int × Int
def placeD (p : Place) : D := .agg [.v (.int .i64 p.1), .v (.int .i64 p.2.1), .v (.int .i64 p.2.2)]
instance : PlainD placeD 3 := ⟨fun _ => rfl, fun _ => rfl, fun _ => rfl, fun _ => rfl⟩
theorem place_get {l : List Place} {i : Nat} (h : i < l.length) : (gl placeD l)[i]? = some (.agg [.v (.int .i64 (l.getD i (0, 0, 0)).1), .v (.int .i64 (l.getD i (0, 0, 0)).2.1), .v (.int .i64 (l.getD i (0, 0, 0)).2.2)]) := gl_get h
theorem place_set {l : List Place} {i : Nat} {a b c : Int} : (gl placeD l).set i (.agg [.v (.int .i64 a), .v (.int .i64 b), .v (.int .i64 c)]) = gl placeD (l.set i (a, b, c)) := gl_set (x := (a, b, c))
theorem place_replicate {n : Nat} {a b c : Int} : List.replicate n (D.agg [.v (.int .i64 a), .v (.int .i64 b), .v (.int .i64 c)]) = gl placeD (List.replicate n (a, b, c)) := gl_replicate (f := placeD) (x := (a, b, c))
def far (x lo hi : Int) : Int := mx (mx (lo - x) (x - hi)) 0
def most (x lo hi : Int) : Int := mx (mx (mx (x - lo) (hi - x)) (lo - x)) (x - hi)
def near (x lo hi : Int) : Int := mn (mx x lo) hi
end Go.Proofs.Ytpkampecmlpfmaa.T
