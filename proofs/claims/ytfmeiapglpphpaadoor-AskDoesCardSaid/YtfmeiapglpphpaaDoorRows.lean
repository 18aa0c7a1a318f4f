/-
  NARROWER THAN 'FOR EVERY INPUT', by the rows' own cells (each row's printed sentence says how): AskBounds: laid · AskDoes: laid · AskBack: laid · AskLong: laid.
  DERIVED. THE GIVEN ROWS OF THIS SEAT. 4 by the template 'for every input the law returns true; each argument reads behind the call as it read before'; 0 by the template 'total and deterministic' (their statements: YtfmeiapglpphpaaDoorTotals.lean).
  GIVEN WITH THE SEED: the statements are not yours to turn. If you find one false, say at which input.
  Laid BY PROGRAM, IN A SANDBOX (cutbox-rows.mjs): the forced cells as the released guide's own fill.sh prints them over the translation 39db26cf1f04592b… (all of the seat's roots in one cut). By AI agents, Wed Nov 11 2026. No macro, syntax, notation, axiom, sorry.
-/
import Derived.Test.YtfmeiapglpphpaaDoorChecked
import GoSem.Claim
import GoSem.ClaimJoined
import GoSem.ClaimMapViews
import Derived.JoinedTies
import Derived.KernelRfl
namespace Go.Proofs.YtfmeiapglpphpaaDoor
/- THE CELL 'sum', in the pinned program and in every row, IS THE sha256 OF THE DUMP (.gsa) THAT YtfmeiapglpphpaaDoorProg.lean LOADS. Nothing in Lean hashes anything: it is a label: what it is worth is what the hold of that sum in a sandbox is worth. -/
noncomputable def Tryd.pinned : Pinned := { name := "ytfmeiapglpphpaadoor", sum := "39db26cf1f04592b17385f062c9bc12587460f622562d5fbfdbae6854da0c8a8", checked := Tryd.checked }
namespace Rows
def none {H : Type} : Left H := { results := [], args := [] }

/- WHAT THE LISTED PACKAGE-LEVEL VARIABLES READ AS WHEN THE CALL BEGINS. Each datum BY PROGRAM (the guide's laid-datum.mjs) off the statement by which the dump's own 'gosem.cut.vars' lays the variable. In a bare row this is a premise. The card (YtfmeiapglpphpaaDoorCards.lean) ties it to the program's text. -/
def laid_cuvette_ask_shapes {H : Type} : DataW H := .agg [.agg [.lit (.int .i64 0), .lit (.int .i64 0), .lit (.int .i64 0), .lit (.bool false)], .agg [.lit (.int .i64 4), .lit (.int .i64 0), .lit (.int .i64 0), .lit (.bool true)], .agg [.lit (.int .i64 4), .lit (.int .i64 0), .lit (.int .i64 0), .lit (.bool true)], .agg [.lit (.int .i64 4), .lit (.int .i64 0), .lit (.int .i64 0), .lit (.bool false)], .agg [.lit (.int .i64 4), .lit (.int .i64 0), .lit (.int .i64 0), .lit (.bool false)], .agg [.lit (.int .i64 0), .lit (.int .i64 2), .lit (.int .i64 0), .lit (.bool true)], .agg [.lit (.int .i64 0), .lit (.int .i64 0), .lit (.int .i64 0), .lit (.bool false)], .agg [.lit (.int .i64 0), .lit (.int .i64 0), .lit (.int .i64 8), .lit (.bool false)], .agg [.lit (.int .i64 0), .lit (.int .i64 0), .lit (.int .i64 0), .lit (.bool false)]]

/-- 'cuvettelaw18.AskBounds': WHATEVER THE INPUT: true; the input reads as it did. -/
def askBoundsSpec : ChangeSpec := { name := "askBounds", fn := fun _ => fun
  | [d1, d2, d3, d4, d5, d6] => { results := [.lit (.bool true)], args := [d1, d2, d3, d4, d5, d6] }
  | _ => none }
def askBoundsRow : OpenClaim := { program := "ytfmeiapglpphpaadoor", sum := "39db26cf1f04592b17385f062c9bc12587460f622562d5fbfdbae6854da0c8a8", func := "cuvette/cuvettelaw18.AskBounds", spec := "askBounds", unfollowed := true, recurses := true, named := ["cuvette/ask.shapes"], apart := false, laid := [("cuvette/ask.shapes", laid_cuvette_ask_shapes)] }
def AskBoundsSaid : Prop := askBoundsRow.holds Tryd.pinned (OpenSpec.ofChange askBoundsSpec)

/-- ITS FALSE NEIGHBOUR: 'it returns false'. Refute it at one input. -/
def askBoundsWrong : ChangeSpec := { name := "askBounds", fn := fun _ => fun
  | [d1, d2, d3, d4, d5, d6] => { results := [.lit (.bool false)], args := [d1, d2, d3, d4, d5, d6] }
  | _ => none }
def AskBoundsWrongFalsely : Prop := askBoundsRow.holds Tryd.pinned (OpenSpec.ofChange askBoundsWrong)

/-- 'cuvettelaw18.AskDoes': WHATEVER THE INPUT: true; the input reads as it did. -/
def askDoesSpec : ChangeSpec := { name := "askDoes", fn := fun _ => fun
  | [d1, d2, d3, d4, d5, d6] => { results := [.lit (.bool true)], args := [d1, d2, d3, d4, d5, d6] }
  | _ => none }
def askDoesRow : OpenClaim := { program := "ytfmeiapglpphpaadoor", sum := "39db26cf1f04592b17385f062c9bc12587460f622562d5fbfdbae6854da0c8a8", func := "cuvette/cuvettelaw18.AskDoes", spec := "askDoes", unfollowed := true, recurses := true, named := ["cuvette/ask.shapes"], apart := false, laid := [("cuvette/ask.shapes", laid_cuvette_ask_shapes)] }
def AskDoesSaid : Prop := askDoesRow.holds Tryd.pinned (OpenSpec.ofChange askDoesSpec)

/-- ITS FALSE NEIGHBOUR: 'it returns false'. Refute it at one input. -/
def askDoesWrong : ChangeSpec := { name := "askDoes", fn := fun _ => fun
  | [d1, d2, d3, d4, d5, d6] => { results := [.lit (.bool false)], args := [d1, d2, d3, d4, d5, d6] }
  | _ => none }
def AskDoesWrongFalsely : Prop := askDoesRow.holds Tryd.pinned (OpenSpec.ofChange askDoesWrong)

/-- 'cuvettelaw18.AskBack': WHATEVER THE INPUT: true; the input reads as it did. -/
def askBackSpec : ChangeSpec := { name := "askBack", fn := fun _ => fun
  | [d1, d2, d3, d4] => { results := [.lit (.bool true)], args := [d1, d2, d3, d4] }
  | _ => none }
def askBackRow : OpenClaim := { program := "ytfmeiapglpphpaadoor", sum := "39db26cf1f04592b17385f062c9bc12587460f622562d5fbfdbae6854da0c8a8", func := "cuvette/cuvettelaw18.AskBack", spec := "askBack", unfollowed := true, recurses := true, named := ["cuvette/ask.shapes"], apart := false, laid := [("cuvette/ask.shapes", laid_cuvette_ask_shapes)] }
def AskBackSaid : Prop := askBackRow.holds Tryd.pinned (OpenSpec.ofChange askBackSpec)

/-- ITS FALSE NEIGHBOUR: 'it returns false'. Refute it at one input. -/
def askBackWrong : ChangeSpec := { name := "askBack", fn := fun _ => fun
  | [d1, d2, d3, d4] => { results := [.lit (.bool false)], args := [d1, d2, d3, d4] }
  | _ => none }
def AskBackWrongFalsely : Prop := askBackRow.holds Tryd.pinned (OpenSpec.ofChange askBackWrong)

/-- 'cuvettelaw18.AskLong': WHATEVER THE INPUT: true; the input reads as it did. -/
def askLongSpec : ChangeSpec := { name := "askLong", fn := fun _ => fun
  | [d1, d2, d3, d4] => { results := [.lit (.bool true)], args := [d1, d2, d3, d4] }
  | _ => none }
def askLongRow : OpenClaim := { program := "ytfmeiapglpphpaadoor", sum := "39db26cf1f04592b17385f062c9bc12587460f622562d5fbfdbae6854da0c8a8", func := "cuvette/cuvettelaw18.AskLong", spec := "askLong", unfollowed := true, recurses := true, named := ["cuvette/ask.shapes"], apart := false, laid := [("cuvette/ask.shapes", laid_cuvette_ask_shapes)] }
def AskLongSaid : Prop := askLongRow.holds Tryd.pinned (OpenSpec.ofChange askLongSpec)

/-- ITS FALSE NEIGHBOUR: 'it returns false'. Refute it at one input. -/
def askLongWrong : ChangeSpec := { name := "askLong", fn := fun _ => fun
  | [d1, d2, d3, d4] => { results := [.lit (.bool false)], args := [d1, d2, d3, d4] }
  | _ => none }
def AskLongWrongFalsely : Prop := askLongRow.holds Tryd.pinned (OpenSpec.ofChange askLongWrong)

/- THE SECOND FORM. 'bulk': how many values and letters a reading holds, each counted each time it is reached (what is shared counts as often as it is met; a slice's spare places count too). A statement '..UptoSaid' is the law's where the arguments, and the package variables that the reading takes, are together of bulk at most 1048576: NARROWER than '..Said'. Prove '..Said' where nothing that the law and all that it calls make is longer than what came in: it says more and counts as full. Else prove '..UptoSaid'. A law counts once. -/
mutual
def uptoBulk {H : Type} : DataW H → Nat
  | .lit (.string bytes) => bytes.length + 1
  | .lit _ => 1
  | .nil => 1
  | .ptr d => uptoBulk d + 1
  | .slice elems spare => uptoBulkAll elems + uptoBulkAll spare + 1
  | .agg parts => uptoBulkAll parts + 1
  | .iface _ d => uptoBulk d + 1
  | .map entries => uptoBulkEntries entries + 1
  | .held _ => 1
def uptoBulkAll {H : Type} : List (DataW H) → Nat
  | [] => 0
  | d :: r => uptoBulk d + uptoBulkAll r
def uptoBulkEntries {H : Type} : List (Lit × DataW H) → Nat
  | [] => 0
  | x :: r => uptoBulkEntry x + uptoBulkEntries r
def uptoBulkEntry {H : Type} : Lit × DataW H → Nat
  | (.string bytes, d) => bytes.length + uptoBulk d + 1
  | (_, d) => uptoBulk d + 1
 end
def uptoSmall : (H : Type) → List (DataW H) → Bool := fun _ ds => decide (uptoBulkAll ds ≤ 1048576)
def OpenSpec.upto (s : _root_.Go.ChangeSpec) : _root_.Go.OpenSpec := { _root_.Go.OpenSpec.ofChange s with cond := some uptoSmall }

/-- 'cuvettelaw18.AskBounds', WHERE WHAT IT READS IS OF BULK AT MOST 1048576: true; the input reads as it did. -/
def askBoundsUptoRow : OpenClaim := { program := "ytfmeiapglpphpaadoor", sum := "39db26cf1f04592b17385f062c9bc12587460f622562d5fbfdbae6854da0c8a8", func := "cuvette/cuvettelaw18.AskBounds", spec := "askBounds", unfollowed := true, recurses := true, named := ["cuvette/ask.shapes"], apart := false, laid := [("cuvette/ask.shapes", laid_cuvette_ask_shapes)], narrowed := true }
def AskBoundsUptoSaid : Prop := askBoundsUptoRow.holds Tryd.pinned (OpenSpec.upto askBoundsSpec)

/-- 'cuvettelaw18.AskDoes', WHERE WHAT IT READS IS OF BULK AT MOST 1048576: true; the input reads as it did. -/
def askDoesUptoRow : OpenClaim := { program := "ytfmeiapglpphpaadoor", sum := "39db26cf1f04592b17385f062c9bc12587460f622562d5fbfdbae6854da0c8a8", func := "cuvette/cuvettelaw18.AskDoes", spec := "askDoes", unfollowed := true, recurses := true, named := ["cuvette/ask.shapes"], apart := false, laid := [("cuvette/ask.shapes", laid_cuvette_ask_shapes)], narrowed := true }
def AskDoesUptoSaid : Prop := askDoesUptoRow.holds Tryd.pinned (OpenSpec.upto askDoesSpec)

/-- 'cuvettelaw18.AskBack', WHERE WHAT IT READS IS OF BULK AT MOST 1048576: true; the input reads as it did. -/
def askBackUptoRow : OpenClaim := { program := "ytfmeiapglpphpaadoor", sum := "39db26cf1f04592b17385f062c9bc12587460f622562d5fbfdbae6854da0c8a8", func := "cuvette/cuvettelaw18.AskBack", spec := "askBack", unfollowed := true, recurses := true, named := ["cuvette/ask.shapes"], apart := false, laid := [("cuvette/ask.shapes", laid_cuvette_ask_shapes)], narrowed := true }
def AskBackUptoSaid : Prop := askBackUptoRow.holds Tryd.pinned (OpenSpec.upto askBackSpec)

/-- 'cuvettelaw18.AskLong', WHERE WHAT IT READS IS OF BULK AT MOST 1048576: true; the input reads as it did. -/
def askLongUptoRow : OpenClaim := { program := "ytfmeiapglpphpaadoor", sum := "39db26cf1f04592b17385f062c9bc12587460f622562d5fbfdbae6854da0c8a8", func := "cuvette/cuvettelaw18.AskLong", spec := "askLong", unfollowed := true, recurses := true, named := ["cuvette/ask.shapes"], apart := false, laid := [("cuvette/ask.shapes", laid_cuvette_ask_shapes)], narrowed := true }
def AskLongUptoSaid : Prop := askLongUptoRow.holds Tryd.pinned (OpenSpec.upto askLongSpec)

end Rows
end Go.Proofs.YtfmeiapglpphpaaDoor
