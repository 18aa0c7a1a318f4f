/-
  DERIVED. GIVEN WITH THE SEED: THE CARDS: each row of YtfmeiapglpphpaaDoorRows.lean that lists a variable, with what it lists TIED to the program's text (the seventh form; the later family's looks); each row that meets fmt, with fmt's text TOLD by the authors' own Lean function (tested against real Go, not proved from fmt's source: count such statements apart). THE CARD IS WHAT COUNTS. Prove the row's statement (the work); the ties are given (YtfmeiapglpphpaaDoorTie.lean); close each card by the builder's one call (the guide's Derived/Test/ToyasCard.lean, 'card_holds'). Laid BY PROGRAM, IN A SANDBOX (cutbox-door.mjs). By AI agents, Wed Nov 11 2026. No macro, syntax, notation, axiom, sorry.
-/
import Derived.Test.YtfmeiapglpphpaaDoorRows
import GoSem.ClaimSeven
namespace Go.Proofs.YtfmeiapglpphpaaDoor
namespace Rows

/-- THE TIED CARD OF 'cuvettelaw18.AskBounds'. -/
def askBoundsCard : Claim7 := { stood := { row := askBoundsRow, standIns := [], harness := (true, "7aaceef8a988237838066eb18011e9644a2d2dbe1f332f062ff80556b4a4b30f"), looks := false }, kinds := [], alts := [], laidByText := true, laidKinds := [.data], laidTests := true, laidLooks := .later }
def AskBoundsCardSaid : Prop := Claim7.holds Tryd.pinned (.plain (OpenSpec.ofChange askBoundsSpec)) askBoundsCard

/-- THE TIED CARD OF 'cuvettelaw18.AskDoes'. -/
def askDoesCard : Claim7 := { stood := { row := askDoesRow, standIns := [], harness := (true, "7aaceef8a988237838066eb18011e9644a2d2dbe1f332f062ff80556b4a4b30f"), looks := false }, kinds := [], alts := [], laidByText := true, laidKinds := [.data], laidTests := true, laidLooks := .later }
def AskDoesCardSaid : Prop := Claim7.holds Tryd.pinned (.plain (OpenSpec.ofChange askDoesSpec)) askDoesCard

/-- THE TIED CARD OF 'cuvettelaw18.AskBack'. -/
def askBackCard : Claim7 := { stood := { row := askBackRow, standIns := [], harness := (true, "7aaceef8a988237838066eb18011e9644a2d2dbe1f332f062ff80556b4a4b30f"), looks := false }, kinds := [], alts := [], laidByText := true, laidKinds := [.data], laidTests := true, laidLooks := .later }
def AskBackCardSaid : Prop := Claim7.holds Tryd.pinned (.plain (OpenSpec.ofChange askBackSpec)) askBackCard

/-- THE TIED CARD OF 'cuvettelaw18.AskLong'. -/
def askLongCard : Claim7 := { stood := { row := askLongRow, standIns := [], harness := (true, "7aaceef8a988237838066eb18011e9644a2d2dbe1f332f062ff80556b4a4b30f"), looks := false }, kinds := [], alts := [], laidByText := true, laidKinds := [.data], laidTests := true, laidLooks := .later }
def AskLongCardSaid : Prop := Claim7.holds Tryd.pinned (.plain (OpenSpec.ofChange askLongSpec)) askLongCard

/-- THE SECOND FORM's CARD OF 'cuvettelaw18.AskBounds'. -/
def askBoundsUptoCard : Claim7 := { stood := { row := askBoundsUptoRow, standIns := [], harness := (true, "7aaceef8a988237838066eb18011e9644a2d2dbe1f332f062ff80556b4a4b30f"), looks := false }, kinds := [], alts := [], laidByText := true, laidKinds := [.data], laidTests := true, laidLooks := .later }
def AskBoundsUptoCardSaid : Prop := Claim7.holds Tryd.pinned (.plain (OpenSpec.upto askBoundsSpec)) askBoundsUptoCard

/-- THE SECOND FORM's CARD OF 'cuvettelaw18.AskDoes'. -/
def askDoesUptoCard : Claim7 := { stood := { row := askDoesUptoRow, standIns := [], harness := (true, "7aaceef8a988237838066eb18011e9644a2d2dbe1f332f062ff80556b4a4b30f"), looks := false }, kinds := [], alts := [], laidByText := true, laidKinds := [.data], laidTests := true, laidLooks := .later }
def AskDoesUptoCardSaid : Prop := Claim7.holds Tryd.pinned (.plain (OpenSpec.upto askDoesSpec)) askDoesUptoCard

/-- THE SECOND FORM's CARD OF 'cuvettelaw18.AskBack'. -/
def askBackUptoCard : Claim7 := { stood := { row := askBackUptoRow, standIns := [], harness := (true, "7aaceef8a988237838066eb18011e9644a2d2dbe1f332f062ff80556b4a4b30f"), looks := false }, kinds := [], alts := [], laidByText := true, laidKinds := [.data], laidTests := true, laidLooks := .later }
def AskBackUptoCardSaid : Prop := Claim7.holds Tryd.pinned (.plain (OpenSpec.upto askBackSpec)) askBackUptoCard

/-- THE SECOND FORM's CARD OF 'cuvettelaw18.AskLong'. -/
def askLongUptoCard : Claim7 := { stood := { row := askLongUptoRow, standIns := [], harness := (true, "7aaceef8a988237838066eb18011e9644a2d2dbe1f332f062ff80556b4a4b30f"), looks := false }, kinds := [], alts := [], laidByText := true, laidKinds := [.data], laidTests := true, laidLooks := .later }
def AskLongUptoCardSaid : Prop := Claim7.holds Tryd.pinned (.plain (OpenSpec.upto askLongSpec)) askLongUptoCard
end Rows
end Go.Proofs.YtfmeiapglpphpaaDoor
