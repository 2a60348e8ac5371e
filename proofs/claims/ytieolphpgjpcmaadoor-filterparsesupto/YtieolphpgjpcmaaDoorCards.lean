/-
  DERIVED. GIVEN WITH THE SEED: THE CARDS: each row of YtieolphpgjpcmaaDoorRows.lean that lists a variable, with what it lists TIED to the program's text (the seventh form; the later family's looks); each row that meets fmt, with fmt's text TOLD by the authors' own Lean function (tested against real Go, not proved from fmt's source: count such statements apart). THE CARD IS WHAT COUNTS. Prove the row's statement (the work); the ties are given (YtieolphpgjpcmaaDoorTie.lean); close each card by the builder's one call (the guide's Derived/Test/ToyasCard.lean, 'card_holds'). Laid BY PROGRAM, IN A SANDBOX (cutbox-door.mjs). By AI agents, Wed Nov 11 2026. No macro, syntax, notation, axiom, sorry.
-/
import Derived.Test.YtieolphpgjpcmaaDoorRows
import GoSem.ClaimSeven
namespace Go.Proofs.YtieolphpgjpcmaaDoor
namespace Rows

/-- THE TIED CARD OF 'rosterlaw12.FilterParses'. -/
def filterParsesCard : Claim7 := { stood := { row := filterParsesRow, standIns := [], harness := (true, "adea5c2c6477dc848f5235e1a969e093921b4f969c01f70d3ea2866438261366"), looks := true }, kinds := [], alts := [], laidByText := true, laidKinds := [.data, .data, .pinned], laidTests := true, laidLooks := .later }
def FilterParsesCardSaid : Prop := Claim7.holds Tryd.pinned (.plain (OpenSpec.ofChange filterParsesSpec)) filterParsesCard

/-- THE SECOND FORM's CARD OF 'rosterlaw12.FilterParses'. -/
def filterParsesUptoCard : Claim7 := { stood := { row := filterParsesUptoRow, standIns := [], harness := (true, "adea5c2c6477dc848f5235e1a969e093921b4f969c01f70d3ea2866438261366"), looks := true }, kinds := [], alts := [], laidByText := true, laidKinds := [.data, .data, .pinned], laidTests := true, laidLooks := .later }
def FilterParsesUptoCardSaid : Prop := Claim7.holds Tryd.pinned (.plain (OpenSpec.upto filterParsesSpec)) filterParsesUptoCard
end Rows
end Go.Proofs.YtieolphpgjpcmaaDoor
