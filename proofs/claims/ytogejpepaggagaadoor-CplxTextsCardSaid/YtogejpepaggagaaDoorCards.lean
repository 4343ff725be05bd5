/-
  DERIVED. GIVEN WITH THE SEED: THE CARDS: each row of YtogejpepaggagaaDoorRows.lean that lists a variable, with what it lists TIED to the program's text (the seventh form; the later family's looks); each row that meets fmt, with fmt's text TOLD by the authors' own Lean function (tested against real Go, not proved from fmt's source: count such statements apart). THE CARD IS WHAT COUNTS. Prove the row's statement (the work); the ties are given (YtogejpepaggagaaDoorTie.lean); close each card by the builder's one call (the guide's Derived/Test/ToyasCard.lean, 'card_holds'). Laid BY PROGRAM, IN A SANDBOX (cutbox-door.mjs). By AI agents, Wed Nov 11 2026. No macro, syntax, notation, axiom, sorry.
-/
import Derived.Test.YtogejpepaggagaaDoorRows
import GoSem.ClaimSeven
namespace Go.Proofs.YtogejpepaggagaaDoor
namespace Rows

/-- THE TIED CARD OF 'scullionlaw1.CplxTexts'. -/
def cplxTextsCard : Claim7 := { stood := { row := cplxTextsRow, standIns := [], harness := (true, "187976df0f9e332b1a36d9ad6f70e37dc94f1599787bf9d3b930a21a3a62c874"), looks := false }, kinds := [], alts := [], laidByText := true, laidKinds := [.data, .data, .data], laidTests := true, laidLooks := .later }
def CplxTextsCardSaid : Prop := Claim7.holds Tryd.pinned (.plain (OpenSpec.ofChange cplxTextsSpec)) cplxTextsCard

/-- THE SECOND FORM's CARD OF 'scullionlaw1.CplxTexts'. -/
def cplxTextsUptoCard : Claim7 := { stood := { row := cplxTextsUptoRow, standIns := [], harness := (true, "187976df0f9e332b1a36d9ad6f70e37dc94f1599787bf9d3b930a21a3a62c874"), looks := false }, kinds := [], alts := [], laidByText := true, laidKinds := [.data, .data, .data], laidTests := true, laidLooks := .later }
def CplxTextsUptoCardSaid : Prop := Claim7.holds Tryd.pinned (.plain (OpenSpec.upto cplxTextsSpec)) cplxTextsUptoCard
end Rows
end Go.Proofs.YtogejpepaggagaaDoor
