/-
  DERIVED. GIVEN WITH THE SEED: THE CARDS: each row of YtdgclpgjoanimaaDoorRows.lean that lists a variable, with what it lists TIED to the program's text (the seventh form; the later family's looks); each row that meets fmt, with fmt's text TOLD by the authors' own Lean function (tested against real Go, not proved from fmt's source: count such statements apart). THE CARD IS WHAT COUNTS. Prove the row's statement (the work); the ties are given (YtdgclpgjoanimaaDoorTie.lean); close each card by the builder's one call (the guide's Derived/Test/ToyasCard.lean, 'card_holds'). Laid BY PROGRAM, IN A SANDBOX (cutbox-door.mjs). By AI agents, Wed Nov 11 2026. No macro, syntax, notation, axiom, sorry.
-/
import Derived.Test.YtdgclpgjoanimaaDoorRows
import GoSem.ClaimSeven
namespace Go.Proofs.YtdgclpgjoanimaaDoor
namespace Rows

/-- THE TIED CARD OF 'scullionlaw12.GraphTexts'. -/
def graphTextsCard : Claim7 := { stood := { row := graphTextsRow, standIns := [], harness := (true, "d175cb7290e215640c6c7df098eae224166e15dd4f9b8138b6d90375831efef9"), looks := false }, kinds := [], alts := [], laidByText := true, laidKinds := [.data, .data, .data], laidTests := true, laidLooks := .later }
def GraphTextsCardSaid : Prop := Claim7.holds Tryd.pinned (.plain (OpenSpec.ofChange graphTextsSpec)) graphTextsCard

/-- THE TIED CARD OF 'scullionlaw12.GraphSide'. -/
def graphSideCard : Claim7 := { stood := { row := graphSideRow, standIns := [], harness := (true, "d175cb7290e215640c6c7df098eae224166e15dd4f9b8138b6d90375831efef9"), looks := false }, kinds := [], alts := [], laidByText := true, laidKinds := [.data, .data, .data], laidTests := true, laidLooks := .later }
def GraphSideCardSaid : Prop := Claim7.holds Tryd.pinned (.plain (OpenSpec.ofChange graphSideSpec)) graphSideCard

/-- THE TIED CARD OF 'scullionlaw12.GraphTrims'. -/
def graphTrimsCard : Claim7 := { stood := { row := graphTrimsRow, standIns := [], harness := (true, "d175cb7290e215640c6c7df098eae224166e15dd4f9b8138b6d90375831efef9"), looks := false }, kinds := [], alts := [], laidByText := true, laidKinds := [.data, .data, .data], laidTests := true, laidLooks := .later }
def GraphTrimsCardSaid : Prop := Claim7.holds Tryd.pinned (.plain (OpenSpec.ofChange graphTrimsSpec)) graphTrimsCard

/-- THE SECOND FORM's CARD OF 'scullionlaw12.GraphTexts'. -/
def graphTextsUptoCard : Claim7 := { stood := { row := graphTextsUptoRow, standIns := [], harness := (true, "d175cb7290e215640c6c7df098eae224166e15dd4f9b8138b6d90375831efef9"), looks := false }, kinds := [], alts := [], laidByText := true, laidKinds := [.data, .data, .data], laidTests := true, laidLooks := .later }
def GraphTextsUptoCardSaid : Prop := Claim7.holds Tryd.pinned (.plain (OpenSpec.upto graphTextsSpec)) graphTextsUptoCard

/-- THE SECOND FORM's CARD OF 'scullionlaw12.GraphSide'. -/
def graphSideUptoCard : Claim7 := { stood := { row := graphSideUptoRow, standIns := [], harness := (true, "d175cb7290e215640c6c7df098eae224166e15dd4f9b8138b6d90375831efef9"), looks := false }, kinds := [], alts := [], laidByText := true, laidKinds := [.data, .data, .data], laidTests := true, laidLooks := .later }
def GraphSideUptoCardSaid : Prop := Claim7.holds Tryd.pinned (.plain (OpenSpec.upto graphSideSpec)) graphSideUptoCard

/-- THE SECOND FORM's CARD OF 'scullionlaw12.GraphTrims'. -/
def graphTrimsUptoCard : Claim7 := { stood := { row := graphTrimsUptoRow, standIns := [], harness := (true, "d175cb7290e215640c6c7df098eae224166e15dd4f9b8138b6d90375831efef9"), looks := false }, kinds := [], alts := [], laidByText := true, laidKinds := [.data, .data, .data], laidTests := true, laidLooks := .later }
def GraphTrimsUptoCardSaid : Prop := Claim7.holds Tryd.pinned (.plain (OpenSpec.upto graphTrimsSpec)) graphTrimsUptoCard
end Rows
end Go.Proofs.YtdgclpgjoanimaaDoor
