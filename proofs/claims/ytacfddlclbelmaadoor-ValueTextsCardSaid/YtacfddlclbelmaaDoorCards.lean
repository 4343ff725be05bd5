/-
  DERIVED. GIVEN WITH THE SEED: THE CARDS: each row of YtacfddlclbelmaaDoorRows.lean that lists a variable, with what it lists TIED to the program's text (the seventh form; the later family's looks); each row that meets fmt, with fmt's text TOLD by the authors' own Lean function (tested against real Go, not proved from fmt's source: count such statements apart). THE CARD IS WHAT COUNTS. Prove the row's statement (the work); the ties are given (YtacfddlclbelmaaDoorTie.lean); close each card by the builder's one call (the guide's Derived/Test/ToyasCard.lean, 'card_holds'). Laid BY PROGRAM, IN A SANDBOX (cutbox-door.mjs). By AI agents, Wed Nov 11 2026. No macro, syntax, notation, axiom, sorry.
-/
import Derived.Test.YtacfddlclbelmaaDoorRows
import GoSem.ClaimSeven
namespace Go.Proofs.YtacfddlclbelmaaDoor
namespace Rows

/-- THE TIED CARD OF 'scullionlaw10.ValueWords'. -/
def valueWordsCard : Claim7 := { stood := { row := valueWordsRow, standIns := [], harness := (true, "c31e0e6559b74baf15febe27140eed1b2e056e84c829090b08d6d10ed788757f"), looks := true }, kinds := [], alts := [], laidByText := true, laidKinds := [.data, .data, .data, .sentinel, .sentinel], laidTests := true, laidLooks := .later }
def ValueWordsCardSaid : Prop := Claim7.holds Tryd.pinned (.plain (OpenSpec.ofChange valueWordsSpec)) valueWordsCard

/-- THE TIED CARD OF 'scullionlaw10.ValueKinds'. -/
def valueKindsCard : Claim7 := { stood := { row := valueKindsRow, standIns := [], harness := (true, "c31e0e6559b74baf15febe27140eed1b2e056e84c829090b08d6d10ed788757f"), looks := true }, kinds := [], alts := [], laidByText := true, laidKinds := [.data, .data, .data, .sentinel, .sentinel], laidTests := true, laidLooks := .later }
def ValueKindsCardSaid : Prop := Claim7.holds Tryd.pinned (.plain (OpenSpec.ofChange valueKindsSpec)) valueKindsCard

/-- THE TIED CARD OF 'scullionlaw10.ValueNumbers'. -/
def valueNumbersCard : Claim7 := { stood := { row := valueNumbersRow, standIns := [], harness := (true, "c31e0e6559b74baf15febe27140eed1b2e056e84c829090b08d6d10ed788757f"), looks := true }, kinds := [], alts := [], laidByText := true, laidKinds := [.data, .data, .data, .sentinel, .sentinel], laidTests := true, laidLooks := .later }
def ValueNumbersCardSaid : Prop := Claim7.holds Tryd.pinned (.plain (OpenSpec.ofChange valueNumbersSpec)) valueNumbersCard

/-- THE TIED CARD OF 'scullionlaw10.ValueMakes'. -/
def valueMakesCard : Claim7 := { stood := { row := valueMakesRow, standIns := [], harness := (true, "c31e0e6559b74baf15febe27140eed1b2e056e84c829090b08d6d10ed788757f"), looks := true }, kinds := [], alts := [], laidByText := true, laidKinds := [.data, .data, .data, .sentinel, .sentinel], laidTests := true, laidLooks := .later }
def ValueMakesCardSaid : Prop := Claim7.holds Tryd.pinned (.plain (OpenSpec.ofChange valueMakesSpec)) valueMakesCard

/-- THE TIED CARD OF 'scullionlaw10.ValueTexts'. -/
def valueTextsCard : Claim7 := { stood := { row := valueTextsRow, standIns := [], harness := (true, "c31e0e6559b74baf15febe27140eed1b2e056e84c829090b08d6d10ed788757f"), looks := true }, kinds := [], alts := [], laidByText := true, laidKinds := [.data, .data, .data, .sentinel, .sentinel], laidTests := true, laidLooks := .later }
def ValueTextsCardSaid : Prop := Claim7.holds Tryd.pinned (.plain (OpenSpec.ofChange valueTextsSpec)) valueTextsCard

/-- THE TIED CARD OF 'scullionlaw10.ValueApart'. -/
def valueApartCard : Claim7 := { stood := { row := valueApartRow, standIns := [], harness := (true, "c31e0e6559b74baf15febe27140eed1b2e056e84c829090b08d6d10ed788757f"), looks := true }, kinds := [], alts := [], laidByText := true, laidKinds := [.data, .data, .data, .sentinel, .sentinel], laidTests := true, laidLooks := .later }
def ValueApartCardSaid : Prop := Claim7.holds Tryd.pinned (.plain (OpenSpec.ofChange valueApartSpec)) valueApartCard

/-- THE TIED CARD OF 'scullionlaw10.ValueBack'. -/
def valueBackCard : Claim7 := { stood := { row := valueBackRow, standIns := [], harness := (true, "c31e0e6559b74baf15febe27140eed1b2e056e84c829090b08d6d10ed788757f"), looks := true }, kinds := [], alts := [], laidByText := true, laidKinds := [.data, .data, .data, .sentinel, .sentinel], laidTests := true, laidLooks := .later }
def ValueBackCardSaid : Prop := Claim7.holds Tryd.pinned (.plain (OpenSpec.ofChange valueBackSpec)) valueBackCard

/-- THE SECOND FORM's CARD OF 'scullionlaw10.ValueWords'. -/
def valueWordsUptoCard : Claim7 := { stood := { row := valueWordsUptoRow, standIns := [], harness := (true, "c31e0e6559b74baf15febe27140eed1b2e056e84c829090b08d6d10ed788757f"), looks := true }, kinds := [], alts := [], laidByText := true, laidKinds := [.data, .data, .data, .sentinel, .sentinel], laidTests := true, laidLooks := .later }
def ValueWordsUptoCardSaid : Prop := Claim7.holds Tryd.pinned (.plain (OpenSpec.upto valueWordsSpec)) valueWordsUptoCard

/-- THE SECOND FORM's CARD OF 'scullionlaw10.ValueKinds'. -/
def valueKindsUptoCard : Claim7 := { stood := { row := valueKindsUptoRow, standIns := [], harness := (true, "c31e0e6559b74baf15febe27140eed1b2e056e84c829090b08d6d10ed788757f"), looks := true }, kinds := [], alts := [], laidByText := true, laidKinds := [.data, .data, .data, .sentinel, .sentinel], laidTests := true, laidLooks := .later }
def ValueKindsUptoCardSaid : Prop := Claim7.holds Tryd.pinned (.plain (OpenSpec.upto valueKindsSpec)) valueKindsUptoCard

/-- THE SECOND FORM's CARD OF 'scullionlaw10.ValueNumbers'. -/
def valueNumbersUptoCard : Claim7 := { stood := { row := valueNumbersUptoRow, standIns := [], harness := (true, "c31e0e6559b74baf15febe27140eed1b2e056e84c829090b08d6d10ed788757f"), looks := true }, kinds := [], alts := [], laidByText := true, laidKinds := [.data, .data, .data, .sentinel, .sentinel], laidTests := true, laidLooks := .later }
def ValueNumbersUptoCardSaid : Prop := Claim7.holds Tryd.pinned (.plain (OpenSpec.upto valueNumbersSpec)) valueNumbersUptoCard

/-- THE SECOND FORM's CARD OF 'scullionlaw10.ValueMakes'. -/
def valueMakesUptoCard : Claim7 := { stood := { row := valueMakesUptoRow, standIns := [], harness := (true, "c31e0e6559b74baf15febe27140eed1b2e056e84c829090b08d6d10ed788757f"), looks := true }, kinds := [], alts := [], laidByText := true, laidKinds := [.data, .data, .data, .sentinel, .sentinel], laidTests := true, laidLooks := .later }
def ValueMakesUptoCardSaid : Prop := Claim7.holds Tryd.pinned (.plain (OpenSpec.upto valueMakesSpec)) valueMakesUptoCard

/-- THE SECOND FORM's CARD OF 'scullionlaw10.ValueTexts'. -/
def valueTextsUptoCard : Claim7 := { stood := { row := valueTextsUptoRow, standIns := [], harness := (true, "c31e0e6559b74baf15febe27140eed1b2e056e84c829090b08d6d10ed788757f"), looks := true }, kinds := [], alts := [], laidByText := true, laidKinds := [.data, .data, .data, .sentinel, .sentinel], laidTests := true, laidLooks := .later }
def ValueTextsUptoCardSaid : Prop := Claim7.holds Tryd.pinned (.plain (OpenSpec.upto valueTextsSpec)) valueTextsUptoCard

/-- THE SECOND FORM's CARD OF 'scullionlaw10.ValueApart'. -/
def valueApartUptoCard : Claim7 := { stood := { row := valueApartUptoRow, standIns := [], harness := (true, "c31e0e6559b74baf15febe27140eed1b2e056e84c829090b08d6d10ed788757f"), looks := true }, kinds := [], alts := [], laidByText := true, laidKinds := [.data, .data, .data, .sentinel, .sentinel], laidTests := true, laidLooks := .later }
def ValueApartUptoCardSaid : Prop := Claim7.holds Tryd.pinned (.plain (OpenSpec.upto valueApartSpec)) valueApartUptoCard

/-- THE SECOND FORM's CARD OF 'scullionlaw10.ValueBack'. -/
def valueBackUptoCard : Claim7 := { stood := { row := valueBackUptoRow, standIns := [], harness := (true, "c31e0e6559b74baf15febe27140eed1b2e056e84c829090b08d6d10ed788757f"), looks := true }, kinds := [], alts := [], laidByText := true, laidKinds := [.data, .data, .data, .sentinel, .sentinel], laidTests := true, laidLooks := .later }
def ValueBackUptoCardSaid : Prop := Claim7.holds Tryd.pinned (.plain (OpenSpec.upto valueBackSpec)) valueBackUptoCard
end Rows
end Go.Proofs.YtacfddlclbelmaaDoor
