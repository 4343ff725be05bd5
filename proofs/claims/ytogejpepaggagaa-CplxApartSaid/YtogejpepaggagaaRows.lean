/-
  No cell of these rows narrows 'for every input' (looked for: loops, veiled, ifaces, maps, wideKeys, modest, calm, conditions, laid).
  DERIVED. THE GIVEN ROWS OF THIS SEAT. 10 by the template 'for every input the law returns true; each argument reads behind the call as it read before'; 0 by the template 'total and deterministic' (their statements: YtogejpepaggagaaTotals.lean).
  GIVEN WITH THE SEED: the statements are not yours to turn. If you find one false, say at which input.
  Laid BY PROGRAM, IN A SANDBOX (cutbox-rows.mjs): the forced cells as the released guide's own fill.sh prints them over the translation b11ec3925b0174c4… (all of the seat's roots in one cut). By AI agents, Wed Nov 11 2026. No macro, syntax, notation, axiom, sorry.
-/
import Derived.Test.YtogejpepaggagaaChecked
import GoSem.Claim
import GoSem.ClaimJoined
import GoSem.ClaimMapViews
import Derived.JoinedTies
import Derived.KernelRfl
namespace Go.Proofs.Ytogejpepaggagaa
/- THE CELL 'sum', in the pinned program and in every row, IS THE sha256 OF THE DUMP (.gsa) THAT YtogejpepaggagaaProg.lean LOADS. Nothing in Lean hashes anything: it is a label: what it is worth is what the hold of that sum in a sandbox is worth. -/
noncomputable def Try.pinned : Pinned := { name := "ytogejpepaggagaa", sum := "b11ec3925b0174c4d6eae75c98ff79d7157c0dc7ae35178de08d3e8e82a82ed0", checked := Try.checked }
namespace Rows
def none {H : Type} : Left H := { results := [], args := [] }

/-- 'scullionlaw1.CplxRings': WHATEVER THE INPUT: true; the input reads as it did. -/
def cplxRingsSpec : ChangeSpec := { name := "cplxRings", fn := fun _ => fun
  | [d1, d2, d3, d4, d5, d6] => { results := [.lit (.bool true)], args := [d1, d2, d3, d4, d5, d6] }
  | _ => none }
def cplxRingsRow : OpenClaim := { program := "ytogejpepaggagaa", sum := "b11ec3925b0174c4d6eae75c98ff79d7157c0dc7ae35178de08d3e8e82a82ed0", func := "scullion/scullionlaw1.CplxRings", spec := "cplxRings", inPlace := ["math.Float64frombits"], unfollowed := true, recurses := true, apart := false }
def CplxRingsSaid : Prop := cplxRingsRow.holds Try.pinned (OpenSpec.ofChange cplxRingsSpec)

/-- ITS FALSE NEIGHBOUR: 'it returns false'. Refute it at one input. -/
def cplxRingsWrong : ChangeSpec := { name := "cplxRings", fn := fun _ => fun
  | [d1, d2, d3, d4, d5, d6] => { results := [.lit (.bool false)], args := [d1, d2, d3, d4, d5, d6] }
  | _ => none }
def CplxRingsWrongFalsely : Prop := cplxRingsRow.holds Try.pinned (OpenSpec.ofChange cplxRingsWrong)

/-- 'scullionlaw1.CplxWords': WHATEVER THE INPUT: true; the input reads as it did. -/
def cplxWordsSpec : ChangeSpec := { name := "cplxWords", fn := fun _ => fun
  | [d1, d2, d3, d4] => { results := [.lit (.bool true)], args := [d1, d2, d3, d4] }
  | _ => none }
def cplxWordsRow : OpenClaim := { program := "ytogejpepaggagaa", sum := "b11ec3925b0174c4d6eae75c98ff79d7157c0dc7ae35178de08d3e8e82a82ed0", func := "scullion/scullionlaw1.CplxWords", spec := "cplxWords", inPlace := ["math.Float64frombits", "math.Float64bits"], apart := false }
def CplxWordsSaid : Prop := cplxWordsRow.holds Try.pinned (OpenSpec.ofChange cplxWordsSpec)

/-- ITS FALSE NEIGHBOUR: 'it returns false'. Refute it at one input. -/
def cplxWordsWrong : ChangeSpec := { name := "cplxWords", fn := fun _ => fun
  | [d1, d2, d3, d4] => { results := [.lit (.bool false)], args := [d1, d2, d3, d4] }
  | _ => none }
def CplxWordsWrongFalsely : Prop := cplxWordsRow.holds Try.pinned (OpenSpec.ofChange cplxWordsWrong)

/-- 'scullionlaw1.CplxReckons': WHATEVER THE INPUT: true; the input reads as it did. -/
def cplxReckonsSpec : ChangeSpec := { name := "cplxReckons", fn := fun _ => fun
  | [d1, d2, d3, d4] => { results := [.lit (.bool true)], args := [d1, d2, d3, d4] }
  | _ => none }
def cplxReckonsRow : OpenClaim := { program := "ytogejpepaggagaa", sum := "b11ec3925b0174c4d6eae75c98ff79d7157c0dc7ae35178de08d3e8e82a82ed0", func := "scullion/scullionlaw1.CplxReckons", spec := "cplxReckons", inPlace := ["math.Float64frombits", "math.Float64bits"], apart := false }
def CplxReckonsSaid : Prop := cplxReckonsRow.holds Try.pinned (OpenSpec.ofChange cplxReckonsSpec)

/-- ITS FALSE NEIGHBOUR: 'it returns false'. Refute it at one input. -/
def cplxReckonsWrong : ChangeSpec := { name := "cplxReckons", fn := fun _ => fun
  | [d1, d2, d3, d4] => { results := [.lit (.bool false)], args := [d1, d2, d3, d4] }
  | _ => none }
def CplxReckonsWrongFalsely : Prop := cplxReckonsRow.holds Try.pinned (OpenSpec.ofChange cplxReckonsWrong)

/-- 'scullionlaw1.CplxConjugates': WHATEVER THE INPUT: true; the input reads as it did. -/
def cplxConjugatesSpec : ChangeSpec := { name := "cplxConjugates", fn := fun _ => fun
  | [d1, d2, d3, d4] => { results := [.lit (.bool true)], args := [d1, d2, d3, d4] }
  | _ => none }
def cplxConjugatesRow : OpenClaim := { program := "ytogejpepaggagaa", sum := "b11ec3925b0174c4d6eae75c98ff79d7157c0dc7ae35178de08d3e8e82a82ed0", func := "scullion/scullionlaw1.CplxConjugates", spec := "cplxConjugates", inPlace := ["math.Float64frombits", "math.Float64bits"], unfollowed := true, recurses := true, apart := false }
def CplxConjugatesSaid : Prop := cplxConjugatesRow.holds Try.pinned (OpenSpec.ofChange cplxConjugatesSpec)

/-- ITS FALSE NEIGHBOUR: 'it returns false'. Refute it at one input. -/
def cplxConjugatesWrong : ChangeSpec := { name := "cplxConjugates", fn := fun _ => fun
  | [d1, d2, d3, d4] => { results := [.lit (.bool false)], args := [d1, d2, d3, d4] }
  | _ => none }
def CplxConjugatesWrongFalsely : Prop := cplxConjugatesRow.holds Try.pinned (OpenSpec.ofChange cplxConjugatesWrong)

/-- 'scullionlaw1.CplxUnits': WHATEVER THE INPUT: true; the input reads as it did. -/
def cplxUnitsSpec : ChangeSpec := { name := "cplxUnits", fn := fun _ => fun
  | [d1, d2] => { results := [.lit (.bool true)], args := [d1, d2] }
  | _ => none }
def cplxUnitsRow : OpenClaim := { program := "ytogejpepaggagaa", sum := "b11ec3925b0174c4d6eae75c98ff79d7157c0dc7ae35178de08d3e8e82a82ed0", func := "scullion/scullionlaw1.CplxUnits", spec := "cplxUnits", inPlace := ["math.Float64frombits", "math.Float64bits"], apart := false }
def CplxUnitsSaid : Prop := cplxUnitsRow.holds Try.pinned (OpenSpec.ofChange cplxUnitsSpec)

/-- ITS FALSE NEIGHBOUR: 'it returns false'. Refute it at one input. -/
def cplxUnitsWrong : ChangeSpec := { name := "cplxUnits", fn := fun _ => fun
  | [d1, d2] => { results := [.lit (.bool false)], args := [d1, d2] }
  | _ => none }
def CplxUnitsWrongFalsely : Prop := cplxUnitsRow.holds Try.pinned (OpenSpec.ofChange cplxUnitsWrong)

/-- 'scullionlaw1.CplxPowersAdd': WHATEVER THE INPUT: true; the input reads as it did. -/
def cplxPowersAddSpec : ChangeSpec := { name := "cplxPowersAdd", fn := fun _ => fun
  | [d1, d2, d3, d4] => { results := [.lit (.bool true)], args := [d1, d2, d3, d4] }
  | _ => none }
def cplxPowersAddRow : OpenClaim := { program := "ytogejpepaggagaa", sum := "b11ec3925b0174c4d6eae75c98ff79d7157c0dc7ae35178de08d3e8e82a82ed0", func := "scullion/scullionlaw1.CplxPowersAdd", spec := "cplxPowersAdd", inPlace := ["math.Float64frombits"], apart := false }
def CplxPowersAddSaid : Prop := cplxPowersAddRow.holds Try.pinned (OpenSpec.ofChange cplxPowersAddSpec)

/-- ITS FALSE NEIGHBOUR: 'it returns false'. Refute it at one input. -/
def cplxPowersAddWrong : ChangeSpec := { name := "cplxPowersAdd", fn := fun _ => fun
  | [d1, d2, d3, d4] => { results := [.lit (.bool false)], args := [d1, d2, d3, d4] }
  | _ => none }
def CplxPowersAddWrongFalsely : Prop := cplxPowersAddRow.holds Try.pinned (OpenSpec.ofChange cplxPowersAddWrong)

/-- 'scullionlaw1.CplxApart': WHATEVER THE INPUT: true; the input reads as it did. -/
def cplxApartSpec : ChangeSpec := { name := "cplxApart", fn := fun _ => fun
  | [d1, d2, d3, d4] => { results := [.lit (.bool true)], args := [d1, d2, d3, d4] }
  | _ => none }
def cplxApartRow : OpenClaim := { program := "ytogejpepaggagaa", sum := "b11ec3925b0174c4d6eae75c98ff79d7157c0dc7ae35178de08d3e8e82a82ed0", func := "scullion/scullionlaw1.CplxApart", spec := "cplxApart", inPlace := ["math.Float64frombits", "math.Float64bits"], apart := false }
def CplxApartSaid : Prop := cplxApartRow.holds Try.pinned (OpenSpec.ofChange cplxApartSpec)

/-- ITS FALSE NEIGHBOUR: 'it returns false'. Refute it at one input. -/
def cplxApartWrong : ChangeSpec := { name := "cplxApart", fn := fun _ => fun
  | [d1, d2, d3, d4] => { results := [.lit (.bool false)], args := [d1, d2, d3, d4] }
  | _ => none }
def CplxApartWrongFalsely : Prop := cplxApartRow.holds Try.pinned (OpenSpec.ofChange cplxApartWrong)

/-- 'scullionlaw1.CplxPowers': WHATEVER THE INPUT: true; the input reads as it did. -/
def cplxPowersSpec : ChangeSpec := { name := "cplxPowers", fn := fun _ => fun
  | [d1, d2, d3] => { results := [.lit (.bool true)], args := [d1, d2, d3] }
  | _ => none }
def cplxPowersRow : OpenClaim := { program := "ytogejpepaggagaa", sum := "b11ec3925b0174c4d6eae75c98ff79d7157c0dc7ae35178de08d3e8e82a82ed0", func := "scullion/scullionlaw1.CplxPowers", spec := "cplxPowers", inPlace := ["math.Float64frombits", "math.Float64bits"], apart := false }
def CplxPowersSaid : Prop := cplxPowersRow.holds Try.pinned (OpenSpec.ofChange cplxPowersSpec)

/-- ITS FALSE NEIGHBOUR: 'it returns false'. Refute it at one input. -/
def cplxPowersWrong : ChangeSpec := { name := "cplxPowers", fn := fun _ => fun
  | [d1, d2, d3] => { results := [.lit (.bool false)], args := [d1, d2, d3] }
  | _ => none }
def CplxPowersWrongFalsely : Prop := cplxPowersRow.holds Try.pinned (OpenSpec.ofChange cplxPowersWrong)

/-- 'scullionlaw1.CplxWhole': WHATEVER THE INPUT: true; the input reads as it did. -/
def cplxWholeSpec : ChangeSpec := { name := "cplxWhole", fn := fun _ => fun
  | [d1, d2, d3, d4] => { results := [.lit (.bool true)], args := [d1, d2, d3, d4] }
  | _ => none }
def cplxWholeRow : OpenClaim := { program := "ytogejpepaggagaa", sum := "b11ec3925b0174c4d6eae75c98ff79d7157c0dc7ae35178de08d3e8e82a82ed0", func := "scullion/scullionlaw1.CplxWhole", spec := "cplxWhole", inPlace := ["math.Float64frombits"], apart := false }
def CplxWholeSaid : Prop := cplxWholeRow.holds Try.pinned (OpenSpec.ofChange cplxWholeSpec)

/-- ITS FALSE NEIGHBOUR: 'it returns false'. Refute it at one input. -/
def cplxWholeWrong : ChangeSpec := { name := "cplxWhole", fn := fun _ => fun
  | [d1, d2, d3, d4] => { results := [.lit (.bool false)], args := [d1, d2, d3, d4] }
  | _ => none }
def CplxWholeWrongFalsely : Prop := cplxWholeRow.holds Try.pinned (OpenSpec.ofChange cplxWholeWrong)

/-- 'scullionlaw1.CplxBack': WHATEVER THE INPUT: true; the input reads as it did. -/
def cplxBackSpec : ChangeSpec := { name := "cplxBack", fn := fun _ => fun
  | [d1, d2, d3, d4] => { results := [.lit (.bool true)], args := [d1, d2, d3, d4] }
  | _ => none }
def cplxBackRow : OpenClaim := { program := "ytogejpepaggagaa", sum := "b11ec3925b0174c4d6eae75c98ff79d7157c0dc7ae35178de08d3e8e82a82ed0", func := "scullion/scullionlaw1.CplxBack", spec := "cplxBack", inPlace := ["math.Float64frombits", "math.Float64bits"], apart := false }
def CplxBackSaid : Prop := cplxBackRow.holds Try.pinned (OpenSpec.ofChange cplxBackSpec)

/-- ITS FALSE NEIGHBOUR: 'it returns false'. Refute it at one input. -/
def cplxBackWrong : ChangeSpec := { name := "cplxBack", fn := fun _ => fun
  | [d1, d2, d3, d4] => { results := [.lit (.bool false)], args := [d1, d2, d3, d4] }
  | _ => none }
def CplxBackWrongFalsely : Prop := cplxBackRow.holds Try.pinned (OpenSpec.ofChange cplxBackWrong)

/- THE SECOND FORM. 'bulk': how many values and letters a reading holds, each counted each time it is reached (what is shared counts as often as it is met; a slice's spare places count too). A statement '..UptoSaid' is the law's where the arguments, and the package variables that the reading takes, are together of bulk at most 1048576: NARROWER than '..Said'. Prove '..Said' where nothing that the law and all that it calls make is longer than what came in: it says more and counts as full. Else prove '..UptoSaid'. A law counts once. -/
mutual
def uptoBulk {H : Type} : DataW H → Nat
  | .lit (.string bytes) => bytes.length + 1
  | .lit _ => 1
  | .nil => 1
  | .ptr d => uptoBulk d + 1
  | .slice elems spare => uptoBulkAll elems + uptoBulkAll spare + 1
  | .agg parts => uptoBulkAll parts + 1
  | .iface _ d => uptoBulk d + 1
  | .map entries => uptoBulkEntries entries + 1
  | .held _ => 1
def uptoBulkAll {H : Type} : List (DataW H) → Nat
  | [] => 0
  | d :: r => uptoBulk d + uptoBulkAll r
def uptoBulkEntries {H : Type} : List (Lit × DataW H) → Nat
  | [] => 0
  | x :: r => uptoBulkEntry x + uptoBulkEntries r
def uptoBulkEntry {H : Type} : Lit × DataW H → Nat
  | (.string bytes, d) => bytes.length + uptoBulk d + 1
  | (_, d) => uptoBulk d + 1
 end
def uptoSmall : (H : Type) → List (DataW H) → Bool := fun _ ds => decide (uptoBulkAll ds ≤ 1048576)
def OpenSpec.upto (s : _root_.Go.ChangeSpec) : _root_.Go.OpenSpec := { _root_.Go.OpenSpec.ofChange s with cond := some uptoSmall }

/-- 'scullionlaw1.CplxRings', WHERE WHAT IT READS IS OF BULK AT MOST 1048576: true; the input reads as it did. -/
def cplxRingsUptoRow : OpenClaim := { program := "ytogejpepaggagaa", sum := "b11ec3925b0174c4d6eae75c98ff79d7157c0dc7ae35178de08d3e8e82a82ed0", func := "scullion/scullionlaw1.CplxRings", spec := "cplxRings", inPlace := ["math.Float64frombits"], unfollowed := true, recurses := true, apart := false, narrowed := true }
def CplxRingsUptoSaid : Prop := cplxRingsUptoRow.holds Try.pinned (OpenSpec.upto cplxRingsSpec)

/-- 'scullionlaw1.CplxWords', WHERE WHAT IT READS IS OF BULK AT MOST 1048576: true; the input reads as it did. -/
def cplxWordsUptoRow : OpenClaim := { program := "ytogejpepaggagaa", sum := "b11ec3925b0174c4d6eae75c98ff79d7157c0dc7ae35178de08d3e8e82a82ed0", func := "scullion/scullionlaw1.CplxWords", spec := "cplxWords", inPlace := ["math.Float64frombits", "math.Float64bits"], apart := false, narrowed := true }
def CplxWordsUptoSaid : Prop := cplxWordsUptoRow.holds Try.pinned (OpenSpec.upto cplxWordsSpec)

/-- 'scullionlaw1.CplxReckons', WHERE WHAT IT READS IS OF BULK AT MOST 1048576: true; the input reads as it did. -/
def cplxReckonsUptoRow : OpenClaim := { program := "ytogejpepaggagaa", sum := "b11ec3925b0174c4d6eae75c98ff79d7157c0dc7ae35178de08d3e8e82a82ed0", func := "scullion/scullionlaw1.CplxReckons", spec := "cplxReckons", inPlace := ["math.Float64frombits", "math.Float64bits"], apart := false, narrowed := true }
def CplxReckonsUptoSaid : Prop := cplxReckonsUptoRow.holds Try.pinned (OpenSpec.upto cplxReckonsSpec)

/-- 'scullionlaw1.CplxConjugates', WHERE WHAT IT READS IS OF BULK AT MOST 1048576: true; the input reads as it did. -/
def cplxConjugatesUptoRow : OpenClaim := { program := "ytogejpepaggagaa", sum := "b11ec3925b0174c4d6eae75c98ff79d7157c0dc7ae35178de08d3e8e82a82ed0", func := "scullion/scullionlaw1.CplxConjugates", spec := "cplxConjugates", inPlace := ["math.Float64frombits", "math.Float64bits"], unfollowed := true, recurses := true, apart := false, narrowed := true }
def CplxConjugatesUptoSaid : Prop := cplxConjugatesUptoRow.holds Try.pinned (OpenSpec.upto cplxConjugatesSpec)

/-- 'scullionlaw1.CplxUnits', WHERE WHAT IT READS IS OF BULK AT MOST 1048576: true; the input reads as it did. -/
def cplxUnitsUptoRow : OpenClaim := { program := "ytogejpepaggagaa", sum := "b11ec3925b0174c4d6eae75c98ff79d7157c0dc7ae35178de08d3e8e82a82ed0", func := "scullion/scullionlaw1.CplxUnits", spec := "cplxUnits", inPlace := ["math.Float64frombits", "math.Float64bits"], apart := false, narrowed := true }
def CplxUnitsUptoSaid : Prop := cplxUnitsUptoRow.holds Try.pinned (OpenSpec.upto cplxUnitsSpec)

/-- 'scullionlaw1.CplxPowersAdd', WHERE WHAT IT READS IS OF BULK AT MOST 1048576: true; the input reads as it did. -/
def cplxPowersAddUptoRow : OpenClaim := { program := "ytogejpepaggagaa", sum := "b11ec3925b0174c4d6eae75c98ff79d7157c0dc7ae35178de08d3e8e82a82ed0", func := "scullion/scullionlaw1.CplxPowersAdd", spec := "cplxPowersAdd", inPlace := ["math.Float64frombits"], apart := false, narrowed := true }
def CplxPowersAddUptoSaid : Prop := cplxPowersAddUptoRow.holds Try.pinned (OpenSpec.upto cplxPowersAddSpec)

/-- 'scullionlaw1.CplxApart', WHERE WHAT IT READS IS OF BULK AT MOST 1048576: true; the input reads as it did. -/
def cplxApartUptoRow : OpenClaim := { program := "ytogejpepaggagaa", sum := "b11ec3925b0174c4d6eae75c98ff79d7157c0dc7ae35178de08d3e8e82a82ed0", func := "scullion/scullionlaw1.CplxApart", spec := "cplxApart", inPlace := ["math.Float64frombits", "math.Float64bits"], apart := false, narrowed := true }
def CplxApartUptoSaid : Prop := cplxApartUptoRow.holds Try.pinned (OpenSpec.upto cplxApartSpec)

/-- 'scullionlaw1.CplxPowers', WHERE WHAT IT READS IS OF BULK AT MOST 1048576: true; the input reads as it did. -/
def cplxPowersUptoRow : OpenClaim := { program := "ytogejpepaggagaa", sum := "b11ec3925b0174c4d6eae75c98ff79d7157c0dc7ae35178de08d3e8e82a82ed0", func := "scullion/scullionlaw1.CplxPowers", spec := "cplxPowers", inPlace := ["math.Float64frombits", "math.Float64bits"], apart := false, narrowed := true }
def CplxPowersUptoSaid : Prop := cplxPowersUptoRow.holds Try.pinned (OpenSpec.upto cplxPowersSpec)

/-- 'scullionlaw1.CplxWhole', WHERE WHAT IT READS IS OF BULK AT MOST 1048576: true; the input reads as it did. -/
def cplxWholeUptoRow : OpenClaim := { program := "ytogejpepaggagaa", sum := "b11ec3925b0174c4d6eae75c98ff79d7157c0dc7ae35178de08d3e8e82a82ed0", func := "scullion/scullionlaw1.CplxWhole", spec := "cplxWhole", inPlace := ["math.Float64frombits"], apart := false, narrowed := true }
def CplxWholeUptoSaid : Prop := cplxWholeUptoRow.holds Try.pinned (OpenSpec.upto cplxWholeSpec)

/-- 'scullionlaw1.CplxBack', WHERE WHAT IT READS IS OF BULK AT MOST 1048576: true; the input reads as it did. -/
def cplxBackUptoRow : OpenClaim := { program := "ytogejpepaggagaa", sum := "b11ec3925b0174c4d6eae75c98ff79d7157c0dc7ae35178de08d3e8e82a82ed0", func := "scullion/scullionlaw1.CplxBack", spec := "cplxBack", inPlace := ["math.Float64frombits", "math.Float64bits"], apart := false, narrowed := true }
def CplxBackUptoSaid : Prop := cplxBackUptoRow.holds Try.pinned (OpenSpec.upto cplxBackSpec)

end Rows
end Go.Proofs.Ytogejpepaggagaa
