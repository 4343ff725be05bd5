/-
  No cell of these rows narrows 'for every input' (looked for: loops, veiled, ifaces, maps, wideKeys, modest, calm, conditions, laid).
  DERIVED. THE GIVEN ROWS OF THIS SEAT. 10 by the template 'for every input the law returns true; each argument reads behind the call as it read before'; 0 by the template 'total and deterministic' (their statements: YtgkjhnilgmokiaaTotals.lean).
  GIVEN WITH THE SEED: the statements are not yours to turn. If you find one false, say at which input.
  Laid BY PROGRAM, IN A SANDBOX (cutbox-rows.mjs): the forced cells as the released guide's own fill.sh prints them over the translation 4a13ca44217d8d45… (all of the seat's roots in one cut). By AI agents, Wed Nov 11 2026. No macro, syntax, notation, axiom, sorry.
-/
import Derived.Test.YtgkjhnilgmokiaaChecked
import GoSem.Claim
import GoSem.ClaimJoined
import GoSem.ClaimMapViews
import Derived.JoinedTies
import Derived.KernelRfl
namespace Go.Proofs.Ytgkjhnilgmokiaa
/- THE CELL 'sum', in the pinned program and in every row, IS THE sha256 OF THE DUMP (.gsa) THAT YtgkjhnilgmokiaaProg.lean LOADS. Nothing in Lean hashes anything: it is a label: what it is worth is what the hold of that sum in a sandbox is worth. -/
noncomputable def Try.pinned : Pinned := { name := "ytgkjhnilgmokiaa", sum := "4a13ca44217d8d45ff14fb35c49e1a92cc25ea34899a4f2c388c145f71e5e434", checked := Try.checked }
namespace Rows
def none {H : Type} : Left H := { results := [], args := [] }

/-- 'scullionlaw16.ClosureOf': WHATEVER THE INPUT: true; the input reads as it did. -/
def closureOfSpec : ChangeSpec := { name := "closureOf", fn := fun _ => fun
  | [d1, d2] => { results := [.lit (.bool true)], args := [d1, d2] }
  | _ => none }
def closureOfRow : OpenClaim := { program := "ytgkjhnilgmokiaa", sum := "4a13ca44217d8d45ff14fb35c49e1a92cc25ea34899a4f2c388c145f71e5e434", func := "scullion/scullionlaw16.ClosureOf", spec := "closureOf", unfollowed := true, recurses := true, apart := false }
def ClosureOfSaid : Prop := closureOfRow.holds Try.pinned (OpenSpec.ofChange closureOfSpec)

/-- ITS FALSE NEIGHBOUR: 'it returns false'. Refute it at one input. -/
def closureOfWrong : ChangeSpec := { name := "closureOf", fn := fun _ => fun
  | [d1, d2] => { results := [.lit (.bool false)], args := [d1, d2] }
  | _ => none }
def ClosureOfWrongFalsely : Prop := closureOfRow.holds Try.pinned (OpenSpec.ofChange closureOfWrong)

/-- 'scullionlaw16.ClosureMore': WHATEVER THE INPUT: true; the input reads as it did. -/
def closureMoreSpec : ChangeSpec := { name := "closureMore", fn := fun _ => fun
  | [d1, d2, d3] => { results := [.lit (.bool true)], args := [d1, d2, d3] }
  | _ => none }
def closureMoreRow : OpenClaim := { program := "ytgkjhnilgmokiaa", sum := "4a13ca44217d8d45ff14fb35c49e1a92cc25ea34899a4f2c388c145f71e5e434", func := "scullion/scullionlaw16.ClosureMore", spec := "closureMore", unfollowed := true, recurses := true, apart := false }
def ClosureMoreSaid : Prop := closureMoreRow.holds Try.pinned (OpenSpec.ofChange closureMoreSpec)

/-- ITS FALSE NEIGHBOUR: 'it returns false'. Refute it at one input. -/
def closureMoreWrong : ChangeSpec := { name := "closureMore", fn := fun _ => fun
  | [d1, d2, d3] => { results := [.lit (.bool false)], args := [d1, d2, d3] }
  | _ => none }
def ClosureMoreWrongFalsely : Prop := closureMoreRow.holds Try.pinned (OpenSpec.ofChange closureMoreWrong)

/-- 'scullionlaw13.HandleStale': WHATEVER THE INPUT: true; the input reads as it did. -/
def handleStaleSpec : ChangeSpec := { name := "handleStale", fn := fun _ => fun
  | [d] => { results := [.lit (.bool true)], args := [d] }
  | _ => none }
def handleStaleRow : OpenClaim := { program := "ytgkjhnilgmokiaa", sum := "4a13ca44217d8d45ff14fb35c49e1a92cc25ea34899a4f2c388c145f71e5e434", func := "scullion/scullionlaw13.HandleStale", spec := "handleStale", apart := false }
def HandleStaleSaid : Prop := handleStaleRow.holds Try.pinned (OpenSpec.ofChange handleStaleSpec)

/-- ITS FALSE NEIGHBOUR: 'it returns false'. Refute it at one input. -/
def handleStaleWrong : ChangeSpec := { name := "handleStale", fn := fun _ => fun
  | [d] => { results := [.lit (.bool false)], args := [d] }
  | _ => none }
def HandleStaleWrongFalsely : Prop := handleStaleRow.holds Try.pinned (OpenSpec.ofChange handleStaleWrong)

/-- 'scullionlaw13.HandleLeast': WHATEVER THE INPUT: true; the input reads as it did. -/
def handleLeastSpec : ChangeSpec := { name := "handleLeast", fn := fun _ => fun
  | [d1, d2] => { results := [.lit (.bool true)], args := [d1, d2] }
  | _ => none }
def handleLeastRow : OpenClaim := { program := "ytgkjhnilgmokiaa", sum := "4a13ca44217d8d45ff14fb35c49e1a92cc25ea34899a4f2c388c145f71e5e434", func := "scullion/scullionlaw13.HandleLeast", spec := "handleLeast", apart := false }
def HandleLeastSaid : Prop := handleLeastRow.holds Try.pinned (OpenSpec.ofChange handleLeastSpec)

/-- ITS FALSE NEIGHBOUR: 'it returns false'. Refute it at one input. -/
def handleLeastWrong : ChangeSpec := { name := "handleLeast", fn := fun _ => fun
  | [d1, d2] => { results := [.lit (.bool false)], args := [d1, d2] }
  | _ => none }
def HandleLeastWrongFalsely : Prop := handleLeastRow.holds Try.pinned (OpenSpec.ofChange handleLeastWrong)

/-- 'scullionlaw16.ClosureStays': WHATEVER THE INPUT: true; the input reads as it did. -/
def closureStaysSpec : ChangeSpec := { name := "closureStays", fn := fun _ => fun
  | [d1, d2] => { results := [.lit (.bool true)], args := [d1, d2] }
  | _ => none }
def closureStaysRow : OpenClaim := { program := "ytgkjhnilgmokiaa", sum := "4a13ca44217d8d45ff14fb35c49e1a92cc25ea34899a4f2c388c145f71e5e434", func := "scullion/scullionlaw16.ClosureStays", spec := "closureStays", unfollowed := true, recurses := true, apart := false }
def ClosureStaysSaid : Prop := closureStaysRow.holds Try.pinned (OpenSpec.ofChange closureStaysSpec)

/-- ITS FALSE NEIGHBOUR: 'it returns false'. Refute it at one input. -/
def closureStaysWrong : ChangeSpec := { name := "closureStays", fn := fun _ => fun
  | [d1, d2] => { results := [.lit (.bool false)], args := [d1, d2] }
  | _ => none }
def ClosureStaysWrongFalsely : Prop := closureStaysRow.holds Try.pinned (OpenSpec.ofChange closureStaysWrong)

/-- 'scullionlaw13.HandleMany': WHATEVER THE INPUT: true; the input reads as it did. -/
def handleManySpec : ChangeSpec := { name := "handleMany", fn := fun _ => fun
  | [d1, d2] => { results := [.lit (.bool true)], args := [d1, d2] }
  | _ => none }
def handleManyRow : OpenClaim := { program := "ytgkjhnilgmokiaa", sum := "4a13ca44217d8d45ff14fb35c49e1a92cc25ea34899a4f2c388c145f71e5e434", func := "scullion/scullionlaw13.HandleMany", spec := "handleMany", apart := false }
def HandleManySaid : Prop := handleManyRow.holds Try.pinned (OpenSpec.ofChange handleManySpec)

/-- ITS FALSE NEIGHBOUR: 'it returns false'. Refute it at one input. -/
def handleManyWrong : ChangeSpec := { name := "handleMany", fn := fun _ => fun
  | [d1, d2] => { results := [.lit (.bool false)], args := [d1, d2] }
  | _ => none }
def HandleManyWrongFalsely : Prop := handleManyRow.holds Try.pinned (OpenSpec.ofChange handleManyWrong)

/-- 'scullionlaw13.HandleMoves': WHATEVER THE INPUT: true; the input reads as it did. -/
def handleMovesSpec : ChangeSpec := { name := "handleMoves", fn := fun _ => fun
  | [d1, d2, d3] => { results := [.lit (.bool true)], args := [d1, d2, d3] }
  | _ => none }
def handleMovesRow : OpenClaim := { program := "ytgkjhnilgmokiaa", sum := "4a13ca44217d8d45ff14fb35c49e1a92cc25ea34899a4f2c388c145f71e5e434", func := "scullion/scullionlaw13.HandleMoves", spec := "handleMoves", apart := false }
def HandleMovesSaid : Prop := handleMovesRow.holds Try.pinned (OpenSpec.ofChange handleMovesSpec)

/-- ITS FALSE NEIGHBOUR: 'it returns false'. Refute it at one input. -/
def handleMovesWrong : ChangeSpec := { name := "handleMoves", fn := fun _ => fun
  | [d1, d2, d3] => { results := [.lit (.bool false)], args := [d1, d2, d3] }
  | _ => none }
def HandleMovesWrongFalsely : Prop := handleMovesRow.holds Try.pinned (OpenSpec.ofChange handleMovesWrong)

/-- 'scullionlaw16.ClosureShuts': WHATEVER THE INPUT: true; the input reads as it did. -/
def closureShutsSpec : ChangeSpec := { name := "closureShuts", fn := fun _ => fun
  | [d1, d2] => { results := [.lit (.bool true)], args := [d1, d2] }
  | _ => none }
def closureShutsRow : OpenClaim := { program := "ytgkjhnilgmokiaa", sum := "4a13ca44217d8d45ff14fb35c49e1a92cc25ea34899a4f2c388c145f71e5e434", func := "scullion/scullionlaw16.ClosureShuts", spec := "closureShuts", unfollowed := true, recurses := true, apart := false }
def ClosureShutsSaid : Prop := closureShutsRow.holds Try.pinned (OpenSpec.ofChange closureShutsSpec)

/-- ITS FALSE NEIGHBOUR: 'it returns false'. Refute it at one input. -/
def closureShutsWrong : ChangeSpec := { name := "closureShuts", fn := fun _ => fun
  | [d1, d2] => { results := [.lit (.bool false)], args := [d1, d2] }
  | _ => none }
def ClosureShutsWrongFalsely : Prop := closureShutsRow.holds Try.pinned (OpenSpec.ofChange closureShutsWrong)

/-- 'scullionlaw13.HandlePlays': WHATEVER THE INPUT: true; the input reads as it did. -/
def handlePlaysSpec : ChangeSpec := { name := "handlePlays", fn := fun _ => fun
  | [d] => { results := [.lit (.bool true)], args := [d] }
  | _ => none }
def handlePlaysRow : OpenClaim := { program := "ytgkjhnilgmokiaa", sum := "4a13ca44217d8d45ff14fb35c49e1a92cc25ea34899a4f2c388c145f71e5e434", func := "scullion/scullionlaw13.HandlePlays", spec := "handlePlays", apart := false }
def HandlePlaysSaid : Prop := handlePlaysRow.holds Try.pinned (OpenSpec.ofChange handlePlaysSpec)

/-- ITS FALSE NEIGHBOUR: 'it returns false'. Refute it at one input. -/
def handlePlaysWrong : ChangeSpec := { name := "handlePlays", fn := fun _ => fun
  | [d] => { results := [.lit (.bool false)], args := [d] }
  | _ => none }
def HandlePlaysWrongFalsely : Prop := handlePlaysRow.holds Try.pinned (OpenSpec.ofChange handlePlaysWrong)

/-- 'scullionlaw13.HandleNil': WHATEVER THE INPUT: true; the input reads as it did. -/
def handleNilSpec : ChangeSpec := { name := "handleNil", fn := fun _ => fun
  | [d] => { results := [.lit (.bool true)], args := [d] }
  | _ => none }
def handleNilRow : OpenClaim := { program := "ytgkjhnilgmokiaa", sum := "4a13ca44217d8d45ff14fb35c49e1a92cc25ea34899a4f2c388c145f71e5e434", func := "scullion/scullionlaw13.HandleNil", spec := "handleNil", apart := false }
def HandleNilSaid : Prop := handleNilRow.holds Try.pinned (OpenSpec.ofChange handleNilSpec)

/-- ITS FALSE NEIGHBOUR: 'it returns false'. Refute it at one input. -/
def handleNilWrong : ChangeSpec := { name := "handleNil", fn := fun _ => fun
  | [d] => { results := [.lit (.bool false)], args := [d] }
  | _ => none }
def HandleNilWrongFalsely : Prop := handleNilRow.holds Try.pinned (OpenSpec.ofChange handleNilWrong)

/- THE SECOND FORM. 'bulk': how many values and letters a reading holds, each counted each time it is reached (what is shared counts as often as it is met; a slice's spare places count too). A statement '..UptoSaid' is the law's where the arguments, and the package variables that the reading takes, are together of bulk at most 1048576: NARROWER than '..Said'. Prove '..Said' where nothing that the law and all that it calls make is longer than what came in: it says more and counts as full. Else prove '..UptoSaid'. A law counts once. -/
mutual
def uptoBulk {H : Type} : DataW H → Nat
  | .lit (.string bytes) => bytes.length + 1
  | .lit _ => 1
  | .nil => 1
  | .ptr d => uptoBulk d + 1
  | .slice elems spare => uptoBulkAll elems + uptoBulkAll spare + 1
  | .agg parts => uptoBulkAll parts + 1
  | .iface _ d => uptoBulk d + 1
  | .map entries => uptoBulkEntries entries + 1
  | .held _ => 1
def uptoBulkAll {H : Type} : List (DataW H) → Nat
  | [] => 0
  | d :: r => uptoBulk d + uptoBulkAll r
def uptoBulkEntries {H : Type} : List (Lit × DataW H) → Nat
  | [] => 0
  | x :: r => uptoBulkEntry x + uptoBulkEntries r
def uptoBulkEntry {H : Type} : Lit × DataW H → Nat
  | (.string bytes, d) => bytes.length + uptoBulk d + 1
  | (_, d) => uptoBulk d + 1
 end
def uptoSmall : (H : Type) → List (DataW H) → Bool := fun _ ds => decide (uptoBulkAll ds ≤ 1048576)
def OpenSpec.upto (s : _root_.Go.ChangeSpec) : _root_.Go.OpenSpec := { _root_.Go.OpenSpec.ofChange s with cond := some uptoSmall }

/-- 'scullionlaw16.ClosureOf', WHERE WHAT IT READS IS OF BULK AT MOST 1048576: true; the input reads as it did. -/
def closureOfUptoRow : OpenClaim := { program := "ytgkjhnilgmokiaa", sum := "4a13ca44217d8d45ff14fb35c49e1a92cc25ea34899a4f2c388c145f71e5e434", func := "scullion/scullionlaw16.ClosureOf", spec := "closureOf", unfollowed := true, recurses := true, apart := false, narrowed := true }
def ClosureOfUptoSaid : Prop := closureOfUptoRow.holds Try.pinned (OpenSpec.upto closureOfSpec)

/-- 'scullionlaw16.ClosureMore', WHERE WHAT IT READS IS OF BULK AT MOST 1048576: true; the input reads as it did. -/
def closureMoreUptoRow : OpenClaim := { program := "ytgkjhnilgmokiaa", sum := "4a13ca44217d8d45ff14fb35c49e1a92cc25ea34899a4f2c388c145f71e5e434", func := "scullion/scullionlaw16.ClosureMore", spec := "closureMore", unfollowed := true, recurses := true, apart := false, narrowed := true }
def ClosureMoreUptoSaid : Prop := closureMoreUptoRow.holds Try.pinned (OpenSpec.upto closureMoreSpec)

/-- 'scullionlaw13.HandleStale', WHERE WHAT IT READS IS OF BULK AT MOST 1048576: true; the input reads as it did. -/
def handleStaleUptoRow : OpenClaim := { program := "ytgkjhnilgmokiaa", sum := "4a13ca44217d8d45ff14fb35c49e1a92cc25ea34899a4f2c388c145f71e5e434", func := "scullion/scullionlaw13.HandleStale", spec := "handleStale", apart := false, narrowed := true }
def HandleStaleUptoSaid : Prop := handleStaleUptoRow.holds Try.pinned (OpenSpec.upto handleStaleSpec)

/-- 'scullionlaw13.HandleLeast', WHERE WHAT IT READS IS OF BULK AT MOST 1048576: true; the input reads as it did. -/
def handleLeastUptoRow : OpenClaim := { program := "ytgkjhnilgmokiaa", sum := "4a13ca44217d8d45ff14fb35c49e1a92cc25ea34899a4f2c388c145f71e5e434", func := "scullion/scullionlaw13.HandleLeast", spec := "handleLeast", apart := false, narrowed := true }
def HandleLeastUptoSaid : Prop := handleLeastUptoRow.holds Try.pinned (OpenSpec.upto handleLeastSpec)

/-- 'scullionlaw16.ClosureStays', WHERE WHAT IT READS IS OF BULK AT MOST 1048576: true; the input reads as it did. -/
def closureStaysUptoRow : OpenClaim := { program := "ytgkjhnilgmokiaa", sum := "4a13ca44217d8d45ff14fb35c49e1a92cc25ea34899a4f2c388c145f71e5e434", func := "scullion/scullionlaw16.ClosureStays", spec := "closureStays", unfollowed := true, recurses := true, apart := false, narrowed := true }
def ClosureStaysUptoSaid : Prop := closureStaysUptoRow.holds Try.pinned (OpenSpec.upto closureStaysSpec)

/-- 'scullionlaw13.HandleMany', WHERE WHAT IT READS IS OF BULK AT MOST 1048576: true; the input reads as it did. -/
def handleManyUptoRow : OpenClaim := { program := "ytgkjhnilgmokiaa", sum := "4a13ca44217d8d45ff14fb35c49e1a92cc25ea34899a4f2c388c145f71e5e434", func := "scullion/scullionlaw13.HandleMany", spec := "handleMany", apart := false, narrowed := true }
def HandleManyUptoSaid : Prop := handleManyUptoRow.holds Try.pinned (OpenSpec.upto handleManySpec)

/-- 'scullionlaw13.HandleMoves', WHERE WHAT IT READS IS OF BULK AT MOST 1048576: true; the input reads as it did. -/
def handleMovesUptoRow : OpenClaim := { program := "ytgkjhnilgmokiaa", sum := "4a13ca44217d8d45ff14fb35c49e1a92cc25ea34899a4f2c388c145f71e5e434", func := "scullion/scullionlaw13.HandleMoves", spec := "handleMoves", apart := false, narrowed := true }
def HandleMovesUptoSaid : Prop := handleMovesUptoRow.holds Try.pinned (OpenSpec.upto handleMovesSpec)

/-- 'scullionlaw16.ClosureShuts', WHERE WHAT IT READS IS OF BULK AT MOST 1048576: true; the input reads as it did. -/
def closureShutsUptoRow : OpenClaim := { program := "ytgkjhnilgmokiaa", sum := "4a13ca44217d8d45ff14fb35c49e1a92cc25ea34899a4f2c388c145f71e5e434", func := "scullion/scullionlaw16.ClosureShuts", spec := "closureShuts", unfollowed := true, recurses := true, apart := false, narrowed := true }
def ClosureShutsUptoSaid : Prop := closureShutsUptoRow.holds Try.pinned (OpenSpec.upto closureShutsSpec)

/-- 'scullionlaw13.HandlePlays', WHERE WHAT IT READS IS OF BULK AT MOST 1048576: true; the input reads as it did. -/
def handlePlaysUptoRow : OpenClaim := { program := "ytgkjhnilgmokiaa", sum := "4a13ca44217d8d45ff14fb35c49e1a92cc25ea34899a4f2c388c145f71e5e434", func := "scullion/scullionlaw13.HandlePlays", spec := "handlePlays", apart := false, narrowed := true }
def HandlePlaysUptoSaid : Prop := handlePlaysUptoRow.holds Try.pinned (OpenSpec.upto handlePlaysSpec)

/-- 'scullionlaw13.HandleNil', WHERE WHAT IT READS IS OF BULK AT MOST 1048576: true; the input reads as it did. -/
def handleNilUptoRow : OpenClaim := { program := "ytgkjhnilgmokiaa", sum := "4a13ca44217d8d45ff14fb35c49e1a92cc25ea34899a4f2c388c145f71e5e434", func := "scullion/scullionlaw13.HandleNil", spec := "handleNil", apart := false, narrowed := true }
def HandleNilUptoSaid : Prop := handleNilUptoRow.holds Try.pinned (OpenSpec.upto handleNilSpec)

end Rows
end Go.Proofs.Ytgkjhnilgmokiaa
