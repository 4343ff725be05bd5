/-
  No cell of these rows narrows 'for every input' (looked for: loops, veiled, ifaces, maps, wideKeys, modest, calm, conditions, laid).
  DERIVED. THE GIVEN ROWS OF THIS SEAT. 6 by the template 'for every input the law returns true; each argument reads behind the call as it read before'; 0 by the template 'total and deterministic' (their statements: YtdgclpgjoanimaaTotals.lean).
  GIVEN WITH THE SEED: the statements are not yours to turn. If you find one false, say at which input.
  Laid BY PROGRAM, IN A SANDBOX (cutbox-rows.mjs): the forced cells as the released guide's own fill.sh prints them over the translation 8cb70de7e8c88b2f… (all of the seat's roots in one cut). By AI agents, Wed Nov 11 2026. No macro, syntax, notation, axiom, sorry.
-/
import Derived.Test.YtdgclpgjoanimaaChecked
import GoSem.Claim
import GoSem.ClaimJoined
import GoSem.ClaimMapViews
import Derived.JoinedTies
import Derived.KernelRfl
namespace Go.Proofs.Ytdgclpgjoanimaa
/- THE CELL 'sum', in the pinned program and in every row, IS THE sha256 OF THE DUMP (.gsa) THAT YtdgclpgjoanimaaProg.lean LOADS. Nothing in Lean hashes anything: it is a label: what it is worth is what the hold of that sum in a sandbox is worth. -/
noncomputable def Try.pinned : Pinned := { name := "ytdgclpgjoanimaa", sum := "8cb70de7e8c88b2faff11a099e96634163b29b34443f5680420b99e890b94c67", checked := Try.checked }
namespace Rows
def none {H : Type} : Left H := { results := [], args := [] }

/-- 'scullionlaw12.GraphReaches': WHATEVER THE INPUT: true; the input reads as it did. -/
def graphReachesSpec : ChangeSpec := { name := "graphReaches", fn := fun _ => fun
  | [d1, d2] => { results := [.lit (.bool true)], args := [d1, d2] }
  | _ => none }
def graphReachesRow : OpenClaim := { program := "ytdgclpgjoanimaa", sum := "8cb70de7e8c88b2faff11a099e96634163b29b34443f5680420b99e890b94c67", func := "scullion/scullionlaw12.GraphReaches", spec := "graphReaches", unfollowed := true, recurses := true, apart := false }
def GraphReachesSaid : Prop := graphReachesRow.holds Try.pinned (OpenSpec.ofChange graphReachesSpec)

/-- ITS FALSE NEIGHBOUR: 'it returns false'. Refute it at one input. -/
def graphReachesWrong : ChangeSpec := { name := "graphReaches", fn := fun _ => fun
  | [d1, d2] => { results := [.lit (.bool false)], args := [d1, d2] }
  | _ => none }
def GraphReachesWrongFalsely : Prop := graphReachesRow.holds Try.pinned (OpenSpec.ofChange graphReachesWrong)

/-- 'scullionlaw12.GraphShuts': WHATEVER THE INPUT: true; the input reads as it did. -/
def graphShutsSpec : ChangeSpec := { name := "graphShuts", fn := fun _ => fun
  | [d1, d2] => { results := [.lit (.bool true)], args := [d1, d2] }
  | _ => none }
def graphShutsRow : OpenClaim := { program := "ytdgclpgjoanimaa", sum := "8cb70de7e8c88b2faff11a099e96634163b29b34443f5680420b99e890b94c67", func := "scullion/scullionlaw12.GraphShuts", spec := "graphShuts", unfollowed := true, recurses := true, apart := false }
def GraphShutsSaid : Prop := graphShutsRow.holds Try.pinned (OpenSpec.ofChange graphShutsSpec)

/-- ITS FALSE NEIGHBOUR: 'it returns false'. Refute it at one input. -/
def graphShutsWrong : ChangeSpec := { name := "graphShuts", fn := fun _ => fun
  | [d1, d2] => { results := [.lit (.bool false)], args := [d1, d2] }
  | _ => none }
def GraphShutsWrongFalsely : Prop := graphShutsRow.holds Try.pinned (OpenSpec.ofChange graphShutsWrong)

/-- 'scullionlaw12.GraphTrimmed': WHATEVER THE INPUT: true; the input reads as it did. -/
def graphTrimmedSpec : ChangeSpec := { name := "graphTrimmed", fn := fun _ => fun
  | [d] => { results := [.lit (.bool true)], args := [d] }
  | _ => none }
def graphTrimmedRow : OpenClaim := { program := "ytdgclpgjoanimaa", sum := "8cb70de7e8c88b2faff11a099e96634163b29b34443f5680420b99e890b94c67", func := "scullion/scullionlaw12.GraphTrimmed", spec := "graphTrimmed", unfollowed := true, recurses := true, apart := false }
def GraphTrimmedSaid : Prop := graphTrimmedRow.holds Try.pinned (OpenSpec.ofChange graphTrimmedSpec)

/-- ITS FALSE NEIGHBOUR: 'it returns false'. Refute it at one input. -/
def graphTrimmedWrong : ChangeSpec := { name := "graphTrimmed", fn := fun _ => fun
  | [d] => { results := [.lit (.bool false)], args := [d] }
  | _ => none }
def GraphTrimmedWrongFalsely : Prop := graphTrimmedRow.holds Try.pinned (OpenSpec.ofChange graphTrimmedWrong)

/-- 'scullionlaw12.GraphMore': WHATEVER THE INPUT: true; the input reads as it did. -/
def graphMoreSpec : ChangeSpec := { name := "graphMore", fn := fun _ => fun
  | [d1, d2, d3] => { results := [.lit (.bool true)], args := [d1, d2, d3] }
  | _ => none }
def graphMoreRow : OpenClaim := { program := "ytdgclpgjoanimaa", sum := "8cb70de7e8c88b2faff11a099e96634163b29b34443f5680420b99e890b94c67", func := "scullion/scullionlaw12.GraphMore", spec := "graphMore", unfollowed := true, recurses := true, apart := false }
def GraphMoreSaid : Prop := graphMoreRow.holds Try.pinned (OpenSpec.ofChange graphMoreSpec)

/-- ITS FALSE NEIGHBOUR: 'it returns false'. Refute it at one input. -/
def graphMoreWrong : ChangeSpec := { name := "graphMore", fn := fun _ => fun
  | [d1, d2, d3] => { results := [.lit (.bool false)], args := [d1, d2, d3] }
  | _ => none }
def GraphMoreWrongFalsely : Prop := graphMoreRow.holds Try.pinned (OpenSpec.ofChange graphMoreWrong)

/-- 'scullionlaw12.GraphAlike': WHATEVER THE INPUT: true; the input reads as it did. -/
def graphAlikeSpec : ChangeSpec := { name := "graphAlike", fn := fun _ => fun
  | [d1, d2, d3, d4, d5] => { results := [.lit (.bool true)], args := [d1, d2, d3, d4, d5] }
  | _ => none }
def graphAlikeRow : OpenClaim := { program := "ytdgclpgjoanimaa", sum := "8cb70de7e8c88b2faff11a099e96634163b29b34443f5680420b99e890b94c67", func := "scullion/scullionlaw12.GraphAlike", spec := "graphAlike", unfollowed := true, recurses := true, apart := false }
def GraphAlikeSaid : Prop := graphAlikeRow.holds Try.pinned (OpenSpec.ofChange graphAlikeSpec)

/-- ITS FALSE NEIGHBOUR: 'it returns false'. Refute it at one input. -/
def graphAlikeWrong : ChangeSpec := { name := "graphAlike", fn := fun _ => fun
  | [d1, d2, d3, d4, d5] => { results := [.lit (.bool false)], args := [d1, d2, d3, d4, d5] }
  | _ => none }
def GraphAlikeWrongFalsely : Prop := graphAlikeRow.holds Try.pinned (OpenSpec.ofChange graphAlikeWrong)

/-- 'scullionlaw12.GraphMany': WHATEVER THE INPUT: true; the input reads as it did. -/
def graphManySpec : ChangeSpec := { name := "graphMany", fn := fun _ => fun
  | [d] => { results := [.lit (.bool true)], args := [d] }
  | _ => none }
def graphManyRow : OpenClaim := { program := "ytdgclpgjoanimaa", sum := "8cb70de7e8c88b2faff11a099e96634163b29b34443f5680420b99e890b94c67", func := "scullion/scullionlaw12.GraphMany", spec := "graphMany", unfollowed := true, recurses := true, apart := false }
def GraphManySaid : Prop := graphManyRow.holds Try.pinned (OpenSpec.ofChange graphManySpec)

/-- ITS FALSE NEIGHBOUR: 'it returns false'. Refute it at one input. -/
def graphManyWrong : ChangeSpec := { name := "graphMany", fn := fun _ => fun
  | [d] => { results := [.lit (.bool false)], args := [d] }
  | _ => none }
def GraphManyWrongFalsely : Prop := graphManyRow.holds Try.pinned (OpenSpec.ofChange graphManyWrong)

/- THE SECOND FORM. 'bulk': how many values and letters a reading holds, each counted each time it is reached (what is shared counts as often as it is met; a slice's spare places count too). A statement '..UptoSaid' is the law's where the arguments, and the package variables that the reading takes, are together of bulk at most 1048576: NARROWER than '..Said'. Prove '..Said' where nothing that the law and all that it calls make is longer than what came in: it says more and counts as full. Else prove '..UptoSaid'. A law counts once. -/
mutual
def uptoBulk {H : Type} : DataW H → Nat
  | .lit (.string bytes) => bytes.length + 1
  | .lit _ => 1
  | .nil => 1
  | .ptr d => uptoBulk d + 1
  | .slice elems spare => uptoBulkAll elems + uptoBulkAll spare + 1
  | .agg parts => uptoBulkAll parts + 1
  | .iface _ d => uptoBulk d + 1
  | .map entries => uptoBulkEntries entries + 1
  | .held _ => 1
def uptoBulkAll {H : Type} : List (DataW H) → Nat
  | [] => 0
  | d :: r => uptoBulk d + uptoBulkAll r
def uptoBulkEntries {H : Type} : List (Lit × DataW H) → Nat
  | [] => 0
  | x :: r => uptoBulkEntry x + uptoBulkEntries r
def uptoBulkEntry {H : Type} : Lit × DataW H → Nat
  | (.string bytes, d) => bytes.length + uptoBulk d + 1
  | (_, d) => uptoBulk d + 1
 end
def uptoSmall : (H : Type) → List (DataW H) → Bool := fun _ ds => decide (uptoBulkAll ds ≤ 1048576)
def OpenSpec.upto (s : _root_.Go.ChangeSpec) : _root_.Go.OpenSpec := { _root_.Go.OpenSpec.ofChange s with cond := some uptoSmall }

/-- 'scullionlaw12.GraphReaches', WHERE WHAT IT READS IS OF BULK AT MOST 1048576: true; the input reads as it did. -/
def graphReachesUptoRow : OpenClaim := { program := "ytdgclpgjoanimaa", sum := "8cb70de7e8c88b2faff11a099e96634163b29b34443f5680420b99e890b94c67", func := "scullion/scullionlaw12.GraphReaches", spec := "graphReaches", unfollowed := true, recurses := true, apart := false, narrowed := true }
def GraphReachesUptoSaid : Prop := graphReachesUptoRow.holds Try.pinned (OpenSpec.upto graphReachesSpec)

/-- 'scullionlaw12.GraphShuts', WHERE WHAT IT READS IS OF BULK AT MOST 1048576: true; the input reads as it did. -/
def graphShutsUptoRow : OpenClaim := { program := "ytdgclpgjoanimaa", sum := "8cb70de7e8c88b2faff11a099e96634163b29b34443f5680420b99e890b94c67", func := "scullion/scullionlaw12.GraphShuts", spec := "graphShuts", unfollowed := true, recurses := true, apart := false, narrowed := true }
def GraphShutsUptoSaid : Prop := graphShutsUptoRow.holds Try.pinned (OpenSpec.upto graphShutsSpec)

/-- 'scullionlaw12.GraphTrimmed', WHERE WHAT IT READS IS OF BULK AT MOST 1048576: true; the input reads as it did. -/
def graphTrimmedUptoRow : OpenClaim := { program := "ytdgclpgjoanimaa", sum := "8cb70de7e8c88b2faff11a099e96634163b29b34443f5680420b99e890b94c67", func := "scullion/scullionlaw12.GraphTrimmed", spec := "graphTrimmed", unfollowed := true, recurses := true, apart := false, narrowed := true }
def GraphTrimmedUptoSaid : Prop := graphTrimmedUptoRow.holds Try.pinned (OpenSpec.upto graphTrimmedSpec)

/-- 'scullionlaw12.GraphMore', WHERE WHAT IT READS IS OF BULK AT MOST 1048576: true; the input reads as it did. -/
def graphMoreUptoRow : OpenClaim := { program := "ytdgclpgjoanimaa", sum := "8cb70de7e8c88b2faff11a099e96634163b29b34443f5680420b99e890b94c67", func := "scullion/scullionlaw12.GraphMore", spec := "graphMore", unfollowed := true, recurses := true, apart := false, narrowed := true }
def GraphMoreUptoSaid : Prop := graphMoreUptoRow.holds Try.pinned (OpenSpec.upto graphMoreSpec)

/-- 'scullionlaw12.GraphAlike', WHERE WHAT IT READS IS OF BULK AT MOST 1048576: true; the input reads as it did. -/
def graphAlikeUptoRow : OpenClaim := { program := "ytdgclpgjoanimaa", sum := "8cb70de7e8c88b2faff11a099e96634163b29b34443f5680420b99e890b94c67", func := "scullion/scullionlaw12.GraphAlike", spec := "graphAlike", unfollowed := true, recurses := true, apart := false, narrowed := true }
def GraphAlikeUptoSaid : Prop := graphAlikeUptoRow.holds Try.pinned (OpenSpec.upto graphAlikeSpec)

/-- 'scullionlaw12.GraphMany', WHERE WHAT IT READS IS OF BULK AT MOST 1048576: true; the input reads as it did. -/
def graphManyUptoRow : OpenClaim := { program := "ytdgclpgjoanimaa", sum := "8cb70de7e8c88b2faff11a099e96634163b29b34443f5680420b99e890b94c67", func := "scullion/scullionlaw12.GraphMany", spec := "graphMany", unfollowed := true, recurses := true, apart := false, narrowed := true }
def GraphManyUptoSaid : Prop := graphManyUptoRow.holds Try.pinned (OpenSpec.upto graphManySpec)

end Rows
end Go.Proofs.Ytdgclpgjoanimaa
