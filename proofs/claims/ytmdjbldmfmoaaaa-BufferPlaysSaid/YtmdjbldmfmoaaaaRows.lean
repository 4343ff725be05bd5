/-
  No cell of these rows narrows 'for every input' (looked for: loops, veiled, ifaces, maps, wideKeys, modest, calm, conditions, laid).
  DERIVED. THE GIVEN ROWS OF THIS SEAT. 6 by the template 'for every input the law returns true; each argument reads behind the call as it read before'; 0 by the template 'total and deterministic' (their statements: YtmdjbldmfmoaaaaTotals.lean).
  GIVEN WITH THE SEED: the statements are not yours to turn. If you find one false, say at which input.
  Laid BY PROGRAM, IN A SANDBOX (cutbox-rows.mjs): the forced cells as the released guide's own fill.sh prints them over the translation ffe55ebcc82b4f31… (all of the seat's roots in one cut). By AI agents, Wed Nov 11 2026. No macro, syntax, notation, axiom, sorry.
-/
import Derived.Test.YtmdjbldmfmoaaaaChecked
import GoSem.Claim
import GoSem.ClaimJoined
import GoSem.ClaimMapViews
import Derived.JoinedTies
import Derived.KernelRfl
namespace Go.Proofs.Ytmdjbldmfmoaaaa
/- THE CELL 'sum', in the pinned program and in every row, IS THE sha256 OF THE DUMP (.gsa) THAT YtmdjbldmfmoaaaaProg.lean LOADS. Nothing in Lean hashes anything: it is a label: what it is worth is what the hold of that sum in a sandbox is worth. -/
noncomputable def Try.pinned : Pinned := { name := "ytmdjbldmfmoaaaa", sum := "ffe55ebcc82b4f31c91a19c8fc60d2f6e3671aa361ac319a5adb141264c4bcab", checked := Try.checked }
namespace Rows
def none {H : Type} : Left H := { results := [], args := [] }

/-- 'scullionlaw15.BufferMany': WHATEVER THE INPUT: true; the input reads as it did. -/
def bufferManySpec : ChangeSpec := { name := "bufferMany", fn := fun _ => fun
  | [d] => { results := [.lit (.bool true)], args := [d] }
  | _ => none }
def bufferManyRow : OpenClaim := { program := "ytmdjbldmfmoaaaa", sum := "ffe55ebcc82b4f31c91a19c8fc60d2f6e3671aa361ac319a5adb141264c4bcab", func := "scullion/scullionlaw15.BufferMany", spec := "bufferMany", apart := false }
def BufferManySaid : Prop := bufferManyRow.holds Try.pinned (OpenSpec.ofChange bufferManySpec)

/-- ITS FALSE NEIGHBOUR: 'it returns false'. Refute it at one input. -/
def bufferManyWrong : ChangeSpec := { name := "bufferMany", fn := fun _ => fun
  | [d] => { results := [.lit (.bool false)], args := [d] }
  | _ => none }
def BufferManyWrongFalsely : Prop := bufferManyRow.holds Try.pinned (OpenSpec.ofChange bufferManyWrong)

/-- 'scullionlaw15.BufferAgain': WHATEVER THE INPUT: true; the input reads as it did. -/
def bufferAgainSpec : ChangeSpec := { name := "bufferAgain", fn := fun _ => fun
  | [d] => { results := [.lit (.bool true)], args := [d] }
  | _ => none }
def bufferAgainRow : OpenClaim := { program := "ytmdjbldmfmoaaaa", sum := "ffe55ebcc82b4f31c91a19c8fc60d2f6e3671aa361ac319a5adb141264c4bcab", func := "scullion/scullionlaw15.BufferAgain", spec := "bufferAgain", apart := false }
def BufferAgainSaid : Prop := bufferAgainRow.holds Try.pinned (OpenSpec.ofChange bufferAgainSpec)

/-- ITS FALSE NEIGHBOUR: 'it returns false'. Refute it at one input. -/
def bufferAgainWrong : ChangeSpec := { name := "bufferAgain", fn := fun _ => fun
  | [d] => { results := [.lit (.bool false)], args := [d] }
  | _ => none }
def BufferAgainWrongFalsely : Prop := bufferAgainRow.holds Try.pinned (OpenSpec.ofChange bufferAgainWrong)

/-- 'scullionlaw15.BufferApart': WHATEVER THE INPUT: true; the input reads as it did. -/
def bufferApartSpec : ChangeSpec := { name := "bufferApart", fn := fun _ => fun
  | [d1, d2, d3, d4, d5] => { results := [.lit (.bool true)], args := [d1, d2, d3, d4, d5] }
  | _ => none }
def bufferApartRow : OpenClaim := { program := "ytmdjbldmfmoaaaa", sum := "ffe55ebcc82b4f31c91a19c8fc60d2f6e3671aa361ac319a5adb141264c4bcab", func := "scullion/scullionlaw15.BufferApart", spec := "bufferApart", apart := false }
def BufferApartSaid : Prop := bufferApartRow.holds Try.pinned (OpenSpec.ofChange bufferApartSpec)

/-- ITS FALSE NEIGHBOUR: 'it returns false'. Refute it at one input. -/
def bufferApartWrong : ChangeSpec := { name := "bufferApart", fn := fun _ => fun
  | [d1, d2, d3, d4, d5] => { results := [.lit (.bool false)], args := [d1, d2, d3, d4, d5] }
  | _ => none }
def BufferApartWrongFalsely : Prop := bufferApartRow.holds Try.pinned (OpenSpec.ofChange bufferApartWrong)

/-- 'scullionlaw15.BufferLast': WHATEVER THE INPUT: true; the input reads as it did. -/
def bufferLastSpec : ChangeSpec := { name := "bufferLast", fn := fun _ => fun
  | [d] => { results := [.lit (.bool true)], args := [d] }
  | _ => none }
def bufferLastRow : OpenClaim := { program := "ytmdjbldmfmoaaaa", sum := "ffe55ebcc82b4f31c91a19c8fc60d2f6e3671aa361ac319a5adb141264c4bcab", func := "scullion/scullionlaw15.BufferLast", spec := "bufferLast", unfollowed := true, recurses := true, apart := false }
def BufferLastSaid : Prop := bufferLastRow.holds Try.pinned (OpenSpec.ofChange bufferLastSpec)

/-- ITS FALSE NEIGHBOUR: 'it returns false'. Refute it at one input. -/
def bufferLastWrong : ChangeSpec := { name := "bufferLast", fn := fun _ => fun
  | [d] => { results := [.lit (.bool false)], args := [d] }
  | _ => none }
def BufferLastWrongFalsely : Prop := bufferLastRow.holds Try.pinned (OpenSpec.ofChange bufferLastWrong)

/-- 'scullionlaw15.BufferPlays': WHATEVER THE INPUT: true; the input reads as it did. -/
def bufferPlaysSpec : ChangeSpec := { name := "bufferPlays", fn := fun _ => fun
  | [d1, d2, d3, d4, d5] => { results := [.lit (.bool true)], args := [d1, d2, d3, d4, d5] }
  | _ => none }
def bufferPlaysRow : OpenClaim := { program := "ytmdjbldmfmoaaaa", sum := "ffe55ebcc82b4f31c91a19c8fc60d2f6e3671aa361ac319a5adb141264c4bcab", func := "scullion/scullionlaw15.BufferPlays", spec := "bufferPlays", apart := false }
def BufferPlaysSaid : Prop := bufferPlaysRow.holds Try.pinned (OpenSpec.ofChange bufferPlaysSpec)

/-- ITS FALSE NEIGHBOUR: 'it returns false'. Refute it at one input. -/
def bufferPlaysWrong : ChangeSpec := { name := "bufferPlays", fn := fun _ => fun
  | [d1, d2, d3, d4, d5] => { results := [.lit (.bool false)], args := [d1, d2, d3, d4, d5] }
  | _ => none }
def BufferPlaysWrongFalsely : Prop := bufferPlaysRow.holds Try.pinned (OpenSpec.ofChange bufferPlaysWrong)

/-- 'scullionlaw15.BufferNil': WHATEVER THE INPUT: true; the input reads as it did. -/
def bufferNilSpec : ChangeSpec := { name := "bufferNil", fn := fun _ => fun
  | [d] => { results := [.lit (.bool true)], args := [d] }
  | _ => none }
def bufferNilRow : OpenClaim := { program := "ytmdjbldmfmoaaaa", sum := "ffe55ebcc82b4f31c91a19c8fc60d2f6e3671aa361ac319a5adb141264c4bcab", func := "scullion/scullionlaw15.BufferNil", spec := "bufferNil", apart := false }
def BufferNilSaid : Prop := bufferNilRow.holds Try.pinned (OpenSpec.ofChange bufferNilSpec)

/-- ITS FALSE NEIGHBOUR: 'it returns false'. Refute it at one input. -/
def bufferNilWrong : ChangeSpec := { name := "bufferNil", fn := fun _ => fun
  | [d] => { results := [.lit (.bool false)], args := [d] }
  | _ => none }
def BufferNilWrongFalsely : Prop := bufferNilRow.holds Try.pinned (OpenSpec.ofChange bufferNilWrong)

/- THE SECOND FORM. 'bulk': how many values and letters a reading holds, each counted each time it is reached (what is shared counts as often as it is met; a slice's spare places count too). A statement '..UptoSaid' is the law's where the arguments, and the package variables that the reading takes, are together of bulk at most 1048576: NARROWER than '..Said'. Prove '..Said' where nothing that the law and all that it calls make is longer than what came in: it says more and counts as full. Else prove '..UptoSaid'. A law counts once. -/
mutual
def uptoBulk {H : Type} : DataW H → Nat
  | .lit (.string bytes) => bytes.length + 1
  | .lit _ => 1
  | .nil => 1
  | .ptr d => uptoBulk d + 1
  | .slice elems spare => uptoBulkAll elems + uptoBulkAll spare + 1
  | .agg parts => uptoBulkAll parts + 1
  | .iface _ d => uptoBulk d + 1
  | .map entries => uptoBulkEntries entries + 1
  | .held _ => 1
def uptoBulkAll {H : Type} : List (DataW H) → Nat
  | [] => 0
  | d :: r => uptoBulk d + uptoBulkAll r
def uptoBulkEntries {H : Type} : List (Lit × DataW H) → Nat
  | [] => 0
  | x :: r => uptoBulkEntry x + uptoBulkEntries r
def uptoBulkEntry {H : Type} : Lit × DataW H → Nat
  | (.string bytes, d) => bytes.length + uptoBulk d + 1
  | (_, d) => uptoBulk d + 1
 end
def uptoSmall : (H : Type) → List (DataW H) → Bool := fun _ ds => decide (uptoBulkAll ds ≤ 1048576)
def OpenSpec.upto (s : _root_.Go.ChangeSpec) : _root_.Go.OpenSpec := { _root_.Go.OpenSpec.ofChange s with cond := some uptoSmall }

/-- 'scullionlaw15.BufferMany', WHERE WHAT IT READS IS OF BULK AT MOST 1048576: true; the input reads as it did. -/
def bufferManyUptoRow : OpenClaim := { program := "ytmdjbldmfmoaaaa", sum := "ffe55ebcc82b4f31c91a19c8fc60d2f6e3671aa361ac319a5adb141264c4bcab", func := "scullion/scullionlaw15.BufferMany", spec := "bufferMany", apart := false, narrowed := true }
def BufferManyUptoSaid : Prop := bufferManyUptoRow.holds Try.pinned (OpenSpec.upto bufferManySpec)

/-- 'scullionlaw15.BufferAgain', WHERE WHAT IT READS IS OF BULK AT MOST 1048576: true; the input reads as it did. -/
def bufferAgainUptoRow : OpenClaim := { program := "ytmdjbldmfmoaaaa", sum := "ffe55ebcc82b4f31c91a19c8fc60d2f6e3671aa361ac319a5adb141264c4bcab", func := "scullion/scullionlaw15.BufferAgain", spec := "bufferAgain", apart := false, narrowed := true }
def BufferAgainUptoSaid : Prop := bufferAgainUptoRow.holds Try.pinned (OpenSpec.upto bufferAgainSpec)

/-- 'scullionlaw15.BufferApart', WHERE WHAT IT READS IS OF BULK AT MOST 1048576: true; the input reads as it did. -/
def bufferApartUptoRow : OpenClaim := { program := "ytmdjbldmfmoaaaa", sum := "ffe55ebcc82b4f31c91a19c8fc60d2f6e3671aa361ac319a5adb141264c4bcab", func := "scullion/scullionlaw15.BufferApart", spec := "bufferApart", apart := false, narrowed := true }
def BufferApartUptoSaid : Prop := bufferApartUptoRow.holds Try.pinned (OpenSpec.upto bufferApartSpec)

/-- 'scullionlaw15.BufferLast', WHERE WHAT IT READS IS OF BULK AT MOST 1048576: true; the input reads as it did. -/
def bufferLastUptoRow : OpenClaim := { program := "ytmdjbldmfmoaaaa", sum := "ffe55ebcc82b4f31c91a19c8fc60d2f6e3671aa361ac319a5adb141264c4bcab", func := "scullion/scullionlaw15.BufferLast", spec := "bufferLast", unfollowed := true, recurses := true, apart := false, narrowed := true }
def BufferLastUptoSaid : Prop := bufferLastUptoRow.holds Try.pinned (OpenSpec.upto bufferLastSpec)

/-- 'scullionlaw15.BufferPlays', WHERE WHAT IT READS IS OF BULK AT MOST 1048576: true; the input reads as it did. -/
def bufferPlaysUptoRow : OpenClaim := { program := "ytmdjbldmfmoaaaa", sum := "ffe55ebcc82b4f31c91a19c8fc60d2f6e3671aa361ac319a5adb141264c4bcab", func := "scullion/scullionlaw15.BufferPlays", spec := "bufferPlays", apart := false, narrowed := true }
def BufferPlaysUptoSaid : Prop := bufferPlaysUptoRow.holds Try.pinned (OpenSpec.upto bufferPlaysSpec)

/-- 'scullionlaw15.BufferNil', WHERE WHAT IT READS IS OF BULK AT MOST 1048576: true; the input reads as it did. -/
def bufferNilUptoRow : OpenClaim := { program := "ytmdjbldmfmoaaaa", sum := "ffe55ebcc82b4f31c91a19c8fc60d2f6e3671aa361ac319a5adb141264c4bcab", func := "scullion/scullionlaw15.BufferNil", spec := "bufferNil", apart := false, narrowed := true }
def BufferNilUptoSaid : Prop := bufferNilUptoRow.holds Try.pinned (OpenSpec.upto bufferNilSpec)

end Rows
end Go.Proofs.Ytmdjbldmfmoaaaa
