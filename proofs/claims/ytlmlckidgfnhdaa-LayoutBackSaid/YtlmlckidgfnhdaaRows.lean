/-
  No cell of these rows narrows 'for every input' (looked for: loops, veiled, ifaces, maps, wideKeys, modest, calm, conditions, laid).
  DERIVED. THE GIVEN ROWS OF THIS SEAT. 5 by the template 'for every input the law returns true; each argument reads behind the call as it read before'; 0 by the template 'total and deterministic' (their statements: YtlmlckidgfnhdaaTotals.lean).
  GIVEN WITH THE SEED: the statements are not yours to turn. If you find one false, say at which input.
  Laid BY PROGRAM, IN A SANDBOX (cutbox-rows.mjs): the forced cells as the released guide's own fill.sh prints them over the translation a1c9e9b55417bae8… (all of the seat's roots in one cut). By AI agents, Wed Nov 11 2026. No macro, syntax, notation, axiom, sorry.
-/
import Derived.Test.YtlmlckidgfnhdaaChecked
import GoSem.Claim
import GoSem.ClaimJoined
import GoSem.ClaimMapViews
import Derived.JoinedTies
import Derived.KernelRfl
namespace Go.Proofs.Ytlmlckidgfnhdaa
/- THE CELL 'sum', in the pinned program and in every row, IS THE sha256 OF THE DUMP (.gsa) THAT YtlmlckidgfnhdaaProg.lean LOADS. Nothing in Lean hashes anything: it is a label: what it is worth is what the hold of that sum in a sandbox is worth. -/
noncomputable def Try.pinned : Pinned := { name := "ytlmlckidgfnhdaa", sum := "a1c9e9b55417bae8c35ca4ae7b04389e1e982a0850a3f82c83d9231dc0f11298", checked := Try.checked }
namespace Rows
def none {H : Type} : Left H := { results := [], args := [] }

/-- 'scullionlaw6.LayoutGrows': WHATEVER THE INPUT: true; the input reads as it did. -/
def layoutGrowsSpec : ChangeSpec := { name := "layoutGrows", fn := fun _ => fun
  | [d1, d2, d3] => { results := [.lit (.bool true)], args := [d1, d2, d3] }
  | _ => none }
def layoutGrowsRow : OpenClaim := { program := "ytlmlckidgfnhdaa", sum := "a1c9e9b55417bae8c35ca4ae7b04389e1e982a0850a3f82c83d9231dc0f11298", func := "scullion/scullionlaw6.LayoutGrows", spec := "layoutGrows", unfollowed := true, recurses := true, apart := false }
def LayoutGrowsSaid : Prop := layoutGrowsRow.holds Try.pinned (OpenSpec.ofChange layoutGrowsSpec)

/-- ITS FALSE NEIGHBOUR: 'it returns false'. Refute it at one input. -/
def layoutGrowsWrong : ChangeSpec := { name := "layoutGrows", fn := fun _ => fun
  | [d1, d2, d3] => { results := [.lit (.bool false)], args := [d1, d2, d3] }
  | _ => none }
def LayoutGrowsWrongFalsely : Prop := layoutGrowsRow.holds Try.pinned (OpenSpec.ofChange layoutGrowsWrong)

/-- 'scullionlaw6.LayoutParses': WHATEVER THE INPUT: true; the input reads as it did. -/
def layoutParsesSpec : ChangeSpec := { name := "layoutParses", fn := fun _ => fun
  | [d] => { results := [.lit (.bool true)], args := [d] }
  | _ => none }
def layoutParsesRow : OpenClaim := { program := "ytlmlckidgfnhdaa", sum := "a1c9e9b55417bae8c35ca4ae7b04389e1e982a0850a3f82c83d9231dc0f11298", func := "scullion/scullionlaw6.LayoutParses", spec := "layoutParses", unfollowed := true, recurses := true, apart := false }
def LayoutParsesSaid : Prop := layoutParsesRow.holds Try.pinned (OpenSpec.ofChange layoutParsesSpec)

/-- ITS FALSE NEIGHBOUR: 'it returns false'. Refute it at one input. -/
def layoutParsesWrong : ChangeSpec := { name := "layoutParses", fn := fun _ => fun
  | [d] => { results := [.lit (.bool false)], args := [d] }
  | _ => none }
def LayoutParsesWrongFalsely : Prop := layoutParsesRow.holds Try.pinned (OpenSpec.ofChange layoutParsesWrong)

/-- 'scullionlaw6.LayoutTold': WHATEVER THE INPUT: true; the input reads as it did. -/
def layoutToldSpec : ChangeSpec := { name := "layoutTold", fn := fun _ => fun
  | [d1, d2] => { results := [.lit (.bool true)], args := [d1, d2] }
  | _ => none }
def layoutToldRow : OpenClaim := { program := "ytlmlckidgfnhdaa", sum := "a1c9e9b55417bae8c35ca4ae7b04389e1e982a0850a3f82c83d9231dc0f11298", func := "scullion/scullionlaw6.LayoutTold", spec := "layoutTold", unfollowed := true, recurses := true, apart := false }
def LayoutToldSaid : Prop := layoutToldRow.holds Try.pinned (OpenSpec.ofChange layoutToldSpec)

/-- ITS FALSE NEIGHBOUR: 'it returns false'. Refute it at one input. -/
def layoutToldWrong : ChangeSpec := { name := "layoutTold", fn := fun _ => fun
  | [d1, d2] => { results := [.lit (.bool false)], args := [d1, d2] }
  | _ => none }
def LayoutToldWrongFalsely : Prop := layoutToldRow.holds Try.pinned (OpenSpec.ofChange layoutToldWrong)

/-- 'scullionlaw6.LayoutNil': WHATEVER THE INPUT: true; the input reads as it did. -/
def layoutNilSpec : ChangeSpec := { name := "layoutNil", fn := fun _ => fun
  | [d] => { results := [.lit (.bool true)], args := [d] }
  | _ => none }
def layoutNilRow : OpenClaim := { program := "ytlmlckidgfnhdaa", sum := "a1c9e9b55417bae8c35ca4ae7b04389e1e982a0850a3f82c83d9231dc0f11298", func := "scullion/scullionlaw6.LayoutNil", spec := "layoutNil", unfollowed := true, recurses := true, apart := false }
def LayoutNilSaid : Prop := layoutNilRow.holds Try.pinned (OpenSpec.ofChange layoutNilSpec)

/-- ITS FALSE NEIGHBOUR: 'it returns false'. Refute it at one input. -/
def layoutNilWrong : ChangeSpec := { name := "layoutNil", fn := fun _ => fun
  | [d] => { results := [.lit (.bool false)], args := [d] }
  | _ => none }
def LayoutNilWrongFalsely : Prop := layoutNilRow.holds Try.pinned (OpenSpec.ofChange layoutNilWrong)

/-- 'scullionlaw6.LayoutBack': WHATEVER THE INPUT: true; the input reads as it did. -/
def layoutBackSpec : ChangeSpec := { name := "layoutBack", fn := fun _ => fun
  | [d1, d2, d3] => { results := [.lit (.bool true)], args := [d1, d2, d3] }
  | _ => none }
def layoutBackRow : OpenClaim := { program := "ytlmlckidgfnhdaa", sum := "a1c9e9b55417bae8c35ca4ae7b04389e1e982a0850a3f82c83d9231dc0f11298", func := "scullion/scullionlaw6.LayoutBack", spec := "layoutBack", unfollowed := true, recurses := true, apart := false }
def LayoutBackSaid : Prop := layoutBackRow.holds Try.pinned (OpenSpec.ofChange layoutBackSpec)

/-- ITS FALSE NEIGHBOUR: 'it returns false'. Refute it at one input. -/
def layoutBackWrong : ChangeSpec := { name := "layoutBack", fn := fun _ => fun
  | [d1, d2, d3] => { results := [.lit (.bool false)], args := [d1, d2, d3] }
  | _ => none }
def LayoutBackWrongFalsely : Prop := layoutBackRow.holds Try.pinned (OpenSpec.ofChange layoutBackWrong)

/- THE SECOND FORM. 'bulk': how many values and letters a reading holds, each counted each time it is reached (what is shared counts as often as it is met; a slice's spare places count too). A statement '..UptoSaid' is the law's where the arguments, and the package variables that the reading takes, are together of bulk at most 1048576: NARROWER than '..Said'. Prove '..Said' where nothing that the law and all that it calls make is longer than what came in: it says more and counts as full. Else prove '..UptoSaid'. A law counts once. -/
mutual
def uptoBulk {H : Type} : DataW H → Nat
  | .lit (.string bytes) => bytes.length + 1
  | .lit _ => 1
  | .nil => 1
  | .ptr d => uptoBulk d + 1
  | .slice elems spare => uptoBulkAll elems + uptoBulkAll spare + 1
  | .agg parts => uptoBulkAll parts + 1
  | .iface _ d => uptoBulk d + 1
  | .map entries => uptoBulkEntries entries + 1
  | .held _ => 1
def uptoBulkAll {H : Type} : List (DataW H) → Nat
  | [] => 0
  | d :: r => uptoBulk d + uptoBulkAll r
def uptoBulkEntries {H : Type} : List (Lit × DataW H) → Nat
  | [] => 0
  | x :: r => uptoBulkEntry x + uptoBulkEntries r
def uptoBulkEntry {H : Type} : Lit × DataW H → Nat
  | (.string bytes, d) => bytes.length + uptoBulk d + 1
  | (_, d) => uptoBulk d + 1
 end
def uptoSmall : (H : Type) → List (DataW H) → Bool := fun _ ds => decide (uptoBulkAll ds ≤ 1048576)
def OpenSpec.upto (s : _root_.Go.ChangeSpec) : _root_.Go.OpenSpec := { _root_.Go.OpenSpec.ofChange s with cond := some uptoSmall }

/-- 'scullionlaw6.LayoutGrows', WHERE WHAT IT READS IS OF BULK AT MOST 1048576: true; the input reads as it did. -/
def layoutGrowsUptoRow : OpenClaim := { program := "ytlmlckidgfnhdaa", sum := "a1c9e9b55417bae8c35ca4ae7b04389e1e982a0850a3f82c83d9231dc0f11298", func := "scullion/scullionlaw6.LayoutGrows", spec := "layoutGrows", unfollowed := true, recurses := true, apart := false, narrowed := true }
def LayoutGrowsUptoSaid : Prop := layoutGrowsUptoRow.holds Try.pinned (OpenSpec.upto layoutGrowsSpec)

/-- 'scullionlaw6.LayoutParses', WHERE WHAT IT READS IS OF BULK AT MOST 1048576: true; the input reads as it did. -/
def layoutParsesUptoRow : OpenClaim := { program := "ytlmlckidgfnhdaa", sum := "a1c9e9b55417bae8c35ca4ae7b04389e1e982a0850a3f82c83d9231dc0f11298", func := "scullion/scullionlaw6.LayoutParses", spec := "layoutParses", unfollowed := true, recurses := true, apart := false, narrowed := true }
def LayoutParsesUptoSaid : Prop := layoutParsesUptoRow.holds Try.pinned (OpenSpec.upto layoutParsesSpec)

/-- 'scullionlaw6.LayoutTold', WHERE WHAT IT READS IS OF BULK AT MOST 1048576: true; the input reads as it did. -/
def layoutToldUptoRow : OpenClaim := { program := "ytlmlckidgfnhdaa", sum := "a1c9e9b55417bae8c35ca4ae7b04389e1e982a0850a3f82c83d9231dc0f11298", func := "scullion/scullionlaw6.LayoutTold", spec := "layoutTold", unfollowed := true, recurses := true, apart := false, narrowed := true }
def LayoutToldUptoSaid : Prop := layoutToldUptoRow.holds Try.pinned (OpenSpec.upto layoutToldSpec)

/-- 'scullionlaw6.LayoutNil', WHERE WHAT IT READS IS OF BULK AT MOST 1048576: true; the input reads as it did. -/
def layoutNilUptoRow : OpenClaim := { program := "ytlmlckidgfnhdaa", sum := "a1c9e9b55417bae8c35ca4ae7b04389e1e982a0850a3f82c83d9231dc0f11298", func := "scullion/scullionlaw6.LayoutNil", spec := "layoutNil", unfollowed := true, recurses := true, apart := false, narrowed := true }
def LayoutNilUptoSaid : Prop := layoutNilUptoRow.holds Try.pinned (OpenSpec.upto layoutNilSpec)

/-- 'scullionlaw6.LayoutBack', WHERE WHAT IT READS IS OF BULK AT MOST 1048576: true; the input reads as it did. -/
def layoutBackUptoRow : OpenClaim := { program := "ytlmlckidgfnhdaa", sum := "a1c9e9b55417bae8c35ca4ae7b04389e1e982a0850a3f82c83d9231dc0f11298", func := "scullion/scullionlaw6.LayoutBack", spec := "layoutBack", unfollowed := true, recurses := true, apart := false, narrowed := true }
def LayoutBackUptoSaid : Prop := layoutBackUptoRow.holds Try.pinned (OpenSpec.upto layoutBackSpec)

end Rows
end Go.Proofs.Ytlmlckidgfnhdaa
