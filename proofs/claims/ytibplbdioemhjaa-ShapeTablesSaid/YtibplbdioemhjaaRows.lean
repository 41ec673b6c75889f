/-
  No cell of these rows narrows 'for every input' (looked for: loops, veiled, ifaces, maps, wideKeys, modest, calm, conditions, laid).
  DERIVED. THE GIVEN ROWS OF THIS SEAT. 3 by the template 'for every input the law returns true; each argument reads behind the call as it read before'; 0 by the template 'total and deterministic' (their statements: YtibplbdioemhjaaTotals.lean).
  GIVEN WITH THE SEED: the statements are not yours to turn. If you find one false, say at which input.
  Laid BY PROGRAM, IN A SANDBOX (cutbox-rows.mjs): the forced cells as the released guide's own fill.sh prints them over the translation 995aff0855d2d05f… (all of the seat's roots in one cut). By AI agents, Wed Nov 11 2026. No macro, syntax, notation, axiom, sorry.
-/
import Derived.Test.YtibplbdioemhjaaChecked
import GoSem.Claim
import GoSem.ClaimJoined
import GoSem.ClaimMapViews
import Derived.JoinedTies
import Derived.KernelRfl
namespace Go.Proofs.Ytibplbdioemhjaa
/- THE CELL 'sum', in the pinned program and in every row, IS THE sha256 OF THE DUMP (.gsa) THAT YtibplbdioemhjaaProg.lean LOADS. Nothing in Lean hashes anything: it is a label: what it is worth is what the hold of that sum in a sandbox is worth. -/
noncomputable def Try.pinned : Pinned := { name := "ytibplbdioemhjaa", sum := "995aff0855d2d05f384b81ba6c21387ab02bdd723964dc438adfbc9ad87c2340", checked := Try.checked }
namespace Rows
def none {H : Type} : Left H := { results := [], args := [] }

/-- 'versionmaplaw7.ShapeTables': WHATEVER THE INPUT: true; the input reads as it did. -/
def shapeTablesSpec : ChangeSpec := { name := "shapeTables", fn := fun _ => fun
  | [d1, d2, d3, d4] => { results := [.lit (.bool true)], args := [d1, d2, d3, d4] }
  | _ => none }
def shapeTablesRow : OpenClaim := { program := "ytibplbdioemhjaa", sum := "995aff0855d2d05f384b81ba6c21387ab02bdd723964dc438adfbc9ad87c2340", func := "versionmap/versionmaplaw7.ShapeTables", spec := "shapeTables", apart := false }
def ShapeTablesSaid : Prop := shapeTablesRow.holds Try.pinned (OpenSpec.ofChange shapeTablesSpec)

/-- ITS FALSE NEIGHBOUR: 'it returns false'. Refute it at one input. -/
def shapeTablesWrong : ChangeSpec := { name := "shapeTables", fn := fun _ => fun
  | [d1, d2, d3, d4] => { results := [.lit (.bool false)], args := [d1, d2, d3, d4] }
  | _ => none }
def ShapeTablesWrongFalsely : Prop := shapeTablesRow.holds Try.pinned (OpenSpec.ofChange shapeTablesWrong)

/-- 'versionmaplaw7.ShapeHeightsAndKeys': WHATEVER THE INPUT: true; the input reads as it did. -/
def shapeHeightsAndKeysSpec : ChangeSpec := { name := "shapeHeightsAndKeys", fn := fun _ => fun
  | [d] => { results := [.lit (.bool true)], args := [d] }
  | _ => none }
def shapeHeightsAndKeysRow : OpenClaim := { program := "ytibplbdioemhjaa", sum := "995aff0855d2d05f384b81ba6c21387ab02bdd723964dc438adfbc9ad87c2340", func := "versionmap/versionmaplaw7.ShapeHeightsAndKeys", spec := "shapeHeightsAndKeys", apart := false }
def ShapeHeightsAndKeysSaid : Prop := shapeHeightsAndKeysRow.holds Try.pinned (OpenSpec.ofChange shapeHeightsAndKeysSpec)

/-- ITS FALSE NEIGHBOUR: 'it returns false'. Refute it at one input. -/
def shapeHeightsAndKeysWrong : ChangeSpec := { name := "shapeHeightsAndKeys", fn := fun _ => fun
  | [d] => { results := [.lit (.bool false)], args := [d] }
  | _ => none }
def ShapeHeightsAndKeysWrongFalsely : Prop := shapeHeightsAndKeysRow.holds Try.pinned (OpenSpec.ofChange shapeHeightsAndKeysWrong)

/-- 'versionmaplaw7.ShapeBalanceIsSymmetric': WHATEVER THE INPUT: true; the input reads as it did. -/
def shapeBalanceIsSymmetricSpec : ChangeSpec := { name := "shapeBalanceIsSymmetric", fn := fun _ => fun
  | [d1, d2, d3] => { results := [.lit (.bool true)], args := [d1, d2, d3] }
  | _ => none }
def shapeBalanceIsSymmetricRow : OpenClaim := { program := "ytibplbdioemhjaa", sum := "995aff0855d2d05f384b81ba6c21387ab02bdd723964dc438adfbc9ad87c2340", func := "versionmap/versionmaplaw7.ShapeBalanceIsSymmetric", spec := "shapeBalanceIsSymmetric", apart := false }
def ShapeBalanceIsSymmetricSaid : Prop := shapeBalanceIsSymmetricRow.holds Try.pinned (OpenSpec.ofChange shapeBalanceIsSymmetricSpec)

/-- ITS FALSE NEIGHBOUR: 'it returns false'. Refute it at one input. -/
def shapeBalanceIsSymmetricWrong : ChangeSpec := { name := "shapeBalanceIsSymmetric", fn := fun _ => fun
  | [d1, d2, d3] => { results := [.lit (.bool false)], args := [d1, d2, d3] }
  | _ => none }
def ShapeBalanceIsSymmetricWrongFalsely : Prop := shapeBalanceIsSymmetricRow.holds Try.pinned (OpenSpec.ofChange shapeBalanceIsSymmetricWrong)

/- THE SECOND FORM. 'bulk': how many values and letters a reading holds, each counted each time it is reached (what is shared counts as often as it is met; a slice's spare places count too). A statement '..UptoSaid' is the law's where the arguments, and the package variables that the reading takes, are together of bulk at most 1048576: NARROWER than '..Said'. Prove '..Said' where nothing that the law and all that it calls make is longer than what came in: it says more and counts as full. Else prove '..UptoSaid'. A law counts once. -/
mutual
def uptoBulk {H : Type} : DataW H → Nat
  | .lit (.string bytes) => bytes.length + 1
  | .lit _ => 1
  | .nil => 1
  | .ptr d => uptoBulk d + 1
  | .slice elems spare => uptoBulkAll elems + uptoBulkAll spare + 1
  | .agg parts => uptoBulkAll parts + 1
  | .iface _ d => uptoBulk d + 1
  | .map entries => uptoBulkEntries entries + 1
  | .held _ => 1
def uptoBulkAll {H : Type} : List (DataW H) → Nat
  | [] => 0
  | d :: r => uptoBulk d + uptoBulkAll r
def uptoBulkEntries {H : Type} : List (Lit × DataW H) → Nat
  | [] => 0
  | x :: r => uptoBulkEntry x + uptoBulkEntries r
def uptoBulkEntry {H : Type} : Lit × DataW H → Nat
  | (.string bytes, d) => bytes.length + uptoBulk d + 1
  | (_, d) => uptoBulk d + 1
 end
def uptoSmall : (H : Type) → List (DataW H) → Bool := fun _ ds => decide (uptoBulkAll ds ≤ 1048576)
def OpenSpec.upto (s : _root_.Go.ChangeSpec) : _root_.Go.OpenSpec := { _root_.Go.OpenSpec.ofChange s with cond := some uptoSmall }

/-- 'versionmaplaw7.ShapeTables', WHERE WHAT IT READS IS OF BULK AT MOST 1048576: true; the input reads as it did. -/
def shapeTablesUptoRow : OpenClaim := { program := "ytibplbdioemhjaa", sum := "995aff0855d2d05f384b81ba6c21387ab02bdd723964dc438adfbc9ad87c2340", func := "versionmap/versionmaplaw7.ShapeTables", spec := "shapeTables", apart := false, narrowed := true }
def ShapeTablesUptoSaid : Prop := shapeTablesUptoRow.holds Try.pinned (OpenSpec.upto shapeTablesSpec)

/-- 'versionmaplaw7.ShapeHeightsAndKeys', WHERE WHAT IT READS IS OF BULK AT MOST 1048576: true; the input reads as it did. -/
def shapeHeightsAndKeysUptoRow : OpenClaim := { program := "ytibplbdioemhjaa", sum := "995aff0855d2d05f384b81ba6c21387ab02bdd723964dc438adfbc9ad87c2340", func := "versionmap/versionmaplaw7.ShapeHeightsAndKeys", spec := "shapeHeightsAndKeys", apart := false, narrowed := true }
def ShapeHeightsAndKeysUptoSaid : Prop := shapeHeightsAndKeysUptoRow.holds Try.pinned (OpenSpec.upto shapeHeightsAndKeysSpec)

/-- 'versionmaplaw7.ShapeBalanceIsSymmetric', WHERE WHAT IT READS IS OF BULK AT MOST 1048576: true; the input reads as it did. -/
def shapeBalanceIsSymmetricUptoRow : OpenClaim := { program := "ytibplbdioemhjaa", sum := "995aff0855d2d05f384b81ba6c21387ab02bdd723964dc438adfbc9ad87c2340", func := "versionmap/versionmaplaw7.ShapeBalanceIsSymmetric", spec := "shapeBalanceIsSymmetric", apart := false, narrowed := true }
def ShapeBalanceIsSymmetricUptoSaid : Prop := shapeBalanceIsSymmetricUptoRow.holds Try.pinned (OpenSpec.upto shapeBalanceIsSymmetricSpec)

end Rows
end Go.Proofs.Ytibplbdioemhjaa
