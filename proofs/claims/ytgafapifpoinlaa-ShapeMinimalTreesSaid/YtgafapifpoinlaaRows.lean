/-
  No cell of these rows narrows 'for every input' (looked for: loops, veiled, ifaces, maps, wideKeys, modest, calm, conditions, laid).
  DERIVED. THE GIVEN ROWS OF THIS SEAT. 11 by the template 'for every input the law returns true; each argument reads behind the call as it read before'; 0 by the template 'total and deterministic' (their statements: YtgafapifpoinlaaTotals.lean).
  GIVEN WITH THE SEED: the statements are not yours to turn. If you find one false, say at which input.
  Laid BY PROGRAM, IN A SANDBOX (cutbox-rows.mjs): the forced cells as the released guide's own fill.sh prints them over the translation ae88876844a6a440… (all of the seat's roots in one cut). By AI agents, Wed Nov 11 2026. No macro, syntax, notation, axiom, sorry.
-/
import Derived.Test.YtgafapifpoinlaaChecked
import GoSem.Claim
import GoSem.ClaimJoined
import GoSem.ClaimMapViews
import Derived.JoinedTies
import Derived.KernelRfl
namespace Go.Proofs.Ytgafapifpoinlaa
/- THE CELL 'sum', in the pinned program and in every row, IS THE sha256 OF THE DUMP (.gsa) THAT YtgafapifpoinlaaProg.lean LOADS. Nothing in Lean hashes anything: it is a label: what it is worth is what the hold of that sum in a sandbox is worth. -/
noncomputable def Try.pinned : Pinned := { name := "ytgafapifpoinlaa", sum := "ae88876844a6a44022d2abd947db12b97766e45ac808f705c80373df261eacef", checked := Try.checked }
namespace Rows
def none {H : Type} : Left H := { results := [], args := [] }

/-- 'versionmaplaw10.RankCountsAdd': WHATEVER THE INPUT: true; the input reads as it did. -/
def rankCountsAddSpec : ChangeSpec := { name := "rankCountsAdd", fn := fun _ => fun
  | [d1, d2, d3, d4, d5] => { results := [.lit (.bool true)], args := [d1, d2, d3, d4, d5] }
  | _ => none }
def rankCountsAddRow : OpenClaim := { program := "ytgafapifpoinlaa", sum := "ae88876844a6a44022d2abd947db12b97766e45ac808f705c80373df261eacef", func := "versionmap/versionmaplaw10.RankCountsAdd", spec := "rankCountsAdd", recurses := true, apart := false }
def RankCountsAddSaid : Prop := rankCountsAddRow.holds Try.pinned (OpenSpec.ofChange rankCountsAddSpec)

/-- ITS FALSE NEIGHBOUR: 'it returns false'. Refute it at one input. -/
def rankCountsAddWrong : ChangeSpec := { name := "rankCountsAdd", fn := fun _ => fun
  | [d1, d2, d3, d4, d5] => { results := [.lit (.bool false)], args := [d1, d2, d3, d4, d5] }
  | _ => none }
def RankCountsAddWrongFalsely : Prop := rankCountsAddRow.holds Try.pinned (OpenSpec.ofChange rankCountsAddWrong)

/-- 'versionmaplaw9.LookupNearest': WHATEVER THE INPUT: true; the input reads as it did. -/
def lookupNearestSpec : ChangeSpec := { name := "lookupNearest", fn := fun _ => fun
  | [d1, d2, d3, d4] => { results := [.lit (.bool true)], args := [d1, d2, d3, d4] }
  | _ => none }
def lookupNearestRow : OpenClaim := { program := "ytgafapifpoinlaa", sum := "ae88876844a6a44022d2abd947db12b97766e45ac808f705c80373df261eacef", func := "versionmap/versionmaplaw9.LookupNearest", spec := "lookupNearest", unfollowed := true, recurses := true, apart := false }
def LookupNearestSaid : Prop := lookupNearestRow.holds Try.pinned (OpenSpec.ofChange lookupNearestSpec)

/-- ITS FALSE NEIGHBOUR: 'it returns false'. Refute it at one input. -/
def lookupNearestWrong : ChangeSpec := { name := "lookupNearest", fn := fun _ => fun
  | [d1, d2, d3, d4] => { results := [.lit (.bool false)], args := [d1, d2, d3, d4] }
  | _ => none }
def LookupNearestWrongFalsely : Prop := lookupNearestRow.holds Try.pinned (OpenSpec.ofChange lookupNearestWrong)

/-- 'versionmaplaw9.LookupNeighbors': WHATEVER THE INPUT: true; the input reads as it did. -/
def lookupNeighborsSpec : ChangeSpec := { name := "lookupNeighbors", fn := fun _ => fun
  | [d1, d2, d3] => { results := [.lit (.bool true)], args := [d1, d2, d3] }
  | _ => none }
def lookupNeighborsRow : OpenClaim := { program := "ytgafapifpoinlaa", sum := "ae88876844a6a44022d2abd947db12b97766e45ac808f705c80373df261eacef", func := "versionmap/versionmaplaw9.LookupNeighbors", spec := "lookupNeighbors", unfollowed := true, recurses := true, apart := false }
def LookupNeighborsSaid : Prop := lookupNeighborsRow.holds Try.pinned (OpenSpec.ofChange lookupNeighborsSpec)

/-- ITS FALSE NEIGHBOUR: 'it returns false'. Refute it at one input. -/
def lookupNeighborsWrong : ChangeSpec := { name := "lookupNeighbors", fn := fun _ => fun
  | [d1, d2, d3] => { results := [.lit (.bool false)], args := [d1, d2, d3] }
  | _ => none }
def LookupNeighborsWrongFalsely : Prop := lookupNeighborsRow.holds Try.pinned (OpenSpec.ofChange lookupNeighborsWrong)

/-- 'versionmaplaw10.RankAndSelectAreInverse': WHATEVER THE INPUT: true; the input reads as it did. -/
def rankAndSelectAreInverseSpec : ChangeSpec := { name := "rankAndSelectAreInverse", fn := fun _ => fun
  | [d1, d2, d3] => { results := [.lit (.bool true)], args := [d1, d2, d3] }
  | _ => none }
def rankAndSelectAreInverseRow : OpenClaim := { program := "ytgafapifpoinlaa", sum := "ae88876844a6a44022d2abd947db12b97766e45ac808f705c80373df261eacef", func := "versionmap/versionmaplaw10.RankAndSelectAreInverse", spec := "rankAndSelectAreInverse", unfollowed := true, recurses := true, apart := false }
def RankAndSelectAreInverseSaid : Prop := rankAndSelectAreInverseRow.holds Try.pinned (OpenSpec.ofChange rankAndSelectAreInverseSpec)

/-- ITS FALSE NEIGHBOUR: 'it returns false'. Refute it at one input. -/
def rankAndSelectAreInverseWrong : ChangeSpec := { name := "rankAndSelectAreInverse", fn := fun _ => fun
  | [d1, d2, d3] => { results := [.lit (.bool false)], args := [d1, d2, d3] }
  | _ => none }
def RankAndSelectAreInverseWrongFalsely : Prop := rankAndSelectAreInverseRow.holds Try.pinned (OpenSpec.ofChange rankAndSelectAreInverseWrong)

/-- 'versionmaplaw9.LookupPath': WHATEVER THE INPUT: true; the input reads as it did. -/
def lookupPathSpec : ChangeSpec := { name := "lookupPath", fn := fun _ => fun
  | [d1, d2, d3, d4] => { results := [.lit (.bool true)], args := [d1, d2, d3, d4] }
  | _ => none }
def lookupPathRow : OpenClaim := { program := "ytgafapifpoinlaa", sum := "ae88876844a6a44022d2abd947db12b97766e45ac808f705c80373df261eacef", func := "versionmap/versionmaplaw9.LookupPath", spec := "lookupPath", unfollowed := true, recurses := true, apart := false }
def LookupPathSaid : Prop := lookupPathRow.holds Try.pinned (OpenSpec.ofChange lookupPathSpec)

/-- ITS FALSE NEIGHBOUR: 'it returns false'. Refute it at one input. -/
def lookupPathWrong : ChangeSpec := { name := "lookupPath", fn := fun _ => fun
  | [d1, d2, d3, d4] => { results := [.lit (.bool false)], args := [d1, d2, d3, d4] }
  | _ => none }
def LookupPathWrongFalsely : Prop := lookupPathRow.holds Try.pinned (OpenSpec.ofChange lookupPathWrong)

/-- 'versionmaplaw7.ShapeChecks': WHATEVER THE INPUT: true; the input reads as it did. -/
def shapeChecksSpec : ChangeSpec := { name := "shapeChecks", fn := fun _ => fun
  | [d1, d2] => { results := [.lit (.bool true)], args := [d1, d2] }
  | _ => none }
def shapeChecksRow : OpenClaim := { program := "ytgafapifpoinlaa", sum := "ae88876844a6a44022d2abd947db12b97766e45ac808f705c80373df261eacef", func := "versionmap/versionmaplaw7.ShapeChecks", spec := "shapeChecks", recurses := true, apart := false }
def ShapeChecksSaid : Prop := shapeChecksRow.holds Try.pinned (OpenSpec.ofChange shapeChecksSpec)

/-- ITS FALSE NEIGHBOUR: 'it returns false'. Refute it at one input. -/
def shapeChecksWrong : ChangeSpec := { name := "shapeChecks", fn := fun _ => fun
  | [d1, d2] => { results := [.lit (.bool false)], args := [d1, d2] }
  | _ => none }
def ShapeChecksWrongFalsely : Prop := shapeChecksRow.holds Try.pinned (OpenSpec.ofChange shapeChecksWrong)

/-- 'versionmaplaw7.ShapeHeightIsBounded': WHATEVER THE INPUT: true; the input reads as it did. -/
def shapeHeightIsBoundedSpec : ChangeSpec := { name := "shapeHeightIsBounded", fn := fun _ => fun
  | [d1, d2] => { results := [.lit (.bool true)], args := [d1, d2] }
  | _ => none }
def shapeHeightIsBoundedRow : OpenClaim := { program := "ytgafapifpoinlaa", sum := "ae88876844a6a44022d2abd947db12b97766e45ac808f705c80373df261eacef", func := "versionmap/versionmaplaw7.ShapeHeightIsBounded", spec := "shapeHeightIsBounded", recurses := true, apart := false }
def ShapeHeightIsBoundedSaid : Prop := shapeHeightIsBoundedRow.holds Try.pinned (OpenSpec.ofChange shapeHeightIsBoundedSpec)

/-- ITS FALSE NEIGHBOUR: 'it returns false'. Refute it at one input. -/
def shapeHeightIsBoundedWrong : ChangeSpec := { name := "shapeHeightIsBounded", fn := fun _ => fun
  | [d1, d2] => { results := [.lit (.bool false)], args := [d1, d2] }
  | _ => none }
def ShapeHeightIsBoundedWrongFalsely : Prop := shapeHeightIsBoundedRow.holds Try.pinned (OpenSpec.ofChange shapeHeightIsBoundedWrong)

/-- 'versionmaplaw7.ShapeMinimalTrees': WHATEVER THE INPUT: true; the input reads as it did. -/
def shapeMinimalTreesSpec : ChangeSpec := { name := "shapeMinimalTrees", fn := fun _ => fun
  | [d] => { results := [.lit (.bool true)], args := [d] }
  | _ => none }
def shapeMinimalTreesRow : OpenClaim := { program := "ytgafapifpoinlaa", sum := "ae88876844a6a44022d2abd947db12b97766e45ac808f705c80373df261eacef", func := "versionmap/versionmaplaw7.ShapeMinimalTrees", spec := "shapeMinimalTrees", recurses := true, apart := false }
def ShapeMinimalTreesSaid : Prop := shapeMinimalTreesRow.holds Try.pinned (OpenSpec.ofChange shapeMinimalTreesSpec)

/-- ITS FALSE NEIGHBOUR: 'it returns false'. Refute it at one input. -/
def shapeMinimalTreesWrong : ChangeSpec := { name := "shapeMinimalTrees", fn := fun _ => fun
  | [d] => { results := [.lit (.bool false)], args := [d] }
  | _ => none }
def ShapeMinimalTreesWrongFalsely : Prop := shapeMinimalTreesRow.holds Try.pinned (OpenSpec.ofChange shapeMinimalTreesWrong)

/-- 'versionmaplaw10.RankAgrees': WHATEVER THE INPUT: true; the input reads as it did. -/
def rankAgreesSpec : ChangeSpec := { name := "rankAgrees", fn := fun _ => fun
  | [d1, d2, d3, d4, d5, d6] => { results := [.lit (.bool true)], args := [d1, d2, d3, d4, d5, d6] }
  | _ => none }
def rankAgreesRow : OpenClaim := { program := "ytgafapifpoinlaa", sum := "ae88876844a6a44022d2abd947db12b97766e45ac808f705c80373df261eacef", func := "versionmap/versionmaplaw10.RankAgrees", spec := "rankAgrees", recurses := true, apart := false }
def RankAgreesSaid : Prop := rankAgreesRow.holds Try.pinned (OpenSpec.ofChange rankAgreesSpec)

/-- ITS FALSE NEIGHBOUR: 'it returns false'. Refute it at one input. -/
def rankAgreesWrong : ChangeSpec := { name := "rankAgrees", fn := fun _ => fun
  | [d1, d2, d3, d4, d5, d6] => { results := [.lit (.bool false)], args := [d1, d2, d3, d4, d5, d6] }
  | _ => none }
def RankAgreesWrongFalsely : Prop := rankAgreesRow.holds Try.pinned (OpenSpec.ofChange rankAgreesWrong)

/-- 'versionmaplaw9.LookupGets': WHATEVER THE INPUT: true; the input reads as it did. -/
def lookupGetsSpec : ChangeSpec := { name := "lookupGets", fn := fun _ => fun
  | [d1, d2, d3] => { results := [.lit (.bool true)], args := [d1, d2, d3] }
  | _ => none }
def lookupGetsRow : OpenClaim := { program := "ytgafapifpoinlaa", sum := "ae88876844a6a44022d2abd947db12b97766e45ac808f705c80373df261eacef", func := "versionmap/versionmaplaw9.LookupGets", spec := "lookupGets", unfollowed := true, recurses := true, apart := false }
def LookupGetsSaid : Prop := lookupGetsRow.holds Try.pinned (OpenSpec.ofChange lookupGetsSpec)

/-- ITS FALSE NEIGHBOUR: 'it returns false'. Refute it at one input. -/
def lookupGetsWrong : ChangeSpec := { name := "lookupGets", fn := fun _ => fun
  | [d1, d2, d3] => { results := [.lit (.bool false)], args := [d1, d2, d3] }
  | _ => none }
def LookupGetsWrongFalsely : Prop := lookupGetsRow.holds Try.pinned (OpenSpec.ofChange lookupGetsWrong)

/-- 'versionmaplaw7.ShapeAcceptsTrees': WHATEVER THE INPUT: true; the input reads as it did. -/
def shapeAcceptsTreesSpec : ChangeSpec := { name := "shapeAcceptsTrees", fn := fun _ => fun
  | [d1, d2] => { results := [.lit (.bool true)], args := [d1, d2] }
  | _ => none }
def shapeAcceptsTreesRow : OpenClaim := { program := "ytgafapifpoinlaa", sum := "ae88876844a6a44022d2abd947db12b97766e45ac808f705c80373df261eacef", func := "versionmap/versionmaplaw7.ShapeAcceptsTrees", spec := "shapeAcceptsTrees", recurses := true, apart := false }
def ShapeAcceptsTreesSaid : Prop := shapeAcceptsTreesRow.holds Try.pinned (OpenSpec.ofChange shapeAcceptsTreesSpec)

/-- ITS FALSE NEIGHBOUR: 'it returns false'. Refute it at one input. -/
def shapeAcceptsTreesWrong : ChangeSpec := { name := "shapeAcceptsTrees", fn := fun _ => fun
  | [d1, d2] => { results := [.lit (.bool false)], args := [d1, d2] }
  | _ => none }
def ShapeAcceptsTreesWrongFalsely : Prop := shapeAcceptsTreesRow.holds Try.pinned (OpenSpec.ofChange shapeAcceptsTreesWrong)

/- THE SECOND FORM. 'bulk': how many values and letters a reading holds, each counted each time it is reached (what is shared counts as often as it is met; a slice's spare places count too). A statement '..UptoSaid' is the law's where the arguments, and the package variables that the reading takes, are together of bulk at most 1048576: NARROWER than '..Said'. Prove '..Said' where nothing that the law and all that it calls make is longer than what came in: it says more and counts as full. Else prove '..UptoSaid'. A law counts once. -/
mutual
def uptoBulk {H : Type} : DataW H → Nat
  | .lit (.string bytes) => bytes.length + 1
  | .lit _ => 1
  | .nil => 1
  | .ptr d => uptoBulk d + 1
  | .slice elems spare => uptoBulkAll elems + uptoBulkAll spare + 1
  | .agg parts => uptoBulkAll parts + 1
  | .iface _ d => uptoBulk d + 1
  | .map entries => uptoBulkEntries entries + 1
  | .held _ => 1
def uptoBulkAll {H : Type} : List (DataW H) → Nat
  | [] => 0
  | d :: r => uptoBulk d + uptoBulkAll r
def uptoBulkEntries {H : Type} : List (Lit × DataW H) → Nat
  | [] => 0
  | x :: r => uptoBulkEntry x + uptoBulkEntries r
def uptoBulkEntry {H : Type} : Lit × DataW H → Nat
  | (.string bytes, d) => bytes.length + uptoBulk d + 1
  | (_, d) => uptoBulk d + 1
 end
def uptoSmall : (H : Type) → List (DataW H) → Bool := fun _ ds => decide (uptoBulkAll ds ≤ 1048576)
def OpenSpec.upto (s : _root_.Go.ChangeSpec) : _root_.Go.OpenSpec := { _root_.Go.OpenSpec.ofChange s with cond := some uptoSmall }

/-- 'versionmaplaw10.RankCountsAdd', WHERE WHAT IT READS IS OF BULK AT MOST 1048576: true; the input reads as it did. -/
def rankCountsAddUptoRow : OpenClaim := { program := "ytgafapifpoinlaa", sum := "ae88876844a6a44022d2abd947db12b97766e45ac808f705c80373df261eacef", func := "versionmap/versionmaplaw10.RankCountsAdd", spec := "rankCountsAdd", recurses := true, apart := false, narrowed := true }
def RankCountsAddUptoSaid : Prop := rankCountsAddUptoRow.holds Try.pinned (OpenSpec.upto rankCountsAddSpec)

/-- 'versionmaplaw9.LookupNearest', WHERE WHAT IT READS IS OF BULK AT MOST 1048576: true; the input reads as it did. -/
def lookupNearestUptoRow : OpenClaim := { program := "ytgafapifpoinlaa", sum := "ae88876844a6a44022d2abd947db12b97766e45ac808f705c80373df261eacef", func := "versionmap/versionmaplaw9.LookupNearest", spec := "lookupNearest", unfollowed := true, recurses := true, apart := false, narrowed := true }
def LookupNearestUptoSaid : Prop := lookupNearestUptoRow.holds Try.pinned (OpenSpec.upto lookupNearestSpec)

/-- 'versionmaplaw9.LookupNeighbors', WHERE WHAT IT READS IS OF BULK AT MOST 1048576: true; the input reads as it did. -/
def lookupNeighborsUptoRow : OpenClaim := { program := "ytgafapifpoinlaa", sum := "ae88876844a6a44022d2abd947db12b97766e45ac808f705c80373df261eacef", func := "versionmap/versionmaplaw9.LookupNeighbors", spec := "lookupNeighbors", unfollowed := true, recurses := true, apart := false, narrowed := true }
def LookupNeighborsUptoSaid : Prop := lookupNeighborsUptoRow.holds Try.pinned (OpenSpec.upto lookupNeighborsSpec)

/-- 'versionmaplaw10.RankAndSelectAreInverse', WHERE WHAT IT READS IS OF BULK AT MOST 1048576: true; the input reads as it did. -/
def rankAndSelectAreInverseUptoRow : OpenClaim := { program := "ytgafapifpoinlaa", sum := "ae88876844a6a44022d2abd947db12b97766e45ac808f705c80373df261eacef", func := "versionmap/versionmaplaw10.RankAndSelectAreInverse", spec := "rankAndSelectAreInverse", unfollowed := true, recurses := true, apart := false, narrowed := true }
def RankAndSelectAreInverseUptoSaid : Prop := rankAndSelectAreInverseUptoRow.holds Try.pinned (OpenSpec.upto rankAndSelectAreInverseSpec)

/-- 'versionmaplaw9.LookupPath', WHERE WHAT IT READS IS OF BULK AT MOST 1048576: true; the input reads as it did. -/
def lookupPathUptoRow : OpenClaim := { program := "ytgafapifpoinlaa", sum := "ae88876844a6a44022d2abd947db12b97766e45ac808f705c80373df261eacef", func := "versionmap/versionmaplaw9.LookupPath", spec := "lookupPath", unfollowed := true, recurses := true, apart := false, narrowed := true }
def LookupPathUptoSaid : Prop := lookupPathUptoRow.holds Try.pinned (OpenSpec.upto lookupPathSpec)

/-- 'versionmaplaw7.ShapeChecks', WHERE WHAT IT READS IS OF BULK AT MOST 1048576: true; the input reads as it did. -/
def shapeChecksUptoRow : OpenClaim := { program := "ytgafapifpoinlaa", sum := "ae88876844a6a44022d2abd947db12b97766e45ac808f705c80373df261eacef", func := "versionmap/versionmaplaw7.ShapeChecks", spec := "shapeChecks", recurses := true, apart := false, narrowed := true }
def ShapeChecksUptoSaid : Prop := shapeChecksUptoRow.holds Try.pinned (OpenSpec.upto shapeChecksSpec)

/-- 'versionmaplaw7.ShapeHeightIsBounded', WHERE WHAT IT READS IS OF BULK AT MOST 1048576: true; the input reads as it did. -/
def shapeHeightIsBoundedUptoRow : OpenClaim := { program := "ytgafapifpoinlaa", sum := "ae88876844a6a44022d2abd947db12b97766e45ac808f705c80373df261eacef", func := "versionmap/versionmaplaw7.ShapeHeightIsBounded", spec := "shapeHeightIsBounded", recurses := true, apart := false, narrowed := true }
def ShapeHeightIsBoundedUptoSaid : Prop := shapeHeightIsBoundedUptoRow.holds Try.pinned (OpenSpec.upto shapeHeightIsBoundedSpec)

/-- 'versionmaplaw7.ShapeMinimalTrees', WHERE WHAT IT READS IS OF BULK AT MOST 1048576: true; the input reads as it did. -/
def shapeMinimalTreesUptoRow : OpenClaim := { program := "ytgafapifpoinlaa", sum := "ae88876844a6a44022d2abd947db12b97766e45ac808f705c80373df261eacef", func := "versionmap/versionmaplaw7.ShapeMinimalTrees", spec := "shapeMinimalTrees", recurses := true, apart := false, narrowed := true }
def ShapeMinimalTreesUptoSaid : Prop := shapeMinimalTreesUptoRow.holds Try.pinned (OpenSpec.upto shapeMinimalTreesSpec)

/-- 'versionmaplaw10.RankAgrees', WHERE WHAT IT READS IS OF BULK AT MOST 1048576: true; the input reads as it did. -/
def rankAgreesUptoRow : OpenClaim := { program := "ytgafapifpoinlaa", sum := "ae88876844a6a44022d2abd947db12b97766e45ac808f705c80373df261eacef", func := "versionmap/versionmaplaw10.RankAgrees", spec := "rankAgrees", recurses := true, apart := false, narrowed := true }
def RankAgreesUptoSaid : Prop := rankAgreesUptoRow.holds Try.pinned (OpenSpec.upto rankAgreesSpec)

/-- 'versionmaplaw9.LookupGets', WHERE WHAT IT READS IS OF BULK AT MOST 1048576: true; the input reads as it did. -/
def lookupGetsUptoRow : OpenClaim := { program := "ytgafapifpoinlaa", sum := "ae88876844a6a44022d2abd947db12b97766e45ac808f705c80373df261eacef", func := "versionmap/versionmaplaw9.LookupGets", spec := "lookupGets", unfollowed := true, recurses := true, apart := false, narrowed := true }
def LookupGetsUptoSaid : Prop := lookupGetsUptoRow.holds Try.pinned (OpenSpec.upto lookupGetsSpec)

/-- 'versionmaplaw7.ShapeAcceptsTrees', WHERE WHAT IT READS IS OF BULK AT MOST 1048576: true; the input reads as it did. -/
def shapeAcceptsTreesUptoRow : OpenClaim := { program := "ytgafapifpoinlaa", sum := "ae88876844a6a44022d2abd947db12b97766e45ac808f705c80373df261eacef", func := "versionmap/versionmaplaw7.ShapeAcceptsTrees", spec := "shapeAcceptsTrees", recurses := true, apart := false, narrowed := true }
def ShapeAcceptsTreesUptoSaid : Prop := shapeAcceptsTreesUptoRow.holds Try.pinned (OpenSpec.upto shapeAcceptsTreesSpec)

end Rows
end Go.Proofs.Ytgafapifpoinlaa
