/-
  No cell of these rows narrows 'for every input' (looked for: loops, veiled, ifaces, maps, wideKeys, modest, calm, conditions, laid).
  DERIVED. THE GIVEN ROWS OF THIS SEAT. 9 by the template 'for every input the law returns true; each argument reads behind the call as it read before'; 0 by the template 'total and deterministic' (their statements: YteghhalnpdikoaaTotals.lean).
  GIVEN WITH THE SEED: the statements are not yours to turn. If you find one false, say at which input.
  Laid BY PROGRAM, IN A SANDBOX (cutbox-rows.mjs): the forced cells as the released guide's own fill.sh prints them over the translation 82b980a2991d3ae1… (all of the seat's roots in one cut). By AI agents, Wed Nov 11 2026. No macro, syntax, notation, axiom, sorry.
-/
import Derived.Test.YteghhalnpdikoaaChecked
import GoSem.Claim
import GoSem.ClaimJoined
import GoSem.ClaimMapViews
import Derived.JoinedTies
import Derived.KernelRfl
namespace Go.Proofs.Yteghhalnpdikoaa
/- THE CELL 'sum', in the pinned program and in every row, IS THE sha256 OF THE DUMP (.gsa) THAT YteghhalnpdikoaaProg.lean LOADS. Nothing in Lean hashes anything: it is a label: what it is worth is what the hold of that sum in a sandbox is worth. -/
noncomputable def Try.pinned : Pinned := { name := "yteghhalnpdikoaa", sum := "82b980a2991d3ae1bb5c077af47c19ac6bef3d7f4b8ed1a9a98a581784717568", checked := Try.checked }
namespace Rows
def none {H : Type} : Left H := { results := [], args := [] }

/-- 'versionmaplaw17.CompareIsOrder': WHATEVER THE INPUT: true; the input reads as it did. -/
def compareIsOrderSpec : ChangeSpec := { name := "compareIsOrder", fn := fun _ => fun
  | [d1, d2, d3, d4] => { results := [.lit (.bool true)], args := [d1, d2, d3, d4] }
  | _ => none }
def compareIsOrderRow : OpenClaim := { program := "yteghhalnpdikoaa", sum := "82b980a2991d3ae1bb5c077af47c19ac6bef3d7f4b8ed1a9a98a581784717568", func := "versionmap/versionmaplaw17.CompareIsOrder", spec := "compareIsOrder", unfollowed := true, recurses := true, apart := false }
def CompareIsOrderSaid : Prop := compareIsOrderRow.holds Try.pinned (OpenSpec.ofChange compareIsOrderSpec)

/-- ITS FALSE NEIGHBOUR: 'it returns false'. Refute it at one input. -/
def compareIsOrderWrong : ChangeSpec := { name := "compareIsOrder", fn := fun _ => fun
  | [d1, d2, d3, d4] => { results := [.lit (.bool false)], args := [d1, d2, d3, d4] }
  | _ => none }
def CompareIsOrderWrongFalsely : Prop := compareIsOrderRow.holds Try.pinned (OpenSpec.ofChange compareIsOrderWrong)

/-- 'versionmaplaw17.CompareReadsLittle': WHATEVER THE INPUT: true; the input reads as it did. -/
def compareReadsLittleSpec : ChangeSpec := { name := "compareReadsLittle", fn := fun _ => fun
  | [d1, d2, d3] => { results := [.lit (.bool true)], args := [d1, d2, d3] }
  | _ => none }
def compareReadsLittleRow : OpenClaim := { program := "yteghhalnpdikoaa", sum := "82b980a2991d3ae1bb5c077af47c19ac6bef3d7f4b8ed1a9a98a581784717568", func := "versionmap/versionmaplaw17.CompareReadsLittle", spec := "compareReadsLittle", unfollowed := true, recurses := true, apart := false }
def CompareReadsLittleSaid : Prop := compareReadsLittleRow.holds Try.pinned (OpenSpec.ofChange compareReadsLittleSpec)

/-- ITS FALSE NEIGHBOUR: 'it returns false'. Refute it at one input. -/
def compareReadsLittleWrong : ChangeSpec := { name := "compareReadsLittle", fn := fun _ => fun
  | [d1, d2, d3] => { results := [.lit (.bool false)], args := [d1, d2, d3] }
  | _ => none }
def CompareReadsLittleWrongFalsely : Prop := compareReadsLittleRow.holds Try.pinned (OpenSpec.ofChange compareReadsLittleWrong)

/-- 'versionmaplaw17.CompareSubsets': WHATEVER THE INPUT: true; the input reads as it did. -/
def compareSubsetsSpec : ChangeSpec := { name := "compareSubsets", fn := fun _ => fun
  | [d1, d2, d3, d4, d5] => { results := [.lit (.bool true)], args := [d1, d2, d3, d4, d5] }
  | _ => none }
def compareSubsetsRow : OpenClaim := { program := "yteghhalnpdikoaa", sum := "82b980a2991d3ae1bb5c077af47c19ac6bef3d7f4b8ed1a9a98a581784717568", func := "versionmap/versionmaplaw17.CompareSubsets", spec := "compareSubsets", unfollowed := true, recurses := true, apart := false }
def CompareSubsetsSaid : Prop := compareSubsetsRow.holds Try.pinned (OpenSpec.ofChange compareSubsetsSpec)

/-- ITS FALSE NEIGHBOUR: 'it returns false'. Refute it at one input. -/
def compareSubsetsWrong : ChangeSpec := { name := "compareSubsets", fn := fun _ => fun
  | [d1, d2, d3, d4, d5] => { results := [.lit (.bool false)], args := [d1, d2, d3, d4, d5] }
  | _ => none }
def CompareSubsetsWrongFalsely : Prop := compareSubsetsRow.holds Try.pinned (OpenSpec.ofChange compareSubsetsWrong)

/-- 'versionmaplaw17.CompareAgrees': WHATEVER THE INPUT: true; the input reads as it did. -/
def compareAgreesSpec : ChangeSpec := { name := "compareAgrees", fn := fun _ => fun
  | [d1, d2, d3, d4, d5] => { results := [.lit (.bool true)], args := [d1, d2, d3, d4, d5] }
  | _ => none }
def compareAgreesRow : OpenClaim := { program := "yteghhalnpdikoaa", sum := "82b980a2991d3ae1bb5c077af47c19ac6bef3d7f4b8ed1a9a98a581784717568", func := "versionmap/versionmaplaw17.CompareAgrees", spec := "compareAgrees", unfollowed := true, recurses := true, apart := false }
def CompareAgreesSaid : Prop := compareAgreesRow.holds Try.pinned (OpenSpec.ofChange compareAgreesSpec)

/-- ITS FALSE NEIGHBOUR: 'it returns false'. Refute it at one input. -/
def compareAgreesWrong : ChangeSpec := { name := "compareAgrees", fn := fun _ => fun
  | [d1, d2, d3, d4, d5] => { results := [.lit (.bool false)], args := [d1, d2, d3, d4, d5] }
  | _ => none }
def CompareAgreesWrongFalsely : Prop := compareAgreesRow.holds Try.pinned (OpenSpec.ofChange compareAgreesWrong)

/-- 'versionmaplaw25.ScanTokens': WHATEVER THE INPUT: true; the input reads as it did. -/
def scanTokensSpec : ChangeSpec := { name := "scanTokens", fn := fun _ => fun
  | [d1, d2, d3] => { results := [.lit (.bool true)], args := [d1, d2, d3] }
  | _ => none }
def scanTokensRow : OpenClaim := { program := "yteghhalnpdikoaa", sum := "82b980a2991d3ae1bb5c077af47c19ac6bef3d7f4b8ed1a9a98a581784717568", func := "versionmap/versionmaplaw25.ScanTokens", spec := "scanTokens", unfollowed := true, recurses := true, apart := false }
def ScanTokensSaid : Prop := scanTokensRow.holds Try.pinned (OpenSpec.ofChange scanTokensSpec)

/-- ITS FALSE NEIGHBOUR: 'it returns false'. Refute it at one input. -/
def scanTokensWrong : ChangeSpec := { name := "scanTokens", fn := fun _ => fun
  | [d1, d2, d3] => { results := [.lit (.bool false)], args := [d1, d2, d3] }
  | _ => none }
def ScanTokensWrongFalsely : Prop := scanTokensRow.holds Try.pinned (OpenSpec.ofChange scanTokensWrong)

/-- 'versionmaplaw25.ScanParses': WHATEVER THE INPUT: true; the input reads as it did. -/
def scanParsesSpec : ChangeSpec := { name := "scanParses", fn := fun _ => fun
  | [d1, d2, d3, d4, d5, d6, d7] => { results := [.lit (.bool true)], args := [d1, d2, d3, d4, d5, d6, d7] }
  | _ => none }
def scanParsesRow : OpenClaim := { program := "yteghhalnpdikoaa", sum := "82b980a2991d3ae1bb5c077af47c19ac6bef3d7f4b8ed1a9a98a581784717568", func := "versionmap/versionmaplaw25.ScanParses", spec := "scanParses", unfollowed := true, recurses := true, apart := false }
def ScanParsesSaid : Prop := scanParsesRow.holds Try.pinned (OpenSpec.ofChange scanParsesSpec)

/-- ITS FALSE NEIGHBOUR: 'it returns false'. Refute it at one input. -/
def scanParsesWrong : ChangeSpec := { name := "scanParses", fn := fun _ => fun
  | [d1, d2, d3, d4, d5, d6, d7] => { results := [.lit (.bool false)], args := [d1, d2, d3, d4, d5, d6, d7] }
  | _ => none }
def ScanParsesWrongFalsely : Prop := scanParsesRow.holds Try.pinned (OpenSpec.ofChange scanParsesWrong)

/-- 'versionmaplaw25.ScanPages': WHATEVER THE INPUT: true; the input reads as it did. -/
def scanPagesSpec : ChangeSpec := { name := "scanPages", fn := fun _ => fun
  | [d1, d2, d3, d4, d5, d6, d7, d8] => { results := [.lit (.bool true)], args := [d1, d2, d3, d4, d5, d6, d7, d8] }
  | _ => none }
def scanPagesRow : OpenClaim := { program := "yteghhalnpdikoaa", sum := "82b980a2991d3ae1bb5c077af47c19ac6bef3d7f4b8ed1a9a98a581784717568", func := "versionmap/versionmaplaw25.ScanPages", spec := "scanPages", unfollowed := true, recurses := true, apart := false }
def ScanPagesSaid : Prop := scanPagesRow.holds Try.pinned (OpenSpec.ofChange scanPagesSpec)

/-- ITS FALSE NEIGHBOUR: 'it returns false'. Refute it at one input. -/
def scanPagesWrong : ChangeSpec := { name := "scanPages", fn := fun _ => fun
  | [d1, d2, d3, d4, d5, d6, d7, d8] => { results := [.lit (.bool false)], args := [d1, d2, d3, d4, d5, d6, d7, d8] }
  | _ => none }
def ScanPagesWrongFalsely : Prop := scanPagesRow.holds Try.pinned (OpenSpec.ofChange scanPagesWrong)

/-- 'versionmaplaw25.ScanVisitsAll': WHATEVER THE INPUT: true; the input reads as it did. -/
def scanVisitsAllSpec : ChangeSpec := { name := "scanVisitsAll", fn := fun _ => fun
  | [d1, d2, d3, d4, d5, d6, d7] => { results := [.lit (.bool true)], args := [d1, d2, d3, d4, d5, d6, d7] }
  | _ => none }
def scanVisitsAllRow : OpenClaim := { program := "yteghhalnpdikoaa", sum := "82b980a2991d3ae1bb5c077af47c19ac6bef3d7f4b8ed1a9a98a581784717568", func := "versionmap/versionmaplaw25.ScanVisitsAll", spec := "scanVisitsAll", unfollowed := true, recurses := true, apart := false }
def ScanVisitsAllSaid : Prop := scanVisitsAllRow.holds Try.pinned (OpenSpec.ofChange scanVisitsAllSpec)

/-- ITS FALSE NEIGHBOUR: 'it returns false'. Refute it at one input. -/
def scanVisitsAllWrong : ChangeSpec := { name := "scanVisitsAll", fn := fun _ => fun
  | [d1, d2, d3, d4, d5, d6, d7] => { results := [.lit (.bool false)], args := [d1, d2, d3, d4, d5, d6, d7] }
  | _ => none }
def ScanVisitsAllWrongFalsely : Prop := scanVisitsAllRow.holds Try.pinned (OpenSpec.ofChange scanVisitsAllWrong)

/-- 'versionmaplaw25.ScanTokensAreBound': WHATEVER THE INPUT: true; the input reads as it did. -/
def scanTokensAreBoundSpec : ChangeSpec := { name := "scanTokensAreBound", fn := fun _ => fun
  | [d1, d2, d3, d4, d5] => { results := [.lit (.bool true)], args := [d1, d2, d3, d4, d5] }
  | _ => none }
def scanTokensAreBoundRow : OpenClaim := { program := "yteghhalnpdikoaa", sum := "82b980a2991d3ae1bb5c077af47c19ac6bef3d7f4b8ed1a9a98a581784717568", func := "versionmap/versionmaplaw25.ScanTokensAreBound", spec := "scanTokensAreBound", unfollowed := true, recurses := true, apart := false }
def ScanTokensAreBoundSaid : Prop := scanTokensAreBoundRow.holds Try.pinned (OpenSpec.ofChange scanTokensAreBoundSpec)

/-- ITS FALSE NEIGHBOUR: 'it returns false'. Refute it at one input. -/
def scanTokensAreBoundWrong : ChangeSpec := { name := "scanTokensAreBound", fn := fun _ => fun
  | [d1, d2, d3, d4, d5] => { results := [.lit (.bool false)], args := [d1, d2, d3, d4, d5] }
  | _ => none }
def ScanTokensAreBoundWrongFalsely : Prop := scanTokensAreBoundRow.holds Try.pinned (OpenSpec.ofChange scanTokensAreBoundWrong)

/- THE SECOND FORM. 'bulk': how many values and letters a reading holds, each counted each time it is reached (what is shared counts as often as it is met; a slice's spare places count too). A statement '..UptoSaid' is the law's where the arguments, and the package variables that the reading takes, are together of bulk at most 1048576: NARROWER than '..Said'. Prove '..Said' where nothing that the law and all that it calls make is longer than what came in: it says more and counts as full. Else prove '..UptoSaid'. A law counts once. -/
mutual
def uptoBulk {H : Type} : DataW H → Nat
  | .lit (.string bytes) => bytes.length + 1
  | .lit _ => 1
  | .nil => 1
  | .ptr d => uptoBulk d + 1
  | .slice elems spare => uptoBulkAll elems + uptoBulkAll spare + 1
  | .agg parts => uptoBulkAll parts + 1
  | .iface _ d => uptoBulk d + 1
  | .map entries => uptoBulkEntries entries + 1
  | .held _ => 1
def uptoBulkAll {H : Type} : List (DataW H) → Nat
  | [] => 0
  | d :: r => uptoBulk d + uptoBulkAll r
def uptoBulkEntries {H : Type} : List (Lit × DataW H) → Nat
  | [] => 0
  | x :: r => uptoBulkEntry x + uptoBulkEntries r
def uptoBulkEntry {H : Type} : Lit × DataW H → Nat
  | (.string bytes, d) => bytes.length + uptoBulk d + 1
  | (_, d) => uptoBulk d + 1
 end
def uptoSmall : (H : Type) → List (DataW H) → Bool := fun _ ds => decide (uptoBulkAll ds ≤ 1048576)
def OpenSpec.upto (s : _root_.Go.ChangeSpec) : _root_.Go.OpenSpec := { _root_.Go.OpenSpec.ofChange s with cond := some uptoSmall }

/-- 'versionmaplaw17.CompareIsOrder', WHERE WHAT IT READS IS OF BULK AT MOST 1048576: true; the input reads as it did. -/
def compareIsOrderUptoRow : OpenClaim := { program := "yteghhalnpdikoaa", sum := "82b980a2991d3ae1bb5c077af47c19ac6bef3d7f4b8ed1a9a98a581784717568", func := "versionmap/versionmaplaw17.CompareIsOrder", spec := "compareIsOrder", unfollowed := true, recurses := true, apart := false, narrowed := true }
def CompareIsOrderUptoSaid : Prop := compareIsOrderUptoRow.holds Try.pinned (OpenSpec.upto compareIsOrderSpec)

/-- 'versionmaplaw17.CompareReadsLittle', WHERE WHAT IT READS IS OF BULK AT MOST 1048576: true; the input reads as it did. -/
def compareReadsLittleUptoRow : OpenClaim := { program := "yteghhalnpdikoaa", sum := "82b980a2991d3ae1bb5c077af47c19ac6bef3d7f4b8ed1a9a98a581784717568", func := "versionmap/versionmaplaw17.CompareReadsLittle", spec := "compareReadsLittle", unfollowed := true, recurses := true, apart := false, narrowed := true }
def CompareReadsLittleUptoSaid : Prop := compareReadsLittleUptoRow.holds Try.pinned (OpenSpec.upto compareReadsLittleSpec)

/-- 'versionmaplaw17.CompareSubsets', WHERE WHAT IT READS IS OF BULK AT MOST 1048576: true; the input reads as it did. -/
def compareSubsetsUptoRow : OpenClaim := { program := "yteghhalnpdikoaa", sum := "82b980a2991d3ae1bb5c077af47c19ac6bef3d7f4b8ed1a9a98a581784717568", func := "versionmap/versionmaplaw17.CompareSubsets", spec := "compareSubsets", unfollowed := true, recurses := true, apart := false, narrowed := true }
def CompareSubsetsUptoSaid : Prop := compareSubsetsUptoRow.holds Try.pinned (OpenSpec.upto compareSubsetsSpec)

/-- 'versionmaplaw17.CompareAgrees', WHERE WHAT IT READS IS OF BULK AT MOST 1048576: true; the input reads as it did. -/
def compareAgreesUptoRow : OpenClaim := { program := "yteghhalnpdikoaa", sum := "82b980a2991d3ae1bb5c077af47c19ac6bef3d7f4b8ed1a9a98a581784717568", func := "versionmap/versionmaplaw17.CompareAgrees", spec := "compareAgrees", unfollowed := true, recurses := true, apart := false, narrowed := true }
def CompareAgreesUptoSaid : Prop := compareAgreesUptoRow.holds Try.pinned (OpenSpec.upto compareAgreesSpec)

/-- 'versionmaplaw25.ScanTokens', WHERE WHAT IT READS IS OF BULK AT MOST 1048576: true; the input reads as it did. -/
def scanTokensUptoRow : OpenClaim := { program := "yteghhalnpdikoaa", sum := "82b980a2991d3ae1bb5c077af47c19ac6bef3d7f4b8ed1a9a98a581784717568", func := "versionmap/versionmaplaw25.ScanTokens", spec := "scanTokens", unfollowed := true, recurses := true, apart := false, narrowed := true }
def ScanTokensUptoSaid : Prop := scanTokensUptoRow.holds Try.pinned (OpenSpec.upto scanTokensSpec)

/-- 'versionmaplaw25.ScanParses', WHERE WHAT IT READS IS OF BULK AT MOST 1048576: true; the input reads as it did. -/
def scanParsesUptoRow : OpenClaim := { program := "yteghhalnpdikoaa", sum := "82b980a2991d3ae1bb5c077af47c19ac6bef3d7f4b8ed1a9a98a581784717568", func := "versionmap/versionmaplaw25.ScanParses", spec := "scanParses", unfollowed := true, recurses := true, apart := false, narrowed := true }
def ScanParsesUptoSaid : Prop := scanParsesUptoRow.holds Try.pinned (OpenSpec.upto scanParsesSpec)

/-- 'versionmaplaw25.ScanPages', WHERE WHAT IT READS IS OF BULK AT MOST 1048576: true; the input reads as it did. -/
def scanPagesUptoRow : OpenClaim := { program := "yteghhalnpdikoaa", sum := "82b980a2991d3ae1bb5c077af47c19ac6bef3d7f4b8ed1a9a98a581784717568", func := "versionmap/versionmaplaw25.ScanPages", spec := "scanPages", unfollowed := true, recurses := true, apart := false, narrowed := true }
def ScanPagesUptoSaid : Prop := scanPagesUptoRow.holds Try.pinned (OpenSpec.upto scanPagesSpec)

/-- 'versionmaplaw25.ScanVisitsAll', WHERE WHAT IT READS IS OF BULK AT MOST 1048576: true; the input reads as it did. -/
def scanVisitsAllUptoRow : OpenClaim := { program := "yteghhalnpdikoaa", sum := "82b980a2991d3ae1bb5c077af47c19ac6bef3d7f4b8ed1a9a98a581784717568", func := "versionmap/versionmaplaw25.ScanVisitsAll", spec := "scanVisitsAll", unfollowed := true, recurses := true, apart := false, narrowed := true }
def ScanVisitsAllUptoSaid : Prop := scanVisitsAllUptoRow.holds Try.pinned (OpenSpec.upto scanVisitsAllSpec)

/-- 'versionmaplaw25.ScanTokensAreBound', WHERE WHAT IT READS IS OF BULK AT MOST 1048576: true; the input reads as it did. -/
def scanTokensAreBoundUptoRow : OpenClaim := { program := "yteghhalnpdikoaa", sum := "82b980a2991d3ae1bb5c077af47c19ac6bef3d7f4b8ed1a9a98a581784717568", func := "versionmap/versionmaplaw25.ScanTokensAreBound", spec := "scanTokensAreBound", unfollowed := true, recurses := true, apart := false, narrowed := true }
def ScanTokensAreBoundUptoSaid : Prop := scanTokensAreBoundUptoRow.holds Try.pinned (OpenSpec.upto scanTokensAreBoundSpec)

end Rows
end Go.Proofs.Yteghhalnpdikoaa
