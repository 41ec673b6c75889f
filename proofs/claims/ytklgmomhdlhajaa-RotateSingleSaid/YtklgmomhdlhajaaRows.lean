/-
  No cell of these rows narrows 'for every input' (looked for: loops, veiled, ifaces, maps, wideKeys, modest, calm, conditions, laid).
  DERIVED. THE GIVEN ROWS OF THIS SEAT. 10 by the template 'for every input the law returns true; each argument reads behind the call as it read before'; 0 by the template 'total and deterministic' (their statements: YtklgmomhdlhajaaTotals.lean).
  GIVEN WITH THE SEED: the statements are not yours to turn. If you find one false, say at which input.
  Laid BY PROGRAM, IN A SANDBOX (cutbox-rows.mjs): the forced cells as the released guide's own fill.sh prints them over the translation 4888922cb39675ce… (all of the seat's roots in one cut). By AI agents, Wed Nov 11 2026. No macro, syntax, notation, axiom, sorry.
-/
import Derived.Test.YtklgmomhdlhajaaChecked
import GoSem.Claim
import GoSem.ClaimJoined
import GoSem.ClaimMapViews
import Derived.JoinedTies
import Derived.KernelRfl
namespace Go.Proofs.Ytklgmomhdlhajaa
/- THE CELL 'sum', in the pinned program and in every row, IS THE sha256 OF THE DUMP (.gsa) THAT YtklgmomhdlhajaaProg.lean LOADS. Nothing in Lean hashes anything: it is a label: what it is worth is what the hold of that sum in a sandbox is worth. -/
noncomputable def Try.pinned : Pinned := { name := "ytklgmomhdlhajaa", sum := "4888922cb39675ce9541667941949c53e02217aa58dd5354394299922f05f024", checked := Try.checked }
namespace Rows
def none {H : Type} : Left H := { results := [], args := [] }

/-- 'versionmaplaw11.SummaryAddIsMonoid': WHATEVER THE INPUT: true; the input reads as it did. -/
def summaryAddIsMonoidSpec : ChangeSpec := { name := "summaryAddIsMonoid", fn := fun _ => fun
  | [d1, d2, d3] => { results := [.lit (.bool true)], args := [d1, d2, d3] }
  | _ => none }
def summaryAddIsMonoidRow : OpenClaim := { program := "ytklgmomhdlhajaa", sum := "4888922cb39675ce9541667941949c53e02217aa58dd5354394299922f05f024", func := "versionmap/versionmaplaw11.SummaryAddIsMonoid", spec := "summaryAddIsMonoid", recurses := true, apart := false }
def SummaryAddIsMonoidSaid : Prop := summaryAddIsMonoidRow.holds Try.pinned (OpenSpec.ofChange summaryAddIsMonoidSpec)

/-- ITS FALSE NEIGHBOUR: 'it returns false'. Refute it at one input. -/
def summaryAddIsMonoidWrong : ChangeSpec := { name := "summaryAddIsMonoid", fn := fun _ => fun
  | [d1, d2, d3] => { results := [.lit (.bool false)], args := [d1, d2, d3] }
  | _ => none }
def SummaryAddIsMonoidWrongFalsely : Prop := summaryAddIsMonoidRow.holds Try.pinned (OpenSpec.ofChange summaryAddIsMonoidWrong)

/-- 'versionmaplaw11.SummaryPrefix': WHATEVER THE INPUT: true; the input reads as it did. -/
def summaryPrefixSpec : ChangeSpec := { name := "summaryPrefix", fn := fun _ => fun
  | [d1, d2, d3] => { results := [.lit (.bool true)], args := [d1, d2, d3] }
  | _ => none }
def summaryPrefixRow : OpenClaim := { program := "ytklgmomhdlhajaa", sum := "4888922cb39675ce9541667941949c53e02217aa58dd5354394299922f05f024", func := "versionmap/versionmaplaw11.SummaryPrefix", spec := "summaryPrefix", recurses := true, apart := false }
def SummaryPrefixSaid : Prop := summaryPrefixRow.holds Try.pinned (OpenSpec.ofChange summaryPrefixSpec)

/-- ITS FALSE NEIGHBOUR: 'it returns false'. Refute it at one input. -/
def summaryPrefixWrong : ChangeSpec := { name := "summaryPrefix", fn := fun _ => fun
  | [d1, d2, d3] => { results := [.lit (.bool false)], args := [d1, d2, d3] }
  | _ => none }
def SummaryPrefixWrongFalsely : Prop := summaryPrefixRow.holds Try.pinned (OpenSpec.ofChange summaryPrefixWrong)

/-- 'versionmaplaw11.SummaryOf': WHATEVER THE INPUT: true; the input reads as it did. -/
def summaryOfSpec : ChangeSpec := { name := "summaryOf", fn := fun _ => fun
  | [d] => { results := [.lit (.bool true)], args := [d] }
  | _ => none }
def summaryOfRow : OpenClaim := { program := "ytklgmomhdlhajaa", sum := "4888922cb39675ce9541667941949c53e02217aa58dd5354394299922f05f024", func := "versionmap/versionmaplaw11.SummaryOf", spec := "summaryOf", recurses := true, apart := false }
def SummaryOfSaid : Prop := summaryOfRow.holds Try.pinned (OpenSpec.ofChange summaryOfSpec)

/-- ITS FALSE NEIGHBOUR: 'it returns false'. Refute it at one input. -/
def summaryOfWrong : ChangeSpec := { name := "summaryOf", fn := fun _ => fun
  | [d] => { results := [.lit (.bool false)], args := [d] }
  | _ => none }
def SummaryOfWrongFalsely : Prop := summaryOfRow.holds Try.pinned (OpenSpec.ofChange summaryOfWrong)

/-- 'versionmaplaw11.SummaryAdds': WHATEVER THE INPUT: true; the input reads as it did. -/
def summaryAddsSpec : ChangeSpec := { name := "summaryAdds", fn := fun _ => fun
  | [d1, d2] => { results := [.lit (.bool true)], args := [d1, d2] }
  | _ => none }
def summaryAddsRow : OpenClaim := { program := "ytklgmomhdlhajaa", sum := "4888922cb39675ce9541667941949c53e02217aa58dd5354394299922f05f024", func := "versionmap/versionmaplaw11.SummaryAdds", spec := "summaryAdds", recurses := true, apart := false }
def SummaryAddsSaid : Prop := summaryAddsRow.holds Try.pinned (OpenSpec.ofChange summaryAddsSpec)

/-- ITS FALSE NEIGHBOUR: 'it returns false'. Refute it at one input. -/
def summaryAddsWrong : ChangeSpec := { name := "summaryAdds", fn := fun _ => fun
  | [d1, d2] => { results := [.lit (.bool false)], args := [d1, d2] }
  | _ => none }
def SummaryAddsWrongFalsely : Prop := summaryAddsRow.holds Try.pinned (OpenSpec.ofChange summaryAddsWrong)

/-- 'versionmaplaw11.SummaryRangesAdd': WHATEVER THE INPUT: true; the input reads as it did. -/
def summaryRangesAddSpec : ChangeSpec := { name := "summaryRangesAdd", fn := fun _ => fun
  | [d1, d2, d3, d4, d5] => { results := [.lit (.bool true)], args := [d1, d2, d3, d4, d5] }
  | _ => none }
def summaryRangesAddRow : OpenClaim := { program := "ytklgmomhdlhajaa", sum := "4888922cb39675ce9541667941949c53e02217aa58dd5354394299922f05f024", func := "versionmap/versionmaplaw11.SummaryRangesAdd", spec := "summaryRangesAdd", recurses := true, apart := false }
def SummaryRangesAddSaid : Prop := summaryRangesAddRow.holds Try.pinned (OpenSpec.ofChange summaryRangesAddSpec)

/-- ITS FALSE NEIGHBOUR: 'it returns false'. Refute it at one input. -/
def summaryRangesAddWrong : ChangeSpec := { name := "summaryRangesAdd", fn := fun _ => fun
  | [d1, d2, d3, d4, d5] => { results := [.lit (.bool false)], args := [d1, d2, d3, d4, d5] }
  | _ => none }
def SummaryRangesAddWrongFalsely : Prop := summaryRangesAddRow.holds Try.pinned (OpenSpec.ofChange summaryRangesAddWrong)

/-- 'versionmaplaw11.SummaryRange': WHATEVER THE INPUT: true; the input reads as it did. -/
def summaryRangeSpec : ChangeSpec := { name := "summaryRange", fn := fun _ => fun
  | [d1, d2, d3, d4, d5, d6] => { results := [.lit (.bool true)], args := [d1, d2, d3, d4, d5, d6] }
  | _ => none }
def summaryRangeRow : OpenClaim := { program := "ytklgmomhdlhajaa", sum := "4888922cb39675ce9541667941949c53e02217aa58dd5354394299922f05f024", func := "versionmap/versionmaplaw11.SummaryRange", spec := "summaryRange", recurses := true, apart := false }
def SummaryRangeSaid : Prop := summaryRangeRow.holds Try.pinned (OpenSpec.ofChange summaryRangeSpec)

/-- ITS FALSE NEIGHBOUR: 'it returns false'. Refute it at one input. -/
def summaryRangeWrong : ChangeSpec := { name := "summaryRange", fn := fun _ => fun
  | [d1, d2, d3, d4, d5, d6] => { results := [.lit (.bool false)], args := [d1, d2, d3, d4, d5, d6] }
  | _ => none }
def SummaryRangeWrongFalsely : Prop := summaryRangeRow.holds Try.pinned (OpenSpec.ofChange summaryRangeWrong)

/-- 'versionmaplaw12.RotateSingle': WHATEVER THE INPUT: true; the input reads as it did. -/
def rotateSingleSpec : ChangeSpec := { name := "rotateSingle", fn := fun _ => fun
  | [d1, d2, d3, d4] => { results := [.lit (.bool true)], args := [d1, d2, d3, d4] }
  | _ => none }
def rotateSingleRow : OpenClaim := { program := "ytklgmomhdlhajaa", sum := "4888922cb39675ce9541667941949c53e02217aa58dd5354394299922f05f024", func := "versionmap/versionmaplaw12.RotateSingle", spec := "rotateSingle", apart := false }
def RotateSingleSaid : Prop := rotateSingleRow.holds Try.pinned (OpenSpec.ofChange rotateSingleSpec)

/-- ITS FALSE NEIGHBOUR: 'it returns false'. Refute it at one input. -/
def rotateSingleWrong : ChangeSpec := { name := "rotateSingle", fn := fun _ => fun
  | [d1, d2, d3, d4] => { results := [.lit (.bool false)], args := [d1, d2, d3, d4] }
  | _ => none }
def RotateSingleWrongFalsely : Prop := rotateSingleRow.holds Try.pinned (OpenSpec.ofChange rotateSingleWrong)

/-- 'versionmaplaw12.RotateDouble': WHATEVER THE INPUT: true; the input reads as it did. -/
def rotateDoubleSpec : ChangeSpec := { name := "rotateDouble", fn := fun _ => fun
  | [d1, d2, d3, d4] => { results := [.lit (.bool true)], args := [d1, d2, d3, d4] }
  | _ => none }
def rotateDoubleRow : OpenClaim := { program := "ytklgmomhdlhajaa", sum := "4888922cb39675ce9541667941949c53e02217aa58dd5354394299922f05f024", func := "versionmap/versionmaplaw12.RotateDouble", spec := "rotateDouble", apart := false }
def RotateDoubleSaid : Prop := rotateDoubleRow.holds Try.pinned (OpenSpec.ofChange rotateDoubleSpec)

/-- ITS FALSE NEIGHBOUR: 'it returns false'. Refute it at one input. -/
def rotateDoubleWrong : ChangeSpec := { name := "rotateDouble", fn := fun _ => fun
  | [d1, d2, d3, d4] => { results := [.lit (.bool false)], args := [d1, d2, d3, d4] }
  | _ => none }
def RotateDoubleWrongFalsely : Prop := rotateDoubleRow.holds Try.pinned (OpenSpec.ofChange rotateDoubleWrong)

/-- 'versionmaplaw12.RotateKeepsOrder': WHATEVER THE INPUT: true; the input reads as it did. -/
def rotateKeepsOrderSpec : ChangeSpec := { name := "rotateKeepsOrder", fn := fun _ => fun
  | [d1, d2, d3] => { results := [.lit (.bool true)], args := [d1, d2, d3] }
  | _ => none }
def rotateKeepsOrderRow : OpenClaim := { program := "ytklgmomhdlhajaa", sum := "4888922cb39675ce9541667941949c53e02217aa58dd5354394299922f05f024", func := "versionmap/versionmaplaw12.RotateKeepsOrder", spec := "rotateKeepsOrder", recurses := true, apart := false }
def RotateKeepsOrderSaid : Prop := rotateKeepsOrderRow.holds Try.pinned (OpenSpec.ofChange rotateKeepsOrderSpec)

/-- ITS FALSE NEIGHBOUR: 'it returns false'. Refute it at one input. -/
def rotateKeepsOrderWrong : ChangeSpec := { name := "rotateKeepsOrder", fn := fun _ => fun
  | [d1, d2, d3] => { results := [.lit (.bool false)], args := [d1, d2, d3] }
  | _ => none }
def RotateKeepsOrderWrongFalsely : Prop := rotateKeepsOrderRow.holds Try.pinned (OpenSpec.ofChange rotateKeepsOrderWrong)

/-- 'versionmaplaw12.RotateBack': WHATEVER THE INPUT: true; the input reads as it did. -/
def rotateBackSpec : ChangeSpec := { name := "rotateBack", fn := fun _ => fun
  | [d1, d2, d3] => { results := [.lit (.bool true)], args := [d1, d2, d3] }
  | _ => none }
def rotateBackRow : OpenClaim := { program := "ytklgmomhdlhajaa", sum := "4888922cb39675ce9541667941949c53e02217aa58dd5354394299922f05f024", func := "versionmap/versionmaplaw12.RotateBack", spec := "rotateBack", recurses := true, apart := false }
def RotateBackSaid : Prop := rotateBackRow.holds Try.pinned (OpenSpec.ofChange rotateBackSpec)

/-- ITS FALSE NEIGHBOUR: 'it returns false'. Refute it at one input. -/
def rotateBackWrong : ChangeSpec := { name := "rotateBack", fn := fun _ => fun
  | [d1, d2, d3] => { results := [.lit (.bool false)], args := [d1, d2, d3] }
  | _ => none }
def RotateBackWrongFalsely : Prop := rotateBackRow.holds Try.pinned (OpenSpec.ofChange rotateBackWrong)

/- THE SECOND FORM. 'bulk': how many values and letters a reading holds, each counted each time it is reached (what is shared counts as often as it is met; a slice's spare places count too). A statement '..UptoSaid' is the law's where the arguments, and the package variables that the reading takes, are together of bulk at most 1048576: NARROWER than '..Said'. Prove '..Said' where nothing that the law and all that it calls make is longer than what came in: it says more and counts as full. Else prove '..UptoSaid'. A law counts once. -/
mutual
def uptoBulk {H : Type} : DataW H → Nat
  | .lit (.string bytes) => bytes.length + 1
  | .lit _ => 1
  | .nil => 1
  | .ptr d => uptoBulk d + 1
  | .slice elems spare => uptoBulkAll elems + uptoBulkAll spare + 1
  | .agg parts => uptoBulkAll parts + 1
  | .iface _ d => uptoBulk d + 1
  | .map entries => uptoBulkEntries entries + 1
  | .held _ => 1
def uptoBulkAll {H : Type} : List (DataW H) → Nat
  | [] => 0
  | d :: r => uptoBulk d + uptoBulkAll r
def uptoBulkEntries {H : Type} : List (Lit × DataW H) → Nat
  | [] => 0
  | x :: r => uptoBulkEntry x + uptoBulkEntries r
def uptoBulkEntry {H : Type} : Lit × DataW H → Nat
  | (.string bytes, d) => bytes.length + uptoBulk d + 1
  | (_, d) => uptoBulk d + 1
 end
def uptoSmall : (H : Type) → List (DataW H) → Bool := fun _ ds => decide (uptoBulkAll ds ≤ 1048576)
def OpenSpec.upto (s : _root_.Go.ChangeSpec) : _root_.Go.OpenSpec := { _root_.Go.OpenSpec.ofChange s with cond := some uptoSmall }

/-- 'versionmaplaw11.SummaryAddIsMonoid', WHERE WHAT IT READS IS OF BULK AT MOST 1048576: true; the input reads as it did. -/
def summaryAddIsMonoidUptoRow : OpenClaim := { program := "ytklgmomhdlhajaa", sum := "4888922cb39675ce9541667941949c53e02217aa58dd5354394299922f05f024", func := "versionmap/versionmaplaw11.SummaryAddIsMonoid", spec := "summaryAddIsMonoid", recurses := true, apart := false, narrowed := true }
def SummaryAddIsMonoidUptoSaid : Prop := summaryAddIsMonoidUptoRow.holds Try.pinned (OpenSpec.upto summaryAddIsMonoidSpec)

/-- 'versionmaplaw11.SummaryPrefix', WHERE WHAT IT READS IS OF BULK AT MOST 1048576: true; the input reads as it did. -/
def summaryPrefixUptoRow : OpenClaim := { program := "ytklgmomhdlhajaa", sum := "4888922cb39675ce9541667941949c53e02217aa58dd5354394299922f05f024", func := "versionmap/versionmaplaw11.SummaryPrefix", spec := "summaryPrefix", recurses := true, apart := false, narrowed := true }
def SummaryPrefixUptoSaid : Prop := summaryPrefixUptoRow.holds Try.pinned (OpenSpec.upto summaryPrefixSpec)

/-- 'versionmaplaw11.SummaryOf', WHERE WHAT IT READS IS OF BULK AT MOST 1048576: true; the input reads as it did. -/
def summaryOfUptoRow : OpenClaim := { program := "ytklgmomhdlhajaa", sum := "4888922cb39675ce9541667941949c53e02217aa58dd5354394299922f05f024", func := "versionmap/versionmaplaw11.SummaryOf", spec := "summaryOf", recurses := true, apart := false, narrowed := true }
def SummaryOfUptoSaid : Prop := summaryOfUptoRow.holds Try.pinned (OpenSpec.upto summaryOfSpec)

/-- 'versionmaplaw11.SummaryAdds', WHERE WHAT IT READS IS OF BULK AT MOST 1048576: true; the input reads as it did. -/
def summaryAddsUptoRow : OpenClaim := { program := "ytklgmomhdlhajaa", sum := "4888922cb39675ce9541667941949c53e02217aa58dd5354394299922f05f024", func := "versionmap/versionmaplaw11.SummaryAdds", spec := "summaryAdds", recurses := true, apart := false, narrowed := true }
def SummaryAddsUptoSaid : Prop := summaryAddsUptoRow.holds Try.pinned (OpenSpec.upto summaryAddsSpec)

/-- 'versionmaplaw11.SummaryRangesAdd', WHERE WHAT IT READS IS OF BULK AT MOST 1048576: true; the input reads as it did. -/
def summaryRangesAddUptoRow : OpenClaim := { program := "ytklgmomhdlhajaa", sum := "4888922cb39675ce9541667941949c53e02217aa58dd5354394299922f05f024", func := "versionmap/versionmaplaw11.SummaryRangesAdd", spec := "summaryRangesAdd", recurses := true, apart := false, narrowed := true }
def SummaryRangesAddUptoSaid : Prop := summaryRangesAddUptoRow.holds Try.pinned (OpenSpec.upto summaryRangesAddSpec)

/-- 'versionmaplaw11.SummaryRange', WHERE WHAT IT READS IS OF BULK AT MOST 1048576: true; the input reads as it did. -/
def summaryRangeUptoRow : OpenClaim := { program := "ytklgmomhdlhajaa", sum := "4888922cb39675ce9541667941949c53e02217aa58dd5354394299922f05f024", func := "versionmap/versionmaplaw11.SummaryRange", spec := "summaryRange", recurses := true, apart := false, narrowed := true }
def SummaryRangeUptoSaid : Prop := summaryRangeUptoRow.holds Try.pinned (OpenSpec.upto summaryRangeSpec)

/-- 'versionmaplaw12.RotateSingle', WHERE WHAT IT READS IS OF BULK AT MOST 1048576: true; the input reads as it did. -/
def rotateSingleUptoRow : OpenClaim := { program := "ytklgmomhdlhajaa", sum := "4888922cb39675ce9541667941949c53e02217aa58dd5354394299922f05f024", func := "versionmap/versionmaplaw12.RotateSingle", spec := "rotateSingle", apart := false, narrowed := true }
def RotateSingleUptoSaid : Prop := rotateSingleUptoRow.holds Try.pinned (OpenSpec.upto rotateSingleSpec)

/-- 'versionmaplaw12.RotateDouble', WHERE WHAT IT READS IS OF BULK AT MOST 1048576: true; the input reads as it did. -/
def rotateDoubleUptoRow : OpenClaim := { program := "ytklgmomhdlhajaa", sum := "4888922cb39675ce9541667941949c53e02217aa58dd5354394299922f05f024", func := "versionmap/versionmaplaw12.RotateDouble", spec := "rotateDouble", apart := false, narrowed := true }
def RotateDoubleUptoSaid : Prop := rotateDoubleUptoRow.holds Try.pinned (OpenSpec.upto rotateDoubleSpec)

/-- 'versionmaplaw12.RotateKeepsOrder', WHERE WHAT IT READS IS OF BULK AT MOST 1048576: true; the input reads as it did. -/
def rotateKeepsOrderUptoRow : OpenClaim := { program := "ytklgmomhdlhajaa", sum := "4888922cb39675ce9541667941949c53e02217aa58dd5354394299922f05f024", func := "versionmap/versionmaplaw12.RotateKeepsOrder", spec := "rotateKeepsOrder", recurses := true, apart := false, narrowed := true }
def RotateKeepsOrderUptoSaid : Prop := rotateKeepsOrderUptoRow.holds Try.pinned (OpenSpec.upto rotateKeepsOrderSpec)

/-- 'versionmaplaw12.RotateBack', WHERE WHAT IT READS IS OF BULK AT MOST 1048576: true; the input reads as it did. -/
def rotateBackUptoRow : OpenClaim := { program := "ytklgmomhdlhajaa", sum := "4888922cb39675ce9541667941949c53e02217aa58dd5354394299922f05f024", func := "versionmap/versionmaplaw12.RotateBack", spec := "rotateBack", recurses := true, apart := false, narrowed := true }
def RotateBackUptoSaid : Prop := rotateBackUptoRow.holds Try.pinned (OpenSpec.upto rotateBackSpec)

end Rows
end Go.Proofs.Ytklgmomhdlhajaa
