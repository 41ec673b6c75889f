/-
  No cell of these rows narrows 'for every input' (looked for: loops, veiled, ifaces, maps, wideKeys, modest, calm, conditions, laid).
  DERIVED. THE GIVEN ROWS OF THIS SEAT. 9 by the template 'for every input the law returns true; each argument reads behind the call as it read before'; 0 by the template 'total and deterministic' (their statements: YtfgkleggbcpinaaTotals.lean).
  GIVEN WITH THE SEED: the statements are not yours to turn. If you find one false, say at which input.
  Laid BY PROGRAM, IN A SANDBOX (cutbox-rows.mjs): the forced cells as the released guide's own fill.sh prints them over the translation 7e8c190799294905… (all of the seat's roots in one cut). By AI agents, Wed Nov 11 2026. No macro, syntax, notation, axiom, sorry.
-/
import Derived.Test.YtfgkleggbcpinaaChecked
import GoSem.Claim
import GoSem.ClaimJoined
import GoSem.ClaimMapViews
import Derived.JoinedTies
import Derived.KernelRfl
namespace Go.Proofs.Ytfgkleggbcpinaa
/- THE CELL 'sum', in the pinned program and in every row, IS THE sha256 OF THE DUMP (.gsa) THAT YtfgkleggbcpinaaProg.lean LOADS. Nothing in Lean hashes anything: it is a label: what it is worth is what the hold of that sum in a sandbox is worth. -/
noncomputable def Try.pinned : Pinned := { name := "ytfgkleggbcpinaa", sum := "7e8c1907992949056d65eed68e75dc422bdac7521b8a23ffa20cf6a31fa98f4b", checked := Try.checked }
namespace Rows
def none {H : Type} : Left H := { results := [], args := [] }

/-- 'versionmaplaw2.FrameChecksumAgrees': WHATEVER THE INPUT: true; the input reads as it did. -/
def frameChecksumAgreesSpec : ChangeSpec := { name := "frameChecksumAgrees", fn := fun _ => fun
  | [d1, d2] => { results := [.lit (.bool true)], args := [d1, d2] }
  | _ => none }
def frameChecksumAgreesRow : OpenClaim := { program := "ytfgkleggbcpinaa", sum := "7e8c1907992949056d65eed68e75dc422bdac7521b8a23ffa20cf6a31fa98f4b", func := "versionmap/versionmaplaw2.FrameChecksumAgrees", spec := "frameChecksumAgrees", apart := false }
def FrameChecksumAgreesSaid : Prop := frameChecksumAgreesRow.holds Try.pinned (OpenSpec.ofChange frameChecksumAgreesSpec)

/-- ITS FALSE NEIGHBOUR: 'it returns false'. Refute it at one input. -/
def frameChecksumAgreesWrong : ChangeSpec := { name := "frameChecksumAgrees", fn := fun _ => fun
  | [d1, d2] => { results := [.lit (.bool false)], args := [d1, d2] }
  | _ => none }
def FrameChecksumAgreesWrongFalsely : Prop := frameChecksumAgreesRow.holds Try.pinned (OpenSpec.ofChange frameChecksumAgreesWrong)

/-- 'versionmaplaw2.FrameChecksumExtends': WHATEVER THE INPUT: true; the input reads as it did. -/
def frameChecksumExtendsSpec : ChangeSpec := { name := "frameChecksumExtends", fn := fun _ => fun
  | [d1, d2] => { results := [.lit (.bool true)], args := [d1, d2] }
  | _ => none }
def frameChecksumExtendsRow : OpenClaim := { program := "ytfgkleggbcpinaa", sum := "7e8c1907992949056d65eed68e75dc422bdac7521b8a23ffa20cf6a31fa98f4b", func := "versionmap/versionmaplaw2.FrameChecksumExtends", spec := "frameChecksumExtends", apart := false }
def FrameChecksumExtendsSaid : Prop := frameChecksumExtendsRow.holds Try.pinned (OpenSpec.ofChange frameChecksumExtendsSpec)

/-- ITS FALSE NEIGHBOUR: 'it returns false'. Refute it at one input. -/
def frameChecksumExtendsWrong : ChangeSpec := { name := "frameChecksumExtends", fn := fun _ => fun
  | [d1, d2] => { results := [.lit (.bool false)], args := [d1, d2] }
  | _ => none }
def FrameChecksumExtendsWrongFalsely : Prop := frameChecksumExtendsRow.holds Try.pinned (OpenSpec.ofChange frameChecksumExtendsWrong)

/-- 'versionmaplaw2.FrameChecksumIsAffine': WHATEVER THE INPUT: true; the input reads as it did. -/
def frameChecksumIsAffineSpec : ChangeSpec := { name := "frameChecksumIsAffine", fn := fun _ => fun
  | [d1, d2, d3] => { results := [.lit (.bool true)], args := [d1, d2, d3] }
  | _ => none }
def frameChecksumIsAffineRow : OpenClaim := { program := "ytfgkleggbcpinaa", sum := "7e8c1907992949056d65eed68e75dc422bdac7521b8a23ffa20cf6a31fa98f4b", func := "versionmap/versionmaplaw2.FrameChecksumIsAffine", spec := "frameChecksumIsAffine", apart := false }
def FrameChecksumIsAffineSaid : Prop := frameChecksumIsAffineRow.holds Try.pinned (OpenSpec.ofChange frameChecksumIsAffineSpec)

/-- ITS FALSE NEIGHBOUR: 'it returns false'. Refute it at one input. -/
def frameChecksumIsAffineWrong : ChangeSpec := { name := "frameChecksumIsAffine", fn := fun _ => fun
  | [d1, d2, d3] => { results := [.lit (.bool false)], args := [d1, d2, d3] }
  | _ => none }
def FrameChecksumIsAffineWrongFalsely : Prop := frameChecksumIsAffineRow.holds Try.pinned (OpenSpec.ofChange frameChecksumIsAffineWrong)

/-- 'versionmaplaw2.FrameChecksumDetectsBits': WHATEVER THE INPUT: true; the input reads as it did. -/
def frameChecksumDetectsBitsSpec : ChangeSpec := { name := "frameChecksumDetectsBits", fn := fun _ => fun
  | [d1, d2, d3] => { results := [.lit (.bool true)], args := [d1, d2, d3] }
  | _ => none }
def frameChecksumDetectsBitsRow : OpenClaim := { program := "ytfgkleggbcpinaa", sum := "7e8c1907992949056d65eed68e75dc422bdac7521b8a23ffa20cf6a31fa98f4b", func := "versionmap/versionmaplaw2.FrameChecksumDetectsBits", spec := "frameChecksumDetectsBits", apart := false }
def FrameChecksumDetectsBitsSaid : Prop := frameChecksumDetectsBitsRow.holds Try.pinned (OpenSpec.ofChange frameChecksumDetectsBitsSpec)

/-- ITS FALSE NEIGHBOUR: 'it returns false'. Refute it at one input. -/
def frameChecksumDetectsBitsWrong : ChangeSpec := { name := "frameChecksumDetectsBits", fn := fun _ => fun
  | [d1, d2, d3] => { results := [.lit (.bool false)], args := [d1, d2, d3] }
  | _ => none }
def FrameChecksumDetectsBitsWrongFalsely : Prop := frameChecksumDetectsBitsRow.holds Try.pinned (OpenSpec.ofChange frameChecksumDetectsBitsWrong)

/-- 'versionmaplaw2.FrameAppends': WHATEVER THE INPUT: true; the input reads as it did. -/
def frameAppendsSpec : ChangeSpec := { name := "frameAppends", fn := fun _ => fun
  | [d1, d2] => { results := [.lit (.bool true)], args := [d1, d2] }
  | _ => none }
def frameAppendsRow : OpenClaim := { program := "ytfgkleggbcpinaa", sum := "7e8c1907992949056d65eed68e75dc422bdac7521b8a23ffa20cf6a31fa98f4b", func := "versionmap/versionmaplaw2.FrameAppends", spec := "frameAppends", apart := false }
def FrameAppendsSaid : Prop := frameAppendsRow.holds Try.pinned (OpenSpec.ofChange frameAppendsSpec)

/-- ITS FALSE NEIGHBOUR: 'it returns false'. Refute it at one input. -/
def frameAppendsWrong : ChangeSpec := { name := "frameAppends", fn := fun _ => fun
  | [d1, d2] => { results := [.lit (.bool false)], args := [d1, d2] }
  | _ => none }
def FrameAppendsWrongFalsely : Prop := frameAppendsRow.holds Try.pinned (OpenSpec.ofChange frameAppendsWrong)

/-- 'versionmaplaw2.FrameLimit': WHATEVER THE INPUT: true; the input reads as it did. -/
def frameLimitSpec : ChangeSpec := { name := "frameLimit", fn := fun _ => fun
  | [d1, d2] => { results := [.lit (.bool true)], args := [d1, d2] }
  | _ => none }
def frameLimitRow : OpenClaim := { program := "ytfgkleggbcpinaa", sum := "7e8c1907992949056d65eed68e75dc422bdac7521b8a23ffa20cf6a31fa98f4b", func := "versionmap/versionmaplaw2.FrameLimit", spec := "frameLimit", apart := false }
def FrameLimitSaid : Prop := frameLimitRow.holds Try.pinned (OpenSpec.ofChange frameLimitSpec)

/-- ITS FALSE NEIGHBOUR: 'it returns false'. Refute it at one input. -/
def frameLimitWrong : ChangeSpec := { name := "frameLimit", fn := fun _ => fun
  | [d1, d2] => { results := [.lit (.bool false)], args := [d1, d2] }
  | _ => none }
def FrameLimitWrongFalsely : Prop := frameLimitRow.holds Try.pinned (OpenSpec.ofChange frameLimitWrong)

/-- 'versionmaplaw2.FrameDecodes': WHATEVER THE INPUT: true; the input reads as it did. -/
def frameDecodesSpec : ChangeSpec := { name := "frameDecodes", fn := fun _ => fun
  | [d1, d2, d3, d4, d5] => { results := [.lit (.bool true)], args := [d1, d2, d3, d4, d5] }
  | _ => none }
def frameDecodesRow : OpenClaim := { program := "ytfgkleggbcpinaa", sum := "7e8c1907992949056d65eed68e75dc422bdac7521b8a23ffa20cf6a31fa98f4b", func := "versionmap/versionmaplaw2.FrameDecodes", spec := "frameDecodes", apart := false }
def FrameDecodesSaid : Prop := frameDecodesRow.holds Try.pinned (OpenSpec.ofChange frameDecodesSpec)

/-- ITS FALSE NEIGHBOUR: 'it returns false'. Refute it at one input. -/
def frameDecodesWrong : ChangeSpec := { name := "frameDecodes", fn := fun _ => fun
  | [d1, d2, d3, d4, d5] => { results := [.lit (.bool false)], args := [d1, d2, d3, d4, d5] }
  | _ => none }
def FrameDecodesWrongFalsely : Prop := frameDecodesRow.holds Try.pinned (OpenSpec.ofChange frameDecodesWrong)

/-- 'versionmaplaw2.FrameSplits': WHATEVER THE INPUT: true; the input reads as it did. -/
def frameSplitsSpec : ChangeSpec := { name := "frameSplits", fn := fun _ => fun
  | [d] => { results := [.lit (.bool true)], args := [d] }
  | _ => none }
def frameSplitsRow : OpenClaim := { program := "ytfgkleggbcpinaa", sum := "7e8c1907992949056d65eed68e75dc422bdac7521b8a23ffa20cf6a31fa98f4b", func := "versionmap/versionmaplaw2.FrameSplits", spec := "frameSplits", apart := false }
def FrameSplitsSaid : Prop := frameSplitsRow.holds Try.pinned (OpenSpec.ofChange frameSplitsSpec)

/-- ITS FALSE NEIGHBOUR: 'it returns false'. Refute it at one input. -/
def frameSplitsWrong : ChangeSpec := { name := "frameSplits", fn := fun _ => fun
  | [d] => { results := [.lit (.bool false)], args := [d] }
  | _ => none }
def FrameSplitsWrongFalsely : Prop := frameSplitsRow.holds Try.pinned (OpenSpec.ofChange frameSplitsWrong)

/-- 'versionmaplaw2.FrameTornTail': WHATEVER THE INPUT: true; the input reads as it did. -/
def frameTornTailSpec : ChangeSpec := { name := "frameTornTail", fn := fun _ => fun
  | [d1, d2] => { results := [.lit (.bool true)], args := [d1, d2] }
  | _ => none }
def frameTornTailRow : OpenClaim := { program := "ytfgkleggbcpinaa", sum := "7e8c1907992949056d65eed68e75dc422bdac7521b8a23ffa20cf6a31fa98f4b", func := "versionmap/versionmaplaw2.FrameTornTail", spec := "frameTornTail", apart := false }
def FrameTornTailSaid : Prop := frameTornTailRow.holds Try.pinned (OpenSpec.ofChange frameTornTailSpec)

/-- ITS FALSE NEIGHBOUR: 'it returns false'. Refute it at one input. -/
def frameTornTailWrong : ChangeSpec := { name := "frameTornTail", fn := fun _ => fun
  | [d1, d2] => { results := [.lit (.bool false)], args := [d1, d2] }
  | _ => none }
def FrameTornTailWrongFalsely : Prop := frameTornTailRow.holds Try.pinned (OpenSpec.ofChange frameTornTailWrong)

/- THE SECOND FORM. 'bulk': how many values and letters a reading holds, each counted each time it is reached (what is shared counts as often as it is met; a slice's spare places count too). A statement '..UptoSaid' is the law's where the arguments, and the package variables that the reading takes, are together of bulk at most 1048576: NARROWER than '..Said'. Prove '..Said' where nothing that the law and all that it calls make is longer than what came in: it says more and counts as full. Else prove '..UptoSaid'. A law counts once. -/
mutual
def uptoBulk {H : Type} : DataW H → Nat
  | .lit (.string bytes) => bytes.length + 1
  | .lit _ => 1
  | .nil => 1
  | .ptr d => uptoBulk d + 1
  | .slice elems spare => uptoBulkAll elems + uptoBulkAll spare + 1
  | .agg parts => uptoBulkAll parts + 1
  | .iface _ d => uptoBulk d + 1
  | .map entries => uptoBulkEntries entries + 1
  | .held _ => 1
def uptoBulkAll {H : Type} : List (DataW H) → Nat
  | [] => 0
  | d :: r => uptoBulk d + uptoBulkAll r
def uptoBulkEntries {H : Type} : List (Lit × DataW H) → Nat
  | [] => 0
  | x :: r => uptoBulkEntry x + uptoBulkEntries r
def uptoBulkEntry {H : Type} : Lit × DataW H → Nat
  | (.string bytes, d) => bytes.length + uptoBulk d + 1
  | (_, d) => uptoBulk d + 1
 end
def uptoSmall : (H : Type) → List (DataW H) → Bool := fun _ ds => decide (uptoBulkAll ds ≤ 1048576)
def OpenSpec.upto (s : _root_.Go.ChangeSpec) : _root_.Go.OpenSpec := { _root_.Go.OpenSpec.ofChange s with cond := some uptoSmall }

/-- 'versionmaplaw2.FrameChecksumAgrees', WHERE WHAT IT READS IS OF BULK AT MOST 1048576: true; the input reads as it did. -/
def frameChecksumAgreesUptoRow : OpenClaim := { program := "ytfgkleggbcpinaa", sum := "7e8c1907992949056d65eed68e75dc422bdac7521b8a23ffa20cf6a31fa98f4b", func := "versionmap/versionmaplaw2.FrameChecksumAgrees", spec := "frameChecksumAgrees", apart := false, narrowed := true }
def FrameChecksumAgreesUptoSaid : Prop := frameChecksumAgreesUptoRow.holds Try.pinned (OpenSpec.upto frameChecksumAgreesSpec)

/-- 'versionmaplaw2.FrameChecksumExtends', WHERE WHAT IT READS IS OF BULK AT MOST 1048576: true; the input reads as it did. -/
def frameChecksumExtendsUptoRow : OpenClaim := { program := "ytfgkleggbcpinaa", sum := "7e8c1907992949056d65eed68e75dc422bdac7521b8a23ffa20cf6a31fa98f4b", func := "versionmap/versionmaplaw2.FrameChecksumExtends", spec := "frameChecksumExtends", apart := false, narrowed := true }
def FrameChecksumExtendsUptoSaid : Prop := frameChecksumExtendsUptoRow.holds Try.pinned (OpenSpec.upto frameChecksumExtendsSpec)

/-- 'versionmaplaw2.FrameChecksumIsAffine', WHERE WHAT IT READS IS OF BULK AT MOST 1048576: true; the input reads as it did. -/
def frameChecksumIsAffineUptoRow : OpenClaim := { program := "ytfgkleggbcpinaa", sum := "7e8c1907992949056d65eed68e75dc422bdac7521b8a23ffa20cf6a31fa98f4b", func := "versionmap/versionmaplaw2.FrameChecksumIsAffine", spec := "frameChecksumIsAffine", apart := false, narrowed := true }
def FrameChecksumIsAffineUptoSaid : Prop := frameChecksumIsAffineUptoRow.holds Try.pinned (OpenSpec.upto frameChecksumIsAffineSpec)

/-- 'versionmaplaw2.FrameChecksumDetectsBits', WHERE WHAT IT READS IS OF BULK AT MOST 1048576: true; the input reads as it did. -/
def frameChecksumDetectsBitsUptoRow : OpenClaim := { program := "ytfgkleggbcpinaa", sum := "7e8c1907992949056d65eed68e75dc422bdac7521b8a23ffa20cf6a31fa98f4b", func := "versionmap/versionmaplaw2.FrameChecksumDetectsBits", spec := "frameChecksumDetectsBits", apart := false, narrowed := true }
def FrameChecksumDetectsBitsUptoSaid : Prop := frameChecksumDetectsBitsUptoRow.holds Try.pinned (OpenSpec.upto frameChecksumDetectsBitsSpec)

/-- 'versionmaplaw2.FrameAppends', WHERE WHAT IT READS IS OF BULK AT MOST 1048576: true; the input reads as it did. -/
def frameAppendsUptoRow : OpenClaim := { program := "ytfgkleggbcpinaa", sum := "7e8c1907992949056d65eed68e75dc422bdac7521b8a23ffa20cf6a31fa98f4b", func := "versionmap/versionmaplaw2.FrameAppends", spec := "frameAppends", apart := false, narrowed := true }
def FrameAppendsUptoSaid : Prop := frameAppendsUptoRow.holds Try.pinned (OpenSpec.upto frameAppendsSpec)

/-- 'versionmaplaw2.FrameLimit', WHERE WHAT IT READS IS OF BULK AT MOST 1048576: true; the input reads as it did. -/
def frameLimitUptoRow : OpenClaim := { program := "ytfgkleggbcpinaa", sum := "7e8c1907992949056d65eed68e75dc422bdac7521b8a23ffa20cf6a31fa98f4b", func := "versionmap/versionmaplaw2.FrameLimit", spec := "frameLimit", apart := false, narrowed := true }
def FrameLimitUptoSaid : Prop := frameLimitUptoRow.holds Try.pinned (OpenSpec.upto frameLimitSpec)

/-- 'versionmaplaw2.FrameDecodes', WHERE WHAT IT READS IS OF BULK AT MOST 1048576: true; the input reads as it did. -/
def frameDecodesUptoRow : OpenClaim := { program := "ytfgkleggbcpinaa", sum := "7e8c1907992949056d65eed68e75dc422bdac7521b8a23ffa20cf6a31fa98f4b", func := "versionmap/versionmaplaw2.FrameDecodes", spec := "frameDecodes", apart := false, narrowed := true }
def FrameDecodesUptoSaid : Prop := frameDecodesUptoRow.holds Try.pinned (OpenSpec.upto frameDecodesSpec)

/-- 'versionmaplaw2.FrameSplits', WHERE WHAT IT READS IS OF BULK AT MOST 1048576: true; the input reads as it did. -/
def frameSplitsUptoRow : OpenClaim := { program := "ytfgkleggbcpinaa", sum := "7e8c1907992949056d65eed68e75dc422bdac7521b8a23ffa20cf6a31fa98f4b", func := "versionmap/versionmaplaw2.FrameSplits", spec := "frameSplits", apart := false, narrowed := true }
def FrameSplitsUptoSaid : Prop := frameSplitsUptoRow.holds Try.pinned (OpenSpec.upto frameSplitsSpec)

/-- 'versionmaplaw2.FrameTornTail', WHERE WHAT IT READS IS OF BULK AT MOST 1048576: true; the input reads as it did. -/
def frameTornTailUptoRow : OpenClaim := { program := "ytfgkleggbcpinaa", sum := "7e8c1907992949056d65eed68e75dc422bdac7521b8a23ffa20cf6a31fa98f4b", func := "versionmap/versionmaplaw2.FrameTornTail", spec := "frameTornTail", apart := false, narrowed := true }
def FrameTornTailUptoSaid : Prop := frameTornTailUptoRow.holds Try.pinned (OpenSpec.upto frameTornTailSpec)

end Rows
end Go.Proofs.Ytfgkleggbcpinaa
