/-
  No cell of these rows narrows 'for every input' (looked for: loops, veiled, ifaces, maps, wideKeys, modest, calm, conditions, laid).
  DERIVED. THE GIVEN ROWS OF THIS SEAT. 12 by the template 'for every input the law returns true; each argument reads behind the call as it read before'; 0 by the template 'total and deterministic' (their statements: YtapocbahkeoeoaaTotals.lean).
  GIVEN WITH THE SEED: the statements are not yours to turn. If you find one false, say at which input.
  Laid BY PROGRAM, IN A SANDBOX (cutbox-rows.mjs): the forced cells as the released guide's own fill.sh prints them over the translation 883c29b63c3015bb… (all of the seat's roots in one cut). By AI agents, Wed Nov 11 2026. No macro, syntax, notation, axiom, sorry.
-/
import Derived.Test.YtapocbahkeoeoaaChecked
import GoSem.Claim
import GoSem.ClaimJoined
import GoSem.ClaimMapViews
import Derived.JoinedTies
import Derived.KernelRfl
namespace Go.Proofs.Ytapocbahkeoeoaa
/- THE CELL 'sum', in the pinned program and in every row, IS THE sha256 OF THE DUMP (.gsa) THAT YtapocbahkeoeoaaProg.lean LOADS. Nothing in Lean hashes anything: it is a label: what it is worth is what the hold of that sum in a sandbox is worth. -/
noncomputable def Try.pinned : Pinned := { name := "ytapocbahkeoeoaa", sum := "883c29b63c3015bb3226a0a3fbc04f5a4604b174717ad27eb350f6ee079fed89", checked := Try.checked }
namespace Rows
def none {H : Type} : Left H := { results := [], args := [] }

/-- 'versionmaplaw5.ArenaSizeLimit': WHATEVER THE INPUT: true; the input reads as it did. -/
def arenaSizeLimitSpec : ChangeSpec := { name := "arenaSizeLimit", fn := fun _ => fun
  | [d] => { results := [.lit (.bool true)], args := [d] }
  | _ => none }
def arenaSizeLimitRow : OpenClaim := { program := "ytapocbahkeoeoaa", sum := "883c29b63c3015bb3226a0a3fbc04f5a4604b174717ad27eb350f6ee079fed89", func := "versionmap/versionmaplaw5.ArenaSizeLimit", spec := "arenaSizeLimit", apart := false }
def ArenaSizeLimitSaid : Prop := arenaSizeLimitRow.holds Try.pinned (OpenSpec.ofChange arenaSizeLimitSpec)

/-- ITS FALSE NEIGHBOUR: 'it returns false'. Refute it at one input. -/
def arenaSizeLimitWrong : ChangeSpec := { name := "arenaSizeLimit", fn := fun _ => fun
  | [d] => { results := [.lit (.bool false)], args := [d] }
  | _ => none }
def ArenaSizeLimitWrongFalsely : Prop := arenaSizeLimitRow.holds Try.pinned (OpenSpec.ofChange arenaSizeLimitWrong)

/-- 'versionmaplaw6.AuditAgrees': WHATEVER THE INPUT: true; the input reads as it did. -/
def auditAgreesSpec : ChangeSpec := { name := "auditAgrees", fn := fun _ => fun
  | [d1, d2] => { results := [.lit (.bool true)], args := [d1, d2] }
  | _ => none }
def auditAgreesRow : OpenClaim := { program := "ytapocbahkeoeoaa", sum := "883c29b63c3015bb3226a0a3fbc04f5a4604b174717ad27eb350f6ee079fed89", func := "versionmap/versionmaplaw6.AuditAgrees", spec := "auditAgrees", unfollowed := true, recurses := true, apart := false }
def AuditAgreesSaid : Prop := auditAgreesRow.holds Try.pinned (OpenSpec.ofChange auditAgreesSpec)

/-- ITS FALSE NEIGHBOUR: 'it returns false'. Refute it at one input. -/
def auditAgreesWrong : ChangeSpec := { name := "auditAgrees", fn := fun _ => fun
  | [d1, d2] => { results := [.lit (.bool false)], args := [d1, d2] }
  | _ => none }
def AuditAgreesWrongFalsely : Prop := auditAgreesRow.holds Try.pinned (OpenSpec.ofChange auditAgreesWrong)

/-- 'versionmaplaw6.AuditReachableIsClosed': WHATEVER THE INPUT: true; the input reads as it did. -/
def auditReachableIsClosedSpec : ChangeSpec := { name := "auditReachableIsClosed", fn := fun _ => fun
  | [d1, d2] => { results := [.lit (.bool true)], args := [d1, d2] }
  | _ => none }
def auditReachableIsClosedRow : OpenClaim := { program := "ytapocbahkeoeoaa", sum := "883c29b63c3015bb3226a0a3fbc04f5a4604b174717ad27eb350f6ee079fed89", func := "versionmap/versionmaplaw6.AuditReachableIsClosed", spec := "auditReachableIsClosed", unfollowed := true, recurses := true, apart := false }
def AuditReachableIsClosedSaid : Prop := auditReachableIsClosedRow.holds Try.pinned (OpenSpec.ofChange auditReachableIsClosedSpec)

/-- ITS FALSE NEIGHBOUR: 'it returns false'. Refute it at one input. -/
def auditReachableIsClosedWrong : ChangeSpec := { name := "auditReachableIsClosed", fn := fun _ => fun
  | [d1, d2] => { results := [.lit (.bool false)], args := [d1, d2] }
  | _ => none }
def AuditReachableIsClosedWrongFalsely : Prop := auditReachableIsClosedRow.holds Try.pinned (OpenSpec.ofChange auditReachableIsClosedWrong)

/-- 'versionmaplaw5.ArenaNew': WHATEVER THE INPUT: true; the input reads as it did. -/
def arenaNewSpec : ChangeSpec := { name := "arenaNew", fn := fun _ => fun
  | [d1, d2] => { results := [.lit (.bool true)], args := [d1, d2] }
  | _ => none }
def arenaNewRow : OpenClaim := { program := "ytapocbahkeoeoaa", sum := "883c29b63c3015bb3226a0a3fbc04f5a4604b174717ad27eb350f6ee079fed89", func := "versionmap/versionmaplaw5.ArenaNew", spec := "arenaNew", apart := false }
def ArenaNewSaid : Prop := arenaNewRow.holds Try.pinned (OpenSpec.ofChange arenaNewSpec)

/-- ITS FALSE NEIGHBOUR: 'it returns false'. Refute it at one input. -/
def arenaNewWrong : ChangeSpec := { name := "arenaNew", fn := fun _ => fun
  | [d1, d2] => { results := [.lit (.bool false)], args := [d1, d2] }
  | _ => none }
def ArenaNewWrongFalsely : Prop := arenaNewRow.holds Try.pinned (OpenSpec.ofChange arenaNewWrong)

/-- 'versionmaplaw5.ArenaAggregates': WHATEVER THE INPUT: true; the input reads as it did. -/
def arenaAggregatesSpec : ChangeSpec := { name := "arenaAggregates", fn := fun _ => fun
  | [d1, d2] => { results := [.lit (.bool true)], args := [d1, d2] }
  | _ => none }
def arenaAggregatesRow : OpenClaim := { program := "ytapocbahkeoeoaa", sum := "883c29b63c3015bb3226a0a3fbc04f5a4604b174717ad27eb350f6ee079fed89", func := "versionmap/versionmaplaw5.ArenaAggregates", spec := "arenaAggregates", apart := false }
def ArenaAggregatesSaid : Prop := arenaAggregatesRow.holds Try.pinned (OpenSpec.ofChange arenaAggregatesSpec)

/-- ITS FALSE NEIGHBOUR: 'it returns false'. Refute it at one input. -/
def arenaAggregatesWrong : ChangeSpec := { name := "arenaAggregates", fn := fun _ => fun
  | [d1, d2] => { results := [.lit (.bool false)], args := [d1, d2] }
  | _ => none }
def ArenaAggregatesWrongFalsely : Prop := arenaAggregatesRow.holds Try.pinned (OpenSpec.ofChange arenaAggregatesWrong)

/-- 'versionmaplaw5.ArenaDeepRelease': WHATEVER THE INPUT: true; the input reads as it did. -/
def arenaDeepReleaseSpec : ChangeSpec := { name := "arenaDeepRelease", fn := fun _ => fun
  | [d1, d2] => { results := [.lit (.bool true)], args := [d1, d2] }
  | _ => none }
def arenaDeepReleaseRow : OpenClaim := { program := "ytapocbahkeoeoaa", sum := "883c29b63c3015bb3226a0a3fbc04f5a4604b174717ad27eb350f6ee079fed89", func := "versionmap/versionmaplaw5.ArenaDeepRelease", spec := "arenaDeepRelease", apart := false }
def ArenaDeepReleaseSaid : Prop := arenaDeepReleaseRow.holds Try.pinned (OpenSpec.ofChange arenaDeepReleaseSpec)

/-- ITS FALSE NEIGHBOUR: 'it returns false'. Refute it at one input. -/
def arenaDeepReleaseWrong : ChangeSpec := { name := "arenaDeepRelease", fn := fun _ => fun
  | [d1, d2] => { results := [.lit (.bool false)], args := [d1, d2] }
  | _ => none }
def ArenaDeepReleaseWrongFalsely : Prop := arenaDeepReleaseRow.holds Try.pinned (OpenSpec.ofChange arenaDeepReleaseWrong)

/-- 'versionmaplaw5.ArenaIsConsistent': WHATEVER THE INPUT: true; the input reads as it did. -/
def arenaIsConsistentSpec : ChangeSpec := { name := "arenaIsConsistent", fn := fun _ => fun
  | [d1, d2] => { results := [.lit (.bool true)], args := [d1, d2] }
  | _ => none }
def arenaIsConsistentRow : OpenClaim := { program := "ytapocbahkeoeoaa", sum := "883c29b63c3015bb3226a0a3fbc04f5a4604b174717ad27eb350f6ee079fed89", func := "versionmap/versionmaplaw5.ArenaIsConsistent", spec := "arenaIsConsistent", apart := false }
def ArenaIsConsistentSaid : Prop := arenaIsConsistentRow.holds Try.pinned (OpenSpec.ofChange arenaIsConsistentSpec)

/-- ITS FALSE NEIGHBOUR: 'it returns false'. Refute it at one input. -/
def arenaIsConsistentWrong : ChangeSpec := { name := "arenaIsConsistent", fn := fun _ => fun
  | [d1, d2] => { results := [.lit (.bool false)], args := [d1, d2] }
  | _ => none }
def ArenaIsConsistentWrongFalsely : Prop := arenaIsConsistentRow.holds Try.pinned (OpenSpec.ofChange arenaIsConsistentWrong)

/-- 'versionmaplaw5.ArenaNothingLeaks': WHATEVER THE INPUT: true; the input reads as it did. -/
def arenaNothingLeaksSpec : ChangeSpec := { name := "arenaNothingLeaks", fn := fun _ => fun
  | [d1, d2] => { results := [.lit (.bool true)], args := [d1, d2] }
  | _ => none }
def arenaNothingLeaksRow : OpenClaim := { program := "ytapocbahkeoeoaa", sum := "883c29b63c3015bb3226a0a3fbc04f5a4604b174717ad27eb350f6ee079fed89", func := "versionmap/versionmaplaw5.ArenaNothingLeaks", spec := "arenaNothingLeaks", apart := false }
def ArenaNothingLeaksSaid : Prop := arenaNothingLeaksRow.holds Try.pinned (OpenSpec.ofChange arenaNothingLeaksSpec)

/-- ITS FALSE NEIGHBOUR: 'it returns false'. Refute it at one input. -/
def arenaNothingLeaksWrong : ChangeSpec := { name := "arenaNothingLeaks", fn := fun _ => fun
  | [d1, d2] => { results := [.lit (.bool false)], args := [d1, d2] }
  | _ => none }
def ArenaNothingLeaksWrongFalsely : Prop := arenaNothingLeaksRow.holds Try.pinned (OpenSpec.ofChange arenaNothingLeaksWrong)

/-- 'versionmaplaw5.ArenaAgrees': WHATEVER THE INPUT: true; the input reads as it did. -/
def arenaAgreesSpec : ChangeSpec := { name := "arenaAgrees", fn := fun _ => fun
  | [d1, d2] => { results := [.lit (.bool true)], args := [d1, d2] }
  | _ => none }
def arenaAgreesRow : OpenClaim := { program := "ytapocbahkeoeoaa", sum := "883c29b63c3015bb3226a0a3fbc04f5a4604b174717ad27eb350f6ee079fed89", func := "versionmap/versionmaplaw5.ArenaAgrees", spec := "arenaAgrees", recurses := true, apart := false }
def ArenaAgreesSaid : Prop := arenaAgreesRow.holds Try.pinned (OpenSpec.ofChange arenaAgreesSpec)

/-- ITS FALSE NEIGHBOUR: 'it returns false'. Refute it at one input. -/
def arenaAgreesWrong : ChangeSpec := { name := "arenaAgrees", fn := fun _ => fun
  | [d1, d2] => { results := [.lit (.bool false)], args := [d1, d2] }
  | _ => none }
def ArenaAgreesWrongFalsely : Prop := arenaAgreesRow.holds Try.pinned (OpenSpec.ofChange arenaAgreesWrong)

/-- 'versionmaplaw6.AuditFindsDamage': WHATEVER THE INPUT: true; the input reads as it did. -/
def auditFindsDamageSpec : ChangeSpec := { name := "auditFindsDamage", fn := fun _ => fun
  | [d1, d2, d3, d4, d5] => { results := [.lit (.bool true)], args := [d1, d2, d3, d4, d5] }
  | _ => none }
def auditFindsDamageRow : OpenClaim := { program := "ytapocbahkeoeoaa", sum := "883c29b63c3015bb3226a0a3fbc04f5a4604b174717ad27eb350f6ee079fed89", func := "versionmap/versionmaplaw6.AuditFindsDamage", spec := "auditFindsDamage", unfollowed := true, recurses := true, apart := false }
def AuditFindsDamageSaid : Prop := auditFindsDamageRow.holds Try.pinned (OpenSpec.ofChange auditFindsDamageSpec)

/-- ITS FALSE NEIGHBOUR: 'it returns false'. Refute it at one input. -/
def auditFindsDamageWrong : ChangeSpec := { name := "auditFindsDamage", fn := fun _ => fun
  | [d1, d2, d3, d4, d5] => { results := [.lit (.bool false)], args := [d1, d2, d3, d4, d5] }
  | _ => none }
def AuditFindsDamageWrongFalsely : Prop := auditFindsDamageRow.holds Try.pinned (OpenSpec.ofChange auditFindsDamageWrong)

/-- 'versionmaplaw6.AuditFindsLostReferences': WHATEVER THE INPUT: true; the input reads as it did. -/
def auditFindsLostReferencesSpec : ChangeSpec := { name := "auditFindsLostReferences", fn := fun _ => fun
  | [d1, d2, d3, d4] => { results := [.lit (.bool true)], args := [d1, d2, d3, d4] }
  | _ => none }
def auditFindsLostReferencesRow : OpenClaim := { program := "ytapocbahkeoeoaa", sum := "883c29b63c3015bb3226a0a3fbc04f5a4604b174717ad27eb350f6ee079fed89", func := "versionmap/versionmaplaw6.AuditFindsLostReferences", spec := "auditFindsLostReferences", unfollowed := true, recurses := true, apart := false }
def AuditFindsLostReferencesSaid : Prop := auditFindsLostReferencesRow.holds Try.pinned (OpenSpec.ofChange auditFindsLostReferencesSpec)

/-- ITS FALSE NEIGHBOUR: 'it returns false'. Refute it at one input. -/
def auditFindsLostReferencesWrong : ChangeSpec := { name := "auditFindsLostReferences", fn := fun _ => fun
  | [d1, d2, d3, d4] => { results := [.lit (.bool false)], args := [d1, d2, d3, d4] }
  | _ => none }
def AuditFindsLostReferencesWrongFalsely : Prop := auditFindsLostReferencesRow.holds Try.pinned (OpenSpec.ofChange auditFindsLostReferencesWrong)

/-- 'versionmaplaw6.AuditAcceptsArenas': WHATEVER THE INPUT: true; the input reads as it did. -/
def auditAcceptsArenasSpec : ChangeSpec := { name := "auditAcceptsArenas", fn := fun _ => fun
  | [d1, d2] => { results := [.lit (.bool true)], args := [d1, d2] }
  | _ => none }
def auditAcceptsArenasRow : OpenClaim := { program := "ytapocbahkeoeoaa", sum := "883c29b63c3015bb3226a0a3fbc04f5a4604b174717ad27eb350f6ee079fed89", func := "versionmap/versionmaplaw6.AuditAcceptsArenas", spec := "auditAcceptsArenas", unfollowed := true, recurses := true, apart := false }
def AuditAcceptsArenasSaid : Prop := auditAcceptsArenasRow.holds Try.pinned (OpenSpec.ofChange auditAcceptsArenasSpec)

/-- ITS FALSE NEIGHBOUR: 'it returns false'. Refute it at one input. -/
def auditAcceptsArenasWrong : ChangeSpec := { name := "auditAcceptsArenas", fn := fun _ => fun
  | [d1, d2] => { results := [.lit (.bool false)], args := [d1, d2] }
  | _ => none }
def AuditAcceptsArenasWrongFalsely : Prop := auditAcceptsArenasRow.holds Try.pinned (OpenSpec.ofChange auditAcceptsArenasWrong)

/- THE SECOND FORM. 'bulk': how many values and letters a reading holds, each counted each time it is reached (what is shared counts as often as it is met; a slice's spare places count too). A statement '..UptoSaid' is the law's where the arguments, and the package variables that the reading takes, are together of bulk at most 1048576: NARROWER than '..Said'. Prove '..Said' where nothing that the law and all that it calls make is longer than what came in: it says more and counts as full. Else prove '..UptoSaid'. A law counts once. -/
mutual
def uptoBulk {H : Type} : DataW H → Nat
  | .lit (.string bytes) => bytes.length + 1
  | .lit _ => 1
  | .nil => 1
  | .ptr d => uptoBulk d + 1
  | .slice elems spare => uptoBulkAll elems + uptoBulkAll spare + 1
  | .agg parts => uptoBulkAll parts + 1
  | .iface _ d => uptoBulk d + 1
  | .map entries => uptoBulkEntries entries + 1
  | .held _ => 1
def uptoBulkAll {H : Type} : List (DataW H) → Nat
  | [] => 0
  | d :: r => uptoBulk d + uptoBulkAll r
def uptoBulkEntries {H : Type} : List (Lit × DataW H) → Nat
  | [] => 0
  | x :: r => uptoBulkEntry x + uptoBulkEntries r
def uptoBulkEntry {H : Type} : Lit × DataW H → Nat
  | (.string bytes, d) => bytes.length + uptoBulk d + 1
  | (_, d) => uptoBulk d + 1
 end
def uptoSmall : (H : Type) → List (DataW H) → Bool := fun _ ds => decide (uptoBulkAll ds ≤ 1048576)
def OpenSpec.upto (s : _root_.Go.ChangeSpec) : _root_.Go.OpenSpec := { _root_.Go.OpenSpec.ofChange s with cond := some uptoSmall }

/-- 'versionmaplaw5.ArenaSizeLimit', WHERE WHAT IT READS IS OF BULK AT MOST 1048576: true; the input reads as it did. -/
def arenaSizeLimitUptoRow : OpenClaim := { program := "ytapocbahkeoeoaa", sum := "883c29b63c3015bb3226a0a3fbc04f5a4604b174717ad27eb350f6ee079fed89", func := "versionmap/versionmaplaw5.ArenaSizeLimit", spec := "arenaSizeLimit", apart := false, narrowed := true }
def ArenaSizeLimitUptoSaid : Prop := arenaSizeLimitUptoRow.holds Try.pinned (OpenSpec.upto arenaSizeLimitSpec)

/-- 'versionmaplaw6.AuditAgrees', WHERE WHAT IT READS IS OF BULK AT MOST 1048576: true; the input reads as it did. -/
def auditAgreesUptoRow : OpenClaim := { program := "ytapocbahkeoeoaa", sum := "883c29b63c3015bb3226a0a3fbc04f5a4604b174717ad27eb350f6ee079fed89", func := "versionmap/versionmaplaw6.AuditAgrees", spec := "auditAgrees", unfollowed := true, recurses := true, apart := false, narrowed := true }
def AuditAgreesUptoSaid : Prop := auditAgreesUptoRow.holds Try.pinned (OpenSpec.upto auditAgreesSpec)

/-- 'versionmaplaw6.AuditReachableIsClosed', WHERE WHAT IT READS IS OF BULK AT MOST 1048576: true; the input reads as it did. -/
def auditReachableIsClosedUptoRow : OpenClaim := { program := "ytapocbahkeoeoaa", sum := "883c29b63c3015bb3226a0a3fbc04f5a4604b174717ad27eb350f6ee079fed89", func := "versionmap/versionmaplaw6.AuditReachableIsClosed", spec := "auditReachableIsClosed", unfollowed := true, recurses := true, apart := false, narrowed := true }
def AuditReachableIsClosedUptoSaid : Prop := auditReachableIsClosedUptoRow.holds Try.pinned (OpenSpec.upto auditReachableIsClosedSpec)

/-- 'versionmaplaw5.ArenaNew', WHERE WHAT IT READS IS OF BULK AT MOST 1048576: true; the input reads as it did. -/
def arenaNewUptoRow : OpenClaim := { program := "ytapocbahkeoeoaa", sum := "883c29b63c3015bb3226a0a3fbc04f5a4604b174717ad27eb350f6ee079fed89", func := "versionmap/versionmaplaw5.ArenaNew", spec := "arenaNew", apart := false, narrowed := true }
def ArenaNewUptoSaid : Prop := arenaNewUptoRow.holds Try.pinned (OpenSpec.upto arenaNewSpec)

/-- 'versionmaplaw5.ArenaAggregates', WHERE WHAT IT READS IS OF BULK AT MOST 1048576: true; the input reads as it did. -/
def arenaAggregatesUptoRow : OpenClaim := { program := "ytapocbahkeoeoaa", sum := "883c29b63c3015bb3226a0a3fbc04f5a4604b174717ad27eb350f6ee079fed89", func := "versionmap/versionmaplaw5.ArenaAggregates", spec := "arenaAggregates", apart := false, narrowed := true }
def ArenaAggregatesUptoSaid : Prop := arenaAggregatesUptoRow.holds Try.pinned (OpenSpec.upto arenaAggregatesSpec)

/-- 'versionmaplaw5.ArenaDeepRelease', WHERE WHAT IT READS IS OF BULK AT MOST 1048576: true; the input reads as it did. -/
def arenaDeepReleaseUptoRow : OpenClaim := { program := "ytapocbahkeoeoaa", sum := "883c29b63c3015bb3226a0a3fbc04f5a4604b174717ad27eb350f6ee079fed89", func := "versionmap/versionmaplaw5.ArenaDeepRelease", spec := "arenaDeepRelease", apart := false, narrowed := true }
def ArenaDeepReleaseUptoSaid : Prop := arenaDeepReleaseUptoRow.holds Try.pinned (OpenSpec.upto arenaDeepReleaseSpec)

/-- 'versionmaplaw5.ArenaIsConsistent', WHERE WHAT IT READS IS OF BULK AT MOST 1048576: true; the input reads as it did. -/
def arenaIsConsistentUptoRow : OpenClaim := { program := "ytapocbahkeoeoaa", sum := "883c29b63c3015bb3226a0a3fbc04f5a4604b174717ad27eb350f6ee079fed89", func := "versionmap/versionmaplaw5.ArenaIsConsistent", spec := "arenaIsConsistent", apart := false, narrowed := true }
def ArenaIsConsistentUptoSaid : Prop := arenaIsConsistentUptoRow.holds Try.pinned (OpenSpec.upto arenaIsConsistentSpec)

/-- 'versionmaplaw5.ArenaNothingLeaks', WHERE WHAT IT READS IS OF BULK AT MOST 1048576: true; the input reads as it did. -/
def arenaNothingLeaksUptoRow : OpenClaim := { program := "ytapocbahkeoeoaa", sum := "883c29b63c3015bb3226a0a3fbc04f5a4604b174717ad27eb350f6ee079fed89", func := "versionmap/versionmaplaw5.ArenaNothingLeaks", spec := "arenaNothingLeaks", apart := false, narrowed := true }
def ArenaNothingLeaksUptoSaid : Prop := arenaNothingLeaksUptoRow.holds Try.pinned (OpenSpec.upto arenaNothingLeaksSpec)

/-- 'versionmaplaw5.ArenaAgrees', WHERE WHAT IT READS IS OF BULK AT MOST 1048576: true; the input reads as it did. -/
def arenaAgreesUptoRow : OpenClaim := { program := "ytapocbahkeoeoaa", sum := "883c29b63c3015bb3226a0a3fbc04f5a4604b174717ad27eb350f6ee079fed89", func := "versionmap/versionmaplaw5.ArenaAgrees", spec := "arenaAgrees", recurses := true, apart := false, narrowed := true }
def ArenaAgreesUptoSaid : Prop := arenaAgreesUptoRow.holds Try.pinned (OpenSpec.upto arenaAgreesSpec)

/-- 'versionmaplaw6.AuditFindsDamage', WHERE WHAT IT READS IS OF BULK AT MOST 1048576: true; the input reads as it did. -/
def auditFindsDamageUptoRow : OpenClaim := { program := "ytapocbahkeoeoaa", sum := "883c29b63c3015bb3226a0a3fbc04f5a4604b174717ad27eb350f6ee079fed89", func := "versionmap/versionmaplaw6.AuditFindsDamage", spec := "auditFindsDamage", unfollowed := true, recurses := true, apart := false, narrowed := true }
def AuditFindsDamageUptoSaid : Prop := auditFindsDamageUptoRow.holds Try.pinned (OpenSpec.upto auditFindsDamageSpec)

/-- 'versionmaplaw6.AuditFindsLostReferences', WHERE WHAT IT READS IS OF BULK AT MOST 1048576: true; the input reads as it did. -/
def auditFindsLostReferencesUptoRow : OpenClaim := { program := "ytapocbahkeoeoaa", sum := "883c29b63c3015bb3226a0a3fbc04f5a4604b174717ad27eb350f6ee079fed89", func := "versionmap/versionmaplaw6.AuditFindsLostReferences", spec := "auditFindsLostReferences", unfollowed := true, recurses := true, apart := false, narrowed := true }
def AuditFindsLostReferencesUptoSaid : Prop := auditFindsLostReferencesUptoRow.holds Try.pinned (OpenSpec.upto auditFindsLostReferencesSpec)

/-- 'versionmaplaw6.AuditAcceptsArenas', WHERE WHAT IT READS IS OF BULK AT MOST 1048576: true; the input reads as it did. -/
def auditAcceptsArenasUptoRow : OpenClaim := { program := "ytapocbahkeoeoaa", sum := "883c29b63c3015bb3226a0a3fbc04f5a4604b174717ad27eb350f6ee079fed89", func := "versionmap/versionmaplaw6.AuditAcceptsArenas", spec := "auditAcceptsArenas", unfollowed := true, recurses := true, apart := false, narrowed := true }
def AuditAcceptsArenasUptoSaid : Prop := auditAcceptsArenasUptoRow.holds Try.pinned (OpenSpec.upto auditAcceptsArenasSpec)

end Rows
end Go.Proofs.Ytapocbahkeoeoaa
