/-
  No cell of these rows narrows 'for every input' (looked for: loops, veiled, ifaces, maps, wideKeys, modest, calm, conditions, laid).
  DERIVED. THE GIVEN ROWS OF THIS SEAT. 17 by the template 'for every input the law returns true; each argument reads behind the call as it read before'; 0 by the template 'total and deterministic' (their statements: YtnlaonppgebpoaaTotals.lean).
  GIVEN WITH THE SEED: the statements are not yours to turn. If you find one false, say at which input.
  Laid BY PROGRAM, IN A SANDBOX (cutbox-rows.mjs): the forced cells as the released guide's own fill.sh prints them over the translation ab877441be2db0ca… (all of the seat's roots in one cut). By AI agents, Wed Nov 11 2026. No macro, syntax, notation, axiom, sorry.
-/
import Derived.Test.YtnlaonppgebpoaaChecked
import GoSem.Claim
import GoSem.ClaimJoined
import GoSem.ClaimMapViews
import Derived.JoinedTies
import Derived.KernelRfl
namespace Go.Proofs.Ytnlaonppgebpoaa
/- THE CELL 'sum', in the pinned program and in every row, IS THE sha256 OF THE DUMP (.gsa) THAT YtnlaonppgebpoaaProg.lean LOADS. Nothing in Lean hashes anything: it is a label: what it is worth is what the hold of that sum in a sandbox is worth. -/
noncomputable def Try.pinned : Pinned := { name := "ytnlaonppgebpoaa", sum := "ab877441be2db0ca9ab4269167269abc71e16ce6979b3045d88dc7d53e8429cb", checked := Try.checked }
namespace Rows
def none {H : Type} : Left H := { results := [], args := [] }

/-- 'spinnakerlaw14.EdgesBuild': WHATEVER THE INPUT: true; the input reads as it did. -/
def edgesBuildSpec : ChangeSpec := { name := "edgesBuild", fn := fun _ => fun
  | [d1, d2] => { results := [.lit (.bool true)], args := [d1, d2] }
  | _ => none }
def edgesBuildRow : OpenClaim := { program := "ytnlaonppgebpoaa", sum := "ab877441be2db0ca9ab4269167269abc71e16ce6979b3045d88dc7d53e8429cb", func := "spinnaker/spinnakerlaw14.EdgesBuild", spec := "edgesBuild", unfollowed := true, recurses := true, apart := false }
def EdgesBuildSaid : Prop := edgesBuildRow.holds Try.pinned (OpenSpec.ofChange edgesBuildSpec)

/-- ITS FALSE NEIGHBOUR: 'it returns false'. Refute it at one input. -/
def edgesBuildWrong : ChangeSpec := { name := "edgesBuild", fn := fun _ => fun
  | [d1, d2] => { results := [.lit (.bool false)], args := [d1, d2] }
  | _ => none }
def EdgesBuildWrongFalsely : Prop := edgesBuildRow.holds Try.pinned (OpenSpec.ofChange edgesBuildWrong)

/-- 'spinnakerlaw14.EdgesTell': WHATEVER THE INPUT: true; the input reads as it did. -/
def edgesTellSpec : ChangeSpec := { name := "edgesTell", fn := fun _ => fun
  | [d1, d2, d3] => { results := [.lit (.bool true)], args := [d1, d2, d3] }
  | _ => none }
def edgesTellRow : OpenClaim := { program := "ytnlaonppgebpoaa", sum := "ab877441be2db0ca9ab4269167269abc71e16ce6979b3045d88dc7d53e8429cb", func := "spinnaker/spinnakerlaw14.EdgesTell", spec := "edgesTell", unfollowed := true, recurses := true, apart := false }
def EdgesTellSaid : Prop := edgesTellRow.holds Try.pinned (OpenSpec.ofChange edgesTellSpec)

/-- ITS FALSE NEIGHBOUR: 'it returns false'. Refute it at one input. -/
def edgesTellWrong : ChangeSpec := { name := "edgesTell", fn := fun _ => fun
  | [d1, d2, d3] => { results := [.lit (.bool false)], args := [d1, d2, d3] }
  | _ => none }
def EdgesTellWrongFalsely : Prop := edgesTellRow.holds Try.pinned (OpenSpec.ofChange edgesTellWrong)

/-- 'spinnakerlaw14.EdgesBack': WHATEVER THE INPUT: true; the input reads as it did. -/
def edgesBackSpec : ChangeSpec := { name := "edgesBack", fn := fun _ => fun
  | [d] => { results := [.lit (.bool true)], args := [d] }
  | _ => none }
def edgesBackRow : OpenClaim := { program := "ytnlaonppgebpoaa", sum := "ab877441be2db0ca9ab4269167269abc71e16ce6979b3045d88dc7d53e8429cb", func := "spinnaker/spinnakerlaw14.EdgesBack", spec := "edgesBack", unfollowed := true, recurses := true, apart := false }
def EdgesBackSaid : Prop := edgesBackRow.holds Try.pinned (OpenSpec.ofChange edgesBackSpec)

/-- ITS FALSE NEIGHBOUR: 'it returns false'. Refute it at one input. -/
def edgesBackWrong : ChangeSpec := { name := "edgesBack", fn := fun _ => fun
  | [d] => { results := [.lit (.bool false)], args := [d] }
  | _ => none }
def EdgesBackWrongFalsely : Prop := edgesBackRow.holds Try.pinned (OpenSpec.ofChange edgesBackWrong)

/-- 'spinnakerlaw14.EdgesReach': WHATEVER THE INPUT: true; the input reads as it did. -/
def edgesReachSpec : ChangeSpec := { name := "edgesReach", fn := fun _ => fun
  | [d1, d2] => { results := [.lit (.bool true)], args := [d1, d2] }
  | _ => none }
def edgesReachRow : OpenClaim := { program := "ytnlaonppgebpoaa", sum := "ab877441be2db0ca9ab4269167269abc71e16ce6979b3045d88dc7d53e8429cb", func := "spinnaker/spinnakerlaw14.EdgesReach", spec := "edgesReach", unfollowed := true, recurses := true, apart := false }
def EdgesReachSaid : Prop := edgesReachRow.holds Try.pinned (OpenSpec.ofChange edgesReachSpec)

/-- ITS FALSE NEIGHBOUR: 'it returns false'. Refute it at one input. -/
def edgesReachWrong : ChangeSpec := { name := "edgesReach", fn := fun _ => fun
  | [d1, d2] => { results := [.lit (.bool false)], args := [d1, d2] }
  | _ => none }
def EdgesReachWrongFalsely : Prop := edgesReachRow.holds Try.pinned (OpenSpec.ofChange edgesReachWrong)

/-- 'spinnakerlaw14.EdgesParts': WHATEVER THE INPUT: true; the input reads as it did. -/
def edgesPartsSpec : ChangeSpec := { name := "edgesParts", fn := fun _ => fun
  | [d] => { results := [.lit (.bool true)], args := [d] }
  | _ => none }
def edgesPartsRow : OpenClaim := { program := "ytnlaonppgebpoaa", sum := "ab877441be2db0ca9ab4269167269abc71e16ce6979b3045d88dc7d53e8429cb", func := "spinnaker/spinnakerlaw14.EdgesParts", spec := "edgesParts", unfollowed := true, recurses := true, apart := false }
def EdgesPartsSaid : Prop := edgesPartsRow.holds Try.pinned (OpenSpec.ofChange edgesPartsSpec)

/-- ITS FALSE NEIGHBOUR: 'it returns false'. Refute it at one input. -/
def edgesPartsWrong : ChangeSpec := { name := "edgesParts", fn := fun _ => fun
  | [d] => { results := [.lit (.bool false)], args := [d] }
  | _ => none }
def EdgesPartsWrongFalsely : Prop := edgesPartsRow.holds Try.pinned (OpenSpec.ofChange edgesPartsWrong)

/-- 'spinnakerlaw17.SccParts': WHATEVER THE INPUT: true; the input reads as it did. -/
def sccPartsSpec : ChangeSpec := { name := "sccParts", fn := fun _ => fun
  | [d] => { results := [.lit (.bool true)], args := [d] }
  | _ => none }
def sccPartsRow : OpenClaim := { program := "ytnlaonppgebpoaa", sum := "ab877441be2db0ca9ab4269167269abc71e16ce6979b3045d88dc7d53e8429cb", func := "spinnaker/spinnakerlaw17.SccParts", spec := "sccParts", unfollowed := true, recurses := true, apart := false }
def SccPartsSaid : Prop := sccPartsRow.holds Try.pinned (OpenSpec.ofChange sccPartsSpec)

/-- ITS FALSE NEIGHBOUR: 'it returns false'. Refute it at one input. -/
def sccPartsWrong : ChangeSpec := { name := "sccParts", fn := fun _ => fun
  | [d] => { results := [.lit (.bool false)], args := [d] }
  | _ => none }
def SccPartsWrongFalsely : Prop := sccPartsRow.holds Try.pinned (OpenSpec.ofChange sccPartsWrong)

/-- 'spinnakerlaw17.SccWithin': WHATEVER THE INPUT: true; the input reads as it did. -/
def sccWithinSpec : ChangeSpec := { name := "sccWithin", fn := fun _ => fun
  | [d1, d2, d3] => { results := [.lit (.bool true)], args := [d1, d2, d3] }
  | _ => none }
def sccWithinRow : OpenClaim := { program := "ytnlaonppgebpoaa", sum := "ab877441be2db0ca9ab4269167269abc71e16ce6979b3045d88dc7d53e8429cb", func := "spinnaker/spinnakerlaw17.SccWithin", spec := "sccWithin", unfollowed := true, recurses := true, apart := false }
def SccWithinSaid : Prop := sccWithinRow.holds Try.pinned (OpenSpec.ofChange sccWithinSpec)

/-- ITS FALSE NEIGHBOUR: 'it returns false'. Refute it at one input. -/
def sccWithinWrong : ChangeSpec := { name := "sccWithin", fn := fun _ => fun
  | [d1, d2, d3] => { results := [.lit (.bool false)], args := [d1, d2, d3] }
  | _ => none }
def SccWithinWrongFalsely : Prop := sccWithinRow.holds Try.pinned (OpenSpec.ofChange sccWithinWrong)

/-- 'spinnakerlaw17.SccOrder': WHATEVER THE INPUT: true; the input reads as it did. -/
def sccOrderSpec : ChangeSpec := { name := "sccOrder", fn := fun _ => fun
  | [d] => { results := [.lit (.bool true)], args := [d] }
  | _ => none }
def sccOrderRow : OpenClaim := { program := "ytnlaonppgebpoaa", sum := "ab877441be2db0ca9ab4269167269abc71e16ce6979b3045d88dc7d53e8429cb", func := "spinnaker/spinnakerlaw17.SccOrder", spec := "sccOrder", unfollowed := true, recurses := true, apart := false }
def SccOrderSaid : Prop := sccOrderRow.holds Try.pinned (OpenSpec.ofChange sccOrderSpec)

/-- ITS FALSE NEIGHBOUR: 'it returns false'. Refute it at one input. -/
def sccOrderWrong : ChangeSpec := { name := "sccOrder", fn := fun _ => fun
  | [d] => { results := [.lit (.bool false)], args := [d] }
  | _ => none }
def SccOrderWrongFalsely : Prop := sccOrderRow.holds Try.pinned (OpenSpec.ofChange sccOrderWrong)

/-- 'spinnakerlaw17.SccRing': WHATEVER THE INPUT: true; the input reads as it did. -/
def sccRingSpec : ChangeSpec := { name := "sccRing", fn := fun _ => fun
  | [d1, d2] => { results := [.lit (.bool true)], args := [d1, d2] }
  | _ => none }
def sccRingRow : OpenClaim := { program := "ytnlaonppgebpoaa", sum := "ab877441be2db0ca9ab4269167269abc71e16ce6979b3045d88dc7d53e8429cb", func := "spinnaker/spinnakerlaw17.SccRing", spec := "sccRing", unfollowed := true, recurses := true, apart := false }
def SccRingSaid : Prop := sccRingRow.holds Try.pinned (OpenSpec.ofChange sccRingSpec)

/-- ITS FALSE NEIGHBOUR: 'it returns false'. Refute it at one input. -/
def sccRingWrong : ChangeSpec := { name := "sccRing", fn := fun _ => fun
  | [d1, d2] => { results := [.lit (.bool false)], args := [d1, d2] }
  | _ => none }
def SccRingWrongFalsely : Prop := sccRingRow.holds Try.pinned (OpenSpec.ofChange sccRingWrong)

/-- 'spinnakerlaw17.SccBack': WHATEVER THE INPUT: true; the input reads as it did. -/
def sccBackSpec : ChangeSpec := { name := "sccBack", fn := fun _ => fun
  | [d] => { results := [.lit (.bool true)], args := [d] }
  | _ => none }
def sccBackRow : OpenClaim := { program := "ytnlaonppgebpoaa", sum := "ab877441be2db0ca9ab4269167269abc71e16ce6979b3045d88dc7d53e8429cb", func := "spinnaker/spinnakerlaw17.SccBack", spec := "sccBack", unfollowed := true, recurses := true, apart := false }
def SccBackSaid : Prop := sccBackRow.holds Try.pinned (OpenSpec.ofChange sccBackSpec)

/-- ITS FALSE NEIGHBOUR: 'it returns false'. Refute it at one input. -/
def sccBackWrong : ChangeSpec := { name := "sccBack", fn := fun _ => fun
  | [d] => { results := [.lit (.bool false)], args := [d] }
  | _ => none }
def SccBackWrongFalsely : Prop := sccBackRow.holds Try.pinned (OpenSpec.ofChange sccBackWrong)

/-- 'spinnakerlaw18.FairFinds': WHATEVER THE INPUT: true; the input reads as it did. -/
def fairFindsSpec : ChangeSpec := { name := "fairFinds", fn := fun _ => fun
  | [d1, d2] => { results := [.lit (.bool true)], args := [d1, d2] }
  | _ => none }
def fairFindsRow : OpenClaim := { program := "ytnlaonppgebpoaa", sum := "ab877441be2db0ca9ab4269167269abc71e16ce6979b3045d88dc7d53e8429cb", func := "spinnaker/spinnakerlaw18.FairFinds", spec := "fairFinds", unfollowed := true, recurses := true, apart := false }
def FairFindsSaid : Prop := fairFindsRow.holds Try.pinned (OpenSpec.ofChange fairFindsSpec)

/-- ITS FALSE NEIGHBOUR: 'it returns false'. Refute it at one input. -/
def fairFindsWrong : ChangeSpec := { name := "fairFinds", fn := fun _ => fun
  | [d1, d2] => { results := [.lit (.bool false)], args := [d1, d2] }
  | _ => none }
def FairFindsWrongFalsely : Prop := fairFindsRow.holds Try.pinned (OpenSpec.ofChange fairFindsWrong)

/-- 'spinnakerlaw18.FairGood': WHATEVER THE INPUT: true; the input reads as it did. -/
def fairGoodSpec : ChangeSpec := { name := "fairGood", fn := fun _ => fun
  | [d1, d2, d3] => { results := [.lit (.bool true)], args := [d1, d2, d3] }
  | _ => none }
def fairGoodRow : OpenClaim := { program := "ytnlaonppgebpoaa", sum := "ab877441be2db0ca9ab4269167269abc71e16ce6979b3045d88dc7d53e8429cb", func := "spinnaker/spinnakerlaw18.FairGood", spec := "fairGood", unfollowed := true, recurses := true, apart := false }
def FairGoodSaid : Prop := fairGoodRow.holds Try.pinned (OpenSpec.ofChange fairGoodSpec)

/-- ITS FALSE NEIGHBOUR: 'it returns false'. Refute it at one input. -/
def fairGoodWrong : ChangeSpec := { name := "fairGood", fn := fun _ => fun
  | [d1, d2, d3] => { results := [.lit (.bool false)], args := [d1, d2, d3] }
  | _ => none }
def FairGoodWrongFalsely : Prop := fairGoodRow.holds Try.pinned (OpenSpec.ofChange fairGoodWrong)

/-- 'spinnakerlaw18.FairFound': WHATEVER THE INPUT: true; the input reads as it did. -/
def fairFoundSpec : ChangeSpec := { name := "fairFound", fn := fun _ => fun
  | [d] => { results := [.lit (.bool true)], args := [d] }
  | _ => none }
def fairFoundRow : OpenClaim := { program := "ytnlaonppgebpoaa", sum := "ab877441be2db0ca9ab4269167269abc71e16ce6979b3045d88dc7d53e8429cb", func := "spinnaker/spinnakerlaw18.FairFound", spec := "fairFound", unfollowed := true, recurses := true, apart := false }
def FairFoundSaid : Prop := fairFoundRow.holds Try.pinned (OpenSpec.ofChange fairFoundSpec)

/-- ITS FALSE NEIGHBOUR: 'it returns false'. Refute it at one input. -/
def fairFoundWrong : ChangeSpec := { name := "fairFound", fn := fun _ => fun
  | [d] => { results := [.lit (.bool false)], args := [d] }
  | _ => none }
def FairFoundWrongFalsely : Prop := fairFoundRow.holds Try.pinned (OpenSpec.ofChange fairFoundWrong)

/-- 'spinnakerlaw18.FairNone': WHATEVER THE INPUT: true; the input reads as it did. -/
def fairNoneSpec : ChangeSpec := { name := "fairNone", fn := fun _ => fun
  | [d] => { results := [.lit (.bool true)], args := [d] }
  | _ => none }
def fairNoneRow : OpenClaim := { program := "ytnlaonppgebpoaa", sum := "ab877441be2db0ca9ab4269167269abc71e16ce6979b3045d88dc7d53e8429cb", func := "spinnaker/spinnakerlaw18.FairNone", spec := "fairNone", unfollowed := true, recurses := true, apart := false }
def FairNoneSaid : Prop := fairNoneRow.holds Try.pinned (OpenSpec.ofChange fairNoneSpec)

/-- ITS FALSE NEIGHBOUR: 'it returns false'. Refute it at one input. -/
def fairNoneWrong : ChangeSpec := { name := "fairNone", fn := fun _ => fun
  | [d] => { results := [.lit (.bool false)], args := [d] }
  | _ => none }
def FairNoneWrongFalsely : Prop := fairNoneRow.holds Try.pinned (OpenSpec.ofChange fairNoneWrong)

/-- 'spinnakerlaw19.LassoCycles': WHATEVER THE INPUT: true; the input reads as it did. -/
def lassoCyclesSpec : ChangeSpec := { name := "lassoCycles", fn := fun _ => fun
  | [d1, d2, d3] => { results := [.lit (.bool true)], args := [d1, d2, d3] }
  | _ => none }
def lassoCyclesRow : OpenClaim := { program := "ytnlaonppgebpoaa", sum := "ab877441be2db0ca9ab4269167269abc71e16ce6979b3045d88dc7d53e8429cb", func := "spinnaker/spinnakerlaw19.LassoCycles", spec := "lassoCycles", unfollowed := true, recurses := true, apart := false }
def LassoCyclesSaid : Prop := lassoCyclesRow.holds Try.pinned (OpenSpec.ofChange lassoCyclesSpec)

/-- ITS FALSE NEIGHBOUR: 'it returns false'. Refute it at one input. -/
def lassoCyclesWrong : ChangeSpec := { name := "lassoCycles", fn := fun _ => fun
  | [d1, d2, d3] => { results := [.lit (.bool false)], args := [d1, d2, d3] }
  | _ => none }
def LassoCyclesWrongFalsely : Prop := lassoCyclesRow.holds Try.pinned (OpenSpec.ofChange lassoCyclesWrong)

/-- 'spinnakerlaw19.LassoFair': WHATEVER THE INPUT: true; the input reads as it did. -/
def lassoFairSpec : ChangeSpec := { name := "lassoFair", fn := fun _ => fun
  | [d1, d2] => { results := [.lit (.bool true)], args := [d1, d2] }
  | _ => none }
def lassoFairRow : OpenClaim := { program := "ytnlaonppgebpoaa", sum := "ab877441be2db0ca9ab4269167269abc71e16ce6979b3045d88dc7d53e8429cb", func := "spinnaker/spinnakerlaw19.LassoFair", spec := "lassoFair", unfollowed := true, recurses := true, apart := false }
def LassoFairSaid : Prop := lassoFairRow.holds Try.pinned (OpenSpec.ofChange lassoFairSpec)

/-- ITS FALSE NEIGHBOUR: 'it returns false'. Refute it at one input. -/
def lassoFairWrong : ChangeSpec := { name := "lassoFair", fn := fun _ => fun
  | [d1, d2] => { results := [.lit (.bool false)], args := [d1, d2] }
  | _ => none }
def LassoFairWrongFalsely : Prop := lassoFairRow.holds Try.pinned (OpenSpec.ofChange lassoFairWrong)

/-- 'spinnakerlaw19.LassoLong': WHATEVER THE INPUT: true; the input reads as it did. -/
def lassoLongSpec : ChangeSpec := { name := "lassoLong", fn := fun _ => fun
  | [d1, d2] => { results := [.lit (.bool true)], args := [d1, d2] }
  | _ => none }
def lassoLongRow : OpenClaim := { program := "ytnlaonppgebpoaa", sum := "ab877441be2db0ca9ab4269167269abc71e16ce6979b3045d88dc7d53e8429cb", func := "spinnaker/spinnakerlaw19.LassoLong", spec := "lassoLong", unfollowed := true, recurses := true, apart := false }
def LassoLongSaid : Prop := lassoLongRow.holds Try.pinned (OpenSpec.ofChange lassoLongSpec)

/-- ITS FALSE NEIGHBOUR: 'it returns false'. Refute it at one input. -/
def lassoLongWrong : ChangeSpec := { name := "lassoLong", fn := fun _ => fun
  | [d1, d2] => { results := [.lit (.bool false)], args := [d1, d2] }
  | _ => none }
def LassoLongWrongFalsely : Prop := lassoLongRow.holds Try.pinned (OpenSpec.ofChange lassoLongWrong)

/- THE SECOND FORM. 'bulk': how many values and letters a reading holds, each counted each time it is reached (what is shared counts as often as it is met; a slice's spare places count too). A statement '..UptoSaid' is the law's where the arguments, and the package variables that the reading takes, are together of bulk at most 1048576: NARROWER than '..Said'. Prove '..Said' where nothing that the law and all that it calls make is longer than what came in: it says more and counts as full. Else prove '..UptoSaid'. A law counts once. -/
mutual
def uptoBulk {H : Type} : DataW H → Nat
  | .lit (.string bytes) => bytes.length + 1
  | .lit _ => 1
  | .nil => 1
  | .ptr d => uptoBulk d + 1
  | .slice elems spare => uptoBulkAll elems + uptoBulkAll spare + 1
  | .agg parts => uptoBulkAll parts + 1
  | .iface _ d => uptoBulk d + 1
  | .map entries => uptoBulkEntries entries + 1
  | .held _ => 1
def uptoBulkAll {H : Type} : List (DataW H) → Nat
  | [] => 0
  | d :: r => uptoBulk d + uptoBulkAll r
def uptoBulkEntries {H : Type} : List (Lit × DataW H) → Nat
  | [] => 0
  | x :: r => uptoBulkEntry x + uptoBulkEntries r
def uptoBulkEntry {H : Type} : Lit × DataW H → Nat
  | (.string bytes, d) => bytes.length + uptoBulk d + 1
  | (_, d) => uptoBulk d + 1
 end
def uptoSmall : (H : Type) → List (DataW H) → Bool := fun _ ds => decide (uptoBulkAll ds ≤ 1048576)
def OpenSpec.upto (s : _root_.Go.ChangeSpec) : _root_.Go.OpenSpec := { _root_.Go.OpenSpec.ofChange s with cond := some uptoSmall }

/-- 'spinnakerlaw14.EdgesBuild', WHERE WHAT IT READS IS OF BULK AT MOST 1048576: true; the input reads as it did. -/
def edgesBuildUptoRow : OpenClaim := { program := "ytnlaonppgebpoaa", sum := "ab877441be2db0ca9ab4269167269abc71e16ce6979b3045d88dc7d53e8429cb", func := "spinnaker/spinnakerlaw14.EdgesBuild", spec := "edgesBuild", unfollowed := true, recurses := true, apart := false, narrowed := true }
def EdgesBuildUptoSaid : Prop := edgesBuildUptoRow.holds Try.pinned (OpenSpec.upto edgesBuildSpec)

/-- 'spinnakerlaw14.EdgesTell', WHERE WHAT IT READS IS OF BULK AT MOST 1048576: true; the input reads as it did. -/
def edgesTellUptoRow : OpenClaim := { program := "ytnlaonppgebpoaa", sum := "ab877441be2db0ca9ab4269167269abc71e16ce6979b3045d88dc7d53e8429cb", func := "spinnaker/spinnakerlaw14.EdgesTell", spec := "edgesTell", unfollowed := true, recurses := true, apart := false, narrowed := true }
def EdgesTellUptoSaid : Prop := edgesTellUptoRow.holds Try.pinned (OpenSpec.upto edgesTellSpec)

/-- 'spinnakerlaw14.EdgesBack', WHERE WHAT IT READS IS OF BULK AT MOST 1048576: true; the input reads as it did. -/
def edgesBackUptoRow : OpenClaim := { program := "ytnlaonppgebpoaa", sum := "ab877441be2db0ca9ab4269167269abc71e16ce6979b3045d88dc7d53e8429cb", func := "spinnaker/spinnakerlaw14.EdgesBack", spec := "edgesBack", unfollowed := true, recurses := true, apart := false, narrowed := true }
def EdgesBackUptoSaid : Prop := edgesBackUptoRow.holds Try.pinned (OpenSpec.upto edgesBackSpec)

/-- 'spinnakerlaw14.EdgesReach', WHERE WHAT IT READS IS OF BULK AT MOST 1048576: true; the input reads as it did. -/
def edgesReachUptoRow : OpenClaim := { program := "ytnlaonppgebpoaa", sum := "ab877441be2db0ca9ab4269167269abc71e16ce6979b3045d88dc7d53e8429cb", func := "spinnaker/spinnakerlaw14.EdgesReach", spec := "edgesReach", unfollowed := true, recurses := true, apart := false, narrowed := true }
def EdgesReachUptoSaid : Prop := edgesReachUptoRow.holds Try.pinned (OpenSpec.upto edgesReachSpec)

/-- 'spinnakerlaw14.EdgesParts', WHERE WHAT IT READS IS OF BULK AT MOST 1048576: true; the input reads as it did. -/
def edgesPartsUptoRow : OpenClaim := { program := "ytnlaonppgebpoaa", sum := "ab877441be2db0ca9ab4269167269abc71e16ce6979b3045d88dc7d53e8429cb", func := "spinnaker/spinnakerlaw14.EdgesParts", spec := "edgesParts", unfollowed := true, recurses := true, apart := false, narrowed := true }
def EdgesPartsUptoSaid : Prop := edgesPartsUptoRow.holds Try.pinned (OpenSpec.upto edgesPartsSpec)

/-- 'spinnakerlaw17.SccParts', WHERE WHAT IT READS IS OF BULK AT MOST 1048576: true; the input reads as it did. -/
def sccPartsUptoRow : OpenClaim := { program := "ytnlaonppgebpoaa", sum := "ab877441be2db0ca9ab4269167269abc71e16ce6979b3045d88dc7d53e8429cb", func := "spinnaker/spinnakerlaw17.SccParts", spec := "sccParts", unfollowed := true, recurses := true, apart := false, narrowed := true }
def SccPartsUptoSaid : Prop := sccPartsUptoRow.holds Try.pinned (OpenSpec.upto sccPartsSpec)

/-- 'spinnakerlaw17.SccWithin', WHERE WHAT IT READS IS OF BULK AT MOST 1048576: true; the input reads as it did. -/
def sccWithinUptoRow : OpenClaim := { program := "ytnlaonppgebpoaa", sum := "ab877441be2db0ca9ab4269167269abc71e16ce6979b3045d88dc7d53e8429cb", func := "spinnaker/spinnakerlaw17.SccWithin", spec := "sccWithin", unfollowed := true, recurses := true, apart := false, narrowed := true }
def SccWithinUptoSaid : Prop := sccWithinUptoRow.holds Try.pinned (OpenSpec.upto sccWithinSpec)

/-- 'spinnakerlaw17.SccOrder', WHERE WHAT IT READS IS OF BULK AT MOST 1048576: true; the input reads as it did. -/
def sccOrderUptoRow : OpenClaim := { program := "ytnlaonppgebpoaa", sum := "ab877441be2db0ca9ab4269167269abc71e16ce6979b3045d88dc7d53e8429cb", func := "spinnaker/spinnakerlaw17.SccOrder", spec := "sccOrder", unfollowed := true, recurses := true, apart := false, narrowed := true }
def SccOrderUptoSaid : Prop := sccOrderUptoRow.holds Try.pinned (OpenSpec.upto sccOrderSpec)

/-- 'spinnakerlaw17.SccRing', WHERE WHAT IT READS IS OF BULK AT MOST 1048576: true; the input reads as it did. -/
def sccRingUptoRow : OpenClaim := { program := "ytnlaonppgebpoaa", sum := "ab877441be2db0ca9ab4269167269abc71e16ce6979b3045d88dc7d53e8429cb", func := "spinnaker/spinnakerlaw17.SccRing", spec := "sccRing", unfollowed := true, recurses := true, apart := false, narrowed := true }
def SccRingUptoSaid : Prop := sccRingUptoRow.holds Try.pinned (OpenSpec.upto sccRingSpec)

/-- 'spinnakerlaw17.SccBack', WHERE WHAT IT READS IS OF BULK AT MOST 1048576: true; the input reads as it did. -/
def sccBackUptoRow : OpenClaim := { program := "ytnlaonppgebpoaa", sum := "ab877441be2db0ca9ab4269167269abc71e16ce6979b3045d88dc7d53e8429cb", func := "spinnaker/spinnakerlaw17.SccBack", spec := "sccBack", unfollowed := true, recurses := true, apart := false, narrowed := true }
def SccBackUptoSaid : Prop := sccBackUptoRow.holds Try.pinned (OpenSpec.upto sccBackSpec)

/-- 'spinnakerlaw18.FairFinds', WHERE WHAT IT READS IS OF BULK AT MOST 1048576: true; the input reads as it did. -/
def fairFindsUptoRow : OpenClaim := { program := "ytnlaonppgebpoaa", sum := "ab877441be2db0ca9ab4269167269abc71e16ce6979b3045d88dc7d53e8429cb", func := "spinnaker/spinnakerlaw18.FairFinds", spec := "fairFinds", unfollowed := true, recurses := true, apart := false, narrowed := true }
def FairFindsUptoSaid : Prop := fairFindsUptoRow.holds Try.pinned (OpenSpec.upto fairFindsSpec)

/-- 'spinnakerlaw18.FairGood', WHERE WHAT IT READS IS OF BULK AT MOST 1048576: true; the input reads as it did. -/
def fairGoodUptoRow : OpenClaim := { program := "ytnlaonppgebpoaa", sum := "ab877441be2db0ca9ab4269167269abc71e16ce6979b3045d88dc7d53e8429cb", func := "spinnaker/spinnakerlaw18.FairGood", spec := "fairGood", unfollowed := true, recurses := true, apart := false, narrowed := true }
def FairGoodUptoSaid : Prop := fairGoodUptoRow.holds Try.pinned (OpenSpec.upto fairGoodSpec)

/-- 'spinnakerlaw18.FairFound', WHERE WHAT IT READS IS OF BULK AT MOST 1048576: true; the input reads as it did. -/
def fairFoundUptoRow : OpenClaim := { program := "ytnlaonppgebpoaa", sum := "ab877441be2db0ca9ab4269167269abc71e16ce6979b3045d88dc7d53e8429cb", func := "spinnaker/spinnakerlaw18.FairFound", spec := "fairFound", unfollowed := true, recurses := true, apart := false, narrowed := true }
def FairFoundUptoSaid : Prop := fairFoundUptoRow.holds Try.pinned (OpenSpec.upto fairFoundSpec)

/-- 'spinnakerlaw18.FairNone', WHERE WHAT IT READS IS OF BULK AT MOST 1048576: true; the input reads as it did. -/
def fairNoneUptoRow : OpenClaim := { program := "ytnlaonppgebpoaa", sum := "ab877441be2db0ca9ab4269167269abc71e16ce6979b3045d88dc7d53e8429cb", func := "spinnaker/spinnakerlaw18.FairNone", spec := "fairNone", unfollowed := true, recurses := true, apart := false, narrowed := true }
def FairNoneUptoSaid : Prop := fairNoneUptoRow.holds Try.pinned (OpenSpec.upto fairNoneSpec)

/-- 'spinnakerlaw19.LassoCycles', WHERE WHAT IT READS IS OF BULK AT MOST 1048576: true; the input reads as it did. -/
def lassoCyclesUptoRow : OpenClaim := { program := "ytnlaonppgebpoaa", sum := "ab877441be2db0ca9ab4269167269abc71e16ce6979b3045d88dc7d53e8429cb", func := "spinnaker/spinnakerlaw19.LassoCycles", spec := "lassoCycles", unfollowed := true, recurses := true, apart := false, narrowed := true }
def LassoCyclesUptoSaid : Prop := lassoCyclesUptoRow.holds Try.pinned (OpenSpec.upto lassoCyclesSpec)

/-- 'spinnakerlaw19.LassoFair', WHERE WHAT IT READS IS OF BULK AT MOST 1048576: true; the input reads as it did. -/
def lassoFairUptoRow : OpenClaim := { program := "ytnlaonppgebpoaa", sum := "ab877441be2db0ca9ab4269167269abc71e16ce6979b3045d88dc7d53e8429cb", func := "spinnaker/spinnakerlaw19.LassoFair", spec := "lassoFair", unfollowed := true, recurses := true, apart := false, narrowed := true }
def LassoFairUptoSaid : Prop := lassoFairUptoRow.holds Try.pinned (OpenSpec.upto lassoFairSpec)

/-- 'spinnakerlaw19.LassoLong', WHERE WHAT IT READS IS OF BULK AT MOST 1048576: true; the input reads as it did. -/
def lassoLongUptoRow : OpenClaim := { program := "ytnlaonppgebpoaa", sum := "ab877441be2db0ca9ab4269167269abc71e16ce6979b3045d88dc7d53e8429cb", func := "spinnaker/spinnakerlaw19.LassoLong", spec := "lassoLong", unfollowed := true, recurses := true, apart := false, narrowed := true }
def LassoLongUptoSaid : Prop := lassoLongUptoRow.holds Try.pinned (OpenSpec.upto lassoLongSpec)

end Rows
end Go.Proofs.Ytnlaonppgebpoaa
