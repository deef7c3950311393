/-
  No cell of these rows narrows 'for every input' (looked for: loops, veiled, ifaces, maps, wideKeys, modest, calm, conditions, laid).
  DERIVED. THE GIVEN ROWS OF THIS SEAT. 4 by the template 'for every input the law returns true; each argument reads behind the call as it read before'; 0 by the template 'total and deterministic' (their statements: YtlhpjfnfemebdaaTotals.lean).
  GIVEN WITH THE SEED: the statements are not yours to turn. If you find one false, say at which input.
  Laid BY PROGRAM, IN A SANDBOX (cutbox-rows.mjs): the forced cells as the released guide's own fill.sh prints them over the translation e967e2579d4d7b85… (all of the seat's roots in one cut). By AI agents, Wed Nov 11 2026. No macro, syntax, notation, axiom, sorry.
-/
import Derived.Test.YtlhpjfnfemebdaaChecked
import GoSem.Claim
import GoSem.ClaimJoined
import GoSem.ClaimMapViews
import Derived.JoinedTies
import Derived.KernelRfl
namespace Go.Proofs.Ytlhpjfnfemebdaa
/- THE CELL 'sum', in the pinned program and in every row, IS THE sha256 OF THE DUMP (.gsa) THAT YtlhpjfnfemebdaaProg.lean LOADS. Nothing in Lean hashes anything: it is a label: what it is worth is what the hold of that sum in a sandbox is worth. -/
noncomputable def Try.pinned : Pinned := { name := "ytlhpjfnfemebdaa", sum := "e967e2579d4d7b85a3256fec4f4d951712e2d0c7cc2ff5ff6dc2bdd401eafc13", checked := Try.checked }
namespace Rows
def none {H : Type} : Left H := { results := [], args := [] }

/-- 'spinnakerlaw30.CoverTells': WHATEVER THE INPUT: true; the input reads as it did. -/
def coverTellsSpec : ChangeSpec := { name := "coverTells", fn := fun _ => fun
  | [d1, d2] => { results := [.lit (.bool true)], args := [d1, d2] }
  | _ => none }
def coverTellsRow : OpenClaim := { program := "ytlhpjfnfemebdaa", sum := "e967e2579d4d7b85a3256fec4f4d951712e2d0c7cc2ff5ff6dc2bdd401eafc13", func := "spinnaker/spinnakerlaw30.CoverTells", spec := "coverTells", unfollowed := true, recurses := true, apart := false }
def CoverTellsSaid : Prop := coverTellsRow.holds Try.pinned (OpenSpec.ofChange coverTellsSpec)

/-- ITS FALSE NEIGHBOUR: 'it returns false'. Refute it at one input. -/
def coverTellsWrong : ChangeSpec := { name := "coverTells", fn := fun _ => fun
  | [d1, d2] => { results := [.lit (.bool false)], args := [d1, d2] }
  | _ => none }
def CoverTellsWrongFalsely : Prop := coverTellsRow.holds Try.pinned (OpenSpec.ofChange coverTellsWrong)

/-- 'spinnakerlaw30.CoverDepths': WHATEVER THE INPUT: true; the input reads as it did. -/
def coverDepthsSpec : ChangeSpec := { name := "coverDepths", fn := fun _ => fun
  | [d] => { results := [.lit (.bool true)], args := [d] }
  | _ => none }
def coverDepthsRow : OpenClaim := { program := "ytlhpjfnfemebdaa", sum := "e967e2579d4d7b85a3256fec4f4d951712e2d0c7cc2ff5ff6dc2bdd401eafc13", func := "spinnaker/spinnakerlaw30.CoverDepths", spec := "coverDepths", unfollowed := true, recurses := true, apart := false }
def CoverDepthsSaid : Prop := coverDepthsRow.holds Try.pinned (OpenSpec.ofChange coverDepthsSpec)

/-- ITS FALSE NEIGHBOUR: 'it returns false'. Refute it at one input. -/
def coverDepthsWrong : ChangeSpec := { name := "coverDepths", fn := fun _ => fun
  | [d] => { results := [.lit (.bool false)], args := [d] }
  | _ => none }
def CoverDepthsWrongFalsely : Prop := coverDepthsRow.holds Try.pinned (OpenSpec.ofChange coverDepthsWrong)

/-- 'spinnakerlaw30.CoverEnds': WHATEVER THE INPUT: true; the input reads as it did. -/
def coverEndsSpec : ChangeSpec := { name := "coverEnds", fn := fun _ => fun
  | [d] => { results := [.lit (.bool true)], args := [d] }
  | _ => none }
def coverEndsRow : OpenClaim := { program := "ytlhpjfnfemebdaa", sum := "e967e2579d4d7b85a3256fec4f4d951712e2d0c7cc2ff5ff6dc2bdd401eafc13", func := "spinnaker/spinnakerlaw30.CoverEnds", spec := "coverEnds", unfollowed := true, recurses := true, apart := false }
def CoverEndsSaid : Prop := coverEndsRow.holds Try.pinned (OpenSpec.ofChange coverEndsSpec)

/-- ITS FALSE NEIGHBOUR: 'it returns false'. Refute it at one input. -/
def coverEndsWrong : ChangeSpec := { name := "coverEnds", fn := fun _ => fun
  | [d] => { results := [.lit (.bool false)], args := [d] }
  | _ => none }
def CoverEndsWrongFalsely : Prop := coverEndsRow.holds Try.pinned (OpenSpec.ofChange coverEndsWrong)

/-- 'spinnakerlaw30.CoverPaths': WHATEVER THE INPUT: true; the input reads as it did. -/
def coverPathsSpec : ChangeSpec := { name := "coverPaths", fn := fun _ => fun
  | [d] => { results := [.lit (.bool true)], args := [d] }
  | _ => none }
def coverPathsRow : OpenClaim := { program := "ytlhpjfnfemebdaa", sum := "e967e2579d4d7b85a3256fec4f4d951712e2d0c7cc2ff5ff6dc2bdd401eafc13", func := "spinnaker/spinnakerlaw30.CoverPaths", spec := "coverPaths", unfollowed := true, recurses := true, apart := false }
def CoverPathsSaid : Prop := coverPathsRow.holds Try.pinned (OpenSpec.ofChange coverPathsSpec)

/-- ITS FALSE NEIGHBOUR: 'it returns false'. Refute it at one input. -/
def coverPathsWrong : ChangeSpec := { name := "coverPaths", fn := fun _ => fun
  | [d] => { results := [.lit (.bool false)], args := [d] }
  | _ => none }
def CoverPathsWrongFalsely : Prop := coverPathsRow.holds Try.pinned (OpenSpec.ofChange coverPathsWrong)

/- THE SECOND FORM. 'bulk': how many values and letters a reading holds, each counted each time it is reached (what is shared counts as often as it is met; a slice's spare places count too). A statement '..UptoSaid' is the law's where the arguments, and the package variables that the reading takes, are together of bulk at most 1048576: NARROWER than '..Said'. Prove '..Said' where nothing that the law and all that it calls make is longer than what came in: it says more and counts as full. Else prove '..UptoSaid'. A law counts once. -/
mutual
def uptoBulk {H : Type} : DataW H → Nat
  | .lit (.string bytes) => bytes.length + 1
  | .lit _ => 1
  | .nil => 1
  | .ptr d => uptoBulk d + 1
  | .slice elems spare => uptoBulkAll elems + uptoBulkAll spare + 1
  | .agg parts => uptoBulkAll parts + 1
  | .iface _ d => uptoBulk d + 1
  | .map entries => uptoBulkEntries entries + 1
  | .held _ => 1
def uptoBulkAll {H : Type} : List (DataW H) → Nat
  | [] => 0
  | d :: r => uptoBulk d + uptoBulkAll r
def uptoBulkEntries {H : Type} : List (Lit × DataW H) → Nat
  | [] => 0
  | x :: r => uptoBulkEntry x + uptoBulkEntries r
def uptoBulkEntry {H : Type} : Lit × DataW H → Nat
  | (.string bytes, d) => bytes.length + uptoBulk d + 1
  | (_, d) => uptoBulk d + 1
 end
def uptoSmall : (H : Type) → List (DataW H) → Bool := fun _ ds => decide (uptoBulkAll ds ≤ 1048576)
def OpenSpec.upto (s : _root_.Go.ChangeSpec) : _root_.Go.OpenSpec := { _root_.Go.OpenSpec.ofChange s with cond := some uptoSmall }

/-- 'spinnakerlaw30.CoverTells', WHERE WHAT IT READS IS OF BULK AT MOST 1048576: true; the input reads as it did. -/
def coverTellsUptoRow : OpenClaim := { program := "ytlhpjfnfemebdaa", sum := "e967e2579d4d7b85a3256fec4f4d951712e2d0c7cc2ff5ff6dc2bdd401eafc13", func := "spinnaker/spinnakerlaw30.CoverTells", spec := "coverTells", unfollowed := true, recurses := true, apart := false, narrowed := true }
def CoverTellsUptoSaid : Prop := coverTellsUptoRow.holds Try.pinned (OpenSpec.upto coverTellsSpec)

/-- 'spinnakerlaw30.CoverDepths', WHERE WHAT IT READS IS OF BULK AT MOST 1048576: true; the input reads as it did. -/
def coverDepthsUptoRow : OpenClaim := { program := "ytlhpjfnfemebdaa", sum := "e967e2579d4d7b85a3256fec4f4d951712e2d0c7cc2ff5ff6dc2bdd401eafc13", func := "spinnaker/spinnakerlaw30.CoverDepths", spec := "coverDepths", unfollowed := true, recurses := true, apart := false, narrowed := true }
def CoverDepthsUptoSaid : Prop := coverDepthsUptoRow.holds Try.pinned (OpenSpec.upto coverDepthsSpec)

/-- 'spinnakerlaw30.CoverEnds', WHERE WHAT IT READS IS OF BULK AT MOST 1048576: true; the input reads as it did. -/
def coverEndsUptoRow : OpenClaim := { program := "ytlhpjfnfemebdaa", sum := "e967e2579d4d7b85a3256fec4f4d951712e2d0c7cc2ff5ff6dc2bdd401eafc13", func := "spinnaker/spinnakerlaw30.CoverEnds", spec := "coverEnds", unfollowed := true, recurses := true, apart := false, narrowed := true }
def CoverEndsUptoSaid : Prop := coverEndsUptoRow.holds Try.pinned (OpenSpec.upto coverEndsSpec)

/-- 'spinnakerlaw30.CoverPaths', WHERE WHAT IT READS IS OF BULK AT MOST 1048576: true; the input reads as it did. -/
def coverPathsUptoRow : OpenClaim := { program := "ytlhpjfnfemebdaa", sum := "e967e2579d4d7b85a3256fec4f4d951712e2d0c7cc2ff5ff6dc2bdd401eafc13", func := "spinnaker/spinnakerlaw30.CoverPaths", spec := "coverPaths", unfollowed := true, recurses := true, apart := false, narrowed := true }
def CoverPathsUptoSaid : Prop := coverPathsUptoRow.holds Try.pinned (OpenSpec.upto coverPathsSpec)

end Rows
end Go.Proofs.Ytlhpjfnfemebdaa
