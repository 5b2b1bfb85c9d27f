/-
  No cell of these rows narrows 'for every input' (looked for: loops, veiled, ifaces, maps, wideKeys, modest, calm, conditions, laid).
  DERIVED. THE GIVEN ROWS OF THIS SEAT. 4 by the template 'for every input the law returns true; each argument reads behind the call as it read before'; 0 by the template 'total and deterministic' (their statements: YtmdgghdmfipllaaTotals.lean).
  GIVEN WITH THE SEED: the statements are not yours to turn. If you find one false, say at which input.
  Laid BY PROGRAM, IN A SANDBOX (cutbox-rows.mjs): the forced cells as the released guide's own fill.sh prints them over the translation ea84a6bfa894b13d… (all of the seat's roots in one cut). By AI agents, Wed Nov 11 2026. No macro, syntax, notation, axiom, sorry.
-/
import Derived.Test.YtmdgghdmfipllaaChecked
import GoSem.Claim
import GoSem.ClaimJoined
import GoSem.ClaimMapViews
import Derived.JoinedTies
import Derived.KernelRfl
namespace Go.Proofs.Ytmdgghdmfipllaa
/- THE CELL 'sum', in the pinned program and in every row, IS THE sha256 OF THE DUMP (.gsa) THAT YtmdgghdmfipllaaProg.lean LOADS. Nothing in Lean hashes anything: it is a label: what it is worth is what the hold of that sum in a sandbox is worth. -/
noncomputable def Try.pinned : Pinned := { name := "ytmdgghdmfipllaa", sum := "ea84a6bfa894b13d7ba5d6d9ad47b9a3960ea8058e00dfb1c8d6e2854a7e0134", checked := Try.checked }
namespace Rows
def none {H : Type} : Left H := { results := [], args := [] }

/-- 'awardingbodylaw40.TreePaths': WHATEVER THE INPUT: true; the input reads as it did. -/
def treePathsSpec : ChangeSpec := { name := "treePaths", fn := fun _ => fun
  | [d1, d2, d3] => { results := [.lit (.bool true)], args := [d1, d2, d3] }
  | _ => none }
def treePathsRow : OpenClaim := { program := "ytmdgghdmfipllaa", sum := "ea84a6bfa894b13d7ba5d6d9ad47b9a3960ea8058e00dfb1c8d6e2854a7e0134", func := "awardingbody/awardingbodylaw40.TreePaths", spec := "treePaths", recurses := true, apart := false }
def TreePathsSaid : Prop := treePathsRow.holds Try.pinned (OpenSpec.ofChange treePathsSpec)

/-- ITS FALSE NEIGHBOUR: 'it returns false'. Refute it at one input. -/
def treePathsWrong : ChangeSpec := { name := "treePaths", fn := fun _ => fun
  | [d1, d2, d3] => { results := [.lit (.bool false)], args := [d1, d2, d3] }
  | _ => none }
def TreePathsWrongFalsely : Prop := treePathsRow.holds Try.pinned (OpenSpec.ofChange treePathsWrong)

/-- 'awardingbodylaw40.TreeShape': WHATEVER THE INPUT: true; the input reads as it did. -/
def treeShapeSpec : ChangeSpec := { name := "treeShape", fn := fun _ => fun
  | [d1, d2] => { results := [.lit (.bool true)], args := [d1, d2] }
  | _ => none }
def treeShapeRow : OpenClaim := { program := "ytmdgghdmfipllaa", sum := "ea84a6bfa894b13d7ba5d6d9ad47b9a3960ea8058e00dfb1c8d6e2854a7e0134", func := "awardingbody/awardingbodylaw40.TreeShape", spec := "treeShape", recurses := true, apart := false }
def TreeShapeSaid : Prop := treeShapeRow.holds Try.pinned (OpenSpec.ofChange treeShapeSpec)

/-- ITS FALSE NEIGHBOUR: 'it returns false'. Refute it at one input. -/
def treeShapeWrong : ChangeSpec := { name := "treeShape", fn := fun _ => fun
  | [d1, d2] => { results := [.lit (.bool false)], args := [d1, d2] }
  | _ => none }
def TreeShapeWrongFalsely : Prop := treeShapeRow.holds Try.pinned (OpenSpec.ofChange treeShapeWrong)

/-- 'awardingbodylaw40.TreeExact': WHATEVER THE INPUT: true; the input reads as it did. -/
def treeExactSpec : ChangeSpec := { name := "treeExact", fn := fun _ => fun
  | [d1, d2, d3, d4, d5, d6] => { results := [.lit (.bool true)], args := [d1, d2, d3, d4, d5, d6] }
  | _ => none }
def treeExactRow : OpenClaim := { program := "ytmdgghdmfipllaa", sum := "ea84a6bfa894b13d7ba5d6d9ad47b9a3960ea8058e00dfb1c8d6e2854a7e0134", func := "awardingbody/awardingbodylaw40.TreeExact", spec := "treeExact", recurses := true, apart := false }
def TreeExactSaid : Prop := treeExactRow.holds Try.pinned (OpenSpec.ofChange treeExactSpec)

/-- ITS FALSE NEIGHBOUR: 'it returns false'. Refute it at one input. -/
def treeExactWrong : ChangeSpec := { name := "treeExact", fn := fun _ => fun
  | [d1, d2, d3, d4, d5, d6] => { results := [.lit (.bool false)], args := [d1, d2, d3, d4, d5, d6] }
  | _ => none }
def TreeExactWrongFalsely : Prop := treeExactRow.holds Try.pinned (OpenSpec.ofChange treeExactWrong)

/-- 'awardingbodylaw40.TreeGrows': WHATEVER THE INPUT: true; the input reads as it did. -/
def treeGrowsSpec : ChangeSpec := { name := "treeGrows", fn := fun _ => fun
  | [d1, d2, d3] => { results := [.lit (.bool true)], args := [d1, d2, d3] }
  | _ => none }
def treeGrowsRow : OpenClaim := { program := "ytmdgghdmfipllaa", sum := "ea84a6bfa894b13d7ba5d6d9ad47b9a3960ea8058e00dfb1c8d6e2854a7e0134", func := "awardingbody/awardingbodylaw40.TreeGrows", spec := "treeGrows", recurses := true, apart := false }
def TreeGrowsSaid : Prop := treeGrowsRow.holds Try.pinned (OpenSpec.ofChange treeGrowsSpec)

/-- ITS FALSE NEIGHBOUR: 'it returns false'. Refute it at one input. -/
def treeGrowsWrong : ChangeSpec := { name := "treeGrows", fn := fun _ => fun
  | [d1, d2, d3] => { results := [.lit (.bool false)], args := [d1, d2, d3] }
  | _ => none }
def TreeGrowsWrongFalsely : Prop := treeGrowsRow.holds Try.pinned (OpenSpec.ofChange treeGrowsWrong)

/- THE SECOND FORM. 'bulk': how many values and letters a reading holds, each counted each time it is reached (what is shared counts as often as it is met; a slice's spare places count too). A statement '..UptoSaid' is the law's where the arguments, and the package variables that the reading takes, are together of bulk at most 1048576: NARROWER than '..Said'. Prove '..Said' where nothing that the law and all that it calls make is longer than what came in: it says more and counts as full. Else prove '..UptoSaid'. A law counts once. -/
mutual
def uptoBulk {H : Type} : DataW H → Nat
  | .lit (.string bytes) => bytes.length + 1
  | .lit _ => 1
  | .nil => 1
  | .ptr d => uptoBulk d + 1
  | .slice elems spare => uptoBulkAll elems + uptoBulkAll spare + 1
  | .agg parts => uptoBulkAll parts + 1
  | .iface _ d => uptoBulk d + 1
  | .map entries => uptoBulkEntries entries + 1
  | .held _ => 1
def uptoBulkAll {H : Type} : List (DataW H) → Nat
  | [] => 0
  | d :: r => uptoBulk d + uptoBulkAll r
def uptoBulkEntries {H : Type} : List (Lit × DataW H) → Nat
  | [] => 0
  | x :: r => uptoBulkEntry x + uptoBulkEntries r
def uptoBulkEntry {H : Type} : Lit × DataW H → Nat
  | (.string bytes, d) => bytes.length + uptoBulk d + 1
  | (_, d) => uptoBulk d + 1
 end
def uptoSmall : (H : Type) → List (DataW H) → Bool := fun _ ds => decide (uptoBulkAll ds ≤ 1048576)
def OpenSpec.upto (s : _root_.Go.ChangeSpec) : _root_.Go.OpenSpec := { _root_.Go.OpenSpec.ofChange s with cond := some uptoSmall }

/-- 'awardingbodylaw40.TreePaths', WHERE WHAT IT READS IS OF BULK AT MOST 1048576: true; the input reads as it did. -/
def treePathsUptoRow : OpenClaim := { program := "ytmdgghdmfipllaa", sum := "ea84a6bfa894b13d7ba5d6d9ad47b9a3960ea8058e00dfb1c8d6e2854a7e0134", func := "awardingbody/awardingbodylaw40.TreePaths", spec := "treePaths", recurses := true, apart := false, narrowed := true }
def TreePathsUptoSaid : Prop := treePathsUptoRow.holds Try.pinned (OpenSpec.upto treePathsSpec)

/-- 'awardingbodylaw40.TreeShape', WHERE WHAT IT READS IS OF BULK AT MOST 1048576: true; the input reads as it did. -/
def treeShapeUptoRow : OpenClaim := { program := "ytmdgghdmfipllaa", sum := "ea84a6bfa894b13d7ba5d6d9ad47b9a3960ea8058e00dfb1c8d6e2854a7e0134", func := "awardingbody/awardingbodylaw40.TreeShape", spec := "treeShape", recurses := true, apart := false, narrowed := true }
def TreeShapeUptoSaid : Prop := treeShapeUptoRow.holds Try.pinned (OpenSpec.upto treeShapeSpec)

/-- 'awardingbodylaw40.TreeExact', WHERE WHAT IT READS IS OF BULK AT MOST 1048576: true; the input reads as it did. -/
def treeExactUptoRow : OpenClaim := { program := "ytmdgghdmfipllaa", sum := "ea84a6bfa894b13d7ba5d6d9ad47b9a3960ea8058e00dfb1c8d6e2854a7e0134", func := "awardingbody/awardingbodylaw40.TreeExact", spec := "treeExact", recurses := true, apart := false, narrowed := true }
def TreeExactUptoSaid : Prop := treeExactUptoRow.holds Try.pinned (OpenSpec.upto treeExactSpec)

/-- 'awardingbodylaw40.TreeGrows', WHERE WHAT IT READS IS OF BULK AT MOST 1048576: true; the input reads as it did. -/
def treeGrowsUptoRow : OpenClaim := { program := "ytmdgghdmfipllaa", sum := "ea84a6bfa894b13d7ba5d6d9ad47b9a3960ea8058e00dfb1c8d6e2854a7e0134", func := "awardingbody/awardingbodylaw40.TreeGrows", spec := "treeGrows", recurses := true, apart := false, narrowed := true }
def TreeGrowsUptoSaid : Prop := treeGrowsUptoRow.holds Try.pinned (OpenSpec.upto treeGrowsSpec)

end Rows
end Go.Proofs.Ytmdgghdmfipllaa
