/-
  No cell of these rows narrows 'for every input' (looked for: loops, veiled, ifaces, maps, wideKeys, modest, calm, conditions, laid).
  DERIVED. THE GIVEN ROWS OF THIS SEAT. 3 by the template 'for every input the law returns true; each argument reads behind the call as it read before'; 0 by the template 'total and deterministic' (their statements: YtdikoffppjoomaaTotals.lean).
  GIVEN WITH THE SEED: the statements are not yours to turn. If you find one false, say at which input.
  Laid BY PROGRAM, IN A SANDBOX (cutbox-rows.mjs): the forced cells as the released guide's own fill.sh prints them over the translation b2903c2ce77003c1… (all of the seat's roots in one cut). By AI agents, Wed Nov 11 2026. No macro, syntax, notation, axiom, sorry.
-/
import Derived.Test.YtdikoffppjoomaaChecked
import GoSem.Claim
import GoSem.ClaimJoined
import GoSem.ClaimMapViews
import Derived.JoinedTies
import Derived.KernelRfl
namespace Go.Proofs.Ytdikoffppjoomaa
/- THE CELL 'sum', in the pinned program and in every row, IS THE sha256 OF THE DUMP (.gsa) THAT YtdikoffppjoomaaProg.lean LOADS. Nothing in Lean hashes anything: it is a label: what it is worth is what the hold of that sum in a sandbox is worth. -/
noncomputable def Try.pinned : Pinned := { name := "ytdikoffppjoomaa", sum := "b2903c2ce77003c1a80dab53f050661c9796010e55637bd0d82de3b5297ba2fc", checked := Try.checked }
namespace Rows
def none {H : Type} : Left H := { results := [], args := [] }

/-- 'awardingbodylaw42.CertificateOne': WHATEVER THE INPUT: true; the input reads as it did. -/
def certificateOneSpec : ChangeSpec := { name := "certificateOne", fn := fun _ => fun
  | [d] => { results := [.lit (.bool true)], args := [d] }
  | _ => none }
def certificateOneRow : OpenClaim := { program := "ytdikoffppjoomaa", sum := "b2903c2ce77003c1a80dab53f050661c9796010e55637bd0d82de3b5297ba2fc", func := "awardingbody/awardingbodylaw42.CertificateOne", spec := "certificateOne", unfollowed := true, recurses := true, apart := false }
def CertificateOneSaid : Prop := certificateOneRow.holds Try.pinned (OpenSpec.ofChange certificateOneSpec)

/-- ITS FALSE NEIGHBOUR: 'it returns false'. Refute it at one input. -/
def certificateOneWrong : ChangeSpec := { name := "certificateOne", fn := fun _ => fun
  | [d] => { results := [.lit (.bool false)], args := [d] }
  | _ => none }
def CertificateOneWrongFalsely : Prop := certificateOneRow.holds Try.pinned (OpenSpec.ofChange certificateOneWrong)

/-- 'awardingbodylaw42.CertificateRevokes': WHATEVER THE INPUT: true; the input reads as it did. -/
def certificateRevokesSpec : ChangeSpec := { name := "certificateRevokes", fn := fun _ => fun
  | [d1, d2] => { results := [.lit (.bool true)], args := [d1, d2] }
  | _ => none }
def certificateRevokesRow : OpenClaim := { program := "ytdikoffppjoomaa", sum := "b2903c2ce77003c1a80dab53f050661c9796010e55637bd0d82de3b5297ba2fc", func := "awardingbody/awardingbodylaw42.CertificateRevokes", spec := "certificateRevokes", unfollowed := true, recurses := true, apart := false }
def CertificateRevokesSaid : Prop := certificateRevokesRow.holds Try.pinned (OpenSpec.ofChange certificateRevokesSpec)

/-- ITS FALSE NEIGHBOUR: 'it returns false'. Refute it at one input. -/
def certificateRevokesWrong : ChangeSpec := { name := "certificateRevokes", fn := fun _ => fun
  | [d1, d2] => { results := [.lit (.bool false)], args := [d1, d2] }
  | _ => none }
def CertificateRevokesWrongFalsely : Prop := certificateRevokesRow.holds Try.pinned (OpenSpec.ofChange certificateRevokesWrong)

/-- 'awardingbodylaw42.CertificateExtends': WHATEVER THE INPUT: true; the input reads as it did. -/
def certificateExtendsSpec : ChangeSpec := { name := "certificateExtends", fn := fun _ => fun
  | [d1, d2] => { results := [.lit (.bool true)], args := [d1, d2] }
  | _ => none }
def certificateExtendsRow : OpenClaim := { program := "ytdikoffppjoomaa", sum := "b2903c2ce77003c1a80dab53f050661c9796010e55637bd0d82de3b5297ba2fc", func := "awardingbody/awardingbodylaw42.CertificateExtends", spec := "certificateExtends", unfollowed := true, recurses := true, apart := false }
def CertificateExtendsSaid : Prop := certificateExtendsRow.holds Try.pinned (OpenSpec.ofChange certificateExtendsSpec)

/-- ITS FALSE NEIGHBOUR: 'it returns false'. Refute it at one input. -/
def certificateExtendsWrong : ChangeSpec := { name := "certificateExtends", fn := fun _ => fun
  | [d1, d2] => { results := [.lit (.bool false)], args := [d1, d2] }
  | _ => none }
def CertificateExtendsWrongFalsely : Prop := certificateExtendsRow.holds Try.pinned (OpenSpec.ofChange certificateExtendsWrong)

/- THE SECOND FORM. 'bulk': how many values and letters a reading holds, each counted each time it is reached (what is shared counts as often as it is met; a slice's spare places count too). A statement '..UptoSaid' is the law's where the arguments, and the package variables that the reading takes, are together of bulk at most 1048576: NARROWER than '..Said'. Prove '..Said' where nothing that the law and all that it calls make is longer than what came in: it says more and counts as full. Else prove '..UptoSaid'. A law counts once. -/
mutual
def uptoBulk {H : Type} : DataW H → Nat
  | .lit (.string bytes) => bytes.length + 1
  | .lit _ => 1
  | .nil => 1
  | .ptr d => uptoBulk d + 1
  | .slice elems spare => uptoBulkAll elems + uptoBulkAll spare + 1
  | .agg parts => uptoBulkAll parts + 1
  | .iface _ d => uptoBulk d + 1
  | .map entries => uptoBulkEntries entries + 1
  | .held _ => 1
def uptoBulkAll {H : Type} : List (DataW H) → Nat
  | [] => 0
  | d :: r => uptoBulk d + uptoBulkAll r
def uptoBulkEntries {H : Type} : List (Lit × DataW H) → Nat
  | [] => 0
  | x :: r => uptoBulkEntry x + uptoBulkEntries r
def uptoBulkEntry {H : Type} : Lit × DataW H → Nat
  | (.string bytes, d) => bytes.length + uptoBulk d + 1
  | (_, d) => uptoBulk d + 1
 end
def uptoSmall : (H : Type) → List (DataW H) → Bool := fun _ ds => decide (uptoBulkAll ds ≤ 1048576)
def OpenSpec.upto (s : _root_.Go.ChangeSpec) : _root_.Go.OpenSpec := { _root_.Go.OpenSpec.ofChange s with cond := some uptoSmall }

/-- 'awardingbodylaw42.CertificateOne', WHERE WHAT IT READS IS OF BULK AT MOST 1048576: true; the input reads as it did. -/
def certificateOneUptoRow : OpenClaim := { program := "ytdikoffppjoomaa", sum := "b2903c2ce77003c1a80dab53f050661c9796010e55637bd0d82de3b5297ba2fc", func := "awardingbody/awardingbodylaw42.CertificateOne", spec := "certificateOne", unfollowed := true, recurses := true, apart := false, narrowed := true }
def CertificateOneUptoSaid : Prop := certificateOneUptoRow.holds Try.pinned (OpenSpec.upto certificateOneSpec)

/-- 'awardingbodylaw42.CertificateRevokes', WHERE WHAT IT READS IS OF BULK AT MOST 1048576: true; the input reads as it did. -/
def certificateRevokesUptoRow : OpenClaim := { program := "ytdikoffppjoomaa", sum := "b2903c2ce77003c1a80dab53f050661c9796010e55637bd0d82de3b5297ba2fc", func := "awardingbody/awardingbodylaw42.CertificateRevokes", spec := "certificateRevokes", unfollowed := true, recurses := true, apart := false, narrowed := true }
def CertificateRevokesUptoSaid : Prop := certificateRevokesUptoRow.holds Try.pinned (OpenSpec.upto certificateRevokesSpec)

/-- 'awardingbodylaw42.CertificateExtends', WHERE WHAT IT READS IS OF BULK AT MOST 1048576: true; the input reads as it did. -/
def certificateExtendsUptoRow : OpenClaim := { program := "ytdikoffppjoomaa", sum := "b2903c2ce77003c1a80dab53f050661c9796010e55637bd0d82de3b5297ba2fc", func := "awardingbody/awardingbodylaw42.CertificateExtends", spec := "certificateExtends", unfollowed := true, recurses := true, apart := false, narrowed := true }
def CertificateExtendsUptoSaid : Prop := certificateExtendsUptoRow.holds Try.pinned (OpenSpec.upto certificateExtendsSpec)

end Rows
end Go.Proofs.Ytdikoffppjoomaa
