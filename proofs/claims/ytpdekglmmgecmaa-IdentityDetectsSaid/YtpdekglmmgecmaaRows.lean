/-
  No cell of these rows narrows 'for every input' (looked for: loops, veiled, ifaces, maps, wideKeys, modest, calm, conditions, laid).
  DERIVED. THE GIVEN ROWS OF THIS SEAT. 9 by the template 'for every input the law returns true; each argument reads behind the call as it read before'; 0 by the template 'total and deterministic' (their statements: YtpdekglmmgecmaaTotals.lean).
  GIVEN WITH THE SEED: the statements are not yours to turn. If you find one false, say at which input.
  Laid BY PROGRAM, IN A SANDBOX (cutbox-rows.mjs): the forced cells as the released guide's own fill.sh prints them over the translation b8e4a73798f0a5f3… (all of the seat's roots in one cut). By AI agents, Wed Nov 11 2026. No macro, syntax, notation, axiom, sorry.
-/
import Derived.Test.YtpdekglmmgecmaaChecked
import GoSem.Claim
import GoSem.ClaimJoined
import GoSem.ClaimMapViews
import Derived.JoinedTies
import Derived.KernelRfl
namespace Go.Proofs.Ytpdekglmmgecmaa
/- THE CELL 'sum', in the pinned program and in every row, IS THE sha256 OF THE DUMP (.gsa) THAT YtpdekglmmgecmaaProg.lean LOADS. Nothing in Lean hashes anything: it is a label: what it is worth is what the hold of that sum in a sandbox is worth. -/
noncomputable def Try.pinned : Pinned := { name := "ytpdekglmmgecmaa", sum := "b8e4a73798f0a5f319a148733e1f917c850dd0d24ba2f9356330e3e527d078f9", checked := Try.checked }
namespace Rows
def none {H : Type} : Left H := { results := [], args := [] }

/-- 'awardingbodylaw04.IdentityFormats': WHATEVER THE INPUT: true; the input reads as it did. -/
def identityFormatsSpec : ChangeSpec := { name := "identityFormats", fn := fun _ => fun
  | [d1, d2, d3] => { results := [.lit (.bool true)], args := [d1, d2, d3] }
  | _ => none }
def identityFormatsRow : OpenClaim := { program := "ytpdekglmmgecmaa", sum := "b8e4a73798f0a5f319a148733e1f917c850dd0d24ba2f9356330e3e527d078f9", func := "awardingbody/awardingbodylaw04.IdentityFormats", spec := "identityFormats", inPlace := ["internal/bytealg.IndexByteString"], apart := false }
def IdentityFormatsSaid : Prop := identityFormatsRow.holds Try.pinned (OpenSpec.ofChange identityFormatsSpec)

/-- ITS FALSE NEIGHBOUR: 'it returns false'. Refute it at one input. -/
def identityFormatsWrong : ChangeSpec := { name := "identityFormats", fn := fun _ => fun
  | [d1, d2, d3] => { results := [.lit (.bool false)], args := [d1, d2, d3] }
  | _ => none }
def IdentityFormatsWrongFalsely : Prop := identityFormatsRow.holds Try.pinned (OpenSpec.ofChange identityFormatsWrong)

/-- 'awardingbodylaw04.IdentityParses': WHATEVER THE INPUT: true; the input reads as it did. -/
def identityParsesSpec : ChangeSpec := { name := "identityParses", fn := fun _ => fun
  | [d1, d2, d3, d4] => { results := [.lit (.bool true)], args := [d1, d2, d3, d4] }
  | _ => none }
def identityParsesRow : OpenClaim := { program := "ytpdekglmmgecmaa", sum := "b8e4a73798f0a5f319a148733e1f917c850dd0d24ba2f9356330e3e527d078f9", func := "awardingbody/awardingbodylaw04.IdentityParses", spec := "identityParses", inPlace := ["internal/bytealg.IndexByteString"], apart := false }
def IdentityParsesSaid : Prop := identityParsesRow.holds Try.pinned (OpenSpec.ofChange identityParsesSpec)

/-- ITS FALSE NEIGHBOUR: 'it returns false'. Refute it at one input. -/
def identityParsesWrong : ChangeSpec := { name := "identityParses", fn := fun _ => fun
  | [d1, d2, d3, d4] => { results := [.lit (.bool false)], args := [d1, d2, d3, d4] }
  | _ => none }
def IdentityParsesWrongFalsely : Prop := identityParsesRow.holds Try.pinned (OpenSpec.ofChange identityParsesWrong)

/-- 'awardingbodylaw04.IdentityBack': WHATEVER THE INPUT: true; the input reads as it did. -/
def identityBackSpec : ChangeSpec := { name := "identityBack", fn := fun _ => fun
  | [d1, d2] => { results := [.lit (.bool true)], args := [d1, d2] }
  | _ => none }
def identityBackRow : OpenClaim := { program := "ytpdekglmmgecmaa", sum := "b8e4a73798f0a5f319a148733e1f917c850dd0d24ba2f9356330e3e527d078f9", func := "awardingbody/awardingbodylaw04.IdentityBack", spec := "identityBack", inPlace := ["internal/bytealg.IndexByteString"], apart := false }
def IdentityBackSaid : Prop := identityBackRow.holds Try.pinned (OpenSpec.ofChange identityBackSpec)

/-- ITS FALSE NEIGHBOUR: 'it returns false'. Refute it at one input. -/
def identityBackWrong : ChangeSpec := { name := "identityBack", fn := fun _ => fun
  | [d1, d2] => { results := [.lit (.bool false)], args := [d1, d2] }
  | _ => none }
def IdentityBackWrongFalsely : Prop := identityBackRow.holds Try.pinned (OpenSpec.ofChange identityBackWrong)

/-- 'awardingbodylaw04.IdentitySwaps': WHATEVER THE INPUT: true; the input reads as it did. -/
def identitySwapsSpec : ChangeSpec := { name := "identitySwaps", fn := fun _ => fun
  | [d1, d2, d3] => { results := [.lit (.bool true)], args := [d1, d2, d3] }
  | _ => none }
def identitySwapsRow : OpenClaim := { program := "ytpdekglmmgecmaa", sum := "b8e4a73798f0a5f319a148733e1f917c850dd0d24ba2f9356330e3e527d078f9", func := "awardingbody/awardingbodylaw04.IdentitySwaps", spec := "identitySwaps", inPlace := ["internal/bytealg.IndexByteString"], apart := false }
def IdentitySwapsSaid : Prop := identitySwapsRow.holds Try.pinned (OpenSpec.ofChange identitySwapsSpec)

/-- ITS FALSE NEIGHBOUR: 'it returns false'. Refute it at one input. -/
def identitySwapsWrong : ChangeSpec := { name := "identitySwaps", fn := fun _ => fun
  | [d1, d2, d3] => { results := [.lit (.bool false)], args := [d1, d2, d3] }
  | _ => none }
def IdentitySwapsWrongFalsely : Prop := identitySwapsRow.holds Try.pinned (OpenSpec.ofChange identitySwapsWrong)

/-- 'awardingbodylaw04.IdentityLetters': WHATEVER THE INPUT: true; the input reads as it did. -/
def identityLettersSpec : ChangeSpec := { name := "identityLetters", fn := fun _ => fun
  | [d1, d2] => { results := [.lit (.bool true)], args := [d1, d2] }
  | _ => none }
def identityLettersRow : OpenClaim := { program := "ytpdekglmmgecmaa", sum := "b8e4a73798f0a5f319a148733e1f917c850dd0d24ba2f9356330e3e527d078f9", func := "awardingbody/awardingbodylaw04.IdentityLetters", spec := "identityLetters", inPlace := ["internal/bytealg.IndexByteString"], apart := false }
def IdentityLettersSaid : Prop := identityLettersRow.holds Try.pinned (OpenSpec.ofChange identityLettersSpec)

/-- ITS FALSE NEIGHBOUR: 'it returns false'. Refute it at one input. -/
def identityLettersWrong : ChangeSpec := { name := "identityLetters", fn := fun _ => fun
  | [d1, d2] => { results := [.lit (.bool false)], args := [d1, d2] }
  | _ => none }
def IdentityLettersWrongFalsely : Prop := identityLettersRow.holds Try.pinned (OpenSpec.ofChange identityLettersWrong)

/-- 'awardingbodylaw04.IdentityTwins': WHATEVER THE INPUT: true; the input reads as it did. -/
def identityTwinsSpec : ChangeSpec := { name := "identityTwins", fn := fun _ => fun
  | [d1, d2, d3] => { results := [.lit (.bool true)], args := [d1, d2, d3] }
  | _ => none }
def identityTwinsRow : OpenClaim := { program := "ytpdekglmmgecmaa", sum := "b8e4a73798f0a5f319a148733e1f917c850dd0d24ba2f9356330e3e527d078f9", func := "awardingbody/awardingbodylaw04.IdentityTwins", spec := "identityTwins", inPlace := ["internal/bytealg.IndexByteString"], apart := false }
def IdentityTwinsSaid : Prop := identityTwinsRow.holds Try.pinned (OpenSpec.ofChange identityTwinsSpec)

/-- ITS FALSE NEIGHBOUR: 'it returns false'. Refute it at one input. -/
def identityTwinsWrong : ChangeSpec := { name := "identityTwins", fn := fun _ => fun
  | [d1, d2, d3] => { results := [.lit (.bool false)], args := [d1, d2, d3] }
  | _ => none }
def IdentityTwinsWrongFalsely : Prop := identityTwinsRow.holds Try.pinned (OpenSpec.ofChange identityTwinsWrong)

/-- 'awardingbodylaw04.IdentityFills': WHATEVER THE INPUT: true; the input reads as it did. -/
def identityFillsSpec : ChangeSpec := { name := "identityFills", fn := fun _ => fun
  | [d1, d2, d3, d4] => { results := [.lit (.bool true)], args := [d1, d2, d3, d4] }
  | _ => none }
def identityFillsRow : OpenClaim := { program := "ytpdekglmmgecmaa", sum := "b8e4a73798f0a5f319a148733e1f917c850dd0d24ba2f9356330e3e527d078f9", func := "awardingbody/awardingbodylaw04.IdentityFills", spec := "identityFills", inPlace := ["internal/bytealg.IndexByteString"], apart := false }
def IdentityFillsSaid : Prop := identityFillsRow.holds Try.pinned (OpenSpec.ofChange identityFillsSpec)

/-- ITS FALSE NEIGHBOUR: 'it returns false'. Refute it at one input. -/
def identityFillsWrong : ChangeSpec := { name := "identityFills", fn := fun _ => fun
  | [d1, d2, d3, d4] => { results := [.lit (.bool false)], args := [d1, d2, d3, d4] }
  | _ => none }
def IdentityFillsWrongFalsely : Prop := identityFillsRow.holds Try.pinned (OpenSpec.ofChange identityFillsWrong)

/-- 'awardingbodylaw04.IdentityNears': WHATEVER THE INPUT: true; the input reads as it did. -/
def identityNearsSpec : ChangeSpec := { name := "identityNears", fn := fun _ => fun
  | [d1, d2, d3, d4] => { results := [.lit (.bool true)], args := [d1, d2, d3, d4] }
  | _ => none }
def identityNearsRow : OpenClaim := { program := "ytpdekglmmgecmaa", sum := "b8e4a73798f0a5f319a148733e1f917c850dd0d24ba2f9356330e3e527d078f9", func := "awardingbody/awardingbodylaw04.IdentityNears", spec := "identityNears", inPlace := ["internal/bytealg.IndexByteString"], recurses := true, apart := false }
def IdentityNearsSaid : Prop := identityNearsRow.holds Try.pinned (OpenSpec.ofChange identityNearsSpec)

/-- ITS FALSE NEIGHBOUR: 'it returns false'. Refute it at one input. -/
def identityNearsWrong : ChangeSpec := { name := "identityNears", fn := fun _ => fun
  | [d1, d2, d3, d4] => { results := [.lit (.bool false)], args := [d1, d2, d3, d4] }
  | _ => none }
def IdentityNearsWrongFalsely : Prop := identityNearsRow.holds Try.pinned (OpenSpec.ofChange identityNearsWrong)

/-- 'awardingbodylaw04.IdentityDetects': WHATEVER THE INPUT: true; the input reads as it did. -/
def identityDetectsSpec : ChangeSpec := { name := "identityDetects", fn := fun _ => fun
  | [d1, d2, d3] => { results := [.lit (.bool true)], args := [d1, d2, d3] }
  | _ => none }
def identityDetectsRow : OpenClaim := { program := "ytpdekglmmgecmaa", sum := "b8e4a73798f0a5f319a148733e1f917c850dd0d24ba2f9356330e3e527d078f9", func := "awardingbody/awardingbodylaw04.IdentityDetects", spec := "identityDetects", inPlace := ["internal/bytealg.IndexByteString"], recurses := true, apart := false }
def IdentityDetectsSaid : Prop := identityDetectsRow.holds Try.pinned (OpenSpec.ofChange identityDetectsSpec)

/-- ITS FALSE NEIGHBOUR: 'it returns false'. Refute it at one input. -/
def identityDetectsWrong : ChangeSpec := { name := "identityDetects", fn := fun _ => fun
  | [d1, d2, d3] => { results := [.lit (.bool false)], args := [d1, d2, d3] }
  | _ => none }
def IdentityDetectsWrongFalsely : Prop := identityDetectsRow.holds Try.pinned (OpenSpec.ofChange identityDetectsWrong)

/- THE SECOND FORM. 'bulk': how many values and letters a reading holds, each counted each time it is reached (what is shared counts as often as it is met; a slice's spare places count too). A statement '..UptoSaid' is the law's where the arguments, and the package variables that the reading takes, are together of bulk at most 1048576: NARROWER than '..Said'. Prove '..Said' where nothing that the law and all that it calls make is longer than what came in: it says more and counts as full. Else prove '..UptoSaid'. A law counts once. -/
mutual
def uptoBulk {H : Type} : DataW H → Nat
  | .lit (.string bytes) => bytes.length + 1
  | .lit _ => 1
  | .nil => 1
  | .ptr d => uptoBulk d + 1
  | .slice elems spare => uptoBulkAll elems + uptoBulkAll spare + 1
  | .agg parts => uptoBulkAll parts + 1
  | .iface _ d => uptoBulk d + 1
  | .map entries => uptoBulkEntries entries + 1
  | .held _ => 1
def uptoBulkAll {H : Type} : List (DataW H) → Nat
  | [] => 0
  | d :: r => uptoBulk d + uptoBulkAll r
def uptoBulkEntries {H : Type} : List (Lit × DataW H) → Nat
  | [] => 0
  | x :: r => uptoBulkEntry x + uptoBulkEntries r
def uptoBulkEntry {H : Type} : Lit × DataW H → Nat
  | (.string bytes, d) => bytes.length + uptoBulk d + 1
  | (_, d) => uptoBulk d + 1
 end
def uptoSmall : (H : Type) → List (DataW H) → Bool := fun _ ds => decide (uptoBulkAll ds ≤ 1048576)
def OpenSpec.upto (s : _root_.Go.ChangeSpec) : _root_.Go.OpenSpec := { _root_.Go.OpenSpec.ofChange s with cond := some uptoSmall }

/-- 'awardingbodylaw04.IdentityFormats', WHERE WHAT IT READS IS OF BULK AT MOST 1048576: true; the input reads as it did. -/
def identityFormatsUptoRow : OpenClaim := { program := "ytpdekglmmgecmaa", sum := "b8e4a73798f0a5f319a148733e1f917c850dd0d24ba2f9356330e3e527d078f9", func := "awardingbody/awardingbodylaw04.IdentityFormats", spec := "identityFormats", inPlace := ["internal/bytealg.IndexByteString"], apart := false, narrowed := true }
def IdentityFormatsUptoSaid : Prop := identityFormatsUptoRow.holds Try.pinned (OpenSpec.upto identityFormatsSpec)

/-- 'awardingbodylaw04.IdentityParses', WHERE WHAT IT READS IS OF BULK AT MOST 1048576: true; the input reads as it did. -/
def identityParsesUptoRow : OpenClaim := { program := "ytpdekglmmgecmaa", sum := "b8e4a73798f0a5f319a148733e1f917c850dd0d24ba2f9356330e3e527d078f9", func := "awardingbody/awardingbodylaw04.IdentityParses", spec := "identityParses", inPlace := ["internal/bytealg.IndexByteString"], apart := false, narrowed := true }
def IdentityParsesUptoSaid : Prop := identityParsesUptoRow.holds Try.pinned (OpenSpec.upto identityParsesSpec)

/-- 'awardingbodylaw04.IdentityBack', WHERE WHAT IT READS IS OF BULK AT MOST 1048576: true; the input reads as it did. -/
def identityBackUptoRow : OpenClaim := { program := "ytpdekglmmgecmaa", sum := "b8e4a73798f0a5f319a148733e1f917c850dd0d24ba2f9356330e3e527d078f9", func := "awardingbody/awardingbodylaw04.IdentityBack", spec := "identityBack", inPlace := ["internal/bytealg.IndexByteString"], apart := false, narrowed := true }
def IdentityBackUptoSaid : Prop := identityBackUptoRow.holds Try.pinned (OpenSpec.upto identityBackSpec)

/-- 'awardingbodylaw04.IdentitySwaps', WHERE WHAT IT READS IS OF BULK AT MOST 1048576: true; the input reads as it did. -/
def identitySwapsUptoRow : OpenClaim := { program := "ytpdekglmmgecmaa", sum := "b8e4a73798f0a5f319a148733e1f917c850dd0d24ba2f9356330e3e527d078f9", func := "awardingbody/awardingbodylaw04.IdentitySwaps", spec := "identitySwaps", inPlace := ["internal/bytealg.IndexByteString"], apart := false, narrowed := true }
def IdentitySwapsUptoSaid : Prop := identitySwapsUptoRow.holds Try.pinned (OpenSpec.upto identitySwapsSpec)

/-- 'awardingbodylaw04.IdentityLetters', WHERE WHAT IT READS IS OF BULK AT MOST 1048576: true; the input reads as it did. -/
def identityLettersUptoRow : OpenClaim := { program := "ytpdekglmmgecmaa", sum := "b8e4a73798f0a5f319a148733e1f917c850dd0d24ba2f9356330e3e527d078f9", func := "awardingbody/awardingbodylaw04.IdentityLetters", spec := "identityLetters", inPlace := ["internal/bytealg.IndexByteString"], apart := false, narrowed := true }
def IdentityLettersUptoSaid : Prop := identityLettersUptoRow.holds Try.pinned (OpenSpec.upto identityLettersSpec)

/-- 'awardingbodylaw04.IdentityTwins', WHERE WHAT IT READS IS OF BULK AT MOST 1048576: true; the input reads as it did. -/
def identityTwinsUptoRow : OpenClaim := { program := "ytpdekglmmgecmaa", sum := "b8e4a73798f0a5f319a148733e1f917c850dd0d24ba2f9356330e3e527d078f9", func := "awardingbody/awardingbodylaw04.IdentityTwins", spec := "identityTwins", inPlace := ["internal/bytealg.IndexByteString"], apart := false, narrowed := true }
def IdentityTwinsUptoSaid : Prop := identityTwinsUptoRow.holds Try.pinned (OpenSpec.upto identityTwinsSpec)

/-- 'awardingbodylaw04.IdentityFills', WHERE WHAT IT READS IS OF BULK AT MOST 1048576: true; the input reads as it did. -/
def identityFillsUptoRow : OpenClaim := { program := "ytpdekglmmgecmaa", sum := "b8e4a73798f0a5f319a148733e1f917c850dd0d24ba2f9356330e3e527d078f9", func := "awardingbody/awardingbodylaw04.IdentityFills", spec := "identityFills", inPlace := ["internal/bytealg.IndexByteString"], apart := false, narrowed := true }
def IdentityFillsUptoSaid : Prop := identityFillsUptoRow.holds Try.pinned (OpenSpec.upto identityFillsSpec)

/-- 'awardingbodylaw04.IdentityNears', WHERE WHAT IT READS IS OF BULK AT MOST 1048576: true; the input reads as it did. -/
def identityNearsUptoRow : OpenClaim := { program := "ytpdekglmmgecmaa", sum := "b8e4a73798f0a5f319a148733e1f917c850dd0d24ba2f9356330e3e527d078f9", func := "awardingbody/awardingbodylaw04.IdentityNears", spec := "identityNears", inPlace := ["internal/bytealg.IndexByteString"], recurses := true, apart := false, narrowed := true }
def IdentityNearsUptoSaid : Prop := identityNearsUptoRow.holds Try.pinned (OpenSpec.upto identityNearsSpec)

/-- 'awardingbodylaw04.IdentityDetects', WHERE WHAT IT READS IS OF BULK AT MOST 1048576: true; the input reads as it did. -/
def identityDetectsUptoRow : OpenClaim := { program := "ytpdekglmmgecmaa", sum := "b8e4a73798f0a5f319a148733e1f917c850dd0d24ba2f9356330e3e527d078f9", func := "awardingbody/awardingbodylaw04.IdentityDetects", spec := "identityDetects", inPlace := ["internal/bytealg.IndexByteString"], recurses := true, apart := false, narrowed := true }
def IdentityDetectsUptoSaid : Prop := identityDetectsUptoRow.holds Try.pinned (OpenSpec.upto identityDetectsSpec)

end Rows
end Go.Proofs.Ytpdekglmmgecmaa
