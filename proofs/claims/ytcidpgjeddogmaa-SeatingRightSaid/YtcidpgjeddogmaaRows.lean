/-
  No cell of these rows narrows 'for every input' (looked for: loops, veiled, ifaces, maps, wideKeys, modest, calm, conditions, laid).
  DERIVED. THE GIVEN ROWS OF THIS SEAT. 11 by the template 'for every input the law returns true; each argument reads behind the call as it read before'; 0 by the template 'total and deterministic' (their statements: YtcidpgjeddogmaaTotals.lean).
  GIVEN WITH THE SEED: the statements are not yours to turn. If you find one false, say at which input.
  Laid BY PROGRAM, IN A SANDBOX (cutbox-rows.mjs): the forced cells as the released guide's own fill.sh prints them over the translation fe5b835d4b86476c… (all of the seat's roots in one cut). By AI agents, Wed Nov 11 2026. No macro, syntax, notation, axiom, sorry.
-/
import Derived.Test.YtcidpgjeddogmaaChecked
import GoSem.Claim
import GoSem.ClaimJoined
import GoSem.ClaimMapViews
import Derived.JoinedTies
import Derived.KernelRfl
namespace Go.Proofs.Ytcidpgjeddogmaa
/- THE CELL 'sum', in the pinned program and in every row, IS THE sha256 OF THE DUMP (.gsa) THAT YtcidpgjeddogmaaProg.lean LOADS. Nothing in Lean hashes anything: it is a label: what it is worth is what the hold of that sum in a sandbox is worth. -/
noncomputable def Try.pinned : Pinned := { name := "ytcidpgjeddogmaa", sum := "fe5b835d4b86476ceb6f3c8978d3108375de3bfb76a40b508cfeeabad7d196b4", checked := Try.checked }
namespace Rows
def none {H : Type} : Left H := { results := [], args := [] }

/-- 'awardingbodylaw15.SeatingChecks': WHATEVER THE INPUT: true; the input reads as it did. -/
def seatingChecksSpec : ChangeSpec := { name := "seatingChecks", fn := fun _ => fun
  | [d1, d2] => { results := [.lit (.bool true)], args := [d1, d2] }
  | _ => none }
def seatingChecksRow : OpenClaim := { program := "ytcidpgjeddogmaa", sum := "fe5b835d4b86476ceb6f3c8978d3108375de3bfb76a40b508cfeeabad7d196b4", func := "awardingbody/awardingbodylaw15.SeatingChecks", spec := "seatingChecks", unfollowed := true, recurses := true, plainKeys := false, apart := false }
def SeatingChecksSaid : Prop := seatingChecksRow.holds Try.pinned (OpenSpec.ofChange seatingChecksSpec)

/-- ITS FALSE NEIGHBOUR: 'it returns false'. Refute it at one input. -/
def seatingChecksWrong : ChangeSpec := { name := "seatingChecks", fn := fun _ => fun
  | [d1, d2] => { results := [.lit (.bool false)], args := [d1, d2] }
  | _ => none }
def SeatingChecksWrongFalsely : Prop := seatingChecksRow.holds Try.pinned (OpenSpec.ofChange seatingChecksWrong)

/-- 'awardingbodylaw15.SeatingMany': WHATEVER THE INPUT: true; the input reads as it did. -/
def seatingManySpec : ChangeSpec := { name := "seatingMany", fn := fun _ => fun
  | [d1, d2] => { results := [.lit (.bool true)], args := [d1, d2] }
  | _ => none }
def seatingManyRow : OpenClaim := { program := "ytcidpgjeddogmaa", sum := "fe5b835d4b86476ceb6f3c8978d3108375de3bfb76a40b508cfeeabad7d196b4", func := "awardingbody/awardingbodylaw15.SeatingMany", spec := "seatingMany", unfollowed := true, recurses := true, plainKeys := false, apart := false }
def SeatingManySaid : Prop := seatingManyRow.holds Try.pinned (OpenSpec.ofChange seatingManySpec)

/-- ITS FALSE NEIGHBOUR: 'it returns false'. Refute it at one input. -/
def seatingManyWrong : ChangeSpec := { name := "seatingMany", fn := fun _ => fun
  | [d1, d2] => { results := [.lit (.bool false)], args := [d1, d2] }
  | _ => none }
def SeatingManyWrongFalsely : Prop := seatingManyRow.holds Try.pinned (OpenSpec.ofChange seatingManyWrong)

/-- 'awardingbodylaw15.SeatingVariants': WHATEVER THE INPUT: true; the input reads as it did. -/
def seatingVariantsSpec : ChangeSpec := { name := "seatingVariants", fn := fun _ => fun
  | [d1, d2, d3] => { results := [.lit (.bool true)], args := [d1, d2, d3] }
  | _ => none }
def seatingVariantsRow : OpenClaim := { program := "ytcidpgjeddogmaa", sum := "fe5b835d4b86476ceb6f3c8978d3108375de3bfb76a40b508cfeeabad7d196b4", func := "awardingbody/awardingbodylaw15.SeatingVariants", spec := "seatingVariants", unfollowed := true, recurses := true, plainKeys := false, apart := false }
def SeatingVariantsSaid : Prop := seatingVariantsRow.holds Try.pinned (OpenSpec.ofChange seatingVariantsSpec)

/-- ITS FALSE NEIGHBOUR: 'it returns false'. Refute it at one input. -/
def seatingVariantsWrong : ChangeSpec := { name := "seatingVariants", fn := fun _ => fun
  | [d1, d2, d3] => { results := [.lit (.bool false)], args := [d1, d2, d3] }
  | _ => none }
def SeatingVariantsWrongFalsely : Prop := seatingVariantsRow.holds Try.pinned (OpenSpec.ofChange seatingVariantsWrong)

/-- 'awardingbodylaw15.SeatingNeighbours': WHATEVER THE INPUT: true; the input reads as it did. -/
def seatingNeighboursSpec : ChangeSpec := { name := "seatingNeighbours", fn := fun _ => fun
  | [d1, d2, d3, d4] => { results := [.lit (.bool true)], args := [d1, d2, d3, d4] }
  | _ => none }
def seatingNeighboursRow : OpenClaim := { program := "ytcidpgjeddogmaa", sum := "fe5b835d4b86476ceb6f3c8978d3108375de3bfb76a40b508cfeeabad7d196b4", func := "awardingbody/awardingbodylaw15.SeatingNeighbours", spec := "seatingNeighbours", unfollowed := true, recurses := true, plainKeys := false, apart := false }
def SeatingNeighboursSaid : Prop := seatingNeighboursRow.holds Try.pinned (OpenSpec.ofChange seatingNeighboursSpec)

/-- ITS FALSE NEIGHBOUR: 'it returns false'. Refute it at one input. -/
def seatingNeighboursWrong : ChangeSpec := { name := "seatingNeighbours", fn := fun _ => fun
  | [d1, d2, d3, d4] => { results := [.lit (.bool false)], args := [d1, d2, d3, d4] }
  | _ => none }
def SeatingNeighboursWrongFalsely : Prop := seatingNeighboursRow.holds Try.pinned (OpenSpec.ofChange seatingNeighboursWrong)

/-- 'awardingbodylaw15.SeatingSuits': WHATEVER THE INPUT: true; the input reads as it did. -/
def seatingSuitsSpec : ChangeSpec := { name := "seatingSuits", fn := fun _ => fun
  | [d1, d2] => { results := [.lit (.bool true)], args := [d1, d2] }
  | _ => none }
def seatingSuitsRow : OpenClaim := { program := "ytcidpgjeddogmaa", sum := "fe5b835d4b86476ceb6f3c8978d3108375de3bfb76a40b508cfeeabad7d196b4", func := "awardingbody/awardingbodylaw15.SeatingSuits", spec := "seatingSuits", unfollowed := true, recurses := true, plainKeys := false, apart := false }
def SeatingSuitsSaid : Prop := seatingSuitsRow.holds Try.pinned (OpenSpec.ofChange seatingSuitsSpec)

/-- ITS FALSE NEIGHBOUR: 'it returns false'. Refute it at one input. -/
def seatingSuitsWrong : ChangeSpec := { name := "seatingSuits", fn := fun _ => fun
  | [d1, d2] => { results := [.lit (.bool false)], args := [d1, d2] }
  | _ => none }
def SeatingSuitsWrongFalsely : Prop := seatingSuitsRow.holds Try.pinned (OpenSpec.ofChange seatingSuitsWrong)

/-- 'awardingbodylaw15.SeatingAssigns': WHATEVER THE INPUT: true; the input reads as it did. -/
def seatingAssignsSpec : ChangeSpec := { name := "seatingAssigns", fn := fun _ => fun
  | [d1, d2, d3] => { results := [.lit (.bool true)], args := [d1, d2, d3] }
  | _ => none }
def seatingAssignsRow : OpenClaim := { program := "ytcidpgjeddogmaa", sum := "fe5b835d4b86476ceb6f3c8978d3108375de3bfb76a40b508cfeeabad7d196b4", func := "awardingbody/awardingbodylaw15.SeatingAssigns", spec := "seatingAssigns", unfollowed := true, recurses := true, plainKeys := false, apart := false }
def SeatingAssignsSaid : Prop := seatingAssignsRow.holds Try.pinned (OpenSpec.ofChange seatingAssignsSpec)

/-- ITS FALSE NEIGHBOUR: 'it returns false'. Refute it at one input. -/
def seatingAssignsWrong : ChangeSpec := { name := "seatingAssigns", fn := fun _ => fun
  | [d1, d2, d3] => { results := [.lit (.bool false)], args := [d1, d2, d3] }
  | _ => none }
def SeatingAssignsWrongFalsely : Prop := seatingAssignsRow.holds Try.pinned (OpenSpec.ofChange seatingAssignsWrong)

/-- 'awardingbodylaw15.SeatingRight': WHATEVER THE INPUT: true; the input reads as it did. -/
def seatingRightSpec : ChangeSpec := { name := "seatingRight", fn := fun _ => fun
  | [d1, d2] => { results := [.lit (.bool true)], args := [d1, d2] }
  | _ => none }
def seatingRightRow : OpenClaim := { program := "ytcidpgjeddogmaa", sum := "fe5b835d4b86476ceb6f3c8978d3108375de3bfb76a40b508cfeeabad7d196b4", func := "awardingbody/awardingbodylaw15.SeatingRight", spec := "seatingRight", unfollowed := true, recurses := true, plainKeys := false, apart := false }
def SeatingRightSaid : Prop := seatingRightRow.holds Try.pinned (OpenSpec.ofChange seatingRightSpec)

/-- ITS FALSE NEIGHBOUR: 'it returns false'. Refute it at one input. -/
def seatingRightWrong : ChangeSpec := { name := "seatingRight", fn := fun _ => fun
  | [d1, d2] => { results := [.lit (.bool false)], args := [d1, d2] }
  | _ => none }
def SeatingRightWrongFalsely : Prop := seatingRightRow.holds Try.pinned (OpenSpec.ofChange seatingRightWrong)

/-- 'awardingbodylaw15.SeatingShort': WHATEVER THE INPUT: true; the input reads as it did. -/
def seatingShortSpec : ChangeSpec := { name := "seatingShort", fn := fun _ => fun
  | [d1, d2] => { results := [.lit (.bool true)], args := [d1, d2] }
  | _ => none }
def seatingShortRow : OpenClaim := { program := "ytcidpgjeddogmaa", sum := "fe5b835d4b86476ceb6f3c8978d3108375de3bfb76a40b508cfeeabad7d196b4", func := "awardingbody/awardingbodylaw15.SeatingShort", spec := "seatingShort", unfollowed := true, recurses := true, plainKeys := false, apart := false }
def SeatingShortSaid : Prop := seatingShortRow.holds Try.pinned (OpenSpec.ofChange seatingShortSpec)

/-- ITS FALSE NEIGHBOUR: 'it returns false'. Refute it at one input. -/
def seatingShortWrong : ChangeSpec := { name := "seatingShort", fn := fun _ => fun
  | [d1, d2] => { results := [.lit (.bool false)], args := [d1, d2] }
  | _ => none }
def SeatingShortWrongFalsely : Prop := seatingShortRow.holds Try.pinned (OpenSpec.ofChange seatingShortWrong)

/-- 'awardingbodylaw15.SeatingPlaces': WHATEVER THE INPUT: true; the input reads as it did. -/
def seatingPlacesSpec : ChangeSpec := { name := "seatingPlaces", fn := fun _ => fun
  | [d1, d2] => { results := [.lit (.bool true)], args := [d1, d2] }
  | _ => none }
def seatingPlacesRow : OpenClaim := { program := "ytcidpgjeddogmaa", sum := "fe5b835d4b86476ceb6f3c8978d3108375de3bfb76a40b508cfeeabad7d196b4", func := "awardingbody/awardingbodylaw15.SeatingPlaces", spec := "seatingPlaces", unfollowed := true, recurses := true, plainKeys := false, apart := false }
def SeatingPlacesSaid : Prop := seatingPlacesRow.holds Try.pinned (OpenSpec.ofChange seatingPlacesSpec)

/-- ITS FALSE NEIGHBOUR: 'it returns false'. Refute it at one input. -/
def seatingPlacesWrong : ChangeSpec := { name := "seatingPlaces", fn := fun _ => fun
  | [d1, d2] => { results := [.lit (.bool false)], args := [d1, d2] }
  | _ => none }
def SeatingPlacesWrongFalsely : Prop := seatingPlacesRow.holds Try.pinned (OpenSpec.ofChange seatingPlacesWrong)

/-- 'awardingbodylaw15.SeatingEither': WHATEVER THE INPUT: true; the input reads as it did. -/
def seatingEitherSpec : ChangeSpec := { name := "seatingEither", fn := fun _ => fun
  | [d] => { results := [.lit (.bool true)], args := [d] }
  | _ => none }
def seatingEitherRow : OpenClaim := { program := "ytcidpgjeddogmaa", sum := "fe5b835d4b86476ceb6f3c8978d3108375de3bfb76a40b508cfeeabad7d196b4", func := "awardingbody/awardingbodylaw15.SeatingEither", spec := "seatingEither", unfollowed := true, recurses := true, plainKeys := false, apart := false }
def SeatingEitherSaid : Prop := seatingEitherRow.holds Try.pinned (OpenSpec.ofChange seatingEitherSpec)

/-- ITS FALSE NEIGHBOUR: 'it returns false'. Refute it at one input. -/
def seatingEitherWrong : ChangeSpec := { name := "seatingEither", fn := fun _ => fun
  | [d] => { results := [.lit (.bool false)], args := [d] }
  | _ => none }
def SeatingEitherWrongFalsely : Prop := seatingEitherRow.holds Try.pinned (OpenSpec.ofChange seatingEitherWrong)

/-- 'awardingbodylaw15.SeatingApart': WHATEVER THE INPUT: true; the input reads as it did. -/
def seatingApartSpec : ChangeSpec := { name := "seatingApart", fn := fun _ => fun
  | [d1, d2] => { results := [.lit (.bool true)], args := [d1, d2] }
  | _ => none }
def seatingApartRow : OpenClaim := { program := "ytcidpgjeddogmaa", sum := "fe5b835d4b86476ceb6f3c8978d3108375de3bfb76a40b508cfeeabad7d196b4", func := "awardingbody/awardingbodylaw15.SeatingApart", spec := "seatingApart", unfollowed := true, recurses := true, plainKeys := false, apart := false }
def SeatingApartSaid : Prop := seatingApartRow.holds Try.pinned (OpenSpec.ofChange seatingApartSpec)

/-- ITS FALSE NEIGHBOUR: 'it returns false'. Refute it at one input. -/
def seatingApartWrong : ChangeSpec := { name := "seatingApart", fn := fun _ => fun
  | [d1, d2] => { results := [.lit (.bool false)], args := [d1, d2] }
  | _ => none }
def SeatingApartWrongFalsely : Prop := seatingApartRow.holds Try.pinned (OpenSpec.ofChange seatingApartWrong)

/- THE SECOND FORM. 'bulk': how many values and letters a reading holds, each counted each time it is reached (what is shared counts as often as it is met; a slice's spare places count too). A statement '..UptoSaid' is the law's where the arguments, and the package variables that the reading takes, are together of bulk at most 1048576: NARROWER than '..Said'. Prove '..Said' where nothing that the law and all that it calls make is longer than what came in: it says more and counts as full. Else prove '..UptoSaid'. A law counts once. -/
mutual
def uptoBulk {H : Type} : DataW H → Nat
  | .lit (.string bytes) => bytes.length + 1
  | .lit _ => 1
  | .nil => 1
  | .ptr d => uptoBulk d + 1
  | .slice elems spare => uptoBulkAll elems + uptoBulkAll spare + 1
  | .agg parts => uptoBulkAll parts + 1
  | .iface _ d => uptoBulk d + 1
  | .map entries => uptoBulkEntries entries + 1
  | .held _ => 1
def uptoBulkAll {H : Type} : List (DataW H) → Nat
  | [] => 0
  | d :: r => uptoBulk d + uptoBulkAll r
def uptoBulkEntries {H : Type} : List (Lit × DataW H) → Nat
  | [] => 0
  | x :: r => uptoBulkEntry x + uptoBulkEntries r
def uptoBulkEntry {H : Type} : Lit × DataW H → Nat
  | (.string bytes, d) => bytes.length + uptoBulk d + 1
  | (_, d) => uptoBulk d + 1
 end
def uptoSmall : (H : Type) → List (DataW H) → Bool := fun _ ds => decide (uptoBulkAll ds ≤ 1048576)
def OpenSpec.upto (s : _root_.Go.ChangeSpec) : _root_.Go.OpenSpec := { _root_.Go.OpenSpec.ofChange s with cond := some uptoSmall }

/-- 'awardingbodylaw15.SeatingChecks', WHERE WHAT IT READS IS OF BULK AT MOST 1048576: true; the input reads as it did. -/
def seatingChecksUptoRow : OpenClaim := { program := "ytcidpgjeddogmaa", sum := "fe5b835d4b86476ceb6f3c8978d3108375de3bfb76a40b508cfeeabad7d196b4", func := "awardingbody/awardingbodylaw15.SeatingChecks", spec := "seatingChecks", unfollowed := true, recurses := true, plainKeys := false, apart := false, narrowed := true }
def SeatingChecksUptoSaid : Prop := seatingChecksUptoRow.holds Try.pinned (OpenSpec.upto seatingChecksSpec)

/-- 'awardingbodylaw15.SeatingMany', WHERE WHAT IT READS IS OF BULK AT MOST 1048576: true; the input reads as it did. -/
def seatingManyUptoRow : OpenClaim := { program := "ytcidpgjeddogmaa", sum := "fe5b835d4b86476ceb6f3c8978d3108375de3bfb76a40b508cfeeabad7d196b4", func := "awardingbody/awardingbodylaw15.SeatingMany", spec := "seatingMany", unfollowed := true, recurses := true, plainKeys := false, apart := false, narrowed := true }
def SeatingManyUptoSaid : Prop := seatingManyUptoRow.holds Try.pinned (OpenSpec.upto seatingManySpec)

/-- 'awardingbodylaw15.SeatingVariants', WHERE WHAT IT READS IS OF BULK AT MOST 1048576: true; the input reads as it did. -/
def seatingVariantsUptoRow : OpenClaim := { program := "ytcidpgjeddogmaa", sum := "fe5b835d4b86476ceb6f3c8978d3108375de3bfb76a40b508cfeeabad7d196b4", func := "awardingbody/awardingbodylaw15.SeatingVariants", spec := "seatingVariants", unfollowed := true, recurses := true, plainKeys := false, apart := false, narrowed := true }
def SeatingVariantsUptoSaid : Prop := seatingVariantsUptoRow.holds Try.pinned (OpenSpec.upto seatingVariantsSpec)

/-- 'awardingbodylaw15.SeatingNeighbours', WHERE WHAT IT READS IS OF BULK AT MOST 1048576: true; the input reads as it did. -/
def seatingNeighboursUptoRow : OpenClaim := { program := "ytcidpgjeddogmaa", sum := "fe5b835d4b86476ceb6f3c8978d3108375de3bfb76a40b508cfeeabad7d196b4", func := "awardingbody/awardingbodylaw15.SeatingNeighbours", spec := "seatingNeighbours", unfollowed := true, recurses := true, plainKeys := false, apart := false, narrowed := true }
def SeatingNeighboursUptoSaid : Prop := seatingNeighboursUptoRow.holds Try.pinned (OpenSpec.upto seatingNeighboursSpec)

/-- 'awardingbodylaw15.SeatingSuits', WHERE WHAT IT READS IS OF BULK AT MOST 1048576: true; the input reads as it did. -/
def seatingSuitsUptoRow : OpenClaim := { program := "ytcidpgjeddogmaa", sum := "fe5b835d4b86476ceb6f3c8978d3108375de3bfb76a40b508cfeeabad7d196b4", func := "awardingbody/awardingbodylaw15.SeatingSuits", spec := "seatingSuits", unfollowed := true, recurses := true, plainKeys := false, apart := false, narrowed := true }
def SeatingSuitsUptoSaid : Prop := seatingSuitsUptoRow.holds Try.pinned (OpenSpec.upto seatingSuitsSpec)

/-- 'awardingbodylaw15.SeatingAssigns', WHERE WHAT IT READS IS OF BULK AT MOST 1048576: true; the input reads as it did. -/
def seatingAssignsUptoRow : OpenClaim := { program := "ytcidpgjeddogmaa", sum := "fe5b835d4b86476ceb6f3c8978d3108375de3bfb76a40b508cfeeabad7d196b4", func := "awardingbody/awardingbodylaw15.SeatingAssigns", spec := "seatingAssigns", unfollowed := true, recurses := true, plainKeys := false, apart := false, narrowed := true }
def SeatingAssignsUptoSaid : Prop := seatingAssignsUptoRow.holds Try.pinned (OpenSpec.upto seatingAssignsSpec)

/-- 'awardingbodylaw15.SeatingRight', WHERE WHAT IT READS IS OF BULK AT MOST 1048576: true; the input reads as it did. -/
def seatingRightUptoRow : OpenClaim := { program := "ytcidpgjeddogmaa", sum := "fe5b835d4b86476ceb6f3c8978d3108375de3bfb76a40b508cfeeabad7d196b4", func := "awardingbody/awardingbodylaw15.SeatingRight", spec := "seatingRight", unfollowed := true, recurses := true, plainKeys := false, apart := false, narrowed := true }
def SeatingRightUptoSaid : Prop := seatingRightUptoRow.holds Try.pinned (OpenSpec.upto seatingRightSpec)

/-- 'awardingbodylaw15.SeatingShort', WHERE WHAT IT READS IS OF BULK AT MOST 1048576: true; the input reads as it did. -/
def seatingShortUptoRow : OpenClaim := { program := "ytcidpgjeddogmaa", sum := "fe5b835d4b86476ceb6f3c8978d3108375de3bfb76a40b508cfeeabad7d196b4", func := "awardingbody/awardingbodylaw15.SeatingShort", spec := "seatingShort", unfollowed := true, recurses := true, plainKeys := false, apart := false, narrowed := true }
def SeatingShortUptoSaid : Prop := seatingShortUptoRow.holds Try.pinned (OpenSpec.upto seatingShortSpec)

/-- 'awardingbodylaw15.SeatingPlaces', WHERE WHAT IT READS IS OF BULK AT MOST 1048576: true; the input reads as it did. -/
def seatingPlacesUptoRow : OpenClaim := { program := "ytcidpgjeddogmaa", sum := "fe5b835d4b86476ceb6f3c8978d3108375de3bfb76a40b508cfeeabad7d196b4", func := "awardingbody/awardingbodylaw15.SeatingPlaces", spec := "seatingPlaces", unfollowed := true, recurses := true, plainKeys := false, apart := false, narrowed := true }
def SeatingPlacesUptoSaid : Prop := seatingPlacesUptoRow.holds Try.pinned (OpenSpec.upto seatingPlacesSpec)

/-- 'awardingbodylaw15.SeatingEither', WHERE WHAT IT READS IS OF BULK AT MOST 1048576: true; the input reads as it did. -/
def seatingEitherUptoRow : OpenClaim := { program := "ytcidpgjeddogmaa", sum := "fe5b835d4b86476ceb6f3c8978d3108375de3bfb76a40b508cfeeabad7d196b4", func := "awardingbody/awardingbodylaw15.SeatingEither", spec := "seatingEither", unfollowed := true, recurses := true, plainKeys := false, apart := false, narrowed := true }
def SeatingEitherUptoSaid : Prop := seatingEitherUptoRow.holds Try.pinned (OpenSpec.upto seatingEitherSpec)

/-- 'awardingbodylaw15.SeatingApart', WHERE WHAT IT READS IS OF BULK AT MOST 1048576: true; the input reads as it did. -/
def seatingApartUptoRow : OpenClaim := { program := "ytcidpgjeddogmaa", sum := "fe5b835d4b86476ceb6f3c8978d3108375de3bfb76a40b508cfeeabad7d196b4", func := "awardingbody/awardingbodylaw15.SeatingApart", spec := "seatingApart", unfollowed := true, recurses := true, plainKeys := false, apart := false, narrowed := true }
def SeatingApartUptoSaid : Prop := seatingApartUptoRow.holds Try.pinned (OpenSpec.upto seatingApartSpec)

end Rows
end Go.Proofs.Ytcidpgjeddogmaa
