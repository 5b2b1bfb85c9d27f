/-
  No cell of these rows narrows 'for every input' (looked for: loops, veiled, ifaces, maps, wideKeys, modest, calm, conditions, laid).
  DERIVED. THE GIVEN ROWS OF THIS SEAT. 9 by the template 'for every input the law returns true; each argument reads behind the call as it read before'; 0 by the template 'total and deterministic' (their statements: YtokddjohdodkmaaTotals.lean).
  GIVEN WITH THE SEED: the statements are not yours to turn. If you find one false, say at which input.
  Laid BY PROGRAM, IN A SANDBOX (cutbox-rows.mjs): the forced cells as the released guide's own fill.sh prints them over the translation 2b2ee34c5c09445e… (all of the seat's roots in one cut). By AI agents, Wed Nov 11 2026. No macro, syntax, notation, axiom, sorry.
-/
import Derived.Test.YtokddjohdodkmaaChecked
import GoSem.Claim
import GoSem.ClaimJoined
import GoSem.ClaimMapViews
import Derived.JoinedTies
import Derived.KernelRfl
namespace Go.Proofs.Ytokddjohdodkmaa
/- THE CELL 'sum', in the pinned program and in every row, IS THE sha256 OF THE DUMP (.gsa) THAT YtokddjohdodkmaaProg.lean LOADS. Nothing in Lean hashes anything: it is a label: what it is worth is what the hold of that sum in a sandbox is worth. -/
noncomputable def Try.pinned : Pinned := { name := "ytokddjohdodkmaa", sum := "2b2ee34c5c09445efbacc1f213f3a4962d6db0b21dd1873dbde5ba35e94d2f8a", checked := Try.checked }
namespace Rows
def none {H : Type} : Left H := { results := [], args := [] }

/-- 'awardingbodylaw23.SchemeCloses': WHATEVER THE INPUT: true; the input reads as it did. -/
def schemeClosesSpec : ChangeSpec := { name := "schemeCloses", fn := fun _ => fun
  | [d1, d2] => { results := [.lit (.bool true)], args := [d1, d2] }
  | _ => none }
def schemeClosesRow : OpenClaim := { program := "ytokddjohdodkmaa", sum := "2b2ee34c5c09445efbacc1f213f3a4962d6db0b21dd1873dbde5ba35e94d2f8a", func := "awardingbody/awardingbodylaw23.SchemeCloses", spec := "schemeCloses", unfollowed := true, recurses := true, apart := false }
def SchemeClosesSaid : Prop := schemeClosesRow.holds Try.pinned (OpenSpec.ofChange schemeClosesSpec)

/-- ITS FALSE NEIGHBOUR: 'it returns false'. Refute it at one input. -/
def schemeClosesWrong : ChangeSpec := { name := "schemeCloses", fn := fun _ => fun
  | [d1, d2] => { results := [.lit (.bool false)], args := [d1, d2] }
  | _ => none }
def SchemeClosesWrongFalsely : Prop := schemeClosesRow.holds Try.pinned (OpenSpec.ofChange schemeClosesWrong)

/-- 'awardingbodylaw23.SchemeTotals': WHATEVER THE INPUT: true; the input reads as it did. -/
def schemeTotalsSpec : ChangeSpec := { name := "schemeTotals", fn := fun _ => fun
  | [d1, d2] => { results := [.lit (.bool true)], args := [d1, d2] }
  | _ => none }
def schemeTotalsRow : OpenClaim := { program := "ytokddjohdodkmaa", sum := "2b2ee34c5c09445efbacc1f213f3a4962d6db0b21dd1873dbde5ba35e94d2f8a", func := "awardingbody/awardingbodylaw23.SchemeTotals", spec := "schemeTotals", unfollowed := true, recurses := true, apart := false }
def SchemeTotalsSaid : Prop := schemeTotalsRow.holds Try.pinned (OpenSpec.ofChange schemeTotalsSpec)

/-- ITS FALSE NEIGHBOUR: 'it returns false'. Refute it at one input. -/
def schemeTotalsWrong : ChangeSpec := { name := "schemeTotals", fn := fun _ => fun
  | [d1, d2] => { results := [.lit (.bool false)], args := [d1, d2] }
  | _ => none }
def SchemeTotalsWrongFalsely : Prop := schemeTotalsRow.holds Try.pinned (OpenSpec.ofChange schemeTotalsWrong)

/-- 'awardingbodylaw23.SchemeWithdraws': WHATEVER THE INPUT: true; the input reads as it did. -/
def schemeWithdrawsSpec : ChangeSpec := { name := "schemeWithdraws", fn := fun _ => fun
  | [d1, d2, d3] => { results := [.lit (.bool true)], args := [d1, d2, d3] }
  | _ => none }
def schemeWithdrawsRow : OpenClaim := { program := "ytokddjohdodkmaa", sum := "2b2ee34c5c09445efbacc1f213f3a4962d6db0b21dd1873dbde5ba35e94d2f8a", func := "awardingbody/awardingbodylaw23.SchemeWithdraws", spec := "schemeWithdraws", unfollowed := true, recurses := true, apart := false }
def SchemeWithdrawsSaid : Prop := schemeWithdrawsRow.holds Try.pinned (OpenSpec.ofChange schemeWithdrawsSpec)

/-- ITS FALSE NEIGHBOUR: 'it returns false'. Refute it at one input. -/
def schemeWithdrawsWrong : ChangeSpec := { name := "schemeWithdraws", fn := fun _ => fun
  | [d1, d2, d3] => { results := [.lit (.bool false)], args := [d1, d2, d3] }
  | _ => none }
def SchemeWithdrawsWrongFalsely : Prop := schemeWithdrawsRow.holds Try.pinned (OpenSpec.ofChange schemeWithdrawsWrong)

/-- 'awardingbodylaw23.SchemeCredit': WHATEVER THE INPUT: true; the input reads as it did. -/
def schemeCreditSpec : ChangeSpec := { name := "schemeCredit", fn := fun _ => fun
  | [d1, d2] => { results := [.lit (.bool true)], args := [d1, d2] }
  | _ => none }
def schemeCreditRow : OpenClaim := { program := "ytokddjohdodkmaa", sum := "2b2ee34c5c09445efbacc1f213f3a4962d6db0b21dd1873dbde5ba35e94d2f8a", func := "awardingbody/awardingbodylaw23.SchemeCredit", spec := "schemeCredit", unfollowed := true, recurses := true, apart := false }
def SchemeCreditSaid : Prop := schemeCreditRow.holds Try.pinned (OpenSpec.ofChange schemeCreditSpec)

/-- ITS FALSE NEIGHBOUR: 'it returns false'. Refute it at one input. -/
def schemeCreditWrong : ChangeSpec := { name := "schemeCredit", fn := fun _ => fun
  | [d1, d2] => { results := [.lit (.bool false)], args := [d1, d2] }
  | _ => none }
def SchemeCreditWrongFalsely : Prop := schemeCreditRow.holds Try.pinned (OpenSpec.ofChange schemeCreditWrong)

/-- 'awardingbodylaw23.SchemeVoid': WHATEVER THE INPUT: true; the input reads as it did. -/
def schemeVoidSpec : ChangeSpec := { name := "schemeVoid", fn := fun _ => fun
  | [d1, d2] => { results := [.lit (.bool true)], args := [d1, d2] }
  | _ => none }
def schemeVoidRow : OpenClaim := { program := "ytokddjohdodkmaa", sum := "2b2ee34c5c09445efbacc1f213f3a4962d6db0b21dd1873dbde5ba35e94d2f8a", func := "awardingbody/awardingbodylaw23.SchemeVoid", spec := "schemeVoid", unfollowed := true, recurses := true, apart := false }
def SchemeVoidSaid : Prop := schemeVoidRow.holds Try.pinned (OpenSpec.ofChange schemeVoidSpec)

/-- ITS FALSE NEIGHBOUR: 'it returns false'. Refute it at one input. -/
def schemeVoidWrong : ChangeSpec := { name := "schemeVoid", fn := fun _ => fun
  | [d1, d2] => { results := [.lit (.bool false)], args := [d1, d2] }
  | _ => none }
def SchemeVoidWrongFalsely : Prop := schemeVoidRow.holds Try.pinned (OpenSpec.ofChange schemeVoidWrong)

/-- 'awardingbodylaw23.SchemePermits': WHATEVER THE INPUT: true; the input reads as it did. -/
def schemePermitsSpec : ChangeSpec := { name := "schemePermits", fn := fun _ => fun
  | [d1, d2, d3] => { results := [.lit (.bool true)], args := [d1, d2, d3] }
  | _ => none }
def schemePermitsRow : OpenClaim := { program := "ytokddjohdodkmaa", sum := "2b2ee34c5c09445efbacc1f213f3a4962d6db0b21dd1873dbde5ba35e94d2f8a", func := "awardingbody/awardingbodylaw23.SchemePermits", spec := "schemePermits", unfollowed := true, recurses := true, apart := false }
def SchemePermitsSaid : Prop := schemePermitsRow.holds Try.pinned (OpenSpec.ofChange schemePermitsSpec)

/-- ITS FALSE NEIGHBOUR: 'it returns false'. Refute it at one input. -/
def schemePermitsWrong : ChangeSpec := { name := "schemePermits", fn := fun _ => fun
  | [d1, d2, d3] => { results := [.lit (.bool false)], args := [d1, d2, d3] }
  | _ => none }
def SchemePermitsWrongFalsely : Prop := schemePermitsRow.holds Try.pinned (OpenSpec.ofChange schemePermitsWrong)

/-- 'awardingbodylaw23.SchemeBounds': WHATEVER THE INPUT: true; the input reads as it did. -/
def schemeBoundsSpec : ChangeSpec := { name := "schemeBounds", fn := fun _ => fun
  | [d] => { results := [.lit (.bool true)], args := [d] }
  | _ => none }
def schemeBoundsRow : OpenClaim := { program := "ytokddjohdodkmaa", sum := "2b2ee34c5c09445efbacc1f213f3a4962d6db0b21dd1873dbde5ba35e94d2f8a", func := "awardingbody/awardingbodylaw23.SchemeBounds", spec := "schemeBounds", unfollowed := true, recurses := true, apart := false }
def SchemeBoundsSaid : Prop := schemeBoundsRow.holds Try.pinned (OpenSpec.ofChange schemeBoundsSpec)

/-- ITS FALSE NEIGHBOUR: 'it returns false'. Refute it at one input. -/
def schemeBoundsWrong : ChangeSpec := { name := "schemeBounds", fn := fun _ => fun
  | [d] => { results := [.lit (.bool false)], args := [d] }
  | _ => none }
def SchemeBoundsWrongFalsely : Prop := schemeBoundsRow.holds Try.pinned (OpenSpec.ofChange schemeBoundsWrong)

/-- 'awardingbodylaw23.SchemeValid': WHATEVER THE INPUT: true; the input reads as it did. -/
def schemeValidSpec : ChangeSpec := { name := "schemeValid", fn := fun _ => fun
  | [d1, d2, d3] => { results := [.lit (.bool true)], args := [d1, d2, d3] }
  | _ => none }
def schemeValidRow : OpenClaim := { program := "ytokddjohdodkmaa", sum := "2b2ee34c5c09445efbacc1f213f3a4962d6db0b21dd1873dbde5ba35e94d2f8a", func := "awardingbody/awardingbodylaw23.SchemeValid", spec := "schemeValid", unfollowed := true, recurses := true, apart := false }
def SchemeValidSaid : Prop := schemeValidRow.holds Try.pinned (OpenSpec.ofChange schemeValidSpec)

/-- ITS FALSE NEIGHBOUR: 'it returns false'. Refute it at one input. -/
def schemeValidWrong : ChangeSpec := { name := "schemeValid", fn := fun _ => fun
  | [d1, d2, d3] => { results := [.lit (.bool false)], args := [d1, d2, d3] }
  | _ => none }
def SchemeValidWrongFalsely : Prop := schemeValidRow.holds Try.pinned (OpenSpec.ofChange schemeValidWrong)

/-- 'awardingbodylaw23.SchemeWider': WHATEVER THE INPUT: true; the input reads as it did. -/
def schemeWiderSpec : ChangeSpec := { name := "schemeWider", fn := fun _ => fun
  | [d1, d2, d3] => { results := [.lit (.bool true)], args := [d1, d2, d3] }
  | _ => none }
def schemeWiderRow : OpenClaim := { program := "ytokddjohdodkmaa", sum := "2b2ee34c5c09445efbacc1f213f3a4962d6db0b21dd1873dbde5ba35e94d2f8a", func := "awardingbody/awardingbodylaw23.SchemeWider", spec := "schemeWider", unfollowed := true, recurses := true, apart := false }
def SchemeWiderSaid : Prop := schemeWiderRow.holds Try.pinned (OpenSpec.ofChange schemeWiderSpec)

/-- ITS FALSE NEIGHBOUR: 'it returns false'. Refute it at one input. -/
def schemeWiderWrong : ChangeSpec := { name := "schemeWider", fn := fun _ => fun
  | [d1, d2, d3] => { results := [.lit (.bool false)], args := [d1, d2, d3] }
  | _ => none }
def SchemeWiderWrongFalsely : Prop := schemeWiderRow.holds Try.pinned (OpenSpec.ofChange schemeWiderWrong)

/- THE SECOND FORM. 'bulk': how many values and letters a reading holds, each counted each time it is reached (what is shared counts as often as it is met; a slice's spare places count too). A statement '..UptoSaid' is the law's where the arguments, and the package variables that the reading takes, are together of bulk at most 1048576: NARROWER than '..Said'. Prove '..Said' where nothing that the law and all that it calls make is longer than what came in: it says more and counts as full. Else prove '..UptoSaid'. A law counts once. -/
mutual
def uptoBulk {H : Type} : DataW H → Nat
  | .lit (.string bytes) => bytes.length + 1
  | .lit _ => 1
  | .nil => 1
  | .ptr d => uptoBulk d + 1
  | .slice elems spare => uptoBulkAll elems + uptoBulkAll spare + 1
  | .agg parts => uptoBulkAll parts + 1
  | .iface _ d => uptoBulk d + 1
  | .map entries => uptoBulkEntries entries + 1
  | .held _ => 1
def uptoBulkAll {H : Type} : List (DataW H) → Nat
  | [] => 0
  | d :: r => uptoBulk d + uptoBulkAll r
def uptoBulkEntries {H : Type} : List (Lit × DataW H) → Nat
  | [] => 0
  | x :: r => uptoBulkEntry x + uptoBulkEntries r
def uptoBulkEntry {H : Type} : Lit × DataW H → Nat
  | (.string bytes, d) => bytes.length + uptoBulk d + 1
  | (_, d) => uptoBulk d + 1
 end
def uptoSmall : (H : Type) → List (DataW H) → Bool := fun _ ds => decide (uptoBulkAll ds ≤ 1048576)
def OpenSpec.upto (s : _root_.Go.ChangeSpec) : _root_.Go.OpenSpec := { _root_.Go.OpenSpec.ofChange s with cond := some uptoSmall }

/-- 'awardingbodylaw23.SchemeCloses', WHERE WHAT IT READS IS OF BULK AT MOST 1048576: true; the input reads as it did. -/
def schemeClosesUptoRow : OpenClaim := { program := "ytokddjohdodkmaa", sum := "2b2ee34c5c09445efbacc1f213f3a4962d6db0b21dd1873dbde5ba35e94d2f8a", func := "awardingbody/awardingbodylaw23.SchemeCloses", spec := "schemeCloses", unfollowed := true, recurses := true, apart := false, narrowed := true }
def SchemeClosesUptoSaid : Prop := schemeClosesUptoRow.holds Try.pinned (OpenSpec.upto schemeClosesSpec)

/-- 'awardingbodylaw23.SchemeTotals', WHERE WHAT IT READS IS OF BULK AT MOST 1048576: true; the input reads as it did. -/
def schemeTotalsUptoRow : OpenClaim := { program := "ytokddjohdodkmaa", sum := "2b2ee34c5c09445efbacc1f213f3a4962d6db0b21dd1873dbde5ba35e94d2f8a", func := "awardingbody/awardingbodylaw23.SchemeTotals", spec := "schemeTotals", unfollowed := true, recurses := true, apart := false, narrowed := true }
def SchemeTotalsUptoSaid : Prop := schemeTotalsUptoRow.holds Try.pinned (OpenSpec.upto schemeTotalsSpec)

/-- 'awardingbodylaw23.SchemeWithdraws', WHERE WHAT IT READS IS OF BULK AT MOST 1048576: true; the input reads as it did. -/
def schemeWithdrawsUptoRow : OpenClaim := { program := "ytokddjohdodkmaa", sum := "2b2ee34c5c09445efbacc1f213f3a4962d6db0b21dd1873dbde5ba35e94d2f8a", func := "awardingbody/awardingbodylaw23.SchemeWithdraws", spec := "schemeWithdraws", unfollowed := true, recurses := true, apart := false, narrowed := true }
def SchemeWithdrawsUptoSaid : Prop := schemeWithdrawsUptoRow.holds Try.pinned (OpenSpec.upto schemeWithdrawsSpec)

/-- 'awardingbodylaw23.SchemeCredit', WHERE WHAT IT READS IS OF BULK AT MOST 1048576: true; the input reads as it did. -/
def schemeCreditUptoRow : OpenClaim := { program := "ytokddjohdodkmaa", sum := "2b2ee34c5c09445efbacc1f213f3a4962d6db0b21dd1873dbde5ba35e94d2f8a", func := "awardingbody/awardingbodylaw23.SchemeCredit", spec := "schemeCredit", unfollowed := true, recurses := true, apart := false, narrowed := true }
def SchemeCreditUptoSaid : Prop := schemeCreditUptoRow.holds Try.pinned (OpenSpec.upto schemeCreditSpec)

/-- 'awardingbodylaw23.SchemeVoid', WHERE WHAT IT READS IS OF BULK AT MOST 1048576: true; the input reads as it did. -/
def schemeVoidUptoRow : OpenClaim := { program := "ytokddjohdodkmaa", sum := "2b2ee34c5c09445efbacc1f213f3a4962d6db0b21dd1873dbde5ba35e94d2f8a", func := "awardingbody/awardingbodylaw23.SchemeVoid", spec := "schemeVoid", unfollowed := true, recurses := true, apart := false, narrowed := true }
def SchemeVoidUptoSaid : Prop := schemeVoidUptoRow.holds Try.pinned (OpenSpec.upto schemeVoidSpec)

/-- 'awardingbodylaw23.SchemePermits', WHERE WHAT IT READS IS OF BULK AT MOST 1048576: true; the input reads as it did. -/
def schemePermitsUptoRow : OpenClaim := { program := "ytokddjohdodkmaa", sum := "2b2ee34c5c09445efbacc1f213f3a4962d6db0b21dd1873dbde5ba35e94d2f8a", func := "awardingbody/awardingbodylaw23.SchemePermits", spec := "schemePermits", unfollowed := true, recurses := true, apart := false, narrowed := true }
def SchemePermitsUptoSaid : Prop := schemePermitsUptoRow.holds Try.pinned (OpenSpec.upto schemePermitsSpec)

/-- 'awardingbodylaw23.SchemeBounds', WHERE WHAT IT READS IS OF BULK AT MOST 1048576: true; the input reads as it did. -/
def schemeBoundsUptoRow : OpenClaim := { program := "ytokddjohdodkmaa", sum := "2b2ee34c5c09445efbacc1f213f3a4962d6db0b21dd1873dbde5ba35e94d2f8a", func := "awardingbody/awardingbodylaw23.SchemeBounds", spec := "schemeBounds", unfollowed := true, recurses := true, apart := false, narrowed := true }
def SchemeBoundsUptoSaid : Prop := schemeBoundsUptoRow.holds Try.pinned (OpenSpec.upto schemeBoundsSpec)

/-- 'awardingbodylaw23.SchemeValid', WHERE WHAT IT READS IS OF BULK AT MOST 1048576: true; the input reads as it did. -/
def schemeValidUptoRow : OpenClaim := { program := "ytokddjohdodkmaa", sum := "2b2ee34c5c09445efbacc1f213f3a4962d6db0b21dd1873dbde5ba35e94d2f8a", func := "awardingbody/awardingbodylaw23.SchemeValid", spec := "schemeValid", unfollowed := true, recurses := true, apart := false, narrowed := true }
def SchemeValidUptoSaid : Prop := schemeValidUptoRow.holds Try.pinned (OpenSpec.upto schemeValidSpec)

/-- 'awardingbodylaw23.SchemeWider', WHERE WHAT IT READS IS OF BULK AT MOST 1048576: true; the input reads as it did. -/
def schemeWiderUptoRow : OpenClaim := { program := "ytokddjohdodkmaa", sum := "2b2ee34c5c09445efbacc1f213f3a4962d6db0b21dd1873dbde5ba35e94d2f8a", func := "awardingbody/awardingbodylaw23.SchemeWider", spec := "schemeWider", unfollowed := true, recurses := true, apart := false, narrowed := true }
def SchemeWiderUptoSaid : Prop := schemeWiderUptoRow.holds Try.pinned (OpenSpec.upto schemeWiderSpec)

end Rows
end Go.Proofs.Ytokddjohdodkmaa
