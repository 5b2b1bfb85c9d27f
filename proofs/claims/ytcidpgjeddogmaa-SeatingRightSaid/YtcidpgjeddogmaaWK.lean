/- Walk: the statement SeatingChecks. -/
import Derived.Test.YtcidpgjeddogmaaWI
import Derived.WalkKit
import Derived.WalkSpells
import Derived.WalkLawsBesides
import Derived.Deep.QuietTactic
import Derived.BigQuiet
import Derived.Deep.Draws
import Derived.Deep.AppendLies
import Derived.Laws.OwnMore
import Derived.Laws.BytesArg
import Derived.Lib.Hide
import Derived.Deep.LoopGhost
namespace Go.Proofs.Ytcidpgjeddogmaa.Pl
open Go.RowKit
open Go.Proofs.Ytcidpgjeddogmaa.Mw
open Go.Proofs.Ytcidpgjeddogmaa.St
open Go.Proofs.Ytcidpgjeddogmaa.Tm (cut_any Tp TI TB next_any range_any one_any new_any)
set_option linter.unusedVariables false
set_option linter.unusedSimpArgs false

/-- Reading a list of rooms or needs whose address is in new memory while the tape turns. -/
theorem rdr_turn {α : Type} [Inhabited α] {k : Nat} {enc : α → List Value} {w w' w0 : World} {tp : Nat} {A : Option Addr} {l : List α} (h : RdR k enc w A l) (hg : w.grownBy w' (some tp)) (ha : ∀ a, A = some a → w0.heap.size ≤ a.block) (ht : tp < w0.heap.size) : RdR k enc w' A l :=
  h.grown hg fun a e => by have := ha a e; omega
set_option maxHeartbeats 4000000 in
theorem checks_st (l : List Int) (A : Option Addr) (c : Nat) (v : Int) (w : World) (hr : RdI w .i64 A l) (hl : l.length ≤ maxLen) (hlc : l.length ≤ c) (hi : ∀ n ∈ l, I64 n) (hv : I64 v) :
    Calls Try.prog 3 #[.slice A l.length c, .int .i64 v] w fun e w' => e = .returned (.bool true) ∧ Below w.heap.size w w' := by
  have HN := Lib.hid (new_any l A c w hr hl hlc hi)
  have HC := Lib.hid (cut_any v 6 (by omega) (by omega) hv)
  generalize v % 6 = v' at HC
  clear hr hl hlc hi hv
  go_enter Try.func3, Try.ntmps3
  go_wp2_with fail
  refine HN.out.mono ?_
  rintro e w1 ⟨rfl, ht1, hb1⟩
  clear HN
  go_wp2_with fail
  refine (rooms_any w.heap.size 3 _ ht1 (by omega)).mono ?_
  rintro e w2 ⟨rs, A1, c1, rfl, hl1, -, -, hr1, ha1, ht2, hg2⟩
  go_wp2_with fail
  refine (needs_any w.heap.size 3 _ ht2 (by omega)).mono ?_
  rintro e w3 ⟨ns, A2, c2, rfl, hl2, -, -, hr2, ha2, ht3, hg3⟩
  have hr1' := rdr_turn hr1 hg3 ha1 (ht1.lt)
  have hb2 : Below w.heap.size w w2 := hb1.grown hg2 hb1.size fun q hq => by cases hq; exact Nat.le_refl _
  have hb3 : Below w.heap.size w w3 := hb2.grown hg3 hb2.size fun q hq => by cases hq; exact Nat.le_refl _
  have m1 : rs.length ≤ maxLen := by unfold maxLen; omega
  have m2 : ns.length ≤ maxLen := by unfold maxLen; omega
  have P1 : Hid (∀ V x, Below w3.heap.size w3 V → Calls Try.prog 18 #[.slice A1 rs.length c1, .slice A2 ns.length c2, .int .i64 x] V fun e w' => e = .returned (.int .i64 (chk rs ns x)) ∧ Below V.heap.size V w') := fun V x hV => check_any rs ns x A1 A2 c1 c2 V m1 m2 (hr1'.old hV) (hr2.old hV)
  have P2 : Hid (∀ V x, Below w3.heap.size w3 V → Calls Try.prog 19 #[.slice A1 rs.length c1, .slice A2 ns.length c2, .int .i64 x] V fun e w' => e = .returned (.int .i64 (chk rs ns x)) ∧ Below V.heap.size V w') := fun V x hV => rcheck_any rs ns x A1 A2 c1 c2 V m1 m2 (hr1'.old hV) (hr2.old hV)
  clear hb1 hb2 ht1 hr1 ha1 ht2 hg2 hr2 ha2 ht3 hg3 hr1' m1 m2
  go_wp2_with fail
  refine (HC.out _).mono ?_
  rintro e w4 ⟨rfl, rfl⟩
  go_wp2_with fail
  refine (P1.out _ v (Below.refl _ _)).mono ?_
  rintro e w5 ⟨rfl, hb5⟩
  go_wp2_with fail
  refine (P2.out _ v hb5).mono ?_
  rintro e w6 ⟨rfl, hb6⟩
  have hb7 := bl_trans hb5 hb6
  go_wp2_with fail
  refine (P1.out _ v' hb7).mono ?_
  rintro e w8 ⟨rfl, hb8⟩
  have hb9 := bl_trans hb7 hb8
  go_wp2_with fail
  refine (P2.out _ v' hb9).mono ?_
  rintro e wa ⟨rfl, hba⟩
  have hbb := bl_trans hb9 hba
  go_wp2_with fail
  refine (awake_any _).mono ?_
  rintro e wc ⟨rfl, hbc⟩
  have hbd := bl_trans hbb hbc
  go_wp2_with fail
  go_ret
  exact ⟨rfl, bl_trans hb3 hbd⟩
end Go.Proofs.Ytcidpgjeddogmaa.Pl
