/- Walks: watches: failing, Valid, Clone, of the program and of the reference. -/
import Derived.Test.YtpgkiiaoddhdcaaMC
import Derived.WalkKit
import Derived.WalkSpells
import Derived.WalkLawsBesides
import Derived.Deep.QuietTactic
import Derived.BigQuiet
import Derived.Deep.Draws
import Derived.Deep.AppendLies
import Derived.Laws.OwnMore
import Derived.Laws.BytesArg
import Derived.Lib.Hide
import Derived.Deep.LoopGhost
import Derived.OwnWalk
namespace Go.Proofs.Ytpgkiiaoddhdcaa.Mo
open Go.RowKit Go.Proofs.Ytpgkiiaoddhdcaa.Mw Go.Proofs.Ytpgkiiaoddhdcaa.Dc
set_option linter.unusedVariables false

theorem infoBool : (Try.prog.info? 4).map (fun i => (i.zero, i.size, i.bytes)) = some (some (.bool false), 1, 1) := by kernel_rfl
abbrev wv (A : Option Addr) (l : List Bool) (c : Nat) (s : Bool) : Value := .agg #[.slice A l.length c, .bool s]
abbrev wc (A : Option Addr) (l : List Bool) (c : Nat) (s : Bool) : Array Value := #[.slice A l.length c, .bool s]
theorem bk2 {w : World} {g : Nat} {T : TypeId} {a b : Value} (h : Bk w g T #[a, b]) : (w.cell? ⟨g, 0, none⟩ = some a ∧ w.cell? ⟨g, 1, none⟩ = some b) ∧ w.frozen? ⟨g, 0, none⟩ = false ∧ w.frozen? ⟨g, 1, none⟩ = false := ⟨⟨h.cell 0, h.cell 1⟩, h.frozen 0, h.frozen 1⟩
theorem cf_yes (l : List Bool) (k : Nat) (h : bi l k = true) : cf (bi l) 0 (k + 1) = cf (bi l) 0 k := by
  show cf (bi l) 0 k + _ = _
  rw [Nat.zero_add, if_pos h]; rfl
theorem cf_no (l : List Bool) (k : Nat) (h : bi l k = false) : cf (bi l) 0 (k + 1) = cf (bi l) 0 k + 1 := by
  show cf (bi l) 0 k + _ = _
  rw [Nat.zero_add, if_neg (by simp [h])]

set_option maxHeartbeats 400000 in
theorem fails_any (l : List Bool) (A : Option Addr) (c : Nat) (w : World) (hl : l.length ≤ 1000000) (hr : RdB w A l) :
    Calls Try.prog 31 #[.slice A l.length c] w fun e w' => e = .returned (.int .i64 (cnt l)) ∧ w = w' := by
  go_enter Try.func31, Try.ntmps31
  go_wp2_with fail
  go_loop [3, 4] (fun n i => ∃ k : Nat, k ≤ l.length ∧ i = .int .i64 k ∧ n = .int .i64 (cf (bi l) 0 k : Nat)) (fun _ i => l.length - (intOf i).toNat)
  case atStart => exact ⟨0, by omega, rfl, rfl⟩
  case round =>
    obtain ⟨k, hk, rfl, rfl⟩ := hrel
    have hcl := cf_le (bi l) 0 k
    by_cases hlt : k < l.length
    · obtain ⟨b, off, rfl, hbl, hc⟩ := hr k hlt
      cases hv : bi l k
      · have He := Lib.hid (cf_no l k hv)
        rw [hv] at hc
        clear hv
        go_wp2_with fail
        go_round
        case rel => exact ⟨k + 1, by omega, by go_num, by rw [He.out]; go_num⟩
        case measure => simp [intOf]; omega
      · have He := Lib.hid (cf_yes l k hv)
        rw [hv] at hc
        clear hv
        go_wp2_with fail
        go_round
        case rel => exact ⟨k + 1, by omega, by go_num, by rw [He.out]⟩
        case measure => simp [intOf]; omega
    · have Hk : Hid (k = l.length) := by unfold Hid; omega
      go_wp2_with fail
      go_ret
      exact ⟨ret_int (by rw [Hk.out]; rfl), rfl⟩
set_option maxHeartbeats 400000 in
theorem failing_any (r : Rl) (l : List Bool) (A : Option Addr) (c : Nat) (w : World) (hl : l.length ≤ 1000000) (hr : RdB w A l) :
    Calls Try.prog 30 #[rv r, .slice A l.length c] w fun e w' => e = .returned (.bool (fl r l)) ∧ Below w.heap.size w w' := by
  have hr' := hr.alloc (.cells (rc r) 24)
  clear hr
  go_enter Try.func30, Try.ntmps30
  go_wp2_with fail
  go_loop [5, 10] (fun n i => ∃ k : Nat, k ≤ l.length ∧ i = .int .i64 k ∧ n = .int .i64 (cf (bi l) 0 k : Nat)) (fun _ i => l.length - (intOf i).toNat)
  case atStart => exact ⟨0, by omega, rfl, rfl⟩
  case round =>
    obtain ⟨k, hk, rfl, rfl⟩ := hrel
    have hcl := cf_le (bi l) 0 k
    by_cases hlt : k < l.length
    · obtain ⟨b, off, rfl, hbl, hc⟩ := hr' k hlt
      cases hv : bi l k
      · have He := Lib.hid (cf_no l k hv)
        rw [hv] at hc
        clear hv
        go_wp2_with fail
        go_round
        case rel => exact ⟨k + 1, by omega, by go_num, by rw [He.out]; go_num⟩
        case measure => simp [intOf]; omega
      · have He := Lib.hid (cf_yes l k hv)
        rw [hv] at hc
        clear hv
        go_wp2_with fail
        go_round
        case rel => exact ⟨k + 1, by omega, by go_num, by rw [He.out]⟩
        case measure => simp [intOf]; omega
    · have Hk : Hid (k = l.length) := by unfold Hid; omega
      go_wp2_with fail
      go_ret
      exact ⟨ret_bool (by rw [Hk.out]; rfl), by (repeat (first | with_reducible exact Below.refl _ _ | with_reducible refine bl_drewN ?_ _ | with_reducible refine Below.drew ?_ | with_reducible refine bl_alloc ?_ _ | with_reducible refine Below.alloc ?_ (by first | omega | (simp; done) | (simp; omega)) _ | with_reducible refine Below.setCell ?_ (by first | omega | (simp; done) | (simp; omega)) _ | with_reducible assumption))⟩
theorem vld_c {r : Rl} {l : List Bool} {s : Bool} (h : chk r = false) : vld r l s = false := by unfold vld; rw [h]; rfl
theorem vld_w {r : Rl} {l : List Bool} {s : Bool} (h : ¬ (l.length : Int) ≤ r.w) : vld r l s = false := by unfold vld; rw [decide_eq_false h]; simp
theorem vld_e {r : Rl} {l : List Bool} {s : Bool} (h : chk r = true) (h' : (l.length : Int) ≤ r.w) : vld r l s = (s == fl r l) := by unfold vld; rw [h, decide_eq_true h']; rfl
theorem rdb_ext {w : World} {A : Option Addr} {l : List Bool} (h : RdB w A l) (x : Mm.Ex) : RdB (Mm.ext w x) A l := h.old (Mm.ext_below w x)

set_option maxHeartbeats 1000000 in
theorem valid_any (r : Rl) (l : List Bool) (A : Option Addr) (c : Nat) (s : Bool) (w : World) (hl : l.length ≤ 1000000) (hr : RdB w A l) :
    Calls Try.prog 18 #[rv r, wv A l c s] w fun e w' => e = .returned (.bool (vld r l s)) ∧ Below w.heap.size w w' := by
  have hr' := Lib.hid ((hr.alloc (.cells (rc r) 24)).alloc (.cells (wc A l c s) 27))
  clear hr
  cases hc : chk r
  · have He := Lib.hid (vld_c (l := l) (s := s) hc)
    have Hc := Lib.hid hc
    clear hc
    go_enter Try.func18, Try.ntmps18
    go_wp2_with fail
    refine Mm.region_ext (by kernel_rfl) (by kernel_rfl) ?_; (repeat (first | go_big_quiet_step ((go_at_call 14; exact Mm.calls_ext (check_no r Hc.out _))) | quiet_step ((go_at_call 14; exact Mm.calls_ext (check_no r Hc.out _))))); refine wpQuiet_nil ?_
    intro w5 hb5
    go_wp2_with fail
    go_ret
    exact ⟨ret_bool He.out.symm, bl_trans (by (repeat (first | with_reducible exact Below.refl _ _ | with_reducible refine bl_drewN ?_ _ | with_reducible refine Below.drew ?_ | with_reducible refine bl_alloc ?_ _ | with_reducible refine Below.alloc ?_ (by first | omega | (simp; done) | (simp; omega)) _ | with_reducible refine Below.setCell ?_ (by first | omega | (simp; done) | (simp; omega)) _ | with_reducible assumption))) hb5⟩
  have Hc := Lib.hid hc
  by_cases hw : (l.length : Int) ≤ r.w
  · have He := Lib.hid (vld_e (s := s) hc hw)
    have hd : decide ((l.length : Int) ≤ r.w) = true := decide_eq_true hw
    clear hc
    go_enter Try.func18, Try.ntmps18
    go_wp2_with fail
    refine Mm.region_ext (by kernel_rfl) (by kernel_rfl) ?_; (repeat (first | go_big_quiet_step ((first | (go_at_call 14; exact Mm.calls_ext (check_yes r Hc.out _)) | (go_at_call 30; exact Mm.calls_ext (failing_any r l A c _ hl (rdb_ext hr'.out _))))) | quiet_step ((first | (go_at_call 14; exact Mm.calls_ext (check_yes r Hc.out _)) | (go_at_call 30; exact Mm.calls_ext (failing_any r l A c _ hl (rdb_ext hr'.out _))))))); refine wpQuiet_nil ?_
    intro w5 hb5
    go_wp2_with fail
    go_ret
    exact ⟨ret_bool He.out.symm, bl_trans (by (repeat (first | with_reducible exact Below.refl _ _ | with_reducible refine bl_drewN ?_ _ | with_reducible refine Below.drew ?_ | with_reducible refine bl_alloc ?_ _ | with_reducible refine Below.alloc ?_ (by first | omega | (simp; done) | (simp; omega)) _ | with_reducible refine Below.setCell ?_ (by first | omega | (simp; done) | (simp; omega)) _ | with_reducible assumption))) hb5⟩
  · have He := Lib.hid (vld_w (s := s) hw)
    have hd : decide ((l.length : Int) ≤ r.w) = false := decide_eq_false hw
    clear hc
    go_enter Try.func18, Try.ntmps18
    go_wp2_with fail
    refine Mm.region_ext (by kernel_rfl) (by kernel_rfl) ?_; (repeat (first | go_big_quiet_step ((first | (go_at_call 14; exact Mm.calls_ext (check_yes r Hc.out _)) | (go_at_call 30; exact Mm.calls_ext (failing_any r l A c _ hl (rdb_ext hr'.out _))))) | quiet_step ((first | (go_at_call 14; exact Mm.calls_ext (check_yes r Hc.out _)) | (go_at_call 30; exact Mm.calls_ext (failing_any r l A c _ hl (rdb_ext hr'.out _))))))); refine wpQuiet_nil ?_
    intro w5 hb5
    go_wp2_with fail
    go_ret
    exact ⟨ret_bool He.out.symm, bl_trans (by (repeat (first | with_reducible exact Below.refl _ _ | with_reducible refine bl_drewN ?_ _ | with_reducible refine Below.drew ?_ | with_reducible refine bl_alloc ?_ _ | with_reducible refine Below.alloc ?_ (by first | omega | (simp; done) | (simp; omega)) _ | with_reducible refine Below.setCell ?_ (by first | omega | (simp; done) | (simp; omega)) _ | with_reducible assumption))) hb5⟩
/-- A copy: a row of the call's own. -/
def Cp (l : List Bool) (w : World) (e : Ending) (w' : World) : Prop := ∃ v, e = .returned v ∧ w'.ownsRow w.heap.size 4 1 v l.length (l.map Value.bool) ∧ Below w.heap.size w w'
set_option maxHeartbeats 400000 in
theorem clone_any (l : List Bool) (A : Option Addr) (c : Nat) (w : World) (hl : l.length ≤ 1000000) (hr : RdB w A l) :
    Calls Try.prog 32 #[.slice A l.length c] w (Cp l w) := by
  obtain ⟨i0, hi, hz0, hz1, hz2⟩ := info_parts infoBool
  rcases A with _ | a
  · obtain rfl := hr.none_nil
    have hnil := Lib.run_eql_slice_nil (P := Try.prog) w 25 4 none 0 c 0 0 Try.underlying25
    go_enter Try.func32, Try.ntmps32
    go_wp2_with fail
    go_ret
    exact ⟨_, rfl, World.ownsRow_nil _ _ _ _, by (repeat (first | with_reducible exact Below.refl _ _ | with_reducible refine bl_drewN ?_ _ | with_reducible refine Below.drew ?_ | with_reducible refine bl_alloc ?_ _ | with_reducible refine Below.alloc ?_ (by first | omega | (simp; done) | (simp; omega)) _ | with_reducible refine Below.setCell ?_ (by first | omega | (simp; done) | (simp; omega)) _ | with_reducible assumption))⟩
  · have hr1 := (hr.alloc (.cells #[] 4)).news
    have hnil := Lib.run_eql_slice_nil (P := Try.prog) w 25 4 (some a) l.length c 0 0 Try.underlying25
    have hown0 : (w.alloc (.cells #[] 4)).ownsRow w.heap.size 4 1 (.slice (some ⟨w.heap.size, 0, none⟩) 0 0) 0 [] := World.ownsRow_made w #[] 0 (Nat.le_refl _) (by simp) rfl
    go_enter Try.func32, Try.ntmps32
    go_wp2_with (at_builtin; refine wpList_append_own _ rfl _ _ 25 rfl w.heap.size 4 i0 (.bool false) 1 1 Try.underlying25 hi hz0 hz1 hz2 rfl (by decide) _ _ _ rfl hown0 a l.length c (l.map Value.bool) rfl (by simp) hr1 (ones_bool l) ?c3 ?c4 ?c5 ?_)
    case c3 => simp only [maxLen]; omega
    case c4 => omega
    case c5 => simp
    intro v' w1 hown' hgrow _
    have hb1 : Below w.heap.size w w1 := Below.grown (by (repeat (first | with_reducible exact Below.refl _ _ | with_reducible refine bl_drewN ?_ _ | with_reducible refine Below.drew ?_ | with_reducible refine bl_alloc ?_ _ | with_reducible refine Below.alloc ?_ (by first | omega | (simp; done) | (simp; omega)) _ | with_reducible refine Below.setCell ?_ (by first | omega | (simp; done) | (simp; omega)) _ | with_reducible assumption))) hgrow (by simp) (fun j hj => (hown0.lt j hj).1)
    have hown1 : w1.ownsRow w.heap.size 4 1 v' l.length (l.map Value.bool) := by simpa using hown'
    clear hown' hgrow
    go_wp2_with fail
    go_ret
    exact ⟨v', rfl, hown1, hb1⟩
end Go.Proofs.Ytpgkiiaoddhdcaa.Mo
