/- Walks: Check, of the program and of the reference. -/
import Derived.Test.YtcidpgjeddogmaaVB
import Derived.WalkKit
import Derived.WalkSpells
import Derived.WalkLawsBesides
import Derived.Deep.QuietTactic
import Derived.BigQuiet
import Derived.Deep.Draws
import Derived.Deep.AppendLies
import Derived.Laws.OwnMore
import Derived.Laws.BytesArg
import Derived.Lib.Hide
import Derived.Deep.LoopGhost
namespace Go.Proofs.Ytcidpgjeddogmaa.St
open Go.RowKit
open Go.Proofs.Ytcidpgjeddogmaa.Mw (I64 ret_int ret_bool Bk bl_trans bl_alloc bl_drewN RdI ge)
set_option linter.unusedVariables false
set_option linter.unusedSimpArgs false

theorem rmB_iff (r : Rm) : rmB r = true ↔ (1 ≤ r.r ∧ r.r ≤ 8) ∧ (1 ≤ r.c ∧ r.c ≤ 8) ∧ 0 ≤ r.o ∧ r.o ≤ 63 := by
  unfold rmB; rw [Bool.and_eq_true, Bool.and_eq_true, ins_iff, ins_iff, ins_iff]
theorem rmB_1 {r : Rm} (h : ins r.r 1 8 = false) : rmB r = false := by unfold rmB; rw [h]; rfl
theorem rmB_2 {r : Rm} (h : ins r.c 1 8 = false) : rmB r = false := by unfold rmB; rw [h]; simp
theorem rmB_3 {r : Rm} (h : ins r.o 0 63 = false) : rmB r = false := by unfold rmB; rw [h]; simp
theorem rmB_y {r : Rm} (h1 : ins r.r 1 8 = true) (h2 : ins r.c 1 8 = true) (h3 : ins r.o 0 63 = true) : rmB r = true := by unfold rmB; rw [h1, h2, h3]; rfl
theorem ndB_1 {n : Nd} (h : ins n.c 0 9999 = false) : ndB n = false := by unfold ndB; rw [h]; rfl
theorem ndB_2 {n : Nd} (h : ins n.n 0 63 = false) : ndB n = false := by unfold ndB; rw [h]; simp
theorem ndB_y {n : Nd} (h : ins n.c 0 9999 = true) (h2 : ins n.n 0 63 = true) : ndB n = true := by unfold ndB; rw [h, h2]; rfl
theorem cfB_s {r : Rm} (h : sep r.o = false) : cfB r = true := by unfold cfB; rw [h]; rfl
theorem cfB_1 {r : Rm} (h : r.r * r.c = 1) : cfB r = true := by unfold cfB; rw [decide_eq_true h]; simp
theorem cfB_n {r : Rm} (h : sep r.o = true) (h1 : ¬ r.r * r.c = 1) : cfB r = false := by unfold cfB; rw [h, decide_eq_false h1]; rfl
theorem snocA {P : Nat → Prop} {k : Nat} (h : ∀ j, j < k → P j) (hk : P k) : ∀ j, j < k + 1 → P j := fun j hj => by
  by_cases e : j = k
  · subst e; exact hk
  · exact h j (by omega)
theorem dp_0 (l : List Nd) : dpB l 0 = true := rfl
theorem dp_y {l : List Nd} {k : Nat} (h : (ge l k).c < (ge l (k + 1)).c) : dpB l (k + 1) = true := by unfold dpB; rw [Nat.add_sub_cancel, decide_eq_true h]; simp
theorem dp_n {l : List Nd} {k : Nat} (h : ¬ (ge l k).c < (ge l (k + 1)).c) : dpB l (k + 1) = false := by unfold dpB; rw [Nat.add_sub_cancel, decide_eq_false h]; rfl

set_option maxHeartbeats 4000000 in
set_option maxRecDepth 100000 in
theorem check_any (rs : List Rm) (ns : List Nd) (v : Int) (A B : Option Addr) (cA cB : Nat) (w : World) (hl1 : rs.length ≤ maxLen) (hl2 : ns.length ≤ maxLen) (hA : RdRm w A rs) (hB : RdNd w B ns) :
    Calls Try.prog 18 #[.slice A rs.length cA, .slice B ns.length cB, .int .i64 v] w fun e w' => e = .returned (.int .i64 (chk rs ns v)) ∧ Below w.heap.size w w' := by
  unfold maxLen at hl1 hl2
  have HV := Lib.hid (vvar_any v)
  by_cases h0 : 8 < rs.length ∨ 60 < ns.length
  · have H := Lib.hid (chk_3 (v := v) h0)
    clear hA hB HV
    by_cases h1 : 8 < rs.length
    · have h1' : (8 : Int) < rs.length := by omega
      clear h0
      go_enter Try.func18, Try.ntmps18
      go_wp2_with fail
      go_ret
      exact ⟨by rw [H.out]; rfl, by (repeat (first | with_reducible exact Below.refl _ _ | with_reducible refine bl_drewN ?_ _ | with_reducible refine Below.drew ?_ | with_reducible refine bl_alloc ?_ _ | with_reducible refine Below.alloc ?_ (by first | omega | (simp; done) | (simp; omega)) _ | with_reducible refine Below.setCell ?_ (by first | omega | (simp; done) | (simp; omega)) _ | with_reducible assumption))⟩
    · have h1' : (rs.length : Int) ≤ 8 := by omega
      have h2' : (60 : Int) < ns.length := by omega
      clear h0
      go_enter Try.func18, Try.ntmps18
      go_wp2_with fail
      go_ret
      exact ⟨by rw [H.out]; rfl, by (repeat (first | with_reducible exact Below.refl _ _ | with_reducible refine bl_drewN ?_ _ | with_reducible refine Below.drew ?_ | with_reducible refine bl_alloc ?_ _ | with_reducible refine Below.alloc ?_ (by first | omega | (simp; done) | (simp; omega)) _ | with_reducible refine Below.setCell ?_ (by first | omega | (simp; done) | (simp; omega)) _ | with_reducible assumption))⟩
  have H0 := Lib.hid h0
  have l1 : (rs.length : Int) ≤ 8 := by omega
  have l2 : (ns.length : Int) ≤ 60 := by omega
  clear h0
  cases hv : ins v 2 4
  · have H := Lib.hid (chk_v H0.out hv)
    rw [hv] at HV
    clear hA hB hv
    go_enter Try.func18, Try.ntmps18
    go_wp2_with fail
    refine (HV.out _).mono ?_
    rintro e w1 ⟨rfl, rfl⟩
    go_wp2_with fail
    go_ret
    exact ⟨by rw [H.out]; rfl, by (repeat (first | with_reducible exact Below.refl _ _ | with_reducible refine bl_drewN ?_ _ | with_reducible refine Below.drew ?_ | with_reducible refine bl_alloc ?_ _ | with_reducible refine Below.alloc ?_ (by first | omega | (simp; done) | (simp; omega)) _ | with_reducible refine Below.setCell ?_ (by first | omega | (simp; done) | (simp; omega)) _ | with_reducible assumption))⟩
  rw [hv] at HV
  have Hv := Lib.hid hv
  have HA := Lib.hid hA
  have HB := Lib.hid hB
  clear hA hB hv
  go_enter Try.func18, Try.ntmps18
  go_wp2_with fail
  refine (HV.out _).mono ?_
  rintro e w1 ⟨rfl, rfl⟩
  go_wp2_with fail
  go_loopw [27] (fun i wr => ∃ k : Nat, k ≤ rs.length ∧ i = .int .i64 k ∧ Hid (∀ j, j < k → rmB (ge rs j) = true) ∧ Below w.heap.size w wr) (fun i _ => rs.length - (intOf i).toNat)
  case atStart => exact ⟨0, Nat.zero_le _, rfl, fun j hj => absurd hj (by omega), Below.refl _ _⟩
  case round =>
    obtain ⟨k, hk, rfl, hok, hb⟩ := hrel
    by_cases hlt : k < rs.length
    · obtain ⟨b, off, rfl, hbl, a0, a1, a2⟩ := rm_at (HA.out.old hb) k hlt
      have hk' : (k : Int) < rs.length := by omega
      cases e1 : ins (ge rs k).r 1 8
      · have H := Lib.hid (chk_r H0.out Hv.out k hlt (rmB_1 e1))
        go_wp2_with (go_at_call 42; refine (side_any _ _).mono ?_; rintro e w' ⟨rfl, rfl⟩)
        go_ret
        exact ⟨by rw [H.out]; rfl, by (repeat (first | with_reducible exact Below.refl _ _ | with_reducible refine bl_drewN ?_ _ | with_reducible refine Below.drew ?_ | with_reducible refine bl_alloc ?_ _ | with_reducible refine Below.alloc ?_ (by first | omega | (simp; done) | (simp; omega)) _ | with_reducible refine Below.setCell ?_ (by first | omega | (simp; done) | (simp; omega)) _ | with_reducible assumption))⟩
      cases e2 : ins (ge rs k).c 1 8
      · have H := Lib.hid (chk_r H0.out Hv.out k hlt (rmB_2 e2))
        go_wp2_with (go_at_call 42; refine (side_any _ _).mono ?_; rintro e w' ⟨rfl, rfl⟩)
        go_ret
        exact ⟨by rw [H.out]; rfl, by (repeat (first | with_reducible exact Below.refl _ _ | with_reducible refine bl_drewN ?_ _ | with_reducible refine Below.drew ?_ | with_reducible refine bl_alloc ?_ _ | with_reducible refine Below.alloc ?_ (by first | omega | (simp; done) | (simp; omega)) _ | with_reducible refine Below.setCell ?_ (by first | omega | (simp; done) | (simp; omega)) _ | with_reducible assumption))⟩
      cases e3 : ins (ge rs k).o 0 63
      · have H := Lib.hid (chk_r H0.out Hv.out k hlt (rmB_3 e3))
        go_wp2_with (first | (go_at_call 42; refine (side_any _ _).mono ?_; rintro e w' ⟨rfl, rfl⟩) | (go_at_call 43; refine (vneeds_any _ _).mono ?_; rintro e w' ⟨rfl, rfl⟩))
        go_ret
        exact ⟨by rw [H.out]; rfl, by (repeat (first | with_reducible exact Below.refl _ _ | with_reducible refine bl_drewN ?_ _ | with_reducible refine Below.drew ?_ | with_reducible refine bl_alloc ?_ _ | with_reducible refine Below.alloc ?_ (by first | omega | (simp; done) | (simp; omega)) _ | with_reducible refine Below.setCell ?_ (by first | omega | (simp; done) | (simp; omega)) _ | with_reducible assumption))⟩
      have HN := Lib.hid (snocA hok.out (rmB_y e1 e2 e3))
      go_wp2_with (first | (go_at_call 42; refine (side_any _ _).mono ?_; rintro e w' ⟨rfl, rfl⟩) | (go_at_call 43; refine (vneeds_any _ _).mono ?_; rintro e w' ⟨rfl, rfl⟩))
      go_roundw
      case rel => exact ⟨k + 1, by omega, by go_num, HN, by (repeat (first | with_reducible exact Below.refl _ _ | with_reducible refine bl_drewN ?_ _ | with_reducible refine Below.drew ?_ | with_reducible refine bl_alloc ?_ _ | with_reducible refine Below.alloc ?_ (by first | omega | (simp; done) | (simp; omega)) _ | with_reducible refine Below.setCell ?_ (by first | omega | (simp; done) | (simp; omega)) _ | with_reducible assumption))⟩
      case measure => simp [intOf]; omega
    obtain rfl : k = rs.length := by omega
    have HR := hok
    clear hok hlt hk
    go_wp2_with fail
    go_loopw [50] (fun i wr => ∃ k : Nat, k ≤ ns.length ∧ i = .int .i64 k ∧ Hid (∀ j, j < k → ndB (ge ns j) = true) ∧ Below w.heap.size w wr) (fun i _ => ns.length - (intOf i).toNat)
    case atStart => exact ⟨0, Nat.zero_le _, rfl, fun j hj => absurd hj (by omega), hb⟩
    case round =>
      clear hb
      obtain ⟨k, hk, rfl, hok, hb⟩ := hrel
      by_cases hlt : k < ns.length
      · obtain ⟨b, off, rfl, hbl, a0, a1⟩ := nd_at (HB.out.old hb) k hlt
        have hk' : (k : Int) < ns.length := by omega
        cases e1 : ins (ge ns k).c 0 9999
        · have H := Lib.hid (chk_n H0.out Hv.out HR.out k hlt (ndB_1 e1))
          have e1' := (ins_no _ _ _).1 e1
          rcases Int.lt_or_le (ge ns k).c 0 with h4 | h4
          all_goals
            have h5 : (ge ns k).c < 0 ∨ 9999 < (ge ns k).c := by omega
            clear e1 e1'
            go_wp2_with fail
            all_goals first | (exfalso; omega) | (go_ret; exact ⟨by rw [H.out]; rfl, by (repeat (first | with_reducible exact Below.refl _ _ | with_reducible refine bl_drewN ?_ _ | with_reducible refine Below.drew ?_ | with_reducible refine bl_alloc ?_ _ | with_reducible refine Below.alloc ?_ (by first | omega | (simp; done) | (simp; omega)) _ | with_reducible refine Below.setCell ?_ (by first | omega | (simp; done) | (simp; omega)) _ | with_reducible assumption))⟩)
        obtain ⟨e4, e5⟩ := (ins_iff _ _ _).1 e1
        cases e3 : ins (ge ns k).n 0 63
        · have H := Lib.hid (chk_n H0.out Hv.out HR.out k hlt (ndB_2 e3))
          go_wp2_with (go_at_call 43; refine (vneeds_any _ _).mono ?_; rintro e w' ⟨rfl, rfl⟩)
          go_ret
          exact ⟨by rw [H.out]; rfl, by (repeat (first | with_reducible exact Below.refl _ _ | with_reducible refine bl_drewN ?_ _ | with_reducible refine Below.drew ?_ | with_reducible refine bl_alloc ?_ _ | with_reducible refine Below.alloc ?_ (by first | omega | (simp; done) | (simp; omega)) _ | with_reducible refine Below.setCell ?_ (by first | omega | (simp; done) | (simp; omega)) _ | with_reducible assumption))⟩
        have HN := Lib.hid (snocA hok.out (ndB_y e1 e3))
        go_wp2_with (go_at_call 43; refine (vneeds_any _ _).mono ?_; rintro e w' ⟨rfl, rfl⟩)
        go_roundw
        case rel => exact ⟨k + 1, by omega, by go_num, HN, by (repeat (first | with_reducible exact Below.refl _ _ | with_reducible refine bl_drewN ?_ _ | with_reducible refine Below.drew ?_ | with_reducible refine bl_alloc ?_ _ | with_reducible refine Below.alloc ?_ (by first | omega | (simp; done) | (simp; omega)) _ | with_reducible refine Below.setCell ?_ (by first | omega | (simp; done) | (simp; omega)) _ | with_reducible assumption))⟩
        case measure => simp [intOf]; omega
      obtain rfl : k = ns.length := by omega
      have HNd := hok
      clear hok hlt hk
      go_wp2_with fail
      go_loopw [71] (fun i wr => ∃ k : Nat, k ≤ rs.length ∧ i = .int .i64 k ∧ Hid (∀ j, j < k → cfB (ge rs j) = true) ∧ Below w.heap.size w wr) (fun i _ => rs.length - (intOf i).toNat)
      case atStart => exact ⟨0, Nat.zero_le _, rfl, fun j hj => absurd hj (by omega), hb⟩
      case round =>
        clear hb
        obtain ⟨k, hk, rfl, hok, hb⟩ := hrel
        by_cases hlt : k < rs.length
        · obtain ⟨b, off, rfl, hbl, a0, a1, a2⟩ := rm_at (HA.out.old hb) k hlt
          have hk' : (k : Int) < rs.length := by omega
          have hrm := (rmB_iff _).1 (HR.out k hlt)
          have hrm1 : 0 ≤ (ge rs k).r ∧ (ge rs k).r ≤ 100 := by omega
          have hrm2 : 0 ≤ (ge rs k).c ∧ (ge rs k).c ≤ 100 := by omega
          clear hrm
          cases e1 : sep (ge rs k).o
          · have e1' : (bits .and .i64 (ge rs k).o 1 != 0) = false := e1
            have HN := Lib.hid (snocA hok.out (cfB_s e1))
            clear e1
            go_wp2_with fail
            go_roundw
            case rel => exact ⟨k + 1, by omega, by go_num, HN, by (repeat (first | with_reducible exact Below.refl _ _ | with_reducible refine bl_drewN ?_ _ | with_reducible refine Below.drew ?_ | with_reducible refine bl_alloc ?_ _ | with_reducible refine Below.alloc ?_ (by first | omega | (simp; done) | (simp; omega)) _ | with_reducible refine Below.setCell ?_ (by first | omega | (simp; done) | (simp; omega)) _ | with_reducible assumption))⟩
            case measure => simp [intOf]; omega
          · have e1' : (bits .and .i64 (ge rs k).o 1 != 0) = true := e1
            by_cases e2 : (ge rs k).r * (ge rs k).c = 1
            · have HN := Lib.hid (snocA hok.out (cfB_1 e2))
              have hsq := Lib.hid (seats_any (ge rs k) hrm1 hrm2)
              rw [e2] at hsq
              clear e1 e2
              go_wp2_with fail
              refine (hsq.out _).mono ?_
              rintro e w5 ⟨rfl, hb5⟩
              have hb6 : Below w.heap.size w w5 := bl_trans (by (repeat (first | with_reducible exact Below.refl _ _ | with_reducible refine bl_drewN ?_ _ | with_reducible refine Below.drew ?_ | with_reducible refine bl_alloc ?_ _ | with_reducible refine Below.alloc ?_ (by first | omega | (simp; done) | (simp; omega)) _ | with_reducible refine Below.setCell ?_ (by first | omega | (simp; done) | (simp; omega)) _ | with_reducible assumption))) hb5
              clear hb5 hsq a0 a1 a2
              go_wp2_with fail
              go_roundw
              case rel => exact ⟨k + 1, by omega, by go_num, HN, hb6⟩
              case measure => simp [intOf]; omega
            · have H := Lib.hid (chk_9 H0.out Hv.out HR.out HNd.out k hlt (cfB_n e1 e2))
              have hsq := Lib.hid (seats_any (ge rs k) hrm1 hrm2)
              have e3 : ((ge rs k).r * (ge rs k).c != 1) = true := by rw [bne_iff_ne]; exact e2
              generalize (ge rs k).r * (ge rs k).c = q at hsq e3
              clear e1 e2
              go_wp2_with fail
              refine (hsq.out _).mono ?_
              rintro e w5 ⟨rfl, hb5⟩
              have hb6 : Below w.heap.size w w5 := bl_trans (by (repeat (first | with_reducible exact Below.refl _ _ | with_reducible refine bl_drewN ?_ _ | with_reducible refine Below.drew ?_ | with_reducible refine bl_alloc ?_ _ | with_reducible refine Below.alloc ?_ (by first | omega | (simp; done) | (simp; omega)) _ | with_reducible refine Below.setCell ?_ (by first | omega | (simp; done) | (simp; omega)) _ | with_reducible assumption))) hb5
              clear hb5 hsq a0 a1 a2
              go_wp2_with fail
              go_ret
              exact ⟨by rw [H.out]; rfl, hb6⟩
        obtain rfl : k = rs.length := by omega
        have HC := hok
        clear hok hlt hk
        go_wp2_with fail
        go_loopw [13] (fun i wr => ∃ k : Nat, (k < ns.length ∨ k = 0) ∧ i = .int .i64 ((k : Int) + 1) ∧ Hid (∀ j, j < k + 1 → dpB ns j = true) ∧ Below w.heap.size w wr) (fun i _ => ns.length + 1 - (intOf i).toNat)
        case atStart => exact ⟨0, .inr rfl, rfl, fun j hj => (by obtain rfl : j = 0 := (by omega); exact dp_0 ns), hb⟩
        case round =>
          clear hb
          obtain ⟨k, hk, rfl, hok, hb⟩ := hrel
          have hk60 : k ≤ 60 := by omega
          by_cases hlt : k + 1 < ns.length
          · obtain ⟨b, off, rfl, hbl, a0, a1⟩ := nd_at (HB.out.old hb) k (by omega)
            obtain ⟨b', off', e', hbl', c0, c1⟩ := nd_at (HB.out.old hb) (k + 1) hlt
            cases e'
            have hk' : (k : Int) + 1 < ns.length := by omega
            have hk2 : (k : Int) < ns.length := by omega
            have hk0 : (0 : Int) ≤ k := by omega
            by_cases e1 : (ge ns k).c < (ge ns (k + 1)).c
            · have HN := Lib.hid (snocA hok.out (dp_y e1))
              go_wp2_with fail
              go_quiet (fail)
              go_wp2_with fail
              go_roundw
              case rel => exact ⟨k + 1, .inl hlt, by go_num, HN, by (repeat (first | with_reducible exact Below.refl _ _ | with_reducible refine bl_drewN ?_ _ | with_reducible refine Below.drew ?_ | with_reducible refine bl_alloc ?_ _ | with_reducible refine Below.alloc ?_ (by first | omega | (simp; done) | (simp; omega)) _ | with_reducible refine Below.setCell ?_ (by first | omega | (simp; done) | (simp; omega)) _ | with_reducible assumption))⟩
              case measure => simp [intOf]; omega
            · have H := Lib.hid (chk_5 H0.out Hv.out HR.out HNd.out HC.out (k + 1) hlt (dp_n e1))
              have e1' : (ge ns (k + 1)).c ≤ (ge ns k).c := by omega
              clear e1
              go_wp2_with fail
              go_quiet (fail)
              go_wp2_with fail
              go_ret
              exact ⟨by rw [H.out]; rfl, by (repeat (first | with_reducible exact Below.refl _ _ | with_reducible refine bl_drewN ?_ _ | with_reducible refine Below.drew ?_ | with_reducible refine bl_alloc ?_ _ | with_reducible refine Below.alloc ?_ (by first | omega | (simp; done) | (simp; omega)) _ | with_reducible refine Below.setCell ?_ (by first | omega | (simp; done) | (simp; omega)) _ | with_reducible assumption))⟩
          · have H := Lib.hid (chk_0 H0.out Hv.out HR.out HNd.out HC.out (fun i hi => hok.out i (by omega)))
            have hge : (ns.length : Int) ≤ (k : Int) + 1 := by omega
            clear hlt hk
            go_wp2_with fail
            go_ret
            exact ⟨by rw [H.out]; rfl, by (repeat (first | with_reducible exact Below.refl _ _ | with_reducible refine bl_drewN ?_ _ | with_reducible refine Below.drew ?_ | with_reducible refine bl_alloc ?_ _ | with_reducible refine Below.alloc ?_ (by first | omega | (simp; done) | (simp; omega)) _ | with_reducible refine Below.setCell ?_ (by first | omega | (simp; done) | (simp; omega)) _ | with_reducible assumption))⟩
end Go.Proofs.Ytcidpgjeddogmaa.St
