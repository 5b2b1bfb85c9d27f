/- Walk: seating.Assign. -/
import Derived.Test.YtcidpgjeddogmaaVU
import Derived.WalkKit
import Derived.WalkSpells
import Derived.WalkLawsBesides
import Derived.Deep.QuietTactic
import Derived.BigQuiet
import Derived.Deep.Draws
import Derived.Deep.AppendLies
import Derived.Laws.OwnMore
import Derived.Laws.BytesArg
import Derived.Lib.Hide
import Derived.Deep.LoopGhost
import Derived.Laws.MakeOwn
namespace Go.Proofs.Ytcidpgjeddogmaa.Pl
open Go.RowKit
open Go.Proofs.Ytcidpgjeddogmaa.Mw
open Go.Proofs.Ytcidpgjeddogmaa.St
set_option linter.unusedVariables false
set_option linter.unusedSimpArgs false

/-- A list of places in new memory, and an error. -/
def AsgP (r : List Pc × Int) (w : World) (e : Ending) (w' : World) : Prop := ∃ A c, e = .returned (.tuple #[.slice A r.1.length c, .int .i64 r.2]) ∧ RdR 5 pcl w' A r.1 ∧ (∀ a, A = some a → w.heap.size ≤ a.block ∧ a.block < w'.heap.size) ∧ (∀ a, A = some a → ∀ o, w'.frozen? ⟨a.block, o, none⟩ = false) ∧ Below w.heap.size w w'
theorem asgp_nil (n : Int) {w w' : World} (hb : Below w.heap.size w w') {r : List Pc × Int} (hr : r = ([], n)) : AsgP r w (.returned (.tuple #[.slice none 0 0, .int .i64 n])) w' := by
  subst hr
  exact ⟨none, 0, rfl, RdR.nil _ _, fun a ha => (by cases ha), fun a ha => (by cases ha), hb⟩
/-- The cells of places. -/
def plc (p : Nat → Pc) (j : Nat) : Value := ((pcl (p (j / 5)))[j % 5]?).getD undef
theorem pcl_len (p : Pc) : (pcl p).length = 5 := rfl
theorem plc_at {w : World} {g n : Nat} {T : TypeId} {p : Nat → Pc} (h : Bk w g T (rng (n * 5) (plc p))) {i j : Nat} (hi : i < n) (hj : j < 5) : w.cell? ⟨g, i * 5 + j, none⟩ = (pcl (p i))[j]? := by
  have h1 : i * 5 + j < n * 5 := by omega
  rw [h.cell, rng_at h1]
  unfold plc
  rw [show (i * 5 + j) / 5 = i by omega, show (i * 5 + j) % 5 = j by omega]
  rw [List.getElem?_eq_getElem (by rw [pcl_len]; exact hj)]; rfl
theorem plc_set {w : World} {g n : Nat} {T : TypeId} {p : Nat → Pc} (h : Bk w g T (rng (n * 5) (plc p))) {k : Nat} (hk : k < n) (x : Pc) :
    Bk (((((w.setCell ⟨g, k * 5, none⟩ (.int .i64 x.c)).setCell ⟨g, k * 5 + 1, none⟩ (.int .i64 x.m)).setCell ⟨g, k * 5 + 2, none⟩ (.int .i64 x.r)).setCell ⟨g, k * 5 + 3, none⟩ (.int .i64 x.l)).setCell ⟨g, k * 5 + 4, none⟩ (.int .i64 x.v)) g T (rng (n * 5) (plc fun y => if y = k then x else p y)) := by
  have h1 := ((((h.set (k * 5) (.int .i64 x.c)).set (k * 5 + 1) (.int .i64 x.m)).set (k * 5 + 2) (.int .i64 x.r)).set (k * 5 + 3) (.int .i64 x.l)).set (k * 5 + 4) (.int .i64 x.v)
  rw [rng_set, rng_set, rng_set, rng_set, rng_set] at h1
  rw [rng_congr (g := fun y => if y = k * 5 + 4 then .int .i64 x.v else if y = k * 5 + 3 then .int .i64 x.l else if y = k * 5 + 2 then .int .i64 x.r else if y = k * 5 + 1 then .int .i64 x.m else if y = k * 5 then .int .i64 x.c else plc p y) fun j hj => ?_]
  · exact h1
  · unfold plc
    show ((pcl (if j / 5 = k then x else p (j / 5)))[j % 5]?).getD undef = _
    by_cases e : j / 5 = k
    · have hm : j % 5 = 0 ∨ j % 5 = 1 ∨ j % 5 = 2 ∨ j % 5 = 3 ∨ j % 5 = 4 := by omega
      rw [if_pos e]
      rcases hm with hm | hm | hm | hm | hm
      · rw [hm, if_neg (by omega), if_neg (by omega), if_neg (by omega), if_neg (by omega), if_pos (by omega)]; rfl
      · rw [hm, if_neg (by omega), if_neg (by omega), if_neg (by omega), if_pos (by omega)]; rfl
      · rw [hm, if_neg (by omega), if_neg (by omega), if_pos (by omega)]; rfl
      · rw [hm, if_neg (by omega), if_pos (by omega)]; rfl
      · rw [hm, if_pos (by omega)]; rfl
    · rw [if_neg e, if_neg (by omega), if_neg (by omega), if_neg (by omega), if_neg (by omega), if_neg (by omega)]
theorem infoPlace : (Try.prog.info? 52).map (fun i => (i.zero, i.size, i.bytes)) = some (some (pcv ⟨0, 0, 0, 0, 0⟩), 5, 40) := by kernel_rfl
theorem make_places (n : Nat) (hn : n ≤ 1000) (W : World) : ∃ w2, (Instr.makeSlice 44 (.int .i64 (n : Int)) (.int .i64 (n : Int))).run Try.prog W = .ok (.slice (some ⟨W.heap.size, 0, none⟩) n n) w2 ∧ Below W.heap.size W w2 ∧ Bk w2 W.heap.size 52 (rng (n * 5) (plc fun _ => ⟨0, 0, 0, 0, 0⟩)) := by
  obtain ⟨i0, hi, hz0, hz1, hz2⟩ := info_parts infoPlace
  have := run_make (P := Try.prog) W 44 52 i0 (pcv ⟨0, 0, 0, 0, 0⟩) Try.underlying44 hi hz0 .i64 .i64 (n : Int) (n : Int) (by omega) (Int.le_refl _) (by rw [hz2]; omega) (by omega)
  have e : madeCells (pcv ⟨0, 0, 0, 0, 0⟩).cells (n * 5) = rng (n * 5) (plc fun _ => ⟨0, 0, 0, 0, 0⟩) := by
    apply Array.ext
    · simp [madeCells, rng_size]
    · intro i h1 h2
      have h3 := rng_at (f := plc fun _ => ⟨0, 0, 0, 0, 0⟩) (show i < n * 5 by rw [rng_size] at h2; exact h2)
      rw [Array.getElem?_eq_getElem h2] at h3
      rw [Option.some.inj h3]
      have hm : i % 5 = 0 ∨ i % 5 = 1 ∨ i % 5 = 2 ∨ i % 5 = 3 ∨ i % 5 = 4 := by omega
      have hc : (pcv ⟨0, 0, 0, 0, 0⟩).cells = #[.int .i64 0, .int .i64 0, .int .i64 0, .int .i64 0, .int .i64 0] := by simp [pcv, Value.cells]
      have hr : ∀ (a : Array Value) (h : i < (madeCells a (n * 5)).size), (madeCells a (n * 5))[i] = a[i % a.size]! := fun a h => by simp [madeCells]
      rw [hr, hc]
      unfold plc pcl
      rcases hm with hm | hm | hm | hm | hm <;> (rw [hm]; show (#[Value.int .i64 0, .int .i64 0, .int .i64 0, .int .i64 0, .int .i64 0])[i % 5]! = _; rw [hm]; rfl)
  rw [hz1, Int.toNat_natCast, e] at this
  exact ⟨_, this, bl_alloc (Below.refl _ _) _, Bk.new' rfl⟩
theorem cnt_cap {rs : List Rm} {q : List Int} {x : Int} : ∀ {k : Nat}, (∀ j, j < k → fuB rs q j = true) → 0 ≤ (rmI rs x).r * (rmI rs x).c → (cnt q x k : Int) ≤ (rmI rs x).r * (rmI rs x).c
  | 0, _, h => h
  | k + 1, h, h0 => by
    have ih := cnt_cap (rs := rs) (x := x) (fun j hj => h j (by omega)) h0 (k := k)
    show ((cnt q x k + if gi q k = x then 1 else 0 : Nat) : Int) ≤ _
    by_cases e : gi q k = x
    · rw [if_pos e]
      have := h k (by omega)
      unfold fuB at this
      rw [decide_eq_true_eq, e] at this
      omega
    · rw [if_neg e]; exact ih
theorem inB_iff {n : Nat} {q : List Int} {i : Nat} : inB n q i = true ↔ 0 ≤ gi q i ∧ gi q i < n := by
  unfold inB; rw [ins_iff]; omega
theorem asp_done {rs : List Rm} {ns : List Nd} {v : Int} {q : List Int} {n : Nat} {w : World} {g : Nat} {T : TypeId} (h : Bk w g T (rng (n * 5) (plc fun x => if x < n then asp rs ns v q x else ⟨0, 0, 0, 0, 0⟩))) : RdR 5 pcl w (some ⟨g, 0, none⟩) (asl rs ns v q n) := fun i hi => by
  rw [asl_len] at hi
  refine ⟨g, 0, rfl, h.lt, fun j hj => ?_⟩
  rw [Nat.zero_add, plc_at h hi hj, if_pos hi, asl_at hi]
set_option maxHeartbeats 4000000 in
set_option maxRecDepth 100000 in
theorem assign_any (rs : List Rm) (ns : List Nd) (v : Int) (q : List Int) (A B D : Option Addr) (cA cB cD : Nat) (w : World) (hl1 : rs.length ≤ maxLen) (hl2 : ns.length ≤ maxLen) (hl3 : q.length ≤ maxLen) (hA : RdRm w A rs) (hB : RdNd w B ns) (hD : RdI w .i64 D q) :
    Calls Try.prog 26 #[.slice A rs.length cA, .slice B ns.length cB, .int .i64 v, .slice D q.length cD] w (AsgP (asg rs ns v q) w) := by
  have HCK := Lib.hid (check_any rs ns v A B cA cB w hl1 hl2 hA hB)
  have HA := Lib.hid hA
  have HB := Lib.hid hB
  have HD := Lib.hid hD
  clear hA hB hD
  unfold maxLen at hl1 hl2 hl3
  by_cases hc : chk rs ns v = 0
  · have hcl := chk_0_inv hc
    have hr8 : (rs.length : Int) ≤ 8 := by omega
    have hn60 : (ns.length : Int) ≤ 60 := by omega
    have HC := Lib.hid hc
    have HR : Hid (∀ i, i < rs.length → rmB (ge rs i) = true) := hcl.2.2.2.1
    rw [hc] at HCK
    clear hc hcl
    by_cases hlen : q.length = ns.length
    · have HL := Lib.hid hlen
      have hq60 : (q.length : Int) ≤ 60 := by omega
      have t0 : (((q.length : Int)) == (ns.length : Int)) = true := by rw [beq_iff_eq]; omega
      have t1 : (((q.length : Int)) != (ns.length : Int)) = false := by simp [hlen]
      clear hlen
      go_enter Try.func26, Try.ntmps26
      go_wp2_with fail
      refine HCK.out.mono ?_
      rintro e w1 ⟨rfl, hb1⟩
      clear HCK
      go_wp2_with fail
      go_loopw [35] (fun x wr => ∃ k : Nat, k ≤ q.length ∧ x = .int .i64 k ∧ Hid (∀ j, j < k → inB rs.length q j = true) ∧ Below w.heap.size w wr) (fun x _ => q.length - (intOf x).toNat)
      case atStart => exact ⟨0, Nat.zero_le _, rfl, fun j hj => absurd hj (by omega), hb1⟩
      case round =>
        clear hb1
        obtain ⟨k, hk, rfl, hok, hb⟩ := hrel
        by_cases hlt : k < q.length
        · obtain ⟨b, off, rfl, hbl, a0⟩ := (HD.out.old hb) k hlt
          have hk' : (k : Int) < q.length := by omega
          have hk0 : (0 : Int) ≤ k := by omega
          cases e1 : inB rs.length q k
          · have H := Lib.hid (asg_2 (v := v) HC.out HL.out k hlt e1)
            have e2 : ¬ (0 ≤ gi q k ∧ gi q k < rs.length) := fun h => by rw [inB_iff.2 h] at e1; cases e1
            rcases Int.lt_or_le (gi q k) 0 with h4 | h4
            · clear e1 e2
              go_wp2_with fail
              go_ret2
              exact asgp_nil _ hb H.out
            · have h5 : (rs.length : Int) ≤ gi q k := by omega
              clear e1 e2
              go_wp2_with fail
              go_ret2
              exact asgp_nil _ hb H.out
          · obtain ⟨h4, h5⟩ := inB_iff.1 e1
            have HN := Lib.hid (snocA hok.out e1)
            clear e1
            go_wp2_with fail
            go_roundw
            case rel => exact ⟨k + 1, by omega, by go_num, HN, hb⟩
            case measure => simp [intOf]; omega
        obtain rfl : k = q.length := by omega
        have HI := hok
        clear hok hlt hk
        go_wp2_with fail
        go_loopw [50] (fun x wr => ∃ k : Nat, k ≤ q.length ∧ x = .int .i64 k ∧ Hid (∀ j, j < k → stB rs ns q j = true) ∧ Below w.heap.size w wr) (fun x _ => q.length - (intOf x).toNat)
        case atStart => exact ⟨0, Nat.zero_le _, rfl, fun j hj => absurd hj (by omega), hb⟩
        case round =>
          clear hb
          obtain ⟨k, hk, rfl, hok, hb⟩ := hrel
          by_cases hlt : k < q.length
          · obtain ⟨b, off, rfl, hbl, a0⟩ := (HD.out.old hb) k hlt
            have hk' : (k : Int) < q.length := by omega
            have hk0 : (0 : Int) ≤ k := by omega
            obtain ⟨h4, h5⟩ := inB_iff.1 (HI.out k hlt)
            obtain ⟨u, hu⟩ : ∃ u : Nat, (u : Int) = gi q k := ⟨(gi q k).toNat, by omega⟩
            have hst : stB rs ns q k = sut (ge rs u) (ge ns k) := by unfold stB rmI; rw [← hu, Int.toNat_natCast]
            have Hst := Lib.hid hst
            rw [← hu] at a0
            have hul : u < rs.length := by omega
            have hu' : (u : Int) < rs.length := by omega
            have hu0 : (0 : Int) ≤ u := by omega
            have hkn : k < ns.length := by have := HL.out; omega
            have hkn' : (k : Int) < ns.length := by omega
            obtain ⟨rb, ro, rfl, hrl, c0, c1, c2⟩ := rm_at (HA.out.old hb) u hul
            obtain ⟨nb, no, rfl, hnl, d0, d1⟩ := nd_at (HB.out.old hb) k hkn
            clear hst hu h4 h5
            cases e1 : sut (ge rs u) (ge ns k)
            · have H := Lib.hid (asg_9 (v := v) HC.out HL.out HI.out k hlt (by rw [Hst.out]; exact e1))
              have e1' := e1
              go_wp2_with fail
              refine Mm.region_ext (by kernel_rfl) (by kernel_rfl) ?_; (repeat (first | go_big_quiet_step ((go_at_call 23; exact Mm.calls_ext (suits_any (ge rs u) (ge ns k) _))) | quiet_step ((go_at_call 23; exact Mm.calls_ext (suits_any (ge rs u) (ge ns k) _))))); refine wpQuiet_nil ?_
              intro w3 hb3
              have hb4 := bl_trans hb hb3
              go_wp2_with fail
              go_ret2
              exact asgp_nil _ hb4 H.out
            · have HN := Lib.hid (snocA hok.out (by rw [Hst.out]; exact e1))
              have e1' := e1
              go_wp2_with fail
              refine Mm.region_ext (by kernel_rfl) (by kernel_rfl) ?_; (repeat (first | go_big_quiet_step ((go_at_call 23; exact Mm.calls_ext (suits_any (ge rs u) (ge ns k) _))) | quiet_step ((go_at_call 23; exact Mm.calls_ext (suits_any (ge rs u) (ge ns k) _))))); refine wpQuiet_nil ?_
              intro w3 hb3
              have hb4 := bl_trans hb hb3
              go_wp2_with fail
              go_roundw
              case rel => exact ⟨k + 1, by omega, by go_num, HN, hb4⟩
              case measure => simp [intOf]; omega
          obtain rfl : k = q.length := by omega
          have HS := hok
          clear hok hlt hk
          obtain ⟨w2, hmk1, hb2, T1⟩ := make_ints rs.length (by omega) wr
          obtain ⟨w3, hmk2, hb3, P1⟩ := make_places ns.length (by omega) w2
          have T2 := T1.old hb3
          have hc3 := bl_trans (bl_trans hb hb2) hb3
          have hg1 : w.heap.size ≤ wr.heap.size := hb.size
          have hg2 : wr.heap.size < w2.heap.size := T1.lt
          have T3 : Bk w3 wr.heap.size 3 (rng rs.length fun r => .int .i64 (cnt q (r : Int) 0 : Nat)) := T2
          have P3 : Bk w3 w2.heap.size 52 (rng (ns.length * 5) (plc fun x => if x < 0 then asp rs ns v q x else ⟨0, 0, 0, 0, 0⟩)) := by
            rw [show (fun x => if x < 0 then asp rs ns v q x else (⟨0, 0, 0, 0, 0⟩ : Pc)) = fun _ => ⟨0, 0, 0, 0, 0⟩ from funext fun x => if_neg (by omega)]
            exact P1
          go_wp2_with fail
          clear hmk1 hmk2 hb2 hb3 T1 T2 P1 hb
          generalize wr.heap.size = G1 at T3 hg1 hg2 ⊢
          generalize w2.heap.size = G2 at P3 hg2 ⊢
          have hgg : G1 ≠ G2 := by omega
          have hgw : w.heap.size ≤ G2 := by omega
          go_loopw [74] (fun x wr => ∃ k : Nat, k ≤ q.length ∧ x = .int .i64 k ∧ Hid (∀ j, j < k → fuB rs q j = true) ∧ Bk wr G1 3 (rng rs.length fun r => .int .i64 (cnt q (r : Int) k : Nat)) ∧ Bk wr G2 52 (rng (ns.length * 5) (plc fun x => if x < k then asp rs ns v q x else ⟨0, 0, 0, 0, 0⟩)) ∧ Below w.heap.size w wr) (fun x _ => q.length - (intOf x).toNat)
          case atStart => exact ⟨0, Nat.zero_le _, rfl, fun j hj => absurd hj (by omega), T3, P3, hc3⟩
          case round =>
            clear T3 P3 hc3
            obtain ⟨k, hk, rfl, hok, hT, hP, hb⟩ := hrel
            by_cases hlt : k < q.length
            · obtain ⟨b, off, rfl, hbl, a0⟩ := (HD.out.old hb) k hlt
              have hk' : (k : Int) < q.length := by omega
              have hk0 : (0 : Int) ≤ k := by omega
              obtain ⟨h4, h5⟩ := inB_iff.1 (HI.out k hlt)
              obtain ⟨u, hu⟩ : ∃ u : Nat, (u : Int) = gi q k := ⟨(gi q k).toNat, by omega⟩
              have hul : u < rs.length := by omega
              have hrmI : rmI rs (gi q k) = ge rs u := by unfold rmI; rw [← hu, Int.toNat_natCast]
              obtain ⟨z1, z2, z3⟩ := capR_bd (HR.out u hul)
              have hrm2 := (rmB_iff _).1 (HR.out u hul)
              have hfu : fuB rs q k = decide ((cnt q (u : Int) k : Int) < (ge rs u).r * (ge rs u).c) := by unfold fuB; rw [hrmI, ← hu]
              have hcp : (cnt q (u : Int) k : Int) ≤ (ge rs u).r * (ge rs u).c := by
                have := cnt_cap (x := gi q k) hok.out (by rw [hrmI]; omega)
                rwa [hrmI, ← hu] at this
              have hasp : asp rs ns v q k = ⟨(ge ns k).c, (u : Int), (cnt q (u : Int) k : Int) / (ge rs u).c, (cnt q (u : Int) k : Int) % (ge rs u).c, var ((cnt q (u : Int) k : Int) / (ge rs u).c) ((cnt q (u : Int) k : Int) % (ge rs u).c) v⟩ := by unfold asp; rw [hrmI, ← hu]
              have hcn : ∀ r : Nat, cnt q (r : Int) (k + 1) = cnt q (r : Int) k + if r = u then 1 else 0 := fun r => by
                show cnt q (r : Int) k + (if gi q k = (r : Int) then 1 else 0) = _
                rw [← hu]
                by_cases e : r = u
                · rw [if_pos e, if_pos (by omega)]
                · rw [if_neg e, if_neg (by omega)]
              have Hfu := Lib.hid hfu
              have Hasp := Lib.hid hasp
              have Hcn := Lib.hid hcn
              rw [← hu] at a0
              have hu' : (u : Int) < rs.length := by omega
              have hu0 : (0 : Int) ≤ u := by omega
              have hkn : k < ns.length := by have := HL.out; omega
              have hkn' : (k : Int) < ns.length := by omega
              obtain ⟨rb, ro, rfl, hrl, c0, c1, c2⟩ := rm_at (HA.out.old hb) u hul
              obtain ⟨nb, no, rfl, hnl, d0, d1⟩ := nd_at (HB.out.old hb) k hkn
              have m0 : wr.cell? ⟨G1, u, none⟩ = some (.int .i64 (cnt q (u : Int) k : Nat)) := (hT.cell u).trans (rng_at hul)
              have hTl := hT.lt
              have y1 : (ge rs u).r ≤ 8 ∧ 1 ≤ (ge rs u).r := by omega
              have y2 : (ge rs u).c ≤ 8 ∧ 1 ≤ (ge rs u).c := by omega
              have y3 : 0 ≤ (ge rs u).r ∧ (ge rs u).r ≤ 100 := by omega
              have y4 : 0 ≤ (ge rs u).c ∧ (ge rs u).c ≤ 100 := by omega
              have HSQ := Lib.hid (seats_any (ge rs u) y3 y4)
              clear hu h4 h5 hrmI hfu hasp hcn hrm2 y3 y4
              generalize hqq : (ge rs u).r * (ge rs u).c = Q at HSQ hcp z1 z2 z3 Hfu
              clear hqq
              generalize hcc : cnt q (u : Int) k = C at *
              by_cases hfull : (C : Int) = Q
              · have H := Lib.hid (asg_3 (v := v) HC.out HL.out HI.out HS.out k hlt (by rw [Hfu.out]; exact decide_eq_false (by omega)))
                have t2 : ((C : Int) == Q) = true := beq_iff_eq.2 hfull
                clear hfull hcc
                go_wp2_with fail
                refine Mm.region_ext (by kernel_rfl) (by kernel_rfl) ?_; (repeat (first | go_big_quiet_step ((go_at_call 44; exact Mm.calls_ext (HSQ.out _))) | quiet_step ((go_at_call 44; exact Mm.calls_ext (HSQ.out _))))); refine wpQuiet_nil ?_
                intro w4 hb4
                have hb5 := bl_trans hb hb4
                go_wp2_with fail
                go_ret2
                exact asgp_nil _ hb5 H.out
              · have HN := Lib.hid (snocA hok.out (by rw [Hfu.out]; exact decide_eq_true (by omega)))
                have t2 : ((C : Int) == Q) = false := beq_eq_false_iff_ne.2 hfull
                have hC64 : (C : Int) ≤ 64 := by omega
                have Hcc := Lib.hid hcc
                clear hfull hcc
                go_wp2_with fail
                refine Mm.region_ext (by kernel_rfl) (by kernel_rfl) ?_; (repeat (first | go_big_quiet_step ((go_at_call 44; exact Mm.calls_ext (HSQ.out _))) | quiet_step ((go_at_call 44; exact Mm.calls_ext (HSQ.out _))))); refine wpQuiet_nil ?_
                intro w4 hb4
                have hb5 := bl_trans hb hb4
                have hT4 := hT.old hb4
                have hP4 := hP.old hb4
                have HA4 := HA.out.old hb5
                obtain ⟨_, _, erb, hrl4, -, c14, -⟩ := rm_at HA4 u hul
                cases erb
                have m4 : w4.cell? ⟨G1, u, none⟩ = some (.int .i64 (C : Nat)) := by have := (hT4.cell u).trans (rng_at hul); rw [Hcc.out] at this; exact this
                have hTl4 := hT4.lt
                clear c0 c1 c2 d0 d1 m0 hTl hrl hnl hbl a0 hb4 HA4
                obtain ⟨Dv, hDv⟩ : ∃ Dv : Int, Dv = (C : Int) / (ge rs u).c := ⟨_, rfl⟩
                obtain ⟨Mv, hMv⟩ : ∃ Mv : Int, Mv = (C : Int) % (ge rs u).c := ⟨_, rfl⟩
                have ed : Int.tdiv (C : Int) (ge rs u).c = Dv := by rw [hDv]; exact Int.tdiv_eq_ediv_of_nonneg (by omega)
                have em : Int.tmod (C : Int) (ge rs u).c = Mv := by rw [hMv]; exact Int.tmod_eq_emod_of_nonneg (by omega)
                have hD0 : 0 ≤ Dv ∧ Dv ≤ 64 := by
                  rw [hDv]
                  refine ⟨Int.ediv_nonneg (by omega) (by omega), Int.le_trans (Int.ediv_le_self _ (by omega)) (by omega)⟩
                have hM0 : 0 ≤ Mv ∧ Mv ≤ 8 := by
                  rw [hMv]
                  have := Int.emod_lt_of_pos (C : Int) (show 0 < (ge rs u).c by omega)
                  exact ⟨Int.emod_nonneg _ (by omega), by omega⟩
                have hcne : ¬ (ge rs u).c = 0 := by omega
                have ew : IntKind.i64.wrap Dv = Dv := IntWalk.i64_in _ (by omega)
                rw [← hDv, ← hMv] at Hasp
                clear hDv hMv
                go_wp2_with fail
                refine Mm.region_ext (by kernel_rfl) (by kernel_rfl) ?_; (repeat (first | go_big_quiet_step (fail) | quiet_step (fail))); refine wpQuiet_nil ?_
                intro w6 hb6
                clear ed em ew hcne
                go_upto_region 26 with fail
                have hT6 := hT4.old hb6
                have hP6 := hP4.old hb6
                have hb7 := bl_trans hb5 hb6
                have m6 : w6.cell? ⟨G1, u, none⟩ = some (.int .i64 (C : Nat)) := by have := (hT6.cell u).trans (rng_at hul); rw [Hcc.out] at this; exact this
                have f6 := hT6.frozen u
                have hTl6 := hT6.lt
                clear hT4 hP4 hb5 hb6 m4 c14 hTl4 hrl4 hT hP hb
                go_upto_region 27 with fail
                have hT8 : Bk (w6.setCell ⟨G1, u, none⟩ (.int .i64 ((C : Int) + 1))) G1 3 (rng rs.length fun r => .int .i64 (cnt q (r : Int) (k + 1) : Nat)) := by
                  have := hT6.set u (.int .i64 ((C : Int) + 1))
                  rw [rng_set] at this
                  rw [rng_congr (g := fun x => if x = u then .int .i64 ((C : Int) + 1) else .int .i64 (cnt q (x : Int) k : Nat)) fun r _ => ?_]
                  · exact this
                  · rw [Hcn.out r]
                    by_cases e : r = u
                    · subst e; rw [if_pos rfl, if_pos rfl, Hcc.out]; rfl
                    · rw [if_neg e, if_neg e]; rfl
                have hP8 : Bk (w6.setCell ⟨G1, u, none⟩ (.int .i64 ((C : Int) + 1))) G2 52 _ := hP6.far (show G2 ≠ G1 by omega) _
                have hb8 : Below w.heap.size w (w6.setCell ⟨G1, u, none⟩ (.int .i64 ((C : Int) + 1))) := hb7.setCell hg1 _
                generalize w6.setCell ⟨G1, u, none⟩ (.int .i64 ((C : Int) + 1)) = w8 at hT8 hP8 hb8 ⊢
                clear hT6 hP6 hb7 m6 f6 hTl6
                obtain ⟨_, _, enb, hnl8, d8, -⟩ := nd_at (HB.out.old hb8) k hkn
                cases enb
                have hPl := hP8.lt
                have hz : (if k < k then asp rs ns v q k else (⟨0, 0, 0, 0, 0⟩ : Pc)) = ⟨0, 0, 0, 0, 0⟩ := if_neg (by omega)
                have p0 : w8.cell? ⟨G2, k * 5, none⟩ = some (.int .i64 0) := by have := plc_at hP8 (i := k) (j := 0) hkn (by omega); rw [hz] at this; exact this
                have p1 : w8.cell? ⟨G2, k * 5 + 1, none⟩ = some (.int .i64 0) := by have := plc_at hP8 (i := k) (j := 1) hkn (by omega); rw [hz] at this; exact this
                have p2 : w8.cell? ⟨G2, k * 5 + 2, none⟩ = some (.int .i64 0) := by have := plc_at hP8 (i := k) (j := 2) hkn (by omega); rw [hz] at this; exact this
                have p3 : w8.cell? ⟨G2, k * 5 + 3, none⟩ = some (.int .i64 0) := by have := plc_at hP8 (i := k) (j := 3) hkn (by omega); rw [hz] at this; exact this
                have p4 : w8.cell? ⟨G2, k * 5 + 4, none⟩ = some (.int .i64 0) := by have := plc_at hP8 (i := k) (j := 4) hkn (by omega); rw [hz] at this; exact this
                have r0 := hP8.frozen (k * 5)
                have r1 := hP8.frozen (k * 5 + 1)
                have r2 := hP8.frozen (k * 5 + 2)
                have r3 := hP8.frozen (k * 5 + 3)
                have r4 := hP8.frozen (k * 5 + 4)
                clear hz
                refine Am.wp_region_M (S := fun w' => w'.cell? ⟨nb, no + k * 2, none⟩ = some (.int .i64 (ge ns k).c)) [17] (by kernel_rfl) d8 (fun hS => ?_)
                (refine Am.wpAnyM_take (i := 0) (v := ?_) rfl (by kernel_rfl) (by kernel_rfl) (by kernel_rfl) (by kernel_rfl) (by kernel_rfl) (fun _ _ _ h => h) (Or.inl ⟨by rfl, ?_⟩) hS ?_; rotate_left 1; focus (intro w' hSw; (try dsimp only at hSw); go_simp; try (with_reducible rfl)); try simp only [Act.put, List.setIfInBounds_toArray, List.set_cons_zero, List.set_cons_succ])
                (refine Am.wpAnyM_take (i := 1) (v := ?_) rfl (by kernel_rfl) (by kernel_rfl) (by kernel_rfl) (by kernel_rfl) (by kernel_rfl) (fun _ _ _ h => h) (Or.inl ⟨by rfl, ?_⟩) hS ?_; rotate_left 1; focus (intro w' hSw; (try dsimp only at hSw); go_simp; try (with_reducible rfl)); try simp only [Act.put, List.setIfInBounds_toArray, List.set_cons_zero, List.set_cons_succ])
                (refine Am.wpAnyM_take (i := 2) (v := ?_) rfl (by kernel_rfl) (by kernel_rfl) (by kernel_rfl) (by kernel_rfl) (by kernel_rfl) (fun _ _ _ h => h) (Or.inl ⟨by rfl, ?_⟩) hS ?_; rotate_left 1; focus (intro w' hSw; (try dsimp only at hSw); go_simp; try (with_reducible rfl)); try simp only [Act.put, List.setIfInBounds_toArray, List.set_cons_zero, List.set_cons_succ])
                (refine Am.wpAnyM_take (i := 3) (v := ?_) rfl (by kernel_rfl) (by kernel_rfl) (by kernel_rfl) (by kernel_rfl) (by kernel_rfl) (fun _ _ _ h => h) (Or.inl ⟨by rfl, ?_⟩) hS ?_; rotate_left 1; focus (intro w' hSw; (try dsimp only at hSw); go_simp; try (with_reducible rfl)); try simp only [Act.put, List.setIfInBounds_toArray, List.set_cons_zero, List.set_cons_succ])
                (refine Am.wpAnyM_take (i := 4) (v := ?_) rfl (by kernel_rfl) (by kernel_rfl) (by kernel_rfl) (by kernel_rfl) (by kernel_rfl) (fun _ _ _ h => h) (Or.inl ⟨by rfl, ?_⟩) hS ?_; rotate_left 1; focus (intro w' hSw; (try dsimp only at hSw); go_simp; try (with_reducible rfl)); try simp only [Act.put, List.setIfInBounds_toArray, List.set_cons_zero, List.set_cons_succ])
                (refine Am.wpAnyM_take (i := 5) (v := ?_) rfl (by kernel_rfl) (by kernel_rfl) (by kernel_rfl) (by kernel_rfl) (by kernel_rfl) (fun _ _ _ h => h) (Or.inl ⟨by rfl, ?_⟩) hS ?_; rotate_left 1; focus (intro w' hSw; (try dsimp only at hSw); go_simp; try (with_reducible rfl)); try simp only [Act.put, List.setIfInBounds_toArray, List.set_cons_zero, List.set_cons_succ])
                (refine Am.wpAnyM_take (i := 6) (v := ?_) rfl (by kernel_rfl) (by kernel_rfl) (by kernel_rfl) (by kernel_rfl) (by kernel_rfl) (fun _ _ _ h => h) (Or.inl ⟨by rfl, ?_⟩) hS ?_; rotate_left 1; focus (intro w' hSw; (try dsimp only at hSw); go_simp; try (with_reducible rfl)); try simp only [Act.put, List.setIfInBounds_toArray, List.set_cons_zero, List.set_cons_succ])
                (refine Am.wpAnyM_take (i := 7) (v := ?_) rfl (by kernel_rfl) (by kernel_rfl) (by kernel_rfl) (by kernel_rfl) (by kernel_rfl) (fun _ _ _ h => h) (Or.inl ⟨by rfl, ?_⟩) hS ?_; rotate_left 1; focus (intro w' hSw; (try dsimp only at hSw); go_simp; try (with_reducible rfl)); try simp only [Act.put, List.setIfInBounds_toArray, List.set_cons_zero, List.set_cons_succ])
                (refine Am.wpAnyM_take (i := 8) (v := ?_) rfl (by kernel_rfl) (by kernel_rfl) (by kernel_rfl) (by kernel_rfl) (by kernel_rfl) (fun _ _ _ h => h) (Or.inl ⟨by rfl, ?_⟩) hS ?_; rotate_left 1; focus (intro w' hSw; (try dsimp only at hSw); go_simp; try (with_reducible rfl)); try simp only [Act.put, List.setIfInBounds_toArray, List.set_cons_zero, List.set_cons_succ])
                (refine Am.wpAnyM_take (i := 9) (v := ?_) rfl (by kernel_rfl) (by kernel_rfl) (by kernel_rfl) (by kernel_rfl) (by kernel_rfl) (fun _ _ _ h => h) (Or.inl ⟨by rfl, ?_⟩) hS ?_; rotate_left 1; focus (intro w' hSw; (try dsimp only at hSw); go_simp; try (with_reducible rfl)); try simp only [Act.put, List.setIfInBounds_toArray, List.set_cons_zero, List.set_cons_succ])
                (refine Am.wpAnyM_take (i := 10) (v := ?_) rfl (by kernel_rfl) (by kernel_rfl) (by kernel_rfl) (by kernel_rfl) (by kernel_rfl) (fun _ _ _ h => h) (Or.inl ⟨by rfl, ?_⟩) hS ?_; rotate_left 1; focus (intro w' hSw; (try dsimp only at hSw); go_simp; try (with_reducible rfl)); try simp only [Act.put, List.setIfInBounds_toArray, List.set_cons_zero, List.set_cons_succ])
                (refine Am.wpAnyM_take (i := 11) (v := ?_) rfl (by kernel_rfl) (by kernel_rfl) (by kernel_rfl) (by kernel_rfl) (by kernel_rfl) (fun _ _ _ h => h) (Or.inl ⟨by rfl, ?_⟩) hS ?_; rotate_left 1; focus (intro w' hSw; (try dsimp only at hSw); go_simp; try (with_reducible rfl)); try simp only [Act.put, List.setIfInBounds_toArray, List.set_cons_zero, List.set_cons_succ])
                (refine Am.wpAnyM_take (i := 12) (v := ?_) rfl (by kernel_rfl) (by kernel_rfl) (by kernel_rfl) (by kernel_rfl) (by kernel_rfl) (fun _ _ _ h => h) (Or.inl ⟨by rfl, ?_⟩) hS ?_; rotate_left 1; focus (intro w' hSw; (try dsimp only at hSw); go_simp; try (with_reducible rfl)); try simp only [Act.put, List.setIfInBounds_toArray, List.set_cons_zero, List.set_cons_succ])
                (refine Am.wpAnyM_take (i := 13) (v := ?_) rfl (by kernel_rfl) (by kernel_rfl) (by kernel_rfl) (by kernel_rfl) (by kernel_rfl) (fun _ _ _ h => h) (Or.inl ⟨by rfl, ?_⟩) hS ?_; rotate_left 1; focus (intro w' hSw; (try dsimp only at hSw); go_simp; try (with_reducible rfl)); try simp only [Act.put, List.setIfInBounds_toArray, List.set_cons_zero, List.set_cons_succ])
                refine Am.wpAnyM_one (i := 14) (by kernel_rfl) (by exact rfl) ?_
                intro K hK
                go_simp
                refine (variant_any Dv Mv v _).mono ?_
                rintro e w9 ⟨rfl, rfl⟩
                go_simp
                refine hK.out _ _ hS (fun hS => ?_)
                clear hK K
                (refine Am.wpAnyM_take (i := 15) (v := ?_) rfl (by kernel_rfl) (by kernel_rfl) (by kernel_rfl) (by kernel_rfl) (by kernel_rfl) (fun _ _ _ h => h) (Or.inl ⟨by rfl, ?_⟩) hS ?_; rotate_left 1; focus (intro w' hSw; (try dsimp only at hSw); go_simp; try (with_reducible rfl)); try simp only [Act.put, List.setIfInBounds_toArray, List.set_cons_zero, List.set_cons_succ])
                (refine Am.wpAnyM_take (i := 16) (v := ?_) rfl (by kernel_rfl) (by kernel_rfl) (by kernel_rfl) (by kernel_rfl) (by kernel_rfl) (fun _ _ _ h => h) (Or.inl ⟨by rfl, ?_⟩) hS ?_; rotate_left 1; focus (intro w' hSw; (try dsimp only at hSw); go_simp; try (with_reducible rfl)); try simp only [Act.put, List.setIfInBounds_toArray, List.set_cons_zero, List.set_cons_succ])
                (refine Am.wpAnyM_tail (i := 17) (by kernel_rfl) rfl (by rfl) (fun K hK => ?_); go_simp; refine hK.out _ _ ?_; clear hK K; try simp only [Act.put, List.setIfInBounds_toArray, List.set_cons_zero, List.set_cons_succ])
                refine Am.wpAnyM_done (by kernel_rfl) ?_ _
                clear p0 p1 p2 p3 p4 r0 r1 r2 r3 r4
                have hX := plc_set hP8 hkn ⟨(ge ns k).c, (u : Int), Dv, Mv, var Dv Mv v⟩
                rw [show (fun y => if y = k then (⟨(ge ns k).c, (u : Int), Dv, Mv, var Dv Mv v⟩ : Pc) else if y < k then asp rs ns v q y else ⟨0, 0, 0, 0, 0⟩) = fun y => if y < k + 1 then asp rs ns v q y else ⟨0, 0, 0, 0, 0⟩ from funext fun y => by
                  by_cases e : y = k
                  · subst e; rw [if_pos rfl, if_pos (by omega), Hasp.out]
                  · rw [if_neg e]
                    by_cases e2 : y < k
                    · rw [if_pos e2, if_pos (by omega)]
                    · rw [if_neg e2, if_neg (by omega)]] at hX
                have hTX := ((((hT8.far (p := ⟨G2, k * 5, none⟩) hgg (.int .i64 (ge ns k).c)).far (p := ⟨G2, k * 5 + 1, none⟩) hgg (.int .i64 (u : Int))).far (p := ⟨G2, k * 5 + 2, none⟩) hgg (.int .i64 Dv)).far (p := ⟨G2, k * 5 + 3, none⟩) hgg (.int .i64 Mv)).far (p := ⟨G2, k * 5 + 4, none⟩) hgg (.int .i64 (var Dv Mv v))
                have hbX := ((((hb8.setCell (p := ⟨G2, k * 5, none⟩) hgw (.int .i64 (ge ns k).c)).setCell (p := ⟨G2, k * 5 + 1, none⟩) hgw (.int .i64 (u : Int))).setCell (p := ⟨G2, k * 5 + 2, none⟩) hgw (.int .i64 Dv)).setCell (p := ⟨G2, k * 5 + 3, none⟩) hgw (.int .i64 Mv)).setCell (p := ⟨G2, k * 5 + 4, none⟩) hgw (.int .i64 (var Dv Mv v))
                clear hP8 hT8 hb8 d8 hS
                go_wp2_with fail
                go_roundw
                case rel => exact ⟨k + 1, by omega, by go_num, HN, hTX.drew, hX.drew, hbX.drew⟩
                case measure => simp [intOf]; omega
            · obtain rfl : k = q.length := by omega
              have H := Lib.hid (asg_0 HC.out HL.out HI.out HS.out hok.out)
              have hPl := hP.lt
              go_wp2_with fail
              go_ret2
              refine ⟨some ⟨G2, 0, none⟩, ns.length, ?_, ?_, fun a ha => (by cases ha; exact ⟨hgw, hPl⟩), fun a ha o => (by cases ha; exact hP.frozen o), hb⟩
              · rw [H.out]; simp only [asl_len]; rfl
              · rw [H.out]
                rw [HL.out] at hP
                exact asp_done hP
    · have H := Lib.hid (asg_1 (q := q) HC.out hlen)
      have t1 : (((q.length : Int)) != (ns.length : Int)) = true := by rw [bne_iff_ne]; omega
      clear hlen
      go_enter Try.func26, Try.ntmps26
      go_wp2_with fail
      refine HCK.out.mono ?_
      rintro e w1 ⟨rfl, hb1⟩
      go_wp2_with fail
      go_ret2
      exact asgp_nil _ hb1 H.out
  · have H := Lib.hid (asg_c (q := q) hc)
    have t : (chk rs ns v != 0) = true := by rw [bne_iff_ne]; exact hc
    have HC := Lib.hid hc
    clear hc
    generalize chk rs ns v = x at *
    go_enter Try.func26, Try.ntmps26
    go_wp2_with fail
    refine HCK.out.mono ?_
    rintro e w1 ⟨rfl, hb1⟩
    go_wp2_with fail
    go_ret2
    exact asgp_nil _ hb1 H.out
end Go.Proofs.Ytcidpgjeddogmaa.Pl
