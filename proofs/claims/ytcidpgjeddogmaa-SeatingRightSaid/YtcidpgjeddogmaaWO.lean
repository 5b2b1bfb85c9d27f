/- Walk: Assign of the reference. -/
import Derived.Test.YtcidpgjeddogmaaVW
import Derived.Test.YtcidpgjeddogmaaVD
import Derived.Test.YtcidpgjeddogmaaWG
import Derived.WalkKit
import Derived.WalkSpells
import Derived.WalkLawsBesides
import Derived.Deep.QuietTactic
import Derived.BigQuiet
import Derived.Deep.Draws
import Derived.Deep.AppendLies
import Derived.Laws.OwnMore
import Derived.Laws.BytesArg
import Derived.Lib.Hide
import Derived.Deep.LoopGhost
import Derived.Laws.MakeOwn
namespace Go.Proofs.Ytcidpgjeddogmaa.Pl
open Go.RowKit
open Go.Proofs.Ytcidpgjeddogmaa.Mw
open Go.Proofs.Ytcidpgjeddogmaa.St
set_option linter.unusedVariables false
set_option linter.unusedSimpArgs false

/-- Appending a place to a row of the call's own. -/
theorem app_place {w : World} {base g : Nat} {v : Value} {xs : List Pc} {r : Pc} (hown : w.ownsRow base 52 5 v xs.length (xs.flatMap pcl)) (hr : Bk w g 52 (pcl r).toArray) (h1 : xs.length ≤ 10000) (hb : base ≤ w.heap.size) :
    ∃ v' w', (Builtin.append_ #[44, 44] 44 #[v, .slice (some ⟨g, 0, none⟩) 1 1]).run Try.prog w = .ok v' w' ∧ w'.ownsRow base 52 5 v' (xs ++ [r]).length ((xs ++ [r]).flatMap pcl) ∧ w.grownBy w' v.ownBlock := by
  obtain ⟨i0, hi0, hz0, hz1, hz2⟩ := info_parts infoPlace
  obtain ⟨v', w', h2, h3, h4, -, -⟩ := run_append_own_at (P := Try.prog) (w := w) base 44 44 52 i0 _ 5 40 Try.underlying44 hi0 hz0 hz1 hz2 rfl (by decide) v xs.length (xs.flatMap pcl) hown ⟨g, 0, none⟩ 1 1 (pcl r) rfl (blk_news hr) (by simp [pcl, Value.oneCell']) (by simp only [maxLen]; omega) (by omega) hb
  exact ⟨v', w', h2, by rw [List.flatMap_append, List.length_append]; simpa using h3, h4⟩
theorem cell_al {w : World} {b o : Nat} {v : Value} (h : w.cell? ⟨b, o, none⟩ = some v) (hb : b < w.heap.size) (x : Obj) : (w.alloc x).cell? ⟨b, o, none⟩ = some v := (((Below.refl w.heap.size w).alloc (Nat.le_refl _) x).cell (p := ⟨b, o, none⟩) hb).trans h
theorem ite_yes' {b : Bool} {p q : Prop} (h : b = true) (x : p) : if b = true then p else q := by rw [if_pos h]; exact x
theorem wp_append_run' {P : Program} {o : Oper} {a : Act} {w : World} {K : Act → World → Prop} {Q : Exit → Act → World → Prop} (s x : Operand) (t : TypeId)
    (ho : o.op = .call { callee := .builtin .append, args := #[s, x], argTypes := #[t, t] }) (v u : Value) (hs : a.eval s = v) (hx : a.eval x = u) (v' : Value) (w' : World)
    (hrun : (Builtin.append_ #[t, t] o.type #[v, u]).run P w = .ok v' w') (h : K (a.put o.dst v') w') : Oper.wp P o a w K Q := by
  unfold Oper.wp execOp
  simp only [ho, resolve, invoke, builtin, Sem.run_bind, Sem.run_pure, Result.andThen_ok, List.map_toArray, List.map_cons, List.map_nil, hs, hx, hrun]
  exact h
/-- As AsgP, and the list's length is within its capacity. -/
def AsgQ (r : List Pc × Int) (w : World) (e : Ending) (w' : World) : Prop := ∃ A c, e = .returned (.tuple #[.slice A r.1.length c, .int .i64 r.2]) ∧ r.1.length ≤ c ∧ RdR 5 pcl w' A r.1 ∧ (∀ a, A = some a → w.heap.size ≤ a.block ∧ a.block < w'.heap.size) ∧ (∀ a, A = some a → ∀ o, w'.frozen? ⟨a.block, o, none⟩ = false) ∧ Below w.heap.size w w'
theorem asgq_nil (n : Int) {w w' : World} (hb : Below w.heap.size w w') {r : List Pc × Int} (hr : r = ([], n)) : AsgQ r w (.returned (.tuple #[.slice none 0 0, .int .i64 n])) w' := by
  subst hr
  exact ⟨none, 0, rfl, Nat.le_refl _, RdR.nil _ _, fun a ha => (by cases ha), fun a ha => (by cases ha), hb⟩
set_option maxHeartbeats 4000000 in
set_option maxRecDepth 100000 in
theorem rassign_cap (rs : List Rm) (ns : List Nd) (v : Int) (q : List Int) (A B D : Option Addr) (cA cB cD : Nat) (w : World) (hl1 : rs.length ≤ maxLen) (hl2 : ns.length ≤ maxLen) (hl3 : q.length ≤ maxLen) (hA : RdRm w A rs) (hB : RdNd w B ns) (hD : RdI w .i64 D q) :
    Calls Try.prog 27 #[.slice A rs.length cA, .slice B ns.length cB, .int .i64 v, .slice D q.length cD] w (AsgQ (asg rs ns v q) w) := by
  have HCK := Lib.hid (rcheck_any rs ns v A B cA cB w hl1 hl2 hA hB)
  have HA := Lib.hid hA
  have HB := Lib.hid hB
  have HD := Lib.hid hD
  clear hA hB hD
  unfold maxLen at hl1 hl2 hl3
  by_cases hc : chk rs ns v = 0
  · have hcl := chk_0_inv hc
    have hr8 : (rs.length : Int) ≤ 8 := by omega
    have hn60 : (ns.length : Int) ≤ 60 := by omega
    have HC := Lib.hid hc
    have HR : Hid (∀ i, i < rs.length → rmB (ge rs i) = true) := hcl.2.2.2.1
    have hw0 : IntKind.i64.wrap ((rs.length : Int) - 1) = (rs.length : Int) - 1 := IntWalk.i64_in _ (by omega)
    rw [hc] at HCK
    clear hc hcl
    by_cases hlen : q.length = ns.length
    · have HL := Lib.hid hlen
      have hq60 : (q.length : Int) ≤ 60 := by omega
      have t1 : (((q.length : Int)) != (ns.length : Int)) = false := by simp [hlen]
      clear hlen
      go_enter Try.func27, Try.ntmps27
      go_wp2_with fail
      refine HCK.out.mono ?_
      rintro e w1 ⟨rfl, hb1⟩
      clear HCK
      go_wp2_with fail
      go_loopw [11] (fun x wr => ∃ k : Nat, k ≤ q.length ∧ x = .int .i64 k ∧ Hid (∀ j, j < k → inB rs.length q j = true) ∧ Below w.heap.size w wr) (fun x _ => q.length - (intOf x).toNat)
      case atStart => exact ⟨0, Nat.zero_le _, rfl, fun j hj => absurd hj (by omega), hb1⟩
      case round =>
        clear hb1
        obtain ⟨k, hk, rfl, hok, hb⟩ := hrel
        by_cases hlt : k < q.length
        · obtain ⟨b, off, rfl, hbl, a0⟩ := (HD.out.old hb) k hlt
          have hk' : (k : Int) < q.length := by omega
          have hk0 : (0 : Int) ≤ k := by omega
          cases e1 : ins (gi q k) 0 ((rs.length : Int) - 1)
          · have H := Lib.hid (asg_2 (v := v) HC.out HL.out k hlt e1)
            go_wp2_with (go_at_call 45; refine (inside_any _ _ _ _).mono ?_; rintro e w' ⟨rfl, rfl⟩)
            go_ret2
            exact asgq_nil _ hb H.out
          · have HN := Lib.hid (snocA hok.out (show inB rs.length q k = true from e1))
            go_wp2_with (go_at_call 45; refine (inside_any _ _ _ _).mono ?_; rintro e w' ⟨rfl, rfl⟩)
            go_roundw
            case rel => exact ⟨k + 1, by omega, by go_num, HN, hb⟩
            case measure => simp [intOf]; omega
        obtain rfl : k = q.length := by omega
        have HI := hok
        clear hok hlt hk hw0
        go_wp2_with fail
        go_loopw [12] (fun x wr => ∃ k : Nat, k ≤ q.length ∧ x = .int .i64 k ∧ Hid (∀ j, j < k → stB rs ns q j = true) ∧ Below w.heap.size w wr) (fun x _ => q.length - (intOf x).toNat)
        case atStart => exact ⟨0, Nat.zero_le _, rfl, fun j hj => absurd hj (by omega), hb⟩
        case round =>
          clear hb
          obtain ⟨k, hk, rfl, hok, hb⟩ := hrel
          by_cases hlt : k < q.length
          · obtain ⟨b, off, rfl, hbl, a0⟩ := (HD.out.old hb) k hlt
            have hk' : (k : Int) < q.length := by omega
            have hk0 : (0 : Int) ≤ k := by omega
            obtain ⟨h4, h5⟩ := inB_iff.1 (HI.out k hlt)
            obtain ⟨u, hu⟩ : ∃ u : Nat, (u : Int) = gi q k := ⟨(gi q k).toNat, by omega⟩
            have hst : stB rs ns q k = sut (ge rs u) (ge ns k) := by unfold stB rmI; rw [← hu, Int.toNat_natCast]
            have Hst := Lib.hid hst
            rw [← hu] at a0
            have hul : u < rs.length := by omega
            have hu' : (u : Int) < rs.length := by omega
            have hu0 : (0 : Int) ≤ u := by omega
            have hkn : k < ns.length := by have := HL.out; omega
            have hkn' : (k : Int) < ns.length := by omega
            obtain ⟨rb, ro, rfl, hrl, c0, c1, c2⟩ := rm_at (HA.out.old hb) u hul
            obtain ⟨nb, no, rfl, hnl, d0, d1⟩ := nd_at (HB.out.old hb) k hkn
            clear hst hu h4 h5
            cases e1 : sut (ge rs u) (ge ns k)
            · have H := Lib.hid (asg_9 (v := v) HC.out HL.out HI.out k hlt (by rw [Hst.out]; exact e1))
              have e1' := e1
              go_wp2_with fail
              refine Mm.region_ext (by kernel_rfl) (by kernel_rfl) ?_; (repeat (first | go_big_quiet_step ((go_at_call 24; exact Mm.calls_ext (rsuits_any (ge rs u) (ge ns k) _))) | quiet_step ((go_at_call 24; exact Mm.calls_ext (rsuits_any (ge rs u) (ge ns k) _))))); refine wpQuiet_nil ?_
              intro w3 hb3
              have hb4 := bl_trans hb hb3
              go_wp2_with fail
              go_ret2
              exact asgq_nil _ hb4 H.out
            · have HN := Lib.hid (snocA hok.out (by rw [Hst.out]; exact e1))
              have e1' := e1
              go_wp2_with fail
              refine Mm.region_ext (by kernel_rfl) (by kernel_rfl) ?_; (repeat (first | go_big_quiet_step ((go_at_call 24; exact Mm.calls_ext (rsuits_any (ge rs u) (ge ns k) _))) | quiet_step ((go_at_call 24; exact Mm.calls_ext (rsuits_any (ge rs u) (ge ns k) _))))); refine wpQuiet_nil ?_
              intro w3 hb3
              have hb4 := bl_trans hb hb3
              go_wp2_with fail
              go_roundw
              case rel => exact ⟨k + 1, by omega, by go_num, HN, hb4⟩
              case measure => simp [intOf]; omega
          obtain rfl : k = q.length := by omega
          have HS := hok
          clear hok hlt hk
          obtain ⟨w2, hmk1, hb2, T1⟩ := make_ints rs.length (by omega) wr
          have hc3 := bl_trans hb hb2
          have hg1 : w.heap.size ≤ wr.heap.size := hb.size
          have hg2 : wr.heap.size < w2.heap.size := T1.lt
          have T3 : Bk w2 wr.heap.size 3 (rng rs.length fun r => .int .i64 (cnt q (r : Int) 0 : Nat)) := T1
          go_wp2_with fail
          clear hmk1 hb2 T1 hb
          generalize wr.heap.size = G1 at T3 hg1 hg2 ⊢
          go_loopw [14, 15] (fun y x wr => ∃ k : Nat, k ≤ q.length ∧ x = .int .i64 k ∧ Hid (∀ j, j < k → fuB rs q j = true) ∧ Bk wr G1 3 (rng rs.length fun r => .int .i64 (cnt q (r : Int) k : Nat)) ∧ wr.ownsRow w2.heap.size 52 5 y (asl rs ns v q k).length ((asl rs ns v q k).flatMap pcl) ∧ w2.heap.size ≤ wr.heap.size ∧ Below w.heap.size w wr) (fun _ x _ => q.length - (intOf x).toNat)
          case atStart => exact ⟨0, Nat.zero_le _, rfl, fun j hj => absurd hj (by omega), T3, World.ownsRow_nil _ _ _ _, Nat.le_refl _, hc3⟩
          case round =>
            clear T3 hc3
            obtain ⟨k, hk, rfl, hok, hT, hown, hsz, hb⟩ := hrel
            by_cases hlt : k < q.length
            · obtain ⟨b, off, rfl, hbl, a0⟩ := (HD.out.old hb) k hlt
              have hk' : (k : Int) < q.length := by omega
              have hk0 : (0 : Int) ≤ k := by omega
              obtain ⟨h4, h5⟩ := inB_iff.1 (HI.out k hlt)
              obtain ⟨u, hu⟩ : ∃ u : Nat, (u : Int) = gi q k := ⟨(gi q k).toNat, by omega⟩
              have hul : u < rs.length := by omega
              have hrmI : rmI rs (gi q k) = ge rs u := by unfold rmI; rw [← hu, Int.toNat_natCast]
              obtain ⟨z1, z2, z3⟩ := capR_bd (HR.out u hul)
              have hrm2 := (rmB_iff _).1 (HR.out u hul)
              have hfu : fuB rs q k = decide ((cnt q (u : Int) k : Int) < (ge rs u).r * (ge rs u).c) := by unfold fuB; rw [hrmI, ← hu]
              have hcp : (cnt q (u : Int) k : Int) ≤ (ge rs u).r * (ge rs u).c := by
                have := cnt_cap (x := gi q k) hok.out (by rw [hrmI]; omega)
                rwa [hrmI, ← hu] at this
              have hasp : asp rs ns v q k = ⟨(ge ns k).c, (u : Int), (cnt q (u : Int) k : Int) / (ge rs u).c, (cnt q (u : Int) k : Int) % (ge rs u).c, var ((cnt q (u : Int) k : Int) / (ge rs u).c) ((cnt q (u : Int) k : Int) % (ge rs u).c) v⟩ := by unfold asp; rw [hrmI, ← hu]
              have hcn : ∀ r : Nat, cnt q (r : Int) (k + 1) = cnt q (r : Int) k + if r = u then 1 else 0 := fun r => by
                show cnt q (r : Int) k + (if gi q k = (r : Int) then 1 else 0) = _
                rw [← hu]
                by_cases e : r = u
                · rw [if_pos e, if_pos (by omega)]
                · rw [if_neg e, if_neg (by omega)]
              have Hfu := Lib.hid hfu
              have Hasp := Lib.hid hasp
              have Hcn := Lib.hid hcn
              have Hu := Lib.hid hu
              rw [← hu] at a0
              have hu' : (u : Int) < rs.length := by omega
              have hu0 : (0 : Int) ≤ u := by omega
              have hkn : k < ns.length := by have := HL.out; omega
              have hkn' : (k : Int) < ns.length := by omega
              obtain ⟨rb, ro, rfl, hrl, c0, c1, c2⟩ := rm_at (HA.out.old hb) u hul
              have m0 : wr.cell? ⟨G1, u, none⟩ = some (.int .i64 (cnt q (u : Int) k : Nat)) := (hT.cell u).trans (rng_at hul)
              have hTl := hT.lt
              have y1 : (ge rs u).r ≤ 8 ∧ 1 ≤ (ge rs u).r := by omega
              have y2 : (ge rs u).c ≤ 8 ∧ 1 ≤ (ge rs u).c := by omega
              have hbW : Below w.heap.size w (wr.alloc (.cells #[.int .i64 (ge rs u).r, .int .i64 (ge rs u).c, .int .i64 (ge rs u).o] 35)) := by (repeat (first | with_reducible exact Below.refl _ _ | with_reducible refine bl_drewN ?_ _ | with_reducible refine Below.drew ?_ | with_reducible refine bl_alloc ?_ _ | with_reducible refine Below.alloc ?_ (by first | omega | (simp; done) | (simp; omega)) _ | with_reducible refine Below.setCell ?_ (by first | omega | (simp; done) | (simp; omega)) _ | with_reducible assumption))
              have hTW := hT.alloc (.cells #[.int .i64 (ge rs u).r, .int .i64 (ge rs u).c, .int .i64 (ge rs u).o] 35)
              have hRW := Bk.new wr 35 #[.int .i64 (ge rs u).r, .int .i64 (ge rs u).c, .int .i64 (ge rs u).o]
              have hoW := own_old hown (w' := wr.alloc (.cells #[.int .i64 (ge rs u).r, .int .i64 (ge rs u).c, .int .i64 (ge rs u).o] 35)) (by (repeat (first | with_reducible exact Below.refl _ _ | with_reducible refine bl_drewN ?_ _ | with_reducible refine Below.drew ?_ | with_reducible refine bl_alloc ?_ _ | with_reducible refine Below.alloc ?_ (by first | omega | (simp; done) | (simp; omega)) _ | with_reducible refine Below.setCell ?_ (by first | omega | (simp; done) | (simp; omega)) _ | with_reducible assumption)))
              have hsW : w2.heap.size ≤ (wr.alloc (.cells #[.int .i64 (ge rs u).r, .int .i64 (ge rs u).c, .int .i64 (ge rs u).o] 35)).heap.size := by simp; omega
              have hob := hown.lt
              clear hu h4 h5 hrmI hfu hasp hcn hrm2
              go_upto_region 22 with fail
              generalize (wr.alloc (.cells #[.int .i64 (ge rs u).r, .int .i64 (ge rs u).c, .int .i64 (ge rs u).o] 35)) = W at hbW hTW hRW hoW hsW ⊢
              clear c0 c1 c2 hrl m0 hTl hbl a0 hT hown hb
              generalize wr.heap.size = gr at hRW hob hsz ⊢
              obtain ⟨_, _, e0, hbl, a0⟩ := (HD.out.old hbW) k hlt
              cases e0
              rw [← Hu.out] at a0
              have m0 : W.cell? ⟨G1, u, none⟩ = some (.int .i64 (cnt q (u : Int) k : Nat)) := (hTW.cell u).trans (rng_at hul)
              have hTl := hTW.lt
              have f6 := hTW.frozen u
              have c0 : W.cell? ⟨gr, 0, none⟩ = some (.int .i64 (ge rs u).r) := hRW.cell 0
              have c1 : W.cell? ⟨gr, 1, none⟩ = some (.int .i64 (ge rs u).c) := hRW.cell 1
              have hRl := hRW.lt
              generalize hqq : (ge rs u).r * (ge rs u).c = Q at hcp z1 z2 z3 Hfu
              generalize hcc : cnt q (u : Int) k = C at *
              have ew : IntKind.i64.wrap ((ge rs u).r * (ge rs u).c) = Q := by rw [hqq]; exact IntWalk.i64_in _ (by omega)
              have ew2 : (ge rs u).r * (ge rs u).c = Q := hqq
              clear hqq
              by_cases hfull : (C : Int) = Q
              · have H := Lib.hid (asg_3 (v := v) HC.out HL.out HI.out HS.out k hlt (by rw [Hfu.out]; exact decide_eq_false (by omega)))
                have t2 : ((C : Int) == Q) = true := beq_iff_eq.2 hfull
                clear hfull hcc
                go_wp2_with fail
                go_ret2
                exact asgq_nil _ hbW H.out
              · have HN := Lib.hid (snocA hok.out (by rw [Hfu.out]; exact decide_eq_true (by omega)))
                have t2 : ((C : Int) == Q) = false := beq_eq_false_iff_ne.2 hfull
                have hC64 : (C : Int) ≤ 64 := by omega
                have Hcc := Lib.hid hcc
                clear hfull hcc
                go_upto_region 26 with fail
                have hT8 : Bk (W.setCell ⟨G1, u, none⟩ (.int .i64 ((C : Int) + 1))) G1 3 (rng rs.length fun r => .int .i64 (cnt q (r : Int) (k + 1) : Nat)) := by
                  have := hTW.set u (.int .i64 ((C : Int) + 1))
                  rw [rng_set] at this
                  rw [rng_congr (g := fun x => if x = u then .int .i64 ((C : Int) + 1) else .int .i64 (cnt q (x : Int) k : Nat)) fun r _ => ?_]
                  · exact this
                  · rw [Hcn.out r]
                    by_cases e : r = u
                    · subst e; rw [if_pos rfl, if_pos rfl, Hcc.out]; rfl
                    · rw [if_neg e, if_neg e]; rfl
                have hR8 : Bk (W.setCell ⟨G1, u, none⟩ (.int .i64 ((C : Int) + 1))) gr 35 _ := hRW.far (show gr ≠ G1 by omega) _
                have ho8 := hoW.kept (row := some G1) (gb_set (gb_refl W (some G1)) (p := ⟨G1, u, none⟩) (.inl rfl) (.int .i64 ((C : Int) + 1))) (.inr fun e => by have := (hob G1 e).1; omega)
                have hs8 : w2.heap.size ≤ (W.setCell ⟨G1, u, none⟩ (.int .i64 ((C : Int) + 1))).heap.size := by simpa using hsW
                have hb8 : Below w.heap.size w (W.setCell ⟨G1, u, none⟩ (.int .i64 ((C : Int) + 1))) := hbW.setCell hg1 _
                generalize W.setCell ⟨G1, u, none⟩ (.int .i64 ((C : Int) + 1)) = w8 at hT8 hR8 ho8 hs8 hb8 ⊢
                clear hTW hRW hoW hsW hbW m0 f6 hTl c0 c1 hRl ew ew2 t2
                obtain ⟨_, _, e1, hbl8, a8⟩ := (HD.out.old hb8) k hlt
                cases e1
                rw [← Hu.out] at a8
                obtain ⟨nb, no, rfl, hnl8, d8, -⟩ := nd_at (HB.out.old hb8) k hkn
                have c8 : w8.cell? ⟨gr, 1, none⟩ = some (.int .i64 (ge rs u).c) := hR8.cell 1
                have hRl8 := hR8.lt
                obtain ⟨Dv, hDv⟩ : ∃ Dv : Int, Dv = (C : Int) / (ge rs u).c := ⟨_, rfl⟩
                obtain ⟨Mv, hMv⟩ : ∃ Mv : Int, Mv = (C : Int) % (ge rs u).c := ⟨_, rfl⟩
                have ed : Int.tdiv (C : Int) (ge rs u).c = Dv := by rw [hDv]; exact Int.tdiv_eq_ediv_of_nonneg (by omega)
                have em : Int.tmod (C : Int) (ge rs u).c = Mv := by rw [hMv]; exact Int.tmod_eq_emod_of_nonneg (by omega)
                have ed' : (C : Int) / (ge rs u).c = Dv := hDv.symm
                have em' : (C : Int) % (ge rs u).c = Mv := hMv.symm
                have hD0 : 0 ≤ Dv ∧ Dv ≤ 64 := by
                  rw [hDv]
                  refine ⟨Int.ediv_nonneg (by omega) (by omega), Int.le_trans (Int.ediv_le_self _ (by omega)) (by omega)⟩
                have hcne : ¬ (ge rs u).c = 0 := by omega
                have ew : IntKind.i64.wrap Dv = Dv := IntWalk.i64_in _ (by omega)
                rw [← hDv, ← hMv] at Hasp
                have HD8 := Lib.hid hD0
                clear hDv hMv hD0 a0 hbl
                refine Am.wp_region_M (S := fun w' => w'.cell? ⟨nb, no + k * 2, none⟩ = some (.int .i64 (ge ns k).c) ∧ w'.cell? ⟨b, off + k, none⟩ = some (.int .i64 (u : Int)) ∧ w'.cell? ⟨gr, 1, none⟩ = some (.int .i64 (ge rs u).c)) [31, 32] (by kernel_rfl) ⟨d8, a8, c8⟩ (fun hS => ?_)
                (refine Am.wpAnyM_take (i := 0) (v := ?_) rfl (by kernel_rfl) (by kernel_rfl) (by kernel_rfl) (by kernel_rfl) (by kernel_rfl) (fun _ _ _ h => h) (Or.inl ⟨by rfl, ?_⟩) hS ?_; rotate_left 1; focus (intro w' hSw; (try dsimp only at hSw); go_simp; try (with_reducible rfl)); try simp only [Act.put, List.setIfInBounds_toArray, List.set_cons_zero, List.set_cons_succ])
                (refine Am.wpAnyM_take (i := 1) (v := ?_) rfl (by kernel_rfl) (by kernel_rfl) (by kernel_rfl) (by kernel_rfl) (by kernel_rfl) (fun _ _ _ h => h) (Or.inl ⟨by rfl, ?_⟩) hS ?_; rotate_left 1; focus (intro w' hSw; (try dsimp only at hSw); go_simp; try (with_reducible rfl)); try simp only [Act.put, List.setIfInBounds_toArray, List.set_cons_zero, List.set_cons_succ])
                (refine Am.wpAnyM_take (i := 2) (v := ?_) rfl (by kernel_rfl) (by kernel_rfl) (by kernel_rfl) (by kernel_rfl) (by kernel_rfl) (fun _ _ _ h => h) (Or.inl ⟨by rfl, ?_⟩) hS ?_; rotate_left 1; focus (intro w' hSw; (try dsimp only at hSw); go_simp; try (with_reducible rfl)); try simp only [Act.put, List.setIfInBounds_toArray, List.set_cons_zero, List.set_cons_succ])
                (refine Am.wpAnyM_take (i := 3) (v := ?_) rfl (by kernel_rfl) (by kernel_rfl) (by kernel_rfl) (by kernel_rfl) (by kernel_rfl) (fun _ _ _ h => h) (Or.inl ⟨by rfl, ?_⟩) hS ?_; rotate_left 1; focus (intro w' hSw; (try dsimp only at hSw); go_simp; try (with_reducible rfl)); try simp only [Act.put, List.setIfInBounds_toArray, List.set_cons_zero, List.set_cons_succ])
                (refine Am.wpAnyM_take (i := 4) (v := ?_) rfl (by kernel_rfl) (by kernel_rfl) (by kernel_rfl) (by kernel_rfl) (by kernel_rfl) (fun _ _ _ h => h) (Or.inl ⟨by rfl, ?_⟩) hS ?_; rotate_left 1; focus (intro w' hSw; (try dsimp only at hSw); go_simp; try (with_reducible rfl)); try simp only [Act.put, List.setIfInBounds_toArray, List.set_cons_zero, List.set_cons_succ])
                (refine Am.wpAnyM_take (i := 5) (v := ?_) rfl (by kernel_rfl) (by kernel_rfl) (by kernel_rfl) (by kernel_rfl) (by kernel_rfl) (fun _ _ _ h => h) (Or.inl ⟨by rfl, ?_⟩) hS ?_; rotate_left 1; focus (intro w' hSw; (try dsimp only at hSw); go_simp; try (with_reducible rfl)); try simp only [Act.put, List.setIfInBounds_toArray, List.set_cons_zero, List.set_cons_succ])
                (refine Am.wpAnyM_take (i := 6) (v := ?_) rfl (by kernel_rfl) (by kernel_rfl) (by kernel_rfl) (by kernel_rfl) (by kernel_rfl) (fun _ _ _ h => h) (Or.inl ⟨by rfl, ?_⟩) hS ?_; rotate_left 1; focus (intro w' hSw; (try dsimp only at hSw); go_simp; try (with_reducible rfl)); try simp only [Act.put, List.setIfInBounds_toArray, List.set_cons_zero, List.set_cons_succ])
                (refine Am.wpAnyM_take (i := 7) (v := ?_) rfl (by kernel_rfl) (by kernel_rfl) (by kernel_rfl) (by kernel_rfl) (by kernel_rfl) (fun _ _ _ h => h) (Or.inl ⟨by rfl, ?_⟩) hS ?_; rotate_left 1; focus (intro w' hSw; (try dsimp only at hSw); go_simp; try (with_reducible rfl)); try simp only [Act.put, List.setIfInBounds_toArray, List.set_cons_zero, List.set_cons_succ])
                (refine Am.wpAnyM_take (i := 8) (v := ?_) rfl (by kernel_rfl) (by kernel_rfl) (by kernel_rfl) (by kernel_rfl) (by kernel_rfl) (fun _ _ _ h => h) (Or.inl ⟨by rfl, ?_⟩) hS ?_; rotate_left 1; focus (intro w' hSw; (try dsimp only at hSw); go_simp; try (with_reducible rfl)); try simp only [Act.put, List.setIfInBounds_toArray, List.set_cons_zero, List.set_cons_succ])
                (refine Am.wpAnyM_take (i := 9) (v := ?_) rfl (by kernel_rfl) (by kernel_rfl) (by kernel_rfl) (by kernel_rfl) (by kernel_rfl) (fun _ _ _ h => h) (Or.inl ⟨by rfl, ?_⟩) hS ?_; rotate_left 1; focus (intro w' hSw; (try dsimp only at hSw); go_simp; try (with_reducible rfl)); try simp only [Act.put, List.setIfInBounds_toArray, List.set_cons_zero, List.set_cons_succ])
                (refine Am.wpAnyM_take (i := 10) (v := ?_) rfl (by kernel_rfl) (by kernel_rfl) (by kernel_rfl) (by kernel_rfl) (by kernel_rfl) (fun _ _ _ h => h) (Or.inl ⟨by rfl, ?_⟩) hS ?_; rotate_left 1; focus (intro w' hSw; (try dsimp only at hSw); go_simp; try (with_reducible rfl)); try simp only [Act.put, List.setIfInBounds_toArray, List.set_cons_zero, List.set_cons_succ])
                (refine Am.wpAnyM_take (i := 11) (v := ?_) rfl (by kernel_rfl) (by kernel_rfl) (by kernel_rfl) (by kernel_rfl) (by kernel_rfl) (fun _ _ _ h => h) (Or.inl ⟨by rfl, ?_⟩) hS ?_; rotate_left 1; focus (intro w' hSw; (try dsimp only at hSw); go_simp; try (with_reducible rfl)); try simp only [Act.put, List.setIfInBounds_toArray, List.set_cons_zero, List.set_cons_succ])
                (refine Am.wpAnyM_take (i := 12) (v := ?_) rfl (by kernel_rfl) (by kernel_rfl) (by kernel_rfl) (by kernel_rfl) (by kernel_rfl) (fun _ _ _ h => h) (Or.inl ⟨by rfl, ?_⟩) hS ?_; rotate_left 1; focus (intro w' hSw; (try dsimp only at hSw); go_simp; try (with_reducible rfl)); try simp only [Act.put, List.setIfInBounds_toArray, List.set_cons_zero, List.set_cons_succ])
                (refine Am.wpAnyM_take (i := 13) (v := ?_) rfl (by kernel_rfl) (by kernel_rfl) (by kernel_rfl) (by kernel_rfl) (by kernel_rfl) (fun _ _ _ h => h) (Or.inl ⟨by rfl, ?_⟩) hS ?_; rotate_left 1; focus (intro w' hSw; (try dsimp only at hSw); go_simp; try (with_reducible rfl)); try simp only [Act.put, List.setIfInBounds_toArray, List.set_cons_zero, List.set_cons_succ])
                (refine Am.wpAnyM_take (i := 14) (v := ?_) rfl (by kernel_rfl) (by kernel_rfl) (by kernel_rfl) (by kernel_rfl) (by kernel_rfl) (fun _ _ _ h => h) (Or.inl ⟨by rfl, ?_⟩) hS ?_; rotate_left 1; focus (intro w' hSw; (try dsimp only at hSw); go_simp; try (with_reducible rfl)); try simp only [Act.put, List.setIfInBounds_toArray, List.set_cons_zero, List.set_cons_succ])
                (refine Am.wpAnyM_take (i := 15) (v := ?_) rfl (by kernel_rfl) (by kernel_rfl) (by kernel_rfl) (by kernel_rfl) (by kernel_rfl) (fun _ _ _ h => h) (Or.inl ⟨by rfl, ?_⟩) hS ?_; rotate_left 1; focus (intro w' hSw; (try dsimp only at hSw); go_simp; try (with_reducible rfl)); try simp only [Act.put, List.setIfInBounds_toArray, List.set_cons_zero, List.set_cons_succ])
                (refine Am.wpAnyM_take (i := 16) (v := ?_) rfl (by kernel_rfl) (by kernel_rfl) (by kernel_rfl) (by kernel_rfl) (by kernel_rfl) (fun _ _ _ h => h) (Or.inl ⟨by rfl, ?_⟩) hS ?_; rotate_left 1; focus (intro w' hSw; (try dsimp only at hSw); go_simp; try (with_reducible rfl)); try simp only [Act.put, List.setIfInBounds_toArray, List.set_cons_zero, List.set_cons_succ])
                (refine Am.wpAnyM_take (i := 17) (v := ?_) rfl (by kernel_rfl) (by kernel_rfl) (by kernel_rfl) (by kernel_rfl) (by kernel_rfl) (fun _ _ _ h => h) (Or.inl ⟨by rfl, ?_⟩) hS ?_; rotate_left 1; focus (intro w' hSw; (try dsimp only at hSw); go_simp; try (with_reducible rfl)); try simp only [Act.put, List.setIfInBounds_toArray, List.set_cons_zero, List.set_cons_succ])
                (refine Am.wpAnyM_take (i := 18) (v := ?_) rfl (by kernel_rfl) (by kernel_rfl) (by kernel_rfl) (by kernel_rfl) (by kernel_rfl) (fun _ _ _ h => h) (Or.inl ⟨by rfl, ?_⟩) hS ?_; rotate_left 1; focus (intro w' hSw; (try dsimp only at hSw); go_simp; try (with_reducible rfl)); try simp only [Act.put, List.setIfInBounds_toArray, List.set_cons_zero, List.set_cons_succ])
                (refine Am.wpAnyM_take (i := 19) (v := ?_) rfl (by kernel_rfl) (by kernel_rfl) (by kernel_rfl) (by kernel_rfl) (by kernel_rfl) (fun _ _ _ h => h) (Or.inl ⟨by rfl, ?_⟩) hS ?_; rotate_left 1; focus (intro w' hSw; (try dsimp only at hSw); go_simp; try (with_reducible rfl)); try simp only [Act.put, List.setIfInBounds_toArray, List.set_cons_zero, List.set_cons_succ])
                (refine Am.wpAnyM_take (i := 20) (v := ?_) rfl (by kernel_rfl) (by kernel_rfl) (by kernel_rfl) (by kernel_rfl) (by kernel_rfl) (fun _ _ _ h => h) (Or.inl ⟨by rfl, ?_⟩) hS ?_; rotate_left 1; focus (intro w' hSw; (try dsimp only at hSw); go_simp; try (with_reducible rfl)); try simp only [Act.put, List.setIfInBounds_toArray, List.set_cons_zero, List.set_cons_succ])
                (refine Am.wpAnyM_take (i := 21) (v := ?_) rfl (by kernel_rfl) (by kernel_rfl) (by kernel_rfl) (by kernel_rfl) (by kernel_rfl) (fun _ _ _ h => h) (Or.inl ⟨by rfl, ?_⟩) hS ?_; rotate_left 1; focus (intro w' hSw; (try dsimp only at hSw); go_simp; try (with_reducible rfl)); try simp only [Act.put, List.setIfInBounds_toArray, List.set_cons_zero, List.set_cons_succ])
                (refine Am.wpAnyM_take (i := 22) (v := ?_) rfl (by kernel_rfl) (by kernel_rfl) (by kernel_rfl) (by kernel_rfl) (by kernel_rfl) (fun _ _ _ h => h) (Or.inl ⟨by rfl, ?_⟩) hS ?_; rotate_left 1; focus (intro w' hSw; (try dsimp only at hSw); go_simp; try (with_reducible rfl)); try simp only [Act.put, List.setIfInBounds_toArray, List.set_cons_zero, List.set_cons_succ])
                (refine Am.wpAnyM_take (i := 23) (v := ?_) rfl (by kernel_rfl) (by kernel_rfl) (by kernel_rfl) (by kernel_rfl) (by kernel_rfl) (fun _ _ _ h => h) (Or.inl ⟨by rfl, ?_⟩) hS ?_; rotate_left 1; focus (intro w' hSw; (try dsimp only at hSw); go_simp; try (with_reducible rfl)); try simp only [Act.put, List.setIfInBounds_toArray, List.set_cons_zero, List.set_cons_succ])
                (refine Am.wpAnyM_take (i := 24) (v := ?_) rfl (by kernel_rfl) (by kernel_rfl) (by kernel_rfl) (by kernel_rfl) (by kernel_rfl) (fun _ _ _ h => h) (Or.inl ⟨by rfl, ?_⟩) hS ?_; rotate_left 1; focus (intro w' hSw; (try dsimp only at hSw); go_simp; try (with_reducible rfl)); try simp only [Act.put, List.setIfInBounds_toArray, List.set_cons_zero, List.set_cons_succ])
                (refine Am.wpAnyM_take (i := 25) (v := ?_) rfl (by kernel_rfl) (by kernel_rfl) (by kernel_rfl) (by kernel_rfl) (by kernel_rfl) (fun _ _ _ h => h) (Or.inl ⟨by rfl, ?_⟩) hS ?_; rotate_left 1; focus (intro w' hSw; (try dsimp only at hSw); go_simp; try (with_reducible rfl)); try simp only [Act.put, List.setIfInBounds_toArray, List.set_cons_zero, List.set_cons_succ])
                (refine Am.wpAnyM_take (i := 26) (v := ?_) rfl (by kernel_rfl) (by kernel_rfl) (by kernel_rfl) (by kernel_rfl) (by kernel_rfl) (fun _ _ _ h => h) (Or.inl ⟨by rfl, ?_⟩) hS ?_; rotate_left 1; focus (intro w' hSw; (try dsimp only at hSw); go_simp; try (with_reducible rfl)); try simp only [Act.put, List.setIfInBounds_toArray, List.set_cons_zero, List.set_cons_succ])
                (refine Am.wpAnyM_take (i := 27) (v := ?_) rfl (by kernel_rfl) (by kernel_rfl) (by kernel_rfl) (by kernel_rfl) (by kernel_rfl) (fun _ _ _ h => h) (Or.inl ⟨by rfl, ?_⟩) hS ?_; rotate_left 1; focus (intro w' hSw; (try dsimp only at hSw); go_simp; try (with_reducible rfl)); try simp only [Act.put, List.setIfInBounds_toArray, List.set_cons_zero, List.set_cons_succ])
                refine Am.wpAnyM_one (i := 28) (by kernel_rfl) (by exact rfl) ?_
                intro K hK
                go_simp
                refine (rvariant_any Dv Mv v _).mono ?_
                rintro e w9 ⟨rfl, rfl⟩
                go_simp
                refine hK.out _ _ hS (fun hS => ?_)
                clear hK K
                (refine Am.wpAnyM_take (i := 29) (v := ?_) rfl (by kernel_rfl) (by kernel_rfl) (by kernel_rfl) (by kernel_rfl) (by kernel_rfl) (fun _ _ _ h => h) (Or.inl ⟨by rfl, ?_⟩) hS ?_; rotate_left 1; focus (intro w' hSw; (try dsimp only at hSw); go_simp; try (with_reducible rfl)); try simp only [Act.put, List.setIfInBounds_toArray, List.set_cons_zero, List.set_cons_succ])
                refine Am.wpAnyM_one (i := 30) (by kernel_rfl) (by exact rfl) ?_
                intro K hK
                go_simp
                refine hK.out _ _ ⟨cell_al hS.1 hnl8 _, cell_al hS.2.1 hbl8 _, cell_al hS.2.2 hRl8 _⟩ (fun hS => ?_)
                clear hK K
                have ho9 := own_old ho8 (w' := w8.drew.alloc (.cells #[.int .i64 (ge ns k).c, .int .i64 (u : Int), .int .i64 Dv, .int .i64 Mv, .int .i64 (var Dv Mv v)] 52)) (by (repeat (first | with_reducible exact Below.refl _ _ | with_reducible refine bl_drewN ?_ _ | with_reducible refine Below.drew ?_ | with_reducible refine bl_alloc ?_ _ | with_reducible refine Below.alloc ?_ (by first | omega | (simp; done) | (simp; omega)) _ | with_reducible refine Below.setCell ?_ (by first | omega | (simp; done) | (simp; omega)) _ | with_reducible assumption)))
                obtain ⟨v2, wa, hrun, hown2, hga⟩ := app_place (r := ⟨(ge ns k).c, (u : Int), Dv, Mv, var Dv Mv v⟩) (g := w8.heap.size) ho9 (Bk.new' rfl) (by rw [asl_len]; omega) (by simpa using Nat.le_succ_of_le hs8)
                have hba : Below w.heap.size w wa := (show Below w.heap.size w (w8.drew.alloc (.cells #[.int .i64 (ge ns k).c, .int .i64 (u : Int), .int .i64 Dv, .int .i64 Mv, .int .i64 (var Dv Mv v)] 52)) by (repeat (first | with_reducible exact Below.refl _ _ | with_reducible refine bl_drewN ?_ _ | with_reducible refine Below.drew ?_ | with_reducible refine bl_alloc ?_ _ | with_reducible refine Below.alloc ?_ (by first | omega | (simp; done) | (simp; omega)) _ | with_reducible refine Below.setCell ?_ (by first | omega | (simp; done) | (simp; omega)) _ | with_reducible assumption))).grown hga (by have := hb8.size; simp; omega) fun j hj => by have := (ho8.lt j hj).1; omega
                have hTa : Bk wa G1 3 _ := ((hT8.drew).alloc (.cells #[.int .i64 (ge ns k).c, .int .i64 (u : Int), .int .i64 Dv, .int .i64 Mv, .int .i64 (var Dv Mv v)] 52)).grown hga (fun e => by have := (ho8.lt G1 e.symm).1; omega)
                have hsa : w2.heap.size ≤ wa.heap.size := by have := hga.size; simp at this; omega
                rw [← Hasp.out, ← asl_succ] at hown2
                clear ho8 ho9 hT8 hR8 hga hb8 d8 a8 c8 hnl8 hbl8 hRl8
                refine Am.wpAnyM_tail (i := 31) (by kernel_rfl) (by exact rfl) (by kernel_rfl) (fun K hK => ?_)
                refine ite_yes' (by kernel_rfl) ?_
                refine wp_append_run' (.tmp 103) (.tmp 133) 44 rfl _ (.slice (some ⟨w8.heap.size, 0, none⟩) 1 1) rfl rfl v2 wa (by exact hrun) ?_
                refine hK.out _ _ ?_
                clear hK K
                try simp only [Act.put, List.setIfInBounds_toArray, List.set_cons_zero, List.set_cons_succ]
                (refine Am.wpAnyM_tail (i := 32) (by kernel_rfl) rfl (by rfl) (fun K hK => ?_); go_simp; refine hK.out _ _ ?_; clear hK K; try simp only [Act.put, List.setIfInBounds_toArray, List.set_cons_zero, List.set_cons_succ])
                refine Am.wpAnyM_done (by kernel_rfl) ?_ _
                go_wp2_with fail
                go_roundw
                case rel => exact ⟨k + 1, by omega, by go_num, HN, hTa, hown2, hsa, hba⟩
                case measure => simp [intOf]; omega
            · obtain rfl : k = q.length := by omega
              have H := Lib.hid (asg_0 HC.out HL.out HI.out HS.out hok.out)
              rw [HL.out] at hown
              obtain ⟨A9, c9, hv9, hc9, hr9, ha9⟩ := own_rows pcl_len (by omega) hown
              have hf9 : ∀ a, A9 = some a → ∀ o, wr.frozen? ⟨a.block, o, none⟩ = false := own_frozen (by rw [hv9] at hown; exact hown)
              have HV := Lib.hid hv9
              have HC9 := Lib.hid hc9
              have hgw := hg2
              clear hown hv9 hc9
              have hge : (ns.length : Int) ≤ (q.length : Int) := by have := HL.out; omega
              go_wp2_with fail
              go_ret2
              refine ⟨A9, c9, ?_, ?_, ?_, fun a ha => ⟨by have := (ha9 a ha).1; omega, (ha9 a ha).2⟩, hf9, hb⟩
              · rw [H.out, HV.out]; rfl
              · rw [H.out]; exact HC9.out
              · rw [H.out]; exact hr9
    · have H := Lib.hid (asg_1 (q := q) HC.out hlen)
      have t1 : (((q.length : Int)) != (ns.length : Int)) = true := by rw [bne_iff_ne]; omega
      clear hlen
      go_enter Try.func27, Try.ntmps27
      go_wp2_with fail
      refine HCK.out.mono ?_
      rintro e w1 ⟨rfl, hb1⟩
      go_wp2_with fail
      go_ret2
      exact asgq_nil _ hb1 H.out
  · have H := Lib.hid (asg_c (q := q) hc)
    have t : (chk rs ns v != 0) = true := by rw [bne_iff_ne]; exact hc
    have HC := Lib.hid hc
    clear hc
    generalize chk rs ns v = x at *
    go_enter Try.func27, Try.ntmps27
    go_wp2_with fail
    refine HCK.out.mono ?_
    rintro e w1 ⟨rfl, hb1⟩
    go_wp2_with fail
    go_ret2
    exact asgq_nil _ hb1 H.out
theorem rassign_any (rs : List Rm) (ns : List Nd) (v : Int) (q : List Int) (A B D : Option Addr) (cA cB cD : Nat) (w : World) (hl1 : rs.length ≤ maxLen) (hl2 : ns.length ≤ maxLen) (hl3 : q.length ≤ maxLen) (hA : RdRm w A rs) (hB : RdNd w B ns) (hD : RdI w .i64 D q) :
    Calls Try.prog 27 #[.slice A rs.length cA, .slice B ns.length cB, .int .i64 v, .slice D q.length cD] w (AsgP (asg rs ns v q) w) := by
  refine (rassign_cap rs ns v q A B D cA cB cD w hl1 hl2 hl3 hA hB hD).mono ?_
  rintro e w' ⟨E, c, rfl, -, h1, h2, h3, h4⟩
  exact ⟨E, c, rfl, h1, h2, h3, h4⟩
end Go.Proofs.Ytcidpgjeddogmaa.Pl
