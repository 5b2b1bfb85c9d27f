/- Walk: the statement TreeGrows. -/
import Derived.Test.YtmdgghdmfipllaaRK
import Derived.Test.YtmdgghdmfipllaaRHn
import Derived.Test.YtmdgghdmfipllaaAM
import Derived.Test.YtmdgghdmfipllaaRT
import Derived.WalkKit
import Derived.WalkSpells
import Derived.WalkLawsBesides
import Derived.Deep.QuietTactic
import Derived.BigQuiet
import Derived.Deep.Draws
import Derived.Deep.AppendLies
import Derived.Laws.OwnMore
import Derived.Laws.BytesArg
import Derived.Lib.Hide
import Derived.Deep.LoopGhost
import Derived.Deep.RegionHeld3
import Derived.RegionTactic
namespace Go.Proofs.Ytmdgghdmfipllaa.Tr
open Go.RowKit Go.Proofs.Ytmdgghdmfipllaa.Dg
open Go.Proofs.Ytmdgghdmfipllaa.Mw (I64 ret_int ret_bool Bk bl_trans own_ints RdI bl_gb)
open Go.Proofs.Ytmdgghdmfipllaa.Dc (Di DI next_any roll_any light_any)
set_option linter.unusedVariables false
set_option linter.unusedSimpArgs false
attribute [local go_sem] eq_dig

theorem ite_yes {b : Bool} {p q : Prop} (h : b = true) (x : p) : if b = true then p else q := by rw [if_pos h]; exact x
theorem ite_no {b : Bool} {p q : Prop} (h : b = false) (x : q) : if b = true then p else q := by rw [if_neg (by rw [h]; simp)]; exact x
section
variable {P : Program} {ops : Array Oper} {Q : Exit → Act → World → Prop} {md : Region.Mode} {S : World → Prop}
theorem wpAnyM_only {T : List Nat} {i : Nat} {o : Oper} {fuel : Nat} {listed : Array Bool} {a : Act} {w : World} (hr : Region.ready md ops listed = [i]) (ho : ops[i]? = some o) (hw : Region.wanted o (yielded ops a.tmps) = true)
    (h : ∀ K' : Act → World → Prop, Shut (∀ a w, S w → (S w → Am.wpAnyM P md ops Q S T fuel (listed.setIfInBounds i true) a w) → K' a w) → Oper.wp P o a w K' Q) : Am.wpAnyM P md ops Q S T (fuel + 1) listed a w :=
  Am.wpAnyM_one hr ho (fun K' hK => by rw [if_pos hw]; exact h K' hK)
theorem wpAnyM_both {T : List Nat} {i j : Nat} {o o' : Oper} {fuel : Nat} {listed : Array Bool} {a : Act} {w : World} (hr : Region.ready md ops listed = [i, j]) (ho : ops[i]? = some o) (ho' : ops[j]? = some o') (hw : Region.wanted o (yielded ops a.tmps) = true) (hw' : Region.wanted o' (yielded ops a.tmps) = true)
    (h : ∀ K' : Act → World → Prop, Shut (∀ a w, S w → (S w → Am.wpAnyM P md ops Q S T fuel (listed.setIfInBounds i true) a w) → K' a w) → Oper.wp P o a w K' Q)
    (h' : ∀ K' : Act → World → Prop, Shut (∀ a w, S w → (S w → Am.wpAnyM P md ops Q S T fuel (listed.setIfInBounds j true) a w) → K' a w) → Oper.wp P o' a w K' Q) : Am.wpAnyM P md ops Q S T (fuel + 1) listed a w :=
  ⟨fun h0 => (by rw [hr] at h0; cases h0), fun q hq => (by
    rw [hr] at hq
    simp at hq
    rcases hq with rfl | rfl
    · exact wpOp_step ho (fun K' hK => by rw [if_pos hw]; exact h K' (fun a w hS hW => hK a w ⟨fun _ => hS, hW hS⟩))
    · exact wpOp_step ho' (fun K' hK => by rw [if_pos hw']; exact h' K' (fun a w hS hW => hK a w ⟨fun _ => hS, hW hS⟩)))⟩
theorem wpAnyM_skip {T : List Nat} {i : Nat} {o : Oper} {fuel : Nat} {listed : Array Bool} {a : Act} {w : World} (hr : Region.ready md ops listed = [i]) (ho : ops[i]? = some o) (hw : Region.wanted o (yielded ops a.tmps) = false) (hS : S w)
    (h : Am.wpAnyM P md ops Q S T fuel (listed.setIfInBounds i true) (a.put o.dst undef) w) : Am.wpAnyM P md ops Q S T (fuel + 1) listed a w :=
  Am.wpAnyM_one hr ho (fun K' hK => by rw [if_neg (by rw [hw]; simp)]; exact hK.out _ _ hS (fun _ => h))
end
theorem own_old' {w w' : World} {b : Nat} {e : TypeId} {sz n : Nat} {v : Value} {xs : List Value} (h : w.ownsRow b e sz v n xs) (hb : Below w.heap.size w w') : w'.ownsRow b e sz v n xs :=
  h.kept (row := none) ⟨hb.os, hb.tape, hb.output, hb.size, fun i hi _ => hb.block i hi⟩ (Classical.em _)
theorem c16 {w' : World} {g1 g2 g3 g4 : Nat} {T : TypeId} {X Y Z U : St} (h1 : Bk w' g1 T (c4 X)) (h2 : Bk w' g2 T (c4 Y)) (h3 : Bk w' g3 T (c4 Z)) (h4 : Bk w' g4 T (c4 U)) : w'.cell? ⟨g1, 0, none⟩ = some (.int .u32 X.1) ∧ w'.cell? ⟨g1, 1, none⟩ = some (.int .u32 X.2.1) ∧ w'.cell? ⟨g1, 2, none⟩ = some (.int .u32 X.2.2.1) ∧ w'.cell? ⟨g1, 3, none⟩ = some (.int .u32 X.2.2.2) ∧ w'.cell? ⟨g2, 0, none⟩ = some (.int .u32 Y.1) ∧ w'.cell? ⟨g2, 1, none⟩ = some (.int .u32 Y.2.1) ∧ w'.cell? ⟨g2, 2, none⟩ = some (.int .u32 Y.2.2.1) ∧ w'.cell? ⟨g2, 3, none⟩ = some (.int .u32 Y.2.2.2) ∧ w'.cell? ⟨g3, 0, none⟩ = some (.int .u32 Z.1) ∧ w'.cell? ⟨g3, 1, none⟩ = some (.int .u32 Z.2.1) ∧ w'.cell? ⟨g3, 2, none⟩ = some (.int .u32 Z.2.2.1) ∧ w'.cell? ⟨g3, 3, none⟩ = some (.int .u32 Z.2.2.2) ∧ w'.cell? ⟨g4, 0, none⟩ = some (.int .u32 U.1) ∧ w'.cell? ⟨g4, 1, none⟩ = some (.int .u32 U.2.1) ∧ w'.cell? ⟨g4, 2, none⟩ = some (.int .u32 U.2.2.1) ∧ w'.cell? ⟨g4, 3, none⟩ = some (.int .u32 U.2.2.2) :=
  ⟨h1.cell 0, h1.cell 1, h1.cell 2, h1.cell 3, h2.cell 0, h2.cell 1, h2.cell 2, h2.cell 3, h3.cell 0, h3.cell 1, h3.cell 2, h3.cell 3, h4.cell 0, h4.cell 1, h4.cell 2, h4.cell 3⟩
theorem grow_laws {I K : Nat} {X Y : St} {p : List St} (h1 : 1 ≤ I) (h2 : I ≤ K) (h3 : K ≤ 40) (h : rts I K true X p = (X, Y, true)) :
    consB I K X Y p = true ∧ consB I K X (Y.1, Y.2.1, (Y.2.2.1 + 1) % 4294967296, Y.2.2.2) p = false ∧ consB I K X Y (p ++ [Y]) = false ∧ (¬ I = K → consB I K X Y [] = false) := by
  have hc : ¬ ((I : Int) < 1 ∨ (K : Int) < (I : Int) ∨ 256 < (K : Int)) := by omega
  refine ⟨?_, ?_, ?_, fun hn => ?_⟩
  · unfold consB
    rw [if_neg hc, Int.toNat_natCast, Int.toNat_natCast, h, eqb_self, eqb_self]; rfl
  · unfold consB
    rw [if_neg hc, Int.toNat_natCast, Int.toNat_natCast, h]
    have : eqb Y (Y.1, Y.2.1, (Y.2.2.1 + 1) % 4294967296, Y.2.2.2) = false := by
      cases e : eqb Y (Y.1, Y.2.1, (Y.2.2.1 + 1) % 4294967296, Y.2.2.2)
      · rfl
      · have := congrArg (fun s : St => s.2.2.1) ((eqb_iff _ _).1 e)
        simp only at this
        omega
    simp only [this, Bool.and_false]
  · unfold consB
    rw [if_neg hc, Int.toNat_natCast, Int.toNat_natCast]
    cases e : (rts I K true X (p ++ [Y])).2.2
    · rfl
    · have := rts_len _ I K true X X p (p ++ [Y]) (Nat.le_refl _) (by rw [h]) e
      simp at this
  · unfold consB
    rw [if_neg hc, Int.toNat_natCast, Int.toNat_natCast, rts_0 _ _ _ _ _ hn rfl]; rfl

set_option maxHeartbeats 8000000 in
set_option maxRecDepth 200000 in
theorem grows_any (l0 : List Int) (A0 : Option Addr) (c0 : Nat) (n ix : Int) (w : World) (hr : RdI w .i64 A0 l0) (hi : ∀ x ∈ l0, I64 x) (hn0 : 0 ≤ n) (hn1 : n ≤ 255) (hx0 : 0 ≤ ix) (hx1 : ix ≤ 255) :
    Calls Try.prog 6 #[.slice A0 l0.length c0, .int .u8 n, .int .u8 ix] w fun e w' => e = .returned (.bool true) ∧ Below w.heap.size w w' := by
  by_cases hL : l0.length ≤ 600
  · obtain ⟨K, hK⟩ : ∃ K : Nat, 1 + n % 40 = (K : Int) := ⟨(1 + n % 40).toNat, by omega⟩
    obtain ⟨I, hI⟩ : ∃ I : Nat, 1 + ix % (K : Int) = (I : Int) := ⟨(1 + ix % (K : Int)).toNat, by have := Int.emod_nonneg ix (show (K : Int) ≠ 0 by omega); omega⟩
    have hK1 : 1 ≤ K := by omega
    have hK2 : K ≤ 40 := by omega
    have hI0 : 1 ≤ I := by have := Int.emod_nonneg ix (show (K : Int) ≠ 0 by omega); omega
    have hI1 : I ≤ K := by have := Int.emod_lt_of_pos ix (show (0 : Int) < (K : Int) by omega); omega
    have q0 : 0 ≤ n % 40 := by omega
    have q1 : n % 40 < 40 := by omega
    have q2 : (0 : Int) < (K : Int) := by omega
    have q3 : 0 ≤ ix % (K : Int) := Int.emod_nonneg ix (by omega)
    have q4 : ix % (K : Int) < (K : Int) := Int.emod_lt_of_pos ix (by omega)
    have HL := Lib.hid (show ∀ W : World, Calls Try.prog 7 #[.slice A0 l0.length c0] W fun e w' => e = .returned (.bool true) ∧ W = w' from fun W => by have h6 := light_any l0 A0 c0 W; rwa [decide_eq_true hL] at h6)
    have HR := Lib.hid (roll_any l0 A0 c0 w hr (by omega) hi)
    have HD := Lib.hid (show ∀ (W : World) (tp : Nat), Di W tp → Calls Try.prog 10 #[.pointer (some ⟨tp, 0, none⟩), .int .i64 (K : Int)] W (DD K tp W) from fun W tp hd => digests_any tp K W hd (by omega))
    clear hr hi
    go_enter Try.func6, Try.ntmps6
    go_wp2_with fail
    refine (HL.out _).mono ?_
    rintro e w0 ⟨rfl, rfl⟩
    go_wp2_with fail
    refine HR.out.mono ?_
    rintro e w1 ⟨rfl, hd1, hb1⟩
    go_wp2_with fail
    refine (HD.out _ _ hd1).mono ?_
    rintro e w2 ⟨l, A, c, hlen, rfl, hlc, hcm, hl, hA2, hd2, hg2⟩
    have hc : Below w.heap.size w w2 := bl_gb hb1 hg2 (Nat.le_refl _)
    obtain ⟨b, off, rfl, hbl, -⟩ := hl.at 0 (by omega)
    have hC : consE l (I : Int) = (cons l I true, 0) := by unfold consE; rw [if_neg (by omega), if_neg (by omega), Int.toNat_natCast]
    have hpl := cons_len 6 l I true (by omega)
    have HP := Lib.hid (show ∀ W : World, RdD W (some ⟨b, off, none⟩) l → Calls Try.prog 24 #[.slice (some ⟨b, off, none⟩) K c, .int .i64 (I : Int)] W (PE (cons l I true, 0) W) from fun W hr => by
      have h6 := pcons_any l (some ⟨b, off, none⟩) c (I : Int) W (by omega) hlc hcm hr
      rwa [hC, hlen] at h6)
    have R1 := Lib.hid (show ∀ W : World, RdD W (some ⟨b, off, none⟩) l → Calls Try.prog 14 #[.slice (some ⟨b, off, none⟩) I c] W (fun e w' => e = .returned (dv (root (l.take I))) ∧ Below W.heap.size W w') from fun W hr => by
      have h6 := proot_ind _ (l.take I) (some ⟨b, off, none⟩) c W (Nat.le_refl _) (by simp; omega) (by simp; omega) hcm (hr.take I)
      rwa [show (l.take I).length = I by simp; omega] at h6)
    have R2 := Lib.hid (show ∀ W : World, RdD W (some ⟨b, off, none⟩) l → Calls Try.prog 14 #[.slice (some ⟨b, off, none⟩) K c] W (fun e w' => e = .returned (dv (root l)) ∧ Below W.heap.size W w') from fun W hr => by
      have h6 := proot_ind _ l (some ⟨b, off, none⟩) c W (Nat.le_refl _) (by omega) hlc hcm hr
      rwa [hlen] at h6)
    have hrt := rts_cons _ l I true (root (l.take I)) (Nat.le_refl _) hI0 (by omega) (fun _ => rfl)
    rw [hlen] at hrt
    have Hrt := Lib.hid hrt
    have y1 : (0 : Int) ≤ (I : Int) := by omega
    have y2 : (I : Int) ≤ (c : Int) := by omega
    generalize cons l I true = p at HP Hrt hpl
    generalize root (l.take I) = X at R1 Hrt
    generalize root l = Y at R2 Hrt
    rw [hlen]
    clear hd1 hb1 hd2 hg2 hA2 hlen hC hrt
    go_wp2_with fail
    refine (R1.out _ hl).mono ?_
    rintro e w3 ⟨rfl, hb3⟩
    replace hl := hl.old hb3
    replace hc := bl_trans hc hb3
    clear hb3 R1
    go_wp2_with fail
    refine (R2.out _ hl).mono ?_
    rintro e w4 ⟨rfl, hb4⟩
    replace hl := hl.old hb4
    replace hc := bl_trans hc hb4
    clear hb4 R2
    have B1 : Bk ((w4.alloc (.cells (c4 X) 34)).alloc (.cells (c4 Y) 34)) w4.heap.size 34 (c4 X) := by (repeat (first | ((with_reducible refine Mw.Bk.new' ?_); (first | rfl | (simp; done) | (simp; omega))) | with_reducible refine Mw.Bk.alloc ?_ _ | with_reducible refine Mw.Bk.drewN ?_ _ | with_reducible refine Mw.Bk.drew ?_ | with_reducible assumption))
    have B2 : Bk ((w4.alloc (.cells (c4 X) 34)).alloc (.cells (c4 Y) 34)) (w4.heap.size + 1) 34 (c4 Y) := by (repeat (first | ((with_reducible refine Mw.Bk.new' ?_); (first | rfl | (simp; done) | (simp; omega))) | with_reducible refine Mw.Bk.alloc ?_ _ | with_reducible refine Mw.Bk.drewN ?_ _ | with_reducible refine Mw.Bk.drew ?_ | with_reducible assumption))
    have hc2 : Below w.heap.size w ((w4.alloc (.cells (c4 X) 34)).alloc (.cells (c4 Y) 34)) := by (repeat (first | with_reducible exact Below.refl _ _ | with_reducible refine bl_drewN ?_ _ | with_reducible refine Below.drew ?_ | with_reducible refine bl_alloc ?_ _ | with_reducible refine Below.alloc ?_ (by first | omega | (simp; done) | (simp; omega)) _ | with_reducible refine Below.setCell ?_ (by first | omega | (simp; done) | (simp; omega)) _ | with_reducible assumption))
    have hl2 := (hl.alloc (.cells (c4 X) 34)).alloc (.cells (c4 Y) 34)
    go_upto_region 8 with fail
    generalize ((w4.alloc (.cells (c4 X) 34)).alloc (.cells (c4 Y) 34)) = V at B1 B2 hc2 hl2 ⊢
    clear hl hc
    go_wp2_with fail
    refine (HP.out _ hl2).mono ?_
    rintro e w5 ⟨D, d, rfl, hp1, hp2, hp, hb5⟩
    replace B1 := Bk.old B1 hb5
    replace B2 := Bk.old B2 hb5
    replace hc2 := bl_trans hc2 hb5
    clear hb5 hl2 HP
    obtain ⟨G1, G3, G4, G5⟩ := grow_laws hI0 hI1 hK2 Hrt.out
    have g1 := B1.lt
    have g2 := B2.lt
    obtain ⟨⟨a0, a1, a2, a3⟩, -⟩ := bk4 B1
    obtain ⟨⟨b0, b1, b2, b3⟩, -⟩ := bk4 B2
    go_upto_region 13 with fail
    obtain ⟨Z, hZ⟩ : ∃ Z : St, Z = (X.1, X.2.1, X.2.2.1, (X.2.2.2 + 1) % 4294967296) := ⟨_, rfl⟩
    obtain ⟨U, hU⟩ : ∃ U : St, U = (Y.1, Y.2.1, (Y.2.2.1 + 1) % 4294967296, Y.2.2.2) := ⟨_, rfl⟩
    have G3' : consB I K X U p = false := by rw [hU]; exact G3
    have C1 : Hid (∀ W : World, RdD W D p → Calls Try.prog 27 #[.int .i64 (I : Int), .int .i64 (K : Int), dv X, dv Y, .slice D p.length d] W fun e w' => e = .returned (.bool true) ∧ Below W.heap.size W w') := fun W hr => by have h6 := pconsist_any (I : Int) (K : Int) X Y p D d W (by omega) hp1 hp2 hr; rwa [G1] at h6
    obtain ⟨c2, hc2'⟩ : ∃ c2, consB I K Z Y p = c2 := ⟨_, rfl⟩
    have C2 : Hid (∀ W : World, RdD W D p → Calls Try.prog 27 #[.int .i64 (I : Int), .int .i64 (K : Int), dv Z, dv Y, .slice D p.length d] W fun e w' => e = .returned (.bool c2) ∧ Below W.heap.size W w') := fun W hr => by have h6 := pconsist_any (I : Int) (K : Int) Z Y p D d W (by omega) hp1 hp2 hr; rwa [hc2'] at h6
    have C2r : Hid (∀ W : World, RdD W D p → Calls Try.prog 28 #[.int .i64 (I : Int), .int .i64 (K : Int), dv Z, dv Y, .slice D p.length d] W fun e w' => e = .returned (.bool c2) ∧ Below W.heap.size W w') := fun W hr => by have h6 := rconsist_any (I : Int) (K : Int) Z Y p D d W (by omega) hp1 hp2 hr; rwa [hc2'] at h6
    have C3 : Hid (∀ W : World, RdD W D p → Calls Try.prog 27 #[.int .i64 (I : Int), .int .i64 (K : Int), dv X, dv U, .slice D p.length d] W fun e w' => e = .returned (.bool false) ∧ Below W.heap.size W w') := fun W hr => by have h6 := pconsist_any (I : Int) (K : Int) X U p D d W (by omega) hp1 hp2 hr; rwa [G3'] at h6
    have C4 : Hid (∀ (W : World) (A : Option Addr) (q : Nat), RdD W A (p ++ [Y]) → p.length + 1 ≤ q → q ≤ maxLen → Calls Try.prog 27 #[.int .i64 (I : Int), .int .i64 (K : Int), dv X, dv Y, .slice A (p.length + 1) q] W fun e w' => e = .returned (.bool false) ∧ Below W.heap.size W w') := fun W A q hr h1 h2 => by
      have h6 := pconsist_any (I : Int) (K : Int) X Y (p ++ [Y]) A q W (by simp; omega) (by simp; omega) h2 hr
      rw [G4, List.length_append] at h6
      exact h6
    have C5 : Hid (¬ I = K → ∀ W : World, Calls Try.prog 27 #[.int .i64 (I : Int), .int .i64 (K : Int), dv X, dv Y, .slice none 0 0] W fun e w' => e = .returned (.bool false) ∧ Below W.heap.size W w') := fun hn W => by have h6 := pconsist_any (I : Int) (K : Int) X Y [] none 0 W (by simp) (by simp) (by simp) (RdD.nil _ _); rwa [G5 hn] at h6
    obtain ⟨v5, hv5⟩ : ∃ v5 : World, v5 = (w5.alloc (.cells (c4 Z) 34)).alloc (.cells (c4 U) 34) := ⟨_, rfl⟩
    have E1 : #[Value.int .u32 X.1, .int .u32 X.2.1, .int .u32 X.2.2.1, .int .u32 ((X.2.2.2 + 1) % 4294967296)] = c4 Z := by rw [hZ]
    have E2 : #[Value.int .u32 Y.1, .int .u32 Y.2.1, .int .u32 ((Y.2.2.1 + 1) % 4294967296), .int .u32 Y.2.2.2] = c4 U := by rw [hU]
    rw [E1, E2, ← hv5]
    replace B1 : Bk v5 w4.heap.size 34 (c4 X) := by rw [hv5]; exact (B1.alloc _).alloc _
    replace B2 : Bk v5 (w4.heap.size + 1) 34 (c4 Y) := by rw [hv5]; exact (B2.alloc _).alloc _
    have B3 : Bk v5 w5.heap.size 34 (c4 Z) := by rw [hv5]; exact (Mw.Bk.new _ _ _).alloc _
    have B4 : Bk v5 (w5.heap.size + 1) 34 (c4 U) := by rw [hv5]; exact Mw.Bk.new' (by simp)
    have hc : Below w.heap.size w v5 := by rw [hv5]; (repeat (first | with_reducible exact Below.refl _ _ | with_reducible refine bl_drewN ?_ _ | with_reducible refine Below.drew ?_ | with_reducible refine bl_alloc ?_ _ | with_reducible refine Below.alloc ?_ (by first | omega | (simp; done) | (simp; omega)) _ | with_reducible refine Below.setCell ?_ (by first | omega | (simp; done) | (simp; omega)) _ | with_reducible assumption))
    replace hp : RdD v5 D p := by rw [hv5]; exact (hp.alloc _).alloc _
    clear hv5 E1 E2 hZ hU hc2' G1 G3 G3' G4 G5 Hrt hc2 a0 a1 a2 a3 b0 b1 b2 b3 g1 g2
    generalize w4.heap.size + 1 = g2 at B2 ⊢
    generalize w4.heap.size = g1 at B1 ⊢
    generalize w5.heap.size + 1 = g4 at B4 ⊢
    generalize w5.heap.size = g3 at B3 ⊢
    replace B1 := B1.drew
    replace B2 := B2.drew
    replace B3 := B3.drew
    replace B4 := B4.drew
    replace hc := hc.drew
    replace hp := hp.drew
    have h1 := B1.lt
    have h2 := B2.lt
    have h3 := B3.lt
    have h4 := B4.lt
    clear hL hK hI hn0 hn1 hx0 hx1 q0 q1 q2 q3 q4 HL HR HD hlc hcm hbl
    simp only [List.append]
    refine Am.wp_region_M (S := fun w' => w'.cell? ⟨g1, 0, none⟩ = some (.int .u32 X.1) ∧ w'.cell? ⟨g1, 1, none⟩ = some (.int .u32 X.2.1) ∧ w'.cell? ⟨g1, 2, none⟩ = some (.int .u32 X.2.2.1) ∧ w'.cell? ⟨g1, 3, none⟩ = some (.int .u32 X.2.2.2) ∧ w'.cell? ⟨g2, 0, none⟩ = some (.int .u32 Y.1) ∧ w'.cell? ⟨g2, 1, none⟩ = some (.int .u32 Y.2.1) ∧ w'.cell? ⟨g2, 2, none⟩ = some (.int .u32 Y.2.2.1) ∧ w'.cell? ⟨g2, 3, none⟩ = some (.int .u32 Y.2.2.2) ∧ w'.cell? ⟨g3, 0, none⟩ = some (.int .u32 Z.1) ∧ w'.cell? ⟨g3, 1, none⟩ = some (.int .u32 Z.2.1) ∧ w'.cell? ⟨g3, 2, none⟩ = some (.int .u32 Z.2.2.1) ∧ w'.cell? ⟨g3, 3, none⟩ = some (.int .u32 Z.2.2.2) ∧ w'.cell? ⟨g4, 0, none⟩ = some (.int .u32 U.1) ∧ w'.cell? ⟨g4, 1, none⟩ = some (.int .u32 U.2.1) ∧ w'.cell? ⟨g4, 2, none⟩ = some (.int .u32 U.2.2.1) ∧ w'.cell? ⟨g4, 3, none⟩ = some (.int .u32 U.2.2.2)) [] (by kernel_rfl) (c16 B1 B2 B3 B4) (fun hS => ?_)
    -- REGION
    (refine Am.wpAnyM_take (i := 0) (v := ?_) rfl (by kernel_rfl) (by kernel_rfl) (by kernel_rfl) (by kernel_rfl) (by kernel_rfl) (fun _ _ _ h => h) (Or.inl ⟨by kernel_rfl, ?_⟩) hS ?_; rotate_left 1; (focus (intro w' hSw; (try dsimp only at hSw); go_simp; try (with_reducible rfl))); try simp only [Act.put, List.getElem_toArray, List.getElem_cons_zero, List.getElem_cons_succ, List.setIfInBounds_toArray, List.set_cons_zero, List.set_cons_succ])
    (refine Am.wpAnyM_take (i := 1) (v := ?_) rfl (by kernel_rfl) (by kernel_rfl) (by kernel_rfl) (by kernel_rfl) (by kernel_rfl) (fun _ _ _ h => h) (Or.inl ⟨by kernel_rfl, ?_⟩) hS ?_; rotate_left 1; (focus (intro w' hSw; (try dsimp only at hSw); go_simp; try (with_reducible rfl))); try simp only [Act.put, List.getElem_toArray, List.getElem_cons_zero, List.getElem_cons_succ, List.setIfInBounds_toArray, List.set_cons_zero, List.set_cons_succ])
    (refine Am.wpAnyM_take (i := 2) (v := ?_) rfl (by kernel_rfl) (by kernel_rfl) (by kernel_rfl) (by kernel_rfl) (by kernel_rfl) (fun _ _ _ h => h) (Or.inl ⟨by kernel_rfl, ?_⟩) hS ?_; rotate_left 1; (focus (intro w' hSw; (try dsimp only at hSw); go_simp; try (with_reducible rfl))); try simp only [Act.put, List.getElem_toArray, List.getElem_cons_zero, List.getElem_cons_succ, List.setIfInBounds_toArray, List.set_cons_zero, List.set_cons_succ])
    (refine Am.wpAnyM_take (i := 3) (v := ?_) rfl (by kernel_rfl) (by kernel_rfl) (by kernel_rfl) (by kernel_rfl) (by kernel_rfl) (fun _ _ _ h => h) (Or.inl ⟨by kernel_rfl, ?_⟩) hS ?_; rotate_left 1; (focus (intro w' hSw; (try dsimp only at hSw); go_simp; try (with_reducible rfl))); try simp only [Act.put, List.getElem_toArray, List.getElem_cons_zero, List.getElem_cons_succ, List.setIfInBounds_toArray, List.set_cons_zero, List.set_cons_succ])
    (refine Am.wpAnyM_take (i := 4) (v := ?_) rfl (by kernel_rfl) (by kernel_rfl) (by kernel_rfl) (by kernel_rfl) (by kernel_rfl) (fun _ _ _ h => h) (Or.inl ⟨by kernel_rfl, ?_⟩) hS ?_; rotate_left 1; (focus (intro w' hSw; (try dsimp only at hSw); go_simp; try (with_reducible rfl))); try simp only [Act.put, List.getElem_toArray, List.getElem_cons_zero, List.getElem_cons_succ, List.setIfInBounds_toArray, List.set_cons_zero, List.set_cons_succ])
    (refine Am.wpAnyM_take (i := 5) (v := ?_) rfl (by kernel_rfl) (by kernel_rfl) (by kernel_rfl) (by kernel_rfl) (by kernel_rfl) (fun _ _ _ h => h) (Or.inl ⟨by kernel_rfl, ?_⟩) hS ?_; rotate_left 1; (focus (intro w' hSw; (try dsimp only at hSw); go_simp; try (with_reducible rfl))); try simp only [Act.put, List.getElem_toArray, List.getElem_cons_zero, List.getElem_cons_succ, List.setIfInBounds_toArray, List.set_cons_zero, List.set_cons_succ])
    (refine Am.wpAnyM_take (i := 6) (v := ?_) rfl (by kernel_rfl) (by kernel_rfl) (by kernel_rfl) (by kernel_rfl) (by kernel_rfl) (fun _ _ _ h => h) (Or.inl ⟨by kernel_rfl, ?_⟩) hS ?_; rotate_left 1; (focus (intro w' hSw; (try dsimp only at hSw); go_simp; try (with_reducible rfl))); try simp only [Act.put, List.getElem_toArray, List.getElem_cons_zero, List.getElem_cons_succ, List.setIfInBounds_toArray, List.set_cons_zero, List.set_cons_succ])
    (refine Am.wpAnyM_take (i := 7) (v := ?_) rfl (by kernel_rfl) (by kernel_rfl) (by kernel_rfl) (by kernel_rfl) (by kernel_rfl) (fun _ _ _ h => h) (Or.inl ⟨by kernel_rfl, ?_⟩) hS ?_; rotate_left 1; (focus (intro w' hSw; (try dsimp only at hSw); go_simp; try (with_reducible rfl))); try simp only [Act.put, List.getElem_toArray, List.getElem_cons_zero, List.getElem_cons_succ, List.setIfInBounds_toArray, List.set_cons_zero, List.set_cons_succ])
    refine wpAnyM_only (i := 8) (by kernel_rfl) (by exact rfl) (by kernel_rfl) ?_
    intro K hK
    go_simp
    refine (C1.out _ hp).mono ?_
    rintro e v8 ⟨rfl, hb⟩
    replace B1 := Bk.old B1 hb
    replace B2 := Bk.old B2 hb
    replace B3 := Bk.old B3 hb
    replace B4 := Bk.old B4 hb
    replace hp := hp.old hb
    replace hc := bl_trans hc hb
    clear hb h1 h2 h3 h4
    have h1 := B1.lt
    have h2 := B2.lt
    have h3 := B3.lt
    have h4 := B4.lt
    go_simp
    refine hK.out _ _ (c16 B1 B2 B3 B4) (fun hS => ?_)
    clear hK K
    try simp only [Act.put, List.getElem_toArray, List.getElem_cons_zero, List.getElem_cons_succ, List.setIfInBounds_toArray, List.set_cons_zero, List.set_cons_succ]
    (refine Am.wpAnyM_take (i := 9) (v := ?_) rfl (by kernel_rfl) (by kernel_rfl) (by kernel_rfl) (by kernel_rfl) (by kernel_rfl) (fun _ _ _ h => h) (Or.inl ⟨by kernel_rfl, ?_⟩) hS ?_; rotate_left 1; (focus (intro w' hSw; (try dsimp only at hSw); go_simp; try (with_reducible rfl))); try simp only [Act.put, List.getElem_toArray, List.getElem_cons_zero, List.getElem_cons_succ, List.setIfInBounds_toArray, List.set_cons_zero, List.set_cons_succ])
    (refine Am.wpAnyM_take (i := 10) (v := ?_) rfl (by kernel_rfl) (by kernel_rfl) (by kernel_rfl) (by kernel_rfl) (by kernel_rfl) (fun _ _ _ h => h) (Or.inl ⟨by kernel_rfl, ?_⟩) hS ?_; rotate_left 1; (focus (intro w' hSw; (try dsimp only at hSw); go_simp; try (with_reducible rfl))); try simp only [Act.put, List.getElem_toArray, List.getElem_cons_zero, List.getElem_cons_succ, List.setIfInBounds_toArray, List.set_cons_zero, List.set_cons_succ])
    (refine Am.wpAnyM_take (i := 11) (v := ?_) rfl (by kernel_rfl) (by kernel_rfl) (by kernel_rfl) (by kernel_rfl) (by kernel_rfl) (fun _ _ _ h => h) (Or.inl ⟨by kernel_rfl, ?_⟩) hS ?_; rotate_left 1; (focus (intro w' hSw; (try dsimp only at hSw); go_simp; try (with_reducible rfl))); try simp only [Act.put, List.getElem_toArray, List.getElem_cons_zero, List.getElem_cons_succ, List.setIfInBounds_toArray, List.set_cons_zero, List.set_cons_succ])
    (refine Am.wpAnyM_take (i := 12) (v := ?_) rfl (by kernel_rfl) (by kernel_rfl) (by kernel_rfl) (by kernel_rfl) (by kernel_rfl) (fun _ _ _ h => h) (Or.inl ⟨by kernel_rfl, ?_⟩) hS ?_; rotate_left 1; (focus (intro w' hSw; (try dsimp only at hSw); go_simp; try (with_reducible rfl))); try simp only [Act.put, List.getElem_toArray, List.getElem_cons_zero, List.getElem_cons_succ, List.setIfInBounds_toArray, List.set_cons_zero, List.set_cons_succ])
    (refine Am.wpAnyM_take (i := 13) (v := ?_) rfl (by kernel_rfl) (by kernel_rfl) (by kernel_rfl) (by kernel_rfl) (by kernel_rfl) (fun _ _ _ h => h) (Or.inl ⟨by kernel_rfl, ?_⟩) hS ?_; rotate_left 1; (focus (intro w' hSw; (try dsimp only at hSw); go_simp; try (with_reducible rfl))); try simp only [Act.put, List.getElem_toArray, List.getElem_cons_zero, List.getElem_cons_succ, List.setIfInBounds_toArray, List.set_cons_zero, List.set_cons_succ])
    (refine Am.wpAnyM_take (i := 14) (v := ?_) rfl (by kernel_rfl) (by kernel_rfl) (by kernel_rfl) (by kernel_rfl) (by kernel_rfl) (fun _ _ _ h => h) (Or.inl ⟨by kernel_rfl, ?_⟩) hS ?_; rotate_left 1; (focus (intro w' hSw; (try dsimp only at hSw); go_simp; try (with_reducible rfl))); try simp only [Act.put, List.getElem_toArray, List.getElem_cons_zero, List.getElem_cons_succ, List.setIfInBounds_toArray, List.set_cons_zero, List.set_cons_succ])
    (refine Am.wpAnyM_take (i := 15) (v := ?_) rfl (by kernel_rfl) (by kernel_rfl) (by kernel_rfl) (by kernel_rfl) (by kernel_rfl) (fun _ _ _ h => h) (Or.inl ⟨by kernel_rfl, ?_⟩) hS ?_; rotate_left 1; (focus (intro w' hSw; (try dsimp only at hSw); go_simp; try (with_reducible rfl))); try simp only [Act.put, List.getElem_toArray, List.getElem_cons_zero, List.getElem_cons_succ, List.setIfInBounds_toArray, List.set_cons_zero, List.set_cons_succ])
    refine wpAnyM_only (i := 16) (by kernel_rfl) (by exact rfl) (by kernel_rfl) ?_
    intro K hK
    go_simp
    refine (C2.out _ hp).mono ?_
    rintro e v16 ⟨rfl, hb⟩
    replace B1 := Bk.old B1 hb
    replace B2 := Bk.old B2 hb
    replace B3 := Bk.old B3 hb
    replace B4 := Bk.old B4 hb
    replace hp := hp.old hb
    replace hc := bl_trans hc hb
    clear hb h1 h2 h3 h4
    have h1 := B1.lt
    have h2 := B2.lt
    have h3 := B3.lt
    have h4 := B4.lt
    go_simp
    refine hK.out _ _ (c16 B1 B2 B3 B4) (fun hS => ?_)
    clear hK K
    try simp only [Act.put, List.getElem_toArray, List.getElem_cons_zero, List.getElem_cons_succ, List.setIfInBounds_toArray, List.set_cons_zero, List.set_cons_succ]
    (refine Am.wpAnyM_take (i := 17) (v := ?_) rfl (by kernel_rfl) (by kernel_rfl) (by kernel_rfl) (by kernel_rfl) (by kernel_rfl) (fun _ _ _ h => h) (Or.inl ⟨by kernel_rfl, ?_⟩) hS ?_; rotate_left 1; (focus (intro w' hSw; (try dsimp only at hSw); go_simp; try (with_reducible rfl))); try simp only [Act.put, List.getElem_toArray, List.getElem_cons_zero, List.getElem_cons_succ, List.setIfInBounds_toArray, List.set_cons_zero, List.set_cons_succ])
    (refine Am.wpAnyM_take (i := 18) (v := ?_) rfl (by kernel_rfl) (by kernel_rfl) (by kernel_rfl) (by kernel_rfl) (by kernel_rfl) (fun _ _ _ h => h) (Or.inl ⟨by kernel_rfl, ?_⟩) hS ?_; rotate_left 1; (focus (intro w' hSw; (try dsimp only at hSw); go_simp; try (with_reducible rfl))); try simp only [Act.put, List.getElem_toArray, List.getElem_cons_zero, List.getElem_cons_succ, List.setIfInBounds_toArray, List.set_cons_zero, List.set_cons_succ])
    cases c2
    · (refine Am.wpAnyM_take (i := 19) (v := undef) rfl (by kernel_rfl) (by kernel_rfl) (by kernel_rfl) (by kernel_rfl) (by kernel_rfl) (fun _ _ _ h => h) (Or.inr ⟨by kernel_rfl, rfl⟩) hS ?_; try simp only [Act.put, List.getElem_toArray, List.getElem_cons_zero, List.getElem_cons_succ, List.setIfInBounds_toArray, List.set_cons_zero, List.set_cons_succ])
      (refine Am.wpAnyM_take (i := 20) (v := undef) rfl (by kernel_rfl) (by kernel_rfl) (by kernel_rfl) (by kernel_rfl) (by kernel_rfl) (fun _ _ _ h => h) (Or.inr ⟨by kernel_rfl, rfl⟩) hS ?_; try simp only [Act.put, List.getElem_toArray, List.getElem_cons_zero, List.getElem_cons_succ, List.setIfInBounds_toArray, List.set_cons_zero, List.set_cons_succ])
      (refine Am.wpAnyM_take (i := 21) (v := undef) rfl (by kernel_rfl) (by kernel_rfl) (by kernel_rfl) (by kernel_rfl) (by kernel_rfl) (fun _ _ _ h => h) (Or.inr ⟨by kernel_rfl, rfl⟩) hS ?_; try simp only [Act.put, List.getElem_toArray, List.getElem_cons_zero, List.getElem_cons_succ, List.setIfInBounds_toArray, List.set_cons_zero, List.set_cons_succ])
      (refine Am.wpAnyM_take (i := 22) (v := undef) rfl (by kernel_rfl) (by kernel_rfl) (by kernel_rfl) (by kernel_rfl) (by kernel_rfl) (fun _ _ _ h => h) (Or.inr ⟨by kernel_rfl, rfl⟩) hS ?_; try simp only [Act.put, List.getElem_toArray, List.getElem_cons_zero, List.getElem_cons_succ, List.setIfInBounds_toArray, List.set_cons_zero, List.set_cons_succ])
      (refine Am.wpAnyM_take (i := 23) (v := undef) rfl (by kernel_rfl) (by kernel_rfl) (by kernel_rfl) (by kernel_rfl) (by kernel_rfl) (fun _ _ _ h => h) (Or.inr ⟨by kernel_rfl, rfl⟩) hS ?_; try simp only [Act.put, List.getElem_toArray, List.getElem_cons_zero, List.getElem_cons_succ, List.setIfInBounds_toArray, List.set_cons_zero, List.set_cons_succ])
      refine wpAnyM_skip (i := 24) (by kernel_rfl) (by exact rfl) (by kernel_rfl) hS ?_
      try simp only [Act.put, List.getElem_toArray, List.getElem_cons_zero, List.getElem_cons_succ, List.setIfInBounds_toArray, List.set_cons_zero, List.set_cons_succ]
      (refine Am.wpAnyM_take (i := 25) (v := ?_) rfl (by kernel_rfl) (by kernel_rfl) (by kernel_rfl) (by kernel_rfl) (by kernel_rfl) (fun _ _ _ h => h) (Or.inl ⟨by kernel_rfl, ?_⟩) hS ?_; rotate_left 1; (focus (intro w' hSw; (try dsimp only at hSw); go_simp; try (with_reducible rfl))); try simp only [Act.put, List.getElem_toArray, List.getElem_cons_zero, List.getElem_cons_succ, List.setIfInBounds_toArray, List.set_cons_zero, List.set_cons_succ])
      (refine Am.wpAnyM_take (i := 26) (v := ?_) rfl (by kernel_rfl) (by kernel_rfl) (by kernel_rfl) (by kernel_rfl) (by kernel_rfl) (fun _ _ _ h => h) (Or.inl ⟨by kernel_rfl, ?_⟩) hS ?_; rotate_left 1; (focus (intro w' hSw; (try dsimp only at hSw); go_simp; try (with_reducible rfl))); try simp only [Act.put, List.getElem_toArray, List.getElem_cons_zero, List.getElem_cons_succ, List.setIfInBounds_toArray, List.set_cons_zero, List.set_cons_succ])
      (refine Am.wpAnyM_take (i := 27) (v := ?_) rfl (by kernel_rfl) (by kernel_rfl) (by kernel_rfl) (by kernel_rfl) (by kernel_rfl) (fun _ _ _ h => h) (Or.inl ⟨by kernel_rfl, ?_⟩) hS ?_; rotate_left 1; (focus (intro w' hSw; (try dsimp only at hSw); go_simp; try (with_reducible rfl))); try simp only [Act.put, List.getElem_toArray, List.getElem_cons_zero, List.getElem_cons_succ, List.setIfInBounds_toArray, List.set_cons_zero, List.set_cons_succ])
      (refine Am.wpAnyM_take (i := 28) (v := ?_) rfl (by kernel_rfl) (by kernel_rfl) (by kernel_rfl) (by kernel_rfl) (by kernel_rfl) (fun _ _ _ h => h) (Or.inl ⟨by kernel_rfl, ?_⟩) hS ?_; rotate_left 1; (focus (intro w' hSw; (try dsimp only at hSw); go_simp; try (with_reducible rfl))); try simp only [Act.put, List.getElem_toArray, List.getElem_cons_zero, List.getElem_cons_succ, List.setIfInBounds_toArray, List.set_cons_zero, List.set_cons_succ])
      (refine Am.wpAnyM_take (i := 29) (v := ?_) rfl (by kernel_rfl) (by kernel_rfl) (by kernel_rfl) (by kernel_rfl) (by kernel_rfl) (fun _ _ _ h => h) (Or.inl ⟨by kernel_rfl, ?_⟩) hS ?_; rotate_left 1; (focus (intro w' hSw; (try dsimp only at hSw); go_simp; try (with_reducible rfl))); try simp only [Act.put, List.getElem_toArray, List.getElem_cons_zero, List.getElem_cons_succ, List.setIfInBounds_toArray, List.set_cons_zero, List.set_cons_succ])
      (refine Am.wpAnyM_take (i := 30) (v := ?_) rfl (by kernel_rfl) (by kernel_rfl) (by kernel_rfl) (by kernel_rfl) (by kernel_rfl) (fun _ _ _ h => h) (Or.inl ⟨by kernel_rfl, ?_⟩) hS ?_; rotate_left 1; (focus (intro w' hSw; (try dsimp only at hSw); go_simp; try (with_reducible rfl))); try simp only [Act.put, List.getElem_toArray, List.getElem_cons_zero, List.getElem_cons_succ, List.setIfInBounds_toArray, List.set_cons_zero, List.set_cons_succ])
      (refine Am.wpAnyM_take (i := 31) (v := ?_) rfl (by kernel_rfl) (by kernel_rfl) (by kernel_rfl) (by kernel_rfl) (by kernel_rfl) (fun _ _ _ h => h) (Or.inl ⟨by kernel_rfl, ?_⟩) hS ?_; rotate_left 1; (focus (intro w' hSw; (try dsimp only at hSw); go_simp; try (with_reducible rfl))); try simp only [Act.put, List.getElem_toArray, List.getElem_cons_zero, List.getElem_cons_succ, List.setIfInBounds_toArray, List.set_cons_zero, List.set_cons_succ])
      (refine Am.wpAnyM_take (i := 32) (v := ?_) rfl (by kernel_rfl) (by kernel_rfl) (by kernel_rfl) (by kernel_rfl) (by kernel_rfl) (fun _ _ _ h => h) (Or.inl ⟨by kernel_rfl, ?_⟩) hS ?_; rotate_left 1; (focus (intro w' hSw; (try dsimp only at hSw); go_simp; try (with_reducible rfl))); try simp only [Act.put, List.getElem_toArray, List.getElem_cons_zero, List.getElem_cons_succ, List.setIfInBounds_toArray, List.set_cons_zero, List.set_cons_succ])
      refine wpAnyM_only (i := 33) (by kernel_rfl) (by exact rfl) (by kernel_rfl) ?_
      intro K hK
      go_simp
      refine (C3.out _ hp).mono ?_
      rintro e v33 ⟨rfl, hb⟩
      replace B1 := Bk.old B1 hb
      replace B2 := Bk.old B2 hb
      replace B3 := Bk.old B3 hb
      replace B4 := Bk.old B4 hb
      replace hp := hp.old hb
      replace hc := bl_trans hc hb
      clear hb h1 h2 h3 h4
      have h1 := B1.lt
      have h2 := B2.lt
      have h3 := B3.lt
      have h4 := B4.lt
      go_simp
      refine hK.out _ _ (c16 B1 B2 B3 B4) (fun hS => ?_)
      clear hK K
      try simp only [Act.put, List.getElem_toArray, List.getElem_cons_zero, List.getElem_cons_succ, List.setIfInBounds_toArray, List.set_cons_zero, List.set_cons_succ]
      (refine Am.wpAnyM_take (i := 34) (v := ?_) rfl (by kernel_rfl) (by kernel_rfl) (by kernel_rfl) (by kernel_rfl) (by kernel_rfl) (fun _ _ _ h => h) (Or.inl ⟨by kernel_rfl, ?_⟩) hS ?_; rotate_left 1; (focus (intro w' hSw; (try dsimp only at hSw); go_simp; try (with_reducible rfl))); try simp only [Act.put, List.getElem_toArray, List.getElem_cons_zero, List.getElem_cons_succ, List.setIfInBounds_toArray, List.set_cons_zero, List.set_cons_succ])
      (refine Am.wpAnyM_take (i := 35) (v := ?_) rfl (by kernel_rfl) (by kernel_rfl) (by kernel_rfl) (by kernel_rfl) (by kernel_rfl) (fun _ _ _ h => h) (Or.inl ⟨by kernel_rfl, ?_⟩) hS ?_; rotate_left 1; (focus (intro w' hSw; (try dsimp only at hSw); go_simp; try (with_reducible rfl))); try simp only [Act.put, List.getElem_toArray, List.getElem_cons_zero, List.getElem_cons_succ, List.setIfInBounds_toArray, List.set_cons_zero, List.set_cons_succ])
      (refine Am.wpAnyM_take (i := 36) (v := ?_) rfl (by kernel_rfl) (by kernel_rfl) (by kernel_rfl) (by kernel_rfl) (by kernel_rfl) (fun _ _ _ h => h) (Or.inl ⟨by kernel_rfl, ?_⟩) hS ?_; rotate_left 1; (focus (intro w' hSw; (try dsimp only at hSw); go_simp; try (with_reducible rfl))); try simp only [Act.put, List.getElem_toArray, List.getElem_cons_zero, List.getElem_cons_succ, List.setIfInBounds_toArray, List.set_cons_zero, List.set_cons_succ])
      (refine Am.wpAnyM_take (i := 37) (v := ?_) rfl (by kernel_rfl) (by kernel_rfl) (by kernel_rfl) (by kernel_rfl) (by kernel_rfl) (fun _ _ _ h => h) (Or.inl ⟨by kernel_rfl, ?_⟩) hS ?_; rotate_left 1; (focus (intro w' hSw; (try dsimp only at hSw); go_simp; try (with_reducible rfl))); try simp only [Act.put, List.getElem_toArray, List.getElem_cons_zero, List.getElem_cons_succ, List.setIfInBounds_toArray, List.set_cons_zero, List.set_cons_succ])
      (refine Am.wpAnyM_take (i := 38) (v := ?_) rfl (by kernel_rfl) (by kernel_rfl) (by kernel_rfl) (by kernel_rfl) (by kernel_rfl) (fun _ _ _ h => h) (Or.inl ⟨by kernel_rfl, ?_⟩) hS ?_; rotate_left 1; (focus (intro w' hSw; (try dsimp only at hSw); go_simp; try (with_reducible rfl))); try simp only [Act.put, List.getElem_toArray, List.getElem_cons_zero, List.getElem_cons_succ, List.setIfInBounds_toArray, List.set_cons_zero, List.set_cons_succ])
      (refine Am.wpAnyM_take (i := 39) (v := ?_) rfl (by kernel_rfl) (by kernel_rfl) (by kernel_rfl) (by kernel_rfl) (by kernel_rfl) (fun _ _ _ h => h) (Or.inl ⟨by kernel_rfl, ?_⟩) hS ?_; rotate_left 1; (focus (intro w' hSw; (try dsimp only at hSw); go_simp; try (with_reducible rfl))); try simp only [Act.put, List.getElem_toArray, List.getElem_cons_zero, List.getElem_cons_succ, List.setIfInBounds_toArray, List.set_cons_zero, List.set_cons_succ])
      (refine Am.wpAnyM_take (i := 40) (v := ?_) rfl (by kernel_rfl) (by kernel_rfl) (by kernel_rfl) (by kernel_rfl) (by kernel_rfl) (fun _ _ _ h => h) (Or.inl ⟨by kernel_rfl, ?_⟩) hS ?_; rotate_left 1; (focus (intro w' hSw; (try dsimp only at hSw); go_simp; try (with_reducible rfl))); try simp only [Act.put, List.getElem_toArray, List.getElem_cons_zero, List.getElem_cons_succ, List.setIfInBounds_toArray, List.set_cons_zero, List.set_cons_succ])
      (refine Am.wpAnyM_take (i := 41) (v := ?_) rfl (by kernel_rfl) (by kernel_rfl) (by kernel_rfl) (by kernel_rfl) (by kernel_rfl) (fun _ _ _ h => h) (Or.inl ⟨by kernel_rfl, ?_⟩) hS ?_; rotate_left 1; (focus (intro w' hSw; (try dsimp only at hSw); go_simp; try (with_reducible rfl))); try simp only [Act.put, List.getElem_toArray, List.getElem_cons_zero, List.getElem_cons_succ, List.setIfInBounds_toArray, List.set_cons_zero, List.set_cons_succ])
      (refine Am.wpAnyM_take (i := 43) (v := ?_) rfl (by kernel_rfl) (by kernel_rfl) (by kernel_rfl) (by kernel_rfl) (by kernel_rfl) (fun _ _ _ h => h) (Or.inl ⟨by kernel_rfl, ?_⟩) hS ?_; rotate_left 1; (focus (intro w' hSw; (try dsimp only at hSw); go_simp; try (with_reducible rfl))); try simp only [Act.put, List.getElem_toArray, List.getElem_cons_zero, List.getElem_cons_succ, List.setIfInBounds_toArray, List.set_cons_zero, List.set_cons_succ])
      have hwv : w.heap.size ≤ v33.heap.size := hc.size
      have k1 := h1
      have k2 := h2
      have k3 := h3
      have k4 := h4
      refine wpAnyM_both (i := 42) (j := 44) (by kernel_rfl) (by exact rfl) (by exact rfl) (by kernel_rfl) (by kernel_rfl) ?_ ?_
      · obtain ⟨pv, pw, hrun, hown, hgp⟩ := app_runD (w := v33) (base := v33.heap.size) (v := .slice none 0 0) (xs := []) (l := p) (c := d) (World.ownsRow_nil _ _ _ _) hp (by simp; omega) (Nat.le_refl _)
        rw [List.nil_append] at hown
        have hbp : Below v33.heap.size v33 pw := ⟨hgp.os, hgp.tape, hgp.output, hgp.size, fun i hi => hgp.block i (Nat.lt_of_lt_of_le hi (Nat.le_refl _)) (by simp [Value.ownBlock])⟩
        intro K hK
        refine wp_append_run (.const (.slice none 0 0)) (.tmp 98) 27 rfl (.slice none 0 0) (.slice D p.length d) rfl rfl pv pw (by exact hrun) ?_
        replace B1 := Bk.old B1 hbp
        replace B2 := Bk.old B2 hbp
        replace B3 := Bk.old B3 hbp
        replace B4 := Bk.old B4 hbp
        clear h1 h2 h3 h4
        have h1 := B1.lt
        have h2 := B2.lt
        have h3 := B3.lt
        have h4 := B4.lt
        replace hp := hp.old hbp
        replace hc := bl_trans hc hbp
        refine hK.out _ _ (c16 B1 B2 B3 B4) (fun hS => ?_)
        clear hK K
        try simp only [Act.put, List.getElem_toArray, List.getElem_cons_zero, List.getElem_cons_succ, List.setIfInBounds_toArray, List.set_cons_zero, List.set_cons_succ]
        refine wpAnyM_only (i := 44) (by kernel_rfl) (by exact rfl) (by kernel_rfl) ?_
        intro K hK
        go_simp
        replace B1 := Bk.alloc B1 (.cells (c4 Y) 34)
        replace B2 := Bk.alloc B2 (.cells (c4 Y) 34)
        replace B3 := Bk.alloc B3 (.cells (c4 Y) 34)
        replace B4 := Bk.alloc B4 (.cells (c4 Y) 34)
        clear h1 h2 h3 h4
        have h1 := B1.lt
        have h2 := B2.lt
        have h3 := B3.lt
        have h4 := B4.lt
        replace hp := hp.alloc (.cells (c4 Y) 34)
        replace hc := bl_alloc hc (.cells (c4 Y) 34)
        refine hK.out _ _ (c16 B1 B2 B3 B4) (fun hS => ?_)
        clear hK K
        try simp only [Act.put, List.getElem_toArray, List.getElem_cons_zero, List.getElem_cons_succ, List.setIfInBounds_toArray, List.set_cons_zero, List.set_cons_succ]
        have BS : Bk (pw.alloc (.cells (c4 Y) 34)) pw.heap.size 34 (c4 Y) := Mw.Bk.new _ _ _
        replace hown := own_old' hown (bl_alloc (Below.refl _ pw) (.cells (c4 Y) 34))
        have hsz : v33.heap.size ≤ (pw.alloc (.cells (c4 Y) 34)).heap.size := by have := hgp.size; simp; omega
        clear hgp hrun hbp
        generalize (pw.alloc (.cells (c4 Y) 34)) = W at *
        generalize pw.heap.size = g at *
        have hgW : v33.heap.size ≤ W.heap.size := hsz
        obtain ⟨qv, qw, hrun2, hown2, hgq⟩ := app_runD (w := W) (base := v33.heap.size) (v := pv) (xs := p) (l := [Y]) (A := some ⟨g, 0, none⟩) (c := 1) hown (RdD.bk BS rfl) (by simp; omega) hgW
        refine wpAnyM_only (i := 45) (by kernel_rfl) (by exact rfl) (by kernel_rfl) ?_
        intro K hK
        refine wp_append_run (.tmp 99) (.tmp 101) 27 rfl pv (.slice (some ⟨g, 0, none⟩) 1 1) rfl rfl qv qw (by exact hrun2) ?_
        replace B1 := B1.grown hgq (fun e => by have := (hown.lt _ e.symm).1; omega)
        replace B2 := B2.grown hgq (fun e => by have := (hown.lt _ e.symm).1; omega)
        replace B3 := B3.grown hgq (fun e => by have := (hown.lt _ e.symm).1; omega)
        replace B4 := B4.grown hgq (fun e => by have := (hown.lt _ e.symm).1; omega)
        replace hc := hc.grown hgq (Nat.le_trans hwv hgW) (fun q e => by have := (hown.lt q e).1; omega)
        obtain ⟨QA, qc, rfl, hq1, hq2, hqr, -⟩ := own_digs hown2
        clear h1 h2 h3 h4
        have h1 := B1.lt
        have h2 := B2.lt
        have h3 := B3.lt
        have h4 := B4.lt
        refine hK.out _ _ (c16 B1 B2 B3 B4) (fun hS => ?_)
        clear hK K
        try simp only [Act.put, List.getElem_toArray, List.getElem_cons_zero, List.getElem_cons_succ, List.setIfInBounds_toArray, List.set_cons_zero, List.set_cons_succ]
        clear hown hgq hrun2 BS hp
        rw [show (p ++ [Y]).length = p.length + 1 by simp]
        refine wpAnyM_only (i := 46) (by kernel_rfl) (by exact rfl) (by kernel_rfl) ?_
        intro K hK
        go_simp
        refine (C4.out _ QA qc (hqr) (by simpa using hq1) hq2).mono ?_
        rintro e v46 ⟨rfl, hb⟩
        replace B1 := Bk.old B1 hb
        replace B2 := Bk.old B2 hb
        replace B3 := Bk.old B3 hb
        replace B4 := Bk.old B4 hb
        replace hc := bl_trans hc hb
        clear hb h1 h2 h3 h4
        have h1 := B1.lt
        have h2 := B2.lt
        have h3 := B3.lt
        have h4 := B4.lt
        go_simp
        refine hK.out _ _ (c16 B1 B2 B3 B4) (fun hS => ?_)
        clear hK K
        try simp only [Act.put, List.getElem_toArray, List.getElem_cons_zero, List.getElem_cons_succ, List.setIfInBounds_toArray, List.set_cons_zero, List.set_cons_succ]
        by_cases hIK : I = K
        · have t0 : decide ((I : Int) = (K : Int)) = true := decide_eq_true (by omega)
          have t1 : decide (I = K) = true := decide_eq_true (by omega)
          have t2 : ((I : Int) == (K : Int)) = true := by rw [beq_iff_eq]; omega
          have t3 : (I == K) = true := by rw [beq_iff_eq]; omega
          (refine Am.wpAnyM_take (i := 47) (v := ?_) rfl (by kernel_rfl) (by kernel_rfl) (by kernel_rfl) (by kernel_rfl) (by kernel_rfl) (fun _ _ _ h => h) (Or.inl ⟨by kernel_rfl, ?_⟩) hS ?_; rotate_left 1; (focus (intro w' hSw; (try dsimp only at hSw); go_simp; try (with_reducible rfl))); try simp only [Act.put, List.getElem_toArray, List.getElem_cons_zero, List.getElem_cons_succ, List.setIfInBounds_toArray, List.set_cons_zero, List.set_cons_succ])
          (refine Am.wpAnyM_take (i := 48) (v := ?_) rfl (by kernel_rfl) (by kernel_rfl) (by kernel_rfl) (by kernel_rfl) (by kernel_rfl) (fun _ _ _ h => h) (Or.inl ⟨by kernel_rfl, ?_⟩) hS ?_; rotate_left 1; (focus (intro w' hSw; (try dsimp only at hSw); go_simp; try (with_reducible rfl))); try simp only [Act.put, List.getElem_toArray, List.getElem_cons_zero, List.getElem_cons_succ, List.setIfInBounds_toArray, List.set_cons_zero, List.set_cons_succ])
          (refine Am.wpAnyM_take (i := 49) (v := ?_) rfl (by kernel_rfl) (by kernel_rfl) (by kernel_rfl) (by kernel_rfl) (by kernel_rfl) (fun _ _ _ h => h) (Or.inl ⟨by kernel_rfl, ?_⟩) hS ?_; rotate_left 1; (focus (intro w' hSw; (try dsimp only at hSw); go_simp; try (with_reducible rfl))); try simp only [Act.put, List.getElem_toArray, List.getElem_cons_zero, List.getElem_cons_succ, List.setIfInBounds_toArray, List.set_cons_zero, List.set_cons_succ])
          (refine Am.wpAnyM_take (i := 50) (v := ?_) rfl (by kernel_rfl) (by kernel_rfl) (by kernel_rfl) (by kernel_rfl) (by kernel_rfl) (fun _ _ _ h => h) (Or.inl ⟨by kernel_rfl, ?_⟩) hS ?_; rotate_left 1; (focus (intro w' hSw; (try dsimp only at hSw); go_simp; try (with_reducible rfl))); try simp only [Act.put, List.getElem_toArray, List.getElem_cons_zero, List.getElem_cons_succ, List.setIfInBounds_toArray, List.set_cons_zero, List.set_cons_succ])
          (refine Am.wpAnyM_take (i := 51) (v := ?_) rfl (by kernel_rfl) (by kernel_rfl) (by kernel_rfl) (by kernel_rfl) (by kernel_rfl) (fun _ _ _ h => h) (Or.inl ⟨by kernel_rfl, ?_⟩) hS ?_; rotate_left 1; (focus (intro w' hSw; (try dsimp only at hSw); go_simp; try (with_reducible rfl))); try simp only [Act.put, List.getElem_toArray, List.getElem_cons_zero, List.getElem_cons_succ, List.setIfInBounds_toArray, List.set_cons_zero, List.set_cons_succ])
          (refine Am.wpAnyM_take (i := 52) (v := ?_) rfl (by kernel_rfl) (by kernel_rfl) (by kernel_rfl) (by kernel_rfl) (by kernel_rfl) (fun _ _ _ h => h) (Or.inl ⟨by kernel_rfl, ?_⟩) hS ?_; rotate_left 1; (focus (intro w' hSw; (try dsimp only at hSw); go_simp; try (with_reducible rfl))); try simp only [Act.put, List.getElem_toArray, List.getElem_cons_zero, List.getElem_cons_succ, List.setIfInBounds_toArray, List.set_cons_zero, List.set_cons_succ])
          try simp only [t0, t1, t2, t3]
          (refine Am.wpAnyM_take (i := 53) (v := ?_) rfl (by kernel_rfl) (by kernel_rfl) (by kernel_rfl) (by kernel_rfl) (by kernel_rfl) (fun _ _ _ h => h) (Or.inl ⟨by kernel_rfl, ?_⟩) hS ?_; rotate_left 1; (focus (intro w' hSw; (try dsimp only at hSw); go_simp; try (with_reducible rfl))); try simp only [Act.put, List.getElem_toArray, List.getElem_cons_zero, List.getElem_cons_succ, List.setIfInBounds_toArray, List.set_cons_zero, List.set_cons_succ])
          (refine Am.wpAnyM_take (i := 54) (v := undef) rfl (by kernel_rfl) (by kernel_rfl) (by kernel_rfl) (by kernel_rfl) (by kernel_rfl) (fun _ _ _ h => h) (Or.inr ⟨by kernel_rfl, rfl⟩) hS ?_; try simp only [Act.put, List.getElem_toArray, List.getElem_cons_zero, List.getElem_cons_succ, List.setIfInBounds_toArray, List.set_cons_zero, List.set_cons_succ])
          (refine Am.wpAnyM_take (i := 55) (v := undef) rfl (by kernel_rfl) (by kernel_rfl) (by kernel_rfl) (by kernel_rfl) (by kernel_rfl) (fun _ _ _ h => h) (Or.inr ⟨by kernel_rfl, rfl⟩) hS ?_; try simp only [Act.put, List.getElem_toArray, List.getElem_cons_zero, List.getElem_cons_succ, List.setIfInBounds_toArray, List.set_cons_zero, List.set_cons_succ])
          (refine Am.wpAnyM_take (i := 56) (v := undef) rfl (by kernel_rfl) (by kernel_rfl) (by kernel_rfl) (by kernel_rfl) (by kernel_rfl) (fun _ _ _ h => h) (Or.inr ⟨by kernel_rfl, rfl⟩) hS ?_; try simp only [Act.put, List.getElem_toArray, List.getElem_cons_zero, List.getElem_cons_succ, List.setIfInBounds_toArray, List.set_cons_zero, List.set_cons_succ])
          (refine Am.wpAnyM_take (i := 57) (v := undef) rfl (by kernel_rfl) (by kernel_rfl) (by kernel_rfl) (by kernel_rfl) (by kernel_rfl) (fun _ _ _ h => h) (Or.inr ⟨by kernel_rfl, rfl⟩) hS ?_; try simp only [Act.put, List.getElem_toArray, List.getElem_cons_zero, List.getElem_cons_succ, List.setIfInBounds_toArray, List.set_cons_zero, List.set_cons_succ])
          refine wpAnyM_skip (i := 58) (by kernel_rfl) (by exact rfl) (by kernel_rfl) hS ?_
          try simp only [Act.put, List.getElem_toArray, List.getElem_cons_zero, List.getElem_cons_succ, List.setIfInBounds_toArray, List.set_cons_zero, List.set_cons_succ]
          (refine Am.wpAnyM_take (i := 59) (v := undef) rfl (by kernel_rfl) (by kernel_rfl) (by kernel_rfl) (by kernel_rfl) (by kernel_rfl) (fun _ _ _ h => h) (Or.inr ⟨by kernel_rfl, rfl⟩) hS ?_; try simp only [Act.put, List.getElem_toArray, List.getElem_cons_zero, List.getElem_cons_succ, List.setIfInBounds_toArray, List.set_cons_zero, List.set_cons_succ])
          (refine Am.wpAnyM_take (i := 60) (v := ?_) rfl (by kernel_rfl) (by kernel_rfl) (by kernel_rfl) (by kernel_rfl) (by kernel_rfl) (fun _ _ _ h => h) (Or.inl ⟨by kernel_rfl, ?_⟩) hS ?_; rotate_left 1; (focus (intro w' hSw; (try dsimp only at hSw); go_simp; try (with_reducible rfl))); try simp only [Act.put, List.getElem_toArray, List.getElem_cons_zero, List.getElem_cons_succ, List.setIfInBounds_toArray, List.set_cons_zero, List.set_cons_succ])
          (refine Am.wpAnyM_take (i := 61) (v := ?_) rfl (by kernel_rfl) (by kernel_rfl) (by kernel_rfl) (by kernel_rfl) (by kernel_rfl) (fun _ _ _ h => h) (Or.inl ⟨by kernel_rfl, ?_⟩) hS ?_; rotate_left 1; (focus (intro w' hSw; (try dsimp only at hSw); go_simp; try (with_reducible rfl))); try simp only [Act.put, List.getElem_toArray, List.getElem_cons_zero, List.getElem_cons_succ, List.setIfInBounds_toArray, List.set_cons_zero, List.set_cons_succ])
          (refine Am.wpAnyM_take (i := 62) (v := ?_) rfl (by kernel_rfl) (by kernel_rfl) (by kernel_rfl) (by kernel_rfl) (by kernel_rfl) (fun _ _ _ h => h) (Or.inl ⟨by kernel_rfl, ?_⟩) hS ?_; rotate_left 1; (focus (intro w' hSw; (try dsimp only at hSw); go_simp; try (with_reducible rfl))); try simp only [Act.put, List.getElem_toArray, List.getElem_cons_zero, List.getElem_cons_succ, List.setIfInBounds_toArray, List.set_cons_zero, List.set_cons_succ])
          refine wpAnyM_only (i := 63) (by kernel_rfl) (by exact rfl) (by kernel_rfl) ?_
          intro K hK
          go_simp
          refine (sane_any _).mono ?_
          rintro e v63 ⟨rfl, hb⟩
          replace B1 := Bk.old B1 hb
          replace B2 := Bk.old B2 hb
          replace B3 := Bk.old B3 hb
          replace B4 := Bk.old B4 hb
          replace hc := bl_trans hc hb
          clear hb h1 h2 h3 h4
          have h1 := B1.lt
          have h2 := B2.lt
          have h3 := B3.lt
          have h4 := B4.lt
          go_simp
          refine hK.out _ _ (c16 B1 B2 B3 B4) (fun hS => ?_)
          clear hK K
          try simp only [Act.put, List.getElem_toArray, List.getElem_cons_zero, List.getElem_cons_succ, List.setIfInBounds_toArray, List.set_cons_zero, List.set_cons_succ]
          (refine Am.wpAnyM_take (i := 64) (v := ?_) rfl (by kernel_rfl) (by kernel_rfl) (by kernel_rfl) (by kernel_rfl) (by kernel_rfl) (fun _ _ _ h => h) (Or.inl ⟨by kernel_rfl, ?_⟩) hS ?_; rotate_left 1; (focus (intro w' hSw; (try dsimp only at hSw); go_simp; try (with_reducible rfl))); try simp only [Act.put, List.getElem_toArray, List.getElem_cons_zero, List.getElem_cons_succ, List.setIfInBounds_toArray, List.set_cons_zero, List.set_cons_succ])
          (refine Am.wpAnyM_take (i := 65) (v := ?_) rfl (by kernel_rfl) (by kernel_rfl) (by kernel_rfl) (by kernel_rfl) (by kernel_rfl) (fun _ _ _ h => h) (Or.inl ⟨by kernel_rfl, ?_⟩) hS ?_; rotate_left 1; (focus (intro w' hSw; (try dsimp only at hSw); go_simp; try (with_reducible rfl))); try simp only [Act.put, List.getElem_toArray, List.getElem_cons_zero, List.getElem_cons_succ, List.setIfInBounds_toArray, List.set_cons_zero, List.set_cons_succ])
          refine Am.wpAnyM_done (by kernel_rfl) ?_ _
          go_wp2_with fail
          go_ret
          exact ⟨rfl, hc⟩
        · have t0 : decide ((I : Int) = (K : Int)) = false := decide_eq_false (by omega)
          have t1 : decide (I = K) = false := decide_eq_false (by omega)
          have t2 : ((I : Int) == (K : Int)) = false := by rw [beq_eq_false_iff_ne]; omega
          have t3 : (I == K) = false := by rw [beq_eq_false_iff_ne]; omega
          replace C5 := Lib.hid (C5.out hIK)
          (refine Am.wpAnyM_take (i := 47) (v := ?_) rfl (by kernel_rfl) (by kernel_rfl) (by kernel_rfl) (by kernel_rfl) (by kernel_rfl) (fun _ _ _ h => h) (Or.inl ⟨by kernel_rfl, ?_⟩) hS ?_; rotate_left 1; (focus (intro w' hSw; (try dsimp only at hSw); go_simp; try (with_reducible rfl))); try simp only [Act.put, List.getElem_toArray, List.getElem_cons_zero, List.getElem_cons_succ, List.setIfInBounds_toArray, List.set_cons_zero, List.set_cons_succ])
          (refine Am.wpAnyM_take (i := 48) (v := ?_) rfl (by kernel_rfl) (by kernel_rfl) (by kernel_rfl) (by kernel_rfl) (by kernel_rfl) (fun _ _ _ h => h) (Or.inl ⟨by kernel_rfl, ?_⟩) hS ?_; rotate_left 1; (focus (intro w' hSw; (try dsimp only at hSw); go_simp; try (with_reducible rfl))); try simp only [Act.put, List.getElem_toArray, List.getElem_cons_zero, List.getElem_cons_succ, List.setIfInBounds_toArray, List.set_cons_zero, List.set_cons_succ])
          (refine Am.wpAnyM_take (i := 49) (v := ?_) rfl (by kernel_rfl) (by kernel_rfl) (by kernel_rfl) (by kernel_rfl) (by kernel_rfl) (fun _ _ _ h => h) (Or.inl ⟨by kernel_rfl, ?_⟩) hS ?_; rotate_left 1; (focus (intro w' hSw; (try dsimp only at hSw); go_simp; try (with_reducible rfl))); try simp only [Act.put, List.getElem_toArray, List.getElem_cons_zero, List.getElem_cons_succ, List.setIfInBounds_toArray, List.set_cons_zero, List.set_cons_succ])
          (refine Am.wpAnyM_take (i := 50) (v := ?_) rfl (by kernel_rfl) (by kernel_rfl) (by kernel_rfl) (by kernel_rfl) (by kernel_rfl) (fun _ _ _ h => h) (Or.inl ⟨by kernel_rfl, ?_⟩) hS ?_; rotate_left 1; (focus (intro w' hSw; (try dsimp only at hSw); go_simp; try (with_reducible rfl))); try simp only [Act.put, List.getElem_toArray, List.getElem_cons_zero, List.getElem_cons_succ, List.setIfInBounds_toArray, List.set_cons_zero, List.set_cons_succ])
          (refine Am.wpAnyM_take (i := 51) (v := ?_) rfl (by kernel_rfl) (by kernel_rfl) (by kernel_rfl) (by kernel_rfl) (by kernel_rfl) (fun _ _ _ h => h) (Or.inl ⟨by kernel_rfl, ?_⟩) hS ?_; rotate_left 1; (focus (intro w' hSw; (try dsimp only at hSw); go_simp; try (with_reducible rfl))); try simp only [Act.put, List.getElem_toArray, List.getElem_cons_zero, List.getElem_cons_succ, List.setIfInBounds_toArray, List.set_cons_zero, List.set_cons_succ])
          (refine Am.wpAnyM_take (i := 52) (v := ?_) rfl (by kernel_rfl) (by kernel_rfl) (by kernel_rfl) (by kernel_rfl) (by kernel_rfl) (fun _ _ _ h => h) (Or.inl ⟨by kernel_rfl, ?_⟩) hS ?_; rotate_left 1; (focus (intro w' hSw; (try dsimp only at hSw); go_simp; try (with_reducible rfl))); try simp only [Act.put, List.getElem_toArray, List.getElem_cons_zero, List.getElem_cons_succ, List.setIfInBounds_toArray, List.set_cons_zero, List.set_cons_succ])
          try simp only [t0, t1, t2, t3]
          (refine Am.wpAnyM_take (i := 53) (v := ?_) rfl (by kernel_rfl) (by kernel_rfl) (by kernel_rfl) (by kernel_rfl) (by kernel_rfl) (fun _ _ _ h => h) (Or.inl ⟨by kernel_rfl, ?_⟩) hS ?_; rotate_left 1; (focus (intro w' hSw; (try dsimp only at hSw); go_simp; try (with_reducible rfl))); try simp only [Act.put, List.getElem_toArray, List.getElem_cons_zero, List.getElem_cons_succ, List.setIfInBounds_toArray, List.set_cons_zero, List.set_cons_succ])
          (refine Am.wpAnyM_take (i := 54) (v := ?_) rfl (by kernel_rfl) (by kernel_rfl) (by kernel_rfl) (by kernel_rfl) (by kernel_rfl) (fun _ _ _ h => h) (Or.inl ⟨by kernel_rfl, ?_⟩) hS ?_; rotate_left 1; (focus (intro w' hSw; (try dsimp only at hSw); go_simp; try (with_reducible rfl))); try simp only [Act.put, List.getElem_toArray, List.getElem_cons_zero, List.getElem_cons_succ, List.setIfInBounds_toArray, List.set_cons_zero, List.set_cons_succ])
          (refine Am.wpAnyM_take (i := 55) (v := ?_) rfl (by kernel_rfl) (by kernel_rfl) (by kernel_rfl) (by kernel_rfl) (by kernel_rfl) (fun _ _ _ h => h) (Or.inl ⟨by kernel_rfl, ?_⟩) hS ?_; rotate_left 1; (focus (intro w' hSw; (try dsimp only at hSw); go_simp; try (with_reducible rfl))); try simp only [Act.put, List.getElem_toArray, List.getElem_cons_zero, List.getElem_cons_succ, List.setIfInBounds_toArray, List.set_cons_zero, List.set_cons_succ])
          (refine Am.wpAnyM_take (i := 56) (v := ?_) rfl (by kernel_rfl) (by kernel_rfl) (by kernel_rfl) (by kernel_rfl) (by kernel_rfl) (fun _ _ _ h => h) (Or.inl ⟨by kernel_rfl, ?_⟩) hS ?_; rotate_left 1; (focus (intro w' hSw; (try dsimp only at hSw); go_simp; try (with_reducible rfl))); try simp only [Act.put, List.getElem_toArray, List.getElem_cons_zero, List.getElem_cons_succ, List.setIfInBounds_toArray, List.set_cons_zero, List.set_cons_succ])
          (refine Am.wpAnyM_take (i := 57) (v := ?_) rfl (by kernel_rfl) (by kernel_rfl) (by kernel_rfl) (by kernel_rfl) (by kernel_rfl) (fun _ _ _ h => h) (Or.inl ⟨by kernel_rfl, ?_⟩) hS ?_; rotate_left 1; (focus (intro w' hSw; (try dsimp only at hSw); go_simp; try (with_reducible rfl))); try simp only [Act.put, List.getElem_toArray, List.getElem_cons_zero, List.getElem_cons_succ, List.setIfInBounds_toArray, List.set_cons_zero, List.set_cons_succ])
          refine wpAnyM_only (i := 58) (by kernel_rfl) (by exact rfl) (by kernel_rfl) ?_
          intro K hK
          go_simp
          refine (C5.out _).mono ?_
          rintro e v58 ⟨rfl, hb⟩
          replace B1 := Bk.old B1 hb
          replace B2 := Bk.old B2 hb
          replace B3 := Bk.old B3 hb
          replace B4 := Bk.old B4 hb
          replace hc := bl_trans hc hb
          clear hb h1 h2 h3 h4
          have h1 := B1.lt
          have h2 := B2.lt
          have h3 := B3.lt
          have h4 := B4.lt
          go_simp
          refine hK.out _ _ (c16 B1 B2 B3 B4) (fun hS => ?_)
          clear hK K
          try simp only [Act.put, List.getElem_toArray, List.getElem_cons_zero, List.getElem_cons_succ, List.setIfInBounds_toArray, List.set_cons_zero, List.set_cons_succ]
          (refine Am.wpAnyM_take (i := 59) (v := ?_) rfl (by kernel_rfl) (by kernel_rfl) (by kernel_rfl) (by kernel_rfl) (by kernel_rfl) (fun _ _ _ h => h) (Or.inl ⟨by kernel_rfl, ?_⟩) hS ?_; rotate_left 1; (focus (intro w' hSw; (try dsimp only at hSw); go_simp; try (with_reducible rfl))); try simp only [Act.put, List.getElem_toArray, List.getElem_cons_zero, List.getElem_cons_succ, List.setIfInBounds_toArray, List.set_cons_zero, List.set_cons_succ])
          (refine Am.wpAnyM_take (i := 60) (v := ?_) rfl (by kernel_rfl) (by kernel_rfl) (by kernel_rfl) (by kernel_rfl) (by kernel_rfl) (fun _ _ _ h => h) (Or.inl ⟨by kernel_rfl, ?_⟩) hS ?_; rotate_left 1; (focus (intro w' hSw; (try dsimp only at hSw); go_simp; try (with_reducible rfl))); try simp only [Act.put, List.getElem_toArray, List.getElem_cons_zero, List.getElem_cons_succ, List.setIfInBounds_toArray, List.set_cons_zero, List.set_cons_succ])
          (refine Am.wpAnyM_take (i := 61) (v := ?_) rfl (by kernel_rfl) (by kernel_rfl) (by kernel_rfl) (by kernel_rfl) (by kernel_rfl) (fun _ _ _ h => h) (Or.inl ⟨by kernel_rfl, ?_⟩) hS ?_; rotate_left 1; (focus (intro w' hSw; (try dsimp only at hSw); go_simp; try (with_reducible rfl))); try simp only [Act.put, List.getElem_toArray, List.getElem_cons_zero, List.getElem_cons_succ, List.setIfInBounds_toArray, List.set_cons_zero, List.set_cons_succ])
          (refine Am.wpAnyM_take (i := 62) (v := ?_) rfl (by kernel_rfl) (by kernel_rfl) (by kernel_rfl) (by kernel_rfl) (by kernel_rfl) (fun _ _ _ h => h) (Or.inl ⟨by kernel_rfl, ?_⟩) hS ?_; rotate_left 1; (focus (intro w' hSw; (try dsimp only at hSw); go_simp; try (with_reducible rfl))); try simp only [Act.put, List.getElem_toArray, List.getElem_cons_zero, List.getElem_cons_succ, List.setIfInBounds_toArray, List.set_cons_zero, List.set_cons_succ])
          refine wpAnyM_only (i := 63) (by kernel_rfl) (by exact rfl) (by kernel_rfl) ?_
          intro K hK
          go_simp
          refine (sane_any _).mono ?_
          rintro e v63 ⟨rfl, hb⟩
          replace B1 := Bk.old B1 hb
          replace B2 := Bk.old B2 hb
          replace B3 := Bk.old B3 hb
          replace B4 := Bk.old B4 hb
          replace hc := bl_trans hc hb
          clear hb h1 h2 h3 h4
          have h1 := B1.lt
          have h2 := B2.lt
          have h3 := B3.lt
          have h4 := B4.lt
          go_simp
          refine hK.out _ _ (c16 B1 B2 B3 B4) (fun hS => ?_)
          clear hK K
          try simp only [Act.put, List.getElem_toArray, List.getElem_cons_zero, List.getElem_cons_succ, List.setIfInBounds_toArray, List.set_cons_zero, List.set_cons_succ]
          (refine Am.wpAnyM_take (i := 64) (v := ?_) rfl (by kernel_rfl) (by kernel_rfl) (by kernel_rfl) (by kernel_rfl) (by kernel_rfl) (fun _ _ _ h => h) (Or.inl ⟨by kernel_rfl, ?_⟩) hS ?_; rotate_left 1; (focus (intro w' hSw; (try dsimp only at hSw); go_simp; try (with_reducible rfl))); try simp only [Act.put, List.getElem_toArray, List.getElem_cons_zero, List.getElem_cons_succ, List.setIfInBounds_toArray, List.set_cons_zero, List.set_cons_succ])
          (refine Am.wpAnyM_take (i := 65) (v := ?_) rfl (by kernel_rfl) (by kernel_rfl) (by kernel_rfl) (by kernel_rfl) (by kernel_rfl) (fun _ _ _ h => h) (Or.inl ⟨by kernel_rfl, ?_⟩) hS ?_; rotate_left 1; (focus (intro w' hSw; (try dsimp only at hSw); go_simp; try (with_reducible rfl))); try simp only [Act.put, List.getElem_toArray, List.getElem_cons_zero, List.getElem_cons_succ, List.setIfInBounds_toArray, List.set_cons_zero, List.set_cons_succ])
          refine Am.wpAnyM_done (by kernel_rfl) ?_ _
          go_wp2_with fail
          go_ret
          exact ⟨rfl, hc⟩
      · intro K hK
        go_simp
        replace B1 := Bk.alloc B1 (.cells (c4 Y) 34)
        replace B2 := Bk.alloc B2 (.cells (c4 Y) 34)
        replace B3 := Bk.alloc B3 (.cells (c4 Y) 34)
        replace B4 := Bk.alloc B4 (.cells (c4 Y) 34)
        clear h1 h2 h3 h4
        have h1 := B1.lt
        have h2 := B2.lt
        have h3 := B3.lt
        have h4 := B4.lt
        replace hp := hp.alloc (.cells (c4 Y) 34)
        replace hc := bl_alloc hc (.cells (c4 Y) 34)
        refine hK.out _ _ (c16 B1 B2 B3 B4) (fun hS => ?_)
        clear hK K
        try simp only [Act.put, List.getElem_toArray, List.getElem_cons_zero, List.getElem_cons_succ, List.setIfInBounds_toArray, List.set_cons_zero, List.set_cons_succ]
        obtain ⟨pv, pw, hrun, hown, hgp⟩ := app_runD (w := (v33.alloc (.cells (c4 Y) 34))) (base := v33.heap.size) (v := .slice none 0 0) (xs := []) (l := p) (c := d) (World.ownsRow_nil _ _ _ _) hp (by simp; omega) (by simp)
        rw [List.nil_append] at hown
        have hbp : Below ((v33.alloc (.cells (c4 Y) 34))).heap.size (v33.alloc (.cells (c4 Y) 34)) pw := ⟨hgp.os, hgp.tape, hgp.output, hgp.size, fun i hi => hgp.block i (Nat.lt_of_lt_of_le hi (Nat.le_refl _)) (by simp [Value.ownBlock])⟩
        refine wpAnyM_only (i := 42) (by kernel_rfl) (by exact rfl) (by kernel_rfl) ?_
        intro K hK
        refine wp_append_run (.const (.slice none 0 0)) (.tmp 98) 27 rfl (.slice none 0 0) (.slice D p.length d) rfl rfl pv pw (by exact hrun) ?_
        replace B1 := Bk.old B1 hbp
        replace B2 := Bk.old B2 hbp
        replace B3 := Bk.old B3 hbp
        replace B4 := Bk.old B4 hbp
        clear h1 h2 h3 h4
        have h1 := B1.lt
        have h2 := B2.lt
        have h3 := B3.lt
        have h4 := B4.lt
        replace hp := hp.old hbp
        replace hc := bl_trans hc hbp
        refine hK.out _ _ (c16 B1 B2 B3 B4) (fun hS => ?_)
        clear hK K
        try simp only [Act.put, List.getElem_toArray, List.getElem_cons_zero, List.getElem_cons_succ, List.setIfInBounds_toArray, List.set_cons_zero, List.set_cons_succ]
        have BS : Bk pw v33.heap.size 34 (c4 Y) := Bk.old (Mw.Bk.new v33 34 (c4 Y)) hbp
        have hsz : v33.heap.size ≤ pw.heap.size := by have := hgp.size; simp at this; omega
        clear hgp hrun hbp
        generalize pw = W at *
        obtain ⟨g, hg⟩ : ∃ g, g = v33.heap.size := ⟨_, rfl⟩
        rw [← hg] at BS
        rw [← hg]
        have hgW : v33.heap.size ≤ W.heap.size := hsz
        obtain ⟨qv, qw, hrun2, hown2, hgq⟩ := app_runD (w := W) (base := v33.heap.size) (v := pv) (xs := p) (l := [Y]) (A := some ⟨g, 0, none⟩) (c := 1) hown (RdD.bk BS rfl) (by simp; omega) hgW
        refine wpAnyM_only (i := 45) (by kernel_rfl) (by exact rfl) (by kernel_rfl) ?_
        intro K hK
        refine wp_append_run (.tmp 99) (.tmp 101) 27 rfl pv (.slice (some ⟨g, 0, none⟩) 1 1) rfl rfl qv qw (by exact hrun2) ?_
        replace B1 := B1.grown hgq (fun e => by have := (hown.lt _ e.symm).1; omega)
        replace B2 := B2.grown hgq (fun e => by have := (hown.lt _ e.symm).1; omega)
        replace B3 := B3.grown hgq (fun e => by have := (hown.lt _ e.symm).1; omega)
        replace B4 := B4.grown hgq (fun e => by have := (hown.lt _ e.symm).1; omega)
        replace hc := hc.grown hgq (Nat.le_trans hwv hgW) (fun q e => by have := (hown.lt q e).1; omega)
        obtain ⟨QA, qc, rfl, hq1, hq2, hqr, -⟩ := own_digs hown2
        clear h1 h2 h3 h4
        have h1 := B1.lt
        have h2 := B2.lt
        have h3 := B3.lt
        have h4 := B4.lt
        refine hK.out _ _ (c16 B1 B2 B3 B4) (fun hS => ?_)
        clear hK K
        try simp only [Act.put, List.getElem_toArray, List.getElem_cons_zero, List.getElem_cons_succ, List.setIfInBounds_toArray, List.set_cons_zero, List.set_cons_succ]
        clear hown hgq hrun2 BS hp
        rw [show (p ++ [Y]).length = p.length + 1 by simp]
        refine wpAnyM_only (i := 46) (by kernel_rfl) (by exact rfl) (by kernel_rfl) ?_
        intro K hK
        go_simp
        refine (C4.out _ QA qc (hqr) (by simpa using hq1) hq2).mono ?_
        rintro e v46 ⟨rfl, hb⟩
        replace B1 := Bk.old B1 hb
        replace B2 := Bk.old B2 hb
        replace B3 := Bk.old B3 hb
        replace B4 := Bk.old B4 hb
        replace hc := bl_trans hc hb
        clear hb h1 h2 h3 h4
        have h1 := B1.lt
        have h2 := B2.lt
        have h3 := B3.lt
        have h4 := B4.lt
        go_simp
        refine hK.out _ _ (c16 B1 B2 B3 B4) (fun hS => ?_)
        clear hK K
        try simp only [Act.put, List.getElem_toArray, List.getElem_cons_zero, List.getElem_cons_succ, List.setIfInBounds_toArray, List.set_cons_zero, List.set_cons_succ]
        by_cases hIK : I = K
        · have t0 : decide ((I : Int) = (K : Int)) = true := decide_eq_true (by omega)
          have t1 : decide (I = K) = true := decide_eq_true (by omega)
          have t2 : ((I : Int) == (K : Int)) = true := by rw [beq_iff_eq]; omega
          have t3 : (I == K) = true := by rw [beq_iff_eq]; omega
          (refine Am.wpAnyM_take (i := 47) (v := ?_) rfl (by kernel_rfl) (by kernel_rfl) (by kernel_rfl) (by kernel_rfl) (by kernel_rfl) (fun _ _ _ h => h) (Or.inl ⟨by kernel_rfl, ?_⟩) hS ?_; rotate_left 1; (focus (intro w' hSw; (try dsimp only at hSw); go_simp; try (with_reducible rfl))); try simp only [Act.put, List.getElem_toArray, List.getElem_cons_zero, List.getElem_cons_succ, List.setIfInBounds_toArray, List.set_cons_zero, List.set_cons_succ])
          (refine Am.wpAnyM_take (i := 48) (v := ?_) rfl (by kernel_rfl) (by kernel_rfl) (by kernel_rfl) (by kernel_rfl) (by kernel_rfl) (fun _ _ _ h => h) (Or.inl ⟨by kernel_rfl, ?_⟩) hS ?_; rotate_left 1; (focus (intro w' hSw; (try dsimp only at hSw); go_simp; try (with_reducible rfl))); try simp only [Act.put, List.getElem_toArray, List.getElem_cons_zero, List.getElem_cons_succ, List.setIfInBounds_toArray, List.set_cons_zero, List.set_cons_succ])
          (refine Am.wpAnyM_take (i := 49) (v := ?_) rfl (by kernel_rfl) (by kernel_rfl) (by kernel_rfl) (by kernel_rfl) (by kernel_rfl) (fun _ _ _ h => h) (Or.inl ⟨by kernel_rfl, ?_⟩) hS ?_; rotate_left 1; (focus (intro w' hSw; (try dsimp only at hSw); go_simp; try (with_reducible rfl))); try simp only [Act.put, List.getElem_toArray, List.getElem_cons_zero, List.getElem_cons_succ, List.setIfInBounds_toArray, List.set_cons_zero, List.set_cons_succ])
          (refine Am.wpAnyM_take (i := 50) (v := ?_) rfl (by kernel_rfl) (by kernel_rfl) (by kernel_rfl) (by kernel_rfl) (by kernel_rfl) (fun _ _ _ h => h) (Or.inl ⟨by kernel_rfl, ?_⟩) hS ?_; rotate_left 1; (focus (intro w' hSw; (try dsimp only at hSw); go_simp; try (with_reducible rfl))); try simp only [Act.put, List.getElem_toArray, List.getElem_cons_zero, List.getElem_cons_succ, List.setIfInBounds_toArray, List.set_cons_zero, List.set_cons_succ])
          (refine Am.wpAnyM_take (i := 51) (v := ?_) rfl (by kernel_rfl) (by kernel_rfl) (by kernel_rfl) (by kernel_rfl) (by kernel_rfl) (fun _ _ _ h => h) (Or.inl ⟨by kernel_rfl, ?_⟩) hS ?_; rotate_left 1; (focus (intro w' hSw; (try dsimp only at hSw); go_simp; try (with_reducible rfl))); try simp only [Act.put, List.getElem_toArray, List.getElem_cons_zero, List.getElem_cons_succ, List.setIfInBounds_toArray, List.set_cons_zero, List.set_cons_succ])
          (refine Am.wpAnyM_take (i := 52) (v := ?_) rfl (by kernel_rfl) (by kernel_rfl) (by kernel_rfl) (by kernel_rfl) (by kernel_rfl) (fun _ _ _ h => h) (Or.inl ⟨by kernel_rfl, ?_⟩) hS ?_; rotate_left 1; (focus (intro w' hSw; (try dsimp only at hSw); go_simp; try (with_reducible rfl))); try simp only [Act.put, List.getElem_toArray, List.getElem_cons_zero, List.getElem_cons_succ, List.setIfInBounds_toArray, List.set_cons_zero, List.set_cons_succ])
          try simp only [t0, t1, t2, t3]
          (refine Am.wpAnyM_take (i := 53) (v := ?_) rfl (by kernel_rfl) (by kernel_rfl) (by kernel_rfl) (by kernel_rfl) (by kernel_rfl) (fun _ _ _ h => h) (Or.inl ⟨by kernel_rfl, ?_⟩) hS ?_; rotate_left 1; (focus (intro w' hSw; (try dsimp only at hSw); go_simp; try (with_reducible rfl))); try simp only [Act.put, List.getElem_toArray, List.getElem_cons_zero, List.getElem_cons_succ, List.setIfInBounds_toArray, List.set_cons_zero, List.set_cons_succ])
          (refine Am.wpAnyM_take (i := 54) (v := undef) rfl (by kernel_rfl) (by kernel_rfl) (by kernel_rfl) (by kernel_rfl) (by kernel_rfl) (fun _ _ _ h => h) (Or.inr ⟨by kernel_rfl, rfl⟩) hS ?_; try simp only [Act.put, List.getElem_toArray, List.getElem_cons_zero, List.getElem_cons_succ, List.setIfInBounds_toArray, List.set_cons_zero, List.set_cons_succ])
          (refine Am.wpAnyM_take (i := 55) (v := undef) rfl (by kernel_rfl) (by kernel_rfl) (by kernel_rfl) (by kernel_rfl) (by kernel_rfl) (fun _ _ _ h => h) (Or.inr ⟨by kernel_rfl, rfl⟩) hS ?_; try simp only [Act.put, List.getElem_toArray, List.getElem_cons_zero, List.getElem_cons_succ, List.setIfInBounds_toArray, List.set_cons_zero, List.set_cons_succ])
          (refine Am.wpAnyM_take (i := 56) (v := undef) rfl (by kernel_rfl) (by kernel_rfl) (by kernel_rfl) (by kernel_rfl) (by kernel_rfl) (fun _ _ _ h => h) (Or.inr ⟨by kernel_rfl, rfl⟩) hS ?_; try simp only [Act.put, List.getElem_toArray, List.getElem_cons_zero, List.getElem_cons_succ, List.setIfInBounds_toArray, List.set_cons_zero, List.set_cons_succ])
          (refine Am.wpAnyM_take (i := 57) (v := undef) rfl (by kernel_rfl) (by kernel_rfl) (by kernel_rfl) (by kernel_rfl) (by kernel_rfl) (fun _ _ _ h => h) (Or.inr ⟨by kernel_rfl, rfl⟩) hS ?_; try simp only [Act.put, List.getElem_toArray, List.getElem_cons_zero, List.getElem_cons_succ, List.setIfInBounds_toArray, List.set_cons_zero, List.set_cons_succ])
          refine wpAnyM_skip (i := 58) (by kernel_rfl) (by exact rfl) (by kernel_rfl) hS ?_
          try simp only [Act.put, List.getElem_toArray, List.getElem_cons_zero, List.getElem_cons_succ, List.setIfInBounds_toArray, List.set_cons_zero, List.set_cons_succ]
          (refine Am.wpAnyM_take (i := 59) (v := undef) rfl (by kernel_rfl) (by kernel_rfl) (by kernel_rfl) (by kernel_rfl) (by kernel_rfl) (fun _ _ _ h => h) (Or.inr ⟨by kernel_rfl, rfl⟩) hS ?_; try simp only [Act.put, List.getElem_toArray, List.getElem_cons_zero, List.getElem_cons_succ, List.setIfInBounds_toArray, List.set_cons_zero, List.set_cons_succ])
          (refine Am.wpAnyM_take (i := 60) (v := ?_) rfl (by kernel_rfl) (by kernel_rfl) (by kernel_rfl) (by kernel_rfl) (by kernel_rfl) (fun _ _ _ h => h) (Or.inl ⟨by kernel_rfl, ?_⟩) hS ?_; rotate_left 1; (focus (intro w' hSw; (try dsimp only at hSw); go_simp; try (with_reducible rfl))); try simp only [Act.put, List.getElem_toArray, List.getElem_cons_zero, List.getElem_cons_succ, List.setIfInBounds_toArray, List.set_cons_zero, List.set_cons_succ])
          (refine Am.wpAnyM_take (i := 61) (v := ?_) rfl (by kernel_rfl) (by kernel_rfl) (by kernel_rfl) (by kernel_rfl) (by kernel_rfl) (fun _ _ _ h => h) (Or.inl ⟨by kernel_rfl, ?_⟩) hS ?_; rotate_left 1; (focus (intro w' hSw; (try dsimp only at hSw); go_simp; try (with_reducible rfl))); try simp only [Act.put, List.getElem_toArray, List.getElem_cons_zero, List.getElem_cons_succ, List.setIfInBounds_toArray, List.set_cons_zero, List.set_cons_succ])
          (refine Am.wpAnyM_take (i := 62) (v := ?_) rfl (by kernel_rfl) (by kernel_rfl) (by kernel_rfl) (by kernel_rfl) (by kernel_rfl) (fun _ _ _ h => h) (Or.inl ⟨by kernel_rfl, ?_⟩) hS ?_; rotate_left 1; (focus (intro w' hSw; (try dsimp only at hSw); go_simp; try (with_reducible rfl))); try simp only [Act.put, List.getElem_toArray, List.getElem_cons_zero, List.getElem_cons_succ, List.setIfInBounds_toArray, List.set_cons_zero, List.set_cons_succ])
          refine wpAnyM_only (i := 63) (by kernel_rfl) (by exact rfl) (by kernel_rfl) ?_
          intro K hK
          go_simp
          refine (sane_any _).mono ?_
          rintro e v63 ⟨rfl, hb⟩
          replace B1 := Bk.old B1 hb
          replace B2 := Bk.old B2 hb
          replace B3 := Bk.old B3 hb
          replace B4 := Bk.old B4 hb
          replace hc := bl_trans hc hb
          clear hb h1 h2 h3 h4
          have h1 := B1.lt
          have h2 := B2.lt
          have h3 := B3.lt
          have h4 := B4.lt
          go_simp
          refine hK.out _ _ (c16 B1 B2 B3 B4) (fun hS => ?_)
          clear hK K
          try simp only [Act.put, List.getElem_toArray, List.getElem_cons_zero, List.getElem_cons_succ, List.setIfInBounds_toArray, List.set_cons_zero, List.set_cons_succ]
          (refine Am.wpAnyM_take (i := 64) (v := ?_) rfl (by kernel_rfl) (by kernel_rfl) (by kernel_rfl) (by kernel_rfl) (by kernel_rfl) (fun _ _ _ h => h) (Or.inl ⟨by kernel_rfl, ?_⟩) hS ?_; rotate_left 1; (focus (intro w' hSw; (try dsimp only at hSw); go_simp; try (with_reducible rfl))); try simp only [Act.put, List.getElem_toArray, List.getElem_cons_zero, List.getElem_cons_succ, List.setIfInBounds_toArray, List.set_cons_zero, List.set_cons_succ])
          (refine Am.wpAnyM_take (i := 65) (v := ?_) rfl (by kernel_rfl) (by kernel_rfl) (by kernel_rfl) (by kernel_rfl) (by kernel_rfl) (fun _ _ _ h => h) (Or.inl ⟨by kernel_rfl, ?_⟩) hS ?_; rotate_left 1; (focus (intro w' hSw; (try dsimp only at hSw); go_simp; try (with_reducible rfl))); try simp only [Act.put, List.getElem_toArray, List.getElem_cons_zero, List.getElem_cons_succ, List.setIfInBounds_toArray, List.set_cons_zero, List.set_cons_succ])
          refine Am.wpAnyM_done (by kernel_rfl) ?_ _
          go_wp2_with fail
          go_ret
          exact ⟨rfl, hc⟩
        · have t0 : decide ((I : Int) = (K : Int)) = false := decide_eq_false (by omega)
          have t1 : decide (I = K) = false := decide_eq_false (by omega)
          have t2 : ((I : Int) == (K : Int)) = false := by rw [beq_eq_false_iff_ne]; omega
          have t3 : (I == K) = false := by rw [beq_eq_false_iff_ne]; omega
          replace C5 := Lib.hid (C5.out hIK)
          (refine Am.wpAnyM_take (i := 47) (v := ?_) rfl (by kernel_rfl) (by kernel_rfl) (by kernel_rfl) (by kernel_rfl) (by kernel_rfl) (fun _ _ _ h => h) (Or.inl ⟨by kernel_rfl, ?_⟩) hS ?_; rotate_left 1; (focus (intro w' hSw; (try dsimp only at hSw); go_simp; try (with_reducible rfl))); try simp only [Act.put, List.getElem_toArray, List.getElem_cons_zero, List.getElem_cons_succ, List.setIfInBounds_toArray, List.set_cons_zero, List.set_cons_succ])
          (refine Am.wpAnyM_take (i := 48) (v := ?_) rfl (by kernel_rfl) (by kernel_rfl) (by kernel_rfl) (by kernel_rfl) (by kernel_rfl) (fun _ _ _ h => h) (Or.inl ⟨by kernel_rfl, ?_⟩) hS ?_; rotate_left 1; (focus (intro w' hSw; (try dsimp only at hSw); go_simp; try (with_reducible rfl))); try simp only [Act.put, List.getElem_toArray, List.getElem_cons_zero, List.getElem_cons_succ, List.setIfInBounds_toArray, List.set_cons_zero, List.set_cons_succ])
          (refine Am.wpAnyM_take (i := 49) (v := ?_) rfl (by kernel_rfl) (by kernel_rfl) (by kernel_rfl) (by kernel_rfl) (by kernel_rfl) (fun _ _ _ h => h) (Or.inl ⟨by kernel_rfl, ?_⟩) hS ?_; rotate_left 1; (focus (intro w' hSw; (try dsimp only at hSw); go_simp; try (with_reducible rfl))); try simp only [Act.put, List.getElem_toArray, List.getElem_cons_zero, List.getElem_cons_succ, List.setIfInBounds_toArray, List.set_cons_zero, List.set_cons_succ])
          (refine Am.wpAnyM_take (i := 50) (v := ?_) rfl (by kernel_rfl) (by kernel_rfl) (by kernel_rfl) (by kernel_rfl) (by kernel_rfl) (fun _ _ _ h => h) (Or.inl ⟨by kernel_rfl, ?_⟩) hS ?_; rotate_left 1; (focus (intro w' hSw; (try dsimp only at hSw); go_simp; try (with_reducible rfl))); try simp only [Act.put, List.getElem_toArray, List.getElem_cons_zero, List.getElem_cons_succ, List.setIfInBounds_toArray, List.set_cons_zero, List.set_cons_succ])
          (refine Am.wpAnyM_take (i := 51) (v := ?_) rfl (by kernel_rfl) (by kernel_rfl) (by kernel_rfl) (by kernel_rfl) (by kernel_rfl) (fun _ _ _ h => h) (Or.inl ⟨by kernel_rfl, ?_⟩) hS ?_; rotate_left 1; (focus (intro w' hSw; (try dsimp only at hSw); go_simp; try (with_reducible rfl))); try simp only [Act.put, List.getElem_toArray, List.getElem_cons_zero, List.getElem_cons_succ, List.setIfInBounds_toArray, List.set_cons_zero, List.set_cons_succ])
          (refine Am.wpAnyM_take (i := 52) (v := ?_) rfl (by kernel_rfl) (by kernel_rfl) (by kernel_rfl) (by kernel_rfl) (by kernel_rfl) (fun _ _ _ h => h) (Or.inl ⟨by kernel_rfl, ?_⟩) hS ?_; rotate_left 1; (focus (intro w' hSw; (try dsimp only at hSw); go_simp; try (with_reducible rfl))); try simp only [Act.put, List.getElem_toArray, List.getElem_cons_zero, List.getElem_cons_succ, List.setIfInBounds_toArray, List.set_cons_zero, List.set_cons_succ])
          try simp only [t0, t1, t2, t3]
          (refine Am.wpAnyM_take (i := 53) (v := ?_) rfl (by kernel_rfl) (by kernel_rfl) (by kernel_rfl) (by kernel_rfl) (by kernel_rfl) (fun _ _ _ h => h) (Or.inl ⟨by kernel_rfl, ?_⟩) hS ?_; rotate_left 1; (focus (intro w' hSw; (try dsimp only at hSw); go_simp; try (with_reducible rfl))); try simp only [Act.put, List.getElem_toArray, List.getElem_cons_zero, List.getElem_cons_succ, List.setIfInBounds_toArray, List.set_cons_zero, List.set_cons_succ])
          (refine Am.wpAnyM_take (i := 54) (v := ?_) rfl (by kernel_rfl) (by kernel_rfl) (by kernel_rfl) (by kernel_rfl) (by kernel_rfl) (fun _ _ _ h => h) (Or.inl ⟨by kernel_rfl, ?_⟩) hS ?_; rotate_left 1; (focus (intro w' hSw; (try dsimp only at hSw); go_simp; try (with_reducible rfl))); try simp only [Act.put, List.getElem_toArray, List.getElem_cons_zero, List.getElem_cons_succ, List.setIfInBounds_toArray, List.set_cons_zero, List.set_cons_succ])
          (refine Am.wpAnyM_take (i := 55) (v := ?_) rfl (by kernel_rfl) (by kernel_rfl) (by kernel_rfl) (by kernel_rfl) (by kernel_rfl) (fun _ _ _ h => h) (Or.inl ⟨by kernel_rfl, ?_⟩) hS ?_; rotate_left 1; (focus (intro w' hSw; (try dsimp only at hSw); go_simp; try (with_reducible rfl))); try simp only [Act.put, List.getElem_toArray, List.getElem_cons_zero, List.getElem_cons_succ, List.setIfInBounds_toArray, List.set_cons_zero, List.set_cons_succ])
          (refine Am.wpAnyM_take (i := 56) (v := ?_) rfl (by kernel_rfl) (by kernel_rfl) (by kernel_rfl) (by kernel_rfl) (by kernel_rfl) (fun _ _ _ h => h) (Or.inl ⟨by kernel_rfl, ?_⟩) hS ?_; rotate_left 1; (focus (intro w' hSw; (try dsimp only at hSw); go_simp; try (with_reducible rfl))); try simp only [Act.put, List.getElem_toArray, List.getElem_cons_zero, List.getElem_cons_succ, List.setIfInBounds_toArray, List.set_cons_zero, List.set_cons_succ])
          (refine Am.wpAnyM_take (i := 57) (v := ?_) rfl (by kernel_rfl) (by kernel_rfl) (by kernel_rfl) (by kernel_rfl) (by kernel_rfl) (fun _ _ _ h => h) (Or.inl ⟨by kernel_rfl, ?_⟩) hS ?_; rotate_left 1; (focus (intro w' hSw; (try dsimp only at hSw); go_simp; try (with_reducible rfl))); try simp only [Act.put, List.getElem_toArray, List.getElem_cons_zero, List.getElem_cons_succ, List.setIfInBounds_toArray, List.set_cons_zero, List.set_cons_succ])
          refine wpAnyM_only (i := 58) (by kernel_rfl) (by exact rfl) (by kernel_rfl) ?_
          intro K hK
          go_simp
          refine (C5.out _).mono ?_
          rintro e v58 ⟨rfl, hb⟩
          replace B1 := Bk.old B1 hb
          replace B2 := Bk.old B2 hb
          replace B3 := Bk.old B3 hb
          replace B4 := Bk.old B4 hb
          replace hc := bl_trans hc hb
          clear hb h1 h2 h3 h4
          have h1 := B1.lt
          have h2 := B2.lt
          have h3 := B3.lt
          have h4 := B4.lt
          go_simp
          refine hK.out _ _ (c16 B1 B2 B3 B4) (fun hS => ?_)
          clear hK K
          try simp only [Act.put, List.getElem_toArray, List.getElem_cons_zero, List.getElem_cons_succ, List.setIfInBounds_toArray, List.set_cons_zero, List.set_cons_succ]
          (refine Am.wpAnyM_take (i := 59) (v := ?_) rfl (by kernel_rfl) (by kernel_rfl) (by kernel_rfl) (by kernel_rfl) (by kernel_rfl) (fun _ _ _ h => h) (Or.inl ⟨by kernel_rfl, ?_⟩) hS ?_; rotate_left 1; (focus (intro w' hSw; (try dsimp only at hSw); go_simp; try (with_reducible rfl))); try simp only [Act.put, List.getElem_toArray, List.getElem_cons_zero, List.getElem_cons_succ, List.setIfInBounds_toArray, List.set_cons_zero, List.set_cons_succ])
          (refine Am.wpAnyM_take (i := 60) (v := ?_) rfl (by kernel_rfl) (by kernel_rfl) (by kernel_rfl) (by kernel_rfl) (by kernel_rfl) (fun _ _ _ h => h) (Or.inl ⟨by kernel_rfl, ?_⟩) hS ?_; rotate_left 1; (focus (intro w' hSw; (try dsimp only at hSw); go_simp; try (with_reducible rfl))); try simp only [Act.put, List.getElem_toArray, List.getElem_cons_zero, List.getElem_cons_succ, List.setIfInBounds_toArray, List.set_cons_zero, List.set_cons_succ])
          (refine Am.wpAnyM_take (i := 61) (v := ?_) rfl (by kernel_rfl) (by kernel_rfl) (by kernel_rfl) (by kernel_rfl) (by kernel_rfl) (fun _ _ _ h => h) (Or.inl ⟨by kernel_rfl, ?_⟩) hS ?_; rotate_left 1; (focus (intro w' hSw; (try dsimp only at hSw); go_simp; try (with_reducible rfl))); try simp only [Act.put, List.getElem_toArray, List.getElem_cons_zero, List.getElem_cons_succ, List.setIfInBounds_toArray, List.set_cons_zero, List.set_cons_succ])
          (refine Am.wpAnyM_take (i := 62) (v := ?_) rfl (by kernel_rfl) (by kernel_rfl) (by kernel_rfl) (by kernel_rfl) (by kernel_rfl) (fun _ _ _ h => h) (Or.inl ⟨by kernel_rfl, ?_⟩) hS ?_; rotate_left 1; (focus (intro w' hSw; (try dsimp only at hSw); go_simp; try (with_reducible rfl))); try simp only [Act.put, List.getElem_toArray, List.getElem_cons_zero, List.getElem_cons_succ, List.setIfInBounds_toArray, List.set_cons_zero, List.set_cons_succ])
          refine wpAnyM_only (i := 63) (by kernel_rfl) (by exact rfl) (by kernel_rfl) ?_
          intro K hK
          go_simp
          refine (sane_any _).mono ?_
          rintro e v63 ⟨rfl, hb⟩
          replace B1 := Bk.old B1 hb
          replace B2 := Bk.old B2 hb
          replace B3 := Bk.old B3 hb
          replace B4 := Bk.old B4 hb
          replace hc := bl_trans hc hb
          clear hb h1 h2 h3 h4
          have h1 := B1.lt
          have h2 := B2.lt
          have h3 := B3.lt
          have h4 := B4.lt
          go_simp
          refine hK.out _ _ (c16 B1 B2 B3 B4) (fun hS => ?_)
          clear hK K
          try simp only [Act.put, List.getElem_toArray, List.getElem_cons_zero, List.getElem_cons_succ, List.setIfInBounds_toArray, List.set_cons_zero, List.set_cons_succ]
          (refine Am.wpAnyM_take (i := 64) (v := ?_) rfl (by kernel_rfl) (by kernel_rfl) (by kernel_rfl) (by kernel_rfl) (by kernel_rfl) (fun _ _ _ h => h) (Or.inl ⟨by kernel_rfl, ?_⟩) hS ?_; rotate_left 1; (focus (intro w' hSw; (try dsimp only at hSw); go_simp; try (with_reducible rfl))); try simp only [Act.put, List.getElem_toArray, List.getElem_cons_zero, List.getElem_cons_succ, List.setIfInBounds_toArray, List.set_cons_zero, List.set_cons_succ])
          (refine Am.wpAnyM_take (i := 65) (v := ?_) rfl (by kernel_rfl) (by kernel_rfl) (by kernel_rfl) (by kernel_rfl) (by kernel_rfl) (fun _ _ _ h => h) (Or.inl ⟨by kernel_rfl, ?_⟩) hS ?_; rotate_left 1; (focus (intro w' hSw; (try dsimp only at hSw); go_simp; try (with_reducible rfl))); try simp only [Act.put, List.getElem_toArray, List.getElem_cons_zero, List.getElem_cons_succ, List.setIfInBounds_toArray, List.set_cons_zero, List.set_cons_succ])
          refine Am.wpAnyM_done (by kernel_rfl) ?_ _
          go_wp2_with fail
          go_ret
          exact ⟨rfl, hc⟩
    · (refine Am.wpAnyM_take (i := 19) (v := ?_) rfl (by kernel_rfl) (by kernel_rfl) (by kernel_rfl) (by kernel_rfl) (by kernel_rfl) (fun _ _ _ h => h) (Or.inl ⟨by kernel_rfl, ?_⟩) hS ?_; rotate_left 1; (focus (intro w' hSw; (try dsimp only at hSw); go_simp; try (with_reducible rfl))); try simp only [Act.put, List.getElem_toArray, List.getElem_cons_zero, List.getElem_cons_succ, List.setIfInBounds_toArray, List.set_cons_zero, List.set_cons_succ])
      (refine Am.wpAnyM_take (i := 20) (v := ?_) rfl (by kernel_rfl) (by kernel_rfl) (by kernel_rfl) (by kernel_rfl) (by kernel_rfl) (fun _ _ _ h => h) (Or.inl ⟨by kernel_rfl, ?_⟩) hS ?_; rotate_left 1; (focus (intro w' hSw; (try dsimp only at hSw); go_simp; try (with_reducible rfl))); try simp only [Act.put, List.getElem_toArray, List.getElem_cons_zero, List.getElem_cons_succ, List.setIfInBounds_toArray, List.set_cons_zero, List.set_cons_succ])
      (refine Am.wpAnyM_take (i := 21) (v := ?_) rfl (by kernel_rfl) (by kernel_rfl) (by kernel_rfl) (by kernel_rfl) (by kernel_rfl) (fun _ _ _ h => h) (Or.inl ⟨by kernel_rfl, ?_⟩) hS ?_; rotate_left 1; (focus (intro w' hSw; (try dsimp only at hSw); go_simp; try (with_reducible rfl))); try simp only [Act.put, List.getElem_toArray, List.getElem_cons_zero, List.getElem_cons_succ, List.setIfInBounds_toArray, List.set_cons_zero, List.set_cons_succ])
      (refine Am.wpAnyM_take (i := 22) (v := ?_) rfl (by kernel_rfl) (by kernel_rfl) (by kernel_rfl) (by kernel_rfl) (by kernel_rfl) (fun _ _ _ h => h) (Or.inl ⟨by kernel_rfl, ?_⟩) hS ?_; rotate_left 1; (focus (intro w' hSw; (try dsimp only at hSw); go_simp; try (with_reducible rfl))); try simp only [Act.put, List.getElem_toArray, List.getElem_cons_zero, List.getElem_cons_succ, List.setIfInBounds_toArray, List.set_cons_zero, List.set_cons_succ])
      (refine Am.wpAnyM_take (i := 23) (v := ?_) rfl (by kernel_rfl) (by kernel_rfl) (by kernel_rfl) (by kernel_rfl) (by kernel_rfl) (fun _ _ _ h => h) (Or.inl ⟨by kernel_rfl, ?_⟩) hS ?_; rotate_left 1; (focus (intro w' hSw; (try dsimp only at hSw); go_simp; try (with_reducible rfl))); try simp only [Act.put, List.getElem_toArray, List.getElem_cons_zero, List.getElem_cons_succ, List.setIfInBounds_toArray, List.set_cons_zero, List.set_cons_succ])
      refine wpAnyM_only (i := 24) (by kernel_rfl) (by exact rfl) (by kernel_rfl) ?_
      intro K hK
      go_simp
      refine (C2r.out _ hp).mono ?_
      rintro e v24 ⟨rfl, hb⟩
      replace B1 := Bk.old B1 hb
      replace B2 := Bk.old B2 hb
      replace B3 := Bk.old B3 hb
      replace B4 := Bk.old B4 hb
      replace hp := hp.old hb
      replace hc := bl_trans hc hb
      clear hb h1 h2 h3 h4
      have h1 := B1.lt
      have h2 := B2.lt
      have h3 := B3.lt
      have h4 := B4.lt
      go_simp
      refine hK.out _ _ (c16 B1 B2 B3 B4) (fun hS => ?_)
      clear hK K
      try simp only [Act.put, List.getElem_toArray, List.getElem_cons_zero, List.getElem_cons_succ, List.setIfInBounds_toArray, List.set_cons_zero, List.set_cons_succ]
      (refine Am.wpAnyM_take (i := 25) (v := ?_) rfl (by kernel_rfl) (by kernel_rfl) (by kernel_rfl) (by kernel_rfl) (by kernel_rfl) (fun _ _ _ h => h) (Or.inl ⟨by kernel_rfl, ?_⟩) hS ?_; rotate_left 1; (focus (intro w' hSw; (try dsimp only at hSw); go_simp; try (with_reducible rfl))); try simp only [Act.put, List.getElem_toArray, List.getElem_cons_zero, List.getElem_cons_succ, List.setIfInBounds_toArray, List.set_cons_zero, List.set_cons_succ])
      (refine Am.wpAnyM_take (i := 26) (v := ?_) rfl (by kernel_rfl) (by kernel_rfl) (by kernel_rfl) (by kernel_rfl) (by kernel_rfl) (fun _ _ _ h => h) (Or.inl ⟨by kernel_rfl, ?_⟩) hS ?_; rotate_left 1; (focus (intro w' hSw; (try dsimp only at hSw); go_simp; try (with_reducible rfl))); try simp only [Act.put, List.getElem_toArray, List.getElem_cons_zero, List.getElem_cons_succ, List.setIfInBounds_toArray, List.set_cons_zero, List.set_cons_succ])
      (refine Am.wpAnyM_take (i := 27) (v := ?_) rfl (by kernel_rfl) (by kernel_rfl) (by kernel_rfl) (by kernel_rfl) (by kernel_rfl) (fun _ _ _ h => h) (Or.inl ⟨by kernel_rfl, ?_⟩) hS ?_; rotate_left 1; (focus (intro w' hSw; (try dsimp only at hSw); go_simp; try (with_reducible rfl))); try simp only [Act.put, List.getElem_toArray, List.getElem_cons_zero, List.getElem_cons_succ, List.setIfInBounds_toArray, List.set_cons_zero, List.set_cons_succ])
      (refine Am.wpAnyM_take (i := 28) (v := ?_) rfl (by kernel_rfl) (by kernel_rfl) (by kernel_rfl) (by kernel_rfl) (by kernel_rfl) (fun _ _ _ h => h) (Or.inl ⟨by kernel_rfl, ?_⟩) hS ?_; rotate_left 1; (focus (intro w' hSw; (try dsimp only at hSw); go_simp; try (with_reducible rfl))); try simp only [Act.put, List.getElem_toArray, List.getElem_cons_zero, List.getElem_cons_succ, List.setIfInBounds_toArray, List.set_cons_zero, List.set_cons_succ])
      (refine Am.wpAnyM_take (i := 29) (v := ?_) rfl (by kernel_rfl) (by kernel_rfl) (by kernel_rfl) (by kernel_rfl) (by kernel_rfl) (fun _ _ _ h => h) (Or.inl ⟨by kernel_rfl, ?_⟩) hS ?_; rotate_left 1; (focus (intro w' hSw; (try dsimp only at hSw); go_simp; try (with_reducible rfl))); try simp only [Act.put, List.getElem_toArray, List.getElem_cons_zero, List.getElem_cons_succ, List.setIfInBounds_toArray, List.set_cons_zero, List.set_cons_succ])
      (refine Am.wpAnyM_take (i := 30) (v := ?_) rfl (by kernel_rfl) (by kernel_rfl) (by kernel_rfl) (by kernel_rfl) (by kernel_rfl) (fun _ _ _ h => h) (Or.inl ⟨by kernel_rfl, ?_⟩) hS ?_; rotate_left 1; (focus (intro w' hSw; (try dsimp only at hSw); go_simp; try (with_reducible rfl))); try simp only [Act.put, List.getElem_toArray, List.getElem_cons_zero, List.getElem_cons_succ, List.setIfInBounds_toArray, List.set_cons_zero, List.set_cons_succ])
      (refine Am.wpAnyM_take (i := 31) (v := ?_) rfl (by kernel_rfl) (by kernel_rfl) (by kernel_rfl) (by kernel_rfl) (by kernel_rfl) (fun _ _ _ h => h) (Or.inl ⟨by kernel_rfl, ?_⟩) hS ?_; rotate_left 1; (focus (intro w' hSw; (try dsimp only at hSw); go_simp; try (with_reducible rfl))); try simp only [Act.put, List.getElem_toArray, List.getElem_cons_zero, List.getElem_cons_succ, List.setIfInBounds_toArray, List.set_cons_zero, List.set_cons_succ])
      (refine Am.wpAnyM_take (i := 32) (v := ?_) rfl (by kernel_rfl) (by kernel_rfl) (by kernel_rfl) (by kernel_rfl) (by kernel_rfl) (fun _ _ _ h => h) (Or.inl ⟨by kernel_rfl, ?_⟩) hS ?_; rotate_left 1; (focus (intro w' hSw; (try dsimp only at hSw); go_simp; try (with_reducible rfl))); try simp only [Act.put, List.getElem_toArray, List.getElem_cons_zero, List.getElem_cons_succ, List.setIfInBounds_toArray, List.set_cons_zero, List.set_cons_succ])
      refine wpAnyM_only (i := 33) (by kernel_rfl) (by exact rfl) (by kernel_rfl) ?_
      intro K hK
      go_simp
      refine (C3.out _ hp).mono ?_
      rintro e v33 ⟨rfl, hb⟩
      replace B1 := Bk.old B1 hb
      replace B2 := Bk.old B2 hb
      replace B3 := Bk.old B3 hb
      replace B4 := Bk.old B4 hb
      replace hp := hp.old hb
      replace hc := bl_trans hc hb
      clear hb h1 h2 h3 h4
      have h1 := B1.lt
      have h2 := B2.lt
      have h3 := B3.lt
      have h4 := B4.lt
      go_simp
      refine hK.out _ _ (c16 B1 B2 B3 B4) (fun hS => ?_)
      clear hK K
      try simp only [Act.put, List.getElem_toArray, List.getElem_cons_zero, List.getElem_cons_succ, List.setIfInBounds_toArray, List.set_cons_zero, List.set_cons_succ]
      (refine Am.wpAnyM_take (i := 34) (v := ?_) rfl (by kernel_rfl) (by kernel_rfl) (by kernel_rfl) (by kernel_rfl) (by kernel_rfl) (fun _ _ _ h => h) (Or.inl ⟨by kernel_rfl, ?_⟩) hS ?_; rotate_left 1; (focus (intro w' hSw; (try dsimp only at hSw); go_simp; try (with_reducible rfl))); try simp only [Act.put, List.getElem_toArray, List.getElem_cons_zero, List.getElem_cons_succ, List.setIfInBounds_toArray, List.set_cons_zero, List.set_cons_succ])
      (refine Am.wpAnyM_take (i := 35) (v := ?_) rfl (by kernel_rfl) (by kernel_rfl) (by kernel_rfl) (by kernel_rfl) (by kernel_rfl) (fun _ _ _ h => h) (Or.inl ⟨by kernel_rfl, ?_⟩) hS ?_; rotate_left 1; (focus (intro w' hSw; (try dsimp only at hSw); go_simp; try (with_reducible rfl))); try simp only [Act.put, List.getElem_toArray, List.getElem_cons_zero, List.getElem_cons_succ, List.setIfInBounds_toArray, List.set_cons_zero, List.set_cons_succ])
      (refine Am.wpAnyM_take (i := 36) (v := ?_) rfl (by kernel_rfl) (by kernel_rfl) (by kernel_rfl) (by kernel_rfl) (by kernel_rfl) (fun _ _ _ h => h) (Or.inl ⟨by kernel_rfl, ?_⟩) hS ?_; rotate_left 1; (focus (intro w' hSw; (try dsimp only at hSw); go_simp; try (with_reducible rfl))); try simp only [Act.put, List.getElem_toArray, List.getElem_cons_zero, List.getElem_cons_succ, List.setIfInBounds_toArray, List.set_cons_zero, List.set_cons_succ])
      (refine Am.wpAnyM_take (i := 37) (v := ?_) rfl (by kernel_rfl) (by kernel_rfl) (by kernel_rfl) (by kernel_rfl) (by kernel_rfl) (fun _ _ _ h => h) (Or.inl ⟨by kernel_rfl, ?_⟩) hS ?_; rotate_left 1; (focus (intro w' hSw; (try dsimp only at hSw); go_simp; try (with_reducible rfl))); try simp only [Act.put, List.getElem_toArray, List.getElem_cons_zero, List.getElem_cons_succ, List.setIfInBounds_toArray, List.set_cons_zero, List.set_cons_succ])
      (refine Am.wpAnyM_take (i := 38) (v := ?_) rfl (by kernel_rfl) (by kernel_rfl) (by kernel_rfl) (by kernel_rfl) (by kernel_rfl) (fun _ _ _ h => h) (Or.inl ⟨by kernel_rfl, ?_⟩) hS ?_; rotate_left 1; (focus (intro w' hSw; (try dsimp only at hSw); go_simp; try (with_reducible rfl))); try simp only [Act.put, List.getElem_toArray, List.getElem_cons_zero, List.getElem_cons_succ, List.setIfInBounds_toArray, List.set_cons_zero, List.set_cons_succ])
      (refine Am.wpAnyM_take (i := 39) (v := ?_) rfl (by kernel_rfl) (by kernel_rfl) (by kernel_rfl) (by kernel_rfl) (by kernel_rfl) (fun _ _ _ h => h) (Or.inl ⟨by kernel_rfl, ?_⟩) hS ?_; rotate_left 1; (focus (intro w' hSw; (try dsimp only at hSw); go_simp; try (with_reducible rfl))); try simp only [Act.put, List.getElem_toArray, List.getElem_cons_zero, List.getElem_cons_succ, List.setIfInBounds_toArray, List.set_cons_zero, List.set_cons_succ])
      (refine Am.wpAnyM_take (i := 40) (v := ?_) rfl (by kernel_rfl) (by kernel_rfl) (by kernel_rfl) (by kernel_rfl) (by kernel_rfl) (fun _ _ _ h => h) (Or.inl ⟨by kernel_rfl, ?_⟩) hS ?_; rotate_left 1; (focus (intro w' hSw; (try dsimp only at hSw); go_simp; try (with_reducible rfl))); try simp only [Act.put, List.getElem_toArray, List.getElem_cons_zero, List.getElem_cons_succ, List.setIfInBounds_toArray, List.set_cons_zero, List.set_cons_succ])
      (refine Am.wpAnyM_take (i := 41) (v := ?_) rfl (by kernel_rfl) (by kernel_rfl) (by kernel_rfl) (by kernel_rfl) (by kernel_rfl) (fun _ _ _ h => h) (Or.inl ⟨by kernel_rfl, ?_⟩) hS ?_; rotate_left 1; (focus (intro w' hSw; (try dsimp only at hSw); go_simp; try (with_reducible rfl))); try simp only [Act.put, List.getElem_toArray, List.getElem_cons_zero, List.getElem_cons_succ, List.setIfInBounds_toArray, List.set_cons_zero, List.set_cons_succ])
      (refine Am.wpAnyM_take (i := 43) (v := ?_) rfl (by kernel_rfl) (by kernel_rfl) (by kernel_rfl) (by kernel_rfl) (by kernel_rfl) (fun _ _ _ h => h) (Or.inl ⟨by kernel_rfl, ?_⟩) hS ?_; rotate_left 1; (focus (intro w' hSw; (try dsimp only at hSw); go_simp; try (with_reducible rfl))); try simp only [Act.put, List.getElem_toArray, List.getElem_cons_zero, List.getElem_cons_succ, List.setIfInBounds_toArray, List.set_cons_zero, List.set_cons_succ])
      have hwv : w.heap.size ≤ v33.heap.size := hc.size
      have k1 := h1
      have k2 := h2
      have k3 := h3
      have k4 := h4
      refine wpAnyM_both (i := 42) (j := 44) (by kernel_rfl) (by exact rfl) (by exact rfl) (by kernel_rfl) (by kernel_rfl) ?_ ?_
      · obtain ⟨pv, pw, hrun, hown, hgp⟩ := app_runD (w := v33) (base := v33.heap.size) (v := .slice none 0 0) (xs := []) (l := p) (c := d) (World.ownsRow_nil _ _ _ _) hp (by simp; omega) (Nat.le_refl _)
        rw [List.nil_append] at hown
        have hbp : Below v33.heap.size v33 pw := ⟨hgp.os, hgp.tape, hgp.output, hgp.size, fun i hi => hgp.block i (Nat.lt_of_lt_of_le hi (Nat.le_refl _)) (by simp [Value.ownBlock])⟩
        intro K hK
        refine wp_append_run (.const (.slice none 0 0)) (.tmp 98) 27 rfl (.slice none 0 0) (.slice D p.length d) rfl rfl pv pw (by exact hrun) ?_
        replace B1 := Bk.old B1 hbp
        replace B2 := Bk.old B2 hbp
        replace B3 := Bk.old B3 hbp
        replace B4 := Bk.old B4 hbp
        clear h1 h2 h3 h4
        have h1 := B1.lt
        have h2 := B2.lt
        have h3 := B3.lt
        have h4 := B4.lt
        replace hp := hp.old hbp
        replace hc := bl_trans hc hbp
        refine hK.out _ _ (c16 B1 B2 B3 B4) (fun hS => ?_)
        clear hK K
        try simp only [Act.put, List.getElem_toArray, List.getElem_cons_zero, List.getElem_cons_succ, List.setIfInBounds_toArray, List.set_cons_zero, List.set_cons_succ]
        refine wpAnyM_only (i := 44) (by kernel_rfl) (by exact rfl) (by kernel_rfl) ?_
        intro K hK
        go_simp
        replace B1 := Bk.alloc B1 (.cells (c4 Y) 34)
        replace B2 := Bk.alloc B2 (.cells (c4 Y) 34)
        replace B3 := Bk.alloc B3 (.cells (c4 Y) 34)
        replace B4 := Bk.alloc B4 (.cells (c4 Y) 34)
        clear h1 h2 h3 h4
        have h1 := B1.lt
        have h2 := B2.lt
        have h3 := B3.lt
        have h4 := B4.lt
        replace hp := hp.alloc (.cells (c4 Y) 34)
        replace hc := bl_alloc hc (.cells (c4 Y) 34)
        refine hK.out _ _ (c16 B1 B2 B3 B4) (fun hS => ?_)
        clear hK K
        try simp only [Act.put, List.getElem_toArray, List.getElem_cons_zero, List.getElem_cons_succ, List.setIfInBounds_toArray, List.set_cons_zero, List.set_cons_succ]
        have BS : Bk (pw.alloc (.cells (c4 Y) 34)) pw.heap.size 34 (c4 Y) := Mw.Bk.new _ _ _
        replace hown := own_old' hown (bl_alloc (Below.refl _ pw) (.cells (c4 Y) 34))
        have hsz : v33.heap.size ≤ (pw.alloc (.cells (c4 Y) 34)).heap.size := by have := hgp.size; simp; omega
        clear hgp hrun hbp
        generalize (pw.alloc (.cells (c4 Y) 34)) = W at *
        generalize pw.heap.size = g at *
        have hgW : v33.heap.size ≤ W.heap.size := hsz
        obtain ⟨qv, qw, hrun2, hown2, hgq⟩ := app_runD (w := W) (base := v33.heap.size) (v := pv) (xs := p) (l := [Y]) (A := some ⟨g, 0, none⟩) (c := 1) hown (RdD.bk BS rfl) (by simp; omega) hgW
        refine wpAnyM_only (i := 45) (by kernel_rfl) (by exact rfl) (by kernel_rfl) ?_
        intro K hK
        refine wp_append_run (.tmp 99) (.tmp 101) 27 rfl pv (.slice (some ⟨g, 0, none⟩) 1 1) rfl rfl qv qw (by exact hrun2) ?_
        replace B1 := B1.grown hgq (fun e => by have := (hown.lt _ e.symm).1; omega)
        replace B2 := B2.grown hgq (fun e => by have := (hown.lt _ e.symm).1; omega)
        replace B3 := B3.grown hgq (fun e => by have := (hown.lt _ e.symm).1; omega)
        replace B4 := B4.grown hgq (fun e => by have := (hown.lt _ e.symm).1; omega)
        replace hc := hc.grown hgq (Nat.le_trans hwv hgW) (fun q e => by have := (hown.lt q e).1; omega)
        obtain ⟨QA, qc, rfl, hq1, hq2, hqr, -⟩ := own_digs hown2
        clear h1 h2 h3 h4
        have h1 := B1.lt
        have h2 := B2.lt
        have h3 := B3.lt
        have h4 := B4.lt
        refine hK.out _ _ (c16 B1 B2 B3 B4) (fun hS => ?_)
        clear hK K
        try simp only [Act.put, List.getElem_toArray, List.getElem_cons_zero, List.getElem_cons_succ, List.setIfInBounds_toArray, List.set_cons_zero, List.set_cons_succ]
        clear hown hgq hrun2 BS hp
        rw [show (p ++ [Y]).length = p.length + 1 by simp]
        refine wpAnyM_only (i := 46) (by kernel_rfl) (by exact rfl) (by kernel_rfl) ?_
        intro K hK
        go_simp
        refine (C4.out _ QA qc (hqr) (by simpa using hq1) hq2).mono ?_
        rintro e v46 ⟨rfl, hb⟩
        replace B1 := Bk.old B1 hb
        replace B2 := Bk.old B2 hb
        replace B3 := Bk.old B3 hb
        replace B4 := Bk.old B4 hb
        replace hc := bl_trans hc hb
        clear hb h1 h2 h3 h4
        have h1 := B1.lt
        have h2 := B2.lt
        have h3 := B3.lt
        have h4 := B4.lt
        go_simp
        refine hK.out _ _ (c16 B1 B2 B3 B4) (fun hS => ?_)
        clear hK K
        try simp only [Act.put, List.getElem_toArray, List.getElem_cons_zero, List.getElem_cons_succ, List.setIfInBounds_toArray, List.set_cons_zero, List.set_cons_succ]
        by_cases hIK : I = K
        · have t0 : decide ((I : Int) = (K : Int)) = true := decide_eq_true (by omega)
          have t1 : decide (I = K) = true := decide_eq_true (by omega)
          have t2 : ((I : Int) == (K : Int)) = true := by rw [beq_iff_eq]; omega
          have t3 : (I == K) = true := by rw [beq_iff_eq]; omega
          (refine Am.wpAnyM_take (i := 47) (v := ?_) rfl (by kernel_rfl) (by kernel_rfl) (by kernel_rfl) (by kernel_rfl) (by kernel_rfl) (fun _ _ _ h => h) (Or.inl ⟨by kernel_rfl, ?_⟩) hS ?_; rotate_left 1; (focus (intro w' hSw; (try dsimp only at hSw); go_simp; try (with_reducible rfl))); try simp only [Act.put, List.getElem_toArray, List.getElem_cons_zero, List.getElem_cons_succ, List.setIfInBounds_toArray, List.set_cons_zero, List.set_cons_succ])
          (refine Am.wpAnyM_take (i := 48) (v := ?_) rfl (by kernel_rfl) (by kernel_rfl) (by kernel_rfl) (by kernel_rfl) (by kernel_rfl) (fun _ _ _ h => h) (Or.inl ⟨by kernel_rfl, ?_⟩) hS ?_; rotate_left 1; (focus (intro w' hSw; (try dsimp only at hSw); go_simp; try (with_reducible rfl))); try simp only [Act.put, List.getElem_toArray, List.getElem_cons_zero, List.getElem_cons_succ, List.setIfInBounds_toArray, List.set_cons_zero, List.set_cons_succ])
          (refine Am.wpAnyM_take (i := 49) (v := ?_) rfl (by kernel_rfl) (by kernel_rfl) (by kernel_rfl) (by kernel_rfl) (by kernel_rfl) (fun _ _ _ h => h) (Or.inl ⟨by kernel_rfl, ?_⟩) hS ?_; rotate_left 1; (focus (intro w' hSw; (try dsimp only at hSw); go_simp; try (with_reducible rfl))); try simp only [Act.put, List.getElem_toArray, List.getElem_cons_zero, List.getElem_cons_succ, List.setIfInBounds_toArray, List.set_cons_zero, List.set_cons_succ])
          (refine Am.wpAnyM_take (i := 50) (v := ?_) rfl (by kernel_rfl) (by kernel_rfl) (by kernel_rfl) (by kernel_rfl) (by kernel_rfl) (fun _ _ _ h => h) (Or.inl ⟨by kernel_rfl, ?_⟩) hS ?_; rotate_left 1; (focus (intro w' hSw; (try dsimp only at hSw); go_simp; try (with_reducible rfl))); try simp only [Act.put, List.getElem_toArray, List.getElem_cons_zero, List.getElem_cons_succ, List.setIfInBounds_toArray, List.set_cons_zero, List.set_cons_succ])
          (refine Am.wpAnyM_take (i := 51) (v := ?_) rfl (by kernel_rfl) (by kernel_rfl) (by kernel_rfl) (by kernel_rfl) (by kernel_rfl) (fun _ _ _ h => h) (Or.inl ⟨by kernel_rfl, ?_⟩) hS ?_; rotate_left 1; (focus (intro w' hSw; (try dsimp only at hSw); go_simp; try (with_reducible rfl))); try simp only [Act.put, List.getElem_toArray, List.getElem_cons_zero, List.getElem_cons_succ, List.setIfInBounds_toArray, List.set_cons_zero, List.set_cons_succ])
          (refine Am.wpAnyM_take (i := 52) (v := ?_) rfl (by kernel_rfl) (by kernel_rfl) (by kernel_rfl) (by kernel_rfl) (by kernel_rfl) (fun _ _ _ h => h) (Or.inl ⟨by kernel_rfl, ?_⟩) hS ?_; rotate_left 1; (focus (intro w' hSw; (try dsimp only at hSw); go_simp; try (with_reducible rfl))); try simp only [Act.put, List.getElem_toArray, List.getElem_cons_zero, List.getElem_cons_succ, List.setIfInBounds_toArray, List.set_cons_zero, List.set_cons_succ])
          try simp only [t0, t1, t2, t3]
          (refine Am.wpAnyM_take (i := 53) (v := ?_) rfl (by kernel_rfl) (by kernel_rfl) (by kernel_rfl) (by kernel_rfl) (by kernel_rfl) (fun _ _ _ h => h) (Or.inl ⟨by kernel_rfl, ?_⟩) hS ?_; rotate_left 1; (focus (intro w' hSw; (try dsimp only at hSw); go_simp; try (with_reducible rfl))); try simp only [Act.put, List.getElem_toArray, List.getElem_cons_zero, List.getElem_cons_succ, List.setIfInBounds_toArray, List.set_cons_zero, List.set_cons_succ])
          (refine Am.wpAnyM_take (i := 54) (v := undef) rfl (by kernel_rfl) (by kernel_rfl) (by kernel_rfl) (by kernel_rfl) (by kernel_rfl) (fun _ _ _ h => h) (Or.inr ⟨by kernel_rfl, rfl⟩) hS ?_; try simp only [Act.put, List.getElem_toArray, List.getElem_cons_zero, List.getElem_cons_succ, List.setIfInBounds_toArray, List.set_cons_zero, List.set_cons_succ])
          (refine Am.wpAnyM_take (i := 55) (v := undef) rfl (by kernel_rfl) (by kernel_rfl) (by kernel_rfl) (by kernel_rfl) (by kernel_rfl) (fun _ _ _ h => h) (Or.inr ⟨by kernel_rfl, rfl⟩) hS ?_; try simp only [Act.put, List.getElem_toArray, List.getElem_cons_zero, List.getElem_cons_succ, List.setIfInBounds_toArray, List.set_cons_zero, List.set_cons_succ])
          (refine Am.wpAnyM_take (i := 56) (v := undef) rfl (by kernel_rfl) (by kernel_rfl) (by kernel_rfl) (by kernel_rfl) (by kernel_rfl) (fun _ _ _ h => h) (Or.inr ⟨by kernel_rfl, rfl⟩) hS ?_; try simp only [Act.put, List.getElem_toArray, List.getElem_cons_zero, List.getElem_cons_succ, List.setIfInBounds_toArray, List.set_cons_zero, List.set_cons_succ])
          (refine Am.wpAnyM_take (i := 57) (v := undef) rfl (by kernel_rfl) (by kernel_rfl) (by kernel_rfl) (by kernel_rfl) (by kernel_rfl) (fun _ _ _ h => h) (Or.inr ⟨by kernel_rfl, rfl⟩) hS ?_; try simp only [Act.put, List.getElem_toArray, List.getElem_cons_zero, List.getElem_cons_succ, List.setIfInBounds_toArray, List.set_cons_zero, List.set_cons_succ])
          refine wpAnyM_skip (i := 58) (by kernel_rfl) (by exact rfl) (by kernel_rfl) hS ?_
          try simp only [Act.put, List.getElem_toArray, List.getElem_cons_zero, List.getElem_cons_succ, List.setIfInBounds_toArray, List.set_cons_zero, List.set_cons_succ]
          (refine Am.wpAnyM_take (i := 59) (v := undef) rfl (by kernel_rfl) (by kernel_rfl) (by kernel_rfl) (by kernel_rfl) (by kernel_rfl) (fun _ _ _ h => h) (Or.inr ⟨by kernel_rfl, rfl⟩) hS ?_; try simp only [Act.put, List.getElem_toArray, List.getElem_cons_zero, List.getElem_cons_succ, List.setIfInBounds_toArray, List.set_cons_zero, List.set_cons_succ])
          (refine Am.wpAnyM_take (i := 60) (v := ?_) rfl (by kernel_rfl) (by kernel_rfl) (by kernel_rfl) (by kernel_rfl) (by kernel_rfl) (fun _ _ _ h => h) (Or.inl ⟨by kernel_rfl, ?_⟩) hS ?_; rotate_left 1; (focus (intro w' hSw; (try dsimp only at hSw); go_simp; try (with_reducible rfl))); try simp only [Act.put, List.getElem_toArray, List.getElem_cons_zero, List.getElem_cons_succ, List.setIfInBounds_toArray, List.set_cons_zero, List.set_cons_succ])
          (refine Am.wpAnyM_take (i := 61) (v := ?_) rfl (by kernel_rfl) (by kernel_rfl) (by kernel_rfl) (by kernel_rfl) (by kernel_rfl) (fun _ _ _ h => h) (Or.inl ⟨by kernel_rfl, ?_⟩) hS ?_; rotate_left 1; (focus (intro w' hSw; (try dsimp only at hSw); go_simp; try (with_reducible rfl))); try simp only [Act.put, List.getElem_toArray, List.getElem_cons_zero, List.getElem_cons_succ, List.setIfInBounds_toArray, List.set_cons_zero, List.set_cons_succ])
          (refine Am.wpAnyM_take (i := 62) (v := ?_) rfl (by kernel_rfl) (by kernel_rfl) (by kernel_rfl) (by kernel_rfl) (by kernel_rfl) (fun _ _ _ h => h) (Or.inl ⟨by kernel_rfl, ?_⟩) hS ?_; rotate_left 1; (focus (intro w' hSw; (try dsimp only at hSw); go_simp; try (with_reducible rfl))); try simp only [Act.put, List.getElem_toArray, List.getElem_cons_zero, List.getElem_cons_succ, List.setIfInBounds_toArray, List.set_cons_zero, List.set_cons_succ])
          refine wpAnyM_only (i := 63) (by kernel_rfl) (by exact rfl) (by kernel_rfl) ?_
          intro K hK
          go_simp
          refine (sane_any _).mono ?_
          rintro e v63 ⟨rfl, hb⟩
          replace B1 := Bk.old B1 hb
          replace B2 := Bk.old B2 hb
          replace B3 := Bk.old B3 hb
          replace B4 := Bk.old B4 hb
          replace hc := bl_trans hc hb
          clear hb h1 h2 h3 h4
          have h1 := B1.lt
          have h2 := B2.lt
          have h3 := B3.lt
          have h4 := B4.lt
          go_simp
          refine hK.out _ _ (c16 B1 B2 B3 B4) (fun hS => ?_)
          clear hK K
          try simp only [Act.put, List.getElem_toArray, List.getElem_cons_zero, List.getElem_cons_succ, List.setIfInBounds_toArray, List.set_cons_zero, List.set_cons_succ]
          (refine Am.wpAnyM_take (i := 64) (v := ?_) rfl (by kernel_rfl) (by kernel_rfl) (by kernel_rfl) (by kernel_rfl) (by kernel_rfl) (fun _ _ _ h => h) (Or.inl ⟨by kernel_rfl, ?_⟩) hS ?_; rotate_left 1; (focus (intro w' hSw; (try dsimp only at hSw); go_simp; try (with_reducible rfl))); try simp only [Act.put, List.getElem_toArray, List.getElem_cons_zero, List.getElem_cons_succ, List.setIfInBounds_toArray, List.set_cons_zero, List.set_cons_succ])
          (refine Am.wpAnyM_take (i := 65) (v := ?_) rfl (by kernel_rfl) (by kernel_rfl) (by kernel_rfl) (by kernel_rfl) (by kernel_rfl) (fun _ _ _ h => h) (Or.inl ⟨by kernel_rfl, ?_⟩) hS ?_; rotate_left 1; (focus (intro w' hSw; (try dsimp only at hSw); go_simp; try (with_reducible rfl))); try simp only [Act.put, List.getElem_toArray, List.getElem_cons_zero, List.getElem_cons_succ, List.setIfInBounds_toArray, List.set_cons_zero, List.set_cons_succ])
          refine Am.wpAnyM_done (by kernel_rfl) ?_ _
          go_wp2_with fail
          go_ret
          exact ⟨rfl, hc⟩
        · have t0 : decide ((I : Int) = (K : Int)) = false := decide_eq_false (by omega)
          have t1 : decide (I = K) = false := decide_eq_false (by omega)
          have t2 : ((I : Int) == (K : Int)) = false := by rw [beq_eq_false_iff_ne]; omega
          have t3 : (I == K) = false := by rw [beq_eq_false_iff_ne]; omega
          replace C5 := Lib.hid (C5.out hIK)
          (refine Am.wpAnyM_take (i := 47) (v := ?_) rfl (by kernel_rfl) (by kernel_rfl) (by kernel_rfl) (by kernel_rfl) (by kernel_rfl) (fun _ _ _ h => h) (Or.inl ⟨by kernel_rfl, ?_⟩) hS ?_; rotate_left 1; (focus (intro w' hSw; (try dsimp only at hSw); go_simp; try (with_reducible rfl))); try simp only [Act.put, List.getElem_toArray, List.getElem_cons_zero, List.getElem_cons_succ, List.setIfInBounds_toArray, List.set_cons_zero, List.set_cons_succ])
          (refine Am.wpAnyM_take (i := 48) (v := ?_) rfl (by kernel_rfl) (by kernel_rfl) (by kernel_rfl) (by kernel_rfl) (by kernel_rfl) (fun _ _ _ h => h) (Or.inl ⟨by kernel_rfl, ?_⟩) hS ?_; rotate_left 1; (focus (intro w' hSw; (try dsimp only at hSw); go_simp; try (with_reducible rfl))); try simp only [Act.put, List.getElem_toArray, List.getElem_cons_zero, List.getElem_cons_succ, List.setIfInBounds_toArray, List.set_cons_zero, List.set_cons_succ])
          (refine Am.wpAnyM_take (i := 49) (v := ?_) rfl (by kernel_rfl) (by kernel_rfl) (by kernel_rfl) (by kernel_rfl) (by kernel_rfl) (fun _ _ _ h => h) (Or.inl ⟨by kernel_rfl, ?_⟩) hS ?_; rotate_left 1; (focus (intro w' hSw; (try dsimp only at hSw); go_simp; try (with_reducible rfl))); try simp only [Act.put, List.getElem_toArray, List.getElem_cons_zero, List.getElem_cons_succ, List.setIfInBounds_toArray, List.set_cons_zero, List.set_cons_succ])
          (refine Am.wpAnyM_take (i := 50) (v := ?_) rfl (by kernel_rfl) (by kernel_rfl) (by kernel_rfl) (by kernel_rfl) (by kernel_rfl) (fun _ _ _ h => h) (Or.inl ⟨by kernel_rfl, ?_⟩) hS ?_; rotate_left 1; (focus (intro w' hSw; (try dsimp only at hSw); go_simp; try (with_reducible rfl))); try simp only [Act.put, List.getElem_toArray, List.getElem_cons_zero, List.getElem_cons_succ, List.setIfInBounds_toArray, List.set_cons_zero, List.set_cons_succ])
          (refine Am.wpAnyM_take (i := 51) (v := ?_) rfl (by kernel_rfl) (by kernel_rfl) (by kernel_rfl) (by kernel_rfl) (by kernel_rfl) (fun _ _ _ h => h) (Or.inl ⟨by kernel_rfl, ?_⟩) hS ?_; rotate_left 1; (focus (intro w' hSw; (try dsimp only at hSw); go_simp; try (with_reducible rfl))); try simp only [Act.put, List.getElem_toArray, List.getElem_cons_zero, List.getElem_cons_succ, List.setIfInBounds_toArray, List.set_cons_zero, List.set_cons_succ])
          (refine Am.wpAnyM_take (i := 52) (v := ?_) rfl (by kernel_rfl) (by kernel_rfl) (by kernel_rfl) (by kernel_rfl) (by kernel_rfl) (fun _ _ _ h => h) (Or.inl ⟨by kernel_rfl, ?_⟩) hS ?_; rotate_left 1; (focus (intro w' hSw; (try dsimp only at hSw); go_simp; try (with_reducible rfl))); try simp only [Act.put, List.getElem_toArray, List.getElem_cons_zero, List.getElem_cons_succ, List.setIfInBounds_toArray, List.set_cons_zero, List.set_cons_succ])
          try simp only [t0, t1, t2, t3]
          (refine Am.wpAnyM_take (i := 53) (v := ?_) rfl (by kernel_rfl) (by kernel_rfl) (by kernel_rfl) (by kernel_rfl) (by kernel_rfl) (fun _ _ _ h => h) (Or.inl ⟨by kernel_rfl, ?_⟩) hS ?_; rotate_left 1; (focus (intro w' hSw; (try dsimp only at hSw); go_simp; try (with_reducible rfl))); try simp only [Act.put, List.getElem_toArray, List.getElem_cons_zero, List.getElem_cons_succ, List.setIfInBounds_toArray, List.set_cons_zero, List.set_cons_succ])
          (refine Am.wpAnyM_take (i := 54) (v := ?_) rfl (by kernel_rfl) (by kernel_rfl) (by kernel_rfl) (by kernel_rfl) (by kernel_rfl) (fun _ _ _ h => h) (Or.inl ⟨by kernel_rfl, ?_⟩) hS ?_; rotate_left 1; (focus (intro w' hSw; (try dsimp only at hSw); go_simp; try (with_reducible rfl))); try simp only [Act.put, List.getElem_toArray, List.getElem_cons_zero, List.getElem_cons_succ, List.setIfInBounds_toArray, List.set_cons_zero, List.set_cons_succ])
          (refine Am.wpAnyM_take (i := 55) (v := ?_) rfl (by kernel_rfl) (by kernel_rfl) (by kernel_rfl) (by kernel_rfl) (by kernel_rfl) (fun _ _ _ h => h) (Or.inl ⟨by kernel_rfl, ?_⟩) hS ?_; rotate_left 1; (focus (intro w' hSw; (try dsimp only at hSw); go_simp; try (with_reducible rfl))); try simp only [Act.put, List.getElem_toArray, List.getElem_cons_zero, List.getElem_cons_succ, List.setIfInBounds_toArray, List.set_cons_zero, List.set_cons_succ])
          (refine Am.wpAnyM_take (i := 56) (v := ?_) rfl (by kernel_rfl) (by kernel_rfl) (by kernel_rfl) (by kernel_rfl) (by kernel_rfl) (fun _ _ _ h => h) (Or.inl ⟨by kernel_rfl, ?_⟩) hS ?_; rotate_left 1; (focus (intro w' hSw; (try dsimp only at hSw); go_simp; try (with_reducible rfl))); try simp only [Act.put, List.getElem_toArray, List.getElem_cons_zero, List.getElem_cons_succ, List.setIfInBounds_toArray, List.set_cons_zero, List.set_cons_succ])
          (refine Am.wpAnyM_take (i := 57) (v := ?_) rfl (by kernel_rfl) (by kernel_rfl) (by kernel_rfl) (by kernel_rfl) (by kernel_rfl) (fun _ _ _ h => h) (Or.inl ⟨by kernel_rfl, ?_⟩) hS ?_; rotate_left 1; (focus (intro w' hSw; (try dsimp only at hSw); go_simp; try (with_reducible rfl))); try simp only [Act.put, List.getElem_toArray, List.getElem_cons_zero, List.getElem_cons_succ, List.setIfInBounds_toArray, List.set_cons_zero, List.set_cons_succ])
          refine wpAnyM_only (i := 58) (by kernel_rfl) (by exact rfl) (by kernel_rfl) ?_
          intro K hK
          go_simp
          refine (C5.out _).mono ?_
          rintro e v58 ⟨rfl, hb⟩
          replace B1 := Bk.old B1 hb
          replace B2 := Bk.old B2 hb
          replace B3 := Bk.old B3 hb
          replace B4 := Bk.old B4 hb
          replace hc := bl_trans hc hb
          clear hb h1 h2 h3 h4
          have h1 := B1.lt
          have h2 := B2.lt
          have h3 := B3.lt
          have h4 := B4.lt
          go_simp
          refine hK.out _ _ (c16 B1 B2 B3 B4) (fun hS => ?_)
          clear hK K
          try simp only [Act.put, List.getElem_toArray, List.getElem_cons_zero, List.getElem_cons_succ, List.setIfInBounds_toArray, List.set_cons_zero, List.set_cons_succ]
          (refine Am.wpAnyM_take (i := 59) (v := ?_) rfl (by kernel_rfl) (by kernel_rfl) (by kernel_rfl) (by kernel_rfl) (by kernel_rfl) (fun _ _ _ h => h) (Or.inl ⟨by kernel_rfl, ?_⟩) hS ?_; rotate_left 1; (focus (intro w' hSw; (try dsimp only at hSw); go_simp; try (with_reducible rfl))); try simp only [Act.put, List.getElem_toArray, List.getElem_cons_zero, List.getElem_cons_succ, List.setIfInBounds_toArray, List.set_cons_zero, List.set_cons_succ])
          (refine Am.wpAnyM_take (i := 60) (v := ?_) rfl (by kernel_rfl) (by kernel_rfl) (by kernel_rfl) (by kernel_rfl) (by kernel_rfl) (fun _ _ _ h => h) (Or.inl ⟨by kernel_rfl, ?_⟩) hS ?_; rotate_left 1; (focus (intro w' hSw; (try dsimp only at hSw); go_simp; try (with_reducible rfl))); try simp only [Act.put, List.getElem_toArray, List.getElem_cons_zero, List.getElem_cons_succ, List.setIfInBounds_toArray, List.set_cons_zero, List.set_cons_succ])
          (refine Am.wpAnyM_take (i := 61) (v := ?_) rfl (by kernel_rfl) (by kernel_rfl) (by kernel_rfl) (by kernel_rfl) (by kernel_rfl) (fun _ _ _ h => h) (Or.inl ⟨by kernel_rfl, ?_⟩) hS ?_; rotate_left 1; (focus (intro w' hSw; (try dsimp only at hSw); go_simp; try (with_reducible rfl))); try simp only [Act.put, List.getElem_toArray, List.getElem_cons_zero, List.getElem_cons_succ, List.setIfInBounds_toArray, List.set_cons_zero, List.set_cons_succ])
          (refine Am.wpAnyM_take (i := 62) (v := ?_) rfl (by kernel_rfl) (by kernel_rfl) (by kernel_rfl) (by kernel_rfl) (by kernel_rfl) (fun _ _ _ h => h) (Or.inl ⟨by kernel_rfl, ?_⟩) hS ?_; rotate_left 1; (focus (intro w' hSw; (try dsimp only at hSw); go_simp; try (with_reducible rfl))); try simp only [Act.put, List.getElem_toArray, List.getElem_cons_zero, List.getElem_cons_succ, List.setIfInBounds_toArray, List.set_cons_zero, List.set_cons_succ])
          refine wpAnyM_only (i := 63) (by kernel_rfl) (by exact rfl) (by kernel_rfl) ?_
          intro K hK
          go_simp
          refine (sane_any _).mono ?_
          rintro e v63 ⟨rfl, hb⟩
          replace B1 := Bk.old B1 hb
          replace B2 := Bk.old B2 hb
          replace B3 := Bk.old B3 hb
          replace B4 := Bk.old B4 hb
          replace hc := bl_trans hc hb
          clear hb h1 h2 h3 h4
          have h1 := B1.lt
          have h2 := B2.lt
          have h3 := B3.lt
          have h4 := B4.lt
          go_simp
          refine hK.out _ _ (c16 B1 B2 B3 B4) (fun hS => ?_)
          clear hK K
          try simp only [Act.put, List.getElem_toArray, List.getElem_cons_zero, List.getElem_cons_succ, List.setIfInBounds_toArray, List.set_cons_zero, List.set_cons_succ]
          (refine Am.wpAnyM_take (i := 64) (v := ?_) rfl (by kernel_rfl) (by kernel_rfl) (by kernel_rfl) (by kernel_rfl) (by kernel_rfl) (fun _ _ _ h => h) (Or.inl ⟨by kernel_rfl, ?_⟩) hS ?_; rotate_left 1; (focus (intro w' hSw; (try dsimp only at hSw); go_simp; try (with_reducible rfl))); try simp only [Act.put, List.getElem_toArray, List.getElem_cons_zero, List.getElem_cons_succ, List.setIfInBounds_toArray, List.set_cons_zero, List.set_cons_succ])
          (refine Am.wpAnyM_take (i := 65) (v := ?_) rfl (by kernel_rfl) (by kernel_rfl) (by kernel_rfl) (by kernel_rfl) (by kernel_rfl) (fun _ _ _ h => h) (Or.inl ⟨by kernel_rfl, ?_⟩) hS ?_; rotate_left 1; (focus (intro w' hSw; (try dsimp only at hSw); go_simp; try (with_reducible rfl))); try simp only [Act.put, List.getElem_toArray, List.getElem_cons_zero, List.getElem_cons_succ, List.setIfInBounds_toArray, List.set_cons_zero, List.set_cons_succ])
          refine Am.wpAnyM_done (by kernel_rfl) ?_ _
          go_wp2_with fail
          go_ret
          exact ⟨rfl, hc⟩
      · intro K hK
        go_simp
        replace B1 := Bk.alloc B1 (.cells (c4 Y) 34)
        replace B2 := Bk.alloc B2 (.cells (c4 Y) 34)
        replace B3 := Bk.alloc B3 (.cells (c4 Y) 34)
        replace B4 := Bk.alloc B4 (.cells (c4 Y) 34)
        clear h1 h2 h3 h4
        have h1 := B1.lt
        have h2 := B2.lt
        have h3 := B3.lt
        have h4 := B4.lt
        replace hp := hp.alloc (.cells (c4 Y) 34)
        replace hc := bl_alloc hc (.cells (c4 Y) 34)
        refine hK.out _ _ (c16 B1 B2 B3 B4) (fun hS => ?_)
        clear hK K
        try simp only [Act.put, List.getElem_toArray, List.getElem_cons_zero, List.getElem_cons_succ, List.setIfInBounds_toArray, List.set_cons_zero, List.set_cons_succ]
        obtain ⟨pv, pw, hrun, hown, hgp⟩ := app_runD (w := (v33.alloc (.cells (c4 Y) 34))) (base := v33.heap.size) (v := .slice none 0 0) (xs := []) (l := p) (c := d) (World.ownsRow_nil _ _ _ _) hp (by simp; omega) (by simp)
        rw [List.nil_append] at hown
        have hbp : Below ((v33.alloc (.cells (c4 Y) 34))).heap.size (v33.alloc (.cells (c4 Y) 34)) pw := ⟨hgp.os, hgp.tape, hgp.output, hgp.size, fun i hi => hgp.block i (Nat.lt_of_lt_of_le hi (Nat.le_refl _)) (by simp [Value.ownBlock])⟩
        refine wpAnyM_only (i := 42) (by kernel_rfl) (by exact rfl) (by kernel_rfl) ?_
        intro K hK
        refine wp_append_run (.const (.slice none 0 0)) (.tmp 98) 27 rfl (.slice none 0 0) (.slice D p.length d) rfl rfl pv pw (by exact hrun) ?_
        replace B1 := Bk.old B1 hbp
        replace B2 := Bk.old B2 hbp
        replace B3 := Bk.old B3 hbp
        replace B4 := Bk.old B4 hbp
        clear h1 h2 h3 h4
        have h1 := B1.lt
        have h2 := B2.lt
        have h3 := B3.lt
        have h4 := B4.lt
        replace hp := hp.old hbp
        replace hc := bl_trans hc hbp
        refine hK.out _ _ (c16 B1 B2 B3 B4) (fun hS => ?_)
        clear hK K
        try simp only [Act.put, List.getElem_toArray, List.getElem_cons_zero, List.getElem_cons_succ, List.setIfInBounds_toArray, List.set_cons_zero, List.set_cons_succ]
        have BS : Bk pw v33.heap.size 34 (c4 Y) := Bk.old (Mw.Bk.new v33 34 (c4 Y)) hbp
        have hsz : v33.heap.size ≤ pw.heap.size := by have := hgp.size; simp at this; omega
        clear hgp hrun hbp
        generalize pw = W at *
        obtain ⟨g, hg⟩ : ∃ g, g = v33.heap.size := ⟨_, rfl⟩
        rw [← hg] at BS
        rw [← hg]
        have hgW : v33.heap.size ≤ W.heap.size := hsz
        obtain ⟨qv, qw, hrun2, hown2, hgq⟩ := app_runD (w := W) (base := v33.heap.size) (v := pv) (xs := p) (l := [Y]) (A := some ⟨g, 0, none⟩) (c := 1) hown (RdD.bk BS rfl) (by simp; omega) hgW
        refine wpAnyM_only (i := 45) (by kernel_rfl) (by exact rfl) (by kernel_rfl) ?_
        intro K hK
        refine wp_append_run (.tmp 99) (.tmp 101) 27 rfl pv (.slice (some ⟨g, 0, none⟩) 1 1) rfl rfl qv qw (by exact hrun2) ?_
        replace B1 := B1.grown hgq (fun e => by have := (hown.lt _ e.symm).1; omega)
        replace B2 := B2.grown hgq (fun e => by have := (hown.lt _ e.symm).1; omega)
        replace B3 := B3.grown hgq (fun e => by have := (hown.lt _ e.symm).1; omega)
        replace B4 := B4.grown hgq (fun e => by have := (hown.lt _ e.symm).1; omega)
        replace hc := hc.grown hgq (Nat.le_trans hwv hgW) (fun q e => by have := (hown.lt q e).1; omega)
        obtain ⟨QA, qc, rfl, hq1, hq2, hqr, -⟩ := own_digs hown2
        clear h1 h2 h3 h4
        have h1 := B1.lt
        have h2 := B2.lt
        have h3 := B3.lt
        have h4 := B4.lt
        refine hK.out _ _ (c16 B1 B2 B3 B4) (fun hS => ?_)
        clear hK K
        try simp only [Act.put, List.getElem_toArray, List.getElem_cons_zero, List.getElem_cons_succ, List.setIfInBounds_toArray, List.set_cons_zero, List.set_cons_succ]
        clear hown hgq hrun2 BS hp
        rw [show (p ++ [Y]).length = p.length + 1 by simp]
        refine wpAnyM_only (i := 46) (by kernel_rfl) (by exact rfl) (by kernel_rfl) ?_
        intro K hK
        go_simp
        refine (C4.out _ QA qc (hqr) (by simpa using hq1) hq2).mono ?_
        rintro e v46 ⟨rfl, hb⟩
        replace B1 := Bk.old B1 hb
        replace B2 := Bk.old B2 hb
        replace B3 := Bk.old B3 hb
        replace B4 := Bk.old B4 hb
        replace hc := bl_trans hc hb
        clear hb h1 h2 h3 h4
        have h1 := B1.lt
        have h2 := B2.lt
        have h3 := B3.lt
        have h4 := B4.lt
        go_simp
        refine hK.out _ _ (c16 B1 B2 B3 B4) (fun hS => ?_)
        clear hK K
        try simp only [Act.put, List.getElem_toArray, List.getElem_cons_zero, List.getElem_cons_succ, List.setIfInBounds_toArray, List.set_cons_zero, List.set_cons_succ]
        by_cases hIK : I = K
        · have t0 : decide ((I : Int) = (K : Int)) = true := decide_eq_true (by omega)
          have t1 : decide (I = K) = true := decide_eq_true (by omega)
          have t2 : ((I : Int) == (K : Int)) = true := by rw [beq_iff_eq]; omega
          have t3 : (I == K) = true := by rw [beq_iff_eq]; omega
          (refine Am.wpAnyM_take (i := 47) (v := ?_) rfl (by kernel_rfl) (by kernel_rfl) (by kernel_rfl) (by kernel_rfl) (by kernel_rfl) (fun _ _ _ h => h) (Or.inl ⟨by kernel_rfl, ?_⟩) hS ?_; rotate_left 1; (focus (intro w' hSw; (try dsimp only at hSw); go_simp; try (with_reducible rfl))); try simp only [Act.put, List.getElem_toArray, List.getElem_cons_zero, List.getElem_cons_succ, List.setIfInBounds_toArray, List.set_cons_zero, List.set_cons_succ])
          (refine Am.wpAnyM_take (i := 48) (v := ?_) rfl (by kernel_rfl) (by kernel_rfl) (by kernel_rfl) (by kernel_rfl) (by kernel_rfl) (fun _ _ _ h => h) (Or.inl ⟨by kernel_rfl, ?_⟩) hS ?_; rotate_left 1; (focus (intro w' hSw; (try dsimp only at hSw); go_simp; try (with_reducible rfl))); try simp only [Act.put, List.getElem_toArray, List.getElem_cons_zero, List.getElem_cons_succ, List.setIfInBounds_toArray, List.set_cons_zero, List.set_cons_succ])
          (refine Am.wpAnyM_take (i := 49) (v := ?_) rfl (by kernel_rfl) (by kernel_rfl) (by kernel_rfl) (by kernel_rfl) (by kernel_rfl) (fun _ _ _ h => h) (Or.inl ⟨by kernel_rfl, ?_⟩) hS ?_; rotate_left 1; (focus (intro w' hSw; (try dsimp only at hSw); go_simp; try (with_reducible rfl))); try simp only [Act.put, List.getElem_toArray, List.getElem_cons_zero, List.getElem_cons_succ, List.setIfInBounds_toArray, List.set_cons_zero, List.set_cons_succ])
          (refine Am.wpAnyM_take (i := 50) (v := ?_) rfl (by kernel_rfl) (by kernel_rfl) (by kernel_rfl) (by kernel_rfl) (by kernel_rfl) (fun _ _ _ h => h) (Or.inl ⟨by kernel_rfl, ?_⟩) hS ?_; rotate_left 1; (focus (intro w' hSw; (try dsimp only at hSw); go_simp; try (with_reducible rfl))); try simp only [Act.put, List.getElem_toArray, List.getElem_cons_zero, List.getElem_cons_succ, List.setIfInBounds_toArray, List.set_cons_zero, List.set_cons_succ])
          (refine Am.wpAnyM_take (i := 51) (v := ?_) rfl (by kernel_rfl) (by kernel_rfl) (by kernel_rfl) (by kernel_rfl) (by kernel_rfl) (fun _ _ _ h => h) (Or.inl ⟨by kernel_rfl, ?_⟩) hS ?_; rotate_left 1; (focus (intro w' hSw; (try dsimp only at hSw); go_simp; try (with_reducible rfl))); try simp only [Act.put, List.getElem_toArray, List.getElem_cons_zero, List.getElem_cons_succ, List.setIfInBounds_toArray, List.set_cons_zero, List.set_cons_succ])
          (refine Am.wpAnyM_take (i := 52) (v := ?_) rfl (by kernel_rfl) (by kernel_rfl) (by kernel_rfl) (by kernel_rfl) (by kernel_rfl) (fun _ _ _ h => h) (Or.inl ⟨by kernel_rfl, ?_⟩) hS ?_; rotate_left 1; (focus (intro w' hSw; (try dsimp only at hSw); go_simp; try (with_reducible rfl))); try simp only [Act.put, List.getElem_toArray, List.getElem_cons_zero, List.getElem_cons_succ, List.setIfInBounds_toArray, List.set_cons_zero, List.set_cons_succ])
          try simp only [t0, t1, t2, t3]
          (refine Am.wpAnyM_take (i := 53) (v := ?_) rfl (by kernel_rfl) (by kernel_rfl) (by kernel_rfl) (by kernel_rfl) (by kernel_rfl) (fun _ _ _ h => h) (Or.inl ⟨by kernel_rfl, ?_⟩) hS ?_; rotate_left 1; (focus (intro w' hSw; (try dsimp only at hSw); go_simp; try (with_reducible rfl))); try simp only [Act.put, List.getElem_toArray, List.getElem_cons_zero, List.getElem_cons_succ, List.setIfInBounds_toArray, List.set_cons_zero, List.set_cons_succ])
          (refine Am.wpAnyM_take (i := 54) (v := undef) rfl (by kernel_rfl) (by kernel_rfl) (by kernel_rfl) (by kernel_rfl) (by kernel_rfl) (fun _ _ _ h => h) (Or.inr ⟨by kernel_rfl, rfl⟩) hS ?_; try simp only [Act.put, List.getElem_toArray, List.getElem_cons_zero, List.getElem_cons_succ, List.setIfInBounds_toArray, List.set_cons_zero, List.set_cons_succ])
          (refine Am.wpAnyM_take (i := 55) (v := undef) rfl (by kernel_rfl) (by kernel_rfl) (by kernel_rfl) (by kernel_rfl) (by kernel_rfl) (fun _ _ _ h => h) (Or.inr ⟨by kernel_rfl, rfl⟩) hS ?_; try simp only [Act.put, List.getElem_toArray, List.getElem_cons_zero, List.getElem_cons_succ, List.setIfInBounds_toArray, List.set_cons_zero, List.set_cons_succ])
          (refine Am.wpAnyM_take (i := 56) (v := undef) rfl (by kernel_rfl) (by kernel_rfl) (by kernel_rfl) (by kernel_rfl) (by kernel_rfl) (fun _ _ _ h => h) (Or.inr ⟨by kernel_rfl, rfl⟩) hS ?_; try simp only [Act.put, List.getElem_toArray, List.getElem_cons_zero, List.getElem_cons_succ, List.setIfInBounds_toArray, List.set_cons_zero, List.set_cons_succ])
          (refine Am.wpAnyM_take (i := 57) (v := undef) rfl (by kernel_rfl) (by kernel_rfl) (by kernel_rfl) (by kernel_rfl) (by kernel_rfl) (fun _ _ _ h => h) (Or.inr ⟨by kernel_rfl, rfl⟩) hS ?_; try simp only [Act.put, List.getElem_toArray, List.getElem_cons_zero, List.getElem_cons_succ, List.setIfInBounds_toArray, List.set_cons_zero, List.set_cons_succ])
          refine wpAnyM_skip (i := 58) (by kernel_rfl) (by exact rfl) (by kernel_rfl) hS ?_
          try simp only [Act.put, List.getElem_toArray, List.getElem_cons_zero, List.getElem_cons_succ, List.setIfInBounds_toArray, List.set_cons_zero, List.set_cons_succ]
          (refine Am.wpAnyM_take (i := 59) (v := undef) rfl (by kernel_rfl) (by kernel_rfl) (by kernel_rfl) (by kernel_rfl) (by kernel_rfl) (fun _ _ _ h => h) (Or.inr ⟨by kernel_rfl, rfl⟩) hS ?_; try simp only [Act.put, List.getElem_toArray, List.getElem_cons_zero, List.getElem_cons_succ, List.setIfInBounds_toArray, List.set_cons_zero, List.set_cons_succ])
          (refine Am.wpAnyM_take (i := 60) (v := ?_) rfl (by kernel_rfl) (by kernel_rfl) (by kernel_rfl) (by kernel_rfl) (by kernel_rfl) (fun _ _ _ h => h) (Or.inl ⟨by kernel_rfl, ?_⟩) hS ?_; rotate_left 1; (focus (intro w' hSw; (try dsimp only at hSw); go_simp; try (with_reducible rfl))); try simp only [Act.put, List.getElem_toArray, List.getElem_cons_zero, List.getElem_cons_succ, List.setIfInBounds_toArray, List.set_cons_zero, List.set_cons_succ])
          (refine Am.wpAnyM_take (i := 61) (v := ?_) rfl (by kernel_rfl) (by kernel_rfl) (by kernel_rfl) (by kernel_rfl) (by kernel_rfl) (fun _ _ _ h => h) (Or.inl ⟨by kernel_rfl, ?_⟩) hS ?_; rotate_left 1; (focus (intro w' hSw; (try dsimp only at hSw); go_simp; try (with_reducible rfl))); try simp only [Act.put, List.getElem_toArray, List.getElem_cons_zero, List.getElem_cons_succ, List.setIfInBounds_toArray, List.set_cons_zero, List.set_cons_succ])
          (refine Am.wpAnyM_take (i := 62) (v := ?_) rfl (by kernel_rfl) (by kernel_rfl) (by kernel_rfl) (by kernel_rfl) (by kernel_rfl) (fun _ _ _ h => h) (Or.inl ⟨by kernel_rfl, ?_⟩) hS ?_; rotate_left 1; (focus (intro w' hSw; (try dsimp only at hSw); go_simp; try (with_reducible rfl))); try simp only [Act.put, List.getElem_toArray, List.getElem_cons_zero, List.getElem_cons_succ, List.setIfInBounds_toArray, List.set_cons_zero, List.set_cons_succ])
          refine wpAnyM_only (i := 63) (by kernel_rfl) (by exact rfl) (by kernel_rfl) ?_
          intro K hK
          go_simp
          refine (sane_any _).mono ?_
          rintro e v63 ⟨rfl, hb⟩
          replace B1 := Bk.old B1 hb
          replace B2 := Bk.old B2 hb
          replace B3 := Bk.old B3 hb
          replace B4 := Bk.old B4 hb
          replace hc := bl_trans hc hb
          clear hb h1 h2 h3 h4
          have h1 := B1.lt
          have h2 := B2.lt
          have h3 := B3.lt
          have h4 := B4.lt
          go_simp
          refine hK.out _ _ (c16 B1 B2 B3 B4) (fun hS => ?_)
          clear hK K
          try simp only [Act.put, List.getElem_toArray, List.getElem_cons_zero, List.getElem_cons_succ, List.setIfInBounds_toArray, List.set_cons_zero, List.set_cons_succ]
          (refine Am.wpAnyM_take (i := 64) (v := ?_) rfl (by kernel_rfl) (by kernel_rfl) (by kernel_rfl) (by kernel_rfl) (by kernel_rfl) (fun _ _ _ h => h) (Or.inl ⟨by kernel_rfl, ?_⟩) hS ?_; rotate_left 1; (focus (intro w' hSw; (try dsimp only at hSw); go_simp; try (with_reducible rfl))); try simp only [Act.put, List.getElem_toArray, List.getElem_cons_zero, List.getElem_cons_succ, List.setIfInBounds_toArray, List.set_cons_zero, List.set_cons_succ])
          (refine Am.wpAnyM_take (i := 65) (v := ?_) rfl (by kernel_rfl) (by kernel_rfl) (by kernel_rfl) (by kernel_rfl) (by kernel_rfl) (fun _ _ _ h => h) (Or.inl ⟨by kernel_rfl, ?_⟩) hS ?_; rotate_left 1; (focus (intro w' hSw; (try dsimp only at hSw); go_simp; try (with_reducible rfl))); try simp only [Act.put, List.getElem_toArray, List.getElem_cons_zero, List.getElem_cons_succ, List.setIfInBounds_toArray, List.set_cons_zero, List.set_cons_succ])
          refine Am.wpAnyM_done (by kernel_rfl) ?_ _
          go_wp2_with fail
          go_ret
          exact ⟨rfl, hc⟩
        · have t0 : decide ((I : Int) = (K : Int)) = false := decide_eq_false (by omega)
          have t1 : decide (I = K) = false := decide_eq_false (by omega)
          have t2 : ((I : Int) == (K : Int)) = false := by rw [beq_eq_false_iff_ne]; omega
          have t3 : (I == K) = false := by rw [beq_eq_false_iff_ne]; omega
          replace C5 := Lib.hid (C5.out hIK)
          (refine Am.wpAnyM_take (i := 47) (v := ?_) rfl (by kernel_rfl) (by kernel_rfl) (by kernel_rfl) (by kernel_rfl) (by kernel_rfl) (fun _ _ _ h => h) (Or.inl ⟨by kernel_rfl, ?_⟩) hS ?_; rotate_left 1; (focus (intro w' hSw; (try dsimp only at hSw); go_simp; try (with_reducible rfl))); try simp only [Act.put, List.getElem_toArray, List.getElem_cons_zero, List.getElem_cons_succ, List.setIfInBounds_toArray, List.set_cons_zero, List.set_cons_succ])
          (refine Am.wpAnyM_take (i := 48) (v := ?_) rfl (by kernel_rfl) (by kernel_rfl) (by kernel_rfl) (by kernel_rfl) (by kernel_rfl) (fun _ _ _ h => h) (Or.inl ⟨by kernel_rfl, ?_⟩) hS ?_; rotate_left 1; (focus (intro w' hSw; (try dsimp only at hSw); go_simp; try (with_reducible rfl))); try simp only [Act.put, List.getElem_toArray, List.getElem_cons_zero, List.getElem_cons_succ, List.setIfInBounds_toArray, List.set_cons_zero, List.set_cons_succ])
          (refine Am.wpAnyM_take (i := 49) (v := ?_) rfl (by kernel_rfl) (by kernel_rfl) (by kernel_rfl) (by kernel_rfl) (by kernel_rfl) (fun _ _ _ h => h) (Or.inl ⟨by kernel_rfl, ?_⟩) hS ?_; rotate_left 1; (focus (intro w' hSw; (try dsimp only at hSw); go_simp; try (with_reducible rfl))); try simp only [Act.put, List.getElem_toArray, List.getElem_cons_zero, List.getElem_cons_succ, List.setIfInBounds_toArray, List.set_cons_zero, List.set_cons_succ])
          (refine Am.wpAnyM_take (i := 50) (v := ?_) rfl (by kernel_rfl) (by kernel_rfl) (by kernel_rfl) (by kernel_rfl) (by kernel_rfl) (fun _ _ _ h => h) (Or.inl ⟨by kernel_rfl, ?_⟩) hS ?_; rotate_left 1; (focus (intro w' hSw; (try dsimp only at hSw); go_simp; try (with_reducible rfl))); try simp only [Act.put, List.getElem_toArray, List.getElem_cons_zero, List.getElem_cons_succ, List.setIfInBounds_toArray, List.set_cons_zero, List.set_cons_succ])
          (refine Am.wpAnyM_take (i := 51) (v := ?_) rfl (by kernel_rfl) (by kernel_rfl) (by kernel_rfl) (by kernel_rfl) (by kernel_rfl) (fun _ _ _ h => h) (Or.inl ⟨by kernel_rfl, ?_⟩) hS ?_; rotate_left 1; (focus (intro w' hSw; (try dsimp only at hSw); go_simp; try (with_reducible rfl))); try simp only [Act.put, List.getElem_toArray, List.getElem_cons_zero, List.getElem_cons_succ, List.setIfInBounds_toArray, List.set_cons_zero, List.set_cons_succ])
          (refine Am.wpAnyM_take (i := 52) (v := ?_) rfl (by kernel_rfl) (by kernel_rfl) (by kernel_rfl) (by kernel_rfl) (by kernel_rfl) (fun _ _ _ h => h) (Or.inl ⟨by kernel_rfl, ?_⟩) hS ?_; rotate_left 1; (focus (intro w' hSw; (try dsimp only at hSw); go_simp; try (with_reducible rfl))); try simp only [Act.put, List.getElem_toArray, List.getElem_cons_zero, List.getElem_cons_succ, List.setIfInBounds_toArray, List.set_cons_zero, List.set_cons_succ])
          try simp only [t0, t1, t2, t3]
          (refine Am.wpAnyM_take (i := 53) (v := ?_) rfl (by kernel_rfl) (by kernel_rfl) (by kernel_rfl) (by kernel_rfl) (by kernel_rfl) (fun _ _ _ h => h) (Or.inl ⟨by kernel_rfl, ?_⟩) hS ?_; rotate_left 1; (focus (intro w' hSw; (try dsimp only at hSw); go_simp; try (with_reducible rfl))); try simp only [Act.put, List.getElem_toArray, List.getElem_cons_zero, List.getElem_cons_succ, List.setIfInBounds_toArray, List.set_cons_zero, List.set_cons_succ])
          (refine Am.wpAnyM_take (i := 54) (v := ?_) rfl (by kernel_rfl) (by kernel_rfl) (by kernel_rfl) (by kernel_rfl) (by kernel_rfl) (fun _ _ _ h => h) (Or.inl ⟨by kernel_rfl, ?_⟩) hS ?_; rotate_left 1; (focus (intro w' hSw; (try dsimp only at hSw); go_simp; try (with_reducible rfl))); try simp only [Act.put, List.getElem_toArray, List.getElem_cons_zero, List.getElem_cons_succ, List.setIfInBounds_toArray, List.set_cons_zero, List.set_cons_succ])
          (refine Am.wpAnyM_take (i := 55) (v := ?_) rfl (by kernel_rfl) (by kernel_rfl) (by kernel_rfl) (by kernel_rfl) (by kernel_rfl) (fun _ _ _ h => h) (Or.inl ⟨by kernel_rfl, ?_⟩) hS ?_; rotate_left 1; (focus (intro w' hSw; (try dsimp only at hSw); go_simp; try (with_reducible rfl))); try simp only [Act.put, List.getElem_toArray, List.getElem_cons_zero, List.getElem_cons_succ, List.setIfInBounds_toArray, List.set_cons_zero, List.set_cons_succ])
          (refine Am.wpAnyM_take (i := 56) (v := ?_) rfl (by kernel_rfl) (by kernel_rfl) (by kernel_rfl) (by kernel_rfl) (by kernel_rfl) (fun _ _ _ h => h) (Or.inl ⟨by kernel_rfl, ?_⟩) hS ?_; rotate_left 1; (focus (intro w' hSw; (try dsimp only at hSw); go_simp; try (with_reducible rfl))); try simp only [Act.put, List.getElem_toArray, List.getElem_cons_zero, List.getElem_cons_succ, List.setIfInBounds_toArray, List.set_cons_zero, List.set_cons_succ])
          (refine Am.wpAnyM_take (i := 57) (v := ?_) rfl (by kernel_rfl) (by kernel_rfl) (by kernel_rfl) (by kernel_rfl) (by kernel_rfl) (fun _ _ _ h => h) (Or.inl ⟨by kernel_rfl, ?_⟩) hS ?_; rotate_left 1; (focus (intro w' hSw; (try dsimp only at hSw); go_simp; try (with_reducible rfl))); try simp only [Act.put, List.getElem_toArray, List.getElem_cons_zero, List.getElem_cons_succ, List.setIfInBounds_toArray, List.set_cons_zero, List.set_cons_succ])
          refine wpAnyM_only (i := 58) (by kernel_rfl) (by exact rfl) (by kernel_rfl) ?_
          intro K hK
          go_simp
          refine (C5.out _).mono ?_
          rintro e v58 ⟨rfl, hb⟩
          replace B1 := Bk.old B1 hb
          replace B2 := Bk.old B2 hb
          replace B3 := Bk.old B3 hb
          replace B4 := Bk.old B4 hb
          replace hc := bl_trans hc hb
          clear hb h1 h2 h3 h4
          have h1 := B1.lt
          have h2 := B2.lt
          have h3 := B3.lt
          have h4 := B4.lt
          go_simp
          refine hK.out _ _ (c16 B1 B2 B3 B4) (fun hS => ?_)
          clear hK K
          try simp only [Act.put, List.getElem_toArray, List.getElem_cons_zero, List.getElem_cons_succ, List.setIfInBounds_toArray, List.set_cons_zero, List.set_cons_succ]
          (refine Am.wpAnyM_take (i := 59) (v := ?_) rfl (by kernel_rfl) (by kernel_rfl) (by kernel_rfl) (by kernel_rfl) (by kernel_rfl) (fun _ _ _ h => h) (Or.inl ⟨by kernel_rfl, ?_⟩) hS ?_; rotate_left 1; (focus (intro w' hSw; (try dsimp only at hSw); go_simp; try (with_reducible rfl))); try simp only [Act.put, List.getElem_toArray, List.getElem_cons_zero, List.getElem_cons_succ, List.setIfInBounds_toArray, List.set_cons_zero, List.set_cons_succ])
          (refine Am.wpAnyM_take (i := 60) (v := ?_) rfl (by kernel_rfl) (by kernel_rfl) (by kernel_rfl) (by kernel_rfl) (by kernel_rfl) (fun _ _ _ h => h) (Or.inl ⟨by kernel_rfl, ?_⟩) hS ?_; rotate_left 1; (focus (intro w' hSw; (try dsimp only at hSw); go_simp; try (with_reducible rfl))); try simp only [Act.put, List.getElem_toArray, List.getElem_cons_zero, List.getElem_cons_succ, List.setIfInBounds_toArray, List.set_cons_zero, List.set_cons_succ])
          (refine Am.wpAnyM_take (i := 61) (v := ?_) rfl (by kernel_rfl) (by kernel_rfl) (by kernel_rfl) (by kernel_rfl) (by kernel_rfl) (fun _ _ _ h => h) (Or.inl ⟨by kernel_rfl, ?_⟩) hS ?_; rotate_left 1; (focus (intro w' hSw; (try dsimp only at hSw); go_simp; try (with_reducible rfl))); try simp only [Act.put, List.getElem_toArray, List.getElem_cons_zero, List.getElem_cons_succ, List.setIfInBounds_toArray, List.set_cons_zero, List.set_cons_succ])
          (refine Am.wpAnyM_take (i := 62) (v := ?_) rfl (by kernel_rfl) (by kernel_rfl) (by kernel_rfl) (by kernel_rfl) (by kernel_rfl) (fun _ _ _ h => h) (Or.inl ⟨by kernel_rfl, ?_⟩) hS ?_; rotate_left 1; (focus (intro w' hSw; (try dsimp only at hSw); go_simp; try (with_reducible rfl))); try simp only [Act.put, List.getElem_toArray, List.getElem_cons_zero, List.getElem_cons_succ, List.setIfInBounds_toArray, List.set_cons_zero, List.set_cons_succ])
          refine wpAnyM_only (i := 63) (by kernel_rfl) (by exact rfl) (by kernel_rfl) ?_
          intro K hK
          go_simp
          refine (sane_any _).mono ?_
          rintro e v63 ⟨rfl, hb⟩
          replace B1 := Bk.old B1 hb
          replace B2 := Bk.old B2 hb
          replace B3 := Bk.old B3 hb
          replace B4 := Bk.old B4 hb
          replace hc := bl_trans hc hb
          clear hb h1 h2 h3 h4
          have h1 := B1.lt
          have h2 := B2.lt
          have h3 := B3.lt
          have h4 := B4.lt
          go_simp
          refine hK.out _ _ (c16 B1 B2 B3 B4) (fun hS => ?_)
          clear hK K
          try simp only [Act.put, List.getElem_toArray, List.getElem_cons_zero, List.getElem_cons_succ, List.setIfInBounds_toArray, List.set_cons_zero, List.set_cons_succ]
          (refine Am.wpAnyM_take (i := 64) (v := ?_) rfl (by kernel_rfl) (by kernel_rfl) (by kernel_rfl) (by kernel_rfl) (by kernel_rfl) (fun _ _ _ h => h) (Or.inl ⟨by kernel_rfl, ?_⟩) hS ?_; rotate_left 1; (focus (intro w' hSw; (try dsimp only at hSw); go_simp; try (with_reducible rfl))); try simp only [Act.put, List.getElem_toArray, List.getElem_cons_zero, List.getElem_cons_succ, List.setIfInBounds_toArray, List.set_cons_zero, List.set_cons_succ])
          (refine Am.wpAnyM_take (i := 65) (v := ?_) rfl (by kernel_rfl) (by kernel_rfl) (by kernel_rfl) (by kernel_rfl) (by kernel_rfl) (fun _ _ _ h => h) (Or.inl ⟨by kernel_rfl, ?_⟩) hS ?_; rotate_left 1; (focus (intro w' hSw; (try dsimp only at hSw); go_simp; try (with_reducible rfl))); try simp only [Act.put, List.getElem_toArray, List.getElem_cons_zero, List.getElem_cons_succ, List.setIfInBounds_toArray, List.set_cons_zero, List.set_cons_succ])
          refine Am.wpAnyM_done (by kernel_rfl) ?_ _
          go_wp2_with fail
          go_ret
          exact ⟨rfl, hc⟩
    -- END
  · have HL := Lib.hid (show ∀ W : World, Calls Try.prog 7 #[.slice A0 l0.length c0] W fun e w' => e = .returned (.bool false) ∧ W = w' from fun W => by have h6 := light_any l0 A0 c0 W; rwa [decide_eq_false hL] at h6)
    clear hr hi
    go_enter Try.func6, Try.ntmps6
    go_wp2_with fail
    refine (HL.out _).mono ?_
    rintro e w0 ⟨rfl, rfl⟩
    go_wp2_with fail
    refine (sane_any _).mono ?_
    rintro e w1 ⟨rfl, hb1⟩
    go_wp2_with fail
    go_ret
    exact ⟨rfl, hb1⟩
end Go.Proofs.Ytmdgghdmfipllaa.Tr
