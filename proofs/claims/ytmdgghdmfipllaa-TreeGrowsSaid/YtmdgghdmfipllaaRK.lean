/- Walks: the statements TreeShape and TreePaths. -/
import Derived.Test.YtmdgghdmfipllaaRJ
import Derived.WalkKit
import Derived.WalkSpells
import Derived.WalkLawsBesides
import Derived.Deep.QuietTactic
import Derived.BigQuiet
import Derived.Deep.Draws
import Derived.Deep.AppendLies
import Derived.Laws.OwnMore
import Derived.Laws.BytesArg
import Derived.Lib.Hide
import Derived.Deep.LoopGhost
import Derived.RegionTactic
namespace Go.Proofs.Ytmdgghdmfipllaa.Tr
open Go.RowKit Go.Proofs.Ytmdgghdmfipllaa.Dg
open Go.Proofs.Ytmdgghdmfipllaa.Mw (I64 ret_int ret_bool Bk bl_trans own_ints RdI bl_gb)
open Go.Proofs.Ytmdgghdmfipllaa.Dc (Di DI next_any roll_any light_any)
set_option linter.unusedVariables false
attribute [local go_sem] eq_dig

/-- In every world that has grown out of w a call returns v. -/
def RC (f : FuncId) (args : Array Value) (w : World) (v : Value) : Prop := ∀ x, Calls Try.prog f args (Mm.ext w x) fun e w'' => e = .returned v ∧ ∃ y, w'' = Mm.ext w y
theorem RC.call {f : FuncId} {args : Array Value} {w : World} {v : Value} (h : RC f args w v) (x : Mm.Ex) : Calls Try.prog f args (Mm.ext w x) fun e w'' => e = .returned v ∧ ∃ y, w'' = Mm.ext w y := h x
theorem RC.of {f : FuncId} {args : Array Value} {w : World} {v : Value} (h : ∀ W, Below w.heap.size w W → Calls Try.prog f args W fun e w' => e = .returned v ∧ Below W.heap.size W w') : RC f args w v := fun x => Mm.calls_ext (h _ (Mm.ext_below w x))
theorem RC.same {f : FuncId} {args : Array Value} {w : World} {v : Value} (h : ∀ W, Calls Try.prog f args W fun e w' => e = .returned v ∧ W = w') : RC f args w v := fun x => Mm.calls_same (h _)
theorem rc_root {w : World} {A : Option Addr} {l : List St} {n c : Nat} (hn : l.length = n) (hl : n ≤ 1000000) (hc : n ≤ c) (hm : c ≤ maxLen) (hr : RdD w A l) : RC 14 #[.slice A n c] w (dv (root l)) := by
  subst hn; exact RC.of fun W hW => proot_ind _ l A c W (Nat.le_refl _) hl hc hm (hr.old hW)
theorem rc_rroot {w : World} {A : Option Addr} {l : List St} {n c : Nat} (hn : l.length = n) (hl : n ≤ 1000000) (hc : n ≤ c) (hm : c ≤ maxLen) (hr : RdD w A l) : RC 17 #[.slice A n c] w (dv (root l)) := by
  subst hn; exact RC.of fun W hW => rroot_ind _ l A c W (Nat.le_refl _) hl hc hm (hr.old hW)
theorem rc_leaf {w : World} (d : St) : RC 13 #[dv d] w (dv (leaf d)) := RC.of fun W _ => leaf_any d W
theorem rc_join {w : World} (a b : St) : RC 19 #[dv a, dv b] w (dv (jn a b)) := RC.of fun W _ => join_any a b W
theorem rc_sane {w : World} : RC 8 #[] w (.bool true) := RC.of fun W _ => sane_any W
theorem pow_split {m j : Nat} (h : m = 2 ^ j) (h1 : 1 < m) : ∃ m' : Nat, m = 2 * m' ∧ m' = 2 ^ (j - 1) := by
  cases j with
  | zero => simp at h; omega
  | succ j => exact ⟨2 ^ j, by rw [h, Nat.pow_succ]; omega, by simp⟩

set_option maxHeartbeats 2000000 in
set_option maxRecDepth 100000 in
theorem shape_any (l0 : List Int) (A0 : Option Addr) (c0 : Nat) (n : Int) (w : World) (hr : RdI w .i64 A0 l0) (hi : ∀ x ∈ l0, I64 x) (hn0 : 0 ≤ n) (hn1 : n ≤ 255) :
    Calls Try.prog 4 #[.slice A0 l0.length c0, .int .u8 n] w fun e w' => e = .returned (.bool true) ∧ Below w.heap.size w w' := by
  by_cases hL : l0.length ≤ 600
  · obtain ⟨K, hK⟩ : ∃ K : Nat, 2 + n % 60 = (K : Int) := ⟨(2 + n % 60).toNat, by omega⟩
    have hK1 : 2 ≤ K := by omega
    have hK2 : K ≤ 61 := by omega
    have q0 : 0 ≤ n % 60 := by omega
    have q1 : n % 60 < 60 := by omega
    have HK := Lib.hid hK
    have HL := Lib.hid (show ∀ W : World, Calls Try.prog 7 #[.slice A0 l0.length c0] W fun e w' => e = .returned (.bool true) ∧ W = w' from fun W => by have h6 := light_any l0 A0 c0 W; rwa [decide_eq_true hL] at h6)
    have HR := Lib.hid (roll_any l0 A0 c0 w hr (by omega) hi)
    have HD := Lib.hid (show ∀ (W : World) (tp : Nat), Di W tp → Calls Try.prog 10 #[.pointer (some ⟨tp, 0, none⟩), .int .i64 (K : Int)] W (DD K tp W) from fun W tp hd => digests_any tp K W hd (by omega))
    have HS := Lib.hid (show ∀ W : World, Calls Try.prog 18 #[.int .i64 (K : Int)] W fun e w' => e = .returned (.int .i64 (spl K : Int)) ∧ W = w' from fun W => by
      have h6 := split_any (K : Int) (I64n _ (by omega)) W
      rwa [splI_nat] at h6)
    have h4 := spl_pos (n := K) (by omega)
    have h5 := spl_lt (n := K) (by omega)
    have h6 := spl_ge (n := K) (by omega)
    have HE := Lib.hid (spl_eq (n := K) (by omega))
    generalize hs : spl K = s at HS h4 h5 h6 HE
    have Hs := Lib.hid hs
    clear hr hi hs
    go_enter Try.func4, Try.ntmps4
    go_wp2_with fail
    refine (HL.out _).mono ?_
    rintro e w0 ⟨rfl, rfl⟩
    go_wp2_with fail
    refine HR.out.mono ?_
    rintro e w1 ⟨rfl, hd1, hb1⟩
    go_wp2_with fail
    refine (HD.out _ _ hd1).mono ?_
    rintro e w2 ⟨l, A, c, hlen, rfl, hlc, hcm, hr2, hA2, hd2, hg2⟩
    have hb2 : Below w.heap.size w w2 := bl_gb hb1 hg2 (Nat.le_refl _)
    rw [hlen]
    have Hlen := Lib.hid hlen
    rw [hlen] at hlc
    clear hd1 hb1 hd2 hg2 hA2 hlen hK
    go_wp2_with fail
    refine (HS.out _).mono ?_
    rintro e w0 ⟨rfl, rfl⟩
    go_wp2_with fail
    go_loop [8, 9] (fun o x => o = .bool true ∧ ∃ m j : Nat, x = .int .i64 (m : Int) ∧ m = 2 ^ j ∧ m ≤ s) (fun _ x => (intOf x).toNat)
    case atStart => exact ⟨rfl, s, _, rfl, HE.out, Nat.le_refl _⟩
    case round =>
      obtain ⟨rfl, m, j, rfl, hm, hms⟩ := hrel
      have Hm := Lib.hid hm
      clear hm
      by_cases hlt : 1 < m
      · obtain ⟨m', rfl, hm'⟩ := pow_split Hm.out hlt
        have Hm' := Lib.hid hm'
        clear hm' Hm
        have t1 : decide ((1 : Int) < ((2 * m' : Nat) : Int)) = true := decide_eq_true (by omega)
        go_wp2_with fail
        go_round
        case rel => exact ⟨by first | rfl | (simp; done) | (simp; omega), m', _, by go_num, Hm'.out, by omega⟩
        case measure => simp [intOf]; omega
      · have t1 : decide ((1 : Int) < (m : Int)) = false := decide_eq_false (by omega)
        obtain ⟨b, off, rfl, hbl, e0, e1, e2, e3⟩ := hr2.at 0 (by rw [Hlen.out]; omega)
        rw [Nat.zero_mul, Nat.add_zero] at e0 e1 e2 e3
        have hX := root_2 l (by rw [Hlen.out]; omega)
        rw [Hlen.out, Hs.out] at hX
        have R1 : RC 14 #[.slice (some ⟨b, off, none⟩) K c] w2 (dv (root l)) := rc_root Hlen.out (by omega) hlc hcm hr2
        have R2 : RC 14 #[.slice (some ⟨b, off, none⟩) s c] w2 (dv (root (l.take s))) := rc_root (by simp [Hlen.out]; omega) (by omega) (by omega) hcm (hr2.take s)
        have R3 : RC 14 #[.slice (some ⟨b, off + s * 4, none⟩) (K - s) (c - s)] w2 (dv (root (l.drop s))) := rc_root (by simp [Hlen.out]) (by omega) (by omega) (by omega) (hr2.drop s)
        have R4 : RC 14 #[.slice (some ⟨b, off, none⟩) 1 c] w2 (dv (leaf (gd l 0))) := by
          have h7 := rc_root (n := 1) (l := l.take 1) (by simp [Hlen.out]; omega) (by omega) (show 1 ≤ c by omega) hcm (hr2.take 1)
          rwa [root_1 (l.take 1) (by simp [Hlen.out]; omega), gd_take l 1 0 (by omega)] at h7
        have R5 : RC 13 #[.agg #[.int .u32 (gd l 0).1, .int .u32 (gd l 0).2.1, .int .u32 (gd l 0).2.2.1, .int .u32 (gd l 0).2.2.2]] w2 (dv (leaf (gd l 0))) := rc_leaf _
        have R6 : RC 14 #[.slice none 0 0] w2 (dv empty) := by
          have h7 := rc_root (w := w2) (A := none) (n := 0) (l := []) (c := 0) rfl (by omega) (by omega) (by simp) (RdD.nil _ _)
          rwa [root_0 [] rfl] at h7
        have R7 : RC 20 #[.int .u32 2, .slice none 0 0] w2 (dv empty) := RC.of fun W _ => words_any 2 none 0 [] W (by simp) (fun i hi => absurd hi (by simp))
        have R8 : RC 19 #[dv (root (l.take s)), dv (root (l.drop s))] w2 (dv (jn (root (l.take s)) (root (l.drop s)))) := rc_join _ _
        have R9 : RC 8 #[] w2 (.bool true) := rc_sane
        rw [← hX] at R8
        clear hX
        generalize root (l.take s) = X1 at R2 R8
        generalize root (l.drop s) = X2 at R3 R8
        generalize root l = X at R1 R8
        generalize leaf (gd l 0) = Y at R4 R5
        generalize empty = Z at R6 R7
        have x1 : eqb (X.1, X.2.1, X.2.2.1, X.2.2.2) (X.1, X.2.1, X.2.2.1, X.2.2.2) = true := eqb_self _
        have x2 : eqb (Y.1, Y.2.1, Y.2.2.1, Y.2.2.2) (Y.1, Y.2.1, Y.2.2.1, Y.2.2.2) = true := eqb_self _
        have x3 : eqb (Z.1, Z.2.1, Z.2.2.1, Z.2.2.2) (Z.1, Z.2.1, Z.2.2.1, Z.2.2.2) = true := eqb_self _
        have y1 : decide ((1 : Int) ≤ (s : Int)) = true := decide_eq_true (by omega)
        have y2 : decide (s < K) = true := decide_eq_true (by omega)
        have y3 : decide ((K : Int) ≤ 2 * (s : Int)) = true := decide_eq_true (by omega)
        have y4 : (0 : Int) ≤ (s : Int) := by omega
        have y5 : (s : Int) ≤ (K : Int) := by omega
        have y6 : (s : Int) ≤ (c : Int) := by omega
        have y7 : (K : Int) ≤ (c : Int) := by omega
        have y8 : (1 : Int) ≤ (c : Int) := by omega
        have y9 : ¬ c = s := by omega
        have y10 : (0 : Int) < (K : Int) := by omega
        have y11 : 0 < K := by omega
        unfold maxLen at hcm
        clear hr2
        go_wp2_with fail
        have y12 : IntKind.i64.wrap (2 * (s : Int)) = 2 * (s : Int) := IntWalk.i64_in _ (by omega)
        refine Mm.region_ext (by kernel_rfl) (by kernel_rfl) ?_; (repeat (first | go_big_quiet_step ((exact RC.call (by with_reducible assumption) _)) | quiet_step ((exact RC.call (by with_reducible assumption) _)))); refine wpQuiet_nil ?_
        clear y12
        intro w5 hb5
        go_wp2_with fail
        go_ret
        exact ⟨rfl, bl_trans hb2 hb5⟩
  · have HL := Lib.hid (show ∀ W : World, Calls Try.prog 7 #[.slice A0 l0.length c0] W fun e w' => e = .returned (.bool false) ∧ W = w' from fun W => by have h6 := light_any l0 A0 c0 W; rwa [decide_eq_false hL] at h6)
    clear hr hi
    go_enter Try.func4, Try.ntmps4
    go_wp2_with fail
    refine (HL.out _).mono ?_
    rintro e w0 ⟨rfl, rfl⟩
    go_wp2_with fail
    refine (sane_any _).mono ?_
    rintro e w1 ⟨rfl, hb1⟩
    go_wp2_with fail
    go_ret
    exact ⟨rfl, hb1⟩

set_option maxHeartbeats 4000000 in
set_option maxRecDepth 100000 in
theorem paths_any (l0 : List Int) (A0 : Option Addr) (c0 : Nat) (n ix : Int) (w : World) (hr : RdI w .i64 A0 l0) (hi : ∀ x ∈ l0, I64 x) (hn0 : 0 ≤ n) (hn1 : n ≤ 255) (hx0 : 0 ≤ ix) (hx1 : ix ≤ 255) :
    Calls Try.prog 3 #[.slice A0 l0.length c0, .int .u8 n, .int .u8 ix] w fun e w' => e = .returned (.bool true) ∧ Below w.heap.size w w' := by
  by_cases hL : l0.length ≤ 600
  · obtain ⟨K, hK⟩ : ∃ K : Nat, 1 + n % 40 = (K : Int) := ⟨(1 + n % 40).toNat, by omega⟩
    obtain ⟨I, hI⟩ : ∃ I : Nat, ix % (K : Int) = (I : Int) := ⟨(ix % (K : Int)).toNat, by have := Int.emod_nonneg ix (show (K : Int) ≠ 0 by omega); omega⟩
    have hK1 : 1 ≤ K := by omega
    have hK2 : K ≤ 40 := by omega
    have hI1 : I < K := by have := Int.emod_lt_of_pos ix (show (0 : Int) < (K : Int) by omega); omega
    have q0 : 0 ≤ n % 40 := by omega
    have q1 : n % 40 < 40 := by omega
    have q2 : (0 : Int) < (K : Int) := by omega
    have HL := Lib.hid (show ∀ W : World, Calls Try.prog 7 #[.slice A0 l0.length c0] W fun e w' => e = .returned (.bool true) ∧ W = w' from fun W => by have h6 := light_any l0 A0 c0 W; rwa [decide_eq_true hL] at h6)
    have HR := Lib.hid (roll_any l0 A0 c0 w hr (by omega) hi)
    have HD := Lib.hid (show ∀ (W : World) (tp : Nat), Di W tp → Calls Try.prog 10 #[.pointer (some ⟨tp, 0, none⟩), .int .i64 (K : Int)] W (DD K tp W) from fun W tp hd => digests_any tp K W hd (by omega))
    clear hr hi
    go_enter Try.func3, Try.ntmps3
    go_wp2_with fail
    refine (HL.out _).mono ?_
    rintro e w0 ⟨rfl, rfl⟩
    go_wp2_with fail
    refine HR.out.mono ?_
    rintro e w1 ⟨rfl, hd1, hb1⟩
    go_wp2_with fail
    refine (HD.out _ _ hd1).mono ?_
    rintro e w2 ⟨l, A, c, hlen, rfl, hlc, hcm, hl, hA2, hd2, hg2⟩
    have hc : Below w.heap.size w w2 := bl_gb hb1 hg2 (Nat.le_refl _)
    obtain ⟨b, off, rfl, hbl, -⟩ := hl.at 0 (by omega)
    have hP : pathE l (I : Int) = (path l I, 0) := by unfold pathE; rw [if_neg (by omega), if_neg (by omega), Int.toNat_natCast]
    have hpl := path_len 6 l I (by omega)
    have HP := Lib.hid (show ∀ W : World, RdD W (some ⟨b, off, none⟩) l → Calls Try.prog 11 #[.slice (some ⟨b, off, none⟩) K c, .int .i64 (I : Int)] W (PE (path l I, 0) W) from fun W hr => by
      have h6 := ppath_any l (some ⟨b, off, none⟩) c (I : Int) W (by omega) hlc hcm hr
      rwa [hP, hlen] at h6)
    have hE : ∀ lf : St, leadE lf (I : Int) (K : Int) (path l I) = ((lead lf I K (path l I)).1, 0) := fun lf => by
      have h6 := lead_ok _ l lf I (Nat.le_refl _) (by omega)
      rw [hlen] at h6
      unfold leadE; rw [if_neg (by omega), if_neg (by omega), Int.toNat_natCast, Int.toNat_natCast, if_pos h6]
    have HE := Lib.hid (show ∀ (lf : St) (W : World) (B : Option Addr) (d : Nat), (path l I).length ≤ d → d ≤ maxLen → RdD W B (path l I) → Calls Try.prog 12 #[dv lf, .int .i64 (I : Int), .int .i64 (K : Int), .slice B (path l I).length d] W (LE ((lead lf I K (path l I)).1, 0) W) from fun lf W B d h7 h8 hr => by
      rw [← hE]; exact plead_any lf I K (path l I) B d W (by omega) h7 h8 hr)
    have HF := Lib.hid (show ∀ (lf : St) (W : World) (B : Option Addr) (d : Nat), (path l I).length ≤ d → d ≤ maxLen → RdD W B (path l I) → Calls Try.prog 15 #[dv lf, .int .i64 (I : Int), .int .i64 (K : Int), .slice B (path l I).length d] W (LE ((lead lf I K (path l I)).1, 0) W) from fun lf W B d h7 h8 hr => by
      rw [← hE]; exact rlead_any lf I K (path l I) B d W (by omega) h7 h8 hr)
    have hLP : (lead (leaf (gd l I)) I K (path l I)).1 = root l := by
      have h6 := lead_path _ l I (Nat.le_refl _) (by omega)
      rw [hlen] at h6; rw [h6]
    have HLP := Lib.hid hLP
    have HLeaf := Lib.hid (show ∀ (d : St) (W : World), Calls Try.prog 13 #[dv d] W fun e w' => e = .returned (dv (leaf d)) ∧ Below W.heap.size W w' from fun d W => leaf_any d W)
    have HRl := Lib.hid (show ∀ (d : St) (W : World), Calls Try.prog 16 #[dv d] W fun e w' => e = .returned (dv (leaf d)) ∧ Below W.heap.size W w' from fun d W => rleaf_any d W)
    have HRt := Lib.hid (show ∀ W : World, RdD W (some ⟨b, off, none⟩) l → RC 14 #[.slice (some ⟨b, off, none⟩) K c] W (dv (root l)) from fun W hr => rc_root hlen (by omega) (by omega) hcm hr)
    have HRr := Lib.hid (show ∀ W : World, RdD W (some ⟨b, off, none⟩) l → RC 17 #[.slice (some ⟨b, off, none⟩) K c] W (dv (root l)) from fun W hr => rc_rroot hlen (by omega) (by omega) hcm hr)
    generalize path l I = p at HP HE HF HLP hpl
    rw [hlen]
    have Hlen := Lib.hid hlen
    clear hd1 hb1 hd2 hg2 hA2 hlen hP hE hLP
    have y1 : (0 : Int) ≤ (I : Int) := by omega
    have y2 : (I : Int) < (K : Int) := by omega
    go_wp2_with fail
    refine (HP.out _ hl).mono ?_
    rintro e w3 ⟨B, d, rfl, hp1, hp2, hp, hb3⟩
    replace hl : RdD w3 (some ⟨b, off, none⟩) l := RdD.old (by (repeat (first | with_reducible assumption | with_reducible refine RdD.alloc ?_ _ | with_reducible refine RdD.drew ?_ | with_reducible refine RdD.drewN ?_ _))) hb3
    replace hc : Below w.heap.size w w3 := bl_trans (by (repeat (first | with_reducible exact Below.refl _ _ | with_reducible refine bl_drewN ?_ _ | with_reducible refine Below.drew ?_ | with_reducible refine bl_alloc ?_ _ | with_reducible refine Below.alloc ?_ (by first | omega | (simp; done) | (simp; omega)) _ | with_reducible refine Below.setCell ?_ (by first | omega | (simp; done) | (simp; omega)) _ | with_reducible assumption))) hb3
    clear hb3
    obtain ⟨b', off', e', hbl', e0, e1, e2, e3⟩ := hl.at I (by rw [Hlen.out]; omega)
    cases e'
    go_wp2_with fail
    refine (HLeaf.out (gd l I) _).mono ?_
    rintro e w4 ⟨rfl, hb4⟩
    clear e0 e1 e2 e3
    replace hl : RdD w4 (some ⟨b, off, none⟩) l := RdD.old (by (repeat (first | with_reducible assumption | with_reducible refine RdD.alloc ?_ _ | with_reducible refine RdD.drew ?_ | with_reducible refine RdD.drewN ?_ _))) hb4
    replace hp : RdD w4 B p := RdD.old (by (repeat (first | with_reducible assumption | with_reducible refine RdD.alloc ?_ _ | with_reducible refine RdD.drew ?_ | with_reducible refine RdD.drewN ?_ _))) hb4
    replace hc : Below w.heap.size w w4 := bl_trans (by (repeat (first | with_reducible exact Below.refl _ _ | with_reducible refine bl_drewN ?_ _ | with_reducible refine Below.drew ?_ | with_reducible refine bl_alloc ?_ _ | with_reducible refine Below.alloc ?_ (by first | omega | (simp; done) | (simp; omega)) _ | with_reducible refine Below.setCell ?_ (by first | omega | (simp; done) | (simp; omega)) _ | with_reducible assumption))) hb4
    clear hb4
    go_wp2_with fail
    refine (HE.out _ _ _ _ hp1 hp2 hp).mono ?_
    rintro e w5 ⟨rfl, hb5⟩
    rw [HLP.out]
    replace hl : RdD w5 (some ⟨b, off, none⟩) l := RdD.old (by (repeat (first | with_reducible assumption | with_reducible refine RdD.alloc ?_ _ | with_reducible refine RdD.drew ?_ | with_reducible refine RdD.drewN ?_ _))) hb5
    replace hp : RdD w5 B p := RdD.old (by (repeat (first | with_reducible assumption | with_reducible refine RdD.alloc ?_ _ | with_reducible refine RdD.drew ?_ | with_reducible refine RdD.drewN ?_ _))) hb5
    replace hc : Below w.heap.size w w5 := bl_trans (by (repeat (first | with_reducible exact Below.refl _ _ | with_reducible refine bl_drewN ?_ _ | with_reducible refine Below.drew ?_ | with_reducible refine bl_alloc ?_ _ | with_reducible refine Below.alloc ?_ (by first | omega | (simp; done) | (simp; omega)) _ | with_reducible refine Below.setCell ?_ (by first | omega | (simp; done) | (simp; omega)) _ | with_reducible assumption))) hb5
    clear hb5
    generalize root l = X at HRt HRr ⊢
    have R1 := HRt.out _ (hl.alloc (.cells (c4 X) 34))
    have x1 : eqb (X.1, X.2.1, X.2.2.1, X.2.2.2) (X.1, X.2.1, X.2.2.1, X.2.2.2) = true := eqb_self _
    have y3 : decide (6 < p.length) = false := decide_eq_false (by omega)
    have y4 : decide ((6 : Int) < (p.length : Int)) = false := decide_eq_false (by omega)
    have hx : Bk (w5.alloc (.cells (c4 X) 34)) w5.heap.size 34 (c4 X) := Mw.Bk.new _ _ _
    go_wp2_with fail
    refine Mm.region_ext (by kernel_rfl) (by kernel_rfl) ?_; (repeat (first | go_big_quiet_step ((exact RC.call (by with_reducible assumption) _)) | quiet_step ((exact RC.call (by with_reducible assumption) _)))); refine wpQuiet_nil ?_
    intro w6 hb6
    clear R1
    replace hl : RdD w6 (some ⟨b, off, none⟩) l := RdD.old (by (repeat (first | with_reducible assumption | with_reducible refine RdD.alloc ?_ _ | with_reducible refine RdD.drew ?_ | with_reducible refine RdD.drewN ?_ _))) hb6
    replace hp : RdD w6 B p := RdD.old (by (repeat (first | with_reducible assumption | with_reducible refine RdD.alloc ?_ _ | with_reducible refine RdD.drew ?_ | with_reducible refine RdD.drewN ?_ _))) hb6
    replace hx : Bk w6 w5.heap.size 34 (c4 X) := Mw.Bk.old (by (repeat (first | with_reducible assumption | ((with_reducible refine Mw.Bk.new' ?_); (first | rfl | (simp; done) | (simp; omega))) | with_reducible refine Mw.Bk.alloc ?_ _ | with_reducible refine Mw.Bk.drew ?_ | with_reducible refine Mw.Bk.drewN ?_ _ | with_reducible refine Mw.Bk.set4 (a0 := .int .u32 0) (a1 := .int .u32 0) (a2 := .int .u32 0) (a3 := .int .u32 0) ?_ | ((with_reducible refine Mw.Bk.far ?_ ?_ _); rotate_left 1; focus (first | omega | (simp; done) | (simp; omega))) | with_reducible refine Mw.Bk.old ?_ (by assumption)))) hb6
    replace hc : Below w.heap.size w w6 := bl_trans (by (repeat (first | with_reducible exact Below.refl _ _ | with_reducible refine bl_drewN ?_ _ | with_reducible refine Below.drew ?_ | with_reducible refine bl_alloc ?_ _ | with_reducible refine Below.alloc ?_ (by first | omega | (simp; done) | (simp; omega)) _ | with_reducible refine Below.setCell ?_ (by first | omega | (simp; done) | (simp; omega)) _ | with_reducible assumption))) hb6
    clear hb6
    obtain ⟨b', off', e', hbl', e0, e1, e2, e3⟩ := hl.at I (by rw [Hlen.out]; omega)
    cases e'
    have g0 := hx.lt
    generalize gd l I = D at e0 e1 e2 e3
    go_wp2_with fail
    refine (HLeaf.out ((D.1 + 1) % 4294967296, D.2.1, D.2.2.1, D.2.2.2) _).mono ?_
    rintro e w7 ⟨rfl, hb7⟩
    clear e0 e1 e2 e3 g0
    have ho : Bk w7 w6.heap.size 34 #[.int .u32 ((D.1 + 1) % 4294967296), .int .u32 D.2.1, .int .u32 D.2.2.1, .int .u32 D.2.2.2] := Mw.Bk.old (by (repeat (first | with_reducible assumption | ((with_reducible refine Mw.Bk.new' ?_); (first | rfl | (simp; done) | (simp; omega))) | with_reducible refine Mw.Bk.alloc ?_ _ | with_reducible refine Mw.Bk.drew ?_ | with_reducible refine Mw.Bk.drewN ?_ _ | with_reducible refine Mw.Bk.set4 (a0 := .int .u32 0) (a1 := .int .u32 0) (a2 := .int .u32 0) (a3 := .int .u32 0) ?_ | ((with_reducible refine Mw.Bk.far ?_ ?_ _); rotate_left 1; focus (first | omega | (simp; done) | (simp; omega))) | with_reducible refine Mw.Bk.old ?_ (by assumption)))) hb7
    replace hl : RdD w7 (some ⟨b, off, none⟩) l := RdD.old (by (repeat (first | with_reducible assumption | with_reducible refine RdD.alloc ?_ _ | with_reducible refine RdD.drew ?_ | with_reducible refine RdD.drewN ?_ _))) hb7
    replace hp : RdD w7 B p := RdD.old (by (repeat (first | with_reducible assumption | with_reducible refine RdD.alloc ?_ _ | with_reducible refine RdD.drew ?_ | with_reducible refine RdD.drewN ?_ _))) hb7
    replace hx : Bk w7 w5.heap.size 34 (c4 X) := Mw.Bk.old (by (repeat (first | with_reducible assumption | ((with_reducible refine Mw.Bk.new' ?_); (first | rfl | (simp; done) | (simp; omega))) | with_reducible refine Mw.Bk.alloc ?_ _ | with_reducible refine Mw.Bk.drew ?_ | with_reducible refine Mw.Bk.drewN ?_ _ | with_reducible refine Mw.Bk.set4 (a0 := .int .u32 0) (a1 := .int .u32 0) (a2 := .int .u32 0) (a3 := .int .u32 0) ?_ | ((with_reducible refine Mw.Bk.far ?_ ?_ _); rotate_left 1; focus (first | omega | (simp; done) | (simp; omega))) | with_reducible refine Mw.Bk.old ?_ (by assumption)))) hb7
    replace hc : Below w.heap.size w w7 := bl_trans (by (repeat (first | with_reducible exact Below.refl _ _ | with_reducible refine bl_drewN ?_ _ | with_reducible refine Below.drew ?_ | with_reducible refine bl_alloc ?_ _ | with_reducible refine Below.alloc ?_ (by first | omega | (simp; done) | (simp; omega)) _ | with_reducible refine Below.setCell ?_ (by first | omega | (simp; done) | (simp; omega)) _ | with_reducible assumption))) hb7
    clear hb7
    go_wp2_with fail
    refine (HE.out _ _ _ _ hp1 hp2 hp).mono ?_
    rintro e w8 ⟨rfl, hb8⟩
    replace hl : RdD w8 (some ⟨b, off, none⟩) l := RdD.old (by (repeat (first | with_reducible assumption | with_reducible refine RdD.alloc ?_ _ | with_reducible refine RdD.drew ?_ | with_reducible refine RdD.drewN ?_ _))) hb8
    replace hp : RdD w8 B p := RdD.old (by (repeat (first | with_reducible assumption | with_reducible refine RdD.alloc ?_ _ | with_reducible refine RdD.drew ?_ | with_reducible refine RdD.drewN ?_ _))) hb8
    replace hx : Bk w8 w5.heap.size 34 (c4 X) := Mw.Bk.old (by (repeat (first | with_reducible assumption | ((with_reducible refine Mw.Bk.new' ?_); (first | rfl | (simp; done) | (simp; omega))) | with_reducible refine Mw.Bk.alloc ?_ _ | with_reducible refine Mw.Bk.drew ?_ | with_reducible refine Mw.Bk.drewN ?_ _ | with_reducible refine Mw.Bk.set4 (a0 := .int .u32 0) (a1 := .int .u32 0) (a2 := .int .u32 0) (a3 := .int .u32 0) ?_ | ((with_reducible refine Mw.Bk.far ?_ ?_ _); rotate_left 1; focus (first | omega | (simp; done) | (simp; omega))) | with_reducible refine Mw.Bk.old ?_ (by assumption)))) hb8
    replace ho : Bk w8 w6.heap.size 34 #[.int .u32 ((D.1 + 1) % 4294967296), .int .u32 D.2.1, .int .u32 D.2.2.1, .int .u32 D.2.2.2] := Mw.Bk.old (by (repeat (first | with_reducible assumption | ((with_reducible refine Mw.Bk.new' ?_); (first | rfl | (simp; done) | (simp; omega))) | with_reducible refine Mw.Bk.alloc ?_ _ | with_reducible refine Mw.Bk.drew ?_ | with_reducible refine Mw.Bk.drewN ?_ _ | with_reducible refine Mw.Bk.set4 (a0 := .int .u32 0) (a1 := .int .u32 0) (a2 := .int .u32 0) (a3 := .int .u32 0) ?_ | ((with_reducible refine Mw.Bk.far ?_ ?_ _); rotate_left 1; focus (first | omega | (simp; done) | (simp; omega))) | with_reducible refine Mw.Bk.old ?_ (by assumption)))) hb8
    replace hc : Below w.heap.size w w8 := bl_trans (by (repeat (first | with_reducible exact Below.refl _ _ | with_reducible refine bl_drewN ?_ _ | with_reducible refine Below.drew ?_ | with_reducible refine bl_alloc ?_ _ | with_reducible refine Below.alloc ?_ (by first | omega | (simp; done) | (simp; omega)) _ | with_reducible refine Below.setCell ?_ (by first | omega | (simp; done) | (simp; omega)) _ | with_reducible assumption))) hb8
    clear hb8
    obtain ⟨⟨e0, e1, e2, e3⟩, -⟩ := bk4 ho
    have g0 := ho.lt
    go_wp2_with fail
    refine (HRl.out ((D.1 + 1) % 4294967296, D.2.1, D.2.2.1, D.2.2.2) _).mono ?_
    rintro e w9 ⟨rfl, hb9⟩
    generalize leaf ((D.1 + 1) % 4294967296, D.2.1, D.2.2.1, D.2.2.2) = LF at hb9 ⊢
    generalize hY : (lead LF I K p).1 = Y at hb9 ⊢
    have HY := Lib.hid hY
    have hy : Bk w9 w8.heap.size 34 (c4 Y) := Mw.Bk.old (by (repeat (first | with_reducible assumption | ((with_reducible refine Mw.Bk.new' ?_); (first | rfl | (simp; done) | (simp; omega))) | with_reducible refine Mw.Bk.alloc ?_ _ | with_reducible refine Mw.Bk.drew ?_ | with_reducible refine Mw.Bk.drewN ?_ _ | with_reducible refine Mw.Bk.set4 (a0 := .int .u32 0) (a1 := .int .u32 0) (a2 := .int .u32 0) (a3 := .int .u32 0) ?_ | ((with_reducible refine Mw.Bk.far ?_ ?_ _); rotate_left 1; focus (first | omega | (simp; done) | (simp; omega))) | with_reducible refine Mw.Bk.old ?_ (by assumption)))) hb9
    clear e0 e1 e2 e3 g0 hY
    replace hl : RdD w9 (some ⟨b, off, none⟩) l := RdD.old (by (repeat (first | with_reducible assumption | with_reducible refine RdD.alloc ?_ _ | with_reducible refine RdD.drew ?_ | with_reducible refine RdD.drewN ?_ _))) hb9
    replace hp : RdD w9 B p := RdD.old (by (repeat (first | with_reducible assumption | with_reducible refine RdD.alloc ?_ _ | with_reducible refine RdD.drew ?_ | with_reducible refine RdD.drewN ?_ _))) hb9
    replace hx : Bk w9 w5.heap.size 34 (c4 X) := Mw.Bk.old (by (repeat (first | with_reducible assumption | ((with_reducible refine Mw.Bk.new' ?_); (first | rfl | (simp; done) | (simp; omega))) | with_reducible refine Mw.Bk.alloc ?_ _ | with_reducible refine Mw.Bk.drew ?_ | with_reducible refine Mw.Bk.drewN ?_ _ | with_reducible refine Mw.Bk.set4 (a0 := .int .u32 0) (a1 := .int .u32 0) (a2 := .int .u32 0) (a3 := .int .u32 0) ?_ | ((with_reducible refine Mw.Bk.far ?_ ?_ _); rotate_left 1; focus (first | omega | (simp; done) | (simp; omega))) | with_reducible refine Mw.Bk.old ?_ (by assumption)))) hb9
    replace ho : Bk w9 w6.heap.size 34 #[.int .u32 ((D.1 + 1) % 4294967296), .int .u32 D.2.1, .int .u32 D.2.2.1, .int .u32 D.2.2.2] := Mw.Bk.old (by (repeat (first | with_reducible assumption | ((with_reducible refine Mw.Bk.new' ?_); (first | rfl | (simp; done) | (simp; omega))) | with_reducible refine Mw.Bk.alloc ?_ _ | with_reducible refine Mw.Bk.drew ?_ | with_reducible refine Mw.Bk.drewN ?_ _ | with_reducible refine Mw.Bk.set4 (a0 := .int .u32 0) (a1 := .int .u32 0) (a2 := .int .u32 0) (a3 := .int .u32 0) ?_ | ((with_reducible refine Mw.Bk.far ?_ ?_ _); rotate_left 1; focus (first | omega | (simp; done) | (simp; omega))) | with_reducible refine Mw.Bk.old ?_ (by assumption)))) hb9
    replace hc : Below w.heap.size w w9 := bl_trans (by (repeat (first | with_reducible exact Below.refl _ _ | with_reducible refine bl_drewN ?_ _ | with_reducible refine Below.drew ?_ | with_reducible refine bl_alloc ?_ _ | with_reducible refine Below.alloc ?_ (by first | omega | (simp; done) | (simp; omega)) _ | with_reducible refine Below.setCell ?_ (by first | omega | (simp; done) | (simp; omega)) _ | with_reducible assumption))) hb9
    clear hb9
    go_wp2_with fail
    refine (HF.out _ _ _ _ hp1 hp2 hp).mono ?_
    rintro e w10 ⟨rfl, hb10⟩
    rw [HY.out]
    replace hl : RdD w10 (some ⟨b, off, none⟩) l := RdD.old (by (repeat (first | with_reducible assumption | with_reducible refine RdD.alloc ?_ _ | with_reducible refine RdD.drew ?_ | with_reducible refine RdD.drewN ?_ _))) hb10
    replace hp : RdD w10 B p := RdD.old (by (repeat (first | with_reducible assumption | with_reducible refine RdD.alloc ?_ _ | with_reducible refine RdD.drew ?_ | with_reducible refine RdD.drewN ?_ _))) hb10
    replace hx : Bk w10 w5.heap.size 34 (c4 X) := Mw.Bk.old (by (repeat (first | with_reducible assumption | ((with_reducible refine Mw.Bk.new' ?_); (first | rfl | (simp; done) | (simp; omega))) | with_reducible refine Mw.Bk.alloc ?_ _ | with_reducible refine Mw.Bk.drew ?_ | with_reducible refine Mw.Bk.drewN ?_ _ | with_reducible refine Mw.Bk.set4 (a0 := .int .u32 0) (a1 := .int .u32 0) (a2 := .int .u32 0) (a3 := .int .u32 0) ?_ | ((with_reducible refine Mw.Bk.far ?_ ?_ _); rotate_left 1; focus (first | omega | (simp; done) | (simp; omega))) | with_reducible refine Mw.Bk.old ?_ (by assumption)))) hb10
    replace ho : Bk w10 w6.heap.size 34 #[.int .u32 ((D.1 + 1) % 4294967296), .int .u32 D.2.1, .int .u32 D.2.2.1, .int .u32 D.2.2.2] := Mw.Bk.old (by (repeat (first | with_reducible assumption | ((with_reducible refine Mw.Bk.new' ?_); (first | rfl | (simp; done) | (simp; omega))) | with_reducible refine Mw.Bk.alloc ?_ _ | with_reducible refine Mw.Bk.drew ?_ | with_reducible refine Mw.Bk.drewN ?_ _ | with_reducible refine Mw.Bk.set4 (a0 := .int .u32 0) (a1 := .int .u32 0) (a2 := .int .u32 0) (a3 := .int .u32 0) ?_ | ((with_reducible refine Mw.Bk.far ?_ ?_ _); rotate_left 1; focus (first | omega | (simp; done) | (simp; omega))) | with_reducible refine Mw.Bk.old ?_ (by assumption)))) hb10
    replace hy : Bk w10 w8.heap.size 34 (c4 Y) := Mw.Bk.old (by (repeat (first | with_reducible assumption | ((with_reducible refine Mw.Bk.new' ?_); (first | rfl | (simp; done) | (simp; omega))) | with_reducible refine Mw.Bk.alloc ?_ _ | with_reducible refine Mw.Bk.drew ?_ | with_reducible refine Mw.Bk.drewN ?_ _ | with_reducible refine Mw.Bk.set4 (a0 := .int .u32 0) (a1 := .int .u32 0) (a2 := .int .u32 0) (a3 := .int .u32 0) ?_ | ((with_reducible refine Mw.Bk.far ?_ ?_ _); rotate_left 1; focus (first | omega | (simp; done) | (simp; omega))) | with_reducible refine Mw.Bk.old ?_ (by assumption)))) hb10
    replace hc : Below w.heap.size w w10 := bl_trans (by (repeat (first | with_reducible exact Below.refl _ _ | with_reducible refine bl_drewN ?_ _ | with_reducible refine Below.drew ?_ | with_reducible refine bl_alloc ?_ _ | with_reducible refine Below.alloc ?_ (by first | omega | (simp; done) | (simp; omega)) _ | with_reducible refine Below.setCell ?_ (by first | omega | (simp; done) | (simp; omega)) _ | with_reducible assumption))) hb10
    clear hb10
    have R1 := HRr.out _ (hl.alloc (.cells (c4 Y) 34))
    have R2 : RC 8 #[] (w10.alloc (.cells (c4 Y) 34)) (.bool true) := rc_sane
    obtain ⟨⟨e0, e1, e2, e3⟩, -⟩ := bk4 hx
    obtain ⟨⟨j0, j1, j2, j3⟩, -⟩ := bk4 hy
    have g0 := hx.lt
    have g1 := hy.lt
    cases hq : eqb (Y.1, Y.2.1, Y.2.2.1, Y.2.2.2) (X.1, X.2.1, X.2.2.1, X.2.2.2)
    all_goals
      go_wp2_with fail
      refine Mm.region_ext (by kernel_rfl) (by kernel_rfl) ?_; (repeat (first | go_big_quiet_step ((exact RC.call (by with_reducible assumption) _)) | quiet_step ((exact RC.call (by with_reducible assumption) _)))); refine wpQuiet_nil ?_
      intro w11 hb11
      go_wp2_with fail
      go_ret
      exact ⟨rfl, bl_trans (by (repeat (first | with_reducible exact Below.refl _ _ | with_reducible refine bl_drewN ?_ _ | with_reducible refine Below.drew ?_ | with_reducible refine bl_alloc ?_ _ | with_reducible refine Below.alloc ?_ (by first | omega | (simp; done) | (simp; omega)) _ | with_reducible refine Below.setCell ?_ (by first | omega | (simp; done) | (simp; omega)) _ | with_reducible assumption))) hb11⟩
  · have HL := Lib.hid (show ∀ W : World, Calls Try.prog 7 #[.slice A0 l0.length c0] W fun e w' => e = .returned (.bool false) ∧ W = w' from fun W => by have h6 := light_any l0 A0 c0 W; rwa [decide_eq_false hL] at h6)
    clear hr hi
    go_enter Try.func3, Try.ntmps3
    go_wp2_with fail
    refine (HL.out _).mono ?_
    rintro e w0 ⟨rfl, rfl⟩
    go_wp2_with fail
    refine (sane_any _).mono ?_
    rintro e w1 ⟨rfl, hb1⟩
    go_wp2_with fail
    go_ret
    exact ⟨rfl, hb1⟩
end Go.Proofs.Ytmdgghdmfipllaa.Tr
