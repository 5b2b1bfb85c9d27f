/- Walk: the example of the chapter. -/
import Derived.Test.YtdikoffppjoomaaGreatCY
import Derived.WalkKit
import Derived.WalkSpells
import Derived.WalkLawsBesides
import Derived.Deep.QuietTactic
import Derived.BigQuiet
import Derived.Deep.Draws
import Derived.Deep.AppendLies
import Derived.Laws.OwnMore
import Derived.Laws.BytesArg
import Derived.Lib.Hide
import Derived.Deep.LoopGhost
namespace Go.Proofs.YtdikoffppjoomaaGreat.Ct
open Go.RowKit Go.Proofs.YtdikoffppjoomaaGreat.Dg
open Go.Proofs.YtdikoffppjoomaaGreat.Mw (I64 ret_int ret_bool Bk bl_trans own_ints RdI RdR ge ge_lt gi ge_mem own_rows)
open Go.Proofs.YtdikoffppjoomaaGreat.Tr (RdD)
open Go.Proofs.YtdikoffppjoomaaGreat.Sg (Wd pw public_yes public_any)
set_option linter.unusedVariables false
set_option linter.unusedSimpArgs false
set_option maxRecDepth 100000

theorem issue_any (a b c d e : Int) (w : World) : Calls Tryz.prog 42 #[.int .i64 a, .int .i64 b, .int .i64 c, .int .i64 d, .int .i64 e] w fun x w' => x = .returned (lev ⟨0, ⟨a, b, c, d, e⟩⟩) ∧ Below w.heap.size w w' := by
  go_enter Tryz.func42, Tryz.ntmps42
  go_wp2_with fail
  have hB := Mw.Bk.new w 54 #[.int .i64 0, .int .i64 a, .int .i64 b, .int .i64 c, .int .i64 d, .int .i64 e]
  have hb : Below w.heap.size w (w.alloc (.cells #[.int .i64 0, .int .i64 a, .int .i64 b, .int .i64 c, .int .i64 d, .int .i64 e] 54)) := by (repeat (first | with_reducible exact Below.refl _ _ | with_reducible refine bl_drewN ?_ _ | with_reducible refine Below.drew ?_ | with_reducible refine bl_alloc ?_ _ | with_reducible refine Below.alloc ?_ (by first | omega | (simp; done) | (simp; omega)) _ | with_reducible refine Below.setCell ?_ (by first | omega | (simp; done) | (simp; omega)) _ | with_reducible assumption))
  generalize w.alloc (.cells #[.int .i64 0, .int .i64 a, .int .i64 b, .int .i64 c, .int .i64 d, .int .i64 e] 54) = wz at *
  have k0 := hB.cell 0
  have k1 := hB.cell 1
  have k2 := hB.cell 2
  have k3 := hB.cell 3
  have k4 := hB.cell 4
  have k5 := hB.cell 5
  refine bodyPost_ret (v := lev ⟨0, ⟨a, b, c, d, e⟩⟩) (by simp [results, Tryz.results42, go_sem, k0, k1, k2, k3, k4, k5]) rfl ⟨rfl, hb⟩
theorem ex_64 : ∀ x, x ∈ exL → Le64 x := fun x hx => le64_V ex_V x hx
theorem pw_i64 (x n : Int) : I64 (pw x n) := by have := Sg.pw_bd x n; unfold Mw.I64; omega
theorem hd1_i (s : Int) (l : List Le) : I64 (hd1 s l).R ∧ I64 (hd1 s l).S ∧ Wd (hd1 s l).r ∧ Wd (hd1 s l).l := by
  refine ⟨?_, ?_, root_wd _, root_wd _⟩
  · have := Sg.sR_bd s (dgH (hd0 l)); show I64 (Sg.sR s (dgH (hd0 l))); unfold Mw.I64; omega
  · have := Sg.sS_bd s (dgH (hd0 l)); show I64 (Sg.sS s (dgH (hd0 l))); unfold Mw.I64; omega
theorem pathE_256 (l : List St) (i : Int) (h : l.length ≤ 256) : (Tr.pathE l i).1.length ≤ 1000000 := by
  unfold Tr.pathE
  split
  · simp
  split
  · simp
  · have := Tr.path_len 8 l i.toNat (by simpa using h)
    show (Tr.path l i.toNat).length ≤ _
    omega
set_option maxHeartbeats 8000000 in
theorem sane_any (w : World) : Calls Tryz.prog 6 #[] w fun e w' => e = .returned (.bool true) ∧ Below w.heap.size w w' := by
  have HCu := Lib.hid (show ∀ (W : World) (A : Option Addr), RdL W A exL → Calls Tryz.prog 12 #[.slice A 2 2] W (CE [exB] W) from fun W A h => by
    have := current_any exL A 2 W h ex_64
    rwa [crr_0 ex_chk, ex_cur] at this)
  have HP1 := Lib.hid (show ∀ (W : World) (A : Option Addr), RdL W A exL → Calls Tryz.prog 13 #[.slice A 2 2, .int .i64 1] W (PvE (pv0, 46) W) from fun W A h => by
    have := prove_any exL A 2 1 W (by unfold Mw.I64; omega) h ex_64
    rwa [ex_1] at this)
  have HP2 := Lib.hid (show ∀ (W : World) (A : Option Addr), RdL W A exL → Calls Tryz.prog 13 #[.slice A 2 2, .int .i64 2] W (PvE (pvo exL 2, 0) W) from fun W A h => by
    have := prove_any exL A 2 2 W (by unfold Mw.I64; omega) h ex_64
    rwa [ex_2] at this)
  have HSe := Lib.hid (show ∀ (W : World) (A : Option Addr), RdL W A exL → Calls Tryz.prog 11 #[.int .i64 5, .slice A 2 2] W (fun e w' => e = .returned (.tuple #[hev (hd1 5 exL), .int .i64 0]) ∧ Below W.heap.size W w') from fun W A h => by
    have := sealed_any 5 exL A 2 W (by unfold Mw.I64; omega) h ex_64
    rwa [show sld 5 exL = (hd1 5 exL, 0) by unfold sld; rw [if_pos ex_chk, if_pos (by decide)]] at this)
  have HCk := Lib.hid (show ∀ (W : World) (A : Option Addr), RdL W A exL → Calls Tryz.prog 24 #[.slice A 2 2] W (fun e w' => e = .returned (.int .i64 0) ∧ Below W.heap.size W w') from fun W A h => by
    have := check_log exL A 2 W h ex_64
    rwa [ex_chk] at this)
  have hd := hd1_i 5 exL
  have hl1 : (pvo exL 2).pa.length ≤ 1000000 := pathE_256 _ _ (by decide)
  have hl2 : (pvo exL 2).sp.length ≤ 1000000 := pathE_256 _ _ (by rw [ex_cur]; decide)
  have HVe := Lib.hid (show ∀ (c : Cf) (A B : Option Addr) (ca cb : Nat) (W : World), (pvo exL 2).pa.length ≤ ca → ca ≤ maxLen → RdD W A (pvo exL 2).pa → (pvo exL 2).sp.length ≤ cb → cb ≤ maxLen → RdD W B (pvo exL 2).sp → Calls Tryz.prog 14 #[.int .i64 (pw 4 5), hev (hd1 5 exL), cfv c, .agg #[.int .i64 (pvo exL 2).ix, .int .i64 (pvo exL 2).pl, .slice A (pvo exL 2).pa.length ca, .slice B (pvo exL 2).sp.length cb]] W (fun e w' => e = .returned (.int .i64 (vrf (pw 4 5) (hd1 5 exL) c (pvo exL 2).ix (pvo exL 2).pl (pvo exL 2).pa (pvo exL 2).sp)) ∧ Below W.heap.size W w') from fun c A B ca cb W h1 h2 h3 h4 h5 h6 =>
    verify_any (pw 4 5) (hd1 5 exL) c _ _ _ _ A B ca cb W (pw_i64 _ _) hd.1 hd.2.1 hd.2.2.1 hd.2.2.2 hl1 h1 h2 h3 hl2 h4 h5 h6)
  have hy := ex_yes
  have hn := ex_no
  generalize hd1 5 exL = H at *
  generalize pvo exL 2 = P at *
  have hva := HVe exA
  generalize vrf (pw 4 5) H exA P.ix P.pl P.pa P.sp = nv at hn hva
  have HVA := Lib.hid hva
  clear hva
  have HVB := Lib.hid (HVe exB)
  rw [hy] at HVB
  have z9 : (nv != 0) = true := bne_iff_ne.2 hn
  have HPu := Lib.hid (public_yes 5 (by decide))
  have HL1 := Lib.hid hl1
  clear HVe hy hn hd hl1 hl2
  go_enter Tryz.func6, Tryz.ntmps6
  go_wp2_with fail
  refine (issue_any _ _ _ _ _ _).mono ?_
  rintro e w1 ⟨rfl, hb1⟩
  go_wp2_with fail
  refine (issue_any _ _ _ _ _ _).mono ?_
  rintro e w2 ⟨rfl, hb2⟩
  have hb3 := bl_trans hb1 hb2
  clear hb1 hb2
  go_wp2_with fail
  have hG : Bk (w2.alloc (.cells #[.int .i64 0, .int .i64 1, .int .i64 7, .int .i64 3, .int .i64 0, .int .i64 0, .int .i64 0, .int .i64 2, .int .i64 7, .int .i64 2, .int .i64 1, .int .i64 1] 54)) w2.heap.size 54 #[.int .i64 0, .int .i64 1, .int .i64 7, .int .i64 3, .int .i64 0, .int .i64 0, .int .i64 0, .int .i64 2, .int .i64 7, .int .i64 2, .int .i64 1, .int .i64 1] := Mw.Bk.new _ _ _
  have hb4 := Mw.bl_alloc hb3 (.cells #[.int .i64 0, .int .i64 1, .int .i64 7, .int .i64 3, .int .i64 0, .int .i64 0, .int .i64 0, .int .i64 2, .int .i64 7, .int .i64 2, .int .i64 1, .int .i64 1] 54)
  obtain ⟨g, hg⟩ : ∃ g, g = w2.heap.size := ⟨_, rfl⟩
  rw [← hg] at hG ⊢
  have hgw : w.heap.size ≤ g := by rw [hg]; exact hb3.size
  generalize w2.alloc (.cells #[.int .i64 0, .int .i64 1, .int .i64 7, .int .i64 3, .int .i64 0, .int .i64 0, .int .i64 0, .int .i64 2, .int .i64 7, .int .i64 2, .int .i64 1, .int .i64 1] 54) = w3 at *
  clear hg hb3
  have hr : RdL w3 (some ⟨g, 0, none⟩) exL := RdR.bk lel_len hG rfl
  refine (HCu.out w3 _ hr).mono ?_
  rintro e w4 ⟨v, rfl, hown, hb5⟩
  obtain ⟨B, cB, rfl, hcB, hrB, -⟩ := own_rows cfl_len (by omega) hown
  have hG4 := hG.old hb5
  have hr4 := hr.old hb5
  have hb6 := bl_trans hb4 hb5
  clear hG hr hb4 hb5 hown HCu
  go_wp2_with fail
  refine (HP1.out w4 _ hr4).mono ?_
  rintro e w5 ⟨A1, ca1, B1, cb1, rfl, -, -, -, -, -, -, hb7⟩
  have hG5 := hG4.old hb7
  have hr5 := hr4.old hb7
  have hrB5 := hrB.old hb7
  have hb8 := bl_trans hb6 hb7
  clear hG4 hr4 hrB hb6 hb7 HP1
  go_wp2_with fail
  have hG6 := hG5.alloc (.cells #[.int .i64 0, .int .i64 0, .slice A1 0 ca1, .slice B1 0 cb1] 49)
  have hr6 := hr5.alloc (.cells #[.int .i64 0, .int .i64 0, .slice A1 0 ca1, .slice B1 0 cb1] 49)
  have hrB6 := hrB5.alloc (.cells #[.int .i64 0, .int .i64 0, .slice A1 0 ca1, .slice B1 0 cb1] 49)
  have hb9 := Mw.bl_alloc hb8 (.cells #[.int .i64 0, .int .i64 0, .slice A1 0 ca1, .slice B1 0 cb1] 49)
  clear hG5 hr5 hrB5 hb8
  refine (HP2.out _ _ hr6).mono ?_
  rintro e w6 ⟨E, cE, F, cF, rfl, hcE, hmE, hrE, hcF, hmF, hrF, hb10⟩
  have hG7 := hG6.old hb10
  have hr7 := hr6.old hb10
  have hrB7 := hrB6.old hb10
  have hb11 := bl_trans hb9 hb10
  clear hG6 hr6 hrB6 hb9 hb10 HP2
  go_wp2_with fail
  have hP8 : Bk (w6.alloc (.cells #[.int .i64 P.ix, .int .i64 P.pl, .slice E P.pa.length cE, .slice F P.sp.length cF] 49)) w6.heap.size 49 #[.int .i64 P.ix, .int .i64 P.pl, .slice E P.pa.length cE, .slice F P.sp.length cF] := Mw.Bk.new _ _ _
  have hG8 := hG7.alloc (.cells #[.int .i64 P.ix, .int .i64 P.pl, .slice E P.pa.length cE, .slice F P.sp.length cF] 49)
  have hr8 := hr7.alloc (.cells #[.int .i64 P.ix, .int .i64 P.pl, .slice E P.pa.length cE, .slice F P.sp.length cF] 49)
  have hrB8 := hrB7.alloc (.cells #[.int .i64 P.ix, .int .i64 P.pl, .slice E P.pa.length cE, .slice F P.sp.length cF] 49)
  have hrE8 := hrE.alloc (.cells #[.int .i64 P.ix, .int .i64 P.pl, .slice E P.pa.length cE, .slice F P.sp.length cF] 49)
  have hrF8 := hrF.alloc (.cells #[.int .i64 P.ix, .int .i64 P.pl, .slice E P.pa.length cE, .slice F P.sp.length cF] 49)
  have hb12 := Mw.bl_alloc hb11 (.cells #[.int .i64 P.ix, .int .i64 P.pl, .slice E P.pa.length cE, .slice F P.sp.length cF] 49)
  generalize w6.alloc (.cells #[.int .i64 P.ix, .int .i64 P.pl, .slice E P.pa.length cE, .slice F P.sp.length cF] 49) = w8 at *
  obtain ⟨pb, hpb⟩ : ∃ pb, pb = w6.heap.size := ⟨_, rfl⟩
  rw [← hpb] at hP8 ⊢
  clear hG7 hr7 hrB7 hrE hrF hb11 hpb
  refine (HSe.out w8 _ hr8).mono ?_
  rintro e w9 ⟨rfl, hb13⟩
  have hG9 := hG8.old hb13
  have hP9 := hP8.old hb13
  have hr9 := hr8.old hb13
  have hrB9 := hrB8.old hb13
  have hrE9 := hrE8.old hb13
  have hrF9 := hrF8.old hb13
  have hb14 := bl_trans hb12 hb13
  clear hG8 hP8 hr8 hrB8 hrE8 hrF8 hb12 hb13 HSe
  go_wp2_with fail
  have hH : Bk (w9.alloc (.cells (hcl H) 39)) w9.heap.size 39 (hcl H) := Mw.Bk.new _ _ _
  have hGa := hG9.alloc (.cells (hcl H) 39)
  have hPa := hP9.alloc (.cells (hcl H) 39)
  have hra := hr9.alloc (.cells (hcl H) 39)
  have hrBa := hrB9.alloc (.cells (hcl H) 39)
  have hrEa := hrE9.alloc (.cells (hcl H) 39)
  have hrFa := hrF9.alloc (.cells (hcl H) 39)
  have hba := Mw.bl_alloc hb14 (.cells (hcl H) 39)
  change Calls Tryz.prog _ _ (w9.alloc (.cells (hcl H) 39)) _
  generalize w9.alloc (.cells (hcl H) 39) = wa at *
  obtain ⟨hb, hhb⟩ : ∃ hb, hb = w9.heap.size := ⟨_, rfl⟩
  rw [← hhb] at hH ⊢
  clear hG9 hP9 hr9 hrB9 hrE9 hrF9 hb14 hhb
  refine (HPu.out wa).mono ?_
  rintro e w' ⟨rfl, rfl⟩
  generalize pw 4 5 = pk at *
  have R1 : Mm.RC 24 #[.slice (some ⟨g, 0, none⟩) 2 2] wa (.int .i64 0) := Mm.RC.of fun W hbW => HCk.out W _ (hra.old hbW)
  have R2 : Mm.RC 14 #[.int .i64 pk, hev H, .agg #[.int .i64 2, .int .i64 7, .int .i64 2, .int .i64 1, .int .i64 1], .agg #[.int .i64 P.ix, .int .i64 P.pl, .slice E P.pa.length cE, .slice F P.sp.length cF]] wa (.int .i64 0) := Mm.RC.of fun W hbW => HVB.out E F cE cF W hcE hmE (hrEa.old hbW) hcF hmF (hrFa.old hbW)
  have R3 : Mm.RC 14 #[.int .i64 pk, hev H, .agg #[.int .i64 1, .int .i64 7, .int .i64 3, .int .i64 0, .int .i64 0], .agg #[.int .i64 P.ix, .int .i64 P.pl, .slice E P.pa.length cE, .slice F P.sp.length cF]] wa (.int .i64 nv) := Mm.RC.of fun W hbW => HVA.out E F cE cF W hcE hmE (hrEa.old hbW) hcF hmF (hrFa.old hbW)
  obtain ⟨b, off, rfl, hbl, e0, e1, e2, e3, e4⟩ := cf_at hrBa 0 (by simp)
  simp only [Nat.zero_mul, Nat.add_zero] at e0 e1 e2 e3 e4
  have f0 : wa.cell? ⟨b, off, none⟩ = some (.int .i64 2) := e0
  have f1 : wa.cell? ⟨b, off + 1, none⟩ = some (.int .i64 7) := e1
  have f2 : wa.cell? ⟨b, off + 2, none⟩ = some (.int .i64 2) := e2
  have f3 : wa.cell? ⟨b, off + 3, none⟩ = some (.int .i64 1) := e3
  have f4 : wa.cell? ⟨b, off + 4, none⟩ = some (.int .i64 1) := e4
  clear e0 e1 e2 e3 e4
  have k1 := hGa.cell 1
  have k2 := hGa.cell 2
  have k3 := hGa.cell 3
  have k4 := hGa.cell 4
  have k5 := hGa.cell 5
  have kl := hGa.lt
  have p0 := hPa.cell 0
  have p1 := hPa.cell 1
  have p2 := hPa.cell 2
  have p3 := hPa.cell 3
  have pl := hPa.lt
  have x0 : wa.cell? ⟨hb, 0, none⟩ = some (.int .i64 H.n) := hH.cell 0
  have x1 : wa.cell? ⟨hb, 1, none⟩ = some (.int .i64 H.c) := hH.cell 1
  have x2 : wa.cell? ⟨hb, 2, none⟩ = some (.int .u32 H.r.1) := hH.cell 2
  have x3 : wa.cell? ⟨hb, 3, none⟩ = some (.int .u32 H.r.2.1) := hH.cell 3
  have x4 : wa.cell? ⟨hb, 4, none⟩ = some (.int .u32 H.r.2.2.1) := hH.cell 4
  have x5 : wa.cell? ⟨hb, 5, none⟩ = some (.int .u32 H.r.2.2.2) := hH.cell 5
  have x6 : wa.cell? ⟨hb, 6, none⟩ = some (.int .u32 H.l.1) := hH.cell 6
  have x7 : wa.cell? ⟨hb, 7, none⟩ = some (.int .u32 H.l.2.1) := hH.cell 7
  have x8 : wa.cell? ⟨hb, 8, none⟩ = some (.int .u32 H.l.2.2.1) := hH.cell 8
  have x9 : wa.cell? ⟨hb, 9, none⟩ = some (.int .u32 H.l.2.2.2) := hH.cell 9
  have xa : wa.cell? ⟨hb, 10, none⟩ = some (.int .i64 H.R) := hH.cell 10
  have xb : wa.cell? ⟨hb, 11, none⟩ = some (.int .i64 H.S) := hH.cell 11
  have xl := hH.lt
  go_wp2_with fail
  refine Mm.region_ext (by kernel_rfl) (by kernel_rfl) ?_; (repeat (first | go_big_quiet_step ((exact Mm.RC.call (by with_reducible assumption) _)) | quiet_step ((exact Mm.RC.call (by with_reducible assumption) _)))); refine wpQuiet_nil ?_
  intro wy hby
  go_wp2_with fail
  go_ret
  exact ⟨rfl, bl_trans hba hby⟩
end Go.Proofs.YtdikoffppjoomaaGreat.Ct
