/- Walks: Extension, Extends. -/
import Derived.Test.YtdikoffppjoomaaGreatCQ
import Derived.Test.YtdikoffppjoomaaGreatRH
import Derived.Test.YtdikoffppjoomaaGreatMem
import Derived.WalkKit
import Derived.WalkSpells
import Derived.WalkLawsBesides
import Derived.Deep.QuietTactic
import Derived.BigQuiet
import Derived.Deep.Draws
import Derived.Deep.AppendLies
import Derived.Laws.OwnMore
import Derived.Laws.BytesArg
import Derived.Lib.Hide
import Derived.Deep.LoopGhost
namespace Go.Proofs.YtdikoffppjoomaaGreat.Ct
open Go.RowKit Go.Proofs.YtdikoffppjoomaaGreat.Dg
open Go.Proofs.YtdikoffppjoomaaGreat.Mw (I64 ret_int ret_bool Bk bl_trans own_ints RdI RdR ge ge_lt gi ge_mem own_rows)
open Go.Proofs.YtdikoffppjoomaaGreat.Tr (RdD leaf root consE pcons_any consB pconsist_any)
open Go.Proofs.YtdikoffppjoomaaGreat.Sg (Wd sgv ver chal)
set_option linter.unusedVariables false
set_option linter.unusedSimpArgs false
set_option maxRecDepth 100000

/-- What Extension returns. -/
noncomputable def ext (l : List Le) (k : Int) : List St × Int := if chk l = 0 then consE (l.map dgE) k else ([], chk l)
theorem extension_any (l : List Le) (A : Option Addr) (c : Nat) (k : Int) (w : World) (hr : RdL w A l) (h64 : ∀ x, x ∈ l → Le64 x) : Calls Tryz.prog 36 #[.slice A l.length c, .int .i64 k] w (Tr.PE (ext l k) w) := by
  have HR := Lib.hid (read_any l A c w hr h64)
  have HR1 := Lib.hid hr
  clear hr h64
  by_cases hz : chk l = 0
  · have z0 : (chk l != 0) = false := by rw [hz]; rfl
    have hle := (inv_of (V_chk hz)).len
    have HS : Hid (ext l k = consE (l.map dgE) k) := if_pos hz
    have HD : Hid (∀ W : World, Below w.heap.size w W → Calls Tryz.prog 50 #[.slice A l.length c, .func (.func 31) #[] #[]] W (DE (l.map dgE) W)) := fun W hb => digestsL_any l A c W (by omega) (HR1.out.old hb)
    have hdl : (l.map dgE).length = l.length := List.length_map ..
    generalize l.map dgE = ds at hdl HS HD
    have hd2 : ds.length ≤ 1000000 := by omega
    clear hz hdl
    go_enter Tryz.func36, Tryz.ntmps36
    go_wp2_with fail
    refine HR.out.mono ?_
    rintro e w1 ⟨v, rfl, hb1, -⟩
    go_wp2_with fail
    refine (HD.out _ hb1).mono ?_
    rintro e w2 ⟨D, cD, rfl, hcD, hmD, hrD, hb2⟩
    have hb3 := bl_trans hb1 hb2
    clear hb1 hb2
    have HP := Lib.hid (pcons_any ds D cD k w2 hd2 hcD hmD hrD)
    generalize consE ds k = X at HP HS
    obtain ⟨x, y⟩ := X
    go_wp2_with fail
    refine HP.out.mono ?_
    rintro e w3 ⟨E, cE, rfl, hcE, hmE, hrE, hb4⟩
    go_wp2_with fail
    go_ret2
    rw [HS.out]
    exact ⟨E, cE, rfl, hcE, hmE, hrE, bl_trans hb3 hb4⟩
  · have z0 : (chk l != 0) = true := bne_iff_ne.2 hz
    have HS : Hid (ext l k = ([], chk l)) := if_neg hz
    clear hz
    go_enter Tryz.func36, Tryz.ntmps36
    go_wp2_with fail
    refine HR.out.mono ?_
    rintro e w1 ⟨v, rfl, hb1, -⟩
    go_wp2_with fail
    go_ret2
    rw [HS.out]
    exact ⟨none, 0, rfl, Nat.le_refl _, by simp [maxLen], RdD.nil _ _, hb1⟩
/-- What Extends returns. -/
noncomputable def exs (p : Int) (a b : He) (pa : List St) : Bool := ver p a.R a.S (chal a.R p (dgH a)) && ver p b.R b.S (chal b.R p (dgH b)) && consB a.n b.n a.r b.r pa
set_option maxHeartbeats 4000000 in
theorem extends_any (p : Int) (a b : He) (pa : List St) (A : Option Addr) (ca : Nat) (w : World) (hp : I64 p) (ha1 : I64 a.R) (ha2 : I64 a.S) (ha3 : Wd a.r) (ha4 : Wd a.l) (hb1 : I64 b.R) (hb2 : I64 b.S) (hb3 : Wd b.r) (hb4 : Wd b.l)
    (hl1 : pa.length ≤ 1000000) (hc1 : pa.length ≤ ca) (hm1 : ca ≤ maxLen) (hA : RdD w A pa) :
    Calls Tryz.prog 40 #[.int .i64 p, hev a, hev b, .slice A pa.length ca] w fun e w' => e = .returned (.bool (exs p a b pa)) ∧ Below w.heap.size w w' := by
  have HS1 : Hid (∀ W : World, Calls Tryz.prog 53 #[hev a] W fun e w' => e = .returned (dv (dgH a)) ∧ Below W.heap.size W w') := fun W => sealing_any a ha3 ha4 W
  have HS2 : Hid (∀ W : World, Calls Tryz.prog 53 #[hev b] W fun e w' => e = .returned (dv (dgH b)) ∧ Below W.heap.size W w') := fun W => sealing_any b hb3 hb4 W
  have HV1 : Hid (∀ W : World, Calls Tryz.prog 59 #[.int .i64 p, dv (dgH a), sgv a.R a.S] W fun e w' => e = .returned (.bool (ver p a.R a.S (chal a.R p (dgH a)))) ∧ Below W.heap.size W w') := fun W => Sg.verify_any p a.R a.S (dgH a) hp ha1 ha2 (dgH_wd a) W
  have HV2 : Hid (∀ W : World, Calls Tryz.prog 59 #[.int .i64 p, dv (dgH b), sgv b.R b.S] W fun e w' => e = .returned (.bool (ver p b.R b.S (chal b.R p (dgH b)))) ∧ Below W.heap.size W w') := fun W => Sg.verify_any p b.R b.S (dgH b) hp hb1 hb2 (dgH_wd b) W
  have HC : Hid (∀ W : World, Below w.heap.size w W → Calls Tryz.prog 81 #[.int .i64 a.n, .int .i64 b.n, dv a.r, dv b.r, .slice A pa.length ca] W fun e w' => e = .returned (.bool (consB a.n b.n a.r b.r pa)) ∧ Below W.heap.size W w') := fun W hb => pconsist_any a.n b.n a.r b.r pa A ca W hl1 hc1 hm1 (hA.old hb)
  have HX : Hid (exs p a b pa = (ver p a.R a.S (chal a.R p (dgH a)) && ver p b.R b.S (chal b.R p (dgH b)) && consB a.n b.n a.r b.r pa)) := rfl
  clear hA ha1 ha2 ha3 ha4 hb1 hb2 hb3 hb4
  generalize ver p a.R a.S (chal a.R p (dgH a)) = v1 at *
  generalize ver p b.R b.S (chal b.R p (dgH b)) = v2 at *
  generalize consB a.n b.n a.r b.r pa = v3 at *
  generalize dgH a = d1 at *
  generalize dgH b = d2 at *
  have HA : Bk ((w.alloc (.cells (hcl a) 39)).alloc (.cells (hcl b) 39)) w.heap.size 39 (hcl a) := (Mw.Bk.new _ _ _).alloc _
  have HB : Bk ((w.alloc (.cells (hcl a) 39)).alloc (.cells (hcl b) 39)) (w.heap.size + 1) 39 (hcl b) := Mw.Bk.new' (by simp)
  have hb0 : Below w.heap.size w ((w.alloc (.cells (hcl a) 39)).alloc (.cells (hcl b) 39)) := by (repeat (first | with_reducible exact Below.refl _ _ | with_reducible refine bl_drewN ?_ _ | with_reducible refine Below.drew ?_ | with_reducible refine bl_alloc ?_ _ | with_reducible refine Below.alloc ?_ (by first | omega | (simp; done) | (simp; omega)) _ | with_reducible refine Below.setCell ?_ (by first | omega | (simp; done) | (simp; omega)) _ | with_reducible assumption))
  go_enter Tryz.func40, Tryz.ntmps40
  go_wp2_with fail
  change Code.wp _ _ _ _ ((w.alloc (.cells (hcl a) 39)).alloc (.cells (hcl b) 39))
  generalize (w.alloc (.cells (hcl a) 39)).alloc (.cells (hcl b) 39) = W0 at HA HB hb0 ⊢
  have x0 : W0.cell? ⟨w.heap.size, 0, none⟩ = some (.int .i64 a.n) := HA.cell 0
  have x1 : W0.cell? ⟨w.heap.size, 1, none⟩ = some (.int .i64 a.c) := HA.cell 1
  have x2 : W0.cell? ⟨w.heap.size, 2, none⟩ = some (.int .u32 a.r.1) := HA.cell 2
  have x3 : W0.cell? ⟨w.heap.size, 3, none⟩ = some (.int .u32 a.r.2.1) := HA.cell 3
  have x4 : W0.cell? ⟨w.heap.size, 4, none⟩ = some (.int .u32 a.r.2.2.1) := HA.cell 4
  have x5 : W0.cell? ⟨w.heap.size, 5, none⟩ = some (.int .u32 a.r.2.2.2) := HA.cell 5
  have x6 : W0.cell? ⟨w.heap.size, 6, none⟩ = some (.int .u32 a.l.1) := HA.cell 6
  have x7 : W0.cell? ⟨w.heap.size, 7, none⟩ = some (.int .u32 a.l.2.1) := HA.cell 7
  have x8 : W0.cell? ⟨w.heap.size, 8, none⟩ = some (.int .u32 a.l.2.2.1) := HA.cell 8
  have x9 : W0.cell? ⟨w.heap.size, 9, none⟩ = some (.int .u32 a.l.2.2.2) := HA.cell 9
  have xa : W0.cell? ⟨w.heap.size, 10, none⟩ = some (.int .i64 a.R) := HA.cell 10
  have xb : W0.cell? ⟨w.heap.size, 11, none⟩ = some (.int .i64 a.S) := HA.cell 11
  have xl := HA.lt
  have y0 : W0.cell? ⟨w.heap.size + 1, 0, none⟩ = some (.int .i64 b.n) := HB.cell 0
  have y1 : W0.cell? ⟨w.heap.size + 1, 1, none⟩ = some (.int .i64 b.c) := HB.cell 1
  have y2 : W0.cell? ⟨w.heap.size + 1, 2, none⟩ = some (.int .u32 b.r.1) := HB.cell 2
  have y3 : W0.cell? ⟨w.heap.size + 1, 3, none⟩ = some (.int .u32 b.r.2.1) := HB.cell 3
  have y4 : W0.cell? ⟨w.heap.size + 1, 4, none⟩ = some (.int .u32 b.r.2.2.1) := HB.cell 4
  have y5 : W0.cell? ⟨w.heap.size + 1, 5, none⟩ = some (.int .u32 b.r.2.2.2) := HB.cell 5
  have y6 : W0.cell? ⟨w.heap.size + 1, 6, none⟩ = some (.int .u32 b.l.1) := HB.cell 6
  have y7 : W0.cell? ⟨w.heap.size + 1, 7, none⟩ = some (.int .u32 b.l.2.1) := HB.cell 7
  have y8 : W0.cell? ⟨w.heap.size + 1, 8, none⟩ = some (.int .u32 b.l.2.2.1) := HB.cell 8
  have y9 : W0.cell? ⟨w.heap.size + 1, 9, none⟩ = some (.int .u32 b.l.2.2.2) := HB.cell 9
  have ya : W0.cell? ⟨w.heap.size + 1, 10, none⟩ = some (.int .i64 b.R) := HB.cell 10
  have yb : W0.cell? ⟨w.heap.size + 1, 11, none⟩ = some (.int .i64 b.S) := HB.cell 11
  have yl := HB.lt
  have R1 : Mm.RC 53 #[hev a] W0 (dv d1) := Mm.RC.of fun W _ => HS1.out W
  have R2 : Mm.RC 59 #[.int .i64 p, dv d1, sgv a.R a.S] W0 (.bool v1) := Mm.RC.of fun W _ => HV1.out W
  have R3 : Mm.RC 53 #[hev b] W0 (dv d2) := Mm.RC.of fun W _ => HS2.out W
  have R4 : Mm.RC 59 #[.int .i64 p, dv d2, sgv b.R b.S] W0 (.bool v2) := Mm.RC.of fun W _ => HV2.out W
  have R5 : Mm.RC 81 #[.int .i64 a.n, .int .i64 b.n, dv a.r, dv b.r, .slice A pa.length ca] W0 (.bool v3) := Mm.RC.of fun W hb => HC.out W (bl_trans hb0 hb)
  clear HS1 HS2 HV1 HV2 HC
  cases v1
  · have H : Hid (exs p a b pa = false) := HX.out
    clear HX
    refine Mm.region_ext (by kernel_rfl) (by kernel_rfl) ?_; (repeat (first | go_big_quiet_step ((exact Mm.RC.call (by with_reducible assumption) _)) | quiet_step ((exact Mm.RC.call (by with_reducible assumption) _)))); refine wpQuiet_nil ?_
    intro w2 hb3
    go_wp2_with fail
    go_ret
    exact ⟨ret_bool H.out.symm, bl_trans hb0 hb3⟩
  cases v2
  · have H : Hid (exs p a b pa = false) := HX.out
    clear HX
    refine Mm.region_ext (by kernel_rfl) (by kernel_rfl) ?_; (repeat (first | go_big_quiet_step ((exact Mm.RC.call (by with_reducible assumption) _)) | quiet_step ((exact Mm.RC.call (by with_reducible assumption) _)))); refine wpQuiet_nil ?_
    intro w2 hb3
    go_wp2_with fail
    go_ret
    exact ⟨ret_bool H.out.symm, bl_trans hb0 hb3⟩
  have H : Hid (exs p a b pa = v3) := HX.out
  clear HX
  refine Mm.region_ext (by kernel_rfl) (by kernel_rfl) ?_; (repeat (first | go_big_quiet_step ((exact Mm.RC.call (by with_reducible assumption) _)) | quiet_step ((exact Mm.RC.call (by with_reducible assumption) _)))); refine wpQuiet_nil ?_
  intro w2 hb3
  go_wp2_with fail
  go_ret
  exact ⟨ret_bool H.out.symm, bl_trans hb0 hb3⟩
end Go.Proofs.YtdikoffppjoomaaGreat.Ct
