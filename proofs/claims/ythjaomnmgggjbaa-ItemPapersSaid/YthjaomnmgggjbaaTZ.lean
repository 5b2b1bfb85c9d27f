/- Walk: the statement ItemPapersLong. -/
import Derived.Test.YthjaomnmgggjbaaTQ
import Derived.Test.YthjaomnmgggjbaaTP
import Derived.Test.YthjaomnmgggjbaaMem
import Derived.WalkKit
import Derived.WalkSpells
import Derived.WalkLawsBesides
import Derived.Deep.QuietTactic
import Derived.BigQuiet
import Derived.Deep.Draws
import Derived.Deep.AppendLies
import Derived.Laws.OwnMore
import Derived.Laws.BytesArg
import Derived.Lib.Hide
import Derived.Deep.LoopGhost
import Derived.Deep.RegionLaw
import Derived.Deep.AppendLies
import Derived.Deep.DeepCutAuto
import Derived.IntWalk
namespace Go.Proofs.Ythjaomnmgggjbaa.Tm
open Go.RowKit Go.Proofs.Ythjaomnmgggjbaa.Mw
set_option linter.unusedVariables false

theorem infoPart' : (Try.prog.info? 23).map (fun i => (i.zero, i.size, i.bytes)) = some (some (pv ⟨0, 0, 0, 0, 0, 0⟩), 6, 48) := by kernel_rfl
theorem news_part' {w : World} {g : Nat} {T : TypeId} (p : Pt) (h : Bk w g T (pl p).toArray) : ∀ j u, (pl p)[j]? = some u → w.cell? ((⟨g, 0, none⟩ : Addr).add j) = some u := World.news_of_block h
theorem pl_one' (p : Pt) : ∀ u ∈ pl p, u.oneCell' = true := by simp [pl, Value.oneCell']
theorem bk3 {w : World} {g : Nat} {T : TypeId} {a b c : Value} (h : Bk w g T #[a, b, c]) : (w.cell? ⟨g, 0, none⟩ = some a ∧ w.cell? ⟨g, 1, none⟩ = some b ∧ w.cell? ⟨g, 2, none⟩ = some c) ∧ w.frozen? ⟨g, 0, none⟩ = false ∧ w.frozen? ⟨g, 1, none⟩ = false ∧ w.frozen? ⟨g, 2, none⟩ = false :=
  ⟨⟨h.cell 0, h.cell 1, h.cell 2⟩, h.frozen 0, h.frozen 1, h.frozen 2⟩
theorem RdP.ext' {w : World} {A : Option Addr} {l : List Pt} (h : RdP w A l) (x : Mm.Ex) : RdP (Mm.ext w x) A l := h.old (Mm.ext_below w x)
section
variable (c v : Int) (A : Option Addr) (l : List Pt) (k : Nat) (w : World) (hl : l.length ≤ 1000000) (hr : RdP w A l)
include hl hr
theorem vpaper_i : Calls Try.prog 29 #[.agg #[.int .i64 c, .int .i64 v, .slice A l.length k]] w fun e w' => e = .returned (.bool (vpp c v l)) ∧ Below w.heap.size w w' := vpaper_any c v A l k w hl hr
theorem rvpaper_i : Calls Try.prog 30 #[.agg #[.int .i64 c, .int .i64 v, .slice A l.length k]] w fun e w' => e = .returned (.bool (vpp c v l)) ∧ Below w.heap.size w w' := rvpaper_any c v A l k w hl hr
theorem ptotal_i : Calls Try.prog 31 #[.agg #[.int .i64 c, .int .i64 v, .slice A l.length k]] w fun e w' => e = .returned (.int .i64 (ptot c v l)) ∧ Below w.heap.size w w' := ptotal_any c v A l k w hl hr
theorem rptotal_i : Calls Try.prog 32 #[.agg #[.int .i64 c, .int .i64 v, .slice A l.length k]] w fun e w' => e = .returned (.int .i64 (ptot c v l)) ∧ Below w.heap.size w w' := rptotal_any c v A l k w hl hr
end

set_option maxHeartbeats 2000000 in
set_option maxRecDepth 100000 in
theorem long_any (n most code var : Int) (h1 : I64 n) (h2 : I64 most) (h3 : I64 code) (h4 : I64 var) (w : World) :
    Calls Try.prog 8 #[.int .i64 n, .int .i64 most, .int .i64 code, .int .i64 var] w fun e w' => e = .returned (.bool true) ∧ Below w.heap.size w w' := by
  obtain ⟨i0, hi0, hz0, hz1, hz2⟩ := info_parts infoPart'
  have H1 := Lib.hid h1
  have H2 := Lib.hid h2
  have H3 := Lib.hid h3
  have H4 := Lib.hid h4
  clear h1 h2 h3 h4
  obtain ⟨N, hN⟩ : ∃ N : Nat, n % 27 = (N : Int) := ⟨(n % 27).toNat, by omega⟩
  have hN27 : N < 27 := by omega
  have HN := Lib.hid hN
  clear hN
  have hm0 : 0 ≤ most % 40 := by omega
  have hm1 : most % 40 < 40 := by omega
  go_enter Try.func8, Try.ntmps8
  go_wp2_with fail
  refine (cut_any code 33 (by omega) (by omega) H3.out _).mono ?_
  rintro e w' ⟨rfl, rfl⟩
  go_wp2_with fail
  refine (cut_any var 5 (by omega) (by omega) H4.out _).mono ?_
  rintro e w' ⟨rfl, rfl⟩
  go_wp2_with fail
  refine (cut_any n 27 (by omega) (by omega) H1.out _).mono ?_
  rintro e w' ⟨rfl, rfl⟩
  rw [HN.out]
  go_wp2_with fail
  go_loopw [10] (fun j wr => ∃ (k : Nat) (ps : List Pt) (vP : Value), j = .int .i64 k ∧ k ≤ 27 ∧ ps.length + k ≤ 27 ∧ wr.ownsRow (w.heap.size + 1) 23 6 vP ps.length (ps.flatMap pl) ∧ Bk wr w.heap.size 46 #[.int .i64 (code % 33), .int .i64 (var % 5), vP] ∧ Below w.heap.size w wr) (fun j _ => (intOf j).toNat)
  case atStart => exact ⟨N, [], _, rfl, by omega, by simp; omega, World.ownsRow_nil _ _ _ _, by (repeat (first | ((with_reducible refine Bk.new' ?_); (first | rfl | (simp; done) | (simp; omega))) | with_reducible refine Bk.alloc ?_ _ | with_reducible refine Bk.drewN ?_ _ | with_reducible refine Bk.drew ?_ | with_reducible assumption)), by (repeat (first | with_reducible exact Below.refl _ _ | with_reducible refine bl_drewN ?_ _ | with_reducible refine Below.drew ?_ | with_reducible refine bl_alloc ?_ _ | with_reducible refine Below.alloc ?_ (by first | omega | (simp; done) | (simp; omega)) _ | with_reducible refine Below.setCell ?_ (by first | omega | (simp; done) | (simp; omega)) _ | with_reducible assumption))⟩
  case round =>
    obtain ⟨k, ps, vP, rfl, hk27, hlen, hown, hB, hb⟩ := hrel
    have hz := hB.lt
    have hl27 : ps.length ≤ 27 := by omega
    by_cases hk0 : 0 < k
    · have hk0' : (0 : Int) < k := by omega
      have d2 : wr.cell? ⟨w.heap.size, 2, none⟩ = some vP := hB.cell 2
      have Hlen := Lib.hid hlen
      clear hlen
      go_wp2_with fail
      have hwr : IntKind.i64.wrap (1 + most % 40) = 1 + most % 40 := IntWalk.i64_in _ (by omega)
      go_region_law (first
        | (refine step_append_lies _ (by rfl) (.tmp 24) (.tmp 29) 31 (by rfl) (w.heap.size + 1) 23 i0 (pv ⟨0, 0, 0, 0, 0, 0⟩) 6 48 Try.underlying31 hi0 hz0 hz1 hz2 rfl (by decide) vP ps.length (ps.flatMap pl) (by rfl) (World.ownsRow.alloc (w := wr.drew) hown _) ⟨wr.heap.size, 0, none⟩ 1 1 (pl ⟨1, 1 + most % 40, 0, 0, 0, 0⟩) (by rfl) rfl (news_part' _ (by exact Bk.new' rfl)) (pl_one' _) (by decide) (by simp only [maxLen]; omega) (by omega) (by simp; omega) _ rfl ?_
           intro g4 cap4 w4 hown4 hgrow4 hat4 hlt4
           have hB4 := Bk.grown (Bk.alloc (Bk.drew hB) _) hgrow4 (fun e => by have := (hown.lt _ e.symm).1; omega)
           have e3 : w4.cell? ⟨w.heap.size, 2, none⟩ = some vP := hB4.cell 2
           have ef : w4.frozen? ⟨w.heap.size, 2, none⟩ = false := hB4.frozen 2)
        | (go_simp
           go_at_call 11
           refine (cut_any most 40 (by omega) (by omega) H2.out _).mono ?_
           rintro e w3 ⟨rfl, rfl⟩))
      all_goals
        have hown5 := World.ownsRow.kept hown4 (gb_set (p := ⟨w.heap.size, 2, none⟩) (gb_refl w4 (some w.heap.size)) (.inl rfl) (.slice (some ⟨g4, 0, none⟩) (ps.length + 1) cap4)) (.inr (fun e => by have := (hown4.lt w.heap.size (by rw [e])).1; omega))
        have hb4 : Below w.heap.size w w4 := Below.grown (by (repeat (first | with_reducible exact Below.refl _ _ | with_reducible refine bl_drewN ?_ _ | with_reducible refine Below.drew ?_ | with_reducible refine bl_alloc ?_ _ | with_reducible refine Below.alloc ?_ (by first | omega | (simp; done) | (simp; omega)) _ | with_reducible refine Below.setCell ?_ (by first | omega | (simp; done) | (simp; omega)) _ | with_reducible assumption))) hgrow4 (by simp; omega) (fun j hj => by have := (hown.lt j hj).1; omega)
        have hB5 := hB4.set 2 (.slice (some ⟨g4, 0, none⟩) (ps.length + 1) cap4)
        clear hgrow4 hown4 d2 hwr
        go_wp2_with fail
        go_roundw
        case rel => exact ⟨k - 1, ps ++ [⟨1, 1 + most % 40, 0, 0, 0, 0⟩], _, by go_num, by omega, by have := Hlen.out; simp; omega, by rw [List.flatMap_append, List.length_append]; exact hown5, hB5, by (repeat (first | with_reducible exact Below.refl _ _ | with_reducible refine bl_drewN ?_ _ | with_reducible refine Below.drew ?_ | with_reducible refine bl_alloc ?_ _ | with_reducible refine Below.alloc ?_ (by first | omega | (simp; done) | (simp; omega)) _ | with_reducible refine Below.setCell ?_ (by first | omega | (simp; done) | (simp; omega)) _ | with_reducible assumption))⟩
        case measure => simp [intOf]; omega
    · obtain ⟨A, c, rfl, hr, ha⟩ := own_parts hown
      obtain ⟨⟨s0, s1, s2⟩, _⟩ := bk3 hB
      have HB := Lib.hid hB
      have HR := Lib.hid hr
      clear hown hr ha hB
      go_upto_region 8 with fail
      obtain ⟨wd, hwd⟩ : ∃ wd : World, wd = wr.alloc (.cells #[.int .i64 code, .int .i64 var, .slice A ps.length c] 46) := ⟨_, rfl⟩
      rw [← hwd]
      have C1 : Bk wd w.heap.size 46 #[.int .i64 (code % 33), .int .i64 (var % 5), .slice A ps.length c] := by rw [hwd]; exact HB.out.alloc _
      have C2 : Bk wd wr.heap.size 46 #[.int .i64 code, .int .i64 var, .slice A ps.length c] := by rw [hwd]; exact Bk.new _ _ _
      have HR' : Hid (RdP wd A ps) := by rw [hwd]; exact HR.out.alloc _
      have hbd : Below w.heap.size w wd := by rw [hwd]; exact bl_alloc hb _
      clear hwd s0 s1 s2 hb
      have l1 := C1.lt
      have l2 := C2.lt
      obtain ⟨⟨s0, s1, s2⟩, _⟩ := bk3 C1
      obtain ⟨⟨t0, t1, t2⟩, _⟩ := bk3 C2
      clear C1 C2
      go_wp2_with fail
      refine Mm.region_ext (by kernel_rfl) (by kernel_rfl) ?_; (repeat (quiet_step ((first | (go_at_call 29; exact Mm.calls_ext (vpaper_i _ _ A ps c _ (by omega) (RdP.ext' HR'.out _))) | (go_at_call 30; exact Mm.calls_ext (rvpaper_i _ _ A ps c _ (by omega) (RdP.ext' HR'.out _))) | (go_at_call 31; exact Mm.calls_ext (ptotal_i _ _ A ps c _ (by omega) (RdP.ext' HR'.out _))) | (go_at_call 32; exact Mm.calls_ext (rptotal_i _ _ A ps c _ (by omega) (RdP.ext' HR'.out _))) | (go_at_call 14; exact Mm.calls_ext (awake_any _)))))); refine wpQuiet_nil ?_
      intro w5 hb5
      go_wp2_with fail
      go_ret
      exact ⟨rfl, bl_trans hbd hb5⟩
end Go.Proofs.Ythjaomnmgggjbaa.Tm
