/- Walks: parts off the tape. -/
import Derived.Test.YtokddjohdodkmaaTV
import Derived.WalkKit
import Derived.WalkSpells
import Derived.WalkLawsBesides
import Derived.Deep.QuietTactic
import Derived.BigQuiet
import Derived.Deep.Draws
import Derived.Deep.AppendLies
import Derived.Laws.OwnMore
import Derived.Laws.BytesArg
import Derived.Lib.Hide
import Derived.Deep.LoopGhost
import Derived.Deep.DeepCutAuto
namespace Go.Proofs.Ytokddjohdodkmaa.Tm
open Go.RowKit Go.Proofs.Ytokddjohdodkmaa.Mw
set_option linter.unusedVariables false
set_option linter.unusedSimpArgs false

def P64 (p : Pt) : Prop := I64 p.k ∧ (-1 ≤ p.m ∧ p.m ≤ 41) ∧ I64 p.t ∧ I64 p.o ∧ (-1 ≤ p.n ∧ p.n ≤ 6) ∧ I64 p.y
abbrev pa (p : Pt) : Array Value := #[.int .i64 p.k, .int .i64 p.m, .int .i64 p.t, .int .i64 p.o, .int .i64 p.n, .int .i64 p.y]
theorem vp_64 {p : Pt} (h : vp p = true) : P64 p := by
  have := (vp_iff p).1 h
  unfold P64 I64
  omega
/-- The ending is a part; without mistakes it is valid; the tape alone has turned. -/
def TPt (n : Int) (tp : Nat) (w : World) (e : Ending) (w' : World) : Prop := ∃ p : Pt, P64 p ∧ (n ≤ 0 → vp p = true) ∧ e = .returned (pv p) ∧ Tp w' tp ∧ w.grownBy w' (some tp)
theorem bk6 {w : World} {g : Nat} {T : TypeId} {a b c d e f : Value} (h : Bk w g T #[a, b, c, d, e, f]) : (w.cell? ⟨g, 0, none⟩ = some a ∧ w.cell? ⟨g, 1, none⟩ = some b ∧ w.cell? ⟨g, 2, none⟩ = some c ∧ w.cell? ⟨g, 3, none⟩ = some d ∧ w.cell? ⟨g, 4, none⟩ = some e ∧ w.cell? ⟨g, 5, none⟩ = some f) ∧ w.frozen? ⟨g, 0, none⟩ = false ∧ w.frozen? ⟨g, 1, none⟩ = false ∧ w.frozen? ⟨g, 2, none⟩ = false ∧ w.frozen? ⟨g, 3, none⟩ = false ∧ w.frozen? ⟨g, 4, none⟩ = false ∧ w.frozen? ⟨g, 5, none⟩ = false :=
  ⟨⟨h.cell 0, h.cell 1, h.cell 2, h.cell 3, h.cell 4, h.cell 5⟩, h.frozen 0, h.frozen 1, h.frozen 2, h.frozen 3, h.frozen 4, h.frozen 5⟩

set_option maxHeartbeats 1000000 in
theorem part_any (tp : Nat) (n : Int) (w : World) (ht : Tp w tp) (hn : n ≤ 1000000) :
    Calls Try.prog 42 #[.pointer (some ⟨tp, 0, none⟩), .int .i64 n] w (TPt n tp w) := by
  have hlt := ht.lt
  go_enter Try.func42, Try.ntmps42
  go_wp2_with fail
  refine (range_any tp 1 12 _ (ht.alloc _) (by omega) (by omega) (by omega)).mono ?_
  rintro e w1 ⟨m, hm, rfl, ht1, hg1⟩
  have r1 : Bk w1 w.heap.size 49 (pa default) := Bk.kept (by exact Bk.new' rfl) hg1 (by omega)
  have hc1 : w.grownBy w1 (some tp) := gb_trans (gb_alloc (gb_refl _ _) _) hg1
  clear hg1
  go_wp2_with fail
  refine (next_any tp 4 _ ht1 (by omega) (by omega)).mono ?_
  rintro e w2 ⟨t, htt, rfl, ht2, hg2⟩
  have r2 := r1.kept hg2 (by omega)
  have hc2 := gb_trans hc1 hg2
  clear hg2 hc1 r1 ht1
  go_wp2_with fail
  refine (next_any tp 3 _ ht2 (by omega) (by omega)).mono ?_
  rintro e w3 ⟨o, ho, rfl, ht3, hg3⟩
  have r3 := r2.kept hg3 (by omega)
  have hc3 := gb_trans hc2 hg3
  clear hg3 hc2 r2 ht2
  have hl3 := ht3.lt
  have hz3 := r3.lt
  go_wp2_with fail
  refine (next_any tp 3 _ (ht3.alloc _) (by omega) (by omega)).mono ?_
  rintro e w4 ⟨z, hz, rfl, ht4, hg4⟩
  have r4 := (r3.alloc _).kept hg4 (by omega)
  have q4 : Bk w4 w3.heap.size 49 (pa ⟨1, m, t, o, 0, 0⟩) := Bk.kept (by exact Bk.new' rfl) hg4 (by omega)
  have hc4 := gb_trans (gb_alloc hc3 _) hg4
  clear hg4 hc3 r3 ht3
  go_upto_if 15 with fail
  go_cut [] (fun wx => ∃ p : Pt, vp p = true ∧ Bk wx w3.heap.size 49 (pa p) ∧ Bk wx w.heap.size 49 (pa default) ∧ Tp wx tp ∧ w.grownBy wx (some tp))
  case first =>
    by_cases hz0 : z = 0
    · have hzb : (z == 0) = true := by simp [hz0]
      go_wp2_with fail
      refine (range_any tp 2 5 _ ht4 (by omega) (by omega) (by omega)).mono ?_
      rintro e w5 ⟨nn, hnn, rfl, ht5, hg5⟩
      have r5 := r4.kept hg5 (by omega)
      have q5 := q4.kept hg5 (by omega)
      have hc5 := gb_trans hc4 hg5
      obtain ⟨⟨c0, c1, c2, c3, c4, c5⟩, f0, f1, f2, f3, f4, f5⟩ := bk6 q5
      go_wp2_with fail
      refine (next_any tp nn _ ((ht5.far (by simp; omega) _).far (by simp; omega) _) (by omega) (by omega)).mono ?_
      rintro e w6 ⟨y, hy, rfl, ht6, hg6⟩
      have r6 := ((r5.far (by simp; omega) _).far (by simp; omega) _).kept hg6 (by omega)
      have q6 : Bk w6 w3.heap.size 49 (pa ⟨2, m, t, o, nn, 0⟩) := ((q5.set 0 (.int .i64 2)).set 4 (.int .i64 nn)).kept hg6 (by omega)
      have hc6 := gb_trans (gb_set (gb_set hc5 (.inr (by simp; omega)) _) (.inr (by simp; omega)) _) hg6
      clear c0 c1 c2 c3 c4 c5 f0 f1 f2 f3 f4 f5 q4 q5 r4 r5 hc4 hc5 hg5 hg6 ht4 ht5
      go_wp2_with fail
      refine (range_any tp 1 3 _ ht6 (by omega) (by omega) (by omega)).mono ?_
      rintro e w7 ⟨m2, hm2, rfl, ht7, hg7⟩
      have r7 := r6.kept hg7 (by omega)
      have q7 := q6.kept hg7 (by omega)
      have hc7 := gb_trans hc6 hg7
      clear r6 q6 hc6 hg7 ht6
      obtain ⟨⟨c0, c1, c2, c3, c4, c5⟩, f0, f1, f2, f3, f4, f5⟩ := bk6 q7
      go_wp2_with fail
      go_meet
      exact ⟨⟨2, m2, t, o, nn, y⟩, (vp_iff _).2 ⟨by simp; omega, by simp; omega, by simp; omega, by simp; omega, by simp; omega, by simp; omega, .inr ⟨rfl, by simp; omega, by simp; omega, by simp; omega, by simp; omega⟩⟩, (q7.set 5 (.int .i64 y)).set 1 (.int .i64 m2), (r7.far (by simp; omega) _).far (by simp; omega) _, (ht7.far (by simp; omega) _).far (by simp; omega) _, gb_set (gb_set hc7 (.inr (by simp; omega)) _) (.inr (by simp; omega)) _⟩
    · have hzb : (z == 0) = false := by simp [hz0]
      go_wp2_with fail
      go_meet
      exact ⟨⟨1, m, t, o, 0, 0⟩, (vp_iff _).2 ⟨by simp; omega, by simp; omega, by simp; omega, by simp; omega, by simp; omega, by simp; omega, .inl ⟨rfl, rfl, rfl⟩⟩, q4, r4, ht4, hc4⟩
  case rest =>
    clear q4 r4 ht4 hc4
    obtain ⟨p, hv, q, r, ht5, hc⟩ := hcut
    have hlc := ht5.lt
    by_cases hn0 : n ≤ 0
    · have h64 := vp_64 hv
      have hvp : n ≤ 0 → vp p = true := fun _ => hv
      have H64 := Lib.hid h64
      have HV := Lib.hid hvp
      clear h64 hvp hv
      obtain ⟨⟨c0, c1, c2, c3, c4, c5⟩, f0, f1, f2, f3, f4, f5⟩ := bk6 q
      obtain ⟨⟨d0, d1, d2, d3, d4, d5⟩, e0, e1, e2, e3, e4, e5⟩ := bk6 r
      go_wp2_with fail
      refine bodyPost_ret (v := pv p) (by simp [results, Try.results42, go_sem, c0, c1, c2, c3, c4, c5, d0, d1, d2, d3, d4, d5]) rfl ⟨p, H64.out, HV.out, rfl, ?_, ?_⟩
      · exact (((((ht5.far (by simp; omega) _).far (by simp; omega) _).far (by simp; omega) _).far (by simp; omega) _).far (by simp; omega) _).far (by simp; omega) _
      · exact gb_set (gb_set (gb_set (gb_set (gb_set (gb_set hc (.inr (by simp)) _) (.inr (by simp)) _) (.inr (by simp)) _) (.inr (by simp)) _) (.inr (by simp)) _) (.inr (by simp)) _
    · go_wp2_with fail
      refine (one_any tp n _ ht5 (by omega) (by omega)).mono ?_
      rintro e w6 ⟨x, rfl, ht6, hg6⟩
      have q6 := q.kept hg6 (by omega)
      have r6 := r.kept hg6 (by omega)
      have hc6 := gb_trans hc hg6
      clear q r hc hg6 ht5
      have Hv := Lib.hid hv
      clear hv
      go_upto_if 34 with fail
      go_cut [] (fun wx => ∃ p : Pt, P64 p ∧ Bk wx w3.heap.size 49 (pa p) ∧ Bk wx w.heap.size 49 (pa default) ∧ Tp wx tp ∧ w.grownBy wx (some tp))
      case first =>
        cases x
        · go_wp2_with fail
          go_meet
          exact ⟨p, vp_64 Hv.out, q6, r6, ht6, hc6⟩
        · go_wp2_with fail
          refine (next_any tp 6 _ ht6 (by omega) (by omega)).mono ?_
          rintro e w7 ⟨z7, hz7, rfl, ht7, hg7⟩
          have q7 := q6.kept hg7 (by omega)
          have r7 := r6.kept hg7 (by omega)
          have hc7 := gb_trans hc6 hg7
          have hl7 := ht7.lt
          clear q6 r6 hc6 hg7 ht6
          have hz8 : z7 = 0 ∨ z7 = 1 ∨ z7 = 2 ∨ z7 = 3 ∨ z7 = 4 ∨ z7 = 5 := by omega
          rcases hz8 with rfl | rfl | rfl | rfl | rfl | rfl
          · go_wp2_with fail
            refine (range_any tp (-1) 3 _ ht7 (by omega) (by omega) (by omega)).mono ?_
            rintro e w8 ⟨v, hv8, rfl, ht8, hg8⟩
            have hv64 : I64 v := (by first | exact hv8 | (unfold I64; omega) | (simp at hv8; unfold I64; omega))
            have q8 := Bk.kept (by first | exact q7 | exact q7.alloc _) hg8 (by omega)
            have r8 := Bk.kept (by first | exact r7 | exact r7.alloc _) hg8 (by omega)
            have hc8 := gb_trans (by first | exact hc7 | exact gb_alloc hc7 _) hg8
            clear q7 r7 hc7 hg8 ht7
            obtain ⟨⟨c0, c1, c2, c3, c4, c5⟩, f0, f1, f2, f3, f4, f5⟩ := bk6 q8
            obtain ⟨g0, g1, g2, g3, g4, g5⟩ := vp_64 Hv.out
            go_wp2_with fail
            go_meet
            exact ⟨⟨v, p.m, p.t, p.o, p.n, p.y⟩, ⟨by assumption, by first | assumption | (simp at hv8; show -1 ≤ v ∧ v ≤ 41; omega), by assumption, by assumption, by first | assumption | (show -1 ≤ v ∧ v ≤ 6; omega), by assumption⟩, q8.set 0 (.int .i64 v), r8.far (by simp; omega) _, ht8.far (by simp; omega) _, gb_set hc8 (.inr (by simp; omega)) _⟩
          · go_wp2_with fail
            refine (pickl tp [0, 40, 41, -1] 4 w7 ht7 _ _ rfl (by decide) (by decide)).mono ?_
            rintro e w8 ⟨v, hv8, rfl, ht8, hg8⟩
            have hv64 : I64 v := (by first | exact hv8 | (unfold I64; omega) | (simp at hv8; unfold I64; omega))
            have q8 := Bk.kept (by first | exact q7 | exact q7.alloc _) hg8 (by omega)
            have r8 := Bk.kept (by first | exact r7 | exact r7.alloc _) hg8 (by omega)
            have hc8 := gb_trans (by first | exact hc7 | exact gb_alloc hc7 _) hg8
            clear q7 r7 hc7 hg8 ht7
            obtain ⟨⟨c0, c1, c2, c3, c4, c5⟩, f0, f1, f2, f3, f4, f5⟩ := bk6 q8
            obtain ⟨g0, g1, g2, g3, g4, g5⟩ := vp_64 Hv.out
            go_wp2_with fail
            go_meet
            exact ⟨⟨p.k, v, p.t, p.o, p.n, p.y⟩, ⟨by assumption, by first | assumption | (simp at hv8; show -1 ≤ v ∧ v ≤ 41; omega), by assumption, by assumption, by first | assumption | (show -1 ≤ v ∧ v ≤ 6; omega), by assumption⟩, q8.set 1 (.int .i64 v), r8.far (by simp; omega) _, ht8.far (by simp; omega) _, gb_set hc8 (.inr (by simp; omega)) _⟩
          · go_wp2_with fail
            refine (wild_any tp _ ht7).mono ?_
            rintro e w8 ⟨v, hv8, rfl, ht8, hg8⟩
            have hv64 : I64 v := (by first | exact hv8 | (unfold I64; omega) | (simp at hv8; unfold I64; omega))
            have q8 := Bk.kept (by first | exact q7 | exact q7.alloc _) hg8 (by omega)
            have r8 := Bk.kept (by first | exact r7 | exact r7.alloc _) hg8 (by omega)
            have hc8 := gb_trans (by first | exact hc7 | exact gb_alloc hc7 _) hg8
            clear q7 r7 hc7 hg8 ht7
            obtain ⟨⟨c0, c1, c2, c3, c4, c5⟩, f0, f1, f2, f3, f4, f5⟩ := bk6 q8
            obtain ⟨g0, g1, g2, g3, g4, g5⟩ := vp_64 Hv.out
            go_wp2_with fail
            go_meet
            exact ⟨⟨p.k, p.m, v, p.o, p.n, p.y⟩, ⟨by assumption, by first | assumption | (simp at hv8; show -1 ≤ v ∧ v ≤ 41; omega), by assumption, by assumption, by first | assumption | (show -1 ≤ v ∧ v ≤ 6; omega), by assumption⟩, q8.set 2 (.int .i64 v), r8.far (by simp; omega) _, ht8.far (by simp; omega) _, gb_set hc8 (.inr (by simp; omega)) _⟩
          · go_wp2_with fail
            refine (wild_any tp _ ht7).mono ?_
            rintro e w8 ⟨v, hv8, rfl, ht8, hg8⟩
            have hv64 : I64 v := (by first | exact hv8 | (unfold I64; omega) | (simp at hv8; unfold I64; omega))
            have q8 := Bk.kept (by first | exact q7 | exact q7.alloc _) hg8 (by omega)
            have r8 := Bk.kept (by first | exact r7 | exact r7.alloc _) hg8 (by omega)
            have hc8 := gb_trans (by first | exact hc7 | exact gb_alloc hc7 _) hg8
            clear q7 r7 hc7 hg8 ht7
            obtain ⟨⟨c0, c1, c2, c3, c4, c5⟩, f0, f1, f2, f3, f4, f5⟩ := bk6 q8
            obtain ⟨g0, g1, g2, g3, g4, g5⟩ := vp_64 Hv.out
            go_wp2_with fail
            go_meet
            exact ⟨⟨p.k, p.m, p.t, v, p.n, p.y⟩, ⟨by assumption, by first | assumption | (simp at hv8; show -1 ≤ v ∧ v ≤ 41; omega), by assumption, by assumption, by first | assumption | (show -1 ≤ v ∧ v ≤ 6; omega), by assumption⟩, q8.set 3 (.int .i64 v), r8.far (by simp; omega) _, ht8.far (by simp; omega) _, gb_set hc8 (.inr (by simp; omega)) _⟩
          · go_wp2_with fail
            refine (range_any tp (-1) 6 _ ht7 (by omega) (by omega) (by omega)).mono ?_
            rintro e w8 ⟨v, hv8, rfl, ht8, hg8⟩
            have hv64 : I64 v := (by first | exact hv8 | (unfold I64; omega) | (simp at hv8; unfold I64; omega))
            have q8 := Bk.kept (by first | exact q7 | exact q7.alloc _) hg8 (by omega)
            have r8 := Bk.kept (by first | exact r7 | exact r7.alloc _) hg8 (by omega)
            have hc8 := gb_trans (by first | exact hc7 | exact gb_alloc hc7 _) hg8
            clear q7 r7 hc7 hg8 ht7
            obtain ⟨⟨c0, c1, c2, c3, c4, c5⟩, f0, f1, f2, f3, f4, f5⟩ := bk6 q8
            obtain ⟨g0, g1, g2, g3, g4, g5⟩ := vp_64 Hv.out
            go_wp2_with fail
            go_meet
            exact ⟨⟨p.k, p.m, p.t, p.o, v, p.y⟩, ⟨by assumption, by first | assumption | (simp at hv8; show -1 ≤ v ∧ v ≤ 41; omega), by assumption, by assumption, by first | assumption | (show -1 ≤ v ∧ v ≤ 6; omega), by assumption⟩, q8.set 4 (.int .i64 v), r8.far (by simp; omega) _, ht8.far (by simp; omega) _, gb_set hc8 (.inr (by simp; omega)) _⟩
          · go_wp2_with fail
            refine (range_any tp (-1) 5 _ ht7 (by omega) (by omega) (by omega)).mono ?_
            rintro e w8 ⟨v, hv8, rfl, ht8, hg8⟩
            have hv64 : I64 v := (by first | exact hv8 | (unfold I64; omega) | (simp at hv8; unfold I64; omega))
            have q8 := Bk.kept (by first | exact q7 | exact q7.alloc _) hg8 (by omega)
            have r8 := Bk.kept (by first | exact r7 | exact r7.alloc _) hg8 (by omega)
            have hc8 := gb_trans (by first | exact hc7 | exact gb_alloc hc7 _) hg8
            clear q7 r7 hc7 hg8 ht7
            obtain ⟨⟨c0, c1, c2, c3, c4, c5⟩, f0, f1, f2, f3, f4, f5⟩ := bk6 q8
            obtain ⟨g0, g1, g2, g3, g4, g5⟩ := vp_64 Hv.out
            go_wp2_with fail
            go_meet
            exact ⟨⟨p.k, p.m, p.t, p.o, p.n, v⟩, ⟨by assumption, by first | assumption | (simp at hv8; show -1 ≤ v ∧ v ≤ 41; omega), by assumption, by assumption, by first | assumption | (show -1 ≤ v ∧ v ≤ 6; omega), by assumption⟩, q8.set 5 (.int .i64 v), r8.far (by simp; omega) _, ht8.far (by simp; omega) _, gb_set hc8 (.inr (by simp; omega)) _⟩
      case rest =>
        clear q6 r6 ht6 hc6 Hv
        obtain ⟨p, h64, q, r, ht5, hc⟩ := hcut
        have H64 := Lib.hid h64
        clear h64
        obtain ⟨⟨c0, c1, c2, c3, c4, c5⟩, f0, f1, f2, f3, f4, f5⟩ := bk6 q
        obtain ⟨⟨d0, d1, d2, d3, d4, d5⟩, e0, e1, e2, e3, e4, e5⟩ := bk6 r
        go_wp2_with fail
        refine bodyPost_ret (v := pv p) (by simp [results, Try.results42, go_sem, c0, c1, c2, c3, c4, c5, d0, d1, d2, d3, d4, d5]) rfl ⟨p, H64.out, (fun h => by omega), rfl, ?_, ?_⟩
        · exact (((((ht5.far (by simp; omega) _).far (by simp; omega) _).far (by simp; omega) _).far (by simp; omega) _).far (by simp; omega) _).far (by simp; omega) _
        · exact gb_set (gb_set (gb_set (gb_set (gb_set (gb_set hc (.inr (by simp)) _) (.inr (by simp)) _) (.inr (by simp)) _) (.inr (by simp)) _) (.inr (by simp)) _) (.inr (by simp)) _
end Go.Proofs.Ytokddjohdodkmaa.Tm
