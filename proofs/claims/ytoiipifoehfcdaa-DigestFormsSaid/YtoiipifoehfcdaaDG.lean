/- Walk: the sanity check of the statements of this layer. -/
import Derived.Test.YtoiipifoehfcdaaDF
import Derived.WalkKit
import Derived.WalkSpells
import Derived.WalkLawsBesides
import Derived.Deep.QuietTactic
import Derived.BigQuiet
import Derived.Deep.Draws
import Derived.Deep.AppendLies
import Derived.Laws.OwnMore
import Derived.Laws.BytesArg
import Derived.Lib.Hide
import Derived.Deep.LoopGhost
namespace Go.Proofs.Ytoiipifoehfcdaa.Dg
open Go.RowKit

/-- Equality of two states, as a Bool. -/
def eqb (s t : St) : Bool := s.1 == t.1 && s.2.1 == t.2.1 && s.2.2.1 == t.2.2.1 && s.2.2.2 == t.2.2.2
theorem eqb_iff (s t : St) : eqb s t = true ↔ s = t := by
  obtain ⟨a, b, c, d⟩ := s
  obtain ⟨a', b', c', d'⟩ := t
  simp [eqb, and_assoc]
theorem eqb_self (s : St) : eqb s s = true := (eqb_iff s s).2 rfl
theorem part_0 (a b c d : Int) (w : World) : (part 22 #[.int .u32 a, .int .u32 b, .int .u32 c, .int .u32 d] 0).run Try.prog w = .ok (.int .u32 a) w := by kernel_rfl
theorem part_1 (a b c d : Int) (w : World) : (part 22 #[.int .u32 a, .int .u32 b, .int .u32 c, .int .u32 d] 1).run Try.prog w = .ok (.int .u32 b) w := by kernel_rfl
theorem part_2 (a b c d : Int) (w : World) : (part 22 #[.int .u32 a, .int .u32 b, .int .u32 c, .int .u32 d] 2).run Try.prog w = .ok (.int .u32 c) w := by kernel_rfl
theorem part_3 (a b c d : Int) (w : World) : (part 22 #[.int .u32 a, .int .u32 b, .int .u32 c, .int .u32 d] 3).run Try.prog w = .ok (.int .u32 d) w := by kernel_rfl
theorem cells32 : Try.prog.cellsOf 22 = 1 := by kernel_rfl
theorem info32 : (Try.prog.info? 22).map (fun i => (i.zero, i.size, i.bytes)) = some (some (.int .u32 0), 1, 4) := by kernel_rfl
theorem eq4 (T : TypeId) (hu : Try.prog.underlying T = some (.array 4 22)) (s t : St) (w : World) : (Op.equalIn 10000 T (dv s) (dv t)).run Try.prog w = .ok (eqb s t) w := by
  obtain ⟨i0, hi, _⟩ := info_parts info32
  have h := run_equalIn_array (P := Try.prog) w 9999 (dv s).cells (dv t).cells hu hi
  refine h.trans ?_
  rw [cells32, show List.range 4 = [0, 1, 2, 3] from rfl]
  have e : ∀ (a b : Int) (W : World), (Op.equalIn 9999 22 (.int .u32 a) (.int .u32 b)).run Try.prog W = .ok (a == b) W := fun a b W => run_equalIn_int W 9998 _ _ _ a b Try.underlying22
  simp only [Op.eqItems, Sem.run_bind, Value.cells, eqb, Nat.mul_one]
  cases h0 : s.1 == t.1 <;> cases h1 : s.2.1 == t.2.1 <;> cases h2 : s.2.2.1 == t.2.2.1 <;> cases h3 : s.2.2.2 == t.2.2.2 <;> simp [part_0, part_1, part_2, part_3, e, h0, h1, h2, h3]
theorem eq_dig (a b c d a' b' c' d' : Int) (w : World) : (Op.equalIn 10000 24 (.agg #[.int .u32 a, .int .u32 b, .int .u32 c, .int .u32 d]) (.agg #[.int .u32 a', .int .u32 b', .int .u32 c', .int .u32 d'])).run Try.prog w = .ok (eqb (a, b, c, d) (a', b', c', d')) w :=
  eq4 _ Try.underlying24 (a, b, c, d) (a', b', c', d') w
theorem eq_arr (a b c d a' b' c' d' : Int) (w : World) : (Op.equalIn 10000 23 (.agg #[.int .u32 a, .int .u32 b, .int .u32 c, .int .u32 d]) (.agg #[.int .u32 a', .int .u32 b', .int .u32 c', .int .u32 d'])).run Try.prog w = .ok (eqb (a, b, c, d) (a', b', c', d')) w :=
  eq4 _ Try.underlying23 (a, b, c, d) (a', b', c', d') w

/-- The chapter's example text. -/
abbrev T0 : ByteArray := ⟨#[48, 48, 48, 48, 48, 48, 48, 49, 48, 48, 48, 48, 48, 48, 48, 48, 48, 48, 48, 48, 48, 48, 48, 48, 48, 48, 48, 48, 48, 48, 102, 102]⟩
theorem pok_T0 : pok T0 := ⟨by decide +kernel, by decide +kernel⟩
theorem pst_T0 : pst T0 32 = (1, 0, 0, 255) := by decide +kernel
theorem txt_T0 : strOfNums (tx (1, 0, 0, 255) 32) = T0 := by
  have h : (tx (1, 0, 0, 255) 32).map (fun n => UInt8.ofNat n.toNat) = T0.data.toList := by decide +kernel
  unfold strOfNums; rw [h]
theorem perm_0 : perm (0, 0, 0, 0) = (0, 0, 0, 0) := by rw [perm_eq]; decide +kernel
theorem perm_1 : perm (1, 0, 0, 0) = (1865337211, 140878326, 2655964565, 1394447615) := by rw [perm_eq]; decide +kernel

theorem parse_T0 (w : World) : Calls Try.prog 8 #[.string T0] w fun e w' => e = .returned (.tuple #[dv (1, 0, 0, 255), .int .i64 0]) ∧ Below w.heap.size w w' := by
  have := parse_ok T0 (by decide +kernel) pok_T0 w
  rwa [pst_T0] at this
theorem text_T0 (w : World) : Calls Try.prog 7 #[dv (1, 0, 0, 255)] w fun e w' => e = .returned (.string T0) ∧ Below w.heap.size w w' := by
  have := text_any (1, 0, 0, 255) w
  rwa [txt_T0] at this
theorem perm_T0 (w : World) : Calls Try.prog 10 #[dv (0, 0, 0, 0)] w fun e w' => e = .returned (dv (0, 0, 0, 0)) ∧ Below w.heap.size w w' := by
  have := perm_any (0, 0, 0, 0) w
  rwa [perm_0] at this
theorem perm_T1 (w : World) : Calls Try.prog 10 #[dv (1, 0, 0, 0)] w fun e w' => e = .returned (dv (1865337211, 140878326, 2655964565, 1394447615)) ∧ Below w.heap.size w w' := by
  have := perm_any (1, 0, 0, 0) w
  rwa [perm_1] at this

attribute [local go_sem] eq_dig eq_arr

set_option maxHeartbeats 400000 in
theorem sane_any (w : World) :
    Calls Try.prog 9 #[] w fun e w' => e = .returned (.bool true) ∧ Below w.heap.size w w' := by
  have q0 : eqb (1, 0, 0, 255) (1, 0, 0, 255) = true := rfl
  have q1 : eqb (0, 0, 0, 0) (0, 0, 0, 0) = true := rfl
  have q2 : eqb (1865337211, 140878326, 2655964565, 1394447615) (1, 0, 0, 0) = false := by decide +kernel
  go_enter Try.func9, Try.ntmps9
  go_wp2_with fail
  refine (parse_T0 _).mono ?_
  rintro e w1 ⟨rfl, hb1⟩
  go_wp2_with fail
  refine (text_T0 _).mono ?_
  rintro e w2 ⟨rfl, hb2⟩
  have hD2 : Blk4 w2 w1.heap.size (1, 0, 0, 255) := Blk4.below (by unfold Blk4; go_simp) hb2 (by simp)
  have hs2 : w1.heap.size < w2.heap.size := by have := hb2.size; simp at this; omega
  have hc2 : Below w.heap.size w w2 := Below.trans (hb1.alloc hb1.size _) (hb2.mono (by have := hb1.size; simp; omega))
  clear hb2
  go_wp2_with fail
  refine (perm_T0 _).mono ?_
  rintro e w3 ⟨rfl, hb3⟩
  have hD3 := hD2.below hb3 hs2
  have hs3 : w1.heap.size < w3.heap.size := by have := hb3.size; omega
  have hc3 : Below w.heap.size w w3 := hc2.trans (hb3.mono hc2.size)
  clear hb3 hD2 hs2 hc2
  go_wp2_with fail
  refine (perm_T1 _).mono ?_
  rintro e w4 ⟨rfl, hb4⟩
  have hD4 := hD3.below hb4 hs3
  have hs4 : w1.heap.size < w4.heap.size := by have := hb4.size; omega
  have hc4 : Below w.heap.size w w4 := hc3.trans (hb4.mono hc3.size)
  clear hb4 hD3 hs3 hc3
  obtain ⟨c0, c1, c2, c3, _⟩ := id hD4
  go_wp2_with fail
  refine (join_any (1, 0, 0, 255) (1, 0, 0, 255) _).mono ?_
  rintro e w5 ⟨rfl, hb5⟩
  have hc5 : Below w.heap.size w w5 := hc4.trans (hb5.mono hc4.size)
  clear hb5
  go_wp2_with fail
  refine (words_any 1 _ _ [1, 0, 0, 255, 1, 0, 0, 255] _ (by simp) ?hr).mono ?_
  case hr => refine Rd.lit' rfl rfl ?_ ?_ <;> simp
  rintro e w6 ⟨rfl, hb6⟩
  have hc6 : Below w.heap.size w w6 := Below.trans (hc5.alloc hc5.size _) (hb6.mono (by have := hc5.size; simp; omega))
  clear hb6
  have q5 : joinw (1, 0, 0, 255) (1, 0, 0, 255) = words 1 [1, 0, 0, 255, 1, 0, 0, 255] := rfl
  have q6 := eqb_self (words 1 [1, 0, 0, 255, 1, 0, 0, 255])
  go_wp2
  go_ret
  exact ⟨rfl, hc6⟩
end Go.Proofs.Ytoiipifoehfcdaa.Dg
