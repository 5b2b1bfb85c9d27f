/- One form for the results of Format and Parse, of the program and of the reference; awake and number of the statements. -/
import Derived.Test.YtpdekglmmgecmaaIG
import Derived.WalkKit
import Derived.WalkSpells
import Derived.WalkLawsBesides
import Derived.Deep.QuietTactic
import Derived.BigQuiet
import Derived.Deep.Draws
import Derived.Deep.AppendLies
import Derived.Laws.OwnMore
import Derived.Laws.BytesArg
import Derived.Lib.Hide
import Derived.Deep.LoopGhost
namespace Go.Proofs.Ytpdekglmmgecmaa.Id
open Go.RowKit
set_option linter.unusedSimpArgs false
set_option linter.unusedVariables false
set_option linter.unusedSimpArgs false

/-- The text and the error that Format returns. -/
def fs (c y k : Int) : ByteArray := if vldB c y k = true then fmtS ((c * 100 + y) * 100 * 100 + k) else ⟨#[]⟩
def fe (c y k : Int) : Int := if vldB c y k = true then 0 else 2
theorem format_any (c y k : Int) (w : World) :
    Calls Try.prog 13 #[idv c y k] w fun e w' => e = .returned (.tuple #[.string (fs c y k), .int .i64 (fe c y k)]) ∧ Below w.heap.size w w' := by
  unfold fs fe
  by_cases h : vldB c y k = true
  · rw [if_pos h, if_pos h]; exact format_yes c y k h w
  · rw [if_neg h, if_neg h]; exact format_no c y k (by simpa using h) w
theorem rformat_any (c y k : Int) (w : World) :
    Calls Try.prog 14 #[idv c y k] w fun e w' => e = .returned (.tuple #[.string (fs c y k), .int .i64 (fe c y k)]) ∧ Below w.heap.size w w' := by
  unfold fs fe
  by_cases h : vldB c y k = true
  · rw [if_pos h, if_pos h]; exact rformat_yes c y k h w
  · rw [if_neg h, if_neg h]; exact rformat_no c y k (by simpa using h) w

/-- The error and the ID that Parse returns. -/
def pe (s : ByteArray) : Int := if shpB s = true then (if ltr (byt s) = byt s 8 then 0 else 24) else 7
def pn (s : ByteArray) : Int := if pe s = 0 then pnum (byt s) else 0
def pc (s : ByteArray) : Int := pn s / 1000000
def py (s : ByteArray) : Int := pn s / 10000 % 100
def pk (s : ByteArray) : Int := pn s % 10000

theorem shp_iff (s : ByteArray) : shpB s = true ↔ s.size = 9 ∧ formB (byt s) = true := by simp [shpB]

theorem parse_any (s : ByteArray) (hs : s.size ≤ maxLen) (w : World) :
    Calls Try.prog 18 #[.string s] w fun e w' => e = .returned (.tuple #[idv (pc s) (py s) (pk s), .int .i64 (pe s)]) ∧ Below w.heap.size w w' := by
  unfold pc py pk pn pe
  by_cases h : shpB s = true
  · obtain ⟨h1, h2⟩ := (shp_iff s).1 h
    have := parse_formed s h1 h2 w
    by_cases hq : ltr (byt s) = byt s 8
    · rw [if_pos hq] at this
      simp only [if_pos h, if_pos hq, if_true]
      exact this
    · rw [if_neg hq] at this
      simp only [if_pos h, if_neg hq]
      exact this
  · simp only [if_neg h]
    by_cases h1 : s.size = 9
    · exact parse_form s h1 (by cases hf : formB (byt s); · rfl
                                · exact absurd ((shp_iff s).2 ⟨h1, hf⟩) h) w
    · exact parse_size s hs h1 w
theorem rparse_any (s : ByteArray) (hs : s.size ≤ maxLen) (w : World) :
    Calls Try.prog 19 #[.string s] w fun e w' => e = .returned (.tuple #[idv (pc s) (py s) (pk s), .int .i64 (pe s)]) ∧ Below w.heap.size w w' := by
  unfold pc py pk pn pe
  by_cases h : shpB s = true
  · obtain ⟨h1, h2⟩ := (shp_iff s).1 h
    have := rparse_formed s h1 h2 w
    by_cases hq : ltr (byt s) = byt s 8
    · rw [if_pos hq] at this
      simp only [if_pos h, if_pos hq, if_true]
      exact this
    · rw [if_neg hq] at this
      simp only [if_pos h, if_neg hq]
      exact this
  · simp only [if_neg h]
    exact rparse_form s hs (by simpa using h) w

/-- The chapter's example. -/
abbrev T1 : ByteArray := ⟨#[48, 48, 48, 48, 48, 48, 48, 49, 74]⟩
theorem fs_T1 : fs 0 0 1 = T1 := by
  apply ba_ext
  decide +kernel
theorem fe_T1 : fe 0 0 1 = 0 := by decide +kernel
theorem pe_T1 : pe T1 = 0 := by decide +kernel
theorem pn_T1 : pn T1 = 1 := by decide +kernel
theorem format_T1 (w : World) : Calls Try.prog 13 #[idv 0 0 1] w fun e w' => e = .returned (.tuple #[.string T1, .int .i64 0]) ∧ Below w.heap.size w w' := by
  have := format_any 0 0 1 w
  rwa [fs_T1, fe_T1] at this
theorem parse_T1 (w : World) : Calls Try.prog 18 #[.string T1] w fun e w' => e = .returned (.tuple #[idv 0 0 1, .int .i64 0]) ∧ Below w.heap.size w w' := by
  have := parse_any T1 (by decide +kernel) w
  unfold pc py pk at this
  rwa [pe_T1, pn_T1] at this

set_option maxHeartbeats 400000 in
theorem awake_any (w : World) : Calls Try.prog 17 #[] w fun e w' => e = .returned (.bool true) ∧ Below w.heap.size w w' := by
  go_enter Try.func17, Try.ntmps17
  go_wp2_with fail
  refine (format_T1 _).mono ?_
  rintro e w1 ⟨rfl, hb1⟩
  go_wp2_with fail
  refine (parse_T1 _).mono ?_
  rintro e w2 ⟨rfl, hb2⟩
  have hc2 : Below w.heap.size w w2 := hb1.trans (hb2.mono hb1.size)
  clear hb1 hb2
  go_wp2_with fail
  go_ret
  exact ⟨rfl, by (repeat (first | with_reducible exact Below.refl _ _ | with_reducible refine bl_drewN ?_ _ | with_reducible refine Below.drew ?_ | with_reducible refine bl_alloc ?_ _ | with_reducible refine Below.alloc ?_ (by first | omega | (simp; done) | (simp; omega)) _ | with_reducible refine Below.setCell ?_ (by first | omega | (simp; done) | (simp; omega)) _ | with_reducible assumption))⟩

theorem num_eq (m : Int) (h0 : 0 ≤ m) (h1 : m < 100000000) : (m / 1000000 * 100 + m / 10000 % 100) * 100 * 100 + m % 10000 = m := by omega
theorem num_vld (m : Int) (h0 : 0 ≤ m) (h1 : m < 100000000) : vldB (m / 1000000) (m / 10000 % 100) (m % 10000) = true := by
  simp [vldB]; omega

set_option maxHeartbeats 400000 in
theorem number_any (n : Int) (hx0 : -9223372036854775808 ≤ n) (hx1 : n ≤ 9223372036854775807) (w : World) :
    Calls Try.prog 20 #[.int .i64 n] w fun e w' => e = .returned (.string (fmtS (n % 100000000))) ∧ Below w.heap.size w w' := by
  have hb := Int.emod_nonneg n (show (100000000 : Int) ≠ 0 by omega)
  have hc := Int.emod_lt_of_pos n (show (0 : Int) < 100000000 by omega)
  have hf := rformat_yes _ _ _ (num_vld (n % 100000000) hb hc)
  rw [num_eq _ hb hc] at hf
  have Hf := Lib.hid hf
  clear hf
  obtain ⟨m, hm⟩ : ∃ m, n % 100000000 = m := ⟨_, rfl⟩
  have hcut := cut_any n 100000000 (by omega) (by omega) hx0 hx1
  rw [hm] at hb hc Hf hcut ⊢
  have Hcut := Lib.hid hcut
  clear hcut hm
  go_enter Try.func20, Try.ntmps20
  go_wp2_with fail
  refine (Hcut.out _).mono ?_
  rintro e w1 ⟨rfl, rfl⟩
  go_wp2_with fail
  refine (Hf.out _).mono ?_
  rintro e w2 ⟨rfl, hb2⟩
  go_wp2_with fail
  go_ret
  exact ⟨rfl, hb2⟩
end Go.Proofs.Ytpdekglmmgecmaa.Id
