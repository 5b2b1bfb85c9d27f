/- Walks: Format and Parse of the reference; number and awake of the statements. -/
import Derived.Test.YtpdekglmmgecmaaIF
import Derived.WalkKit
import Derived.WalkSpells
import Derived.WalkLawsBesides
import Derived.Deep.QuietTactic
import Derived.BigQuiet
import Derived.Deep.Draws
import Derived.Deep.AppendLies
import Derived.Laws.OwnMore
import Derived.Laws.BytesArg
import Derived.Lib.Hide
import Derived.Deep.LoopGhost
import Derived.LoopN
namespace Go.Proofs.Ytpdekglmmgecmaa.Id
open Go.RowKit
set_option linter.unusedSimpArgs false
set_option linter.unusedVariables false
set_option linter.unusedSimpArgs false

/-- The eight digits of a number. -/
def fb8 (N : Int) : List Int := [fb N 0, fb N 1, fb N 2, fb N 3, fb N 4, fb N 5, fb N 6, fb N 7]
theorem fb_bd (N : Int) (i : Nat) (h : i < 8) : 48 ≤ fb N i ∧ fb N i ≤ 57 := by
  have : i = 0 ∨ i = 1 ∨ i = 2 ∨ i = 3 ∨ i = 4 ∨ i = 5 ∨ i = 6 ∨ i = 7 := by omega
  rcases this with h | h | h | h | h | h | h | h <;> subst h <;> simp only [fb] <;> omega
theorem pads (c y k : Int) (v1 : 0 ≤ c) (v2 : c ≤ 99) (v3 : 0 ≤ y) (v4 : y ≤ 99) (v5 : 0 ≤ k) (v6 : k ≤ 9999) :
    [48 + c / 10 % 10, 48 + c % 10] ++ [48 + y / 10 % 10, 48 + y % 10] ++ [48 + k / 10 / 10 / 10 % 10, 48 + k / 10 / 10 % 10, 48 + k / 10 % 10, 48 + k % 10] = fb8 ((c * 100 + y) * 100 * 100 + k) := by
  simp only [List.cons_append, List.nil_append, fb8, fb, List.cons.injEq, and_true]
  refine ⟨?_, ?_, ?_, ?_, ?_, ?_, ?_, ?_⟩ <;> omega
theorem byt_list (l : List Int) (i : Nat) (h : i < l.length) (hr : 0 ≤ l[i] ∧ l[i] ≤ 255) : byt (strOfNums l) i = l[i] := by
  unfold byt
  rw [strOfNums_data, List.getD_eq_getElem?_getD, List.getElem?_map, List.getElem?_eq_getElem h]
  simp only [Option.map_some, Option.getD_some]
  rw [UInt8.toNat_ofNat']
  omega
theorem fb8_at (N : Int) (i : Nat) (h : i < 8) : (fb8 N)[i]'(by simpa [fb8] using h) = fb N i := by
  have : i = 0 ∨ i = 1 ∨ i = 2 ∨ i = 3 ∨ i = 4 ∨ i = 5 ∨ i = 6 ∨ i = 7 := by omega
  rcases this with h | h | h | h | h | h | h | h <;> subst h <;> rfl
theorem byt_fb8 (N : Int) (i : Nat) (h : i < 8) : byt (strOfNums (fb8 N)) i = fb N i := by
  have hb := fb_bd N i h
  rw [byt_list (fb8 N) i (by simpa [fb8] using h) (by rw [fb8_at N i h]; omega), fb8_at N i h]
theorem lsum_congr (a b : Nat → Int) (h : ∀ i, i < 8 → a i = b i) : lsum a = lsum b := by
  unfold lsum
  rw [h 0 (by omega), h 1 (by omega), h 2 (by omega), h 3 (by omega), h 4 (by omega), h 5 (by omega), h 6 (by omega), h 7 (by omega)]
theorem ltr_congr (a b : Nat → Int) (h : ∀ i, i < 8 → a i = b i) : ltr a = ltr b := by unfold ltr; rw [lsum_congr a b h]
theorem dig_fb8 (N : Int) : Dig8 (byt (strOfNums (fb8 N))) := fun i h => by rw [byt_fb8 N i h]; exact fb_bd N i h
theorem let_fb8 (N : Int) : letR (strOfNums (fb8 N)) (.tuple #[.string (strOfNums [ltr (fb N)]), .int .i64 0]) :=
  .inl ⟨by rw [strOfNums_size]; rfl, dig_fb8 N, by rw [ltr_congr _ _ (fun i h => byt_fb8 N i h)]⟩
theorem fmtS_eq (N : Int) : strOfNums (fb8 N) ++ strOfNums [ltr (fb N)] = fmtS N := by rw [str_app]; rfl

set_option maxHeartbeats 400000 in
theorem rformat_no (c y k : Int) (h : vldB c y k = false) (w : World) :
    Calls Try.prog 14 #[idv c y k] w fun e w' => e = .returned (.tuple #[.string ⟨#[]⟩, .int .i64 2]) ∧ Below w.heap.size w w' := by
  go_enter Try.func14, Try.ntmps14
  go_wp2_with fail
  refine (rvalid_any c y k _).mono ?_
  rintro e w1 ⟨rfl, hb1⟩
  have hc1 : Below w.heap.size w w1 := Below.trans (by (repeat (first | with_reducible exact Below.refl _ _ | with_reducible refine bl_drewN ?_ _ | with_reducible refine Below.drew ?_ | with_reducible refine bl_alloc ?_ _ | with_reducible refine Below.alloc ?_ (by first | omega | (simp; done) | (simp; omega)) _ | with_reducible refine Below.setCell ?_ (by first | omega | (simp; done) | (simp; omega)) _ | with_reducible assumption))) (hb1.mono (by simp))
  go_wp2_with fail
  go_ret2
  exact ⟨rfl, hc1⟩

/-- A number with 2 or 4 digits, as bytes. -/
def padL (x n : Int) : List Int := if n = 2 then [48 + x / 10 % 10, 48 + x % 10] else [48 + x / 10 / 10 / 10 % 10, 48 + x / 10 / 10 % 10, 48 + x / 10 % 10, 48 + x % 10]
theorem padL2 (x : Int) : padL x 2 = [48 + x / 10 % 10, 48 + x % 10] := rfl
theorem padL4 (x : Int) : padL x 4 = [48 + x / 10 / 10 / 10 % 10, 48 + x / 10 / 10 % 10, 48 + x / 10 % 10, 48 + x % 10] := rfl
theorem padded_any (x n : Int) (hn : n = 2 ∨ n = 4) (h0 : 0 ≤ x) (h1 : x ≤ 9999) (w : World) :
    Calls Try.prog 29 #[.int .i64 x, .int .i64 n] w fun e w' => e = .returned (.string (strOfNums (padL x n))) ∧ Below w.heap.size w w' := by
  rcases hn with rfl | rfl
  · exact padded2 x h0 h1 w
  · exact padded4 x h0 h1 w

attribute [local go_sem] str_app strOfNums_size padL2 padL4

set_option maxHeartbeats 1000000 in
theorem rformat_yes (c y k : Int) (h : vldB c y k = true) (w : World) :
    Calls Try.prog 14 #[idv c y k] w fun e w' => e = .returned (.tuple #[.string (fmtS ((c * 100 + y) * 100 * 100 + k)), .int .i64 0]) ∧ Below w.heap.size w w' := by
  have hv : 0 ≤ c ∧ c ≤ 99 ∧ 0 ≤ y ∧ y ≤ 99 ∧ 0 ≤ k ∧ k ≤ 9999 := by simpa [vldB] using h
  obtain ⟨v1, v2, v3, v4, v5, v6⟩ := hv
  have Hp := Lib.hid (pads c y k v1 v2 v3 v4 v5 v6)
  go_enter Try.func14, Try.ntmps14
  go_wp2_with fail
  refine (rvalid_any c y k _).mono ?_
  rintro e w1 ⟨rfl, hb1⟩
  obtain ⟨z0, z1, z2, y0, y1, y2⟩ : Blk3 w1 w.heap.size c y k := Blk3.below (by unfold Blk3; go_simp) hb1 (by simp)
  have hs1 : w.heap.size < w1.heap.size := by have := hb1.size; simp at this; omega
  have hc1 : Below w.heap.size w w1 := Below.trans (by (repeat (first | with_reducible exact Below.refl _ _ | with_reducible refine bl_drewN ?_ _ | with_reducible refine Below.drew ?_ | with_reducible refine bl_alloc ?_ _ | with_reducible refine Below.alloc ?_ (by first | omega | (simp; done) | (simp; omega)) _ | with_reducible refine Below.setCell ?_ (by first | omega | (simp; done) | (simp; omega)) _ | with_reducible assumption))) (hb1.mono (by simp))
  clear hb1
  go_wp2_with fail
  refine Mm.region_ext (by kernel_rfl) (by kernel_rfl) ?_; (repeat (first | go_big_quiet_step ((go_at_call 29; exact Mm.calls_ext (padded_any _ _ (by omega) (by omega) (by omega) _))) | quiet_step ((go_at_call 29; exact Mm.calls_ext (padded_any _ _ (by omega) (by omega) (by omega) _))))); refine wpQuiet_nil ?_
  intro w3 hb3
  have hc3 : Below w.heap.size w w3 := hc1.trans (hb3.mono hc1.size)
  have hp := Hp.out
  simp only [List.cons_append, List.nil_append] at hp
  rw [hp]
  clear hp hb3 z0 z1 z2 y0 y1 y2
  clear Hp
  have hlen : (fb8 ((c * 100 + y) * 100 * 100 + k)).length = 8 := rfl
  go_wp2_with fail
  refine (rletter_any (strOfNums (fb8 ((c * 100 + y) * 100 * 100 + k))) (by rw [strOfNums_size, hlen]; decide) _ (let_fb8 ((c * 100 + y) * 100 * 100 + k)) _).mono ?_
  rintro e w4 ⟨rfl, rfl⟩
  go_wp2_with fail
  go_ret2
  exact ⟨rfl, hc3⟩

theorem pnum' (b : Nat → Int) : pnum b = 10 * (10 * (10 * (10 * (10 * (10 * (10 * d8 (b 0) + d8 (b 1)) + d8 (b 2)) + d8 (b 3)) + d8 (b 4)) + d8 (b 5)) + d8 (b 6)) + d8 (b 7) := by
  unfold pnum; omega
theorem byt_cut (s : ByteArray) (i : Nat) (h : i < 8) : byt (s.extract 0 8) i = byt s i := by
  unfold byt
  rw [Lib.extract_data]
  simp only [List.drop_zero, List.getD_eq_getElem?_getD]
  rw [List.getElem?_take_of_lt (by omega)]
theorem form_dig (b : Nat → Int) (h : formB b = true) : Dig8 b := fun i hi => by
  have h1 : ∀ k : Nat, k < 9 → fitB k (b k) = true := by simpa [formB] using h
  have h2 := h1 i (by omega)
  unfold fitB at h2
  rw [if_pos (by omega)] at h2
  simpa [digB] using h2

theorem streq (a b : ByteArray) : (a.toList == b.toList) = decide (a = b) := by
  rw [Bool.eq_iff_iff]
  simp only [beq_iff_eq, decide_eq_true_eq]
  rw [ByteArray.toList_eq, ByteArray.toList_eq]
  exact ⟨ba_ext, fun h => by rw [h]⟩
theorem cut8 (s : ByteArray) (hl : s.size = 9) : s.extract 8 9 = strOfNums [byt s 8] := by
  apply ba_ext
  rw [Lib.extract_data, strOfNums_data]
  have h : s.data.toList.length = 9 := by simpa using hl
  unfold byt
  generalize s.data.toList = l at *
  match l, h with
  | [c0, c1, c2, c3, c4, c5, c6, c7, c8], _ => simp
theorem str1_inj (x y : Int) (hx : 0 ≤ x ∧ x ≤ 255) (hy : 0 ≤ y ∧ y ≤ 255) : strOfNums [x] = strOfNums [y] ↔ x = y := by
  constructor
  · intro h
    have : byt (strOfNums [x]) 0 = byt (strOfNums [y]) 0 := by rw [h]
    rwa [byt_list [x] 0 (by simp) hx, byt_list [y] 0 (by simp) hy] at this
  · intro h; rw [h]
theorem let_bd' : ∀ k : Fin 23, 65 ≤ let_ ((k.val : Nat) : Int) ∧ let_ ((k.val : Nat) : Int) ≤ 89 := by decide +kernel
theorem ltr_bd (b : Nat → Int) : 65 ≤ ltr b ∧ ltr b ≤ 89 := by
  unfold ltr
  have h0 := lsum_bd b
  obtain ⟨m, hm⟩ := Int.eq_ofNat_of_zero_le (show 0 ≤ lsum b % 23 by omega)
  rw [hm]
  exact let_bd' ⟨m, by omega⟩
theorem let_eq8 (s : ByteArray) (hl : s.size = 9) : ((strOfNums [ltr (byt s)]).toList == (s.extract 8 9).toList) = decide (ltr (byt s) = byt s 8) := by
  rw [streq, cut8 s hl, Bool.eq_iff_iff]
  simp only [decide_eq_true_eq]
  have := ltr_bd (byt s)
  exact str1_inj _ _ (by omega) (byt_bd s 8)

set_option maxHeartbeats 400000 in
theorem rparse_form (s : ByteArray) (hs : s.size ≤ maxLen) (hf : shpB s = false) (w : World) :
    Calls Try.prog 19 #[.string s] w fun e w' => e = .returned (.tuple #[idv 0 0 0, .int .i64 7]) ∧ Below w.heap.size w w' := by
  have Hs := Lib.hid hs
  clear hs
  go_enter Try.func19, Try.ntmps19
  go_wp2_with fail
  refine (shape_any s Hs.out _).mono ?_
  rintro e w1 ⟨rfl, rfl⟩
  go_wp2_with fail
  refine bodyPost_ret (v := .tuple #[idv 0 0 0, .int .i64 7]) (by simp [results, Try.results19, go_sem]) rfl ⟨rfl, ?_⟩
  (repeat (first | with_reducible exact Below.refl _ _ | with_reducible refine bl_drewN ?_ _ | with_reducible refine Below.drew ?_ | with_reducible refine bl_alloc ?_ _ | with_reducible refine Below.alloc ?_ (by first | omega | (simp; done) | (simp; omega)) _ | with_reducible refine Below.setCell ?_ (by first | omega | (simp; done) | (simp; omega)) _ | with_reducible assumption))

set_option maxHeartbeats 1000000 in
theorem rparse_formed (s : ByteArray) (hl : s.size = 9) (hf : formB (byt s) = true) (w : World) :
    Calls Try.prog 19 #[.string s] w fun e w' =>
      e = .returned (if ltr (byt s) = byt s 8 then .tuple #[idv (pnum (byt s) / 1000000) (pnum (byt s) / 10000 % 100) (pnum (byt s) % 10000), .int .i64 0] else .tuple #[idv 0 0 0, .int .i64 24]) ∧ Below w.heap.size w w' := by
  obtain ⟨R, hR⟩ : ∃ R, (if ltr (byt s) = byt s 8 then Value.tuple #[idv (pnum (byt s) / 1000000) (pnum (byt s) / 10000 % 100) (pnum (byt s) % 10000), .int .i64 0] else .tuple #[idv 0 0 0, .int .i64 24]) = R := ⟨_, rfl⟩
  rw [hR]
  have HR := Lib.hid hR
  clear hR
  have hsh : shpB s = true := by simp [shpB, hl, hf]
  have hL : letR (s.extract 0 8) (.tuple #[.string (strOfNums [ltr (byt s)]), .int .i64 0]) :=
    .inl ⟨by simp [hl], fun i hi => by rw [byt_cut s i hi]; exact form_dig _ hf i hi, by rw [ltr_congr _ _ (fun i h => byt_cut s i h)]⟩
  have HL := Lib.hid hL
  have Hf := Lib.hid hf
  clear hL hf
  have hby : ∀ (i : Nat) (h : i < s.size), ((s[i]'h).toNat : Int) = byt s i := fun i h => (byt_at s i h).symm
  go_enter Try.func19, Try.ntmps19
  go_wp2_with fail
  refine (shape_any s (by rw [hl]; decide) _).mono ?_
  rintro e w1 ⟨rfl, rfl⟩
  go_wp2_with fail
  refine (rletter_any (s.extract 0 8) (by simp [hl, maxLen]) _ HL.out _).mono ?_
  rintro e w1 ⟨rfl, rfl⟩
  have hq := let_eq8 s hl
  by_cases hc : ltr (byt s) = byt s 8
  · have HR2 := Lib.hid ((if_pos hc).symm.trans HR.out)
    rw [decide_eq_true hc] at hq
    clear hc
    go_wp2_with fail
    refine wp_loop_rounds 9 ?_
    iterate 9 (rw [rounds_succ]; go_wp2_with fail)
    refine bodyPost_ret (v := .tuple #[idv (pnum (byt s) / 1000000) (pnum (byt s) / 10000 % 100) (pnum (byt s) % 10000), .int .i64 0]) ?_ rfl ⟨by rw [HR2.out], ?_⟩
    · rw [show pnum (byt s) = _ from pnum' (byt s)]
      simp [results, Try.results19, go_sem, d8]
    · (repeat (first | with_reducible exact Below.refl _ _ | with_reducible refine bl_drewN ?_ _ | with_reducible refine Below.drew ?_ | with_reducible refine bl_alloc ?_ _ | with_reducible refine Below.alloc ?_ (by first | omega | (simp; done) | (simp; omega)) _ | with_reducible refine Below.setCell ?_ (by first | omega | (simp; done) | (simp; omega)) _ | with_reducible assumption))
  · have HR2 := Lib.hid ((if_neg hc).symm.trans HR.out)
    rw [decide_eq_false hc] at hq
    clear hc
    go_wp2_with fail
    refine bodyPost_ret (v := .tuple #[idv 0 0 0, .int .i64 24]) (by simp [results, Try.results19, go_sem]) rfl ⟨by rw [HR2.out], ?_⟩
    (repeat (first | with_reducible exact Below.refl _ _ | with_reducible refine bl_drewN ?_ _ | with_reducible refine Below.drew ?_ | with_reducible refine bl_alloc ?_ _ | with_reducible refine Below.alloc ?_ (by first | omega | (simp; done) | (simp; omega)) _ | with_reducible refine Below.setCell ?_ (by first | omega | (simp; done) | (simp; omega)) _ | with_reducible assumption))
end Go.Proofs.Ytpdekglmmgecmaa.Id
