/- Walks: the reference of layer 4: Letter, Padded, place, Shape. -/
import Derived.Test.YtpdekglmmgecmaaIE
import Derived.WalkKit
import Derived.WalkSpells
import Derived.WalkLawsBesides
import Derived.Deep.QuietTactic
import Derived.BigQuiet
import Derived.Deep.Draws
import Derived.Deep.AppendLies
import Derived.Laws.OwnMore
import Derived.Laws.BytesArg
import Derived.Lib.Hide
import Derived.Deep.LoopGhost
import Derived.LoopN
namespace Go.Proofs.Ytpdekglmmgecmaa.Id
open Go.RowKit
set_option linter.unusedSimpArgs false

/-- Eight digits. -/
def Dig8 (b : Nat → Int) : Prop := ∀ i, i < 8 → 48 ≤ b i ∧ b i ≤ 57
/-- What Letter returns. -/
def letR (s : ByteArray) (v : Value) : Prop := (s.size = 8 ∧ Dig8 (byt s) ∧ v = .tuple #[.string (strOfNums [ltr (byt s)]), .int .i64 0]) ∨ (¬ (s.size = 8 ∧ Dig8 (byt s)) ∧ v = .tuple #[.string ⟨#[]⟩, .int .i64 7])
theorem letR_ex (s : ByteArray) : ∃ v, letR s v := by
  by_cases h : s.size = 8 ∧ Dig8 (byt s)
  · exact ⟨_, .inl ⟨h.1, h.2, rfl⟩⟩
  · exact ⟨_, .inr ⟨h, rfl⟩⟩

theorem cutLet' : ∀ k : Fin 23, (ByteArray.mk #[65, 66, 67, 68, 69, 70, 71, 72, 74, 75, 76, 77, 78, 80, 81, 82, 83, 84, 85, 86, 87, 88, 89]).extract k.val (k.val + 1) = strOfNums [let_ ((k.val : Nat) : Int)] := by
  have h : ∀ k : Fin 23, ((ByteArray.mk #[65, 66, 67, 68, 69, 70, 71, 72, 74, 75, 76, 77, 78, 80, 81, 82, 83, 84, 85, 86, 87, 88, 89]).extract k.val (k.val + 1)).data.toList = (strOfNums [let_ ((k.val : Nat) : Int)]).data.toList := by decide +kernel
  intro k
  have := h k
  generalize (ByteArray.mk #[65, 66, 67, 68, 69, 70, 71, 72, 74, 75, 76, 77, 78, 80, 81, 82, 83, 84, 85, 86, 87, 88, 89]).extract k.val (k.val + 1) = a at *
  generalize strOfNums [let_ ((k.val : Nat) : Int)] = b at *
  obtain ⟨⟨a⟩⟩ := a
  obtain ⟨⟨b⟩⟩ := b
  simp at this
  rw [this]
theorem cutLet (n : Int) (h0 : 0 ≤ n) (h1 : n < 23) : (ByteArray.mk #[65, 66, 67, 68, 69, 70, 71, 72, 74, 75, 76, 77, 78, 80, 81, 82, 83, 84, 85, 86, 87, 88, 89]).extract n.toNat (n + 1).toNat = strOfNums [let_ n] := by
  obtain ⟨m, rfl⟩ := Int.eq_ofNat_of_zero_le h0
  have := cutLet' ⟨m, by omega⟩
  rw [show ((m : Int) + 1).toNat = m + 1 by omega]
  exact this

theorem lsum_dig (b : Nat → Int) (h : Dig8 b) : lsum b = b 0 - 48 + 2 * (b 1 - 48) + 3 * (b 2 - 48) + 4 * (b 3 - 48) + 5 * (b 4 - 48) + 6 * (b 5 - 48) + 7 * (b 6 - 48) + 8 * (b 7 - 48) := by
  have h0 := h 0 (by omega); have h1 := h 1 (by omega); have h2 := h 2 (by omega); have h3 := h 3 (by omega)
  have h4 := h 4 (by omega); have h5 := h 5 (by omega); have h6 := h 6 (by omega); have h7 := h 7 (by omega)
  unfold lsum d8; omega

set_option maxHeartbeats 2000000 in
theorem rletter_8 (s : ByteArray) (hl : s.size = 8) (R : Value) (hR : letR s R) (w : World) :
    Calls Try.prog 22 #[.string s] w fun e w' => e = .returned R ∧ w = w' := by
  have HR := Lib.hid (show ¬ Dig8 (byt s) → R = .tuple #[.string ⟨#[]⟩, .int .i64 7] from fun h => by
    rcases hR with ⟨_, h2, _⟩ | ⟨_, h3⟩
    · exact absurd h2 h
    · exact h3)
  have HY := Lib.hid (show Dig8 (byt s) → R = .tuple #[.string (strOfNums [ltr (byt s)]), .int .i64 0] from fun h => by
    rcases hR with ⟨_, _, h3⟩ | ⟨h2, _⟩
    · exact h3
    · exact absurd ⟨hl, h⟩ h2)
  clear hR
  have hby : ∀ (i : Nat) (h : i < s.size), ((s[i]'h).toNat : Int) = byt s i := fun i h => (byt_at s i h).symm
  go_enter Try.func22, Try.ntmps22
  go_wp2_with fail
  refine wp_loop_rounds 9 ?_
  rw [rounds_succ]
  by_cases g0 : byt s 0 < 48
  · have Hn := Lib.hid (HR.out (fun h => by have := (h 0 (by omega)).1; omega))
    go_wp2_with fail
    go_ret2
    exact ⟨by rw [Hn.out]; rfl, rfl⟩
  by_cases l0 : 57 < byt s 0
  · have Hn := Lib.hid (HR.out (fun h => by have := (h 0 (by omega)).2; omega))
    go_wp2_with fail
    go_ret2
    exact ⟨by rw [Hn.out]; rfl, rfl⟩
  go_wp2_with fail
  rw [rounds_succ]
  by_cases g1 : byt s 1 < 48
  · have Hn := Lib.hid (HR.out (fun h => by have := (h 1 (by omega)).1; omega))
    go_wp2_with fail
    go_ret2
    exact ⟨by rw [Hn.out]; rfl, rfl⟩
  by_cases l1 : 57 < byt s 1
  · have Hn := Lib.hid (HR.out (fun h => by have := (h 1 (by omega)).2; omega))
    go_wp2_with fail
    go_ret2
    exact ⟨by rw [Hn.out]; rfl, rfl⟩
  go_wp2_with fail
  rw [rounds_succ]
  by_cases g2 : byt s 2 < 48
  · have Hn := Lib.hid (HR.out (fun h => by have := (h 2 (by omega)).1; omega))
    go_wp2_with fail
    go_ret2
    exact ⟨by rw [Hn.out]; rfl, rfl⟩
  by_cases l2 : 57 < byt s 2
  · have Hn := Lib.hid (HR.out (fun h => by have := (h 2 (by omega)).2; omega))
    go_wp2_with fail
    go_ret2
    exact ⟨by rw [Hn.out]; rfl, rfl⟩
  go_wp2_with fail
  rw [rounds_succ]
  by_cases g3 : byt s 3 < 48
  · have Hn := Lib.hid (HR.out (fun h => by have := (h 3 (by omega)).1; omega))
    go_wp2_with fail
    go_ret2
    exact ⟨by rw [Hn.out]; rfl, rfl⟩
  by_cases l3 : 57 < byt s 3
  · have Hn := Lib.hid (HR.out (fun h => by have := (h 3 (by omega)).2; omega))
    go_wp2_with fail
    go_ret2
    exact ⟨by rw [Hn.out]; rfl, rfl⟩
  go_wp2_with fail
  rw [rounds_succ]
  by_cases g4 : byt s 4 < 48
  · have Hn := Lib.hid (HR.out (fun h => by have := (h 4 (by omega)).1; omega))
    go_wp2_with fail
    go_ret2
    exact ⟨by rw [Hn.out]; rfl, rfl⟩
  by_cases l4 : 57 < byt s 4
  · have Hn := Lib.hid (HR.out (fun h => by have := (h 4 (by omega)).2; omega))
    go_wp2_with fail
    go_ret2
    exact ⟨by rw [Hn.out]; rfl, rfl⟩
  go_wp2_with fail
  rw [rounds_succ]
  by_cases g5 : byt s 5 < 48
  · have Hn := Lib.hid (HR.out (fun h => by have := (h 5 (by omega)).1; omega))
    go_wp2_with fail
    go_ret2
    exact ⟨by rw [Hn.out]; rfl, rfl⟩
  by_cases l5 : 57 < byt s 5
  · have Hn := Lib.hid (HR.out (fun h => by have := (h 5 (by omega)).2; omega))
    go_wp2_with fail
    go_ret2
    exact ⟨by rw [Hn.out]; rfl, rfl⟩
  go_wp2_with fail
  rw [rounds_succ]
  by_cases g6 : byt s 6 < 48
  · have Hn := Lib.hid (HR.out (fun h => by have := (h 6 (by omega)).1; omega))
    go_wp2_with fail
    go_ret2
    exact ⟨by rw [Hn.out]; rfl, rfl⟩
  by_cases l6 : 57 < byt s 6
  · have Hn := Lib.hid (HR.out (fun h => by have := (h 6 (by omega)).2; omega))
    go_wp2_with fail
    go_ret2
    exact ⟨by rw [Hn.out]; rfl, rfl⟩
  go_wp2_with fail
  rw [rounds_succ]
  by_cases g7 : byt s 7 < 48
  · have Hn := Lib.hid (HR.out (fun h => by have := (h 7 (by omega)).1; omega))
    go_wp2_with fail
    go_ret2
    exact ⟨by rw [Hn.out]; rfl, rfl⟩
  by_cases l7 : 57 < byt s 7
  · have Hn := Lib.hid (HR.out (fun h => by have := (h 7 (by omega)).2; omega))
    go_wp2_with fail
    go_ret2
    exact ⟨by rw [Hn.out]; rfl, rfl⟩
  go_wp2_with fail
  rw [rounds_succ]
  go_wp2_with fail
  have hD : Dig8 (byt s) := fun i hi => by
    have : i = 0 ∨ i = 1 ∨ i = 2 ∨ i = 3 ∨ i = 4 ∨ i = 5 ∨ i = 6 ∨ i = 7 := by omega
    rcases this with h | h | h | h | h | h | h | h <;> subst h <;> exact ⟨by omega, by omega⟩
  have e := lsum_dig _ hD
  go_ret2
  refine ⟨?_, rfl⟩
  rw [HY.out hD]
  unfold ltr
  rw [e, ← cutLet _ (by omega) (by omega)]
  rfl

theorem letR_no (s : ByteArray) (h : ¬ (s.size = 8 ∧ Dig8 (byt s))) : letR s (.tuple #[.string ⟨#[]⟩, .int .i64 7]) := .inr ⟨h, rfl⟩

set_option maxHeartbeats 400000 in
theorem rletter_any (s : ByteArray) (_hs : s.size ≤ maxLen) (R : Value) (hR : letR s R) (w : World) :
    Calls Try.prog 22 #[.string s] w fun e w' => e = .returned R ∧ w = w' := by
  by_cases hl : s.size = 8
  · exact rletter_8 s hl R hR w
  · have hR2 : R = .tuple #[.string ⟨#[]⟩, .int .i64 7] := by
      rcases hR with ⟨h1, _⟩ | ⟨_, h3⟩
      · exact absurd h1 hl
      · exact h3
    unfold maxLen at _hs
    rw [hR2]
    clear hR hR2
    go_enter Try.func22, Try.ntmps22
    go_wp2_with fail
    go_ret2
    exact ⟨rfl, rfl⟩

theorem ba_ext {a b : ByteArray} (h : a.data.toList = b.data.toList) : a = b := by
  obtain ⟨⟨a⟩⟩ := a
  obtain ⟨⟨b⟩⟩ := b
  simp at h
  rw [h]
theorem str_app (a b : List Int) : strOfNums a ++ strOfNums b = strOfNums (a ++ b) := by
  apply ba_ext
  rw [ByteArray.data_append, Array.toList_append, strOfNums_data, strOfNums_data, strOfNums_data, List.map_append]
theorem str_nil (a : List Int) : strOfNums a ++ ⟨#[]⟩ = strOfNums a := by
  apply ba_ext
  rw [ByteArray.data_append, Array.toList_append]
  simp

theorem conv1 (W : World) (g : Nat) (x : Int) (hg : g = W.heap.size) : (convert 34 9 (.slice (some ⟨g, 0, none⟩) 1 1)).run Try.prog (W.alloc (.cells #[.int .u8 x] 5)) = .ok (.string (strOfNums [x])) (W.alloc (.cells #[.int .u8 x] 5)) := by
  subst hg
  refine run_convert_bytes_arg (P := Try.prog) _ 34 5 Try.underlying34 Try.underlying5 W.heap.size 0 1 1 [x] rfl (fun i hi => ?_) 9 Try.underlying9
  have : i = 0 := by omega
  subst this
  rw [World.cell?_alloc_at _ _ _ _ rfl]
  rfl

attribute [local go_sem] conv1 str_app str_nil

set_option maxHeartbeats 400000 in
theorem padded2 (x : Int) (h0 : 0 ≤ x) (h1 : x ≤ 9999) (w : World) :
    Calls Try.prog 29 #[.int .i64 x, .int .i64 2] w fun e w' => e = .returned (.string (strOfNums [48 + x / 10 % 10, 48 + x % 10])) ∧ Below w.heap.size w w' := by
  go_enter Try.func29, Try.ntmps29
  go_wp2_with fail
  refine wp_loop_rounds 3 ?_
  iterate 3 (rw [rounds_succ]; go_wp2_with fail)
  go_ret
  exact ⟨rfl, by (repeat (first | with_reducible exact Below.refl _ _ | with_reducible refine bl_drewN ?_ _ | with_reducible refine Below.drew ?_ | with_reducible refine bl_alloc ?_ _ | with_reducible refine Below.alloc ?_ (by first | omega | (simp; done) | (simp; omega)) _ | with_reducible refine Below.setCell ?_ (by first | omega | (simp; done) | (simp; omega)) _ | with_reducible assumption))⟩
set_option maxHeartbeats 400000 in
theorem padded4 (x : Int) (h0 : 0 ≤ x) (h1 : x ≤ 9999) (w : World) :
    Calls Try.prog 29 #[.int .i64 x, .int .i64 4] w fun e w' => e = .returned (.string (strOfNums [48 + x / 10 / 10 / 10 % 10, 48 + x / 10 / 10 % 10, 48 + x / 10 % 10, 48 + x % 10])) ∧ Below w.heap.size w w' := by
  go_enter Try.func29, Try.ntmps29
  go_wp2_with fail
  refine wp_loop_rounds 5 ?_
  iterate 5 (rw [rounds_succ]; go_wp2_with fail)
  go_ret
  exact ⟨rfl, by (repeat (first | with_reducible exact Below.refl _ _ | with_reducible refine bl_drewN ?_ _ | with_reducible refine Below.drew ?_ | with_reducible refine bl_alloc ?_ _ | with_reducible refine Below.alloc ?_ (by first | omega | (simp; done) | (simp; omega)) _ | with_reducible refine Below.setCell ?_ (by first | omega | (simp; done) | (simp; omega)) _ | with_reducible assumption))⟩

theorem letB_at (c : Int) : letB c = true ↔ ∃ k : Nat, k < 23 ∧ let_ k = c := by
  unfold letB
  rw [List.contains_iff_mem, List.mem_iff_getElem]
  constructor
  · rintro ⟨k, hk, rfl⟩
    refine ⟨k, hk, ?_⟩
    unfold let_
    rw [Int.toNat_natCast, List.getD_eq_getElem?_getD, List.getElem?_eq_getElem hk]; rfl
  · rintro ⟨k, hk, rfl⟩
    refine ⟨k, hk, ?_⟩
    unfold let_
    rw [Int.toNat_natCast, List.getD_eq_getElem?_getD, List.getElem?_eq_getElem (show k < LETS.length from hk)]; rfl

set_option maxHeartbeats 400000 in
theorem place_any (i c : Int) (w : World) :
    Calls Try.prog 36 #[.int .i64 i, .int .u8 c] w fun e w' => e = .returned (.bool (fitB i c)) ∧ w = w' := by
  by_cases h : i < 8
  · have H := Lib.hid (show fitB i c = digB c from if_pos h)
    go_enter Try.func36, Try.ntmps36
    go_wp2
    all_goals (go_ret; exact ⟨ret_bool (by rw [H.out, Bool.eq_iff_iff]; simp only [digB, decide_eq_true_eq, Bool.false_eq_true, false_iff]; omega), rfl⟩)
  · have H := Lib.hid (show fitB i c = letB c from if_neg h)
    go_enter Try.func36, Try.ntmps36
    go_wp2_with fail
    go_loop [5] (fun j => ∃ k : Nat, k ≤ 23 ∧ j = .int .i64 k ∧ ∀ m : Nat, m < k → let_ m ≠ c) (fun j => 23 - (intOf j).toNat)
    case atStart => exact ⟨0, by omega, rfl, fun m hm => by omega⟩
    case round =>
      obtain ⟨k, hk, rfl, hok⟩ := hrel
      have Hok := Lib.hid hok
      clear hok
      by_cases hlt : k < 23
      · have Hl := Lib.hid (letlook k (by omega) (by omega))
        by_cases hc : let_ k = c
        · have Hy := Lib.hid (show letB c = true from (letB_at c).2 ⟨k, hlt, hc⟩)
          have Hc := Lib.hid hc
          clear hc
          have hq : ∀ hh : k < (ByteArray.mk #[65, 66, 67, 68, 69, 70, 71, 72, 74, 75, 76, 77, 78, 80, 81, 82, 83, 84, 85, 86, 87, 88, 89]).size, ((((ByteArray.mk #[65, 66, 67, 68, 69, 70, 71, 72, 74, 75, 76, 77, 78, 80, 81, 82, 83, 84, 85, 86, 87, 88, 89])[k]'hh).toNat : Int) == c) = true := fun hh => by
            have := Hl.out hh
            rw [beq_iff_eq, ← Hc.out, ← this]; rfl
          go_wp2
          go_ret
          exact ⟨ret_bool (by rw [H.out, Hy.out]), rfl⟩
        · have Hc := Lib.hid hc
          clear hc
          have hq : ∀ hh : k < (ByteArray.mk #[65, 66, 67, 68, 69, 70, 71, 72, 74, 75, 76, 77, 78, 80, 81, 82, 83, 84, 85, 86, 87, 88, 89]).size, ((((ByteArray.mk #[65, 66, 67, 68, 69, 70, 71, 72, 74, 75, 76, 77, 78, 80, 81, 82, 83, 84, 85, 86, 87, 88, 89])[k]'hh).toNat : Int) == c) = false := fun hh => by
            have := Hl.out hh
            rw [beq_eq_false_iff_ne]
            intro e
            exact Hc.out (by rw [← this, ← e]; rfl)
          go_wp2
          go_round
          case rel =>
            refine ⟨k + 1, by omega, by go_num, fun m hm => ?_⟩
            by_cases hmk : m = k
            · subst hmk; exact Hc.out
            · exact Hok.out m (by omega)
          case measure => simp [intOf]; omega
      · obtain rfl : k = 23 := by omega
        have Hn := Lib.hid (show letB c = false from by
          rw [← Bool.not_eq_true]
          intro h
          obtain ⟨m, hm, e⟩ := (letB_at c).1 h
          exact Hok.out m hm e)
        go_wp2
        go_ret
        exact ⟨ret_bool (by rw [H.out, Hn.out]), rfl⟩

/-- Nine bytes that fit. -/
def shpB (s : ByteArray) : Bool := decide (s.size = 9) && formB (byt s)

set_option maxHeartbeats 400000 in
theorem shape_any (s : ByteArray) (_hs : s.size ≤ maxLen) (w : World) :
    Calls Try.prog 32 #[.string s] w fun e w' => e = .returned (.bool (shpB s)) ∧ w = w' := by
  unfold maxLen at _hs
  by_cases hl : s.size = 9
  · have HS := Lib.hid (show shpB s = formB (byt s) by simp [shpB, hl])
    have hby : ∀ (i : Nat) (h : i < s.size), ((s[i]'h).toNat : Int) = byt s i := fun i h => (byt_at s i h).symm
    go_enter Try.func32, Try.ntmps32
    go_wp2_with fail
    go_loop [3] (fun i => ∃ k : Nat, k ≤ 9 ∧ i = .int .i64 k ∧ ∀ j : Nat, j < k → fitB j (byt s j) = true) (fun i => 9 - (intOf i).toNat)
    case atStart => exact ⟨0, by omega, rfl, fun j hj => by omega⟩
    case round =>
      obtain ⟨k, hk, rfl, hok⟩ := hrel
      have Hok := Lib.hid hok
      clear hok
      by_cases hlt : k < 9
      · by_cases hf : fitB k (byt s k) = true
        · have Hf := Lib.hid hf
          go_wp2_with (go_at_call 36; refine (place_any _ _ _).mono ?_; rintro e w' ⟨rfl, rfl⟩)
          go_round
          case rel =>
            refine ⟨k + 1, by omega, by go_num, fun j hj => ?_⟩
            by_cases hjk : j = k
            · subst hjk; exact Hf.out
            · exact Hok.out j (by omega)
          case measure => simp [intOf]; omega
        · have hf' : fitB k (byt s k) = false := by simpa using hf
          have H := Lib.hid (show formB (byt s) = false from decide_eq_false (fun h => hf (h k hlt)))
          clear hf
          go_wp2_with (go_at_call 36; refine (place_any _ _ _).mono ?_; rintro e w' ⟨rfl, rfl⟩)
          go_ret
          exact ⟨ret_bool (by rw [HS.out, H.out]), rfl⟩
      · obtain rfl : k = 9 := by omega
        have H := Lib.hid (show formB (byt s) = true from decide_eq_true Hok.out)
        go_wp2
        go_ret
        exact ⟨ret_bool (by rw [HS.out, H.out]), rfl⟩
  · have HS := Lib.hid (show shpB s = false by simp [shpB, hl])
    go_enter Try.func32, Try.ntmps32
    go_wp2_with fail
    go_ret
    exact ⟨ret_bool (by rw [HS.out]), rfl⟩
end Go.Proofs.Ytpdekglmmgecmaa.Id
