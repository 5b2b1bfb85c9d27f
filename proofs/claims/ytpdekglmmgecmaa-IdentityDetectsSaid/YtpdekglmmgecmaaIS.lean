/- Walks: Letter of the program; the statement IdentityLetters. -/
import Derived.Test.YtpdekglmmgecmaaIN
import Derived.WalkKit
import Derived.WalkSpells
import Derived.WalkLawsBesides
import Derived.Deep.QuietTactic
import Derived.BigQuiet
import Derived.Deep.Draws
import Derived.Deep.AppendLies
import Derived.Laws.OwnMore
import Derived.Laws.BytesArg
import Derived.Lib.Hide
import Derived.Deep.LoopGhost
import Derived.LoopN
import Derived.Lib.BufferWrite
namespace Go.Proofs.Ytpdekglmmgecmaa.Id
open Go.RowKit
set_option linter.unusedSimpArgs false
set_option linter.unusedVariables false
set_option linter.unusedSimpArgs false

theorem copy8 (W : World) (g : Nat) (hg : g = W.heap.size) (T : TypeId) (s : ByteArray) (hs : s.size = 8) :
    (Builtin.copy_ #[34, 9] 3 #[.slice (some ⟨g, 0, none⟩) 9 9, .string s]).run Try.prog (W.alloc (.cells (wc fun _ => 0) T)) = .ok (.int .i64 8) (W.alloc (.cells (wc (byt s)) T)) := by
  subst hg
  have h := Lib.run_copy_row_string (P := Try.prog) (W.alloc (.cells (wc fun _ => 0) T)) 34 9 3 5 W.heap.size 0 9 9 s (wc fun _ => 0) T Try.underlying34 info8 (heap_alloc_new W _) (by omega) (by show 0 + s.size ≤ 9; omega)
  rw [h, setRow_alloc, hs]
  have e : ((wc fun _ => 0).toList.take 0 ++ Lib.byteCells s.data.toList ++ (wc fun _ => 0).toList.drop (0 + 8)).toArray = wc (byt s) := by
    have h8 := list8 s.data.toList (by simpa using hs)
    unfold Lib.byteCells
    have e2 : ((wc fun _ => 0).toList.take 0 ++ s.data.toList.map (fun b : UInt8 => Value.int .u8 (b.toNat : Int)) ++ (wc fun _ => 0).toList.drop (0 + 8)) = (wc (byt s)).toList := h8
    rw [e2]
  rw [e]
  rfl

attribute [local go_sem] conv1

set_option maxHeartbeats 2000000 in
theorem letter_8 (s : ByteArray) (hl : s.size = 8) (R : Value) (hR : letR s R) (w : World) :
    Calls Try.prog 21 #[.string s] w fun e w' => e = .returned R ∧ Below w.heap.size w w' := by
  have HR := Lib.hid (show ¬ Dig8 (byt s) → R = .tuple #[.string ⟨#[]⟩, .int .i64 7] from fun h => by
    rcases hR with ⟨_, h2, _⟩ | ⟨_, h3⟩
    · exact absurd h2 h
    · exact h3)
  have HY := Lib.hid (show Dig8 (byt s) → R = .tuple #[.string (strOfNums [ltr (byt s)]), .int .i64 0] from fun h => by
    rcases hR with ⟨_, _, h3⟩ | ⟨h2, _⟩
    · exact h3
    · exact absurd ⟨hl, h⟩ h2)
  clear hR
  have hcp := copy8 w w.heap.size rfl 43 s hl
  go_enter Try.func21, Try.ntmps21
  go_wp2_with fail
  refine wp_loop_rounds 9 ?_
  rw [rounds_succ]
  by_cases g0 : digB (byt s 0) = true
  case neg =>
    have g' : digB (byt s 0) = false := by simpa using g0
    have Hn := Lib.hid (HR.out (fun h => g0 (decide_eq_true (h 0 (by omega)))))
    clear g0
    go_wp2_with (go_at_call 33; refine (isDigit_any _ _).mono ?_; rintro e w' ⟨rfl, rfl⟩)
    go_ret2
    exact ⟨by rw [Hn.out]; rfl, by (repeat (first | with_reducible exact Below.refl _ _ | with_reducible refine bl_drewN ?_ _ | with_reducible refine Below.drew ?_ | with_reducible refine bl_alloc ?_ _ | with_reducible refine Below.alloc ?_ (by first | omega | (simp; done) | (simp; omega)) _ | with_reducible refine Below.setCell ?_ (by first | omega | (simp; done) | (simp; omega)) _ | with_reducible assumption))⟩
  go_wp2_with (go_at_call 33; refine (isDigit_any _ _).mono ?_; rintro e w' ⟨rfl, rfl⟩)
  rw [rounds_succ]
  by_cases g1 : digB (byt s 1) = true
  case neg =>
    have g' : digB (byt s 1) = false := by simpa using g1
    have Hn := Lib.hid (HR.out (fun h => g1 (decide_eq_true (h 1 (by omega)))))
    clear g1
    go_wp2_with (go_at_call 33; refine (isDigit_any _ _).mono ?_; rintro e w' ⟨rfl, rfl⟩)
    go_ret2
    exact ⟨by rw [Hn.out]; rfl, by (repeat (first | with_reducible exact Below.refl _ _ | with_reducible refine bl_drewN ?_ _ | with_reducible refine Below.drew ?_ | with_reducible refine bl_alloc ?_ _ | with_reducible refine Below.alloc ?_ (by first | omega | (simp; done) | (simp; omega)) _ | with_reducible refine Below.setCell ?_ (by first | omega | (simp; done) | (simp; omega)) _ | with_reducible assumption))⟩
  go_wp2_with (go_at_call 33; refine (isDigit_any _ _).mono ?_; rintro e w' ⟨rfl, rfl⟩)
  rw [rounds_succ]
  by_cases g2 : digB (byt s 2) = true
  case neg =>
    have g' : digB (byt s 2) = false := by simpa using g2
    have Hn := Lib.hid (HR.out (fun h => g2 (decide_eq_true (h 2 (by omega)))))
    clear g2
    go_wp2_with (go_at_call 33; refine (isDigit_any _ _).mono ?_; rintro e w' ⟨rfl, rfl⟩)
    go_ret2
    exact ⟨by rw [Hn.out]; rfl, by (repeat (first | with_reducible exact Below.refl _ _ | with_reducible refine bl_drewN ?_ _ | with_reducible refine Below.drew ?_ | with_reducible refine bl_alloc ?_ _ | with_reducible refine Below.alloc ?_ (by first | omega | (simp; done) | (simp; omega)) _ | with_reducible refine Below.setCell ?_ (by first | omega | (simp; done) | (simp; omega)) _ | with_reducible assumption))⟩
  go_wp2_with (go_at_call 33; refine (isDigit_any _ _).mono ?_; rintro e w' ⟨rfl, rfl⟩)
  rw [rounds_succ]
  by_cases g3 : digB (byt s 3) = true
  case neg =>
    have g' : digB (byt s 3) = false := by simpa using g3
    have Hn := Lib.hid (HR.out (fun h => g3 (decide_eq_true (h 3 (by omega)))))
    clear g3
    go_wp2_with (go_at_call 33; refine (isDigit_any _ _).mono ?_; rintro e w' ⟨rfl, rfl⟩)
    go_ret2
    exact ⟨by rw [Hn.out]; rfl, by (repeat (first | with_reducible exact Below.refl _ _ | with_reducible refine bl_drewN ?_ _ | with_reducible refine Below.drew ?_ | with_reducible refine bl_alloc ?_ _ | with_reducible refine Below.alloc ?_ (by first | omega | (simp; done) | (simp; omega)) _ | with_reducible refine Below.setCell ?_ (by first | omega | (simp; done) | (simp; omega)) _ | with_reducible assumption))⟩
  go_wp2_with (go_at_call 33; refine (isDigit_any _ _).mono ?_; rintro e w' ⟨rfl, rfl⟩)
  rw [rounds_succ]
  by_cases g4 : digB (byt s 4) = true
  case neg =>
    have g' : digB (byt s 4) = false := by simpa using g4
    have Hn := Lib.hid (HR.out (fun h => g4 (decide_eq_true (h 4 (by omega)))))
    clear g4
    go_wp2_with (go_at_call 33; refine (isDigit_any _ _).mono ?_; rintro e w' ⟨rfl, rfl⟩)
    go_ret2
    exact ⟨by rw [Hn.out]; rfl, by (repeat (first | with_reducible exact Below.refl _ _ | with_reducible refine bl_drewN ?_ _ | with_reducible refine Below.drew ?_ | with_reducible refine bl_alloc ?_ _ | with_reducible refine Below.alloc ?_ (by first | omega | (simp; done) | (simp; omega)) _ | with_reducible refine Below.setCell ?_ (by first | omega | (simp; done) | (simp; omega)) _ | with_reducible assumption))⟩
  go_wp2_with (go_at_call 33; refine (isDigit_any _ _).mono ?_; rintro e w' ⟨rfl, rfl⟩)
  rw [rounds_succ]
  by_cases g5 : digB (byt s 5) = true
  case neg =>
    have g' : digB (byt s 5) = false := by simpa using g5
    have Hn := Lib.hid (HR.out (fun h => g5 (decide_eq_true (h 5 (by omega)))))
    clear g5
    go_wp2_with (go_at_call 33; refine (isDigit_any _ _).mono ?_; rintro e w' ⟨rfl, rfl⟩)
    go_ret2
    exact ⟨by rw [Hn.out]; rfl, by (repeat (first | with_reducible exact Below.refl _ _ | with_reducible refine bl_drewN ?_ _ | with_reducible refine Below.drew ?_ | with_reducible refine bl_alloc ?_ _ | with_reducible refine Below.alloc ?_ (by first | omega | (simp; done) | (simp; omega)) _ | with_reducible refine Below.setCell ?_ (by first | omega | (simp; done) | (simp; omega)) _ | with_reducible assumption))⟩
  go_wp2_with (go_at_call 33; refine (isDigit_any _ _).mono ?_; rintro e w' ⟨rfl, rfl⟩)
  rw [rounds_succ]
  by_cases g6 : digB (byt s 6) = true
  case neg =>
    have g' : digB (byt s 6) = false := by simpa using g6
    have Hn := Lib.hid (HR.out (fun h => g6 (decide_eq_true (h 6 (by omega)))))
    clear g6
    go_wp2_with (go_at_call 33; refine (isDigit_any _ _).mono ?_; rintro e w' ⟨rfl, rfl⟩)
    go_ret2
    exact ⟨by rw [Hn.out]; rfl, by (repeat (first | with_reducible exact Below.refl _ _ | with_reducible refine bl_drewN ?_ _ | with_reducible refine Below.drew ?_ | with_reducible refine bl_alloc ?_ _ | with_reducible refine Below.alloc ?_ (by first | omega | (simp; done) | (simp; omega)) _ | with_reducible refine Below.setCell ?_ (by first | omega | (simp; done) | (simp; omega)) _ | with_reducible assumption))⟩
  go_wp2_with (go_at_call 33; refine (isDigit_any _ _).mono ?_; rintro e w' ⟨rfl, rfl⟩)
  rw [rounds_succ]
  by_cases g7 : digB (byt s 7) = true
  case neg =>
    have g' : digB (byt s 7) = false := by simpa using g7
    have Hn := Lib.hid (HR.out (fun h => g7 (decide_eq_true (h 7 (by omega)))))
    clear g7
    go_wp2_with (go_at_call 33; refine (isDigit_any _ _).mono ?_; rintro e w' ⟨rfl, rfl⟩)
    go_ret2
    exact ⟨by rw [Hn.out]; rfl, by (repeat (first | with_reducible exact Below.refl _ _ | with_reducible refine bl_drewN ?_ _ | with_reducible refine Below.drew ?_ | with_reducible refine bl_alloc ?_ _ | with_reducible refine Below.alloc ?_ (by first | omega | (simp; done) | (simp; omega)) _ | with_reducible refine Below.setCell ?_ (by first | omega | (simp; done) | (simp; omega)) _ | with_reducible assumption))⟩
  go_wp2_with (go_at_call 33; refine (isDigit_any _ _).mono ?_; rintro e w' ⟨rfl, rfl⟩)
  rw [rounds_succ]
  go_wp2_with fail
  have hD : Dig8 (byt s) := fun i hi => by
    have : i = 0 ∨ i = 1 ∨ i = 2 ∨ i = 3 ∨ i = 4 ∨ i = 5 ∨ i = 6 ∨ i = 7 := by omega
    rcases this with h | h | h | h | h | h | h | h <;> subst h <;> first | exact of_decide_eq_true g0 | exact of_decide_eq_true g1 | exact of_decide_eq_true g2 | exact of_decide_eq_true g3 | exact of_decide_eq_true g4 | exact of_decide_eq_true g5 | exact of_decide_eq_true g6 | exact of_decide_eq_true g7
  have Hn := Lib.hid (HY.out hD)
  clear hD hcp
  refine (letter_any (byt s) _).mono ?_
  rintro e w2 ⟨rfl, hb2⟩
  have hc2 : Below w.heap.size w w2 := bl_trans (by (repeat (first | with_reducible exact Below.refl _ _ | with_reducible refine bl_drewN ?_ _ | with_reducible refine Below.drew ?_ | with_reducible refine bl_alloc ?_ _ | with_reducible refine Below.alloc ?_ (by first | omega | (simp; done) | (simp; omega)) _ | with_reducible refine Below.setCell ?_ (by first | omega | (simp; done) | (simp; omega)) _ | with_reducible assumption))) hb2
  go_wp2_with fail
  go_ret2
  exact ⟨by rw [Hn.out]; rfl, by (repeat (first | with_reducible exact Below.refl _ _ | with_reducible refine bl_drewN ?_ _ | with_reducible refine Below.drew ?_ | with_reducible refine bl_alloc ?_ _ | with_reducible refine Below.alloc ?_ (by first | omega | (simp; done) | (simp; omega)) _ | with_reducible refine Below.setCell ?_ (by first | omega | (simp; done) | (simp; omega)) _ | with_reducible assumption))⟩

set_option maxHeartbeats 400000 in
theorem letter_string (s : ByteArray) (_hs : s.size ≤ maxLen) (R : Value) (hR : letR s R) (w : World) :
    Calls Try.prog 21 #[.string s] w fun e w' => e = .returned R ∧ Below w.heap.size w w' := by
  by_cases hl : s.size = 8
  · exact letter_8 s hl R hR w
  · have hR2 : R = .tuple #[.string ⟨#[]⟩, .int .i64 7] := by
      rcases hR with ⟨h1, _⟩ | ⟨_, h3⟩
      · exact absurd h1 hl
      · exact h3
    unfold maxLen at _hs
    rw [hR2]
    clear hR hR2
    go_enter Try.func21, Try.ntmps21
    go_wp2_with fail
    go_ret2
    exact ⟨rfl, by (repeat (first | with_reducible exact Below.refl _ _ | with_reducible refine bl_drewN ?_ _ | with_reducible refine Below.drew ?_ | with_reducible refine bl_alloc ?_ _ | with_reducible refine Below.alloc ?_ (by first | omega | (simp; done) | (simp; omega)) _ | with_reducible refine Below.setCell ?_ (by first | omega | (simp; done) | (simp; omega)) _ | with_reducible assumption))⟩

/-- The text and the error that Letter returns. -/
theorem letR_form (s : ByteArray) : ∃ (a : ByteArray) (e : Int), letR s (.tuple #[.string a, .int .i64 e]) := by
  by_cases h : s.size = 8 ∧ Dig8 (byt s)
  · exact ⟨_, _, .inl ⟨h.1, h.2, rfl⟩⟩
  · exact ⟨_, _, .inr ⟨h, rfl⟩⟩

set_option maxHeartbeats 1000000 in
theorem letters_any (s : ByteArray) (n : Int) (hs : s.size ≤ maxLen) (hn : I64 n) (w : World) :
    Calls Try.prog 7 #[.string s, .int .i64 n] w fun e w' => e = .returned (.bool true) ∧ Below w.heap.size w w' := by
  have K1 := Lib.hid (number_any n hn.1 hn.2)
  have hsz := fmt_size (n % 100000000)
  generalize fmtS (n % 100000000) = x at *
  obtain ⟨a, e1, h1⟩ := letR_form s
  obtain ⟨b, e2, h2⟩ := letR_form (x.extract 0 8)
  have L1 := Lib.hid (letter_string s hs _ h1)
  have L2 := Lib.hid (rletter_any s hs _ h1)
  have L3 := Lib.hid (letter_string (x.extract 0 8) (by simp [hsz, maxLen]) _ h2)
  have L4 := Lib.hid (rletter_any (x.extract 0 8) (by simp [hsz, maxLen]) _ h2)
  clear h1 h2 hs hn
  go_enter Try.func7, Try.ntmps7
  go_wp2_with fail
  refine (L1.out _).mono ?_
  rintro e w1 ⟨rfl, hb1⟩
  go_wp2_with fail
  refine (L2.out _).mono ?_
  rintro e w2 ⟨rfl, rfl⟩
  go_wp2_with fail
  refine (K1.out _).mono ?_
  rintro e w2 ⟨rfl, hb2⟩
  have hc2 : Below w.heap.size w w2 := bl_trans hb1 hb2
  go_wp2_with fail
  refine (L3.out _).mono ?_
  rintro e w3 ⟨rfl, hb3⟩
  have hc3 : Below w.heap.size w w3 := bl_trans hc2 hb3
  go_wp2_with fail
  refine (L4.out _).mono ?_
  rintro e w3 ⟨rfl, rfl⟩
  go_wp2_with fail
  refine (awake_any _).mono ?_
  rintro e w5 ⟨rfl, hb5⟩
  have hc5 : Below w.heap.size w w5 := bl_trans hc3 hb5
  go_wp2
  go_ret
  exact ⟨rfl, hc5⟩
end Go.Proofs.Ytpdekglmmgecmaa.Id
