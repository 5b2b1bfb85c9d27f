/- Walk: the statement IdentityFills. -/
import Derived.Test.YtpdekglmmgecmaaUD
import Derived.Test.YtpdekglmmgecmaaIP
import Derived.WalkKit
import Derived.WalkSpells
import Derived.WalkLawsBesides
import Derived.Deep.QuietTactic
import Derived.BigQuiet
import Derived.Deep.Draws
import Derived.Deep.AppendLies
import Derived.Laws.OwnMore
import Derived.Laws.BytesArg
import Derived.Lib.Hide
import Derived.Deep.LoopGhost
import Derived.RegionTactic
namespace Go.Proofs.Ytpdekglmmgecmaa.Id
open Go.RowKit
open Go.Proofs.Ytpdekglmmgecmaa.Mw (Bk RdE)
set_option linter.unusedSimpArgs false
set_option linter.unusedVariables false
set_option linter.unusedSimpArgs false

theorem byt_past (s : ByteArray) (k : Nat) (h : ¬ k < s.size) : byt s k = 0 := by
  have hk' : ¬ k < s.data.toList.length := by simpa using h
  unfold byt
  rw [List.getD_eq_getElem?_getD, List.getElem?_eq_none (by omega)]
  rfl
theorem byt_upd {s : ByteArray} (hl : s.size = 9) {i : Nat} (hi : i < 9) {c : Int} (hc : 0 ≤ c ∧ c ≤ 255) : byt (S9 (upd (byt s) i c)) = upd (byt s) i c := by
  funext j
  by_cases h : j < 9
  · exact byt_S9 (bnd_upd (bnd_byt s) hc) j h
  · rw [byt_past _ j (by rw [S9_size]; exact h), upd_other _ _ (by omega), byt_past s j (by omega)]
theorem str63 : (⟨#[63]⟩ : ByteArray) = strOfNums [63] := by decide
theorem vl_pe {s : ByteArray} (h : pe s = 0) : s.size = 9 ∧ vl (byt s) = true := by
  obtain ⟨h1, h2, h3⟩ := pe_zero s h
  exact ⟨h1, by unfold vl; rw [h2, decide_eq_true h3]; rfl⟩
theorem fill_back {x : ByteArray} (h : pe x = 0) {i : Nat} (hi : i < 9) : FillS (S9 (upd (byt x) i 63)) [x] := by
  obtain ⟨hl, hv⟩ := vl_pe h
  refine .inl ⟨S9_size _, .inl ⟨i, ⟨hi, ?_, ?_⟩, ?_⟩⟩
  · rw [byt_upd hl hi (by omega), upd_same]
  · rw [byt_upd hl hi (by omega)]
    intro j hj hn
    rw [upd_other _ _ hn]
    exact vl_fit hv j hj
  · rw [byt_upd hl hi (by omega), rp_fill hi (bnd_byt x) hv 63 (unfit63 i hi), S9_byt x hl]
theorem fillS_len {s : ByteArray} {l : List ByteArray} (h : FillS s l) : l.length ≤ 23 := by
  rcases h with ⟨_, h⟩ | ⟨_, rfl⟩
  · rcases h with ⟨i, _, rfl⟩ | ⟨_, rfl⟩
    · have := rp_len (byt s) i (cnt i); have := cnt_le i; omega
    · simp
  · simp
theorem conv1dd (W : World) (g : Nat) (x : Int) (hg : g = W.heap.size) : (convert 34 9 (.slice (some ⟨g, 0, none⟩) 1 1)).run Try.prog (W.alloc (.cells #[.int .u8 x] 5)).drew.drew = .ok (.string (strOfNums [x])) (W.alloc (.cells #[.int .u8 x] 5)).drew.drew := by
  subst hg
  refine run_convert_bytes_arg (P := Try.prog) _ 34 5 Try.underlying34 Try.underlying5 W.heap.size 0 1 1 [x] rfl (fun i hi => ?_) 9 Try.underlying9
  have : i = 0 := by omega
  subst this
  show (W.alloc _).cell? _ = _
  rw [World.cell?_alloc_at _ _ _ _ rfl]
  rfl
attribute [local go_sem] conv1d conv1dd strOfNums_size

set_option maxHeartbeats 4000000 in
theorem fills_any (s : ByteArray) (n a : Int) (by_ : Int) (hs : s.size ≤ maxLen) (hn : I64 n) (ha : I64 a) (hby0 : 0 ≤ by_) (hby1 : by_ ≤ 255) (w : World) :
    Calls Try.prog 9 #[.string s, .int .i64 n, .int .i64 a, .int .u8 by_] w fun e w' => e = .returned (.bool true) ∧ Below w.heap.size w w' := by
  have K1 := Lib.hid (number_any n hn.1 hn.2)
  have K2 := Lib.hid (cut_any a 9 (by omega) (by omega) ha.1 ha.2)
  have K3 := Lib.hid (cut_any by_ 9 (by omega) (by omega) (by omega) (by omega))
  have h0 := Int.emod_nonneg a (show (9 : Int) ≠ 0 by omega)
  have h1 := Int.emod_lt_of_pos a (show (0 : Int) < 9 by omega)
  obtain ⟨m, hm⟩ := Int.eq_ofNat_of_zero_le h0
  have g0 := Int.emod_nonneg by_ (show (9 : Int) ≠ 0 by omega)
  have g1 := Int.emod_lt_of_pos by_ (show (0 : Int) < 9 by omega)
  obtain ⟨k, hk⟩ := Int.eq_ofNat_of_zero_le g0
  rw [hm] at h0 h1 K2
  rw [hk] at g0 g1 K3
  have hpx := pe_fmt (n % 100000000)
  have hsz := fmt_size (n % 100000000)
  generalize fmtS (n % 100000000) = x at *
  have Hs := Lib.hid hs
  have Hx := Lib.hid hpx
  have Hz := Lib.hid hsz
  obtain ⟨l1, hl1⟩ := fillS_ex s
  obtain ⟨l2, hl2⟩ := fillS_ex (S9 (upd (byt (S9 (upd (byt x) m 63))) k by_))
  have hl3 := fill_back hpx (show m < 9 by omega)
  have n1 := fillS_len hl1
  have n2 := fillS_len hl2
  have F1 := Lib.hid (fun W => fill_any s hs l1 hl1 W)
  have G1 := Lib.hid (fun W => rfill_any s hs l1 hl1 W)
  have F2 := Lib.hid (fun W => fill_any _ (by rw [S9_size]; unfold maxLen; omega) l2 hl2 W)
  have G2 := Lib.hid (fun W => rfill_any _ (by rw [S9_size]; unfold maxLen; omega) l2 hl2 W)
  have F3 := Lib.hid (fun W => fill_any _ (by rw [S9_size]; unfold maxLen; omega) [x] hl3 W)
  clear hs hn ha hm hk hpx hl1 hl2 hl3
  have hm9 : (m : Int) ≤ 9 := by omega
  have hm9' : (m : Int) + 1 ≤ 9 := by omega
  have hk9 : (k : Int) ≤ 9 := by omega
  have hk9' : (k : Int) + 1 ≤ 9 := by omega
  go_enter Try.func9, Try.ntmps9
  go_wp2_with fail
  refine (K1.out _).mono ?_
  rintro e w1 ⟨rfl, hb1⟩
  go_wp2_with fail
  refine (K2.out _).mono ?_
  rintro e w2 ⟨rfl, rfl⟩
  go_wp2_with fail
  go_region
  rw [str63, cut_upd x Hz.out (show m < 9 by omega)]
  obtain ⟨y, hy⟩ : ∃ y, S9 (upd (byt x) m 63) = y := ⟨_, rfl⟩
  have hys : y.size = 9 := by rw [← hy]; exact S9_size _
  rw [hy] at F2 G2 F3 ⊢
  clear hy hsz
  have Hys := Lib.hid hys
  go_wp2_with fail
  refine (K3.out _).mono ?_
  rintro e w2 ⟨rfl, rfl⟩
  go_wp2_with fail
  go_region
  rw [cut_upd y Hys.out (show k < 9 by omega)]
  generalize S9 (upd (byt y) k by_) = z at F2 G2 ⊢
  clear hys K1 K2 K3 h0 h1 g0 g1 hm9 hm9' hk9 hk9' Hx Hz Hys
  have hbV : Below w.heap.size w ((w1.alloc (.cells #[.int .u8 by_] 5)).drew.drew) := by (repeat (first | with_reducible exact Below.refl _ _ | with_reducible refine bl_drewN ?_ _ | with_reducible refine Below.drew ?_ | with_reducible refine bl_alloc ?_ _ | with_reducible refine Below.alloc ?_ (by first | omega | (simp; done) | (simp; omega)) _ | with_reducible refine Below.setCell ?_ (by first | omega | (simp; done) | (simp; omega)) _ | with_reducible assumption))
  generalize (w1.alloc (.cells #[.int .u8 by_] 5)).drew.drew = V at hbV ⊢
  clear hb1
  go_wp2_with fail
  refine (F1.out _).mono ?_
  rintro e w3 ⟨A1, c1, rfl, hr1, -, -, hb3⟩
  go_wp2_with fail
  refine (G1.out _).mono ?_
  rintro e w4 ⟨B1, d1, rfl, hs1, -, -, hb4⟩
  go_wp2_with fail
  refine (texts_any l1 l1 A1 B1 c1 d1 _ (by omega) (by omega) (hr1.old hb4) hs1 rfl).mono ?_
  rintro e w5 ⟨rfl, hb5⟩
  have hc5 := Mw.bl_trans (Mw.bl_trans (Mw.bl_trans hbV hb3) hb4) hb5
  clear hr1 hs1 hb3 hb4 hb5 hbV F1 G1
  go_wp2_with fail
  refine (F2.out _).mono ?_
  rintro e w6 ⟨A2, c2, rfl, hr2, -, -, hb6⟩
  go_wp2_with fail
  refine (G2.out _).mono ?_
  rintro e w7 ⟨B2, d2, rfl, hs2, -, -, hb7⟩
  go_wp2_with fail
  refine (texts_any l2 l2 A2 B2 c2 d2 _ (by omega) (by omega) (hr2.old hb7) hs2 rfl).mono ?_
  rintro e w8 ⟨rfl, hb8⟩
  have hc8 := Mw.bl_trans (Mw.bl_trans (Mw.bl_trans hc5 hb6) hb7) hb8
  clear hr2 hs2 hb6 hb7 hb8 hc5 F2 G2
  go_wp2_with fail
  refine (F3.out _).mono ?_
  rintro e w9 ⟨A3, c3, rfl, hr3, -, -, hb9⟩
  go_wp2_with fail
  refine (texts_any [x] [x] A3 (some ⟨w9.heap.size, 0, none⟩) c3 1 _ (by simp) (by simp) (hr3.alloc _) (RdE.bk (Bk.new _ _ _) rfl) rfl).mono ?_
  rintro e w10 ⟨rfl, hb10⟩
  have hc10 : Below w.heap.size w w10 := Mw.bl_trans (Mw.bl_alloc (Mw.bl_trans hc8 hb9) _) hb10
  clear hr3 hb9 hb10 hc8 F3
  go_wp2_with fail
  refine (awake_any _).mono ?_
  rintro e w11 ⟨rfl, hb11⟩
  go_wp2_with fail
  go_ret
  exact ⟨rfl, Mw.bl_trans hc10 hb11⟩
end Go.Proofs.Ytpdekglmmgecmaa.Id
