/- Walks: Near, of the reference and of the program. -/
import Derived.Test.YtpdekglmmgecmaaUH
import Derived.WalkKit
import Derived.WalkSpells
import Derived.WalkLawsBesides
import Derived.Deep.QuietTactic
import Derived.BigQuiet
import Derived.Deep.Draws
import Derived.Deep.AppendLies
import Derived.Laws.OwnMore
import Derived.Laws.BytesArg
import Derived.Lib.Hide
import Derived.Deep.LoopGhost
import Derived.Deep.CutBlock
import Derived.WalkLawsBesides
namespace Go.Proofs.Ytpdekglmmgecmaa.Id
open Go.RowKit
open Go.Proofs.Ytpdekglmmgecmaa.Mw (Bk RdE gb_of own_old own_enc own_frozen one_new gb_set gb_refl ge ge_lt wpList_append_run)
set_option linter.unusedSimpArgs false
set_option linter.unusedVariables false
set_option linter.unusedSimpArgs false

theorem Sl.rd {w : World} {v : Value} {l : List ByteArray} (h : Sl w v l) : ∃ A c, v = .slice A l.length c ∧ RdE Value.string w A l := by
  rcases h with ⟨rfl, rfl⟩ | ⟨b, off, c, rfl, _, _, _, h4⟩
  · exact ⟨none, 0, rfl, RdE.nil _ _ _⟩
  · exact ⟨_, c, rfl, h4⟩
theorem ins_len (l : List ByteArray) (s : ByteArray) : (ins l s).length ≤ l.length + 1 := by
  induction l with
  | nil => simp [ins]
  | cons x l ih =>
    unfold ins
    split
    · simp; omega
    · split <;> simp
theorem foldl_len (l : List ByteArray) : ∀ acc, (l.foldl ins acc).length ≤ acc.length + l.length := by
  induction l with
  | nil => intro acc; simp
  | cons x l ih =>
    intro acc
    have := ih (ins acc x)
    have := ins_len acc x
    rw [List.foldl_cons]
    simp; omega
theorem insA_len (l : List ByteArray) : (insA l).length ≤ l.length := by have := foldl_len l []; simpa [insA] using this
/-- The texts that are put in before number k of one place's list. -/
def nf (N L : List ByteArray) (s : ByteArray) (k : Nat) : List ByteArray := N ++ (L.take k).filter fun x => decide (x ≠ s)
section
variable {N L : List ByteArray} {s : ByteArray} {k : Nat}
theorem nf_0 : nf N L s 0 = N := by simp [nf]
theorem take_one (hk : k < L.length) : L.take (k + 1) = L.take k ++ [ge L k] := by
  rw [List.take_add_one, ge_lt L k hk]; rfl
theorem nf_yes (hk : k < L.length) (h : ¬ ge L k = s) : nf N L s (k + 1) = nf N L s k ++ [ge L k] := by
  unfold nf
  rw [take_one hk, List.filter_append, List.append_assoc]
  simp [List.filter_cons, h]
theorem nf_no (hk : k < L.length) (h : ge L k = s) : nf N L s (k + 1) = nf N L s k := by
  unfold nf
  rw [take_one hk, List.filter_append]
  simp [List.filter_cons, h]
theorem nf_len (hN : N.length ≤ 207) (hL : L.length ≤ 43) : (nf N L s k).length ≤ 250 := by
  unfold nf
  rw [List.length_append]
  have := List.length_filter_le (fun x => decide (x ≠ s)) (L.take k)
  have := List.length_take_le k L
  have := List.length_take_le' k L
  omega
end
set_option maxHeartbeats 2000000 in
set_option maxRecDepth 100000 in
theorem rnear_any (s : ByteArray) (hs : s.size ≤ maxLen) (w : World) : Calls Try.prog 27 #[.string s] w (RetL (nearS s) w) := by
  cases hsh : shpB s
  · have Hn := Lib.hid (nearS_no hsh)
    have hq := shape_any s hs w
    rw [hsh] at hq
    go_enter Try.func27, Try.ntmps27
    go_wp2_with fail
    refine hq.mono ?_
    rintro e w' ⟨rfl, rfl⟩
    go_wp2_with fail
    go_ret
    rw [Hn.out]
    exact ⟨_, rfl, Sl.nil _, Below.refl _ _⟩
  have Hn := Lib.hid (near_insA hsh)
  have hl := ((shp_iff s).1 hsh).1
  have Hl := Lib.hid hl
  have Hf : Hid (∀ i, Fit1 (byt s) i) := fun i => shp_fit1 hsh i
  have hq := shape_any s hs w
  rw [hsh] at hq
  clear hsh hl
  go_enter Try.func27, Try.ntmps27
  go_wp2_with fail
  refine hq.mono ?_
  rintro e w' ⟨rfl, rfl⟩
  clear hq
  go_wp2_with fail
  go_loopw [3, 4] (fun x j wr => ∃ i : Nat, i ≤ 9 ∧ j = .int .i64 i ∧ Sl wr x (insA (near (byt s) i)) ∧ Below w.heap.size w wr) (fun _ j _ => 9 - (intOf j).toNat)
  case atStart => exact ⟨0, by omega, rfl, Sl.nil _, Below.refl _ _⟩
  case round =>
    obtain ⟨i, hi, rfl, hsl, hb⟩ := hrel
    by_cases hlt : i < 9
    · have hi' : (i : Int) < 9 := by omega
      go_wp2_with fail
      refine (with_any s Hl.out i hlt _).mono ?_
      rintro e w2 ⟨A, cA, rfl, hr, -, -, hb2⟩
      have hb3 := Mw.bl_trans hb hb2
      have hsl2 := hsl.old hb2
      have hLl := wt_len (byt s) i 43
      have hNl := near_len (byt s) i
      have Hrp := Lib.hid (wt_all hlt (bnd_byt s) (Hf.out i))
      rw [S9_byt s Hl.out] at Hrp
      generalize wt (byt s) i 43 = L at hr hLl Hrp ⊢
      clear hsl hb hb2
      go_wp2_with fail
      obtain ⟨wo, rfl⟩ : ∃ wo : World, wo = w2 := ⟨_, rfl⟩
      go_loopw [3, 6] (fun x j wq => ∃ k : Nat, k ≤ L.length ∧ j = .int .i64 k ∧ Sl wq x (insA (nf (near (byt s) i) L s k)) ∧ Below wo.heap.size wo wq) (fun _ j _ => L.length - (intOf j).toNat)
      case atStart => exact ⟨0, by omega, rfl, by rw [nf_0]; exact hsl2, Below.refl _ _⟩
      case round =>
        obtain ⟨k, hk, rfl, hsl3, hb4⟩ := hrel
        by_cases hltk : k < L.length
        · obtain ⟨b, off, rfl, hbl, hc⟩ := (hr.old hb4) k hltk
          have hk' : (k : Int) < L.length := by omega
          have hk0 : (0 : Int) ≤ k := by omega
          have hil : (insA (nf (near (byt s) i) L s k)).length ≤ 1000 := by
            have := insA_len (nf (near (byt s) i) L s k)
            have := nf_len (N := near (byt s) i) (L := L) (s := s) (k := k) (by omega) (by omega)
            omega
          by_cases he : ge L k = s
          · have hb1 : ((ge L k).toList == s.toList) = true := by rw [streq]; exact decide_eq_true he
            have hb1' : ((ge L k).toList != s.toList) = false := by rw [bne, hb1]; rfl
            have HN := Lib.hid (nf_no (N := near (byt s) i) hltk he)
            clear he
            go_wp2_with fail
            go_roundw
            case rel => exact ⟨k + 1, by omega, by go_num, by rw [HN.out]; exact hsl3, hb4⟩
            case measure => simp [intOf]; omega
          · have hb1 : ((ge L k).toList == s.toList) = false := by rw [streq]; exact decide_eq_false he
            have hb1' : ((ge L k).toList != s.toList) = true := by rw [bne, hb1]; rfl
            have HN := Lib.hid (nf_yes (N := near (byt s) i) hltk he)
            clear he
            go_wp2_with fail
            refine (insert_any _ _ (ge L k) _ hil hsl3).mono ?_
            rintro e w5 ⟨v5, rfl, hsl5, hb5⟩
            have hb6 := Mw.bl_trans hb4 hb5
            clear hsl3 hb4 hb5 hc
            go_wp2_with fail
            go_roundw
            case rel => exact ⟨k + 1, by omega, by go_num, by rw [HN.out, insA_snoc]; exact hsl5, hb6⟩
            case measure => simp [intOf]; omega
        · obtain rfl : k = L.length := by omega
          have HE : Hid (near (byt s) (i + 1) = nf (near (byt s) i) L s L.length) := by
            unfold Hid nf
            rw [List.take_length, near, ← Hrp.out]
          have hb7 := Mw.bl_trans hb3 hb4
          go_wp2_with fail
          go_roundw
          case rel => exact ⟨i + 1, by omega, by go_num, by rw [HE.out]; exact hsl3, hb7⟩
          case measure => simp [intOf]; omega
    · obtain rfl : i = 9 := by omega
      go_wp2_with fail
      go_ret
      rw [Hn.out]
      exact ⟨_, rfl, hsl, hb⟩
end Go.Proofs.Ytpdekglmmgecmaa.Id
