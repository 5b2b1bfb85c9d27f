/- Walk: identity.replaced. -/
import Derived.Test.YtpdekglmmgecmaaUA
import Derived.WalkKit
import Derived.WalkSpells
import Derived.WalkLawsBesides
import Derived.Deep.QuietTactic
import Derived.BigQuiet
import Derived.Deep.Draws
import Derived.Deep.AppendLies
import Derived.Laws.OwnMore
import Derived.Laws.BytesArg
import Derived.Lib.Hide
import Derived.Deep.LoopGhost
import Derived.Deep.CutBlock
namespace Go.Proofs.Ytpdekglmmgecmaa.Id
open Go.RowKit
open Go.Proofs.Ytpdekglmmgecmaa.Mw (Bk RdE gb_of own_old own_enc own_frozen one_new gb_set gb_refl)
set_option linter.unusedSimpArgs false
set_option linter.unusedVariables false
set_option linter.unusedSimpArgs false

theorem info8' : (Try.prog.info? 5).map (fun i => (i.zero, i.size, i.bytes)) = some (some (.int .u8 0), 1, 1) := by kernel_rfl
theorem cells8 : Try.prog.cellsOf 5 = 1 := by kernel_rfl
theorem infoStr : (Try.prog.info? 9).map (fun i => (i.zero, i.size, i.bytes)) = some (some (.string ⟨#[]⟩), 1, 16) := by kernel_rfl
theorem part9_0 (b : Nat → Int) (w : World) : (part 5 (wc b) 0).run Try.prog w = .ok (.int .u8 (b 0)) w := by kernel_rfl
theorem part9_1 (b : Nat → Int) (w : World) : (part 5 (wc b) 1).run Try.prog w = .ok (.int .u8 (b 1)) w := by kernel_rfl
theorem part9_2 (b : Nat → Int) (w : World) : (part 5 (wc b) 2).run Try.prog w = .ok (.int .u8 (b 2)) w := by kernel_rfl
theorem part9_3 (b : Nat → Int) (w : World) : (part 5 (wc b) 3).run Try.prog w = .ok (.int .u8 (b 3)) w := by kernel_rfl
theorem part9_4 (b : Nat → Int) (w : World) : (part 5 (wc b) 4).run Try.prog w = .ok (.int .u8 (b 4)) w := by kernel_rfl
theorem part9_5 (b : Nat → Int) (w : World) : (part 5 (wc b) 5).run Try.prog w = .ok (.int .u8 (b 5)) w := by kernel_rfl
theorem part9_6 (b : Nat → Int) (w : World) : (part 5 (wc b) 6).run Try.prog w = .ok (.int .u8 (b 6)) w := by kernel_rfl
theorem part9_7 (b : Nat → Int) (w : World) : (part 5 (wc b) 7).run Try.prog w = .ok (.int .u8 (b 7)) w := by kernel_rfl
theorem part9_8 (b : Nat → Int) (w : World) : (part 5 (wc b) 8).run Try.prog w = .ok (.int .u8 (b 8)) w := by kernel_rfl
def eqb9 (a b : Nat → Int) : Bool := a 0 == b 0 && (a 1 == b 1 && (a 2 == b 2 && (a 3 == b 3 && (a 4 == b 4 && (a 5 == b 5 && (a 6 == b 6 && (a 7 == b 7 && a 8 == b 8)))))))
theorem eq9 (a b : Nat → Int) (w : World) : (Op.equalIn 10000 43 (wv a) (wv b)).run Try.prog w = .ok (eqb9 a b) w := by
  obtain ⟨i0, hi, _⟩ := info_parts info8'
  have h := run_equalIn_array (P := Try.prog) w 9999 (wv a).cells (wv b).cells Try.underlying43 hi
  refine h.trans ?_
  rw [cells8, show List.range 9 = [0, 1, 2, 3, 4, 5, 6, 7, 8] from rfl]
  have e : ∀ (x y : Int) (W : World), (Op.equalIn 9999 5 (.int .u8 x) (.int .u8 y)).run Try.prog W = .ok (x == y) W := fun x y W => run_equalIn_int W 9998 _ _ _ x y Try.underlying5
  unfold eqb9
  simp only [Op.eqItems, Sem.run_bind, Value.cells, Nat.mul_one, part9_0, part9_1, part9_2, part9_3, part9_4, part9_5, part9_6, part9_7, part9_8, e, Result.andThen_ok, Bool.not_true, Bool.false_eq_true, if_false, Bool.true_and]
  cases a 0 == b 0
  · rfl
  simp only [Op.eqItems, Sem.run_bind, Value.cells, Nat.mul_one, part9_0, part9_1, part9_2, part9_3, part9_4, part9_5, part9_6, part9_7, part9_8, e, Result.andThen_ok, Bool.not_true, Bool.false_eq_true, if_false, Bool.true_and]
  cases a 1 == b 1
  · rfl
  simp only [Op.eqItems, Sem.run_bind, Value.cells, Nat.mul_one, part9_0, part9_1, part9_2, part9_3, part9_4, part9_5, part9_6, part9_7, part9_8, e, Result.andThen_ok, Bool.not_true, Bool.false_eq_true, if_false, Bool.true_and]
  cases a 2 == b 2
  · rfl
  simp only [Op.eqItems, Sem.run_bind, Value.cells, Nat.mul_one, part9_0, part9_1, part9_2, part9_3, part9_4, part9_5, part9_6, part9_7, part9_8, e, Result.andThen_ok, Bool.not_true, Bool.false_eq_true, if_false, Bool.true_and]
  cases a 3 == b 3
  · rfl
  simp only [Op.eqItems, Sem.run_bind, Value.cells, Nat.mul_one, part9_0, part9_1, part9_2, part9_3, part9_4, part9_5, part9_6, part9_7, part9_8, e, Result.andThen_ok, Bool.not_true, Bool.false_eq_true, if_false, Bool.true_and]
  cases a 4 == b 4
  · rfl
  simp only [Op.eqItems, Sem.run_bind, Value.cells, Nat.mul_one, part9_0, part9_1, part9_2, part9_3, part9_4, part9_5, part9_6, part9_7, part9_8, e, Result.andThen_ok, Bool.not_true, Bool.false_eq_true, if_false, Bool.true_and]
  cases a 5 == b 5
  · rfl
  simp only [Op.eqItems, Sem.run_bind, Value.cells, Nat.mul_one, part9_0, part9_1, part9_2, part9_3, part9_4, part9_5, part9_6, part9_7, part9_8, e, Result.andThen_ok, Bool.not_true, Bool.false_eq_true, if_false, Bool.true_and]
  cases a 6 == b 6
  · rfl
  simp only [Op.eqItems, Sem.run_bind, Value.cells, Nat.mul_one, part9_0, part9_1, part9_2, part9_3, part9_4, part9_5, part9_6, part9_7, part9_8, e, Result.andThen_ok, Bool.not_true, Bool.false_eq_true, if_false, Bool.true_and]
  cases a 7 == b 7
  · rfl
  simp only [Op.eqItems, Sem.run_bind, Value.cells, Nat.mul_one, part9_0, part9_1, part9_2, part9_3, part9_4, part9_5, part9_6, part9_7, part9_8, e, Result.andThen_ok, Bool.not_true, Bool.false_eq_true, if_false, Bool.true_and]
  cases a 8 == b 8
  · rfl
  rfl
theorem i9 {i : Nat} (h : i < 9) : i = 0 ∨ i = 1 ∨ i = 2 ∨ i = 3 ∨ i = 4 ∨ i = 5 ∨ i = 6 ∨ i = 7 ∨ i = 8 := by omega
theorem eqb9_upd (b : Nat → Int) {i : Nat} (hi : i < 9) (c : Int) : eqb9 (upd b i c) b = decide (c = b i) := by
  rcases i9 hi with h | h | h | h | h | h | h | h | h <;> subst h <;> simp [eqb9, upd, Bool.beq_eq_decide_eq]
theorem wc_upd (b : Nat → Int) {i : Nat} (hi : i < 9) (c : Int) : (wc b).setIfInBounds i (.int .u8 c) = wc (upd b i c) := by
  rcases i9 hi with h | h | h | h | h | h | h | h | h <;> subst h <;> simp [upd]
theorem lst_upd (b : Nat → Int) {i : Nat} (hi : i < 9) (c : Int) : (([.int .u8 (b 0), .int .u8 (b 1), .int .u8 (b 2), .int .u8 (b 3), .int .u8 (b 4), .int .u8 (b 5), .int .u8 (b 6), .int .u8 (b 7), .int .u8 (b 8)] : List Value).set i (.int .u8 c)).toArray = wc (upd b i c) := by
  rcases i9 hi with h | h | h | h | h | h | h | h | h <;> subst h <;> simp [upd]
theorem bk9 {w : World} {g : Nat} {T : TypeId} {b : Nat → Int} (h : Bk w g T (wc b)) : Blk9 w g b := ⟨h.cell 0, h.cell 1, h.cell 2, h.cell 3, h.cell 4, h.cell 5, h.cell 6, h.cell 7, h.cell 8⟩
/-- The ending is a slice of texts in new memory, none of it frozen. -/
def RetS (l : List ByteArray) (w : World) (e : Ending) (w' : World) : Prop := ∃ A c, e = .returned (.slice A l.length c) ∧ RdE Value.string w' A l ∧ (∀ a, A = some a → w.heap.size ≤ a.block ∧ a.block < w'.heap.size) ∧ (∀ a, A = some a → ∀ o, w'.frozen? ⟨a.block, o, none⟩ = false) ∧ Below w.heap.size w w'
abbrev D10 : ByteArray := ⟨#[48, 49, 50, 51, 52, 53, 54, 55, 56, 57]⟩
abbrev L23 : ByteArray := ⟨#[65, 66, 67, 68, 69, 70, 71, 72, 74, 75, 76, 77, 78, 80, 81, 82, 83, 84, 85, 86, 87, 88, 89]⟩
theorem d10_at' : ∀ k : Fin 10, ((D10[k.val]'k.isLt).toNat : Int) = 48 + ((k.val : Nat) : Int) := by decide +kernel
theorem l23_at' : ∀ k : Fin 23, ((L23[k.val]'k.isLt).toNat : Int) = let_ ((k.val : Nat) : Int) := by decide +kernel
theorem d10_at (i : Nat) (hi : i < 8) (k : Nat) (h : k < D10.size) : ((D10[k]'h).toNat : Int) = chn i k := by
  unfold chn; rw [if_pos hi]; exact d10_at' ⟨k, h⟩
theorem l23_at (k : Nat) (h : k < L23.size) : ((L23[k]'h).toNat : Int) = chn 8 k := by
  unfold chn; rw [if_neg (by omega)]; exact l23_at' ⟨k, h⟩

set_option maxHeartbeats 2000000 in
set_option maxRecDepth 100000 in
theorem replaced_any (b : Nat → Int) (i : Nat) (hi : i < 9) (w : World) :
    Calls Try.prog 35 #[wv b, .int .i64 (i : Int)] w (RetS (rp b i (cnt i)) w) := by
  obtain ⟨i0, hi0, hz0, hz1, hz2⟩ := info_parts infoStr
  have Hi := Lib.hid hi
  have b0 : Bk (w.alloc (.cells (wc b) 43)) w.heap.size 43 (wc b) := Bk.new _ _ _
  obtain ⟨t1, t2⟩ : ((i : Int) == 8) = decide (i = 8) ∧ (i == 8) = decide (i = 8) := by
    constructor <;> rw [Bool.eq_iff_iff] <;> simp <;> omega
  have hC : ∃ C : ByteArray, (if i = 8 then L23 else D10) = C ∧ C.size = cnt i ∧ ∀ (k : Nat) (h : k < C.size), ((C[k]'h).toNat : Int) = chn i k := by
    by_cases e : i = 8
    · subst e; exact ⟨L23, if_pos rfl, rfl, l23_at⟩
    · refine ⟨D10, if_neg e, ?_, d10_at i (by omega)⟩
      unfold cnt; rw [if_pos (by omega)]; rfl
  obtain ⟨C, hC1, hC2, hC3⟩ := hC
  have HC := Lib.hid hC3
  have hcn := cnt_le i
  have HC2 := Lib.hid hC2
  clear hC2 hC3
  by_cases e8 : i = 8
  all_goals
    first
    | (rw [decide_eq_true e8] at t1 t2; rw [if_pos e8] at hC1)
    | (rw [decide_eq_false e8] at t1 t2; rw [if_neg e8] at hC1)
    have hC1' := Lib.hid hC1
    clear hC1 e8
    go_enter Try.func35, Try.ntmps35
    go_wp2_with fail
    first
    | rw [show (⟨#[65, 66, 67, 68, 69, 70, 71, 72, 74, 75, 76, 77, 78, 80, 81, 82, 83, 84, 85, 86, 87, 88, 89]⟩ : ByteArray) = C from hC1'.out]
    | rw [show (⟨#[48, 49, 50, 51, 52, 53, 54, 55, 56, 57]⟩ : ByteArray) = C from hC1'.out]
    clear hC1' t1 t2
    go_loopw [6, 7] (fun x j wr => ∃ k : Nat, k ≤ cnt i ∧ j = .int .i64 k ∧ wr.ownsRow (w.heap.size + 1) 9 1 x (rp b i k).length ((rp b i k).map Value.string) ∧ Bk wr w.heap.size 43 (wc b) ∧ Below w.heap.size w wr) (fun _ j _ => cnt i - (intOf j).toNat)
    case atStart => exact ⟨0, by omega, rfl, World.ownsRow_nil _ _ _ _, b0, by (repeat (first | with_reducible exact Below.refl _ _ | with_reducible refine bl_drewN ?_ _ | with_reducible refine Below.drew ?_ | with_reducible refine bl_alloc ?_ _ | with_reducible refine Below.alloc ?_ (by first | omega | (simp; done) | (simp; omega)) _ | with_reducible refine Below.setCell ?_ (by first | omega | (simp; done) | (simp; omega)) _ | with_reducible assumption))⟩
    case round =>
      clear b0
      obtain ⟨k, hk, rfl, hown, hB, hb⟩ := hrel
      have hrl := rp_len b i k
      have hg0 := hB.lt
      by_cases hlt : k < C.size
      · have hlc : k < cnt i := by rw [← HC2.out]; exact hlt
        have hby := HC.out k hlt
        obtain ⟨c, hc⟩ : ∃ c, chn i k = c := ⟨_, rfl⟩
        have hcb := chn_bd i k hlc
        rw [hc] at hby hcb
        have Hc := Lib.hid hc
        clear hc
        obtain ⟨c0, c1, c2, c3, c4, c5, c6, c7, c8⟩ := bk9 hB
        have hi' : (i : Int) < 9 := by omega
        have hf : ∀ (W : World) (T : TypeId) (cs : Array Value), (W.alloc (.cells cs T)).frozen? ⟨W.heap.size, i, none⟩ = false := fun W T cs => (Bk.new W T cs).frozen i
        go_upto_region 10 with fail
        rw [lst_upd b Hi.out c]
        have bV : Bk (wr.alloc (.cells (wc (upd b i c)) 43)) wr.heap.size 43 (wc (upd b i c)) := Bk.new _ _ _
        have bW := hB.alloc (.cells (wc (upd b i c)) 43)
        have ho := hown.alloc (.cells (wc (upd b i c)) 43)
        have hbV : Below w.heap.size w (wr.alloc (.cells (wc (upd b i c)) 43)) := Mw.bl_alloc hb _
        have hg1 : wr.heap.size < (wr.alloc (.cells (wc (upd b i c)) 43)).heap.size := by simp
        generalize wr.alloc (.cells (wc (upd b i c)) 43) = V at bV bW ho hbV hg1 ⊢
        clear hB hown hb c0 c1 c2 c3 c4 c5 c6 c7 c8 hf
        have HE : Hid (∀ W, (Op.equalIn 10000 43 (wv (upd b i c)) (wv b)).run Try.prog W = .ok (decide (c = b i)) W) := fun W => by rw [eq9, eqb9_upd b Hi.out]
        obtain ⟨d, hd⟩ : ∃ d, upd b i c = d := ⟨_, rfl⟩
        rw [hd] at bV HE
        have Hd := Lib.hid hd
        clear hd
        obtain ⟨c0, c1, c2, c3, c4, c5, c6, c7, c8⟩ := bk9 bW
        obtain ⟨d0, d1, d2, d3, d4, d5, d6, d7, d8⟩ := bk9 bV
        have hg0' := bW.lt
        by_cases hce : c = b i
        · have he := HE.out
          rw [decide_eq_true hce] at he
          have Hrp : Hid (rp b i (k + 1) = rp b i k) := rp_no (by unfold okc; rw [Hc.out]; simp [hce])
          clear hce
          refine Mm.region_ext (by kernel_rfl) (by kernel_rfl) ?_; (repeat (first | go_big_quiet_step ((fail)) | quiet_step ((fail)))); refine wpQuiet_nil ?_
          intro w3 hb3
          go_wp2_with fail
          go_roundw
          case rel => exact ⟨k + 1, by omega, by go_num, by rw [Hrp.out]; exact own_old ho hb3, bW.old hb3, Mw.bl_trans hbV hb3⟩
          case measure => simp [intOf]; omega
        · have he := HE.out
          rw [decide_eq_false hce] at he
          by_cases hl : ltr d = d 8
          · have z1 : (ltr d == d 8) = true := by simp [hl]
            have Hrp : Hid (rp b i (k + 1) = rp b i k ++ [S9 d]) := by
              have := rp_yes (b := b) (i := i) (k := k) (by unfold okc; rw [Hc.out, Hd.out]; simp [hce, hl])
              rw [Hc.out, Hd.out] at this
              exact this
            clear hce hl
            refine Mm.region_ext (by kernel_rfl) (by kernel_rfl) ?_; (repeat (first | go_big_quiet_step ((go_at_call 28; exact Mm.calls_ext (letter_any d _))) | quiet_step ((go_at_call 28; exact Mm.calls_ext (letter_any d _))))); refine wpQuiet_nil ?_
            intro w3 hb3
            have hcv := conv9 w3 wr.heap.size d (bk9 (bV.old hb3))
            have ho3 := own_old ho hb3
            have hb3z := hb3.size
            have hbz := hbV.size
            clear c0 c1 c2 c3 c4 c5 c6 c7 c8 d0 d1 d2 d3 d4 d5 d6 d7 d8 he
            go_wp2_with (at_builtin; refine wpList_append_own _ rfl _ _ 40 rfl (w.heap.size + 1) 9 i0 (.string ⟨#[]⟩) 1 16 Try.underlying40 hi0 hz0 hz1 hz2 rfl (by decide) _ _ _ rfl (ho3.alloc _) ⟨w3.heap.size, 0, none⟩ 1 1 [_] rfl rfl (one_new _ _ _ rfl) ?c2 ?c3 ?c4 ?c5 ?_)
            case c2 => simp [Value.oneCell']
            case c3 => simp only [maxLen]; omega
            case c4 => omega
            case c5 => first | omega | (simp; omega)
            intro v6 w6 hown6 hgrow6 _
            have hb6 := Below.grown (Mw.bl_alloc (Mw.bl_trans hbV hb3) _) hgrow6 (by simp; omega) (fun q hq => by have := (ho3.lt q hq).1; omega)
            have bW6 := ((bW.old hb3).alloc _).grown hgrow6 (fun e => by have := (ho3.lt _ e.symm).1; omega)
            have hown7 : w6.ownsRow (w.heap.size + 1) 9 1 v6 (rp b i (k + 1)).length ((rp b i (k + 1)).map Value.string) := by
              rw [Hrp.out, List.map_append, List.length_append]; exact hown6
            clear hown6 hgrow6 ho3 hcv hb3
            go_wp2_with fail
            go_roundw
            case rel => exact ⟨k + 1, by omega, by go_num, hown7, bW6, hb6⟩
            case measure => simp [intOf]; omega
          · have z1 : (ltr d == d 8) = false := by simp [hl]
            have Hrp : Hid (rp b i (k + 1) = rp b i k) := rp_no (by unfold okc; rw [Hc.out, Hd.out]; simp [hl])
            clear hce hl
            refine Mm.region_ext (by kernel_rfl) (by kernel_rfl) ?_; (repeat (first | go_big_quiet_step ((go_at_call 28; exact Mm.calls_ext (letter_any d _))) | quiet_step ((go_at_call 28; exact Mm.calls_ext (letter_any d _))))); refine wpQuiet_nil ?_
            intro w3 hb3
            go_wp2_with fail
            go_roundw
            case rel => exact ⟨k + 1, by omega, by go_num, by rw [Hrp.out]; exact own_old ho hb3, bW.old hb3, Mw.bl_trans hbV hb3⟩
            case measure => simp [intOf]; omega
      · obtain rfl : k = cnt i := by have := HC2.out; omega
        obtain ⟨A, cA, rfl, hr, hA⟩ := own_enc hown
        have hfr := own_frozen hown
        have HA := Lib.hid hA
        clear hA hown
        go_wp2_with fail
        go_ret
        exact ⟨A, cA, rfl, hr, fun a ha => by have := HA.out a ha; omega, hfr, hb⟩
end Go.Proofs.Ytpdekglmmgecmaa.Id
