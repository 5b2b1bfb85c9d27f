/- Walks: logs off the tape. -/
import Derived.Test.YtdikoffppjoomaaGreatCW
import Derived.Test.YtdikoffppjoomaaGreatMDn
import Derived.WalkKit
import Derived.WalkSpells
import Derived.WalkLawsBesides
import Derived.Deep.QuietTactic
import Derived.BigQuiet
import Derived.Deep.Draws
import Derived.Deep.AppendLies
import Derived.Laws.OwnMore
import Derived.Laws.BytesArg
import Derived.Lib.Hide
import Derived.Deep.LoopGhost
namespace Go.Proofs.YtdikoffppjoomaaGreat.Ct
open Go.RowKit Go.Proofs.YtdikoffppjoomaaGreat.Dg
open Go.Proofs.YtdikoffppjoomaaGreat.Mw (I64 ret_int ret_bool Bk bl_trans own_ints RdI RdR ge ge_lt gi ge_mem own_rows Away gb_refl gb_trans gb_below gb_alloc gb_set)
open Go.Proofs.YtdikoffppjoomaaGreat.Dc (Di DI DB next_any)
set_option linter.unusedVariables false
set_option linter.unusedSimpArgs false
set_option maxRecDepth 100000

theorem bool_any (tp : Nat) (n : Int) (w : World) (ht : Di w tp) (h1 : 1 ≤ n) (h2 : n ≤ 1000000) :
    Calls Tryz.prog 44 #[.pointer (some ⟨tp, 0, none⟩), .int .i64 n] w (DB tp w) := by
  go_enter Tryz.func44, Tryz.ntmps44
  go_wp2_with fail
  refine (next_any tp _ _ ht (by omega) (by omega)).mono ?_
  rintro e w1 ⟨x, hx, rfl, ht1, hg1⟩
  go_wp2_with fail
  go_ret
  exact ⟨_, rfl, ht1, hg1⟩
/-- A log under construction. -/
structure LI (l : List Le) (i : Nat) (id tm : Int) : Prop where
  v : V l
  len : l.length ≤ i
  t0 : 0 ≤ tm
  t1 : tm ≤ 2 * i
  lt : lst l ≤ tm
  i0 : 0 ≤ id
  i1 : id ≤ i
  el : ∀ x, x ∈ l → x.k = 0 → x.f.i ≤ id ∧ 1 ≤ x.f.c ∧ x.f.c ≤ 6
theorem LI.skip {l : List Le} {i : Nat} {id tm tm' : Int} (h : LI l i id tm) (h1 : tm ≤ tm') (h2 : tm' ≤ tm + 2) : LI l (i + 1) id tm' :=
  ⟨h.v, by have := h.len; omega, by have := h.t0; omega, by have := h.t1; omega, by have := h.lt; omega, h.i0, by have := h.i1; omega, h.el⟩
theorem LI.add {l : List Le} {i : Nat} {id tm tm' : Int} {e : Le} (h : LI l i id tm) (h1 : tm ≤ tm') (h2 : tm' ≤ tm + 2) (hn : nxt l e = 0) (ht : e.f.t = tm') (hi : e.f.i = id + 1) (hc : 1 ≤ e.f.c ∧ e.f.c ≤ 6) : LI (l ++ [e]) (i + 1) (id + 1) tm' :=
  ⟨V_snoc.2 ⟨h.v, hn⟩, by have := h.len; simp; omega, by have := h.t0; omega, by have := h.t1; omega, by rw [lst_snoc, ht]; omega, by have := h.i0; omega, by have := h.i1; omega, fun x hx hk => by
    rcases List.mem_append.1 hx with hx | hx
    · have := h.el x hx hk; omega
    · obtain rfl : x = e := by simpa using hx
      exact ⟨by omega, hc⟩⟩
theorem LI.rev {l : List Le} {i : Nat} {id tm tm' : Int} {e : Le} (h : LI l i id tm) (h1 : tm ≤ tm') (h2 : tm' ≤ tm + 2) (hn : nxt l e = 0) (ht : e.f.t = tm') (hk1 : e.k = 1) : LI (l ++ [e]) (i + 1) id tm' :=
  ⟨V_snoc.2 ⟨h.v, hn⟩, by have := h.len; simp; omega, by have := h.t0; omega, by have := h.t1; omega, by rw [lst_snoc, ht]; omega, h.i0, by have := h.i1; omega, fun x hx hk => by
    rcases List.mem_append.1 hx with hx | hx
    · exact h.el x hx hk
    · obtain rfl : x = e := by simpa using hx
      omega⟩
theorem le64_V {l : List Le} (h : V l) : ∀ x, x ∈ l → Le64 x := by
  refine V_ind (P := fun l => ∀ x, x ∈ l → Le64 x) (fun x hx => by cases hx) (fun l e _ hn ih x hx => ?_) _ l rfl h
  rcases List.mem_append.1 hx with hx | hx
  · exact ih x hx
  · obtain rfl : x = e := by simpa using hx
    obtain ⟨_, _, h⟩ := nxt_0 hn
    rcases h with ⟨hk, hv, _⟩ | ⟨hk, hv, _⟩
    · unfold vld at hv
      have := of_decide_eq_true hv
      refine ⟨?_, ?_, ?_, ?_, ?_, ?_⟩ <;> unfold Mw.I64 <;> omega
    · unfold rvk at hv
      have := of_decide_eq_true hv
      refine ⟨?_, ?_, ?_, ?_, ?_, ?_⟩ <;> unfold Mw.I64 <;> omega
theorem cur_vld {l : List Le} (h : V l) {c : Cf} (hc : c ∈ cur l) : vld c = true := (inv_of h).val _ _ (cu_some.1 ((mem_cur h).1 hc)).1
theorem vld_i64 {c : Cf} (h : vld c = true) : I64 c.i ∧ I64 c.c := by
  unfold vld at h
  have := of_decide_eq_true h
  constructor <;> unfold Mw.I64 <;> omega
/-- What stands beside the dice: the log so far. -/
structure FS (w wr : World) (tp : Nat) (A : Option Addr) (l : List Le) : Prop where
  rd : RdL wr A l
  di : Di wr tp
  gb : w.grownBy wr (some tp)
  aw : ∀ a, A = some a → w.heap.size ≤ a.block ∧ a.block < wr.heap.size
  ht : tp < w.heap.size
section
variable {w wr w' : World} {tp : Nat} {A : Option Addr} {l : List Le}
theorem FS.old (h : FS w wr tp A l) (hb : Below wr.heap.size wr w') : FS w w' tp A l := ⟨h.rd.old hb, h.di.old hb, gb_below h.gb hb, fun a ha => ⟨(h.aw a ha).1, Nat.lt_of_lt_of_le (h.aw a ha).2 hb.size⟩, h.ht⟩
theorem FS.alloc (h : FS w wr tp A l) (o : Obj) : FS w (wr.alloc o) tp A l := h.old ((Below.refl _ _).alloc (Nat.le_refl _) o)
theorem FS.turn (h : FS w wr tp A l) (hg : wr.grownBy w' (some tp)) (hd : Di w' tp) : FS w w' tp A l := ⟨h.rd.grown hg (fun a ha => by have := (h.aw a ha).1; have := h.ht; omega), hd, gb_trans h.gb hg, fun a ha => ⟨(h.aw a ha).1, Nat.lt_of_lt_of_le (h.aw a ha).2 hg.size⟩, h.ht⟩
theorem FS.set (h : FS w wr tp A l) {N : Nat} (hN : w.heap.size ≤ N) (hA : Away N A) (i : Nat) (u : Value) : FS w (wr.setCell ⟨N, i, none⟩ u) tp A l := ⟨h.rd.far hA u, h.di.far (by have := h.ht; show tp < N; omega) u, gb_set h.gb (.inr hN) u, fun a ha => ⟨(h.aw a ha).1, by have := (h.aw a ha).2; simpa using this⟩, h.ht⟩
end
theorem bk_turn {w w' : World} {N tp : Nat} {T : TypeId} {cs : Array Value} (h : Bk w N T cs) (hg : w.grownBy w' (some tp)) (hne : N ≠ tp) : Bk w' N T cs := h.kept hg hne
/-- What Log makes. -/
def LgP (n : Nat) (tp : Nat) (w : World) (e : Ending) (w' : World) : Prop := ∃ (l : List Le) (A : Option Addr) (c : Nat) (id tm : Int), e = .returned (.slice A l.length c) ∧ l.length ≤ c ∧ LI l n id tm ∧ FS w w' tp A l
set_option maxHeartbeats 40000000 in
theorem log_any (tp n : Nat) (w : World) (ht : Di w tp) (hn : n ≤ 20) : Calls Tryz.prog 8 #[.pointer (some ⟨tp, 0, none⟩), .int .i64 (n : Int)] w (LgP n tp w) := by
  have htl := ht.lt
  go_enter Tryz.func8, Tryz.ntmps8
  go_wp2_with fail
  go_loopw [5, 6, 7, 8] (fun v5 v6 v7 v8 wr => ∃ (i : Nat) (l : List Le) (A : Option Addr) (c : Nat) (id tm : Int), i ≤ n ∧ v8 = .int .i64 i ∧ v5 = .slice A l.length c ∧ v6 = .int .i64 id ∧ v7 = .int .i64 tm ∧ l.length ≤ c ∧ LI l i id tm ∧ FS w wr tp A l) (fun _ _ _ v8 _ => n - (RowKit.intOf v8).toNat)
  case atStart => exact ⟨0, [], none, 0, 0, 0, by omega, rfl, rfl, rfl, rfl, Nat.le_refl _, ⟨V_nil, by simp, by omega, by omega, by simp [lst], by omega, by omega, fun x hx => (by cases hx)⟩, ⟨RdR.nil _ _, ht, gb_refl _ _, fun a ha => (by cases ha), htl⟩⟩
  case round =>
    obtain ⟨i, l, A, c, id, tm, hin, rfl, rfl, rfl, rfl, hlc, hLI, hF⟩ := hrel
    have HLc := Lib.hid hlc
    have HLI := Lib.hid hLI
    by_cases hlt : i < n
    · have q0 : (i : Int) < (n : Int) := by omega
      have a0 := hLI.t0
      have a1 := hLI.t1
      have a2 := hLI.i0
      have a3 := hLI.i1
      clear hLI hlc
      go_wp2_with fail
      refine (next_any tp 3 _ hF.di (by omega) (by omega)).mono ?_
      rintro e w1 ⟨d0, ⟨hd0, hd1⟩, rfl, ht1, hg1⟩
      have hF1 := hF.turn hg1 ht1
      clear hF ht1 hg1
      have b0 : tm ≤ tm + d0 := by omega
      have b1 : tm + d0 ≤ tm + 2 := by omega
      go_wp2_with fail
      generalize tm + d0 = tn at b0 b1 ⊢
      refine (rcurrent_any l A c w1 hF1.rd HLc.out).mono ?_
      rintro e w2 ⟨vB, rfl, hown, hb2⟩
      have hF2 := hF1.old hb2
      obtain ⟨B, cB, rfl, hcB, hrB, hBw⟩ := own_rows cfl_len (by omega) hown
      have hcr : crr l = cur l := crr_0 (chk_V HLI.out.v)
      rw [hcr] at hrB hcB ⊢
      have hcv : ∀ x, x ∈ cur l → I64 x.i := fun x hx => (vld_i64 (cur_vld HLI.out.v hx)).1
      have hcl : (cur l).length ≤ n := by
        have := len_curN l l.length
        have := HLI.out.len
        unfold cur; omega
      have hs1 := hF1.gb.size
      generalize cur l = cu at hrB hcv hcl hcB ⊢
      have HCV := Lib.hid hcv
      clear hown hF1 hcr hcv
      go_wp2_with fail
      refine (next_any tp 6 _ hF2.di (by omega) (by omega)).mono ?_
      rintro e w3 ⟨d1, ⟨hd2, hd3⟩, rfl, ht3, hg3⟩
      have hF3 := hF2.turn hg3 ht3
      have hrB3 : RdC w3 B cu := hrB.grown hg3 (fun a ha => by have := (hBw a ha).1; omega)
      have hs3 := hg3.size
      go_wp2_with fail
      refine (next_any tp 5 _ hF3.di (by omega) (by omega)).mono ?_
      rintro e w4 ⟨d2, ⟨hd4, hd5⟩, rfl, ht4, hg4⟩
      have hF4 := hF3.turn hg4 ht4
      have hrB4 : RdC w4 B cu := hrB3.grown hg4 (fun a ha => by have := (hBw a ha).1; omega)
      have hBw4 : ∀ a, B = some a → w.heap.size ≤ a.block ∧ a.block < w4.heap.size := fun a ha => by have := hBw a ha; have := hg4.size; omega
      have hsw : w.heap.size ≤ w4.heap.size := hF4.gb.size
      clear hF2 hF3 hrB hrB3 ht3 hg3 ht4 hg4 hBw hs1 hs3
      go_wp2_with fail
      have hN0 : Bk (w4.alloc (.cells #[.int .i64 0, .int .i64 (id + 1), .int .i64 (1 + d1), .int .i64 d2, .int .i64 tn, .int .i64 0] 54)) w4.heap.size 54 #[.int .i64 0, .int .i64 (id + 1), .int .i64 (1 + d1), .int .i64 d2, .int .i64 tn, .int .i64 0] := Mw.Bk.new _ _ _
      have hF5 := hF4.alloc (.cells #[.int .i64 0, .int .i64 (id + 1), .int .i64 (1 + d1), .int .i64 d2, .int .i64 tn, .int .i64 0] 54)
      have hrB5 := hrB4.alloc (.cells #[.int .i64 0, .int .i64 (id + 1), .int .i64 (1 + d1), .int .i64 d2, .int .i64 tn, .int .i64 0] 54)
      have hAN : Away w4.heap.size A := fun a ha => by have := (hF4.aw a ha).2; omega
      have hBN : Away w4.heap.size B := fun a ha => by have := (hBw4 a ha).2; omega
      generalize w4.alloc (.cells #[.int .i64 0, .int .i64 (id + 1), .int .i64 (1 + d1), .int .i64 d2, .int .i64 tn, .int .i64 0] 54) = w5 at *
      obtain ⟨N, hN⟩ : ∃ N, N = w4.heap.size := ⟨_, rfl⟩
      rw [← hN] at hN0 hAN hBN ⊢
      have hNw : w.heap.size ≤ N := by omega
      have hBa : ∀ a, B = some a → w.heap.size ≤ a.block := fun a ha => (hBw4 a ha).1
      clear hF4 hrB4 hBw4 hN
      go_loopw [11] (fun kk wv => ∃ (k : Nat) (r : Int), k ≤ cu.length ∧ kk = .int .i64 k ∧ I64 r ∧ Bk wv N 54 #[.int .i64 0, .int .i64 (id + 1), .int .i64 (1 + d1), .int .i64 d2, .int .i64 tn, .int .i64 r] ∧ RdC wv B cu ∧ FS w wv tp A l) (fun kk _ => cu.length - (RowKit.intOf kk).toNat)
      case atStart => exact ⟨0, 0, by omega, rfl, by unfold Mw.I64; omega, hN0, hrB5, hF5⟩
      case round =>
        clear hN0 hrB5 hF5
        obtain ⟨k, r, hk, rfl, hr, hNv, hBv, hFv⟩ := hrel
        by_cases hkl : k < cu.length
        · obtain ⟨b, off, rfl, hbl, c0, c1, c2, c3, c4⟩ := cf_at hBv k hkl
          have u0 : (k : Int) < cu.length := by omega
          have n0 := hNv.cell 2
          have nl := hNv.lt
          by_cases hm : (ge cu k).c = 1 + d1
          · have v0 : ((ge cu k).c == 1 + d1) = true := beq_iff_eq.2 hm
            clear hm
            go_wp2_with fail
            refine Mm.region_ext (by kernel_rfl) (by kernel_rfl) ?_; (repeat (first | go_big_quiet_step (fail) | quiet_step (fail))); refine wpQuiet_nil ?_
            intro w6 hb6
            have hN6 := hNv.old hb6
            have hB6 := hBv.old hb6
            have hF6 := hFv.old hb6
            have hI6 := HCV.out _ (ge_mem cu k hkl)
            obtain ⟨b2, off2, hbe, hbl2, e0, e1, e2, e3, e4⟩ := cf_at hB6 k hkl
            cases hbe
            clear hNv hBv hFv hb6 c0 c1 c2 c3 c4 n0 nl hbl
            have n0 := hN6.cell 5
            have nf := fun o => hN6.frozen o
            have nl := hN6.lt
            have hN7 := hN6.set 5 (.int .i64 (ge cu k).i)
            simp only [List.setIfInBounds_toArray, List.set_cons_zero, List.set_cons_succ] at hN7
            have hB7 : RdC (w6.setCell ⟨N, 5, none⟩ (.int .i64 (ge cu k).i)) (some ⟨b, off, none⟩) cu := hB6.far hBN _
            have hF7 := hF6.set hNw hAN 5 (.int .i64 (ge cu k).i)
            clear hN6 hB6 hF6
            go_wp2_with fail
            go_roundw
            case rel => exact ⟨k + 1, (ge cu k).i, by omega, by go_num, hI6, hN7, hB7, hF7⟩
            case measure => simp [RowKit.intOf]; omega
          · have v0 : ((ge cu k).c == 1 + d1) = false := beq_eq_false_iff_ne.2 hm
            clear hm
            go_wp2_with fail
            refine Mm.region_ext (by kernel_rfl) (by kernel_rfl) ?_; (repeat (first | go_big_quiet_step (fail) | quiet_step (fail))); refine wpQuiet_nil ?_
            intro w6 hb6
            have hN6 := hNv.old hb6
            have hB6 := hBv.old hb6
            have hF6 := hFv.old hb6
            clear hNv hBv hFv hb6 c0 c1 c2 c3 c4 n0 nl hbl
            go_wp2_with fail
            go_roundw
            case rel => exact ⟨k + 1, r, by omega, by go_num, hr, hN6, hB6, hF6⟩
            case measure => simp [RowKit.intOf]; omega
        · by_cases h0 : 0 < cu.length
          · have u0 : decide ((0 : Int) < cu.length) = true := decide_eq_true (by omega)
            have u1 : (0 : Int) < cu.length := by omega
            have u2 : decide (0 < cu.length) = true := decide_eq_true h0
            go_wp2_with fail
            refine (bool_any tp 4 _ hFv.di (by omega) (by omega)).mono ?_
            rintro e w6 ⟨xb, rfl, ht6, hg6⟩
            have hN6 : Bk w6 N 54 _ := hNv.kept hg6 (by have := hFv.ht; omega)
            have hB6 := hBv.grown hg6 (by
              intro a ha
              have := hBa a ha
              have := hFv.ht
              omega)
            have hF6 := hFv.turn hg6 ht6
            clear hNv hBv hFv ht6 hg6
            cases xb
            · have hNz := hN6
              have hFz := hF6
              clear hN6 hB6 hF6
              obtain ⟨en, hen⟩ : ∃ en : Le, en = ⟨0, ⟨id + 1, 1 + d1, d2, tn, r⟩⟩ := ⟨_, rfl⟩
              have n0 := hNz.cell 0
              have n1 := hNz.cell 1
              have n2 := hNz.cell 2
              have n3 := hNz.cell 3
              have n4 := hNz.cell 4
              have n5 := hNz.cell 5
              have nl := hNz.lt
              go_wp2_with fail
              by_cases hnx : nxt l ⟨0, ⟨id + 1, 1 + d1, d2, tn, r⟩⟩ = 0
              · have HA : apn l ⟨0, ⟨id + 1, 1 + d1, d2, tn, r⟩⟩ = (l ++ [⟨0, ⟨id + 1, 1 + d1, d2, tn, r⟩⟩], 0) := by unfold apn; rw [if_pos (chk_V HLI.out.v), if_pos hnx]
                have HR := rappend_any l ⟨0, ⟨id + 1, 1 + d1, d2, tn, r⟩⟩ A c _ hFz.rd HLc.out
                rw [HA] at HR
                have HL2 : Hid (LI (l ++ [⟨0, ⟨id + 1, 1 + d1, d2, tn, r⟩⟩]) (i + 1) (id + 1) tn) := LI.add HLI.out b0 b1 hnx rfl rfl ⟨by show 1 ≤ 1 + d1; omega, by show 1 + d1 ≤ 6; omega⟩
                have HRR := Lib.hid HR
                clear HR HA hnx hen
                refine HRR.out.mono ?_
                rintro e w9 ⟨A9, c9, rfl, hc9, hr9, ha9, hb9⟩
                have hN9 := hNz.old hb9
                have hF9 : FS w w9 tp A9 (l ++ [⟨0, ⟨id + 1, 1 + d1, d2, tn, r⟩⟩]) := ⟨hr9, hFz.di.old hb9, gb_below hFz.gb hb9, fun a ha => ⟨Nat.le_trans hFz.gb.size (ha9 a ha).1, (ha9 a ha).2⟩, hFz.ht⟩
                clear n0 n1 n2 n3 n4 n5 nl
                clear HRR hb9 hNz hFz hr9 ha9
                have n0 := hN9.cell 0
                have n1 := hN9.cell 1
                have n2 := hN9.cell 2
                have n3 := hN9.cell 3
                have n4 := hN9.cell 4
                have n5 := hN9.cell 5
                have nl := hN9.lt
                go_wp2_with fail
                go_roundw
                case rel => exact ⟨i + 1, l ++ [⟨0, ⟨id + 1, 1 + d1, d2, tn, r⟩⟩], A9, c9, (id + 1), tn, by omega, by go_num, by rw [List.length_append] <;> rfl, rfl, rfl, hc9, HL2.out, hF9⟩
                case measure => simp [RowKit.intOf]; omega
              · have HA : apn l ⟨0, ⟨id + 1, 1 + d1, d2, tn, r⟩⟩ = ([], nxt l ⟨0, ⟨id + 1, 1 + d1, d2, tn, r⟩⟩) := by unfold apn; rw [if_pos (chk_V HLI.out.v), if_neg hnx]
                have HR := rappend_any l ⟨0, ⟨id + 1, 1 + d1, d2, tn, r⟩⟩ A c _ hFz.rd HLc.out
                rw [HA] at HR
                have HL2 : Hid (LI l (i + 1) id tn) := LI.skip HLI.out b0 b1
                have zz : (nxt l ⟨0, ⟨id + 1, 1 + d1, d2, tn, r⟩⟩ == 0) = false := beq_eq_false_iff_ne.2 hnx
                have HRR := Lib.hid HR
                clear HR HA hnx hen
                refine HRR.out.mono ?_
                rintro e w9 ⟨A9, c9, rfl, hc9, hr9, ha9, hb9⟩
                have hF9 := hFz.old hb9
                clear n0 n1 n2 n3 n4 n5 nl
                clear HRR hb9 hNz hFz hr9 ha9
                go_wp2_with fail
                go_roundw
                case rel => exact ⟨i + 1, l, A, c, id, tn, by omega, by go_num, rfl, rfl, rfl, HLc.out, HL2.out, hF9⟩
                case measure => simp [RowKit.intOf]; omega
            · go_wp2_with fail
              refine (next_any tp cu.length _ hF6.di (by omega) (by omega)).mono ?_
              rintro e w7 ⟨d5, ⟨hm0, hm1⟩, rfl, ht7, hg7⟩
              obtain ⟨M, rfl⟩ : ∃ M : Nat, d5 = M := ⟨d5.toNat, by omega⟩
              have hN7 : Bk w7 N 54 _ := hN6.kept hg7 (by have := hF6.ht; omega)
              have hB7 := hB6.grown hg7 (by
                intro a ha
                have := hBa a ha
                have := hF6.ht
                omega)
              have hF7 := hF6.turn hg7 ht7
              have hMl : M < cu.length := by omega
              obtain ⟨b2, off2, rfl, hbl2, e0, e1, e2, e3, e4⟩ := cf_at hB7 M hMl
              clear hN6 hB6 hF6 ht7 hg7
              have n0 := hN7.cell 0
              have n1 := hN7.cell 1
              have n2 := hN7.cell 2
              have n3 := hN7.cell 3
              have n4 := hN7.cell 4
              have n5 := hN7.cell 5
              have nl := hN7.lt
              have nf := fun o => hN7.frozen o
              have hNz := (((((hN7.set 0 (.int .i64 1)).set 1 (.int .i64 (ge cu M).i)).set 2 (.int .i64 0)).set 3 (.int .i64 0)).set 4 (.int .i64 tn)).set 5 (.int .i64 0)
              simp only [List.setIfInBounds_toArray, List.set_cons_zero, List.set_cons_succ] at hNz
              have hFz := (((((hF7.set hNw hAN 0 (.int .i64 1)).set hNw hAN 1 (.int .i64 (ge cu M).i)).set hNw hAN 2 (.int .i64 0)).set hNw hAN 3 (.int .i64 0)).set hNw hAN 4 (.int .i64 tn)).set hNw hAN 5 (.int .i64 0)
              go_wp2_with fail
              clear n0 n1 n2 n3 n4 n5 nl
              clear nf hN7 hB7 hF7 e0 e1 e2 e3 e4 hbl2
              generalize (((((w7.setCell ⟨N, 0, none⟩ (.int .i64 1)).setCell ⟨N, 1, none⟩ (.int .i64 (ge cu M).i)).setCell ⟨N, 2, none⟩ (.int .i64 0)).setCell ⟨N, 3, none⟩ (.int .i64 0)).setCell ⟨N, 4, none⟩ (.int .i64 tn)).setCell ⟨N, 5, none⟩ (.int .i64 0) = w8 at *
              obtain ⟨en, hen⟩ : ∃ en : Le, en = ⟨1, ⟨(ge cu M).i, 0, 0, tn, 0⟩⟩ := ⟨_, rfl⟩
              have n0 := hNz.cell 0
              have n1 := hNz.cell 1
              have n2 := hNz.cell 2
              have n3 := hNz.cell 3
              have n4 := hNz.cell 4
              have n5 := hNz.cell 5
              have nl := hNz.lt
              try go_wp2_with fail
              by_cases hnx : nxt l ⟨1, ⟨(ge cu M).i, 0, 0, tn, 0⟩⟩ = 0
              · have HA : apn l ⟨1, ⟨(ge cu M).i, 0, 0, tn, 0⟩⟩ = (l ++ [⟨1, ⟨(ge cu M).i, 0, 0, tn, 0⟩⟩], 0) := by unfold apn; rw [if_pos (chk_V HLI.out.v), if_pos hnx]
                have HR := rappend_any l ⟨1, ⟨(ge cu M).i, 0, 0, tn, 0⟩⟩ A c _ hFz.rd HLc.out
                rw [HA] at HR
                have HL2 : Hid (LI (l ++ [⟨1, ⟨(ge cu M).i, 0, 0, tn, 0⟩⟩]) (i + 1) id tn) := LI.rev HLI.out b0 b1 hnx rfl rfl
                have HRR := Lib.hid HR
                clear HR HA hnx hen
                refine HRR.out.mono ?_
                rintro e w9 ⟨A9, c9, rfl, hc9, hr9, ha9, hb9⟩
                have hN9 := hNz.old hb9
                have hF9 : FS w w9 tp A9 (l ++ [⟨1, ⟨(ge cu M).i, 0, 0, tn, 0⟩⟩]) := ⟨hr9, hFz.di.old hb9, gb_below hFz.gb hb9, fun a ha => ⟨Nat.le_trans hFz.gb.size (ha9 a ha).1, (ha9 a ha).2⟩, hFz.ht⟩
                clear n0 n1 n2 n3 n4 n5 nl
                clear HRR hb9 hNz hFz hr9 ha9
                have n0 := hN9.cell 0
                have n1 := hN9.cell 1
                have n2 := hN9.cell 2
                have n3 := hN9.cell 3
                have n4 := hN9.cell 4
                have n5 := hN9.cell 5
                have nl := hN9.lt
                go_wp2_with fail
                go_roundw
                case rel => exact ⟨i + 1, l ++ [⟨1, ⟨(ge cu M).i, 0, 0, tn, 0⟩⟩], A9, c9, id, tn, by omega, by go_num, by rw [List.length_append] <;> rfl, rfl, rfl, hc9, HL2.out, hF9⟩
                case measure => simp [RowKit.intOf]; omega
              · have HA : apn l ⟨1, ⟨(ge cu M).i, 0, 0, tn, 0⟩⟩ = ([], nxt l ⟨1, ⟨(ge cu M).i, 0, 0, tn, 0⟩⟩) := by unfold apn; rw [if_pos (chk_V HLI.out.v), if_neg hnx]
                have HR := rappend_any l ⟨1, ⟨(ge cu M).i, 0, 0, tn, 0⟩⟩ A c _ hFz.rd HLc.out
                rw [HA] at HR
                have HL2 : Hid (LI l (i + 1) id tn) := LI.skip HLI.out b0 b1
                have zz : (nxt l ⟨1, ⟨(ge cu M).i, 0, 0, tn, 0⟩⟩ == 0) = false := beq_eq_false_iff_ne.2 hnx
                have HRR := Lib.hid HR
                clear HR HA hnx hen
                refine HRR.out.mono ?_
                rintro e w9 ⟨A9, c9, rfl, hc9, hr9, ha9, hb9⟩
                have hF9 := hFz.old hb9
                clear n0 n1 n2 n3 n4 n5 nl
                clear HRR hb9 hNz hFz hr9 ha9
                go_wp2_with fail
                go_roundw
                case rel => exact ⟨i + 1, l, A, c, id, tn, by omega, by go_num, rfl, rfl, rfl, HLc.out, HL2.out, hF9⟩
                case measure => simp [RowKit.intOf]; omega
          · have u0 : decide ((0 : Int) < cu.length) = false := decide_eq_false (by omega)
            have u1 : ¬ (0 : Int) < cu.length := by omega
            have u2 : decide (0 < cu.length) = false := decide_eq_false h0
            have u3 : ¬ 0 < cu.length := h0
            have hNz := hNv
            have hFz := hFv
            clear hNv hBv hFv h0
            obtain ⟨en, hen⟩ : ∃ en : Le, en = ⟨0, ⟨id + 1, 1 + d1, d2, tn, r⟩⟩ := ⟨_, rfl⟩
            have n0 := hNz.cell 0
            have n1 := hNz.cell 1
            have n2 := hNz.cell 2
            have n3 := hNz.cell 3
            have n4 := hNz.cell 4
            have n5 := hNz.cell 5
            have nl := hNz.lt
            go_wp2_with fail
            by_cases hnx : nxt l ⟨0, ⟨id + 1, 1 + d1, d2, tn, r⟩⟩ = 0
            · have HA : apn l ⟨0, ⟨id + 1, 1 + d1, d2, tn, r⟩⟩ = (l ++ [⟨0, ⟨id + 1, 1 + d1, d2, tn, r⟩⟩], 0) := by unfold apn; rw [if_pos (chk_V HLI.out.v), if_pos hnx]
              have HR := rappend_any l ⟨0, ⟨id + 1, 1 + d1, d2, tn, r⟩⟩ A c _ hFz.rd HLc.out
              rw [HA] at HR
              have HL2 : Hid (LI (l ++ [⟨0, ⟨id + 1, 1 + d1, d2, tn, r⟩⟩]) (i + 1) (id + 1) tn) := LI.add HLI.out b0 b1 hnx rfl rfl ⟨by show 1 ≤ 1 + d1; omega, by show 1 + d1 ≤ 6; omega⟩
              have HRR := Lib.hid HR
              clear HR HA hnx hen
              refine HRR.out.mono ?_
              rintro e w9 ⟨A9, c9, rfl, hc9, hr9, ha9, hb9⟩
              have hN9 := hNz.old hb9
              have hF9 : FS w w9 tp A9 (l ++ [⟨0, ⟨id + 1, 1 + d1, d2, tn, r⟩⟩]) := ⟨hr9, hFz.di.old hb9, gb_below hFz.gb hb9, fun a ha => ⟨Nat.le_trans hFz.gb.size (ha9 a ha).1, (ha9 a ha).2⟩, hFz.ht⟩
              clear n0 n1 n2 n3 n4 n5 nl
              clear HRR hb9 hNz hFz hr9 ha9
              have n0 := hN9.cell 0
              have n1 := hN9.cell 1
              have n2 := hN9.cell 2
              have n3 := hN9.cell 3
              have n4 := hN9.cell 4
              have n5 := hN9.cell 5
              have nl := hN9.lt
              go_wp2_with fail
              go_roundw
              case rel => exact ⟨i + 1, l ++ [⟨0, ⟨id + 1, 1 + d1, d2, tn, r⟩⟩], A9, c9, (id + 1), tn, by omega, by go_num, by rw [List.length_append] <;> rfl, rfl, rfl, hc9, HL2.out, hF9⟩
              case measure => simp [RowKit.intOf]; omega
            · have HA : apn l ⟨0, ⟨id + 1, 1 + d1, d2, tn, r⟩⟩ = ([], nxt l ⟨0, ⟨id + 1, 1 + d1, d2, tn, r⟩⟩) := by unfold apn; rw [if_pos (chk_V HLI.out.v), if_neg hnx]
              have HR := rappend_any l ⟨0, ⟨id + 1, 1 + d1, d2, tn, r⟩⟩ A c _ hFz.rd HLc.out
              rw [HA] at HR
              have HL2 : Hid (LI l (i + 1) id tn) := LI.skip HLI.out b0 b1
              have zz : (nxt l ⟨0, ⟨id + 1, 1 + d1, d2, tn, r⟩⟩ == 0) = false := beq_eq_false_iff_ne.2 hnx
              have HRR := Lib.hid HR
              clear HR HA hnx hen
              refine HRR.out.mono ?_
              rintro e w9 ⟨A9, c9, rfl, hc9, hr9, ha9, hb9⟩
              have hF9 := hFz.old hb9
              clear n0 n1 n2 n3 n4 n5 nl
              clear HRR hb9 hNz hFz hr9 ha9
              go_wp2_with fail
              go_roundw
              case rel => exact ⟨i + 1, l, A, c, id, tn, by omega, by go_num, rfl, rfl, rfl, HLc.out, HL2.out, hF9⟩
              case measure => simp [RowKit.intOf]; omega
    · have hil : i = n := by omega
      have HX : Hid (LI l n id tm) := by rw [← hil]; exact HLI.out
      clear hil hlc hLI
      go_wp2_with fail
      go_ret
      exact ⟨l, A, c, id, tm, rfl, HLc.out, HX.out, hF⟩
end Go.Proofs.YtdikoffppjoomaaGreat.Ct
