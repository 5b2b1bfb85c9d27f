/- Walks: rooms and needs off the tape. -/
import Derived.Test.YtcidpgjeddogmaaWG
import Derived.WalkKit
import Derived.WalkSpells
import Derived.WalkLawsBesides
import Derived.Deep.QuietTactic
import Derived.BigQuiet
import Derived.Deep.Draws
import Derived.Deep.AppendLies
import Derived.Laws.OwnMore
import Derived.Laws.BytesArg
import Derived.Lib.Hide
import Derived.Deep.LoopGhost
namespace Go.Proofs.Ytcidpgjeddogmaa.Pl
open Go.RowKit
open Go.Proofs.Ytcidpgjeddogmaa.Mw
open Go.Proofs.Ytcidpgjeddogmaa.St
open Go.Proofs.Ytcidpgjeddogmaa.Tm (cut_any Tp TI TB next_any range_any one_any pick_any pickl)
set_option linter.unusedVariables false
set_option linter.unusedSimpArgs false

theorem tp_low {w w' : World} {tp B : Nat} (h : Tp w tp) (hb : Below B w w') (hB : tp < B) : Tp w' tp := by
  obtain ⟨A, c, l, k, hK, h1, h2, h3, h4, h5⟩ := h
  refine ⟨A, c, l, k, hK.below hb hB, h1, h2, h3, ?_, h5⟩
  rcases h5 with h5 | ⟨b, off, rfl, hlt⟩
  · subst h5; exact RdI.nil _ _ _
  · intro i hi
    obtain ⟨b', off', e, hl, hc⟩ := h4 i hi
    cases e
    exact ⟨b, off, rfl, Nat.lt_of_lt_of_le hl hb.size, (hb.cell (p := ⟨b, off + i, none⟩) (show b < B by omega)).trans hc⟩
/-- A row of the call's own beside the tape. -/
structure RT (T : TypeId) (sz : Nat) (w0 : World) (tp : Nat) (w : World) (v : Value) (n : Nat) (xs : List Value) : Prop where
  own : w.ownsRow w0.heap.size T sz v n xs
  tape : Tp w tp
  gb : w0.grownBy w (some tp)
  lt : tp < w0.heap.size
section
variable {T : TypeId} {sz tp n : Nat} {w0 w w' : World} {v : Value} {xs : List Value}
theorem RT.new (w : World) (h : Tp w tp) : RT T sz w tp w (.slice none 0 0) 0 [] := ⟨World.ownsRow_nil _ _ _ _, h, gb_refl _ _, h.lt⟩
theorem RT.turn (h : RT T sz w0 tp w v n xs) (ht : Tp w' tp) (hg : w.grownBy w' (some tp)) : RT T sz w0 tp w' v n xs :=
  ⟨h.own.kept hg (.inr fun e => by have := h.own.lt tp e; have := h.lt; omega), ht, gb_trans h.gb hg, h.lt⟩
theorem RT.alloc (h : RT T sz w0 tp w v n xs) (o : Obj) : RT T sz w0 tp (w.alloc o) v n xs :=
  ⟨own_old h.own ((Below.refl _ _).alloc (Nat.le_refl _) o), h.tape.alloc o, gb_alloc h.gb o, h.lt⟩
theorem RT.far (h : RT T sz w0 tp w v n xs) {p : Addr} (hp : w0.heap.size ≤ p.block) (hv : v.ownBlock ≠ some p.block) (u : Value) : RT T sz w0 tp (w.setCell p u) v n xs :=
  ⟨h.own.kept (row := some p.block) (gb_set (gb_refl _ _) (.inl rfl) u) (.inr hv), h.tape.far (by have := h.lt; omega) u, gb_set h.gb (.inr hp) u, h.lt⟩
theorem RT.add {n' : Nat} {v' : Value} {ys : List Value} (h : RT T sz w0 tp w v n xs) (ho : w'.ownsRow w0.heap.size T sz v' n' ys) (hg : w.grownBy w' v.ownBlock) : RT T sz w0 tp w' v' n' ys := by
  have hb : Below w0.heap.size w w' := (Below.refl _ w).grown hg h.gb.size fun q hq => (h.own.lt q hq).1
  refine ⟨ho, tp_low h.tape hb h.lt, gb_grown h.gb hg fun q hq => (h.own.lt q hq).1, h.lt⟩
end
/-- A list of rooms in new memory; the tape alone has turned. -/
def TRm (n : Int) (tp : Nat) (w : World) (e : Ending) (w' : World) : Prop := ∃ (l : List Rm) (A : Option Addr) (c : Nat), e = .returned (.slice A l.length c) ∧ l.length ≤ 5 ∧ l.length ≤ c ∧ (n = 0 → ∀ r, r ∈ l → rmB r = true ∧ cfB r = true) ∧ RdRm w' A l ∧ (∀ a, A = some a → w.heap.size ≤ a.block) ∧ Tp w' tp ∧ w.grownBy w' (some tp)
theorem good_1 {a b c : Int} (h1 : 1 ≤ a ∧ a ≤ 2) (h2 : 1 ≤ b ∧ b ≤ 3) (h3 : c ∈ ([0, 2, 4, 6, 8, 62] : List Int)) : rmB ⟨a, b, c⟩ = true ∧ cfB ⟨a, b, c⟩ = true := by
  have h4 : (0 ≤ c ∧ c ≤ 63) ∧ sep c = false := by
    simp at h3
    rcases h3 with rfl | rfl | rfl | rfl | rfl | rfl <;> exact ⟨by omega, by decide⟩
  refine ⟨(rmB_iff _).2 ⟨by show 1 ≤ a ∧ a ≤ 8; omega, by show 1 ≤ b ∧ b ≤ 8; omega, h4.1⟩, cfB_s h4.2⟩
theorem good_2 {c : Int} (h3 : c ∈ ([1, 3, 63, 9] : List Int)) : rmB ⟨1, 1, c⟩ = true ∧ cfB ⟨1, 1, c⟩ = true := by
  have h4 : 0 ≤ c ∧ c ≤ 63 := by
    simp at h3
    omega
  exact ⟨(rmB_iff _).2 ⟨by show (1 : Int) ≤ 1 ∧ (1 : Int) ≤ 8; omega, by show (1 : Int) ≤ 1 ∧ (1 : Int) ≤ 8; omega, h4⟩, cfB_1 rfl⟩
set_option maxHeartbeats 4000000 in
theorem rooms_any (tp : Nat) (n : Int) (w : World) (ht : Tp w tp) (hn : n = 0 ∨ n = 3 ∨ n = 12) : Calls Try.prog 15 #[.pointer (some ⟨tp, 0, none⟩), .int .i64 n] w (TRm n tp w) := by
  have h0 := RT.new (T := 35) (sz := 3) w ht
  go_enter Try.func15, Try.ntmps15
  go_wp2_with fail
  refine (next_any tp 5 w ht (by omega) (by omega)).mono ?_
  rintro e w1 ⟨x, ⟨x0, x1⟩, rfl, ht1, hg1⟩
  have h1 := h0.turn ht1 hg1
  obtain ⟨K, rfl⟩ := Int.eq_ofNat_of_zero_le x0
  have hK : K ≤ 4 := by omega
  clear h0 ht1 hg1 x0 x1
  go_wp2_with fail
  go_loopw [5, 6] (fun v i wr => ∃ (k : Nat) (l : List Rm), i = .int .i64 k ∧ l.length + k = K ∧ Hid (∀ r, r ∈ l → rmB r = true ∧ cfB r = true) ∧ RT 35 3 w tp wr v l.length (l.flatMap rml)) (fun _ i _ => (intOf i).toNat)
  case atStart => exact ⟨K, [], rfl, by simp, fun r hr => (by cases hr), h1⟩
  case round =>
    clear h1
    obtain ⟨k, l, rfl, hlk, hgood, hR⟩ := hrel
    have Hlk := Lib.hid hlk
    have hl4 : l.length ≤ 4 := by omega
    have hk4 : k ≤ 4 := by omega
    clear hlk
    by_cases hk : 0 < k
    · have hk' : (0 : Int) < k := by omega
      have hw1 : IntKind.i64.wrap ((k : Int) - 1) = (k : Int) - 1 := IntWalk.i64_in _ (by omega)
      go_wp2_with fail
      refine (range_any tp 1 2 _ hR.tape (by omega) (by omega) (by omega)).mono ?_
      rintro e w2 ⟨a, ha, rfl, ht2, hg2⟩
      have hR2 := hR.turn ht2 hg2
      clear hR ht2 hg2
      go_wp2_with fail
      refine (range_any tp 1 3 _ hR2.tape (by omega) (by omega) (by omega)).mono ?_
      rintro e w3 ⟨b, hb, rfl, ht3, hg3⟩
      have hR3 := hR2.turn ht3 hg3
      clear hR2 ht3 hg3
      go_wp2_with fail
      refine (pickl tp [0, 2, 4, 6, 8, 62] 6 w3 hR3.tape _ 3 rfl (by decide) (by decide)).mono ?_
      rintro e w4 ⟨c, hc, rfl, ht4, hg4⟩
      have hR4 := (hR3.alloc (.cells #[.int .i64 0, .int .i64 2, .int .i64 4, .int .i64 6, .int .i64 8, .int .i64 62] 3)).turn ht4 hg4
      have HG1 := Lib.hid (good_1 ha hb hc)
      clear hR3 ht4 hg4 ha hb hc
      have hR5 := hR4.alloc (.cells #[.int .i64 a, .int .i64 b, .int .i64 c] 35)
      have hB5 := Bk.new w4 35 #[.int .i64 a, .int .i64 b, .int .i64 c]
      have hob := hR4.own.lt
      go_wp2_with fail
      refine (one_any tp 3 _ hR5.tape (by omega) (by omega)).mono ?_
      rintro e w6 ⟨bx, rfl, ht6, hg6⟩
      have hR6 := hR5.turn ht6 hg6
      have hB6 := hB5.kept hg6 (by have := hR4.gb.size; have := hR4.lt; omega)
      have hG0 : w.heap.size ≤ w4.heap.size := hR4.gb.size
      have hG1 : tp < w4.heap.size := by have := hR4.lt; omega
      clear hR5 hB5 ht6 hg6 hR4
      generalize w4.heap.size = G at hB6 hob hG0 hG1 ⊢
      cases bx
      · have c0 : w6.cell? ⟨G, 0, none⟩ = some (.int .i64 a) := hB6.cell 0
        have c1 : w6.cell? ⟨G, 1, none⟩ = some (.int .i64 b) := hB6.cell 1
        have c2 : w6.cell? ⟨G, 2, none⟩ = some (.int .i64 c) := hB6.cell 2
        have j0 := hB6.lt
        have hR7 := hR6.alloc (.cells #[.int .i64 a, .int .i64 b, .int .i64 c] 35)
        obtain ⟨v2, w8, hrun, hown2, hg8⟩ := app_room (r := ⟨a, b, c⟩) (g := w6.heap.size) hR7.own (Bk.new _ _ _) (by omega) hR7.gb.size
        have hR8 := hR7.add hown2 hg8
        have hgd : Hid (∀ r, r ∈ l ++ [(⟨a, b, c⟩ : Rm)] → rmB r = true ∧ cfB r = true) := fun r hr => by
          rcases List.mem_append.1 hr with hr | hr
          · exact hgood.out r hr
          · have : r = ⟨a, b, c⟩ := by simpa using hr
            subst this; exact HG1.out
        clear hR7 hown2 hg8 hR6 hB6
        go_wp2_with (at_builtin; refine wpList_append_run rfl (.tmp 28) (.tmp 30) 25 rfl _ (.slice (some ⟨w6.heap.size, 0, none⟩) 1 1) rfl rfl v2 w8 (by exact hrun) ?_)
        go_roundw
        case rel => exact ⟨k - 1, l ++ [⟨a, b, c⟩], by rw [show ((k - 1 : Nat) : Int) = (k : Int) - 1 by omega], by have := Hlk.out; simp; omega, hgd, hR8⟩
        case measure => simp [intOf]; omega
      · go_wp2_with fail
        refine (pickl tp [1, 3, 63, 9] 4 w6 hR6.tape _ 3 rfl (by decide) (by decide)).mono ?_
        rintro e w7 ⟨c', hc', rfl, ht7, hg7⟩
        have hR7 := (hR6.alloc (.cells #[.int .i64 1, .int .i64 3, .int .i64 63, .int .i64 9] 3)).turn ht7 hg7
        have hB7 := (hB6.alloc (.cells #[.int .i64 1, .int .i64 3, .int .i64 63, .int .i64 9] 3)).kept hg7 (by omega)
        have HG2 := Lib.hid (good_2 hc')
        have hvG := fun e => (absurd (hob G e).2 (Nat.lt_irrefl _) : False)
        have c0 : w7.cell? ⟨G, 0, none⟩ = some (.int .i64 a) := hB7.cell 0
        have c1 : w7.cell? ⟨G, 1, none⟩ = some (.int .i64 b) := hB7.cell 1
        have c2 : w7.cell? ⟨G, 2, none⟩ = some (.int .i64 c) := hB7.cell 2
        have z0 := hB7.frozen 0
        have z1 := hB7.frozen 1
        have z2 := hB7.frozen 2
        have j0 := hB7.lt
        have hR8 := ((hR7.far (p := ⟨G, 0, none⟩) hG0 hvG (.int .i64 1)).far (p := ⟨G, 1, none⟩) hG0 hvG (.int .i64 1)).far (p := ⟨G, 2, none⟩) hG0 hvG (.int .i64 c')
        have hB8 : Bk (((w7.setCell ⟨G, 0, none⟩ (.int .i64 1)).setCell ⟨G, 1, none⟩ (.int .i64 1)).setCell ⟨G, 2, none⟩ (.int .i64 c')) G 35 #[.int .i64 1, .int .i64 1, .int .i64 c'] := ((hB7.set 0 _).set 1 _).set 2 _
        clear hR6 hB6 hg7 ht7 hc' hR7
        go_upto_region 8 with fail
        generalize (((w7.setCell ⟨G, 0, none⟩ (.int .i64 1)).setCell ⟨G, 1, none⟩ (.int .i64 1)).setCell ⟨G, 2, none⟩ (.int .i64 c')) = w8 at hR8 hB8 ⊢
        clear hB7 c0 c1 c2 z0 z1 z2 j0
        have c0 : w8.cell? ⟨G, 0, none⟩ = some (.int .i64 1) := hB8.cell 0
        have c1 : w8.cell? ⟨G, 1, none⟩ = some (.int .i64 1) := hB8.cell 1
        have c2 : w8.cell? ⟨G, 2, none⟩ = some (.int .i64 c') := hB8.cell 2
        have j0 := hB8.lt
        have hR9 := hR8.alloc (.cells #[.int .i64 1, .int .i64 1, .int .i64 c'] 35)
        obtain ⟨v2, wa, hrun, hown2, hga⟩ := app_room (r := ⟨1, 1, c'⟩) (g := w8.heap.size) hR9.own (Bk.new _ _ _) (by omega) hR9.gb.size
        have hRa := hR9.add hown2 hga
        have hgd : Hid (∀ r, r ∈ l ++ [(⟨1, 1, c'⟩ : Rm)] → rmB r = true ∧ cfB r = true) := fun r hr => by
          rcases List.mem_append.1 hr with hr | hr
          · exact hgood.out r hr
          · have : r = ⟨1, 1, c'⟩ := by simpa using hr
            subst this; exact HG2.out
        clear hR8 hR9 hown2 hga hB8
        go_wp2_with (at_builtin; refine wpList_append_run rfl (.tmp 28) (.tmp 30) 25 rfl _ (.slice (some ⟨w8.heap.size, 0, none⟩) 1 1) rfl rfl v2 wa (by exact hrun) ?_)
        go_roundw
        case rel => exact ⟨k - 1, l ++ [⟨1, 1, c'⟩], by rw [show ((k - 1 : Nat) : Int) = (k : Int) - 1 by omega], by have := Hlk.out; simp; omega, hgd, hRa⟩
        case measure => simp [intOf]; omega
    · obtain rfl : k = 0 := by omega
      by_cases hn0 : n = 0
      · have t0 : decide ((0 : Int) < n) = false := decide_eq_false (by omega)
        obtain ⟨A, c, hv, hlc, hrd, ha⟩ := own_rows rml_len (by omega) hR.own
        have HV := Lib.hid hv
        have ht := hR.tape
        have hg := hR.gb
        clear hn0 hn hv hR
        go_wp2_with fail
        go_ret
        exact ⟨l, A, c, by rw [HV.out]; rfl, by omega, hlc, fun _ => hgood.out, hrd, fun a h => (ha a h).1, ht, hg⟩
      · have t0 : decide ((0 : Int) < n) = true := decide_eq_true (by omega)
        have n1 : 1 ≤ n := by omega
        have n2 : n ≤ 12 := by omega
        have Hn0 := Lib.hid hn0
        clear hn hn0
        go_wp2_with fail
        refine (one_any tp n _ hR.tape (by omega) (by omega)).mono ?_
        rintro e w2 ⟨bx, rfl, ht2, hg2⟩
        have hR2 := hR.turn ht2 hg2
        clear hR ht2 hg2
        cases bx
        · obtain ⟨A, c, hv, hlc, hrd, ha⟩ := own_rows rml_len (by omega) hR2.own
          have HV := Lib.hid hv
          have ht := hR2.tape
          have hg := hR2.gb
          clear hv hR2
          go_wp2_with fail
          go_ret
          exact ⟨l, A, c, by rw [HV.out]; rfl, by omega, hlc, fun h => absurd h Hn0.out, hrd, fun a h => (ha a h).1, ht, hg⟩
        · go_wp2_with fail
          refine (range_any tp 0 9 _ hR2.tape (by omega) (by omega) (by omega)).mono ?_
          rintro e w3 ⟨a, ha, rfl, ht3, hg3⟩
          have hR3 := hR2.turn ht3 hg3
          clear hR2 ht3 hg3
          go_wp2_with fail
          refine (range_any tp 0 9 _ hR3.tape (by omega) (by omega) (by omega)).mono ?_
          rintro e w4 ⟨b, hb, rfl, ht4, hg4⟩
          have hR4 := hR3.turn ht4 hg4
          clear hR3 ht4 hg4
          go_wp2_with fail
          refine (pickl tp [-1, 1, 64, 0] 4 w4 hR4.tape _ 3 rfl (by decide) (by decide)).mono ?_
          rintro e w5 ⟨c, hc, rfl, ht5, hg5⟩
          have hR5 := (hR4.alloc (.cells #[.int .i64 (-1), .int .i64 1, .int .i64 64, .int .i64 0] 3)).turn ht5 hg5
          clear hR4 ht5 hg5 ha hb hc
          have hR6 := hR5.alloc (.cells #[.int .i64 a, .int .i64 b, .int .i64 c] 35)
          obtain ⟨v2, w7, hrun, hown2, hg7⟩ := app_room (r := ⟨a, b, c⟩) (g := w5.heap.size) hR6.own (Bk.new _ _ _) (by omega) hR6.gb.size
          have hR7 := hR6.add hown2 hg7
          obtain ⟨A, c8, hv, hlc, hrd, ha⟩ := own_rows rml_len (by omega) hR7.own
          have HV := Lib.hid hv
          have ht := hR7.tape
          have hg := hR7.gb
          clear hR5 hR6 hown2 hg7 hv hR7
          go_wp2_with (at_builtin; refine wpList_append_run rfl (.tmp 39) (.tmp 48) 25 rfl _ (.slice (some ⟨w5.heap.size, 0, none⟩) 1 1) rfl rfl v2 w7 (by exact hrun) ?_)
          go_ret
          exact ⟨l ++ [⟨a, b, c⟩], A, c8, by rw [← HV.out]; rfl, by simp; omega, hlc, fun h => absurd h Hn0.out, hrd, fun a h => (ha a h).1, ht, hg⟩
end Go.Proofs.Ytcidpgjeddogmaa.Pl
