/- Walks: the first word of a digest of numbers; challenges: of the program and of the reference. -/
import Derived.Test.YtdikoffppjoomaaGreatSA
import Derived.WalkKit
import Derived.WalkSpells
import Derived.WalkLawsBesides
import Derived.Deep.QuietTactic
import Derived.BigQuiet
import Derived.Deep.Draws
import Derived.Deep.AppendLies
import Derived.Laws.OwnMore
import Derived.Laws.BytesArg
import Derived.Lib.Hide
import Derived.Deep.LoopGhost
import Derived.OwnWalk
import Derived.Maps.AppendAt
namespace Go.Proofs.YtdikoffppjoomaaGreat.Sg
open Go.RowKit Go.Proofs.YtdikoffppjoomaaGreat.Dg
open Go.Proofs.YtdikoffppjoomaaGreat.Mw (I64 ret_int ret_bool Bk bl_trans own_ints)
set_option linter.unusedVariables false
set_option linter.unusedSimpArgs false

theorem infoInt : (Tryz.prog.info? 3).map (fun i => (i.zero, i.size, i.bytes)) = some (some (.int .i64 0), 1, 8) := by kernel_rfl
/-- The words of a digest. -/
def dl (d : St) : List Int := [d.1, d.2.1, d.2.2.1, d.2.2.2]
theorem dl_take (d : St) (k : Nat) (h : k < 4) : (dl d).take (k + 1) = (dl d).take k ++ [wrd d k] := by
  have : k = 0 ∨ k = 1 ∨ k = 2 ∨ k = 3 := by omega
  rcases this with h | h | h | h <;> subst h <;> rfl
/-- A digest's words are words. -/
def Wd (d : St) : Prop := (0 ≤ d.1 ∧ d.1 < 4294967296) ∧ (0 ≤ d.2.1 ∧ d.2.1 < 4294967296) ∧ (0 ≤ d.2.2.1 ∧ d.2.2.1 < 4294967296) ∧ (0 ≤ d.2.2.2 ∧ d.2.2.2 < 4294967296)
theorem Wd.at {d : St} (h : Wd d) (k : Nat) : 0 ≤ wrd d k ∧ wrd d k < 4294967296 := by
  obtain ⟨h0, h1, h2, h3⟩ := h
  unfold wrd
  split
  · exact h0
  split
  · exact h1
  split
  · exact h2
  · exact h3
/-- Numbers, and the first k words of d. -/
def app (l : List Int) (d : St) (k : Nat) : List Int := l ++ (dl d).take k
theorem app_zero (l : List Int) (d : St) : app l d 0 = l := by simp [app]
theorem app_succ (l : List Int) (d : St) (k : Nat) (h : k < 4) : app l d (k + 1) = app l d k ++ [wrd d k] := by
  unfold app; rw [dl_take d k h, List.append_assoc]
theorem app_len (l : List Int) (d : St) (k : Nat) (h : k ≤ 4) : (app l d k).length = l.length + k := by
  unfold app; simp [dl]; omega
/-- The first word of the digest of numbers and the words of d. -/
noncomputable def fst0 (tag : Int) (l : List Int) (d : St) : Int := (words tag (nw (app l d 4) (app l d 4).length)).1
theorem perm_bd (s : St) : 0 ≤ (perm s).1 ∧ (perm s).1 < 4294967296 := by
  rw [perm_eq]
  show 0 ≤ add32 _ _ ∧ add32 _ _ < 4294967296
  unfold add32
  omega
theorem words_bd (tag : Int) (l : List Int) : 0 ≤ (words tag l).1 ∧ (words tag l).1 < 4294967296 := perm_bd _
theorem fst_bd (tag : Int) (l : List Int) (d : St) : 0 ≤ fst0 tag l d ∧ fst0 tag l d < 4294967296 := words_bd _ _
theorem bk_owns {w : World} {g base : Nat} {kd : IntKind} {T : TypeId} {l : List Int} {cs : Array Value} {n : Nat} (h : Bk w g T cs) (hcs : cs = (l.map (Value.int kd)).toArray) (hl : l.length ≤ maxLen) (hb : base ≤ g) (hn : n = l.length) :
    w.ownsRow base T 1 (.slice (some ⟨g, 0, none⟩) n n) n (l.map (Value.int kd)) := by
  subst hcs hn
  exact ⟨by simp, .inr ⟨g, _, _, rfl, hb, h, Nat.le_refl _, hl, by simp, by rw [Nat.mul_one]; exact List.take_of_length_le (by simp)⟩⟩
theorem one_new (W : World) (v : Value) (T : TypeId) : ∀ j u, [v][j]? = some u → (W.alloc (.cells #[v] T)).cell? ((⟨W.heap.size, 0, none⟩ : Addr).add j) = some u := cell_one_new _ _ _
set_option maxHeartbeats 1000000 in
theorem first_any (tag : Int) (d : St) (v : Value) (l : List Int) (B : Nat) (w : World) (hl : l.length ≤ 100) (hB : B ≤ w.heap.size) (hd : Wd d) (hown : w.ownsRow B 3 1 v l.length (l.map (Value.int .i64))) :
    Calls Tryz.prog 92 #[.int .u32 tag, dv d, v] w fun e w' => e = .returned (.int .i64 (fst0 tag l d)) ∧ Below B w w' := by
  obtain ⟨i0, hi, hz0, hz1, hz2⟩ := info_parts infoInt
  have Hd := Lib.hid hd
  clear hd
  go_enter Tryz.func92, Tryz.ntmps92
  go_wp2_with fail
  go_loopw [2, 10] (fun v j wr => ∃ k : Nat, k ≤ 4 ∧ j = .int .i64 k ∧ wr.ownsRow B 3 1 v (l.length + k) ((app l d k).map (Value.int .i64)) ∧ w.heap.size ≤ wr.heap.size ∧ Below B w wr) (fun _ j _ => 4 - (intOf j).toNat)
  case atStart => exact ⟨0, by omega, rfl, by rw [app_zero]; exact hown.alloc _, by simp, (Below.refl _ _).alloc hB _⟩
  case round =>
    clear hown
    obtain ⟨k, hk, rfl, hown, hsz, hb⟩ := hrel
    by_cases hlt : k < 4
    · have hix := index4 d k hlt
      have hbk : decide ((k : Int) < 4) = true := decide_eq_true (by omega)
      obtain ⟨e0, e1⟩ := Hd.out.at k
      go_wp2_with (at_builtin; refine wpList_append_own _ rfl _ _ 22 rfl B 3 i0 (.int .i64 0) 1 8 Tryz.underlying22 hi hz0 hz1 hz2 rfl (by decide) _ _ _ rfl (hown.alloc _) ⟨wr.heap.size, 0, none⟩ 1 1 [_] rfl rfl (cell_one_new _ _ _) ?c2 ?c3 ?c4 ?c5 ?_)
      case c2 => simp [Value.oneCell']
      case c3 => simp only [maxLen]; omega
      case c4 => omega
      case c5 => simp; omega
      intro v' w1 hown' hgrow _
      have hb1 : Below B w w1 := (hb.alloc (by omega) _).grown hgrow (by simp; omega) (fun j hj => (hown.lt j hj).1)
      have hown1 : w1.ownsRow B 3 1 v' (l.length + (k + 1)) ((app l d (k + 1)).map (Value.int .i64)) := by
        rw [app_succ l d k hlt, List.map_append]
        exact hown'
      have hsz1 : w.heap.size ≤ w1.heap.size := by have := hgrow.size; simp at this; omega
      clear hown' hgrow hown hb
      go_wp2_with fail
      go_roundw
      case rel => exact ⟨k + 1, by omega, by go_num, hown1, hsz1, hb1⟩
      case measure => simp [intOf]; omega
    · obtain rfl : k = 4 := by omega
      obtain ⟨A, c, rfl, hr, _⟩ := own_ints hown
      have hr' : Rd wr wr.heap.size .i64 A (app l d 4) := hr
      have hbd := fst_bd tag l d
      have hlen : (app l d 4).length < 1000000 := by rw [app_len l d 4 (by omega)]; omega
      clear hown hr
      go_wp2_with fail
      refine (numbers_any tag A c (app l d 4) _ hlen hr').mono ?_
      rintro e w2 ⟨rfl, hb2⟩
      have Hf : Hid ((words tag (nw (app l d 4) (app l d 4).length)).1 = fst0 tag l d) := rfl
      have hbc : 0 ≤ (words tag (nw (app l d 4) (app l d 4).length)).1 ∧ (words tag (nw (app l d 4) (app l d 4).length)).1 < 4294967296 := words_bd _ _
      obtain ⟨hc0, hc1⟩ := hbc
      have hix := index4_0 (words tag (nw (app l d 4) (app l d 4).length))
      clear hr'
      go_wp2_with fail
      go_ret
      exact ⟨ret_int Hf.out, hb.trans (hb2.mono (by omega))⟩

set_option maxHeartbeats 1000000 in
theorem rnums_any (d : St) (v : Value) (l : List Int) (B : Nat) (w : World) (hl : l.length ≤ 100) (hB : B ≤ w.heap.size) (hd : Wd d) (hown : w.ownsRow B 3 1 v l.length (l.map (Value.int .i64))) :
    Calls Tryz.prog 107 #[dv d, v] w fun e w' => ∃ A c, e = .returned (.slice A (app l d 4).length c) ∧ Rd w' w'.heap.size .i64 A (app l d 4) ∧ w.heap.size ≤ w'.heap.size ∧ Below B w w' := by
  obtain ⟨i0, hi, hz0, hz1, hz2⟩ := info_parts infoInt
  have Hd := Lib.hid hd
  clear hd
  go_enter Tryz.func107, Tryz.ntmps107
  go_wp2_with fail
  go_loopw [1, 5] (fun v j wr => ∃ k : Nat, k ≤ 4 ∧ j = .int .i64 k ∧ wr.ownsRow B 3 1 v (l.length + k) ((app l d k).map (Value.int .i64)) ∧ Bk wr w.heap.size 35 #[.int .u32 d.1, .int .u32 d.2.1, .int .u32 d.2.2.1, .int .u32 d.2.2.2] ∧ w.heap.size ≤ wr.heap.size ∧ (∀ j, v.ownBlock = some j → j ≠ w.heap.size) ∧ Below B w wr) (fun _ j _ => 4 - (intOf j).toNat)
  case atStart => exact ⟨0, by omega, rfl, by rw [app_zero]; exact hown.alloc _, by (repeat (first | ((with_reducible refine Mw.Bk.new' ?_); (first | rfl | (simp; done) | (simp; omega))) | with_reducible refine Mw.Bk.alloc ?_ _ | with_reducible refine Mw.Bk.drewN ?_ _ | with_reducible refine Mw.Bk.drew ?_ | with_reducible assumption)), by simp, fun j hj => by have := (hown.lt j hj).2; omega, (Below.refl _ _).alloc hB _⟩
  case round =>
    clear hown
    obtain ⟨k, hk, rfl, hown, hBk, hsz, hne, hb⟩ := hrel
    have Hne := Lib.hid hne
    clear hne
    by_cases hlt : k < 4
    · have hcw : wr.cell? ⟨w.heap.size, k, none⟩ = some (.int .u32 (wrd d k)) := by
        have : k = 0 ∨ k = 1 ∨ k = 2 ∨ k = 3 := by omega
        rcases this with h | h | h | h <;> subst h <;> exact hBk.cell _
      have hbk : decide ((k : Int) < 4) = true := decide_eq_true (by omega)
      obtain ⟨e0, e1⟩ := Hd.out.at k
      go_wp2_with (at_builtin; refine wpList_append_own_at _ rfl _ _ 22 rfl B 3 i0 (.int .i64 0) 1 8 Tryz.underlying22 hi hz0 hz1 hz2 rfl (by decide) _ _ _ rfl (hown.alloc _) ⟨wr.heap.size, 0, none⟩ 1 1 [_] rfl rfl (cell_one_new _ _ _) ?c2 ?c3 ?c4 ?c5 ?_)
      case c2 => simp [Value.oneCell']
      case c3 => simp only [maxLen]; omega
      case c4 => omega
      case c5 => simp; omega
      intro v' w1 hown' hgrow _ hat
      have hz := hBk.lt
      have hb1 : Below B w w1 := (hb.alloc (by omega) _).grown hgrow (by simp; omega) (fun j hj => (hown.lt j hj).1)
      have hown1 : w1.ownsRow B 3 1 v' (l.length + (k + 1)) ((app l d (k + 1)).map (Value.int .i64)) := by
        rw [app_succ l d k hlt, List.map_append]
        exact hown'
      have hB1 := (hBk.alloc (.cells #[.int .i64 (wrd d k)] 3)).grown hgrow (fun e => Hne.out _ e.symm rfl)
      have hsz1 : w.heap.size ≤ w1.heap.size := by have := hgrow.size; simp at this; omega
      have Hne1 : Hid (∀ j, v'.ownBlock = some j → j ≠ w.heap.size) := fun j hj => by
        rcases hat with h | h
        · exact Hne.out j (h.symm.trans hj)
        · have hj' := Option.some.inj (h.symm.trans hj)
          first | omega | (simp at hj'; omega)
      clear hown' hgrow hown hb hBk Hne hat
      go_wp2_with fail
      go_roundw
      case rel => exact ⟨k + 1, by omega, by go_num, hown1, hB1, hsz1, Hne1.out, hb1⟩
      case measure => simp [intOf]; omega
    · obtain rfl : k = 4 := by omega
      obtain ⟨A, c, rfl, hr, _⟩ := own_ints hown
      have hr' : Rd wr wr.heap.size .i64 A (app l d 4) := hr
      clear hown hr
      go_wp2_with fail
      go_ret
      exact ⟨A, c, rfl, hr', hsz, hb⟩

/-- A challenge. -/
noncomputable def chal (r p : Int) (d : St) : Int := fst0 3 [r, p] d % 1073741789
theorem chal_bd (r p : Int) (d : St) : 0 ≤ chal r p d ∧ chal r p d < 1073741789 := by unfold chal; omega
/-- A nonce. -/
noncomputable def non (s : Int) (d : St) : Int := 1 + fst0 4 [s] d % 1073741788
theorem non_bd (s : Int) (d : St) : 1 ≤ non s d ∧ non s d < 1073741789 := by unfold non; omega

set_option maxHeartbeats 400000 in
theorem chal_any (r p : Int) (d : St) (hd : Wd d) (w : World) :
    Calls Tryz.prog 93 #[.int .i64 r, .int .i64 p, dv d] w fun e w' => e = .returned (.int .i64 (chal r p d)) ∧ Below w.heap.size w w' := by
  have Hd := Lib.hid hd
  clear hd
  have hbd := fst_bd 3 [r, p] d
  go_enter Tryz.func93, Tryz.ntmps93
  go_wp2_with fail
  refine (first_any 3 d _ [r, p] (w.heap.size + 1) _ (by simp) (by simp) Hd.out (bk_owns (l := [r, p]) (cs := #[.int .i64 r, .int .i64 p]) (by (repeat (first | ((with_reducible refine Mw.Bk.new' ?_); (first | rfl | (simp; done) | (simp; omega))) | with_reducible refine Mw.Bk.alloc ?_ _ | with_reducible refine Mw.Bk.drewN ?_ _ | with_reducible refine Mw.Bk.drew ?_ | with_reducible assumption))) rfl (by simp [maxLen]) (by omega) rfl)).mono ?_
  rintro e w1 ⟨rfl, hb1⟩
  go_wp2_with fail
  go_ret
  exact ⟨rfl, Below.trans (by (repeat (first | with_reducible exact Below.refl _ _ | with_reducible refine bl_drewN ?_ _ | with_reducible refine Below.drew ?_ | with_reducible refine bl_alloc ?_ _ | with_reducible refine Below.alloc ?_ (by first | omega | (simp; done) | (simp; omega)) _ | with_reducible refine Below.setCell ?_ (by first | omega | (simp; done) | (simp; omega)) _ | with_reducible assumption))) (hb1.mono (by omega))⟩
theorem rfirst_any (d : St) (h0 : 0 ≤ d.1) (h1 : d.1 < 4294967296) (w : World) :
    Calls Tryz.prog 106 #[dv d] w fun e w' => e = .returned (.int .i64 d.1) ∧ Below w.heap.size w w' := by
  go_enter Tryz.func106, Tryz.ntmps106
  go_wp2_with fail
  go_ret
  exact ⟨rfl, by (repeat (first | with_reducible exact Below.refl _ _ | with_reducible refine bl_drewN ?_ _ | with_reducible refine Below.drew ?_ | with_reducible refine bl_alloc ?_ _ | with_reducible refine Below.alloc ?_ (by first | omega | (simp; done) | (simp; omega)) _ | with_reducible refine Below.setCell ?_ (by first | omega | (simp; done) | (simp; omega)) _ | with_reducible assumption))⟩
set_option maxHeartbeats 400000 in
theorem rchal_any (r p : Int) (d : St) (hd : Wd d) (w : World) :
    Calls Tryz.prog 99 #[.int .i64 r, .int .i64 p, dv d] w fun e w' => e = .returned (.int .i64 (chal r p d)) ∧ Below w.heap.size w w' := by
  have Hd := Lib.hid hd
  clear hd
  have hbd := fst_bd 3 [r, p] d
  have Hl : Hid ((app [r, p] d 4).length < 1000000) := by unfold Hid; rw [app_len _ _ _ (by omega)]; simp
  go_enter Tryz.func99, Tryz.ntmps99
  go_wp2_with fail
  refine (rnums_any d _ [r, p] (w.heap.size + 1) _ (by simp) (by simp) Hd.out (bk_owns (l := [r, p]) (cs := #[.int .i64 r, .int .i64 p]) (by (repeat (first | ((with_reducible refine Mw.Bk.new' ?_); (first | rfl | (simp; done) | (simp; omega))) | with_reducible refine Mw.Bk.alloc ?_ _ | with_reducible refine Mw.Bk.drewN ?_ _ | with_reducible refine Mw.Bk.drew ?_ | with_reducible assumption))) rfl (by simp [maxLen]) (by omega) rfl)).mono ?_
  rintro e w1 ⟨A, c, rfl, hr1, hs1, hb1⟩
  go_wp2_with fail
  refine (rnumbers_any 3 A c (app [r, p] d 4) _ Hl.out hr1).mono ?_
  rintro e w2 ⟨rfl, hb2⟩
  go_wp2_with fail
  refine (rfirst_any _ (words_bd _ _).1 (words_bd _ _).2 _).mono ?_
  rintro e w3 ⟨rfl, hb3⟩
  have Hf : Hid ((words 3 (nw (app [r, p] d 4) (app [r, p] d 4).length)).1 = fst0 3 [r, p] d) := rfl
  rw [Hf.out]
  go_wp2_with fail
  go_ret
  simp at hs1
  have hb4 := hb1.trans (bl_trans hb2 hb3 |>.mono (by omega))
  exact ⟨rfl, Below.trans (by (repeat (first | with_reducible exact Below.refl _ _ | with_reducible refine bl_drewN ?_ _ | with_reducible refine Below.drew ?_ | with_reducible refine bl_alloc ?_ _ | with_reducible refine Below.alloc ?_ (by first | omega | (simp; done) | (simp; omega)) _ | with_reducible refine Below.setCell ?_ (by first | omega | (simp; done) | (simp; omega)) _ | with_reducible assumption))) (hb4.mono (by omega))⟩
end Go.Proofs.YtdikoffppjoomaaGreat.Sg
