/- Walks: Has, Contains, Enemy. -/
import Derived.Test.YthjaomnmgggjbaaTG
import Derived.Test.YthjaomnmgggjbaaRQ
import Derived.WalkKit
import Derived.WalkSpells
import Derived.WalkLawsBesides
import Derived.Deep.QuietTactic
import Derived.BigQuiet
import Derived.Deep.Draws
import Derived.Deep.AppendLies
import Derived.Laws.OwnMore
import Derived.Laws.BytesArg
import Derived.Lib.Hide
import Derived.Deep.LoopGhost
namespace Go.Proofs.Ythjaomnmgggjbaa.Tm
open Go.RowKit Go.Proofs.Ythjaomnmgggjbaa.Mw
open Go.Proofs.Ythjaomnmgggjbaa.Mm (RC)
set_option linter.unusedVariables false

/-- A number is in a list. -/
def hs (l : List Int) (v : Int) : Bool := decide (v ∈ l)
theorem hs_yes {l : List Int} {v : Int} {k : Nat} (hk : k < l.length) (h : gi l k = v) : hs l v = true := decide_eq_true (h ▸ gi_mem l k hk)
theorem hs_no {l : List Int} {v : Int} (h : ∀ j, j < l.length → gi l j ≠ v) : hs l v = false := decide_eq_false fun hm => by
  obtain ⟨j, hj⟩ := List.mem_iff_getElem?.1 hm
  have hlt : j < l.length := by
    rcases Nat.lt_or_ge j l.length with h1 | h1
    · exact h1
    · rw [List.getElem?_eq_none h1] at hj; cases hj
  rw [gi_lt l j hlt] at hj
  exact h j hlt (by simpa using hj)
/-- An index, or a negative number. -/
def SI (b : Bool) (w : World) (e : Ending) (w' : World) : Prop := ∃ n : Int, decide (0 ≤ n) = b ∧ e = .returned (.int .i64 n) ∧ w = w'
set_option maxHeartbeats 400000 in
theorem index_any (l : List Int) (A : Option Addr) (c : Nat) (v : Int) (w : World) (hl : l.length ≤ 1000000) (hr : RdI w .i64 A l) :
    Calls Try.prog 48 #[.slice A l.length c, .int .i64 v] w (SI (hs l v) w) := by
  have HR := Lib.hid hr
  clear hr
  go_enter Try.func48, Try.ntmps48
  go_wp2_with fail
  go_loop [8] (fun i => ∃ k : Nat, k ≤ l.length ∧ i = .int .i64 k ∧ Hid (∀ j, j < k → gi l j ≠ v)) (fun i => l.length - (intOf i).toNat)
  case atStart => exact ⟨0, by omega, rfl, fun j hj => absurd hj (by omega)⟩
  case round =>
    obtain ⟨k, hk, rfl, hn⟩ := hrel
    by_cases hlt : k < l.length
    · obtain ⟨b, off, rfl, hbl, hc⟩ := HR.out k hlt
      have q0 : (0 : Int) ≤ (k : Int) := by omega
      have q1 : (k : Int) < (l.length : Int) := by omega
      by_cases he : gi l k = v
      · have Hh := Lib.hid (hs_yes hlt he)
        have t1 : (v == gi l k) = true := beq_iff_eq.2 he.symm
        clear he
        go_wp2_with fail
        go_ret
        exact ⟨(k : Int), by rw [Hh.out]; exact decide_eq_true q0, rfl, rfl⟩
      · have Hh := Lib.hid he
        have t1 : (v == gi l k) = false := beq_eq_false_iff_ne.2 (fun e => he e.symm)
        clear he
        go_wp2_with fail
        go_round
        case rel => exact ⟨k + 1, by omega, by go_num, fun j hj => by
          by_cases h1 : j < k
          · exact hn.out j h1
          · obtain rfl : j = k := by omega
            exact Hh.out⟩
        case measure => simp [intOf]; omega
    · have Hh : Hid (hs l v = false) := hs_no fun j hj => hn.out j (by omega)
      go_wp2_with fail
      go_ret
      exact ⟨-1, by rw [Hh.out]; rfl, rfl, rfl⟩
theorem contains_any (l : List Int) (A : Option Addr) (c : Nat) (v : Int) (w : World) (hl : l.length ≤ 1000000) (hr : RdI w .i64 A l) :
    Calls Try.prog 45 #[.slice A l.length c, .int .i64 v] w fun e w' => e = .returned (.bool (hs l v)) ∧ w = w' := by
  have HI := Lib.hid (index_any l A c v w hl hr)
  clear hr
  go_enter Try.func45, Try.ntmps45
  go_wp2_with fail
  refine HI.out.mono ?_
  rintro e w1 ⟨n, hn, rfl, rfl⟩
  have Hn := Lib.hid hn
  clear hn
  go_wp2_with fail
  go_ret
  exact ⟨ret_bool Hn.out, rfl⟩
set_option maxHeartbeats 400000 in
theorem has_any (l : List Int) (A : Option Addr) (c : Nat) (v : Int) (w : World) (hl : l.length ≤ 1000000) (hr : RdI w .i64 A l) :
    Calls Try.prog 46 #[.slice A l.length c, .int .i64 v] w fun e w' => e = .returned (.bool (hs l v)) ∧ w = w' := by
  have HR := Lib.hid hr
  clear hr
  go_enter Try.func46, Try.ntmps46
  go_wp2_with fail
  go_loop [5] (fun i => ∃ k : Nat, k ≤ l.length ∧ i = .int .i64 k ∧ Hid (∀ j, j < k → gi l j ≠ v)) (fun i => l.length - (intOf i).toNat)
  case atStart => exact ⟨0, by omega, rfl, fun j hj => absurd hj (by omega)⟩
  case round =>
    obtain ⟨k, hk, rfl, hn⟩ := hrel
    by_cases hlt : k < l.length
    · obtain ⟨b, off, rfl, hbl, hc⟩ := HR.out k hlt
      have q0 : (0 : Int) ≤ (k : Int) := by omega
      have q1 : (k : Int) < (l.length : Int) := by omega
      by_cases he : gi l k = v
      · have Hh := Lib.hid (hs_yes hlt he)
        have t1 : (gi l k == v) = true := beq_iff_eq.2 he
        clear he
        go_wp2_with fail
        go_ret
        exact ⟨ret_bool Hh.out.symm, rfl⟩
      · have Hh := Lib.hid he
        have t1 : (gi l k == v) = false := beq_eq_false_iff_ne.2 he
        clear he
        go_wp2_with fail
        go_round
        case rel => exact ⟨k + 1, by omega, by go_num, fun j hj => by
          by_cases h1 : j < k
          · exact hn.out j h1
          · obtain rfl : j = k := by omega
            exact Hh.out⟩
        case measure => simp [intOf]; omega
    · have Hh : Hid (hs l v = false) := hs_no fun j hj => hn.out j (by omega)
      go_wp2_with fail
      go_ret
      exact ⟨ret_bool Hh.out.symm, rfl⟩
/-- Two items are enemies. -/
def enm (x y : It) : Bool := chk x == 0 && chk y == 0 && x.id != y.id && (hs x.en y.id || hs y.en x.id)
theorem enm_comm (x y : It) : enm x y = enm y x := by
  unfold enm
  rw [Bool.and_comm (chk x == 0), Bool.or_comm (hs x.en y.id), bne_comm]
theorem enm_self (x : It) : enm x x = false := by unfold enm; simp
theorem en5 {w : World} {g : Nat} {T : TypeId} {a b c d e : Value} (h : Bk w g T #[a, b, c, d, e]) : (w.cell? ⟨g, 0, none⟩ = some a ∧ w.cell? ⟨g, 1, none⟩ = some b ∧ w.cell? ⟨g, 2, none⟩ = some c ∧ w.cell? ⟨g, 3, none⟩ = some d ∧ w.cell? ⟨g, 4, none⟩ = some e) ∧ True := ⟨⟨h.cell 0, h.cell 1, h.cell 2, h.cell 3, h.cell 4⟩, trivial⟩
set_option maxHeartbeats 2000000 in
theorem enemy_any (x y : It) (A : Option Addr) (c : Nat) (E : Option Addr) (d : Nat) (A' : Option Addr) (c' : Nat) (E' : Option Addr) (d' : Nat) (w : World) (hx : ItOk w x A E) (hy : ItOk w y A' E') :
    Calls Try.prog 27 #[iv x A c E d, iv y A' c' E' d'] w fun e w' => e = .returned (.bool (enm x y)) ∧ Below w.heap.size w w' := by
  have HC1 := Lib.hid (show ∀ W : World, Below w.heap.size w W → Calls Try.prog 19 #[iv x A c E d] W fun e w' => e = .returned (.int .i64 (chk x)) ∧ Below W.heap.size W w' from fun W hW => check_any x A c E d W (hx.old hW))
  have HC2 := Lib.hid (show ∀ W : World, Below w.heap.size w W → Calls Try.prog 19 #[iv y A' c' E' d'] W fun e w' => e = .returned (.int .i64 (chk y)) ∧ Below W.heap.size W w' from fun W hW => check_any y A' c' E' d' W (hy.old hW))
  have HI1 := Lib.hid (show ∀ W : World, Below w.heap.size w W → Calls Try.prog 45 #[.slice E x.en.length d, .int .i64 y.id] W fun e w' => e = .returned (.bool (hs x.en y.id)) ∧ W = w' from fun W hW => contains_any x.en E d y.id W hx.2.2.2.2 (hx.2.1.old hW))
  have HI2 := Lib.hid (show ∀ W : World, Below w.heap.size w W → Calls Try.prog 45 #[.slice E' y.en.length d', .int .i64 x.id] W fun e w' => e = .returned (.bool (hs y.en x.id)) ∧ W = w' from fun W hW => contains_any y.en E' d' x.id W hy.2.2.2.2 (hy.2.1.old hW))
  have hE : enm x y = (chk x == 0 && chk y == 0 && x.id != y.id && (hs x.en y.id || hs y.en x.id)) := rfl
  generalize chk x = a at HC1 hE
  generalize chk y = b at HC2 hE
  generalize hs x.en y.id = p at HI1 hE
  generalize hs y.en x.id = q at HI2 hE
  have He := Lib.hid hE
  clear hE hx hy
  go_enter Try.func27, Try.ntmps27
  go_wp2_with fail
  have hb0 : Below w.heap.size w ((w.alloc (.cells (itc x A c E d) 33)).alloc (.cells (itc y A' c' E' d') 33)) := by (repeat (first | with_reducible exact Below.refl _ _ | with_reducible refine bl_drewN ?_ _ | with_reducible refine Below.drew ?_ | with_reducible refine bl_alloc ?_ _ | with_reducible refine Below.alloc ?_ (by first | omega | (simp; done) | (simp; omega)) _ | with_reducible refine Below.setCell ?_ (by first | omega | (simp; done) | (simp; omega)) _ | with_reducible assumption))
  have B1 : Bk ((w.alloc (.cells (itc x A c E d) 33)).alloc (.cells (itc y A' c' E' d') 33)) w.heap.size 33 (itc x A c E d) := by (repeat (first | ((with_reducible refine Bk.new' ?_); (first | rfl | (simp; done) | (simp; omega))) | with_reducible refine Bk.alloc ?_ _ | with_reducible refine Bk.drewN ?_ _ | with_reducible refine Bk.drew ?_ | with_reducible assumption))
  have B2 : Bk ((w.alloc (.cells (itc x A c E d) 33)).alloc (.cells (itc y A' c' E' d') 33)) (w.heap.size + 1) 33 (itc y A' c' E' d') := by (repeat (first | ((with_reducible refine Bk.new' ?_); (first | rfl | (simp; done) | (simp; omega))) | with_reducible refine Bk.alloc ?_ _ | with_reducible refine Bk.drewN ?_ _ | with_reducible refine Bk.drew ?_ | with_reducible assumption))
  refine (HC1.out _ hb0).mono ?_
  rintro e w1 ⟨rfl, hb1⟩
  have C1 := B1.old hb1
  have C2 := B2.old hb1
  have hc1 := bl_trans hb0 hb1
  clear B1 B2 hb0 hb1 HC1
  obtain ⟨⟨k0, k1, k2, k3, k4⟩, _⟩ := en5 C1
  obtain ⟨⟨m0, m1, m2, m3, m4⟩, _⟩ := en5 C2
  by_cases ha : a = 0
  · subst ha
    go_wp2_with fail
    refine (HC2.out _ hc1).mono ?_
    rintro e w2 ⟨rfl, hb2⟩
    have D1 := C1.old hb2
    have D2 := C2.old hb2
    have hc2 := bl_trans hc1 hb2
    clear C1 C2 hc1 hb2 HC2 k0 k1 k2 k3 k4 m0 m1 m2 m3 m4
    obtain ⟨⟨k0, k1, k2, k3, k4⟩, _⟩ := en5 D1
    obtain ⟨⟨m0, m1, m2, m3, m4⟩, _⟩ := en5 D2
    by_cases hb : b = 0
    · subst hb
      by_cases hid : x.id = y.id
      · have t1 : (x.id == y.id) = true := beq_iff_eq.2 hid
        have t2 : (x.id != y.id) = false := by simp [hid]
        have He' := Lib.hid (show enm x y = false by rw [He.out, t2]; simp)
        clear hid He
        go_wp2_with fail
        go_ret
        exact ⟨ret_bool He'.out.symm, hc2⟩
      · have t1 : (x.id == y.id) = false := beq_eq_false_iff_ne.2 hid
        have t2 : (x.id != y.id) = true := bne_iff_ne.2 hid
        have He' := Lib.hid (show enm x y = (p || q) by rw [He.out, t2]; simp)
        clear hid He
        go_wp2_with fail
        refine (HI1.out _ hc2).mono ?_
        rintro e w3 ⟨rfl, rfl⟩
        cases p
        · go_wp2_with fail
          refine (HI2.out _ hc2).mono ?_
          rintro e w4 ⟨rfl, rfl⟩
          go_wp2_with fail
          go_ret
          exact ⟨ret_bool (by rw [He'.out]; rfl), hc2⟩
        · go_wp2_with fail
          go_ret
          exact ⟨ret_bool (by rw [He'.out]; rfl), hc2⟩
    · have t1 : (b == 0) = false := beq_eq_false_iff_ne.2 hb
      have t2 : (b != 0) = true := bne_iff_ne.2 hb
      have He' := Lib.hid (show enm x y = false by rw [He.out, t1]; simp)
      clear hb He
      go_wp2_with fail
      go_ret
      exact ⟨ret_bool He'.out.symm, hc2⟩
  · have t1 : (a == 0) = false := beq_eq_false_iff_ne.2 ha
    have t2 : (a != 0) = true := bne_iff_ne.2 ha
    have He' := Lib.hid (show enm x y = false by rw [He.out, t1]; simp)
    clear ha He
    go_wp2_with fail
    go_ret
    exact ⟨ret_bool He'.out.symm, hc1⟩
set_option maxHeartbeats 2000000 in
theorem renemy_any (x y : It) (A : Option Addr) (c : Nat) (E : Option Addr) (d : Nat) (A' : Option Addr) (c' : Nat) (E' : Option Addr) (d' : Nat) (w : World) (hx : ItOk w x A E) (hy : ItOk w y A' E') :
    Calls Try.prog 28 #[iv x A c E d, iv y A' c' E' d'] w fun e w' => e = .returned (.bool (enm x y)) ∧ Below w.heap.size w w' := by
  have HC1 := Lib.hid (show ∀ W : World, Below w.heap.size w W → Calls Try.prog 20 #[iv x A c E d] W fun e w' => e = .returned (.int .i64 (chk x)) ∧ Below W.heap.size W w' from fun W hW => rcheck_any x A c E d W (hx.old hW))
  have HC2 := Lib.hid (show ∀ W : World, Below w.heap.size w W → Calls Try.prog 20 #[iv y A' c' E' d'] W fun e w' => e = .returned (.int .i64 (chk y)) ∧ Below W.heap.size W w' from fun W hW => rcheck_any y A' c' E' d' W (hy.old hW))
  have HI1 := Lib.hid (show ∀ W : World, Below w.heap.size w W → Calls Try.prog 46 #[.slice E x.en.length d, .int .i64 y.id] W fun e w' => e = .returned (.bool (hs x.en y.id)) ∧ W = w' from fun W hW => has_any x.en E d y.id W hx.2.2.2.2 (hx.2.1.old hW))
  have HI2 := Lib.hid (show ∀ W : World, Below w.heap.size w W → Calls Try.prog 46 #[.slice E' y.en.length d', .int .i64 x.id] W fun e w' => e = .returned (.bool (hs y.en x.id)) ∧ W = w' from fun W hW => has_any y.en E' d' x.id W hy.2.2.2.2 (hy.2.1.old hW))
  have hE : enm x y = (chk x == 0 && chk y == 0 && x.id != y.id && (hs x.en y.id || hs y.en x.id)) := rfl
  generalize chk x = a at HC1 hE
  generalize chk y = b at HC2 hE
  generalize hs x.en y.id = p at HI1 hE
  generalize hs y.en x.id = q at HI2 hE
  have He := Lib.hid hE
  clear hE hx hy
  go_enter Try.func28, Try.ntmps28
  go_wp2_with fail
  have hb0 : Below w.heap.size w ((w.alloc (.cells (itc x A c E d) 33)).alloc (.cells (itc y A' c' E' d') 33)) := by (repeat (first | with_reducible exact Below.refl _ _ | with_reducible refine bl_drewN ?_ _ | with_reducible refine Below.drew ?_ | with_reducible refine bl_alloc ?_ _ | with_reducible refine Below.alloc ?_ (by first | omega | (simp; done) | (simp; omega)) _ | with_reducible refine Below.setCell ?_ (by first | omega | (simp; done) | (simp; omega)) _ | with_reducible assumption))
  have B1 : Bk ((w.alloc (.cells (itc x A c E d) 33)).alloc (.cells (itc y A' c' E' d') 33)) w.heap.size 33 (itc x A c E d) := by (repeat (first | ((with_reducible refine Bk.new' ?_); (first | rfl | (simp; done) | (simp; omega))) | with_reducible refine Bk.alloc ?_ _ | with_reducible refine Bk.drewN ?_ _ | with_reducible refine Bk.drew ?_ | with_reducible assumption))
  have B2 : Bk ((w.alloc (.cells (itc x A c E d) 33)).alloc (.cells (itc y A' c' E' d') 33)) (w.heap.size + 1) 33 (itc y A' c' E' d') := by (repeat (first | ((with_reducible refine Bk.new' ?_); (first | rfl | (simp; done) | (simp; omega))) | with_reducible refine Bk.alloc ?_ _ | with_reducible refine Bk.drewN ?_ _ | with_reducible refine Bk.drew ?_ | with_reducible assumption))
  refine (HC1.out _ hb0).mono ?_
  rintro e w1 ⟨rfl, hb1⟩
  have C1 := B1.old hb1
  have C2 := B2.old hb1
  have hc1 := bl_trans hb0 hb1
  clear B1 B2 hb0 hb1 HC1
  obtain ⟨⟨k0, k1, k2, k3, k4⟩, _⟩ := en5 C1
  obtain ⟨⟨m0, m1, m2, m3, m4⟩, _⟩ := en5 C2
  by_cases ha : a = 0
  · subst ha
    go_wp2_with fail
    refine (HC2.out _ hc1).mono ?_
    rintro e w2 ⟨rfl, hb2⟩
    have D1 := C1.old hb2
    have D2 := C2.old hb2
    have hc2 := bl_trans hc1 hb2
    clear C1 C2 hc1 hb2 HC2 k0 k1 k2 k3 k4 m0 m1 m2 m3 m4
    obtain ⟨⟨k0, k1, k2, k3, k4⟩, _⟩ := en5 D1
    obtain ⟨⟨m0, m1, m2, m3, m4⟩, _⟩ := en5 D2
    by_cases hb : b = 0
    · subst hb
      by_cases hid : x.id = y.id
      · have t1 : (x.id == y.id) = true := beq_iff_eq.2 hid
        have t2 : (x.id != y.id) = false := by simp [hid]
        have He' := Lib.hid (show enm x y = false by rw [He.out, t2]; simp)
        clear hid He
        go_wp2_with fail
        go_ret
        exact ⟨ret_bool He'.out.symm, hc2⟩
      · have t1 : (x.id == y.id) = false := beq_eq_false_iff_ne.2 hid
        have t2 : (x.id != y.id) = true := bne_iff_ne.2 hid
        have He' := Lib.hid (show enm x y = (p || q) by rw [He.out, t2]; simp)
        clear hid He
        go_wp2_with fail
        refine (HI1.out _ hc2).mono ?_
        rintro e w3 ⟨rfl, rfl⟩
        cases p
        · go_wp2_with fail
          refine (HI2.out _ hc2).mono ?_
          rintro e w4 ⟨rfl, rfl⟩
          go_wp2_with fail
          go_ret
          exact ⟨ret_bool (by rw [He'.out]; rfl), hc2⟩
        · go_wp2_with fail
          go_ret
          exact ⟨ret_bool (by rw [He'.out]; rfl), hc2⟩
    · have t1 : (b == 0) = false := beq_eq_false_iff_ne.2 hb
      have t2 : (b != 0) = true := bne_iff_ne.2 hb
      have He' := Lib.hid (show enm x y = false by rw [He.out, t1]; simp)
      clear hb He
      go_wp2_with fail
      go_ret
      exact ⟨ret_bool He'.out.symm, hc2⟩
  · have t1 : (a == 0) = false := beq_eq_false_iff_ne.2 ha
    have t2 : (a != 0) = true := bne_iff_ne.2 ha
    have He' := Lib.hid (show enm x y = false by rw [He.out, t1]; simp)
    clear ha He
    go_wp2_with fail
    go_ret
    exact ⟨ret_bool He'.out.symm, hc1⟩
end Go.Proofs.Ythjaomnmgggjbaa.Tm
