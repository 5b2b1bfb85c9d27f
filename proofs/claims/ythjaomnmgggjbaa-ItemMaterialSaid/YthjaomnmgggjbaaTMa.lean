/- Walk: the statement ItemMaterial. -/
import Derived.Test.YthjaomnmgggjbaaTYn
import Derived.Test.YthjaomnmgggjbaaTI
import Derived.Test.YthjaomnmgggjbaaRQ
import Derived.Test.YthjaomnmgggjbaaTMb
import Derived.Deep.RegionHeld3
import Derived.WalkKit
import Derived.WalkSpells
import Derived.WalkLawsBesides
import Derived.Deep.QuietTactic
import Derived.BigQuiet
import Derived.Deep.Draws
import Derived.Deep.AppendLies
import Derived.Laws.OwnMore
import Derived.Laws.BytesArg
import Derived.Lib.Hide
import Derived.Deep.LoopGhost
namespace Go.Proofs.Ythjaomnmgggjbaa.Tm
open Go.RowKit Go.Proofs.Ythjaomnmgggjbaa.Mw
open Go.Proofs.Ythjaomnmgggjbaa.Mm (RC)
set_option linter.unusedVariables false

theorem add_at' (g o n : Nat) : (⟨g, o, none⟩ : Addr).add n = ⟨g, o + n, none⟩ := by
  unfold Addr.add
  by_cases h : n = 0
  · subst h; rfl
  · simp [h]
theorem RdP.news {w : World} {b off : Nat} {l : List Pt} (h : RdP w (some ⟨b, off, none⟩) l) : ∀ j u, (l.flatMap pl)[j]? = some u → w.cell? ((⟨b, off, none⟩ : Addr).add j) = some u := fun j u hu => by
  have hj : j < l.length * 6 := by
    rcases Nat.lt_or_ge j (l.length * 6) with h1 | h1
    · exact h1
    · rw [List.getElem?_eq_none (by rw [flat_len]; exact h1)] at hu; cases hu
  have hi : j / 6 < l.length := by omega
  obtain ⟨b', off', e, _, hc⟩ := h (j / 6) hi
  cases e
  have e2 : j = j / 6 * 6 + j % 6 := by omega
  rw [e2, flat_at l (j / 6) (j % 6) hi (by omega)] at hu
  have := hc _ _ hu
  rw [add_at', e2, ← Nat.add_assoc]
  exact this
theorem pls_one (l : List Pt) : ∀ u ∈ l.flatMap pl, u.oneCell' = true := by
  intro u hu
  obtain ⟨p, _, hp⟩ := List.mem_flatMap.1 hu
  exact pl_one p u hp
theorem own_frozen {w : World} {base : Nat} {e : TypeId} {size n g m cap : Nat} {xs : List Value} (h : w.ownsRow base e size (.slice (some ⟨g, 0, none⟩) m cap) n xs) : ∀ o, w.frozen? ⟨g, o, none⟩ = false := by
  rcases h.2 with ⟨h1, _⟩ | ⟨g', cap', cur, h1, _, h2, _⟩
  · cases h1
  · cases h1
    intro o
    simp [World.frozen?, h2]
theorem own_empty (w : World) (e : TypeId) (size : Nat) : (w.alloc (.cells #[] e)).ownsRow w.heap.size e size (.slice (some ⟨w.heap.size, 0, none⟩) 0 0) 0 [] := by
  exact ⟨by simp, .inr ⟨w.heap.size, 0, #[], rfl, Nat.le_refl _, heap_alloc_new w _, by omega, by simp [maxLen], by simp, by simp⟩⟩

/-- What the calls of the statement keep. -/
structure Mf (w0 : World) (g1 g2 : Nat) (x : It) (A : Option Addr) (c : Nat) (E : Option Addr) (d : Nat) (y : It) (A' : Option Addr) (c' : Nat) (E' : Option Addr) (d' : Nat) (w : World) : Prop where
  b1 : Bk w g1 33 (itc x A c E d)
  b2 : Bk w g2 33 (itc y A' c' E' d')
  i1 : ItOk w x A E
  i2 : ItOk w y A' E'
  bl : Below w0.heap.size w0 w
section
variable {w0 w w' : World} {g1 g2 : Nat} {x y : It} {A E A' E' : Option Addr} {c d c' d' : Nat}
theorem Mf.next (h : Mf w0 g1 g2 x A c E d y A' c' E' d' w) (hb : Below w.heap.size w w') : Mf w0 g1 g2 x A c E d y A' c' E' d' w' := ⟨h.b1.old hb, h.b2.old hb, h.i1.old hb, h.i2.old hb, bl_trans h.bl hb⟩
theorem Mf.cells (h : Mf w0 g1 g2 x A c E d y A' c' E' d' w) : (w.cell? ⟨g1, 0, none⟩ = some (.int .i64 x.id) ∧ w.cell? ⟨g1, 1, none⟩ = some (.int .i64 x.ver) ∧ w.cell? ⟨g1, 2, none⟩ = some (.string x.stem) ∧ w.cell? ⟨g1, 3, none⟩ = some (.slice A x.ps.length c) ∧ w.cell? ⟨g1, 4, none⟩ = some (.slice E x.en.length d)) ∧ (w.cell? ⟨g2, 0, none⟩ = some (.int .i64 y.id) ∧ w.cell? ⟨g2, 1, none⟩ = some (.int .i64 y.ver) ∧ w.cell? ⟨g2, 2, none⟩ = some (.string y.stem) ∧ w.cell? ⟨g2, 3, none⟩ = some (.slice A' y.ps.length c') ∧ w.cell? ⟨g2, 4, none⟩ = some (.slice E' y.en.length d')) := ⟨(bk5 h.b1).1, (bk5 h.b2).1⟩
end
theorem mat_len (a b : List Pt) (ha : a.length ≤ 1000000) (hb : b.length ≤ 1000000) : (mat a b).length ≤ 1000000 := by
  have := mt_len a b (max a.length b.length)
  unfold mat; omega

set_option maxHeartbeats 8000000 in
set_option maxRecDepth 100000 in
theorem material_st (l : List Int) (B : Option Addr) (cB : Nat) (w : World) (hl : l.length ≤ maxLen) (hlc : l.length ≤ cB) (hi : ∀ n ∈ l, I64 n) (hB : RdI w .i64 B l) :
    Calls Try.prog 6 #[.slice B l.length cB] w fun e w' => e = .returned (.bool true) ∧ Below w.heap.size w w' := by
  go_enter Try.func6, Try.ntmps6
  go_wp2_with fail
  refine (new_any l B cB _ hB hl hlc hi).mono ?_
  rintro e w1 ⟨rfl, ht1, hb1⟩
  have hlt1 := ht1.lt
  clear hB hi
  unfold maxLen at hl
  obtain ⟨i0, hi0, hz0, hz1, hz2⟩ := info_parts infoPart
  go_wp2_with fail
  refine (item_any w.heap.size 1 1 4 _ ht1 (by omega)).mono ?_
  rintro e w3 ⟨x, A, c, E, d, hx, hA, hE, hv, rfl, ht3, hg3⟩
  have hc3 : Below w.heap.size w (w3.alloc (.cells (itc x A c E d) 33)) := bl_alloc (bl_gb hb1 hg3 (Nat.le_refl _)) _
  have hB3 : Bk (w3.alloc (.cells (itc x A c E d) 33)) w3.heap.size 33 (itc x A c E d) := Bk.new' rfl
  have ht3' := ht3.alloc (.cells (itc x A c E d) 33)
  have G3 : w3.grownBy (w3.alloc (.cells (itc x A c E d) 33)) (some w.heap.size) := gb_alloc (gb_refl _ _) _
  have hlt3 := ht3.lt
  replace hA : Away w.heap.size A := fun a ha => by have := hA a ha; omega
  replace hE : Away w.heap.size E := fun a ha => by have := hE a ha; omega
  have HX := Lib.hid hx
  have hl6 := hx.2.2.2.1
  clear hg3 hv hx ht3 ht1 hb1
  go_wp2_with fail
  refine (item_any w.heap.size 2 2 4 _ ht3' (by omega)).mono ?_
  rintro e w5 ⟨y, A', c', E', d', hy, hA', hE', hv', rfl, ht5, hg5⟩
  have hz5 := hg5.size
  have hw5 : w3.heap.size < w5.heap.size := by simp at hz5; omega
  replace hA' : Away w.heap.size A' := fun a ha => by have := hA' a ha; simp at this; omega
  replace hE' : Away w.heap.size E' := fun a ha => by have := hE' a ha; simp at this; omega
  have hc5 : Below w.heap.size w (w5.alloc (.cells (itc y A' c' E' d') 33)) := bl_alloc (bl_gb hc3 hg5 (Nat.le_refl _)) _
  have hB5 := (hB3.kept hg5 (by omega)).alloc (.cells (itc y A' c' E' d') 33)
  have hC5 : Bk (w5.alloc (.cells (itc y A' c' E' d') 33)) w5.heap.size 33 (itc y A' c' E' d') := Bk.new' rfl
  have ht5' := ht5.alloc (.cells (itc y A' c' E' d') 33)
  have G3' := gb_alloc (gb_trans G3 hg5) (.cells (itc y A' c' E' d') 33)
  have G5 : w5.grownBy (w5.alloc (.cells (itc y A' c' E' d') 33)) (some w.heap.size) := gb_alloc (gb_refl _ _) _
  have HY := Lib.hid hy
  clear hc3 hB3 hg5 hy hv' ht5 ht3' hz5 G3
  go_wp2_with fail
  refine (next_any w.heap.size 2 _ ht5' (by omega) (by omega)).mono ?_
  rintro e w6 ⟨u, hu, rfl, ht6, hg6⟩
  have hc6 : Below w.heap.size w w6 := bl_gb hc5 hg6 (Nat.le_refl _)
  have hB6 := hB5.kept hg6 (by omega)
  have hC6 := hC5.kept hg6 (by omega)
  have G36 := gb_trans G3' hg6
  have G56 := gb_trans G5 hg6
  clear hc5 hB5 hC5 ht5' hg6 G3' G5
  obtain ⟨⟨k0, k1, k2, k3, k4⟩, _⟩ := bk5 hB6
  obtain ⟨⟨m0, m1, m2, m3, m4⟩, fm0, fm1, fm2, fm3, fm4⟩ := bk5 hC6
  have l1 := hB6.lt
  have l2 := hC6.lt
  by_cases hq : u = 0 ∧ 0 < x.ps.length
  · obtain ⟨rfl, hq⟩ := hq
    have q1 : (0 : Int) < x.ps.length := by omega
    have q2 : decide ((0 : Int) < (x.ps.length : Int)) = true := decide_eq_true q1
    have q3 : decide (0 < x.ps.length) = true := decide_eq_true hq
    have hx6 := HX.out.grown G36 hA hE
    obtain ⟨b, off, rfl, hbl, -⟩ := hx6.1.at 0 hq
    go_wp2_with (at_builtin; refine wpList_append_lies _ rfl (.tmp 21) (.tmp 23) 31 rfl w6.heap.size 23 i0 (pv ⟨0, 0, 0, 0, 0, 0⟩) 6 48 Try.underlying31 hi0 hz0 hz1 hz2 rfl (by decide) (.slice (some ⟨w6.heap.size, 0, none⟩) 0 0) 0 [] rfl (own_empty w6 23 6) ⟨b, off, none⟩ x.ps.length c (x.ps.flatMap pl) rfl (flat_len _) (RdP.news (hx6.1.alloc _)) (pls_one _) hq ?c3 ?c4 ?c5 _ rfl ?_)
    case c3 => simp only [maxLen]; omega
    case c4 => omega
    case c5 => simp
    intro g cap w7 hown7 hgrow7 hat7 hlt7
    have hb7 : Below w6.heap.size w6 w7 := bl_gb (bl_alloc (Below.refl _ _) _) hgrow7 (Nat.le_refl _)
    have hg6 := (hown7.lt g rfl).1
    have hr7 : RdP w7 (some ⟨g, 0, none⟩) x.ps := RdP.own hown7
    have hf7 : ∀ o, w7.frozen? ⟨g, o, none⟩ = false := own_frozen hown7
    have hB7 := hB6.old hb7
    have hC7 := hC6.old hb7
    have ht7 := ht6.old hb7
    have G37 := gb_below G36 hb7
    have G57 := gb_below G56 hb7
    have hc7 := bl_trans hc6 hb7
    have l7 := hb7.size
    clear hown7 hgrow7 hat7 hb7 hB6 hC6 ht6 G36 G56 hc6 k0 k1 k2 k3 k4 m0 m1 m2 m3 m4 fm0 fm1 fm2 fm3 fm4 hx6 q1 q2 q3
    obtain ⟨-, -, -, -, fm3, -⟩ := bk5 hC7
    have m3 : w7.cell? ⟨w5.heap.size, 3, none⟩ = some (.slice A' y.ps.length c') := hC7.cell 3
    go_upto_region 6 with fail
    obtain ⟨w8, hw8⟩ : ∃ w8, w8 = w7.setCell ⟨w5.heap.size, 3, none⟩ (.slice (some ⟨g, 0, none⟩) x.ps.length cap) := ⟨_, rfl⟩
    rw [← hw8]
    have hg8 : w7.grownBy w8 (some w5.heap.size) := by rw [hw8]; exact gb_set (gb_refl _ _) (.inl rfl) _
    have hr8 := hr7.grown hg8 (Away.some (by show g ≠ _; omega))
    have hf8 : ∀ o, w8.frozen? ⟨g, o, none⟩ = false := fun o => (World.frozen?_of_block (a := ⟨g, o, none⟩) (hg8.block g hlt7 (by simp; omega))).trans (hf7 o)
    have hB8 := hB7.kept hg8 (by omega)
    have hC8 : Bk w8 w5.heap.size 33 #[.int .i64 y.id, .int .i64 y.ver, .string y.stem, .slice (some ⟨g, 0, none⟩) x.ps.length cap, .slice E' y.en.length d'] := by rw [hw8]; exact hC7.set 3 _
    have ht8 : Tp w8 w.heap.size := by rw [hw8]; exact ht7.far (by simp; omega) _
    have G38 : w3.grownBy w8 (some w.heap.size) := by rw [hw8]; exact gb_set G37 (.inr (by simp; omega)) _
    have G58 : w5.grownBy w8 (some w.heap.size) := by rw [hw8]; exact gb_set G57 (.inr (by simp)) _
    have hc8 : Below w.heap.size w w8 := by rw [hw8]; exact hc7.setCell (by simp; omega) _
    have l8 : w7.heap.size ≤ w8.heap.size := hg8.size
    clear hw8 hg8 hr7 hf7 hB7 hC7 ht7 G37 G57 hc7 m3 fm3
    have m3 : w8.cell? ⟨w5.heap.size, 3, none⟩ = some (.slice (some ⟨g, 0, none⟩) x.ps.length cap) := hC8.cell 3
    have m3' : w8.drew.cell? ⟨w5.heap.size, 3, none⟩ = some (.slice (some ⟨g, 0, none⟩) x.ps.length cap) := m3
    go_region_law (first
      | (go_simp
         go_at_call 17
         refine (next_any w.heap.size (x.ps.length : Int) _ (by exact ht8) (by omega) (by omega)).mono ?_
         rintro e w9 ⟨v0, hv0, rfl, ht9, hg9⟩
         have hg9' := gb_trans (gb_drew (gb_refl _ _)) hg9
         have hC9 := hC8.kept hg9' (by omega)
         have m9 : w9.cell? ⟨w5.heap.size, 3, none⟩ = some (.slice (some ⟨g, 0, none⟩) x.ps.length cap) := hC9.cell 3
         obtain ⟨n, rfl⟩ := Int.eq_ofNat_of_zero_le hv0.1
         have hn0 := hv0.1
         have hn1 := hv0.2)
      | (go_simp
         go_at_call 23
         refine (part_any w.heap.size 0 _ (by exact ht9) (by omega)).mono ?_
         rintro e w10 ⟨p, hp64, hpv, rfl, ht10, hg10⟩
         have hg10' := gb_trans hg9' hg10
         have hC10 := hC8.kept hg10' (by omega)
         have m10 : w10.cell? ⟨w5.heap.size, 3, none⟩ = some (.slice (some ⟨g, 0, none⟩) x.ps.length cap) := hC10.cell 3
         have hr10 := hr8.grown hg10' (Away.some (by show g ≠ _; omega))
         obtain ⟨b', off', e', hbl', c0, c1, c2, c3, c4, c5⟩ := hr10.at n (by omega)
         cases e'
         simp only [Nat.zero_add] at c0 c1 c2 c3 c4 c5
         have hf10 : ∀ o, w10.frozen? ⟨g, o, none⟩ = false := fun o => (World.frozen?_of_block (a := ⟨g, o, none⟩) (hg10'.block g (by omega) (by simp; omega))).trans (hf8 o)))
    all_goals
      obtain ⟨l', hl', hr11⟩ := rdp_set p hr10 n (by omega)
      have hgs := set6_grown w10 g (n * 6) p
      rw [set6_eq]
      obtain ⟨w11, hw11⟩ : ∃ w11, w11 = set6 w10 g (n * 6) p := ⟨_, rfl⟩
      rw [← hw11] at hr11 hgs ⊢
      clear hw11
      have hB11 := (hB8.kept hg10' (by omega)).kept hgs (by omega)
      have hC11 := hC10.kept hgs (by omega)
      have G311 := gb_grown (gb_trans G38 hg10') hgs (fun k hk => by cases hk; omega)
      have G511 := gb_grown (gb_trans G58 hg10') hgs (fun k hk => by cases hk; omega)
      have hc11 : Below w.heap.size w w11 := bl_gb (bl_gb hc8 hg10' (Nat.le_refl _)) hgs (by omega)
      have hyo := HY.out.grown G511 hA' hE'
      obtain ⟨y2, A2, c2, G0⟩ : ∃ (y2 : It) (A2 : Option Addr) (c2 : Nat), Mf w w3.heap.size w5.heap.size x (some ⟨b, off, none⟩) c E d y2 A2 c2 E' d' w11 :=
        ⟨{ y with ps := l' }, some ⟨g, 0, none⟩, cap, ⟨hB11, by show Bk _ _ _ #[.int .i64 y.id, .int .i64 y.ver, .string y.stem, .slice (some ⟨g, 0, none⟩) l'.length cap, .slice E' y.en.length d']; rw [hl']; exact hC11, HX.out.grown G311 hA hE, ⟨hr11, hyo.2.1, hyo.2.2.1, by show l'.length ≤ _; omega, hyo.2.2.2.2⟩, hc11⟩⟩
      clear hB11 hC11 G311 G511 hc11 hyo hr11 hgs hr10 hf10 hC10 m10 hg10' hg10 ht10 hC9 m9 hg9' hg9 ht9 c0 c1 c3 c4 c5 hB8 hC8 ht8 G38 G58 hc8 hr8 hf8 m3 m3' HX HY hA hE hA' hE'
      have HM1 := Lib.hid (show ∀ V, Mf w w3.heap.size w5.heap.size x (some ⟨b, off, none⟩) c E d y2 A2 c2 E' d' V → Calls Try.prog 25 #[iv x (some ⟨b, off, none⟩) c E d, iv y2 A2 c2 E' d'] V (RetI (mat x.ps y2.ps) V) from fun V h => material_any x y2 (some ⟨b, off, none⟩) c E d A2 c2 E' d' V h.i1 h.i2)
      have HM2 := Lib.hid (show ∀ V, Mf w w3.heap.size w5.heap.size x (some ⟨b, off, none⟩) c E d y2 A2 c2 E' d' V → Calls Try.prog 26 #[iv x (some ⟨b, off, none⟩) c E d, iv y2 A2 c2 E' d'] V (RetI (mat x.ps y2.ps) V) from fun V h => rmaterial_any x y2 (some ⟨b, off, none⟩) c E d A2 c2 E' d' V h.i1 h.i2)
      have HM3 := Lib.hid (show ∀ V, Mf w w3.heap.size w5.heap.size x (some ⟨b, off, none⟩) c E d y2 A2 c2 E' d' V → Calls Try.prog 25 #[iv y2 A2 c2 E' d', iv x (some ⟨b, off, none⟩) c E d] V (RetI (mat x.ps y2.ps) V) from fun V h => by rw [mat_comm]; exact material_any y2 x A2 c2 E' d' (some ⟨b, off, none⟩) c E d V h.i2 h.i1)
      have HM4 := Lib.hid (show ∀ V, Mf w w3.heap.size w5.heap.size x (some ⟨b, off, none⟩) c E d y2 A2 c2 E' d' V → Calls Try.prog 25 #[iv x (some ⟨b, off, none⟩) c E d, iv x (some ⟨b, off, none⟩) c E d] V (RetI [] V) from fun V h => by have := material_any x x (some ⟨b, off, none⟩) c E d (some ⟨b, off, none⟩) c E d V h.i1 h.i1; rwa [mat_self] at this)
      have hL := mat_len x.ps y2.ps G0.i1.2.2.2.1 G0.i2.2.2.2.1
      generalize mat x.ps y2.ps = L at HM1 HM2 HM3 hL
      obtain ⟨⟨k0, k1, k2, k3, k4⟩, ⟨m0, m1, m2, m3, m4⟩⟩ := G0.cells
      have GD := G0.next (Below.drew (Below.refl _ _))
      go_wp2_with fail
      go_region_held3 (fun w' => w'.cell? ⟨w3.heap.size, 0, none⟩ = some (.int .i64 x.id) ∧ w'.cell? ⟨w3.heap.size, 1, none⟩ = some (.int .i64 x.ver) ∧ w'.cell? ⟨w3.heap.size, 2, none⟩ = some (.string x.stem) ∧ w'.cell? ⟨w3.heap.size, 3, none⟩ = some (.slice (some ⟨b, off, none⟩) x.ps.length c) ∧ w'.cell? ⟨w3.heap.size, 4, none⟩ = some (.slice E x.en.length d) ∧ w'.cell? ⟨w5.heap.size, 0, none⟩ = some (.int .i64 y2.id) ∧ w'.cell? ⟨w5.heap.size, 1, none⟩ = some (.int .i64 y2.ver) ∧ w'.cell? ⟨w5.heap.size, 2, none⟩ = some (.string y2.stem) ∧ w'.cell? ⟨w5.heap.size, 3, none⟩ = some (.slice A2 y2.ps.length c2) ∧ w'.cell? ⟨w5.heap.size, 4, none⟩ = some (.slice E' y2.en.length d')) ((refine ⟨?_, ?_, ?_, ?_, ?_, ?_, ?_, ?_, ?_, ?_⟩ <;> (first | with_reducible assumption | (with_reducible refine cell_drew ?_; with_reducible assumption)))) (first
        | (go_at_call 25; (with_reducible refine Calls.mono (HM1.out _ GD) ?_); rintro e v1 ⟨L1, s1, rfl, hr1, _, hb1⟩; have G1 := GD.next hb1; obtain ⟨⟨ka0, ka1, ka2, ka3, ka4⟩, ⟨ma0, ma1, ma2, ma3, ma4⟩⟩ := G1.cells)
        | (go_at_call 26; (with_reducible refine Calls.mono (HM2.out _ G1) ?_); rintro e v2 ⟨L2, s2, rfl, hr2, _, hb2⟩; have G2 := G1.next hb2; have hr1' := hr1.old hb2; obtain ⟨⟨kb0, kb1, kb2, kb3, kb4⟩, ⟨mb0, mb1, mb2, mb3, mb4⟩⟩ := G2.cells)
        | (go_at_call 24; (with_reducible refine Calls.mono (ints_any L L L1 s1 L2 s2 _ hL hL hr1' hr2) ?_); rintro e v3 ⟨rfl, hb3⟩; have G3 := G2.next hb3; obtain ⟨⟨kc0, kc1, kc2, kc3, kc4⟩, ⟨mc0, mc1, mc2, mc3, mc4⟩⟩ := G3.cells)
        | (go_at_call 25; (with_reducible refine Calls.mono (HM1.out _ G3) ?_); rintro e v4 ⟨L4, s4, rfl, hr4, _, hb4⟩; have G4 := G3.next hb4; obtain ⟨⟨kd0, kd1, kd2, kd3, kd4⟩, ⟨md0, md1, md2, md3, md4⟩⟩ := G4.cells)
        | (go_at_call 25; (with_reducible refine Calls.mono (HM3.out _ G4) ?_); rintro e v5 ⟨L5, s5, rfl, hr5, _, hb5⟩; have G5 := G4.next hb5; have hr4' := hr4.old hb5; obtain ⟨⟨ke0, ke1, ke2, ke3, ke4⟩, ⟨me0, me1, me2, me3, me4⟩⟩ := G5.cells)
        | (go_at_call 24; (with_reducible refine Calls.mono (ints_any L L L4 s4 L5 s5 _ hL hL hr4' hr5) ?_); rintro e v6 ⟨rfl, hb6⟩; have G6 := G5.next hb6; obtain ⟨⟨kf0, kf1, kf2, kf3, kf4⟩, ⟨mf0, mf1, mf2, mf3, mf4⟩⟩ := G6.cells)
        | (go_at_call 25; (with_reducible refine Calls.mono (HM4.out _ G6) ?_); rintro e v7 ⟨L7, s7, rfl, hr7, _, hb7⟩; have G7 := G6.next hb7; obtain ⟨⟨kg0, kg1, kg2, kg3, kg4⟩, ⟨mg0, mg1, mg2, mg3, mg4⟩⟩ := G7.cells)
        | (go_at_call 14; refine (awake_any _).mono ?_; rintro e v8 ⟨rfl, hb8⟩; have G8 := G7.next hb8; obtain ⟨⟨kh0, kh1, kh2, kh3, kh4⟩, ⟨mh0, mh1, mh2, mh3, mh4⟩⟩ := G8.cells))
      all_goals
        go_wp2_with fail
        go_ret
        exact ⟨rfl, G8.bl⟩
  · have G0 : Mf w w3.heap.size w5.heap.size x A c E d y A' c' E' d' w6 := ⟨hB6, hC6, HX.out.grown G36 hA hE, HY.out.grown G56 hA' hE', hc6⟩
    clear hB6 hC6 HX HY G36 G56 hc6 hA hE hA' hE' ht6
    by_cases hu0 : u = 0
    · have q2 : decide ((0 : Int) < (x.ps.length : Int)) = false := decide_eq_false (by omega)
      have q3 : decide (0 < x.ps.length) = false := decide_eq_false (by omega)
      subst hu0
      have HM1 := Lib.hid (show ∀ V, Mf w w3.heap.size w5.heap.size x A c E d y A' c' E' d' V → Calls Try.prog 25 #[iv x A c E d, iv y A' c' E' d'] V (RetI (mat x.ps y.ps) V) from fun V h => material_any x y A c E d A' c' E' d' V h.i1 h.i2)
      have HM2 := Lib.hid (show ∀ V, Mf w w3.heap.size w5.heap.size x A c E d y A' c' E' d' V → Calls Try.prog 26 #[iv x A c E d, iv y A' c' E' d'] V (RetI (mat x.ps y.ps) V) from fun V h => rmaterial_any x y A c E d A' c' E' d' V h.i1 h.i2)
      have HM3 := Lib.hid (show ∀ V, Mf w w3.heap.size w5.heap.size x A c E d y A' c' E' d' V → Calls Try.prog 25 #[iv y A' c' E' d', iv x A c E d] V (RetI (mat x.ps y.ps) V) from fun V h => by rw [mat_comm]; exact material_any y x A' c' E' d' A c E d V h.i2 h.i1)
      have HM4 := Lib.hid (show ∀ V, Mf w w3.heap.size w5.heap.size x A c E d y A' c' E' d' V → Calls Try.prog 25 #[iv x A c E d, iv x A c E d] V (RetI [] V) from fun V h => by have := material_any x x A c E d A c E d V h.i1 h.i1; rwa [mat_self] at this)
      have hL := mat_len x.ps y.ps G0.i1.2.2.2.1 G0.i2.2.2.2.1
      generalize mat x.ps y.ps = L at HM1 HM2 HM3 hL
      obtain ⟨⟨k0, k1, k2, k3, k4⟩, ⟨m0, m1, m2, m3, m4⟩⟩ := G0.cells
      have GD := G0.next (Below.drew (Below.refl _ _))
      go_wp2_with fail
      go_region_held3 (fun w' => w'.cell? ⟨w3.heap.size, 0, none⟩ = some (.int .i64 x.id) ∧ w'.cell? ⟨w3.heap.size, 1, none⟩ = some (.int .i64 x.ver) ∧ w'.cell? ⟨w3.heap.size, 2, none⟩ = some (.string x.stem) ∧ w'.cell? ⟨w3.heap.size, 3, none⟩ = some (.slice A x.ps.length c) ∧ w'.cell? ⟨w3.heap.size, 4, none⟩ = some (.slice E x.en.length d) ∧ w'.cell? ⟨w5.heap.size, 0, none⟩ = some (.int .i64 y.id) ∧ w'.cell? ⟨w5.heap.size, 1, none⟩ = some (.int .i64 y.ver) ∧ w'.cell? ⟨w5.heap.size, 2, none⟩ = some (.string y.stem) ∧ w'.cell? ⟨w5.heap.size, 3, none⟩ = some (.slice A' y.ps.length c') ∧ w'.cell? ⟨w5.heap.size, 4, none⟩ = some (.slice E' y.en.length d')) ((refine ⟨?_, ?_, ?_, ?_, ?_, ?_, ?_, ?_, ?_, ?_⟩ <;> (first | with_reducible assumption | (with_reducible refine cell_drew ?_; with_reducible assumption)))) (first
        | (go_at_call 25; (with_reducible refine Calls.mono (HM1.out _ GD) ?_); rintro e v1 ⟨L1, s1, rfl, hr1, _, hb1⟩; have G1 := GD.next hb1; obtain ⟨⟨ka0, ka1, ka2, ka3, ka4⟩, ⟨ma0, ma1, ma2, ma3, ma4⟩⟩ := G1.cells)
        | (go_at_call 26; (with_reducible refine Calls.mono (HM2.out _ G1) ?_); rintro e v2 ⟨L2, s2, rfl, hr2, _, hb2⟩; have G2 := G1.next hb2; have hr1' := hr1.old hb2; obtain ⟨⟨kb0, kb1, kb2, kb3, kb4⟩, ⟨mb0, mb1, mb2, mb3, mb4⟩⟩ := G2.cells)
        | (go_at_call 24; (with_reducible refine Calls.mono (ints_any L L L1 s1 L2 s2 _ hL hL hr1' hr2) ?_); rintro e v3 ⟨rfl, hb3⟩; have G3 := G2.next hb3; obtain ⟨⟨kc0, kc1, kc2, kc3, kc4⟩, ⟨mc0, mc1, mc2, mc3, mc4⟩⟩ := G3.cells)
        | (go_at_call 25; (with_reducible refine Calls.mono (HM1.out _ G3) ?_); rintro e v4 ⟨L4, s4, rfl, hr4, _, hb4⟩; have G4 := G3.next hb4; obtain ⟨⟨kd0, kd1, kd2, kd3, kd4⟩, ⟨md0, md1, md2, md3, md4⟩⟩ := G4.cells)
        | (go_at_call 25; (with_reducible refine Calls.mono (HM3.out _ G4) ?_); rintro e v5 ⟨L5, s5, rfl, hr5, _, hb5⟩; have G5 := G4.next hb5; have hr4' := hr4.old hb5; obtain ⟨⟨ke0, ke1, ke2, ke3, ke4⟩, ⟨me0, me1, me2, me3, me4⟩⟩ := G5.cells)
        | (go_at_call 24; (with_reducible refine Calls.mono (ints_any L L L4 s4 L5 s5 _ hL hL hr4' hr5) ?_); rintro e v6 ⟨rfl, hb6⟩; have G6 := G5.next hb6; obtain ⟨⟨kf0, kf1, kf2, kf3, kf4⟩, ⟨mf0, mf1, mf2, mf3, mf4⟩⟩ := G6.cells)
        | (go_at_call 25; (with_reducible refine Calls.mono (HM4.out _ G6) ?_); rintro e v7 ⟨L7, s7, rfl, hr7, _, hb7⟩; have G7 := G6.next hb7; obtain ⟨⟨kg0, kg1, kg2, kg3, kg4⟩, ⟨mg0, mg1, mg2, mg3, mg4⟩⟩ := G7.cells)
        | (go_at_call 14; refine (awake_any _).mono ?_; rintro e v8 ⟨rfl, hb8⟩; have G8 := G7.next hb8; obtain ⟨⟨kh0, kh1, kh2, kh3, kh4⟩, ⟨mh0, mh1, mh2, mh3, mh4⟩⟩ := G8.cells))
      all_goals
        go_wp2_with fail
        go_ret
        exact ⟨rfl, G8.bl⟩
    · have q2 : (u == 0) = false := beq_eq_false_iff_ne.2 hu0
      clear hu0 hq
      have HM1 := Lib.hid (show ∀ V, Mf w w3.heap.size w5.heap.size x A c E d y A' c' E' d' V → Calls Try.prog 25 #[iv x A c E d, iv y A' c' E' d'] V (RetI (mat x.ps y.ps) V) from fun V h => material_any x y A c E d A' c' E' d' V h.i1 h.i2)
      have HM2 := Lib.hid (show ∀ V, Mf w w3.heap.size w5.heap.size x A c E d y A' c' E' d' V → Calls Try.prog 26 #[iv x A c E d, iv y A' c' E' d'] V (RetI (mat x.ps y.ps) V) from fun V h => rmaterial_any x y A c E d A' c' E' d' V h.i1 h.i2)
      have HM3 := Lib.hid (show ∀ V, Mf w w3.heap.size w5.heap.size x A c E d y A' c' E' d' V → Calls Try.prog 25 #[iv y A' c' E' d', iv x A c E d] V (RetI (mat x.ps y.ps) V) from fun V h => by rw [mat_comm]; exact material_any y x A' c' E' d' A c E d V h.i2 h.i1)
      have HM4 := Lib.hid (show ∀ V, Mf w w3.heap.size w5.heap.size x A c E d y A' c' E' d' V → Calls Try.prog 25 #[iv x A c E d, iv x A c E d] V (RetI [] V) from fun V h => by have := material_any x x A c E d A c E d V h.i1 h.i1; rwa [mat_self] at this)
      have hL := mat_len x.ps y.ps G0.i1.2.2.2.1 G0.i2.2.2.2.1
      generalize mat x.ps y.ps = L at HM1 HM2 HM3 hL
      obtain ⟨⟨k0, k1, k2, k3, k4⟩, ⟨m0, m1, m2, m3, m4⟩⟩ := G0.cells
      have GD := G0.next (Below.drew (Below.refl _ _))
      go_wp2_with fail
      go_region_held3 (fun w' => w'.cell? ⟨w3.heap.size, 0, none⟩ = some (.int .i64 x.id) ∧ w'.cell? ⟨w3.heap.size, 1, none⟩ = some (.int .i64 x.ver) ∧ w'.cell? ⟨w3.heap.size, 2, none⟩ = some (.string x.stem) ∧ w'.cell? ⟨w3.heap.size, 3, none⟩ = some (.slice A x.ps.length c) ∧ w'.cell? ⟨w3.heap.size, 4, none⟩ = some (.slice E x.en.length d) ∧ w'.cell? ⟨w5.heap.size, 0, none⟩ = some (.int .i64 y.id) ∧ w'.cell? ⟨w5.heap.size, 1, none⟩ = some (.int .i64 y.ver) ∧ w'.cell? ⟨w5.heap.size, 2, none⟩ = some (.string y.stem) ∧ w'.cell? ⟨w5.heap.size, 3, none⟩ = some (.slice A' y.ps.length c') ∧ w'.cell? ⟨w5.heap.size, 4, none⟩ = some (.slice E' y.en.length d')) ((refine ⟨?_, ?_, ?_, ?_, ?_, ?_, ?_, ?_, ?_, ?_⟩ <;> (first | with_reducible assumption | (with_reducible refine cell_drew ?_; with_reducible assumption)))) (first
        | (go_at_call 25; (with_reducible refine Calls.mono (HM1.out _ GD) ?_); rintro e v1 ⟨L1, s1, rfl, hr1, _, hb1⟩; have G1 := GD.next hb1; obtain ⟨⟨ka0, ka1, ka2, ka3, ka4⟩, ⟨ma0, ma1, ma2, ma3, ma4⟩⟩ := G1.cells)
        | (go_at_call 26; (with_reducible refine Calls.mono (HM2.out _ G1) ?_); rintro e v2 ⟨L2, s2, rfl, hr2, _, hb2⟩; have G2 := G1.next hb2; have hr1' := hr1.old hb2; obtain ⟨⟨kb0, kb1, kb2, kb3, kb4⟩, ⟨mb0, mb1, mb2, mb3, mb4⟩⟩ := G2.cells)
        | (go_at_call 24; (with_reducible refine Calls.mono (ints_any L L L1 s1 L2 s2 _ hL hL hr1' hr2) ?_); rintro e v3 ⟨rfl, hb3⟩; have G3 := G2.next hb3; obtain ⟨⟨kc0, kc1, kc2, kc3, kc4⟩, ⟨mc0, mc1, mc2, mc3, mc4⟩⟩ := G3.cells)
        | (go_at_call 25; (with_reducible refine Calls.mono (HM1.out _ G3) ?_); rintro e v4 ⟨L4, s4, rfl, hr4, _, hb4⟩; have G4 := G3.next hb4; obtain ⟨⟨kd0, kd1, kd2, kd3, kd4⟩, ⟨md0, md1, md2, md3, md4⟩⟩ := G4.cells)
        | (go_at_call 25; (with_reducible refine Calls.mono (HM3.out _ G4) ?_); rintro e v5 ⟨L5, s5, rfl, hr5, _, hb5⟩; have G5 := G4.next hb5; have hr4' := hr4.old hb5; obtain ⟨⟨ke0, ke1, ke2, ke3, ke4⟩, ⟨me0, me1, me2, me3, me4⟩⟩ := G5.cells)
        | (go_at_call 24; (with_reducible refine Calls.mono (ints_any L L L4 s4 L5 s5 _ hL hL hr4' hr5) ?_); rintro e v6 ⟨rfl, hb6⟩; have G6 := G5.next hb6; obtain ⟨⟨kf0, kf1, kf2, kf3, kf4⟩, ⟨mf0, mf1, mf2, mf3, mf4⟩⟩ := G6.cells)
        | (go_at_call 25; (with_reducible refine Calls.mono (HM4.out _ G6) ?_); rintro e v7 ⟨L7, s7, rfl, hr7, _, hb7⟩; have G7 := G6.next hb7; obtain ⟨⟨kg0, kg1, kg2, kg3, kg4⟩, ⟨mg0, mg1, mg2, mg3, mg4⟩⟩ := G7.cells)
        | (go_at_call 14; refine (awake_any _).mono ?_; rintro e v8 ⟨rfl, hb8⟩; have G8 := G7.next hb8; obtain ⟨⟨kh0, kh1, kh2, kh3, kh4⟩, ⟨mh0, mh1, mh2, mh3, mh4⟩⟩ := G8.cells))
      all_goals
        go_wp2_with fail
        go_ret
        exact ⟨rfl, G8.bl⟩
end Go.Proofs.Ythjaomnmgggjbaa.Tm
