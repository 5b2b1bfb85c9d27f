/- Plain mathematics: ascending lists of texts, by sorting and by inserting one after the other; numbers that differ in one byte. No program in sight. -/
import Derived.Test.YtpdekglmmgecmaaUE
import Derived.Sort.Walk0
namespace Go.Proofs.Ytpdekglmmgecmaa.Id
open Go.RowKit
set_option linter.unusedVariables false
set_option linter.unusedSimpArgs false

/-- A text as a list of bytes. -/
abbrev tl (s : ByteArray) : List UInt8 := s.data.toList
theorem tl_inj {a b : ByteArray} (h : tl a = tl b) : a = b := ba_ext h
/-- The texts, ascending. -/
def srt (l : List ByteArray) : List ByteArray := ((l.map tl).mergeSort fun x y => decide (x ≤ y)).map fun x => ⟨x.toArray⟩
theorem tl_mk (l : List UInt8) : tl ⟨l.toArray⟩ = l := rfl
theorem map_tl_srt (l : List ByteArray) : (srt l).map tl = (l.map tl).mergeSort fun x y => decide (x ≤ y) := by
  unfold srt
  rw [List.map_map]
  exact List.map_id _
theorem srt_perm (l : List ByteArray) : (srt l).Perm l := by
  have h := (List.mergeSort_perm (l.map tl) (fun x y => decide (x ≤ y))).map (fun x : List UInt8 => (⟨x.toArray⟩ : ByteArray))
  have e : (l.map tl).map (fun x : List UInt8 => (⟨x.toArray⟩ : ByteArray)) = l := by
    rw [List.map_map]
    exact (List.map_congr_left (fun x _ => ba_ext (tl_mk _))).trans (List.map_id _)
  rw [e] at h
  exact h
theorem srt_len (l : List ByteArray) : (srt l).length = l.length := (srt_perm l).length_eq
theorem srt_sorted (l : List ByteArray) : (srt l).Pairwise fun a b => tl a ≤ tl b := by
  have h := List.pairwise_mergeSort (le := fun x y : List UInt8 => decide (x ≤ y)) (fun a b c h1 h2 => decide_eq_true (List.le_trans (of_decide_eq_true h1) (of_decide_eq_true h2))) (fun a b => by rw [Bool.or_eq_true, decide_eq_true_eq, decide_eq_true_eq]; exact List.le_total a b) (l.map tl)
  rw [← map_tl_srt, List.pairwise_map] at h
  exact h.imp fun h => of_decide_eq_true h
/-- A text put into an ascending list, once. -/
def ins : List ByteArray → ByteArray → List ByteArray
  | [], s => [s]
  | x :: l, s => if tl x < tl s then x :: ins l s else if x = s then x :: l else s :: x :: l
/-- Strictly ascending. -/
def Asc (l : List ByteArray) : Prop := l.Pairwise fun a b => tl a < tl b
theorem ins_mem (l : List ByteArray) (s x : ByteArray) : x ∈ ins l s ↔ x = s ∨ x ∈ l := by
  induction l with
  | nil => simp [ins]
  | cons y l ih =>
    unfold ins
    split
    · rw [List.mem_cons, ih, List.mem_cons]
      constructor
      · rintro (h | h | h)
        · exact .inr (.inl h)
        · exact .inl h
        · exact .inr (.inr h)
      · rintro (h | h | h)
        · exact .inr (.inl h)
        · exact .inl h
        · exact .inr (.inr h)
    · split
      · rename_i h1 h2
        subst h2
        rw [List.mem_cons]
        constructor
        · exact .inr
        · rintro (h | h)
          · exact .inl h
          · exact h
      · rw [List.mem_cons]
theorem ins_asc {l : List ByteArray} (h : Asc l) (s : ByteArray) : Asc (ins l s) := by
  induction l with
  | nil => exact List.pairwise_singleton _ _
  | cons y l ih =>
    have h1 := List.pairwise_cons.1 h
    unfold ins
    split
    · rename_i hys
      refine List.pairwise_cons.2 ⟨fun x hx => ?_, ih h1.2⟩
      rcases (ins_mem l s x).1 hx with rfl | hx
      · exact hys
      · exact h1.1 x hx
    · split
      · exact h
      · rename_i hn hne
        have hsy : tl s < tl y := by
          rcases Classical.em (tl s < tl y) with h3 | h3
          · exact h3
          · exact absurd (tl_inj (List.le_antisymm h3 hn)) hne
        refine List.pairwise_cons.2 ⟨fun x hx => ?_, h⟩
        rcases List.mem_cons.1 hx with rfl | hx
        · exact hsy
        · exact List.lt_trans hsy (h1.1 x hx)
/-- All texts of a list inserted. -/
def insA (l : List ByteArray) : List ByteArray := l.foldl ins []
theorem insA_snoc (l : List ByteArray) (s : ByteArray) : insA (l ++ [s]) = ins (insA l) s := by unfold insA; rw [List.foldl_append]; rfl
theorem foldl_spec (l : List ByteArray) : ∀ acc, Asc acc → Asc (l.foldl ins acc) ∧ ∀ x, x ∈ l.foldl ins acc ↔ x ∈ l ∨ x ∈ acc := by
  induction l with
  | nil => intro acc h; exact ⟨h, fun x => by simp⟩
  | cons y l ih =>
    intro acc h
    obtain ⟨h1, h2⟩ := ih (ins acc y) (ins_asc h y)
    refine ⟨h1, fun x => ?_⟩
    rw [List.foldl_cons, h2, ins_mem, List.mem_cons]
    constructor
    · rintro (h | h | h)
      · exact .inl (.inr h)
      · exact .inl (.inl h)
      · exact .inr h
    · rintro ((h | h) | h)
      · exact .inr (.inl h)
      · exact .inl h
      · exact .inr (.inr h)
theorem insA_asc (l : List ByteArray) : Asc (insA l) := (foldl_spec l [] List.Pairwise.nil).1
theorem insA_mem (l : List ByteArray) (x : ByteArray) : x ∈ insA l ↔ x ∈ l := by
  have := (foldl_spec l [] List.Pairwise.nil).2 x
  simpa [insA] using this
theorem asc_eq {a b : List ByteArray} (ha : Asc a) (hb : Asc b) (h : ∀ x, x ∈ a ↔ x ∈ b) : a = b := by
  induction a generalizing b with
  | nil =>
    cases b with
    | nil => rfl
    | cons y b => exact absurd ((h y).2 (by simp)) (by simp)
  | cons x a ih =>
    cases b with
    | nil => exact absurd ((h x).1 (by simp)) (by simp)
    | cons y b =>
      have h1 := List.pairwise_cons.1 ha
      have h2 := List.pairwise_cons.1 hb
      have hxy : x = y := by
        rcases List.mem_cons.1 ((h x).1 (by simp)) with e | e
        · exact e
        · rcases List.mem_cons.1 ((h y).2 (by simp)) with e2 | e2
          · exact e2.symm
          · exact absurd (List.lt_trans (h1.1 y e2) (h2.1 x e)) (List.lt_irrefl _)
      subst hxy
      rw [ih h1.2 h2.2]
      intro z
      constructor
      · intro hz
        rcases List.mem_cons.1 ((h z).1 (List.mem_cons_of_mem _ hz)) with e | e
        · subst e; exact absurd (h1.1 z hz) (List.lt_irrefl _)
        · exact e
      · intro hz
        rcases List.mem_cons.1 ((h z).2 (List.mem_cons_of_mem _ hz)) with e | e
        · subst e; exact absurd (h2.1 z hz) (List.lt_irrefl _)
        · exact e
theorem srt_asc {l : List ByteArray} (h : l.Nodup) : Asc (srt l) := by
  have h1 := srt_sorted l
  have h2 : (srt l).Nodup := (srt_perm l).nodup_iff.2 h
  exact (h1.and h2).imp fun {x y} h => by
    rcases Classical.em (tl x < tl y) with h3 | h3
    · exact h3
    · exact absurd (tl_inj (List.le_antisymm h.1 h3)) h.2
/-- Sorting a list without repetitions gives what inserting gives. -/
theorem srt_insA {l : List ByteArray} (h : l.Nodup) : srt l = insA l := asc_eq (srt_asc h) (insA_asc l) fun x => by rw [(srt_perm l).mem_iff, insA_mem]

/-- The numbers that differ in one of the first k bytes. -/
def near (b : Nat → Int) : Nat → List ByteArray
  | 0 => []
  | i + 1 => near b i ++ rp b i (cnt i)
theorem near_mem {b : Nat → Int} (x : ByteArray) : ∀ k, x ∈ near b k ↔ ∃ i, i < k ∧ x ∈ rp b i (cnt i)
  | 0 => by simp [near]
  | k + 1 => by
    unfold near
    rw [List.mem_append, near_mem x k]
    constructor
    · rintro (⟨i, h1, h2⟩ | h)
      · exact ⟨i, by omega, h2⟩
      · exact ⟨k, by omega, h⟩
    · rintro ⟨i, h1, h2⟩
      by_cases e : i = k
      · subst e; exact .inr h2
      · exact .inl ⟨i, by omega, h2⟩
theorem chn_u8 {i m : Nat} (h : m < cnt i) : 0 ≤ chn i m ∧ chn i m ≤ 255 := by have := chn_bd i m h; omega
theorem okc_ne {b : Nat → Int} {i : Nat} {c : Int} (h : okc b i c = true) : c ≠ b i := by
  unfold okc at h
  rw [Bool.and_eq_true] at h
  exact of_decide_eq_true h.1
theorem okc_vl {b : Nat → Int} {i : Nat} {c : Int} (h : okc b i c = true) : ltr (upd b i c) = upd b i c 8 := by
  unfold okc at h
  rw [Bool.and_eq_true] at h
  exact of_decide_eq_true h.2
theorem rp_nodup {b : Nat → Int} {i : Nat} (hi : i < 9) (hb : Bnd b) : ∀ k, k ≤ cnt i → (rp b i k).Nodup
  | 0, _ => List.nodup_nil
  | k + 1, hk => by
    have ih := rp_nodup hi hb k (by omega)
    unfold rp
    split
    · rename_i h
      refine List.nodup_append.2 ⟨ih, by simp, fun x hx y hy => ?_⟩
      rw [List.mem_singleton] at hy
      subst hy
      obtain ⟨m, hm, hok, rfl⟩ := (rp_mem x k).1 hx
      intro e
      have h1 := S9_inj (bnd_upd hb (chn_u8 (show m < cnt i by omega))) (bnd_upd hb (chn_u8 (show k < cnt i by omega))) e i hi
      rw [upd_same, upd_same] at h1
      have := chn_inj (show m < cnt i by omega) (show k < cnt i by omega) h1
      omega
    · exact ih
theorem near_nodup {b : Nat → Int} (hb : Bnd b) : ∀ k, k ≤ 9 → (near b k).Nodup
  | 0, _ => List.nodup_nil
  | k + 1, hk => by
    refine List.nodup_append.2 ⟨near_nodup hb k (by omega), rp_nodup (by omega) hb _ (Nat.le_refl _), fun x hx y hy => ?_⟩
    obtain ⟨i, hi, hx⟩ := (near_mem x k).1 hx
    obtain ⟨m, hm, hok, rfl⟩ := (rp_mem x _).1 hx
    obtain ⟨n, hn, hok2, rfl⟩ := (rp_mem y _).1 hy
    intro e
    have h1 := S9_inj (bnd_upd hb (chn_u8 hm)) (bnd_upd hb (chn_u8 hn)) e i (by omega)
    rw [upd_same, upd_other b _ (show i ≠ k by omega)] at h1
    exact okc_ne hok h1
theorem near_len (b : Nat → Int) : ∀ k, (near b k).length ≤ 23 * k
  | 0 => by simp [near]
  | k + 1 => by
    have := near_len b k
    have := rp_len b k (cnt k)
    have := cnt_le k
    unfold near
    rw [List.length_append]; omega
/-- What Near gives. -/
def nearS (s : ByteArray) : List ByteArray := if shpB s = true then srt (near (byt s) 9) else []
theorem nearS_len (s : ByteArray) : (nearS s).length ≤ 207 := by
  unfold nearS
  split
  · rw [srt_len]; have := near_len (byt s) 9; omega
  · simp
theorem nearS_no {s : ByteArray} (h : shpB s = false) : nearS s = [] := by unfold nearS; rw [if_neg (by simp [h])]
theorem nearS_yes {s : ByteArray} (h : shpB s = true) : nearS s = srt (near (byt s) 9) := if_pos h
theorem near_insA {s : ByteArray} (h : shpB s = true) : nearS s = insA (near (byt s) 9) := by rw [nearS_yes h, srt_insA (near_nodup (bnd_byt s) 9 (Nat.le_refl _))]
theorem shp_fit1 {s : ByteArray} (h : shpB s = true) (i : Nat) : Fit1 (byt s) i := fun j hj _ => of_decide_eq_true ((shp_iff s).1 h).2 j hj
end Go.Proofs.Ytpdekglmmgecmaa.Id
