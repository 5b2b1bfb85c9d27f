/- Plain laws of seating: augmenting paths. No program in sight. -/
import Derived.Test.YtcidpgjeddogmaaVA
namespace Go.Proofs.Ytcidpgjeddogmaa.Pl
set_option linter.unusedVariables false
set_option linter.unusedSimpArgs false

/-- Which rooms are visited, who is in each, and each candidate's room. -/
structure Sx where
  vis : Nat → Bool
  mem : Nat → List Nat
  rm : Nat → Int
/-- Visit a room. -/
def Sx.see (S : Sx) (r : Nat) : Sx := { S with vis := fun x => if x = r then true else S.vis x }
/-- A candidate goes into a room behind the others. -/
def Sx.app (S : Sx) (r i : Nat) : Sx := { S with mem := fun x => if x = r then S.mem r ++ [i] else S.mem x, rm := fun x => if x = i then (r : Int) else S.rm x }
/-- A candidate takes a place in a room. -/
def Sx.sub (S : Sx) (r k i : Nat) : Sx := { S with mem := fun x => if x = r then (S.mem r).set k i else S.mem x, rm := fun x => if x = i then (r : Int) else S.rm x }

section
variable (R N : Nat) (su : Nat → Nat → Bool) (cap : Nat → Nat)
/-- Some room that is not visited in V holds x. -/
def Is (V : Nat → Bool) (m : Nat → List Nat) (x : Nat) : Prop := ∃ r, r < R ∧ V r = false ∧ x ∈ m r
/-- The rooms that are not visited in V are in order. -/
def Okv (V : Nat → Bool) (m : Nat → List Nat) (rm : Nat → Int) : Prop :=
  ∀ r, r < R → V r = false → (∀ x, x ∈ m r → x < N ∧ su r x = true ∧ rm x = (r : Int)) ∧ (m r).Nodup ∧ (m r).length ≤ cap r
/-- The candidate has found a place. -/
structure Suc (S : Sx) (i : Nat) (T : Sx) : Prop where
  a : ∀ r, r < R → S.vis r = true → T.mem r = S.mem r
  c : Okv R N su cap S.vis T.mem T.rm
  d : ∀ x, Is R S.vis T.mem x ↔ x = i ∨ Is R S.vis S.mem x
  e : ∀ x, x ≠ i → ¬ Is R S.vis S.mem x → T.rm x = S.rm x
/-- All rooms for the candidate are full. -/
structure Fai (S : Sx) (i : Nat) (T : Sx) : Prop where
  m : T.mem = S.mem
  q : T.rm = S.rm
  b : ∀ r, S.vis r = true → T.vis r = true
  s : ∀ r, r < R → su r i = true → T.vis r = true
  f : ∀ r, r < R → S.vis r = false → T.vis r = true → (S.mem r).length = cap r ∧ ∀ x, x ∈ S.mem r → ∀ p, p < R → su p x = true → T.vis p = true
/-- At room k of the loop, all before have failed. -/
structure Lo (S : Sx) (i k : Nat) (T : Sx) : Prop where
  m : T.mem = S.mem
  q : T.rm = S.rm
  b : ∀ r, S.vis r = true → T.vis r = true
  s : ∀ r, r < k → su r i = true → T.vis r = true
  f : ∀ r, r < R → S.vis r = false → T.vis r = true → (S.mem r).length = cap r ∧ ∀ x, x ∈ S.mem r → ∀ p, p < R → su p x = true → T.vis p = true
/-- In room g, at member k, all before have failed. -/
structure Li (S : Sx) (i g k : Nat) (T : Sx) : Prop where
  m : T.mem = S.mem
  q : T.rm = S.rm
  b : ∀ r, S.vis r = true → T.vis r = true
  s : ∀ r, r < g → su r i = true → T.vis r = true
  g0 : S.vis g = false
  g1 : T.vis g = true
  gf : (S.mem g).length = cap g
  gk : ∀ n, n < k → n < (S.mem g).length → ∀ p, p < R → su p ((S.mem g).getD n 0) = true → T.vis p = true
  f : ∀ r, r < R → r ≠ g → S.vis r = false → T.vis r = true → (S.mem r).length = cap r ∧ ∀ x, x ∈ S.mem r → ∀ p, p < R → su p x = true → T.vis p = true
end
section
variable {R N : Nat} {su : Nat → Nat → Bool} {cap : Nat → Nat} {S T U : Sx} {i k g : Nat}
theorem Lo.zero : Lo R su cap S i 0 S := ⟨rfl, rfl, fun _ h => h, fun r h => absurd h (by omega), fun r _ h1 h2 => by rw [h1] at h2; cases h2⟩
theorem Lo.skip (h : Lo R su cap S i k T) (hs : T.vis k = true ∨ su k i = false) : Lo R su cap S i (k + 1) T where
  m := h.m
  q := h.q
  b := h.b
  s r hr hsu := by
    by_cases e : r = k
    · subst e
      rcases hs with hs | hs
      · exact hs
      · rw [hs] at hsu; cases hsu
    · exact h.s r (by omega) hsu
  f := h.f
theorem Lo.fai (h : Lo R su cap S i R T) : Fai R su cap S i T := ⟨h.m, h.q, h.b, h.s, h.f⟩
theorem Lo.vis (h : Lo R su cap S i k T) (r : Nat) (hr : T.vis r = false) : S.vis r = false := by
  cases e : S.vis r
  · rfl
  · rw [h.b r e] at hr; cases hr
theorem Lo.see (h : Lo R su cap S i g T) (hv : T.vis g = false) (hf : (S.mem g).length = cap g) : Li R su cap S i g 0 (T.see g) where
  m := h.m
  q := h.q
  b r hr := by
    show (if r = g then true else T.vis r) = true
    by_cases e : r = g
    · rw [if_pos e]
    · rw [if_neg e]; exact h.b r hr
  s r hr hs := by
    show (if r = g then true else T.vis r) = true
    rw [if_neg (by omega)]; exact h.s r hr hs
  g0 := h.vis g hv
  g1 := if_pos rfl
  gf := hf
  gk n hn := absurd hn (by omega)
  f r hr hne h0 h1 := by
    have h1' : T.vis r = true := by
      have : (if r = g then true else T.vis r) = true := h1
      rwa [if_neg hne] at this
    obtain ⟨p1, p2⟩ := h.f r hr h0 h1'
    refine ⟨p1, fun x hx p hp hs => ?_⟩
    show (if p = g then true else T.vis p) = true
    by_cases e : p = g
    · rw [if_pos e]
    · rw [if_neg e]; exact p2 x hx p hp hs
theorem Li.step (h : Li R su cap S i g k T) (hF : Fai R su cap T ((S.mem g).getD k 0) U) : Li R su cap S i g (k + 1) U where
  m := hF.m.trans h.m
  q := hF.q.trans h.q
  b r hr := hF.b r (h.b r hr)
  s r hr hs := hF.b r (h.s r hr hs)
  g0 := h.g0
  g1 := hF.b _ h.g1
  gf := h.gf
  gk n hn hn2 p hp hs := by
    by_cases e : n = k
    · subst e; exact hF.s p hp hs
    · exact hF.b p (h.gk n (by omega) hn2 p hp hs)
  f r hr hne h0 h1 := by
    cases e : T.vis r
    · obtain ⟨p1, p2⟩ := hF.f r hr e h1
      rw [h.m] at p1 p2
      exact ⟨p1, p2⟩
    · obtain ⟨p1, p2⟩ := h.f r hr hne h0 e
      exact ⟨p1, fun x hx p hp hs => hF.b p (p2 x hx p hp hs)⟩
theorem Li.fin (h : Li R su cap S i g k T) (hk : (S.mem g).length ≤ k) : Lo R su cap S i (g + 1) T where
  m := h.m
  q := h.q
  b := h.b
  s r hr hs := by
    by_cases e : r = g
    · subst e; exact h.g1
    · exact h.s r (by omega) hs
  f r hr h0 h1 := by
    by_cases e : r = g
    · subst e
      refine ⟨h.gf, fun x hx p hp hs => ?_⟩
      obtain ⟨n, hn, rfl⟩ := List.mem_iff_getElem.1 hx
      refine h.gk n (by omega) hn p hp ?_
      rw [List.getD_eq_getElem?_getD, List.getElem?_eq_getElem hn]
      exact hs
    · exact h.f r hr e h0 h1
theorem Li.vis (h : Li R su cap S i g k T) (r : Nat) (hr : T.vis r = false) : S.vis r = false := by
  cases e : S.vis r
  · rfl
  · rw [h.b r e] at hr; cases hr
theorem Okv.mono {V V' : Nat → Bool} {m : Nat → List Nat} {q : Nat → Int} (h : Okv R N su cap V m q) (hv : ∀ r, V' r = false → V r = false) : Okv R N su cap V' m q := fun r hr h0 => h r hr (hv r h0)
theorem Lo.app (hok : Okv R N su cap S.vis S.mem S.rm) (hi : i < N) (hni : ¬ Is R S.vis S.mem i) (h : Lo R su cap S i g T) (hg : g < R) (hv : T.vis g = false) (hs : su g i = true) (hl : (S.mem g).length < cap g) : Suc R N su cap S i ((T.see g).app g i) := by
  have hv0 := h.vis g hv
  have em : ∀ x, ((T.see g).app g i).mem x = if x = g then S.mem g ++ [i] else S.mem x := fun x => by
    show (if x = g then T.mem g ++ [i] else T.mem x) = _
    rw [h.m]
  have eq : ∀ x, ((T.see g).app g i).rm x = if x = i then (g : Int) else S.rm x := fun x => by
    show (if x = i then (g : Int) else T.rm x) = _
    rw [h.q]
  have hne : ∀ r, r < R → S.vis r = false → ∀ x, x ∈ S.mem r → x ≠ i := fun r hr h0 x hx e => hni ⟨r, hr, h0, e ▸ hx⟩
  refine ⟨fun r hr h0 => ?_, fun r hr h0 => ?_, fun x => ⟨?_, ?_⟩, fun x hx hx2 => ?_⟩
  · rw [em, if_neg (by rintro rfl; rw [hv0] at h0; cases h0)]
  · obtain ⟨p1, p2, p3⟩ := hok r hr h0
    rw [em]
    by_cases e : r = g
    · subst e
      rw [if_pos rfl]
      refine ⟨fun x hx => ?_, ?_, ?_⟩
      · rw [eq]
        rcases List.mem_append.1 hx with hx | hx
        · rw [if_neg (hne r hr h0 x hx)]; exact p1 x hx
        · have : x = i := by simpa using hx
          subst this
          rw [if_pos rfl]; exact ⟨hi, hs, rfl⟩
      · rw [List.nodup_append]
        refine ⟨p2, by simp, fun a ha b hb => ?_⟩
        have : b = i := by simpa using hb
        subst this
        exact hne r hr h0 a ha
      · simp; omega
    · rw [if_neg e]
      refine ⟨fun x hx => ?_, p2, p3⟩
      rw [eq, if_neg (hne r hr h0 x hx)]; exact p1 x hx
  · rintro ⟨r, hr, h0, hx⟩
    rw [em] at hx
    by_cases e : r = g
    · rw [if_pos e] at hx
      rcases List.mem_append.1 hx with hx | hx
      · exact .inr ⟨g, hg, hv0, hx⟩
      · exact .inl (by simpa using hx)
    · rw [if_neg e] at hx
      exact .inr ⟨r, hr, h0, hx⟩
  · rintro (rfl | ⟨r, hr, h0, hx⟩)
    · exact ⟨g, hg, hv0, by rw [em, if_pos rfl]; simp⟩
    · refine ⟨r, hr, h0, ?_⟩
      rw [em]
      by_cases e : r = g
      · rw [if_pos e]; subst e; exact List.mem_append.2 (.inl hx)
      · rw [if_neg e]; exact hx
  · rw [eq, if_neg hx]
theorem mem_set_of {l : List Nat} {k x v : Nat} (h : x ∈ l.set k v) : x = v ∨ ∃ n, n < l.length ∧ n ≠ k ∧ l.getD n 0 = x := by
  obtain ⟨n, hn, e⟩ := List.mem_iff_getElem.1 h
  have hn' : n < l.length := by simpa using hn
  rw [List.getElem_set] at e
  by_cases h1 : k = n
  · rw [if_pos h1] at e; exact .inl e.symm
  · rw [if_neg h1] at e
    refine .inr ⟨n, hn', fun x => h1 x.symm, ?_⟩
    rw [List.getD_eq_getElem?_getD, List.getElem?_eq_getElem hn']; exact e
theorem set_mem_of {l : List Nat} {k x v : Nat} (hx : x ∈ l) (hne : x ≠ l.getD k 0) : x ∈ l.set k v := by
  obtain ⟨n, hn, e⟩ := List.mem_iff_getElem.1 hx
  have h1 : k ≠ n := by
    rintro rfl
    apply hne
    rw [List.getD_eq_getElem?_getD, List.getElem?_eq_getElem hn]; exact e.symm
  refine List.mem_iff_getElem.2 ⟨n, by simpa using hn, ?_⟩
  rw [List.getElem_set, if_neg h1]; exact e
theorem set_nodup {l : List Nat} {k v : Nat} (h : l.Nodup) (hv : v ∉ l) : (l.set k v).Nodup := by
  induction l generalizing k with
  | nil => simp
  | cons a l ih =>
    rw [List.nodup_cons] at h
    cases k with
    | zero => rw [List.set_cons_zero, List.nodup_cons]; exact ⟨fun x => hv (List.mem_cons_of_mem _ x), h.2⟩
    | succ k =>
      rw [List.set_cons_succ, List.nodup_cons]
      refine ⟨fun x => ?_, ih h.2 fun x => hv (List.mem_cons_of_mem _ x)⟩
      rcases List.mem_or_eq_of_mem_set x with x | x
      · exact h.1 x
      · exact hv (x ▸ List.mem_cons_self)
theorem nodup_at {l : List Nat} (h : l.Nodup) {a b : Nat} (ha : a < l.length) (hb : b < l.length) (e : l.getD a 0 = l.getD b 0) : a = b := by
  rw [List.getD_eq_getElem?_getD, List.getElem?_eq_getElem ha, List.getD_eq_getElem?_getD, List.getElem?_eq_getElem hb] at e
  exact (List.getElem_inj h).1 e
theorem getD_mem {l : List Nat} {k : Nat} (h : k < l.length) : l.getD k 0 ∈ l := by
  rw [List.getD_eq_getElem?_getD, List.getElem?_eq_getElem h]; exact List.getElem_mem h
/-- What the inner call asks for. -/
theorem Li.pre (hok : Okv R N su cap S.vis S.mem S.rm) (h : Li R su cap S i g k T) (hg : g < R) (hk : k < (S.mem g).length) :
    Okv R N su cap T.vis T.mem T.rm ∧ (S.mem g).getD k 0 < N ∧ ¬ Is R T.vis T.mem ((S.mem g).getD k 0) := by
  have hj := (hok g hg h.g0).1 _ (getD_mem hk)
  refine ⟨?_, hj.1, ?_⟩
  · rw [h.m, h.q]; exact hok.mono h.vis
  · rintro ⟨r, hr, h0, hx⟩
    rw [h.m] at hx
    have := ((hok r hr (h.vis r h0)).1 _ hx).2.2
    rw [hj.2.2] at this
    have e : g = r := by omega
    subst e
    rw [h.g1] at h0; cases h0
theorem Li.sub (hok : Okv R N su cap S.vis S.mem S.rm) (hi : i < N) (hni : ¬ Is R S.vis S.mem i) (h : Li R su cap S i g k T) (hg : g < R) (hs : su g i = true) (hk : k < (S.mem g).length) (hS : Suc R N su cap T ((S.mem g).getD k 0) U) : Suc R N su cap S i (U.sub g k i) := by
  have hgk := getD_mem hk
  have pg := hok g hg h.g0
  have hne : ∀ r, r < R → S.vis r = false → ∀ x, x ∈ S.mem r → x ≠ i := fun r hr h0 x hx e => hni ⟨r, hr, h0, e ▸ hx⟩
  have hUg : U.mem g = S.mem g := by rw [hS.a g hg h.g1, h.m]
  have em : ∀ x, (U.sub g k i).mem x = if x = g then (S.mem g).set k i else U.mem x := fun x => by
    show (if x = g then (U.mem g).set k i else U.mem x) = _
    rw [hUg]
  have eq : ∀ x, (U.sub g k i).rm x = if x = i then (g : Int) else U.rm x := fun x => rfl
  -- x of an unvisited room of S that is visited now keeps its room
  have keep : ∀ r, r < R → S.vis r = false → T.vis r = true → ∀ x, x ∈ S.mem r → x ≠ (S.mem g).getD k 0 → U.rm x = (r : Int) := fun r hr h0 h1 x hx hx2 => by
    have hr2 := ((hok r hr h0).1 x hx).2.2
    rw [hS.e x hx2, h.q, hr2]
    rintro ⟨r', hr', h0', hx'⟩
    rw [h.m] at hx'
    have := ((hok r' hr' (h.vis r' h0')).1 x hx').2.2
    rw [hr2] at this
    have e : r = r' := by omega
    subst e
    rw [h1] at h0'; cases h0'
  refine ⟨fun r hr h0 => ?_, fun r hr h0 => ?_, fun x => ⟨?_, ?_⟩, fun x hx hx2 => ?_⟩
  · rw [em, if_neg (by rintro rfl; rw [h.g0] at h0; cases h0), hS.a r hr (h.b r h0), h.m]
  · rw [em]
    by_cases e : r = g
    · subst e
      rw [if_pos rfl]
      refine ⟨fun x hx => ?_, set_nodup pg.2.1 fun hx => hne r hr h0 i hx rfl, by simpa using pg.2.2⟩
      rw [eq]
      rcases mem_set_of hx with rfl | ⟨n, hn, hnk, rfl⟩
      · rw [if_pos rfl]; exact ⟨hi, hs, rfl⟩
      · have hx1 := getD_mem hn
        rw [if_neg (hne r hr h0 _ hx1), keep r hr h0 h.g1 _ hx1 fun e => hnk (nodup_at pg.2.1 hn hk e)]
        exact ⟨(pg.1 _ hx1).1, (pg.1 _ hx1).2.1, rfl⟩
    · rw [if_neg e]
      cases hv : T.vis r
      · obtain ⟨p1, p2, p3⟩ := hS.c r hr hv
        refine ⟨fun x hx => ?_, p2, p3⟩
        rw [eq, if_neg]
        · exact p1 x hx
        · rintro rfl
          rcases (hS.d x).1 ⟨r, hr, hv, hx⟩ with e1 | ⟨r', hr', h0', hx'⟩
          · exact hne g hg h.g0 _ hgk e1.symm
          · rw [h.m] at hx'
            exact hni ⟨r', hr', h.vis r' h0', hx'⟩
      · have hUr : U.mem r = S.mem r := by rw [hS.a r hr hv, h.m]
        rw [hUr]
        obtain ⟨p1, p2, p3⟩ := hok r hr h0
        refine ⟨fun x hx => ?_, p2, p3⟩
        rw [eq, if_neg (hne r hr h0 x hx), keep r hr h0 hv x hx]
        · exact ⟨(p1 x hx).1, (p1 x hx).2.1, rfl⟩
        · rintro rfl
          have h1 := (p1 _ hx).2.2
          rw [(pg.1 _ hgk).2.2] at h1
          exact e (by omega)
  · rintro ⟨r, hr, h0, hx⟩
    rw [em] at hx
    by_cases e : r = g
    · rw [if_pos e] at hx
      rcases mem_set_of hx with e1 | ⟨n, hn, hnk, rfl⟩
      · exact .inl e1
      · exact .inr ⟨g, hg, h.g0, getD_mem hn⟩
    · rw [if_neg e] at hx
      cases hv : T.vis r
      · rcases (hS.d x).1 ⟨r, hr, hv, hx⟩ with rfl | ⟨r', hr', h0', hx'⟩
        · exact .inr ⟨g, hg, h.g0, hgk⟩
        · rw [h.m] at hx'
          exact .inr ⟨r', hr', h.vis r' h0', hx'⟩
      · rw [hS.a r hr hv, h.m] at hx
        exact .inr ⟨r, hr, h0, hx⟩
  · rintro (rfl | ⟨r, hr, h0, hx⟩)
    · refine ⟨g, hg, h.g0, ?_⟩
      rw [em, if_pos rfl]
      exact List.mem_iff_getElem.2 ⟨k, by simpa using hk, by simp⟩
    · have inU : ∀ y, Is R T.vis U.mem y → Is R S.vis (U.sub g k i).mem y := by
        rintro y ⟨r', hr', h0', hy⟩
        refine ⟨r', hr', h.vis r' h0', ?_⟩
        rw [em, if_neg (by rintro rfl; rw [h.g1] at h0'; cases h0')]; exact hy
      by_cases e : r = g
      · subst e
        by_cases e2 : x = (S.mem r).getD k 0
        · exact inU x ((hS.d x).2 (.inl e2))
        · exact ⟨r, hr, h0, by rw [em, if_pos rfl]; exact set_mem_of hx e2⟩
      · cases hv : T.vis r
        · exact inU x ((hS.d x).2 (.inr ⟨r, hr, hv, by rw [h.m]; exact hx⟩))
        · exact ⟨r, hr, h0, by rw [em, if_neg e, hS.a r hr hv, h.m]; exact hx⟩
  · rw [eq, if_neg hx, hS.e x, h.q]
    · rintro rfl
      exact hx2 ⟨g, hg, h.g0, hgk⟩
    · rintro ⟨r, hr, h0, hx'⟩
      rw [h.m] at hx'
      exact hx2 ⟨r, hr, h.vis r h0, hx'⟩
/-- How many rooms are not visited. -/
def unv (R : Nat) (V : Nat → Bool) : Nat := ((List.range R).filter fun r => !V r).length
theorem filter_le {l : List Nat} {p q : Nat → Bool} (h : ∀ x, p x = true → q x = true) : (l.filter p).length ≤ (l.filter q).length := by
  induction l with
  | nil => simp
  | cons a l ih =>
    rw [List.filter_cons, List.filter_cons]
    by_cases h1 : p a = true
    · rw [if_pos h1, if_pos (h a h1)]; simpa using ih
    · rw [if_neg h1]
      by_cases h2 : q a = true
      · rw [if_pos h2]; simp; omega
      · rw [if_neg h2]; exact ih
theorem filter_lt {l : List Nat} {p q : Nat → Bool} (h : ∀ x, p x = true → q x = true) {g : Nat} (hg : g ∈ l) (h1 : p g = false) (h2 : q g = true) : (l.filter p).length < (l.filter q).length := by
  induction l with
  | nil => cases hg
  | cons a l ih =>
    rw [List.filter_cons, List.filter_cons]
    rcases List.mem_cons.1 hg with rfl | hg
    · rw [if_neg (by simp [h1]), if_pos h2]
      have := filter_le (l := l) h
      simp; omega
    · have := ih hg
      by_cases h3 : p a = true
      · rw [if_pos h3, if_pos (h a h3)]; simpa using this
      · rw [if_neg h3]
        by_cases h4 : q a = true
        · rw [if_pos h4]; simp; omega
        · rw [if_neg h4]; exact this
theorem Li.less (h : Li R su cap S i g k T) (hg : g < R) : unv R T.vis < unv R S.vis := by
  refine filter_lt (fun x hx => ?_) (List.mem_range.2 hg) (by rw [h.g1]; rfl) (by rw [h.g0]; rfl)
  have : T.vis x = false := by simpa using hx
  rw [h.vis x this]; rfl
end
end Go.Proofs.Ytcidpgjeddogmaa.Pl
