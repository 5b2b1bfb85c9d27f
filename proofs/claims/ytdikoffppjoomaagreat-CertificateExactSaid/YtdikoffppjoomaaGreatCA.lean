/- Plain law: logs of certificates: what may be appended, which certificates are current. No program in sight. -/
import Derived.WalkKit
namespace Go.Proofs.YtdikoffppjoomaaGreat.Ct
set_option linter.unusedVariables false
set_option linter.unusedSimpArgs false

/-- A certificate. -/
structure Cf where
  i : Int
  c : Int
  g : Int
  t : Int
  r : Int
deriving DecidableEq, Inhabited
/-- An entry of a log. -/
structure Le where
  k : Int
  f : Cf
deriving DecidableEq, Inhabited

def vld (c : Cf) : Bool := decide (1 ≤ c.i ∧ c.i ≤ 9999 ∧ 0 ≤ c.c ∧ c.c ≤ 9999 ∧ 0 ≤ c.g ∧ c.g < 10 ∧ 0 ≤ c.t ∧ c.t ≤ 1000000 ∧ 0 ≤ c.r ∧ c.r ≤ 9999)
def rvk (c : Cf) : Bool := decide (1 ≤ c.i ∧ c.i ≤ 9999 ∧ 0 ≤ c.t ∧ c.t ≤ 1000000 ∧ c.c = 0 ∧ c.g = 0 ∧ c.r = 0)
/-- The certificate with a number, as it was issued. -/
def fnd : List Le → Int → Option Cf
  | [], _ => none
  | e :: l, id => if e.k = 0 ∧ e.f.i = id then some e.f else fnd l id
/-- The entry replaces or revokes the certificate with a number. -/
def gn1 (e : Le) (id : Int) : Bool := decide ((e.k = 1 ∧ e.f.i = id) ∨ (e.k = 0 ∧ e.f.r = id))
def gon (l : List Le) (id : Int) : Bool := l.any fun e => gn1 e id
def hl1 (l : List Le) (c : Int) (e : Le) : Bool := decide (e.k = 0 ∧ e.f.c = c) && !gon l e.f.i
def hol (l : List Le) (c : Int) : Bool := l.any (hl1 l c)
def lst (l : List Le) : Int := match l.getLast? with | none => 0 | some e => e.f.t
def tim (l : List Le) (e : Le) : Int := if e.f.t < lst l then 43 else 0
/-- The error of appending an entry to a valid log. -/
def nxt (l : List Le) (e : Le) : Int :=
  if 256 ≤ l.length then 3
  else if e.k = 0 then
    if vld e.f = false then 2
    else if (fnd l e.f.i).isSome then 5
    else if e.f.r = 0 then (if hol l e.f.c then 9 else tim l e)
    else match fnd l e.f.r with
      | none => 4
      | some o => if o.c = e.f.c then (if gon l e.f.r then 46 else tim l e) else 4
  else if e.k = 1 then
    if rvk e.f = false then 2
    else match fnd l e.f.i with
      | none => 4
      | some _ => if gon l e.f.i then 46 else tim l e
  else 2
/-- An element of a list. -/
def gE (l : List Le) (n : Nat) : Le := l.getD n default
/-- The first error of the first entries. -/
def chN (l : List Le) : Nat → Int
  | 0 => 0
  | n + 1 => if chN l n = 0 then nxt (l.take n) (gE l n) else chN l n
def chk (l : List Le) : Int := if 256 < l.length then 3 else chN l l.length
/-- A valid log. -/
def V (l : List Le) : Prop := chN l l.length = 0

theorem gE_left {l m : List Le} {n : Nat} (h : n < l.length) : gE (l ++ m) n = gE l n := by unfold gE; simp [List.getElem?_append_left h]
theorem gE_at {l : List Le} {e : Le} : gE (l ++ [e]) l.length = e := by unfold gE; simp
theorem chN_succ (l : List Le) (n : Nat) : chN l (n + 1) = if chN l n = 0 then nxt (l.take n) (gE l n) else chN l n := rfl
theorem chN_left (l m : List Le) : ∀ n, n ≤ l.length → chN (l ++ m) n = chN l n
  | 0, _ => rfl
  | n + 1, h => by
    rw [chN_succ, chN_succ, chN_left l m n (by omega), gE_left (by omega), List.take_append_of_le_length (by omega)]
theorem V_nil : V [] := rfl
theorem V_snoc {l : List Le} {e : Le} : V (l ++ [e]) ↔ V l ∧ nxt l e = 0 := by
  unfold V
  rw [List.length_append, List.length_singleton]
  rw [chN_succ, chN_left l [e] _ (Nat.le_refl _), gE_at, List.take_left]
  by_cases h : chN l l.length = 0
  · rw [if_pos h]; exact ⟨fun x => ⟨h, x⟩, fun x => x.2⟩
  · rw [if_neg h]; exact ⟨fun x => absurd x h, fun x => absurd x.1 h⟩
theorem chN_zero {l : List Le} : ∀ {n m : Nat}, n ≤ m → chN l m = 0 → chN l n = 0
  | n, 0, h, h0 => by
    have e : n = 0 := by omega
    subst e
    exact h0
  | n, m + 1, h, h0 => by
    by_cases e : n = m + 1
    · subst e; exact h0
    · rw [chN_succ] at h0
      by_cases h1 : chN l m = 0
      · exact chN_zero (by omega) h1
      · rw [if_neg h1] at h0; exact absurd h0 h1
theorem V_take {l : List Le} (h : V l) (n : Nat) : V (l.take n) := by
  by_cases hn : n ≤ l.length
  · unfold V at h ⊢
    have h1 := chN_zero hn h
    have h2 := chN_left (l.take n) (l.drop n) n (by simp; omega)
    rw [List.take_append_drop] at h2
    rw [show (l.take n).length = n by simp; omega, ← h2]
    exact h1
  · rw [List.take_of_length_le (by omega)]; exact h
/-- Valid logs grow from the empty one. -/
theorem V_ind {P : List Le → Prop} (h0 : P []) (h1 : ∀ l e, V l → nxt l e = 0 → P l → P (l ++ [e])) : ∀ n l, l.length = n → V l → P l
  | 0, l, hn, _ => by obtain rfl : l = [] := List.length_eq_zero_iff.1 hn; exact h0
  | n + 1, l, hn, hv => by
    have hne : l ≠ [] := by intro h; subst h; cases hn
    have e := List.dropLast_concat_getLast hne
    rw [← e] at hv ⊢
    obtain ⟨hv1, hv2⟩ := V_snoc.1 hv
    exact h1 _ _ hv1 hv2 (V_ind h0 h1 n _ (by rw [List.length_dropLast]; omega) hv1)

theorem fnd_snoc (l : List Le) (e : Le) (id : Int) : fnd (l ++ [e]) id = match fnd l id with | some c => some c | none => if e.k = 0 ∧ e.f.i = id then some e.f else none := by
  induction l with
  | nil => simp [fnd]
  | cons x l ih =>
    rw [List.cons_append]
    unfold fnd
    by_cases h : x.k = 0 ∧ x.f.i = id
    · simp [h]
    · rw [if_neg h, if_neg h]; exact ih
theorem gon_snoc (l : List Le) (e : Le) (id : Int) : gon (l ++ [e]) id = (gon l id || gn1 e id) := by unfold gon; simp
theorem fnd_id : ∀ {l : List Le} {id : Int} {c : Cf}, fnd l id = some c → c.i = id
  | [], _, _, h => by cases h
  | e :: l, id, c, h => by
    unfold fnd at h
    split at h
    · rename_i h1; cases h; exact h1.2
    · exact fnd_id h

/-- What an entry that may be appended is. -/
theorem nxt_0 {l : List Le} {e : Le} (h : nxt l e = 0) : l.length < 256 ∧ lst l ≤ e.f.t ∧
    ((e.k = 0 ∧ vld e.f = true ∧ fnd l e.f.i = none ∧ ((e.f.r = 0 ∧ hol l e.f.c = false) ∨ (e.f.r ≠ 0 ∧ ∃ o, fnd l e.f.r = some o ∧ o.c = e.f.c ∧ gon l e.f.r = false))) ∨
     (e.k = 1 ∧ rvk e.f = true ∧ ∃ o, fnd l e.f.i = some o ∧ gon l e.f.i = false)) := by
  unfold nxt tim at h
  split at h
  · omega
  rename_i h256
  split at h
  · rename_i hk
    split at h
    · omega
    rename_i hv
    split at h
    · omega
    rename_i hf
    have hv' : vld e.f = true := by simpa using hv
    have hf' : fnd l e.f.i = none := by simpa using hf
    split at h
    · rename_i hr
      split at h
      · omega
      rename_i hh
      split at h
      · omega
      exact ⟨by omega, by omega, .inl ⟨hk, hv', hf', .inl ⟨hr, by simpa using hh⟩⟩⟩
    · rename_i hr
      split at h
      · omega
      rename_i o ho
      split at h
      · rename_i hc
        split at h
        · omega
        rename_i hg
        split at h
        · omega
        exact ⟨by omega, by omega, .inl ⟨hk, hv', hf', .inr ⟨hr, o, ho, hc, by simpa using hg⟩⟩⟩
      · omega
  · split at h
    · rename_i hk
      split at h
      · omega
      rename_i hv
      have hv' : rvk e.f = true := by simpa using hv
      split at h
      · omega
      rename_i o ho
      split at h
      · omega
      rename_i hg
      split at h
      · omega
      exact ⟨by omega, by omega, .inr ⟨hk, hv', o, ho, by simpa using hg⟩⟩
    · omega

/-- What holds of valid logs. -/
structure Inv (l : List Le) : Prop where
  len : l.length ≤ 256
  gone : ∀ id, id ≠ 0 → gon l id = true → (fnd l id).isSome = true
  val : ∀ id c, fnd l id = some c → vld c = true
  mem : ∀ e, e ∈ l → e.k = 0 → fnd l e.f.i = some e.f
  one : ∀ a b ca cb, fnd l a = some ca → fnd l b = some cb → gon l a = false → gon l b = false → ca.c = cb.c → a = b
  hold : ∀ c, hol l c = true ↔ ∃ id ca, fnd l id = some ca ∧ gon l id = false ∧ ca.c = c
  time : 0 ≤ lst l

theorem fnd_mem : ∀ {l : List Le} {id : Int} {c : Cf}, fnd l id = some c → ∃ e, e ∈ l ∧ e.k = 0 ∧ e.f = c
  | [], _, _, h => by cases h
  | e :: l, id, c, h => by
    unfold fnd at h
    split at h
    · rename_i h1; cases h; exact ⟨e, by simp, h1.1, rfl⟩
    · obtain ⟨x, hx, h2⟩ := fnd_mem h; exact ⟨x, by simp [hx], h2⟩
theorem hol_iff {l : List Le} (h : ∀ e, e ∈ l → e.k = 0 → fnd l e.f.i = some e.f) (c : Int) : hol l c = true ↔ ∃ id ca, fnd l id = some ca ∧ gon l id = false ∧ ca.c = c := by
  unfold hol
  rw [List.any_eq_true]
  constructor
  · rintro ⟨e, he, h1⟩
    unfold hl1 at h1
    simp at h1
    exact ⟨e.f.i, e.f, h e he h1.1.1, h1.2, h1.1.2⟩
  · rintro ⟨id, ca, h1, h2, h3⟩
    obtain ⟨e, he, hk, rfl⟩ := fnd_mem h1
    refine ⟨e, he, ?_⟩
    have := fnd_id h1
    unfold hl1
    simp [hk, h3, this, h2]
theorem vld_id {c : Cf} (h : vld c = true) : 1 ≤ c.i ∧ c.i ≤ 9999 ∧ 0 ≤ c.t := by unfold vld at h; have := of_decide_eq_true h; omega
theorem lst_snoc (l : List Le) (e : Le) : lst (l ++ [e]) = e.f.t := by unfold lst; simp
theorem inv_nil : Inv [] := ⟨by simp, fun id _ h => by simp [gon] at h, fun id c h => by simp [fnd] at h, fun e h => by simp at h, fun a b ca cb h => by simp [fnd] at h, fun c => by simp [hol, fnd], by simp [lst]⟩
theorem inv_step {l : List Le} {e : Le} (I : Inv l) (h : nxt l e = 0) : Inv (l ++ [e]) := by
  obtain ⟨h256, ht, h⟩ := nxt_0 h
  have hmem : ∀ x, x ∈ l ++ [e] → x.k = 0 → fnd (l ++ [e]) x.f.i = some x.f := fun x hx hk => by
    rw [fnd_snoc]
    rcases List.mem_append.1 hx with hx | hx
    · rw [I.mem x hx hk]
    · obtain rfl : x = e := by simpa using hx
      rcases h with ⟨_, _, hn, _⟩ | ⟨hk1, _⟩
      · rw [hn]; simp [hk]
      · omega
  have htt : 0 ≤ e.f.t := by have := I.time; omega
  rcases h with ⟨hk, hv, hn, hr⟩ | ⟨hk, hv, o, ho, hg⟩
  · have hid := vld_id hv
    have hgi : gon l e.f.i = false := by
      cases hc : gon l e.f.i
      · rfl
      · have := I.gone _ (by omega) hc; rw [hn] at this; cases this
    have hri : e.f.r ≠ e.f.i := by
      rcases hr with ⟨h0, _⟩ | ⟨_, o, ho, _⟩
      · omega
      · intro e1; rw [e1, hn] at ho; cases ho
    have fs : ∀ id, fnd (l ++ [e]) id = if id = e.f.i then some e.f else fnd l id := fun id => by
      rw [fnd_snoc]
      by_cases e1 : id = e.f.i
      · subst e1; rw [hn]; simp [hk]
      · rw [if_neg e1]
        cases fnd l id with
        | some c => rfl
        | none => exact if_neg fun h => e1 h.2.symm
    have gs : ∀ id, gon (l ++ [e]) id = (gon l id || decide (e.f.r = id)) := fun id => by rw [gon_snoc]; unfold gn1; simp [hk]
    refine ⟨by simp; omega, fun id h0 hx => ?_, fun id c hx => ?_, hmem, fun a b ca cb ha hb hga hgb hc => ?_, hol_iff hmem, by rw [lst_snoc]; exact htt⟩
    · rw [gs, Bool.or_eq_true, decide_eq_true_eq] at hx
      rw [fs]
      split
      · rfl
      rcases hx with hx | rfl
      · exact I.gone id h0 hx
      · rcases hr with ⟨h2, _⟩ | ⟨_, o, ho, _⟩
        · omega
        · rw [ho]; rfl
    · rw [fs] at hx
      split at hx
      · cases hx; exact hv
      · exact I.val id c hx
    · rw [fs] at ha hb
      rw [gs] at hga hgb
      simp at hga hgb
      have other : ∀ x cx, fnd l x = some cx → gon l x = false → e.f.r ≠ x → cx.c ≠ e.f.c := fun x cx hx hgx hrx hcx => by
        rcases hr with ⟨_, h2⟩ | ⟨_, o, ho, hoc, hog⟩
        · rw [(I.hold e.f.c).2 ⟨x, cx, hx, hgx, hcx⟩] at h2; cases h2
        · exact hrx (I.one _ _ _ _ ho hx hog hgx (hoc.trans hcx.symm))
      by_cases ea : a = e.f.i
      · by_cases eb : b = e.f.i
        · rw [ea, eb]
        · rw [if_pos ea] at ha
          rw [if_neg eb] at hb
          cases ha
          exact absurd hc.symm (other b cb hb hgb.1 hgb.2)
      · rw [if_neg ea] at ha
        by_cases eb : b = e.f.i
        · rw [if_pos eb] at hb
          cases hb
          exact absurd hc (other a ca ha hga.1 hga.2)
        · rw [if_neg eb] at hb
          exact I.one a b ca cb ha hb hga.1 hgb.1 hc
  · have fs : ∀ id, fnd (l ++ [e]) id = fnd l id := fun id => by
      rw [fnd_snoc]
      cases fnd l id with
      | some c => rfl
      | none => simp [hk]
    have gs : ∀ id, gon (l ++ [e]) id = (gon l id || decide (e.f.i = id)) := fun id => by rw [gon_snoc]; unfold gn1; simp [hk]
    refine ⟨by simp; omega, fun id h0 hx => ?_, fun id c hx => ?_, hmem, fun a b ca cb ha hb hga hgb hc => ?_, hol_iff hmem, by rw [lst_snoc]; exact htt⟩
    · rw [gs, Bool.or_eq_true, decide_eq_true_eq] at hx
      rw [fs]
      rcases hx with hx | rfl
      · exact I.gone id h0 hx
      · rw [ho]; rfl
    · rw [fs] at hx; exact I.val id c hx
    · rw [fs] at ha hb
      rw [gs] at hga hgb
      simp at hga hgb
      exact I.one a b ca cb ha hb hga.1 hgb.1 hc
theorem inv_of {l : List Le} (h : V l) : Inv l := V_ind inv_nil (fun l e _ h1 ih => inv_step ih h1) _ l rfl h
end Go.Proofs.YtdikoffppjoomaaGreat.Ct
namespace Go.Proofs.YtdikoffppjoomaaGreat.Ct
set_option linter.unusedVariables false
set_option linter.unusedSimpArgs false

/-- The current certificate with a number. -/
def cu (l : List Le) (id : Int) : Option Cf := if gon l id = true then none else fnd l id
theorem cu_some {l : List Le} {id : Int} {c : Cf} : cu l id = some c ↔ fnd l id = some c ∧ gon l id = false := by
  unfold cu
  cases gon l id <;> simp
section
variable {l : List Le} {e : Le}
theorem iss_facts (I : Inv l) (h : nxt l e = 0) (hk : e.k = 0) : fnd l e.f.i = none ∧ gon l e.f.i = false ∧ e.f.r ≠ e.f.i ∧ (e.f.r = 0 → hol l e.f.c = false) ∧ (e.f.r ≠ 0 → ∃ o, fnd l e.f.r = some o ∧ o.c = e.f.c ∧ gon l e.f.r = false) ∧ vld e.f = true := by
  obtain ⟨_, _, h⟩ := nxt_0 h
  rcases h with ⟨_, hv, hn, hr⟩ | ⟨hk1, _⟩
  · have hid := vld_id hv
    refine ⟨hn, ?_, ?_, fun h0 => ?_, fun h0 => ?_, hv⟩
    · cases hc : gon l e.f.i
      · rfl
      · have := I.gone _ (by omega) hc; rw [hn] at this; cases this
    · rcases hr with ⟨h0, _⟩ | ⟨_, o, ho, _⟩
      · omega
      · intro e1; rw [e1, hn] at ho; cases ho
    · rcases hr with ⟨_, h1⟩ | ⟨h1, _⟩
      · exact h1
      · exact absurd h0 h1
    · rcases hr with ⟨h1, _⟩ | ⟨_, o, h1⟩
      · exact absurd h1 h0
      · exact ⟨o, h1⟩
  · omega
theorem rev_facts (h : nxt l e = 0) (hk : e.k ≠ 0) : e.k = 1 ∧ rvk e.f = true ∧ ∃ o, fnd l e.f.i = some o ∧ gon l e.f.i = false := by
  obtain ⟨_, _, h⟩ := nxt_0 h
  rcases h with ⟨h1, _⟩ | h1
  · exact absurd h1 hk
  · exact h1
theorem fs_iss (I : Inv l) (h : nxt l e = 0) (hk : e.k = 0) (id : Int) : fnd (l ++ [e]) id = if id = e.f.i then some e.f else fnd l id := by
  obtain ⟨hn, _⟩ := iss_facts I h hk
  rw [fnd_snoc]
  by_cases e1 : id = e.f.i
  · subst e1; rw [hn]; simp [hk]
  · rw [if_neg e1]
    cases fnd l id with
    | some c => rfl
    | none => exact if_neg fun h => e1 h.2.symm
theorem fs_rev (h : nxt l e = 0) (hk : e.k ≠ 0) (id : Int) : fnd (l ++ [e]) id = fnd l id := by
  rw [fnd_snoc]
  cases fnd l id with
  | some c => rfl
  | none => simp [hk]
theorem fnd_0 (I : Inv l) : fnd l 0 = none := by
  cases h : fnd l 0 with
  | none => rfl
  | some c => have h1 := vld_id (I.val _ _ h); have h2 := fnd_id h; omega
theorem cu_iss (I : Inv l) (h : nxt l e = 0) (hk : e.k = 0) (id : Int) : cu (l ++ [e]) id = if id = e.f.i then some e.f else if id = e.f.r then none else cu l id := by
  obtain ⟨hn, hg, hri, _, _, hv⟩ := iss_facts I h hk
  have hid := vld_id hv
  unfold cu
  rw [fs_iss I h hk, gon_snoc, show gn1 e id = decide (e.f.r = id) by unfold gn1; simp [hk]]
  by_cases e1 : id = e.f.i
  · subst e1; rw [if_pos rfl, if_pos rfl, hg, decide_eq_false hri]; rfl
  · rw [if_neg e1, if_neg e1]
    by_cases e2 : id = e.f.r
    · rw [if_pos e2, decide_eq_true e2.symm]; simp
    · rw [if_neg e2, decide_eq_false (fun h => e2 h.symm), Bool.or_false]
theorem cu_rev (h : nxt l e = 0) (hk : e.k ≠ 0) (id : Int) : cu (l ++ [e]) id = if id = e.f.i then none else cu l id := by
  obtain ⟨hk1, _⟩ := rev_facts h hk
  unfold cu
  rw [fs_rev h hk, gon_snoc, show gn1 e id = decide (e.f.i = id) by unfold gn1; simp [hk1]]
  by_cases e2 : id = e.f.i
  · rw [if_pos e2, decide_eq_true e2.symm]; simp
  · rw [if_neg e2, decide_eq_false (fun h => e2 h.symm), Bool.or_false]
theorem hol_cu (I : Inv l) (c : Int) : hol l c = true ↔ ∃ id ca, cu l id = some ca ∧ ca.c = c := by
  rw [I.hold]
  constructor
  · rintro ⟨id, ca, h1, h2, h3⟩; exact ⟨id, ca, cu_some.2 ⟨h1, h2⟩, h3⟩
  · rintro ⟨id, ca, h1, h3⟩; exact ⟨id, ca, (cu_some.1 h1).1, (cu_some.1 h1).2, h3⟩
theorem cu_one (I : Inv l) {a b : Int} {ca cb : Cf} (ha : cu l a = some ca) (hb : cu l b = some cb) (hc : ca.c = cb.c) : a = b :=
  I.one a b ca cb (cu_some.1 ha).1 (cu_some.1 hb).1 (cu_some.1 ha).2 (cu_some.1 hb).2 hc
theorem ho_iss (I : Inv l) (h : nxt l e = 0) (hk : e.k = 0) (c : Int) : hol (l ++ [e]) c = if c = e.f.c then true else hol l c := by
  obtain ⟨hn, hg, hri, h0, hr, hv⟩ := iss_facts I h hk
  have I' := inv_step I h
  by_cases e1 : c = e.f.c
  · rw [if_pos e1]
    exact (hol_cu I' c).2 ⟨e.f.i, e.f, by rw [cu_iss I h hk, if_pos rfl], e1.symm⟩
  · rw [if_neg e1, Bool.eq_iff_iff, hol_cu I', hol_cu I]
    constructor
    · rintro ⟨id, ca, h1, h2⟩
      rw [cu_iss I h hk] at h1
      split at h1
      · cases h1; exact absurd h2.symm e1
      · split at h1
        · cases h1
        · exact ⟨id, ca, h1, h2⟩
    · rintro ⟨id, ca, h1, h2⟩
      refine ⟨id, ca, ?_, h2⟩
      rw [cu_iss I h hk]
      have hne : id ≠ e.f.i := by intro e2; rw [e2, (show cu l e.f.i = none by unfold cu; rw [hg, hn]; rfl)] at h1; cases h1
      have hne2 : id ≠ e.f.r := by
        intro e2
        by_cases h00 : e.f.r = 0
        · rw [e2, h00, (show cu l 0 = none by unfold cu; rw [fnd_0 I]; simp)] at h1; cases h1
        · obtain ⟨o, ho, hoc, _⟩ := hr h00
          rw [e2] at h1
          have := (cu_some.1 h1).1
          rw [ho] at this
          cases this
          exact e1 (h2.symm.trans hoc)
      rw [if_neg hne, if_neg hne2]
      exact h1
theorem ho_rev (I : Inv l) (h : nxt l e = 0) (hk : e.k ≠ 0) {o : Cf} (ho : fnd l e.f.i = some o) (c : Int) : hol (l ++ [e]) c = if c = o.c then false else hol l c := by
  obtain ⟨hk1, _, o', ho', hg⟩ := rev_facts h hk
  obtain rfl : o = o' := by rw [ho] at ho'; cases ho'; rfl
  have I' := inv_step I h
  have hcu : cu l e.f.i = some o := cu_some.2 ⟨ho, hg⟩
  by_cases e1 : c = o.c
  · rw [if_pos e1, Bool.eq_false_iff]
    intro h1
    obtain ⟨id, ca, h2, h3⟩ := (hol_cu I' c).1 h1
    rw [cu_rev h hk] at h2
    split at h2
    · cases h2
    · rename_i hne
      exact hne (cu_one I h2 hcu (h3.trans e1))
  · rw [if_neg e1, Bool.eq_iff_iff, hol_cu I', hol_cu I]
    constructor
    · rintro ⟨id, ca, h1, h2⟩
      rw [cu_rev h hk] at h1
      split at h1
      · cases h1
      · exact ⟨id, ca, h1, h2⟩
    · rintro ⟨id, ca, h1, h2⟩
      refine ⟨id, ca, ?_, h2⟩
      rw [cu_rev h hk]
      have hne : id ≠ e.f.i := by intro e2; rw [e2, hcu] at h1; cases h1; exact e1 h2.symm
      rw [if_neg hne]
      exact h1
end
/-- A list ascends by number. -/
def Asc (l : List Cf) : Prop := l.Pairwise fun a b => a.i < b.i
def ins (c : Cf) : List Cf → List Cf
  | [] => [c]
  | d :: t => if c.i < d.i then c :: d :: t else d :: ins c t
theorem mem_ins {c x : Cf} : ∀ {l : List Cf}, x ∈ ins c l ↔ x = c ∨ x ∈ l
  | [] => by simp [ins]
  | d :: t => by
    unfold ins
    split
    · simp
    · simp [mem_ins (l := t)]
      constructor
      · rintro (h | h | h) <;> simp [h]
      · rintro (h | h | h) <;> simp [h]
theorem asc_ins {c : Cf} : ∀ {l : List Cf}, Asc l → (∀ d, d ∈ l → d.i ≠ c.i) → Asc (ins c l)
  | [], _, _ => by simp [ins, Asc]
  | d :: t, h, hd => by
    unfold Asc at h
    rw [List.pairwise_cons] at h
    unfold ins
    split
    · rename_i hl
      unfold Asc
      rw [List.pairwise_cons]
      refine ⟨fun x hx => ?_, List.pairwise_cons.2 h⟩
      rcases List.mem_cons.1 hx with rfl | hx
      · exact hl
      · have := h.1 x hx; omega
    · rename_i hl
      unfold Asc
      rw [List.pairwise_cons]
      refine ⟨fun x hx => ?_, asc_ins (l := t) h.2 fun y hy => hd y (by simp [hy])⟩
      rcases mem_ins.1 hx with rfl | hx
      · have := hd d (by simp); omega
      · exact h.1 x hx
theorem asc_eq : ∀ {a b : List Cf}, Asc a → Asc b → (∀ c, c ∈ a ↔ c ∈ b) → a = b
  | [], [], _, _, _ => rfl
  | [], d :: t, _, _, h => by have := (h d).2 (by simp); cases this
  | d :: t, [], _, _, h => by have := (h d).1 (by simp); cases this
  | c :: s, d :: t, ha, hb, h => by
    unfold Asc at ha hb
    rw [List.pairwise_cons] at ha hb
    have e : c = d := by
      have h1 := (h c).1 (by simp)
      have h2 := (h d).2 (by simp)
      rcases List.mem_cons.1 h1 with e | h1
      · exact e
      rcases List.mem_cons.1 h2 with e | h2
      · exact e.symm
      have h3 := hb.1 c h1
      have h4 := ha.1 d h2
      omega
    subst e
    congr 1
    refine asc_eq ha.2 hb.2 fun x => ?_
    have hx := h x
    simp only [List.mem_cons] at hx
    constructor
    · intro h1
      rcases hx.1 (.inr h1) with e | h2
      · subst e; have := ha.1 x h1; omega
      · exact h2
    · intro h1
      rcases hx.2 (.inr h1) with e | h2
      · subst e; have := hb.1 x h1; omega
      · exact h2
/-- The current certificates among the first entries, ascending by number. -/
def curN (L : List Le) : Nat → List Cf
  | 0 => []
  | n + 1 => if (gE L n).k = 0 ∧ gon L (gE L n).f.i = false then ins (gE L n).f (curN L n) else curN L n
def cur (L : List Le) : List Cf := curN L L.length
theorem gE_mem {L : List Le} {n : Nat} (h : n < L.length) : gE L n ∈ L := by
  unfold gE
  rw [List.getD_eq_getElem?_getD, List.getElem?_eq_getElem h]
  exact List.getElem_mem h
theorem take_gE {L : List Le} {n : Nat} (h : n < L.length) : L.take (n + 1) = L.take n ++ [gE L n] := by
  unfold gE
  rw [List.getD_eq_getElem?_getD, List.getElem?_eq_getElem h, List.take_succ_eq_append_getElem h]
  rfl
theorem mem_curN {L : List Le} {c : Cf} : ∀ {n : Nat}, c ∈ curN L n ↔ ∃ m, m < n ∧ (gE L m).k = 0 ∧ gon L (gE L m).f.i = false ∧ (gE L m).f = c
  | 0 => by simp [curN]
  | n + 1 => by
    unfold curN
    constructor
    · intro h
      split at h
      · rename_i h1
        rcases mem_ins.1 h with rfl | h
        · exact ⟨n, by omega, h1.1, h1.2, rfl⟩
        · obtain ⟨m, h2, h3⟩ := mem_curN.1 h; exact ⟨m, by omega, h3⟩
      · obtain ⟨m, h2, h3⟩ := mem_curN.1 h; exact ⟨m, by omega, h3⟩
    · rintro ⟨m, h1, h2, h3, h4⟩
      by_cases e : m = n
      · subst e; rw [if_pos ⟨h2, h3⟩]; exact mem_ins.2 (.inl h4.symm)
      · have := mem_curN.2 ⟨m, (by omega : m < n), h2, h3, h4⟩
        split
        · exact mem_ins.2 (.inr this)
        · exact this
theorem fnd_iss : ∀ {L : List Le} {x : Le}, x ∈ L → x.k = 0 → ∃ c, fnd L x.f.i = some c
  | y :: L, x, h, hk => by
    unfold fnd
    split
    · exact ⟨_, rfl⟩
    · rename_i hn
      rcases List.mem_cons.1 h with rfl | h
      · exact absurd ⟨hk, rfl⟩ hn
      · exact fnd_iss h hk
theorem gE_take {L : List Le} {m n : Nat} (h : m < n) : gE (L.take n) m = gE L m := by unfold gE; simp [List.getElem?_take, h]
theorem asc_curN {L : List Le} (hv : V L) : ∀ {n : Nat}, n ≤ L.length → Asc (curN L n)
  | 0, _ => by simp [curN, Asc]
  | n + 1, hn => by
    unfold curN
    split
    · rename_i h1
      refine asc_ins (asc_curN hv (by omega)) fun d hd => ?_
      obtain ⟨m, h2, h3, h4, rfl⟩ := mem_curN.1 hd
      have h5 := V_take hv (n + 1)
      rw [take_gE (by omega)] at h5
      obtain ⟨h6, h7⟩ := V_snoc.1 h5
      obtain ⟨h8, _⟩ := iss_facts (inv_of h6) h7 h1.1
      intro e
      have h9 : gE (L.take n) m ∈ L.take n := gE_mem (by simp; omega)
      rw [gE_take h2] at h9
      obtain ⟨c, hc⟩ := fnd_iss h9 h3
      rw [e, h8] at hc
      cases hc
    · exact asc_curN hv (by omega)
theorem asc_cur {L : List Le} (hv : V L) : Asc (cur L) := asc_curN hv (Nat.le_refl _)
theorem mem_gE {L : List Le} {x : Le} (h : x ∈ L) : ∃ m, m < L.length ∧ gE L m = x := by
  obtain ⟨m, hm, e⟩ := List.mem_iff_getElem.1 h
  refine ⟨m, hm, ?_⟩
  unfold gE
  rw [List.getD_eq_getElem?_getD, List.getElem?_eq_getElem hm]
  exact e
theorem mem_cur {L : List Le} (hv : V L) {c : Cf} : c ∈ cur L ↔ cu L c.i = some c := by
  unfold cur
  rw [mem_curN, cu_some]
  constructor
  · rintro ⟨m, h1, h2, h3, rfl⟩
    exact ⟨(inv_of hv).mem _ (gE_mem h1) h2, h3⟩
  · rintro ⟨h1, h2⟩
    obtain ⟨x, hx, hk, rfl⟩ := fnd_mem h1
    obtain ⟨m, hm, rfl⟩ := mem_gE hx
    exact ⟨m, hm, hk, h2, rfl⟩
theorem len_ins (c : Cf) : ∀ l : List Cf, (ins c l).length = l.length + 1
  | [] => rfl
  | d :: t => by
    unfold ins
    split
    · simp
    · simp [len_ins c t]
theorem len_curN (L : List Le) : ∀ n, (curN L n).length ≤ n
  | 0 => by simp [curN]
  | n + 1 => by
    have := len_curN L n
    unfold curN
    split
    · rw [len_ins]; omega
    · omega
/-- The list of ascending numbers gives the current certificates. -/
theorem cur_keys {L : List Le} (hv : V L) (ks : List Int) (hs : ks.Pairwise (· < ·)) (hm : ∀ k, k ∈ ks ↔ (cu L k).isSome = true) : ks.map (fun k => (fnd L k).getD default) = cur L := by
  have hcu : ∀ k, k ∈ ks → ∃ c, cu L k = some c ∧ (fnd L k).getD default = c ∧ c.i = k := fun k hk => by
    have h1 := (hm k).1 hk
    obtain ⟨c, hc⟩ := Option.isSome_iff_exists.1 h1
    exact ⟨c, hc, by rw [(cu_some.1 hc).1]; rfl, fnd_id (cu_some.1 hc).1⟩
  refine asc_eq ?_ (asc_cur hv) fun c => ?_
  · unfold Asc
    rw [List.pairwise_map]
    refine List.Pairwise.imp_of_mem (fun {a b} ha hb hab => ?_) hs
    obtain ⟨ca, _, e1, e2⟩ := hcu a ha
    obtain ⟨cb, _, e3, e4⟩ := hcu b hb
    rw [e1, e3]
    omega
  · rw [mem_cur hv, List.mem_map]
    constructor
    · rintro ⟨k, hk, e⟩
      obtain ⟨c', h1, h2, h3⟩ := hcu k hk
      rw [h2] at e
      subst e
      rw [h3]; exact h1
    · intro h
      have hk := (hm c.i).2 (by rw [h]; rfl)
      obtain ⟨c', h1, h2, h3⟩ := hcu _ hk
      refine ⟨c.i, hk, ?_⟩
      rw [h2]
      rw [h] at h1
      cases h1
      rfl
end Go.Proofs.YtdikoffppjoomaaGreat.Ct
