/- A region that draws its order, whose loads are taken first under a fact S on the world; S is not asked behind the operations of a list T, each of which waits, by itself or through others, for every load. No program in sight. -/
import Derived.OrdersHeld
import Derived.StillTail
import Derived.Deep.RegionHeld
namespace Go.Proofs.YtdikoffppjoomaaGreat.Am
open Go
set_option linter.unusedVariables false
set_option linter.unusedSimpArgs false

section
variable {P : Program} {ops : Array Oper} {Q : Exit → Act → World → Prop} {md : Region.Mode} {S : World → Prop}

/-- Operation t waits for i, by itself or through others. -/
def path (md : Region.Mode) (ops : Array Oper) : Nat → Nat → Nat → Bool
  | 0, t, i => Region.waitsFor md ops t i
  | f + 1, t, i => Region.waitsFor md ops t i || (List.range ops.size).any fun k => Region.waitsFor md ops t k && path md ops f k i
/-- What has come up is closed: whatever it waits for has come up, too. -/
def Cl (md : Region.Mode) (ops : Array Oper) (listed : Array Bool) : Prop := listed.size = ops.size ∧ ∀ j oj, ops[j]? = some oj → listed.getD j false = true → ∀ e ∈ oj.after, Region.binds md e = true → listed.getD e.on false = true
def clB (md : Region.Mode) (ops : Array Oper) (listed : Array Bool) : Bool :=
  decide (listed.size = ops.size) && (List.range ops.size).all fun j => !(listed.getD j false) || match ops[j]? with | some oj => oj.after.all fun e => !(Region.binds md e) || listed.getD e.on false | none => true
theorem clB_spec {listed : Array Bool} (h : clB md ops listed = true) : Cl md ops listed := by
  unfold clB at h
  rw [Bool.and_eq_true, decide_eq_true_eq, List.all_eq_true] at h
  refine ⟨h.1, fun j oj hj hl e he hb => ?_⟩
  have hlt : j < ops.size := by
    rcases Nat.lt_or_ge j ops.size with h' | h'
    · exact h'
    · rw [Array.getElem?_eq_none h'] at hj; cases hj
  have h1 := h.2 j (List.mem_range.2 hlt)
  rw [hl, hj] at h1
  simp only [Bool.not_true, Bool.false_or, Array.all_eq_true'] at h1
  have h2 := h1 e he
  rw [hb] at h2
  simpa using h2
theorem path_listed {listed : Array Bool} (hc : Cl md ops listed) : ∀ (f t i : Nat), path md ops f t i = true → listed.getD t false = true → listed.getD i false = true
  | 0, t, i, h, hl => by
    obtain ⟨ot, hot, e, he, hb, hon⟩ := Region.waitsFor_spec h
    have := hc.2 t ot hot hl e he hb
    rwa [hon] at this
  | f + 1, t, i, h, hl => by
    unfold path at h
    rw [Bool.or_eq_true] at h
    rcases h with h | h
    · obtain ⟨ot, hot, e, he, hb, hon⟩ := Region.waitsFor_spec h
      have := hc.2 t ot hot hl e he hb
      rwa [hon] at this
    · obtain ⟨k, _, hk⟩ := List.any_eq_true.1 h
      rw [Bool.and_eq_true] at hk
      obtain ⟨ot, hot, e, he, hb, hon⟩ := Region.waitsFor_spec hk.1
      have h1 := hc.2 t ot hot hl e he hb
      rw [hon] at h1
      exact path_listed hc f k i hk.2 h1
theorem ready_path {listed : Array Bool} (hc : Cl md ops listed) {f t i : Nat} (h : path md ops f t i = true) (ht : t ∈ Region.ready md ops listed) : listed.getD i false = true := by
  obtain ⟨_, ot, hot, hall⟩ := mem_ready.1 ht
  have direct : ∀ k, Region.waitsFor md ops t k = true → listed.getD k false = true := fun k hk => by
    obtain ⟨ot', hot', e, he, hb, hon⟩ := Region.waitsFor_spec hk
    rw [hot] at hot'
    cases hot'
    have := hall e he hb
    rwa [hon] at this
  cases f with
  | zero => exact direct i h
  | succ f =>
    unfold path at h
    rw [Bool.or_eq_true] at h
    rcases h with h | h
    · exact direct i h
    · obtain ⟨k, _, hk⟩ := List.any_eq_true.1 h
      rw [Bool.and_eq_true] at hk
      exact path_listed hc f k i hk.2 (direct k hk.1)
theorem Cl.set {listed : Array Bool} (hc : Cl md ops listed) {j : Nat} (hj : j ∈ Region.ready md ops listed) : Cl md ops (listed.setIfInBounds j true) := by
  obtain ⟨hun, oj, hoj, hall⟩ := mem_ready.1 hj
  have mono : ∀ k, listed.getD k false = true → (listed.setIfInBounds j true).getD k false = true := fun k hk => by
    by_cases e : j = k
    · subst e
      rcases Nat.lt_or_ge j listed.size with h' | h'
      · simp [h']
      · simp [Array.getElem?_eq_none h'] at hk
    · rw [getD_set_ne false e]; exact hk
  refine ⟨by simp [hc.1], fun k ok hk hl e he hb => ?_⟩
  by_cases e' : j = k
  · subst e'
    rw [hoj] at hk
    cases hk
    exact mono _ (hall e he hb)
  · rw [getD_set_ne false e'] at hl
    exact mono _ (hc.2 k ok hk hl e he hb)

/-- Whatever order is picked from here on, and S holds behind every operation that is not in T. -/
def wpAnyM (P : Program) (md : Region.Mode) (ops : Array Oper) (Q : Exit → Act → World → Prop) (S : World → Prop) (T : List Nat) : Nat → Array Bool → Act → World → Prop
  | 0, listed, a, w => Region.ready md ops listed = [] ∧ Q .normal a w
  | fuel + 1, listed, a, w =>
    (Region.ready md ops listed = [] → Q .normal a w) ∧
    ∀ i ∈ Region.ready md ops listed, wpOp P ops Q i (fun a' w' => (T.contains i = false → S w') ∧ wpAnyM P md ops Q S T fuel (listed.setIfInBounds i true) a' w') a w
theorem wpAny_of_M {T : List Nat} : ∀ (fuel : Nat) (listed : Array Bool) (a : Act) (w : World), wpAnyM P md ops Q S T fuel listed a w → wpAny P md ops Q fuel listed a w
  | 0, _, _, _, h => h
  | fuel + 1, _, _, _, h => ⟨h.1, fun i hi => wpOp_mono (fun a' w' h' => wpAny_of_M fuel _ a' w' h'.2) (h.2 i hi)⟩

theorem wpAnyM_first {T : List Nat} {i : Nat} {oi : Oper} {v : Value} (hi : ops[i]? = some oi) (hsel : ∀ (j : Nat) (o : Oper) cs b, ops[j]? = some o → o.op ≠ .select cs b)
    (hQ : ∀ c a w, Q (.panic c) (a.put oi.dst v) w → Q (.panic c) a w) :
    ∀ (fuel : Nat) (listed : Array Bool) (a : Act) (w : World), Cl md ops listed → (∀ t ∈ T, listed.getD t false = true ∨ path md ops ops.size t i = true) →
      (∀ j oj, ops[j]? = some oj → j ≠ i → listed.getD j true = false → (∀ e ∈ oj.after, Region.binds md e = true → e.on ≠ i) → oi.apart ops oj = true) →
      i ∈ Region.ready md ops listed → YieldsIf P ops S oi v a → S w →
      wpAnyM P md ops Q S T fuel (listed.setIfInBounds i true) (a.put oi.dst v) w → wpAnyM P md ops Q S T (fuel + 1) listed a w := by
  intro fuel
  induction fuel with
  | zero =>
    intro listed a w _ _ _ hr hy hS H
    refine ⟨fun h => (by rw [h] at hr; cases hr), fun j hj => ?_⟩
    by_cases hji : j = i
    · subst hji; exact hy.wpOp hi hS ⟨fun _ => hS, H⟩
    · have := ready_mono hj hji
      rw [H.1] at this
      cases this
  | succ fuel ih =>
    intro listed a w hcl hT hfree hr hy hS H
    refine ⟨fun h => (by rw [h] at hr; cases hr), fun j hj => ?_⟩
    by_cases hji : j = i
    · subst hji; exact hy.wpOp hi hS ⟨fun _ => hS, H⟩
    · have h1 := H.2 j (ready_mono hj hji)
      obtain ⟨hjun, oj, hoj, hall⟩ := mem_ready.1 hj
      have hiun := getD_both (mem_ready.1 hr).1
      have hnot : ∀ e ∈ oj.after, Region.binds md e = true → e.on ≠ i := fun e he hb heq => by
        have h1 := hall e he hb
        rw [heq, hiun] at h1
        cases h1
      have h2 := wpOp_putIf hoj (hfree j oj hoj hji hjun hnot) (fun cs b => hsel i oi cs b hi) (fun cs b => hsel j oj cs b hoj) hQ hy h1
      have hfree' : ∀ k ok, ops[k]? = some ok → k ≠ i → (listed.setIfInBounds j true).getD k true = false →
          (∀ e ∈ ok.after, Region.binds md e = true → e.on ≠ i) → oi.apart ops ok = true := fun k ok hk hki hun hno => by
        refine hfree k ok hk hki ?_ hno
        by_cases hjk : j = k
        · subst hjk; exact hjun
        · rw [getD_set_ne true hjk] at hun; exact hun
      have hjs : T.contains j = false := by
        cases hc : T.contains j with
        | false => rfl
        | true =>
          exfalso
          rcases hT j (by simpa using hc) with h0 | h0
          · rw [getD_both hjun] at h0; cases h0
          · have := ready_path hcl h0 hj
            rw [hiun] at this
            cases this
      have hT' : ∀ t ∈ T, (listed.setIfInBounds j true).getD t false = true ∨ path md ops ops.size t i = true := fun t ht => (hT t ht).imp (fun h0 => by
        by_cases e : j = t
        · subst e; rw [getD_both hjun] at h0; cases h0
        · rw [getD_set_ne false e]; exact h0) id
      refine wpOp_mono (fun a' w' h3 => ⟨fun _ => h3.2.1 hjs, ih (listed.setIfInBounds j true) a' w' (hcl.set hj) hT' hfree' (ready_mono hr (Ne.symm hji)) h3.1 (h3.2.1 hjs) ?_⟩) h2
      rw [Array.setIfInBounds_comm _ _ hji]
      exact h3.2.2
theorem wpAnyM_take {T : List Nat} {i : Nat} {oi : Oper} {v : Value} {fuel : Nat} {listed : Array Bool} {a : Act} {w : World} (hi : ops[i]? = some oi) (hT : (T.all fun t => listed.getD t false || path md ops ops.size t i) = true) (hcl : clB md ops listed = true)
    (hs : Region.noSelect ops = true) (hf : Region.free md ops listed i = true) (hr : (Region.ready md ops listed).contains i = true)
    (hQ : ∀ c a w, Q (.panic c) (a.put oi.dst v) w → Q (.panic c) a w) (hy : YieldsIf P ops S oi v a) (hS : S w)
    (h : wpAnyM P md ops Q S T fuel (listed.setIfInBounds i true) (a.put oi.dst v) w) : wpAnyM P md ops Q S T (fuel + 1) listed a w :=
  wpAnyM_first hi (Region.noSelect_spec hs) hQ fuel listed a w (clB_spec hcl) (fun t ht => by have := List.all_eq_true.1 hT t ht; rwa [Bool.or_eq_true] at this) (Region.free_spec hi hf) (by simpa using hr) hy hS h
/-- An operation of T that yields its value in whatever world may be taken first. -/
theorem wpAnyM_free {T : List Nat} {i : Nat} {oi : Oper} {v : Value} (hin : T.contains i = true) (hi : ops[i]? = some oi) (hsel : ∀ (j : Nat) (o : Oper) cs b, ops[j]? = some o → o.op ≠ .select cs b)
    (hQ : ∀ c a w, Q (.panic c) (a.put oi.dst v) w → Q (.panic c) a w) :
    ∀ (fuel : Nat) (listed : Array Bool) (a : Act) (w : World),
      (∀ j oj, ops[j]? = some oj → j ≠ i → listed.getD j true = false → (∀ e ∈ oj.after, Region.binds md e = true → e.on ≠ i) → oi.apart ops oj = true) →
      i ∈ Region.ready md ops listed → YieldsIf P ops (fun _ => True) oi v a →
      wpAnyM P md ops Q S T fuel (listed.setIfInBounds i true) (a.put oi.dst v) w → wpAnyM P md ops Q S T (fuel + 1) listed a w := by
  intro fuel
  induction fuel with
  | zero =>
    intro listed a w _ hr hy H
    refine ⟨fun h => (by rw [h] at hr; cases hr), fun j hj => ?_⟩
    by_cases hji : j = i
    · subst hji; exact hy.wpOp hi trivial ⟨fun h0 => (by rw [hin] at h0; cases h0), H⟩
    · have := ready_mono hj hji
      rw [H.1] at this
      cases this
  | succ fuel ih =>
    intro listed a w hfree hr hy H
    refine ⟨fun h => (by rw [h] at hr; cases hr), fun j hj => ?_⟩
    by_cases hji : j = i
    · subst hji; exact hy.wpOp hi trivial ⟨fun h0 => (by rw [hin] at h0; cases h0), H⟩
    · have h1 := H.2 j (ready_mono hj hji)
      obtain ⟨hjun, oj, hoj, hall⟩ := mem_ready.1 hj
      have hiun := getD_both (mem_ready.1 hr).1
      have hnot : ∀ e ∈ oj.after, Region.binds md e = true → e.on ≠ i := fun e he hb heq => by
        have h1 := hall e he hb
        rw [heq, hiun] at h1
        cases h1
      have h2 := wpOp_putIf hoj (hfree j oj hoj hji hjun hnot) (fun cs b => hsel i oi cs b hi) (fun cs b => hsel j oj cs b hoj) hQ hy h1
      have hfree' : ∀ k ok, ops[k]? = some ok → k ≠ i → (listed.setIfInBounds j true).getD k true = false →
          (∀ e ∈ ok.after, Region.binds md e = true → e.on ≠ i) → oi.apart ops ok = true := fun k ok hk hki hun hno => by
        refine hfree k ok hk hki ?_ hno
        by_cases hjk : j = k
        · subst hjk; exact hjun
        · rw [getD_set_ne true hjk] at hun; exact hun
      refine wpOp_mono (fun a' w' h3 => ⟨h3.2.1, ih (listed.setIfInBounds j true) a' w' hfree' (ready_mono hr (Ne.symm hji)) h3.1 ?_⟩) h2
      rw [Array.setIfInBounds_comm _ _ hji]
      exact h3.2.2
theorem wpAnyM_move {T : List Nat} {i : Nat} {oi : Oper} {v : Value} {fuel : Nat} {listed : Array Bool} {a : Act} {w : World} (hi : ops[i]? = some oi) (hin : T.contains i = true)
    (hs : Region.noSelect ops = true) (hf : Region.free md ops listed i = true) (hr : (Region.ready md ops listed).contains i = true)
    (hQ : ∀ c a w, Q (.panic c) (a.put oi.dst v) w → Q (.panic c) a w) (hy : YieldsIf P ops (fun _ => True) oi v a)
    (h : wpAnyM P md ops Q S T fuel (listed.setIfInBounds i true) (a.put oi.dst v) w) : wpAnyM P md ops Q S T (fuel + 1) listed a w :=
  wpAnyM_free hin hi (Region.noSelect_spec hs) hQ fuel listed a w (Region.free_spec hi hf) (by simpa using hr) hy h
/-- One alone may come up, and S is shown behind it. -/
theorem wpAnyM_one {T : List Nat} {i : Nat} {o : Oper} {fuel : Nat} {listed : Array Bool} {a : Act} {w : World} (hr : Region.ready md ops listed = [i]) (ho : ops[i]? = some o)
    (h : ∀ K' : Act → World → Prop, Shut (∀ a w, S w → (S w → wpAnyM P md ops Q S T fuel (listed.setIfInBounds i true) a w) → K' a w) → if Region.wanted o (yielded ops a.tmps) = true then Oper.wp P o a w K' Q else K' (a.put o.dst undef) w) : wpAnyM P md ops Q S T (fuel + 1) listed a w :=
  ⟨fun h0 => (by rw [hr] at h0; cases h0), fun j hj => (by
    rw [hr] at hj; simp at hj; subst hj
    exact wpOp_step ho (fun K' hK => h K' (fun a w hS hW => hK a w ⟨fun _ => hS, hW hS⟩)))⟩
/-- One of T alone may come up. -/
theorem wpAnyM_tail {T : List Nat} {i : Nat} {o : Oper} {fuel : Nat} {listed : Array Bool} {a : Act} {w : World} (hr : Region.ready md ops listed = [i]) (ho : ops[i]? = some o) (hi : T.contains i = true)
    (h : ∀ K' : Act → World → Prop, Shut (∀ a w, wpAnyM P md ops Q S T fuel (listed.setIfInBounds i true) a w → K' a w) → if Region.wanted o (yielded ops a.tmps) = true then Oper.wp P o a w K' Q else K' (a.put o.dst undef) w) : wpAnyM P md ops Q S T (fuel + 1) listed a w :=
  ⟨fun h0 => (by rw [hr] at h0; cases h0), fun j hj => (by
    rw [hr] at hj; simp at hj; subst hj
    exact wpOp_step ho (fun K' hK => h K' (fun a w hW => hK a w ⟨fun h0 => (by rw [hi] at h0; cases h0), hW⟩)))⟩
theorem wpAnyM_done {T : List Nat} {listed : Array Bool} {a : Act} {w : World} (hr : Region.ready md ops listed = []) (h : Q .normal a w) :
    ∀ fuel, wpAnyM P md ops Q S T fuel listed a w
  | 0 => ⟨hr, h⟩
  | _ + 1 => ⟨fun _ => h, by rw [hr]; simp⟩
theorem wp_region_M {id : Nat} {a : Act} {w : World} (T : List Nat) (hm : P.follows .mixedOrders = true) (hS : S w.drew)
    (h : S w.drew → wpAnyM P .any ops Q S T ops.size (Array.replicate ops.size false) a w.drew) : (Code.region id ops true).wp P Q a w :=
  wp_region_any hm (wpAny_of_M _ _ _ _ (h hS))
end
end Go.Proofs.YtdikoffppjoomaaGreat.Am
namespace Go.Proofs.YtdikoffppjoomaaGreat.An
open Go
set_option linter.unusedVariables false
set_option linter.unusedSimpArgs false

open Go.Proofs.YtdikoffppjoomaaGreat.Am (path Cl clB clB_spec path_listed ready_path)
section
variable {P : Program} {ops : Array Oper} {Q : Exit → Act → World → Prop} {md : Region.Mode} {S : World → Prop}

/-- One of T has come up. -/
def up (T : List Nat) (listed : Array Bool) : Bool := T.any fun t => listed.getD t false
theorem up_set {T : List Nat} {listed : Array Bool} {i : Nat} (h : T.contains i = false) (hz : up T listed = false) : up T (listed.setIfInBounds i true) = false := by
  unfold up at *
  rw [List.any_eq_false] at *
  intro t ht h1
  have hne : i ≠ t := fun e => by subst e; simp at h; exact h ht
  rw [getD_set_ne false hne] at h1
  exact hz t ht h1
theorem up_of {T : List Nat} {listed : Array Bool} {j : Nat} (hj : j < listed.size) (hz : up T (listed.setIfInBounds j true) = false) : T.contains j = false ∧ up T listed = false := by
  unfold up at *
  rw [List.any_eq_false] at hz
  constructor
  · cases hc : T.contains j with
    | false => rfl
    | true => exact absurd (by simp [hj]) (hz j (by simpa using hc))
  · rw [List.any_eq_false]
    intro t ht h1
    refine hz t ht ?_
    by_cases e : j = t
    · subst e; simp [hj]
    · rw [getD_set_ne false e]; exact h1
/-- Whatever order is picked from here on, and S holds behind every operation that is not in T, as long as none of T has come up. -/
def wpAnyN (P : Program) (md : Region.Mode) (ops : Array Oper) (Q : Exit → Act → World → Prop) (S : World → Prop) (T : List Nat) : Nat → Array Bool → Act → World → Prop
  | 0, listed, a, w => Region.ready md ops listed = [] ∧ Q .normal a w
  | fuel + 1, listed, a, w =>
    (Region.ready md ops listed = [] → Q .normal a w) ∧
    ∀ i ∈ Region.ready md ops listed, wpOp P ops Q i (fun a' w' => (up T (listed.setIfInBounds i true) = false → S w') ∧ wpAnyN P md ops Q S T fuel (listed.setIfInBounds i true) a' w') a w
theorem wpAny_of_N {T : List Nat} : ∀ (fuel : Nat) (listed : Array Bool) (a : Act) (w : World), wpAnyN P md ops Q S T fuel listed a w → wpAny P md ops Q fuel listed a w
  | 0, _, _, _, h => h
  | fuel + 1, _, _, _, h => ⟨h.1, fun i hi => wpOp_mono (fun a' w' h' => wpAny_of_N fuel _ a' w' h'.2) (h.2 i hi)⟩

theorem wpAnyN_first {T : List Nat} {i : Nat} {oi : Oper} {v : Value} {E : World → Prop} (hi : ops[i]? = some oi) (hin : T.contains i = false) (hsel : ∀ (j : Nat) (o : Oper) cs b, ops[j]? = some o → o.op ≠ .select cs b)
    (hQ : ∀ c a w, Q (.panic c) (a.put oi.dst v) w → Q (.panic c) a w) (hE : ∀ w, S w → E w) (hb : (∀ w, E w) ∨ ∀ t ∈ T, path md ops ops.size t i = true) :
    ∀ (fuel : Nat) (listed : Array Bool) (a : Act) (w : World), Cl md ops listed →
      (∀ j oj, ops[j]? = some oj → j ≠ i → listed.getD j true = false → (∀ e ∈ oj.after, Region.binds md e = true → e.on ≠ i) → oi.apart ops oj = true) →
      i ∈ Region.ready md ops listed → YieldsIf P ops E oi v a → (up T listed = false → S w) →
      wpAnyN P md ops Q S T fuel (listed.setIfInBounds i true) (a.put oi.dst v) w → wpAnyN P md ops Q S T (fuel + 1) listed a w := by
  have noT : ∀ (listed : Array Bool), Cl md ops listed → i ∈ Region.ready md ops listed → (∀ w, E w) ∨ up T listed = false := fun listed hcl hr => by
    refine hb.imp id (fun h => ?_)
    unfold up
    rw [List.any_eq_false]
    intro t ht h1
    have h2 := path_listed hcl ops.size t i (h t ht) h1
    rw [getD_both (mem_ready.1 hr).1] at h2
    cases h2
  intro fuel
  induction fuel with
  | zero =>
    intro listed a w hcl _ hr hy hS H
    have hw : E w := (noT listed hcl hr).elim (fun h => h w) (fun h => hE w (hS h))
    refine ⟨fun h => (by rw [h] at hr; cases hr), fun j hj => ?_⟩
    by_cases hji : j = i
    · subst hji; exact hy.wpOp hi hw ⟨fun hz => hS (up_of (by have h1 := (mem_ready.1 hj).1; rcases Nat.lt_or_ge j listed.size with h' | h'; exact h'; rw [hcl.1] at h'; rw [Array.getElem?_eq_none h'] at hi; cases hi) hz).2, H⟩
    · have := ready_mono hj hji
      rw [H.1] at this
      cases this
  | succ fuel ih =>
    intro listed a w hcl hfree hr hy hS H
    have hw : E w := (noT listed hcl hr).elim (fun h => h w) (fun h => hE w (hS h))
    have inb : ∀ (k : Nat) (ok : Oper), ops[k]? = some ok → k < listed.size := fun k ok hk => by
      rcases Nat.lt_or_ge k listed.size with h' | h'
      · exact h'
      · rw [hcl.1] at h'; rw [Array.getElem?_eq_none h'] at hk; cases hk
    refine ⟨fun h => (by rw [h] at hr; cases hr), fun j hj => ?_⟩
    by_cases hji : j = i
    · subst hji; exact hy.wpOp hi hw ⟨fun hz => hS (up_of (inb j oi hi) hz).2, H⟩
    · have h1 := H.2 j (ready_mono hj hji)
      obtain ⟨hjun, oj, hoj, hall⟩ := mem_ready.1 hj
      have hiun := getD_both (mem_ready.1 hr).1
      have hnot : ∀ e ∈ oj.after, Region.binds md e = true → e.on ≠ i := fun e he hb heq => by
        have h1 := hall e he hb
        rw [heq, hiun] at h1
        cases h1
      have h2 := wpOp_putIf hoj (hfree j oj hoj hji hjun hnot) (fun cs b => hsel i oi cs b hi) (fun cs b => hsel j oj cs b hoj) hQ hy h1
      have hfree' : ∀ k ok, ops[k]? = some ok → k ≠ i → (listed.setIfInBounds j true).getD k true = false →
          (∀ e ∈ ok.after, Region.binds md e = true → e.on ≠ i) → oi.apart ops ok = true := fun k ok hk hki hun hno => by
        refine hfree k ok hk hki ?_ hno
        by_cases hjk : j = k
        · subst hjk; exact hjun
        · rw [getD_set_ne true hjk] at hun; exact hun
      have hup : up T (listed.setIfInBounds j true) = false → up T ((listed.setIfInBounds i true).setIfInBounds j true) = false := fun hz => by
        rw [Array.setIfInBounds_comm _ _ (Ne.symm hji)]
        exact up_set hin hz
      refine wpOp_mono (fun a' w' h3 => ⟨fun hz => h3.2.1 (hup hz), ih (listed.setIfInBounds j true) a' w' (hcl.set hj) hfree' (ready_mono hr (Ne.symm hji)) h3.1 (fun hz => h3.2.1 (hup hz)) ?_⟩) h2
      rw [Array.setIfInBounds_comm _ _ hji]
      exact h3.2.2
/-- A load: every operation of T waits for it. -/
theorem wpAnyN_take {T : List Nat} {i : Nat} {oi : Oper} {v : Value} {fuel : Nat} {listed : Array Bool} {a : Act} {w : World} (hi : ops[i]? = some oi) (hT : (T.all fun t => path md ops ops.size t i) = true) (hin : T.contains i = false) (hcl : clB md ops listed = true)
    (hs : Region.noSelect ops = true) (hf : Region.free md ops listed i = true) (hr : (Region.ready md ops listed).contains i = true)
    (hQ : ∀ c a w, Q (.panic c) (a.put oi.dst v) w → Q (.panic c) a w) (hy : YieldsIf P ops S oi v a) (hS : up T listed = false → S w)
    (h : wpAnyN P md ops Q S T fuel (listed.setIfInBounds i true) (a.put oi.dst v) w) : wpAnyN P md ops Q S T (fuel + 1) listed a w :=
  wpAnyN_first (E := S) hi hin (Region.noSelect_spec hs) hQ (fun _ h => h) (.inr (fun t ht => List.all_eq_true.1 hT t ht)) fuel listed a w (clB_spec hcl) (Region.free_spec hi hf) (by simpa using hr) hy hS h
/-- An operation that yields its value in whatever world. -/
theorem wpAnyN_move {T : List Nat} {i : Nat} {oi : Oper} {v : Value} {fuel : Nat} {listed : Array Bool} {a : Act} {w : World} (hi : ops[i]? = some oi) (hin : T.contains i = false) (hcl : clB md ops listed = true)
    (hs : Region.noSelect ops = true) (hf : Region.free md ops listed i = true) (hr : (Region.ready md ops listed).contains i = true)
    (hQ : ∀ c a w, Q (.panic c) (a.put oi.dst v) w → Q (.panic c) a w) (hy : YieldsIf P ops (fun _ => True) oi v a) (hS : up T listed = false → S w)
    (h : wpAnyN P md ops Q S T fuel (listed.setIfInBounds i true) (a.put oi.dst v) w) : wpAnyN P md ops Q S T (fuel + 1) listed a w :=
  wpAnyN_first (E := fun _ => True) hi hin (Region.noSelect_spec hs) hQ (fun _ _ => trivial) (.inl fun _ => trivial) fuel listed a w (clB_spec hcl) (Region.free_spec hi hf) (by simpa using hr) hy hS h
/-- One alone may come up, and S is shown behind it as long as none of T has come up. -/
theorem wpAnyN_one {T : List Nat} {i : Nat} {o : Oper} {fuel : Nat} {listed : Array Bool} {a : Act} {w : World} (hr : Region.ready md ops listed = [i]) (ho : ops[i]? = some o)
    (h : ∀ K' : Act → World → Prop, Shut (∀ a w, (up T (listed.setIfInBounds i true) = false → S w) → ((up T (listed.setIfInBounds i true) = false → S w) → wpAnyN P md ops Q S T fuel (listed.setIfInBounds i true) a w) → K' a w) → if Region.wanted o (yielded ops a.tmps) = true then Oper.wp P o a w K' Q else K' (a.put o.dst undef) w) : wpAnyN P md ops Q S T (fuel + 1) listed a w :=
  ⟨fun h0 => (by rw [hr] at h0; cases h0), fun j hj => (by
    rw [hr] at hj; simp at hj; subst hj
    exact wpOp_step ho (fun K' hK => h K' (fun a w hS hW => hK a w ⟨hS, hW hS⟩)))⟩
theorem wpAnyN_done {T : List Nat} {listed : Array Bool} {a : Act} {w : World} (hr : Region.ready md ops listed = []) (h : Q .normal a w) :
    ∀ fuel, wpAnyN P md ops Q S T fuel listed a w
  | 0 => ⟨hr, h⟩
  | _ + 1 => ⟨fun _ => h, by rw [hr]; simp⟩
theorem wp_region_N {id : Nat} {a : Act} {w : World} (T : List Nat) (hm : P.follows .mixedOrders = true) (hS : S w.drew)
    (h : (∀ b : Bool, b = false → S w.drew) → wpAnyN P .any ops Q S T ops.size (Array.replicate ops.size false) a w.drew) : (Code.region id ops true).wp P Q a w :=
  wp_region_any hm (wpAny_of_N _ _ _ _ (h (fun _ _ => hS)))
end
end Go.Proofs.YtdikoffppjoomaaGreat.An
