/- Appends of digests whose run is known, in a region that draws its order. -/
import Derived.Test.YtmdgghdmfipllaaRD
import Derived.Test.YtmdgghdmfipllaaAM
import Derived.Maps.AppendAt
namespace Go.Proofs.Ytmdgghdmfipllaa.Tr
open Go.RowKit Go.Proofs.Ytmdgghdmfipllaa.Dg
open Go.Proofs.Ytmdgghdmfipllaa.Mw (Bk)
set_option linter.unusedVariables false
set_option linter.unusedSimpArgs false

theorem dl_len (d : St) : (dl d).length = 4 := rfl
theorem rdd_nil {w : World} {l : List St} (h : RdD w none l) : l = [] := by
  cases l with
  | nil => rfl
  | cons a l => obtain ⟨b, off, e, _⟩ := h 0 (by simp); cases e
theorem flatD_at : ∀ (l : List St) (i j : Nat), i < l.length → j < 4 → (l.flatMap dl)[i * 4 + j]? = (dl (gd l i))[j]?
  | x :: l, 0, j, _, hj => by
    rw [List.flatMap_cons, Nat.zero_mul, Nat.zero_add, List.getElem?_append_left (by rw [dl_len]; exact hj)]; rfl
  | x :: l, i + 1, j, hi, hj => by
    have h1 : (i + 1) * 4 + j = 4 + (i * 4 + j) := by omega
    rw [List.flatMap_cons, h1, List.getElem?_append_right (by rw [dl_len]; omega), dl_len, Nat.add_sub_cancel_left, flatD_at l i j (by simpa using hi) hj]
    rfl
theorem rdd_news {w : World} {a : Addr} {l : List St} (h : RdD w (some a) l) : ∀ (j : Nat) (u : Value), (l.flatMap dl)[j]? = some u → w.cell? (a.add j) = some u := fun j u hu => by
  have hj : j < (l.flatMap dl).length := by
    rcases Nat.lt_or_ge j (l.flatMap dl).length with h1 | h1
    · exact h1
    · rw [List.getElem?_eq_none h1] at hu; cases hu
  rw [flat_len] at hj
  have hi : j / 4 < l.length := by omega
  obtain ⟨b, off, e, _, hc⟩ := h (j / 4) hi
  cases e
  have e2 : j / 4 * 4 + j % 4 = j := by omega
  have h3 := flatD_at l (j / 4) (j % 4) hi (Nat.mod_lt _ (by omega))
  rw [e2, hu] at h3
  have h4 := hc (j % 4) u h3.symm
  have e1 : (⟨b, off, none⟩ : Addr).add j = ⟨b, off + j, none⟩ := by
    unfold Addr.add
    by_cases h : j = 0
    · subst h; rfl
    · simp [h]
  rw [e1, ← h4, Nat.add_assoc, e2]
theorem app_runD {w : World} {base : Nat} {v : Value} {xs l : List St} {A : Option Addr} {c : Nat} (hown : w.ownsRow base 34 4 v xs.length (xs.flatMap dl)) (hr : RdD w A l) (h1 : xs.length + l.length ≤ 100000) (hb : base ≤ w.heap.size) :
    ∃ v' w', (Builtin.append_ #[27, 27] 27 #[v, .slice A l.length c]).run Try.prog w = .ok v' w' ∧ w'.ownsRow base 34 4 v' (xs ++ l).length ((xs ++ l).flatMap dl) ∧ w.grownBy w' v.ownBlock := by
  obtain ⟨i0, hi0, hz0, hz1, hz2⟩ := info_parts infoDig
  rcases A with _ | a
  · obtain rfl := rdd_nil hr
    refine ⟨v, w, ?_, by simpa using hown, Mw.gb_refl _ _⟩
    rcases hown.2 with ⟨rfl, h0⟩ | ⟨g, cap, cur, rfl, hg, hh, hc, hm, _⟩
    · simp [Builtin.append_, run_underlying Try.underlying27, sizeOf, typeInfo, hi0, Builtin.lenOf, Builtin.firstCells]
    · simp [Builtin.append_, run_underlying Try.underlying27, sizeOf, typeInfo, hi0, Builtin.lenOf, Builtin.firstCells, hc, storeCells]
  · obtain ⟨v', w', h2, h3, h4, -, -⟩ := run_append_own_at (P := Try.prog) (w := w) base 27 27 34 i0 (dv (0, 0, 0, 0)) 4 16 Try.underlying27 hi0 hz0 hz1 hz2 rfl (by decide) v xs.length (xs.flatMap dl) hown a l.length c (l.flatMap dl) (flat_len l) (rdd_news hr) (fun u hu => by obtain ⟨d, _, hd⟩ := List.mem_flatMap.1 hu; exact one_dig d u hd) (by simp only [maxLen]; omega) (by omega) hb
    exact ⟨v', w', h2, by rw [List.flatMap_append, List.length_append]; exact h3, h4⟩
theorem wp_append_run {P : Program} {o : Oper} {a : Act} {w : World} {K : Act → World → Prop} {Q : Exit → Act → World → Prop} (s x : Operand) (t : TypeId)
    (ho : o.op = .call { callee := .builtin .append, args := #[s, x], argTypes := #[t, t] }) (v u : Value) (hs : a.eval s = v) (hx : a.eval x = u) (v' : Value) (w' : World)
    (hrun : (Builtin.append_ #[t, t] o.type #[v, u]).run P w = .ok v' w') (h : K (a.put o.dst v') w') : Oper.wp P o a w K Q := by
  unfold Oper.wp execOp
  simp only [ho, resolve, invoke, builtin, Sem.run_bind, Sem.run_pure, Result.andThen_ok, List.map_toArray, List.map_cons, List.map_nil, hs, hx, hrun]
  exact h
end Go.Proofs.Ytmdgghdmfipllaa.Tr
