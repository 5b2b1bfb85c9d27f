/- Plain law: the proof of a current certificate verifies; the example of the chapter. -/
import Derived.Test.YtdikoffppjoomaaGreatCR
import Derived.Test.YtdikoffppjoomaaGreatCS
import Derived.Test.YtdikoffppjoomaaGreatCX
import Derived.Test.YtdikoffppjoomaaGreatSC
import Derived.WalkKit
import Derived.WalkSpells
import Derived.WalkLawsBesides
import Derived.Deep.QuietTactic
import Derived.BigQuiet
import Derived.Deep.Draws
import Derived.Deep.AppendLies
import Derived.Laws.OwnMore
import Derived.Laws.BytesArg
import Derived.Lib.Hide
import Derived.Deep.LoopGhost
namespace Go.Proofs.YtdikoffppjoomaaGreat.Ct
open Go.RowKit Go.Proofs.YtdikoffppjoomaaGreat.Dg
open Go.Proofs.YtdikoffppjoomaaGreat.Mw (I64 ret_int ret_bool Bk bl_trans own_ints RdI RdR ge ge_lt gi ge_mem own_rows)
open Go.Proofs.YtdikoffppjoomaaGreat.Tr (RdD leaf root path pathE leadE gd lead)
open Go.Proofs.YtdikoffppjoomaaGreat.Sg (Wd sgv ver chal val sR sS pw ver_signed)
set_option linter.unusedVariables false
set_option linter.unusedSimpArgs false
set_option maxRecDepth 100000

theorem fix_p {α : Type} [Inhabited α] {p : α → Bool} : ∀ {l : List α} {n : Nat}, (∃ x, x ∈ l ∧ p x = true) → ∃ k : Nat, k < l.length ∧ fix p l n = ((n + k : Nat) : Int) ∧ p (ge l k) = true
  | [], _, ⟨x, h, _⟩ => by cases h
  | y :: l, n, ⟨x, h, hp⟩ => by
    unfold fix
    by_cases hy : p y = true
    · rw [if_pos hy]
      exact ⟨0, by simp, by simp, hy⟩
    · rw [if_neg hy]
      rcases List.mem_cons.1 h with rfl | h
      · exact absurd hp hy
      · obtain ⟨k, hk, e, hq⟩ := fix_p (n := n + 1) ⟨x, h, hp⟩
        exact ⟨k + 1, by simp; omega, by rw [e]; congr 1; omega, hq⟩
theorem gd_map {α : Type} [Inhabited α] (f : α → St) (l : List α) (k : Nat) (h : k < l.length) : gd (l.map f) k = f (ge l k) := by
  unfold Tr.gd
  have := Mw.ge_lt l k h
  rw [List.getD_eq_getElem?_getD, List.getElem?_map, this]; rfl
/-- A path of a list leads to its root. -/
theorem ld_path {l : List St} {k : Nat} (hk : k < l.length) (h : l.length ≤ 256) (d : St) (hd : gd l k = d) : ldE d (k : Int) (l.length : Int) (pathE l (k : Int)).1 (root l) = true := by
  have h1 : (pathE l (k : Int)).1 = path l k := by
    unfold Tr.pathE
    rw [if_neg (by omega), if_neg (by omega)]; simp
  have h2 : leadE (leaf d) (k : Int) (l.length : Int) (path l k) = (root l, 0) := by
    unfold Tr.leadE
    rw [if_neg (by omega), if_neg (by omega), Int.toNat_natCast, Int.toNat_natCast, ← hd, Tr.lead_path l.length l k (Nat.le_refl _) hk]
    simp
  unfold ldE
  rw [h1, h2]
  simp [eqb_self]
section
variable {l : List Le} {c : Cf}
theorem at_index (hV : V l) (hc : c ∈ cur l) : ∃ k : Nat, k < l.length ∧ fix (fun x => is1 x c.i) l 0 = (k : Int) ∧ ge l k = ⟨0, c⟩ := by
  have hcu := cu_some.1 ((mem_cur hV).1 hc)
  obtain ⟨xe, hxe, hxk, hxf⟩ := fnd_mem hcu.1
  obtain ⟨k, hk, e, hp⟩ := fix_p (p := fun x => is1 x c.i) (l := l) (n := 0) ⟨xe, hxe, decide_eq_true ⟨hxk, by rw [hxf]⟩⟩
  have hp2 : (ge l k).k = 0 ∧ (ge l k).f.i = c.i := of_decide_eq_true hp
  have h3 := (inv_of hV).mem _ (ge_mem l k hk) hp2.1
  rw [hp2.2, hcu.1] at h3
  injection h3 with h3
  refine ⟨k, hk, by rw [e]; congr 1; omega, ?_⟩
  generalize hx : ge l k = y at *
  obtain ⟨yk, yf⟩ := y
  obtain ⟨rfl, _⟩ := hp2
  rw [show yf = c from h3.symm]
theorem at_place (hV : V l) (hc : c ∈ cur l) : ∃ k : Nat, k < (cur l).length ∧ fix (fun x => decide (x.i = c.i)) (cur l) 0 = (k : Int) ∧ ge (cur l) k = c := by
  obtain ⟨k, hk, e, hp⟩ := fix_p (p := fun x : Cf => decide (x.i = c.i)) (l := cur l) (n := 0) ⟨c, hc, decide_eq_true rfl⟩
  have hp2 : (ge (cur l) k).i = c.i := of_decide_eq_true hp
  have h1 := (mem_cur hV).1 (ge_mem (cur l) k hk)
  have h2 := (mem_cur hV).1 hc
  rw [hp2, h2] at h1
  injection h1 with h1
  exact ⟨k, hk, by rw [e]; congr 1; omega, h1.symm⟩
/-- The proof of a current certificate verifies against the sealed head. -/
theorem vrf_yes (hV : V l) (hc : c ∈ cur l) {s : Int} (hs : val s = true) : vrf (pw 4 s) (hd1 s l) c (pvo l c.i).ix (pvo l c.i).pl (pvo l c.i).pa (pvo l c.i).sp = 0 := by
  have hle := (inv_of hV).len
  have hcl := len_curN l l.length
  unfold vrf
  rw [if_neg (by rw [cur_vld hV hc]; simp)]
  have h1 : ver (pw 4 s) (hd1 s l).R (hd1 s l).S (chal (hd1 s l).R (pw 4 s) (dgH (hd1 s l))) = true := by
    rw [dgH_hd1]
    exact ver_signed s (dgH (hd0 l)) hs
  rw [if_neg (by rw [h1]; simp)]
  obtain ⟨k, hk, e1, hg⟩ := at_index hV hc
  obtain ⟨j, hj, e2, hg2⟩ := at_place hV hc
  have l1 : (l.map dgE).length = l.length := List.length_map ..
  have l2 : ((cur l).map dgC).length = (cur l).length := List.length_map ..
  have h2 := ld_path (l := l.map dgE) (k := k) (by omega) (by omega) (dgE ⟨0, c⟩) (by rw [gd_map dgE l k hk, hg])
  have h3 := ld_path (l := (cur l).map dgC) (k := j) (by omega) (by unfold cur at *; omega) (dgC c) (by rw [gd_map dgC (cur l) j hj, hg2])
  rw [l1] at h2
  rw [l2] at h3
  have h4 : ldE (dgE ⟨0, c⟩) (pvo l c.i).ix (hd1 s l).n (pvo l c.i).pa (hd1 s l).r = true := by
    show ldE (dgE ⟨0, c⟩) (fix (fun x => is1 x c.i) l 0) (l.length : Int) (pathE (l.map dgE) (fix (fun x => is1 x c.i) l 0)).1 (root (l.map dgE)) = true
    rw [e1]; exact h2
  have h5 : ldE (dgC c) (pvo l c.i).pl (hd1 s l).c (pvo l c.i).sp (hd1 s l).l = true := by
    show ldE (dgC c) (fix (fun x => decide (x.i = c.i)) (cur l) 0) ((cur l).length : Int) (pathE ((cur l).map dgC) (fix (fun x => decide (x.i = c.i)) (cur l) 0)).1 (root ((cur l).map dgC)) = true
    rw [e2]; exact h3
  rw [if_neg (by rw [h4]; simp), if_neg (by rw [h5]; simp)]
end
/-! The digests of the example, by computation. -/
def stepC (s : St) (x y : Int) : St :=
  let p := itr 12 (xor32 s.1 x, xor32 s.2.1 y, s.2.2.1, s.2.2.2)
  (p.1, p.2.1, xor32 p.2.2.1 x, xor32 p.2.2.2 y)
def wstC (tag : Int) (l : List Int) : Nat → St
  | 0 => (1702391089, 1651466610, tag, (l.length : Int) % 4294967296)
  | m + 1 => stepC (wstC tag l m) (Dg.gi l (2 * m)) (Dg.gi l (2 * m + 1))
def wordsC (tag : Int) (l : List Int) : St :=
  let s := wstC tag l ((l.length + 1) / 2)
  itr 12 (itr 12 (s.1, s.2.1, xor32 s.2.2.1 4294967295, s.2.2.2))
theorem wst_C (tag : Int) (l : List Int) : ∀ m, wst tag l m = wstC tag l m
  | 0 => rfl
  | m + 1 => by
    show wstep (wst tag l m) _ _ = stepC (wstC tag l m) _ _
    rw [wst_C tag l m]
    unfold wstep stepC
    simp only [perm_eq]
theorem words_C (tag : Int) (l : List Int) : words tag l = wordsC tag l := by
  unfold words wordsC
  simp only [perm_eq, wst_C]
def leafC (d : St) : St := wordsC 0 [d.1, d.2.1, d.2.2.1, d.2.2.2]
theorem leaf_C (d : St) : leaf d = leafC d := words_C _ _
def exA : Cf := ⟨1, 7, 3, 0, 0⟩
def exB : Cf := ⟨2, 7, 2, 1, 1⟩
def exL : List Le := [⟨0, exA⟩, ⟨0, exB⟩]
theorem leaf_ne : eqb (leaf (dgC exA)) (leaf (dgC exB)) = false := by
  rw [leaf_C, leaf_C]
  unfold dgC
  rw [words_C, words_C]
  decide +kernel
theorem ex_V : V exL := by unfold V; decide
theorem ex_chk : chk exL = 0 := chk_V ex_V
theorem ex_cur : cur exL = [exB] := by decide
theorem ex_1 : prv exL 1 = (pv0, 46) := by
  unfold prv
  rw [if_pos ex_chk, if_pos (by decide), if_pos (by decide)]
theorem ex_2 : prv exL 2 = (pvo exL 2, 0) := by
  unfold prv
  rw [if_pos ex_chk, if_pos (by decide), if_neg (by decide)]
theorem ex_yes : vrf (pw 4 5) (hd1 5 exL) exB (pvo exL 2).ix (pvo exL 2).pl (pvo exL 2).pa (pvo exL 2).sp = 0 := vrf_yes (c := exB) ex_V (by rw [ex_cur]; simp) (by decide)
theorem ex_no : vrf (pw 4 5) (hd1 5 exL) exA (pvo exL 2).ix (pvo exL 2).pl (pvo exL 2).pa (pvo exL 2).sp ≠ 0 := by
  unfold vrf
  rw [if_neg (by decide)]
  split
  · omega
  split
  · omega
  rw [if_pos]
  · omega
  · have h1 : (pvo exL 2).pl = 0 := by
      show fix (fun x : Cf => decide (x.i = 2)) (cur exL) 0 = 0
      rw [ex_cur]; rfl
    have h2 : (pvo exL 2).sp = [] := by
      show (pathE ((cur exL).map dgC) (fix (fun x => decide (x.i = 2)) (cur exL) 0)).1 = []
      rw [ex_cur]
      show (pathE [dgC exB] 0).1 = []
      unfold Tr.pathE
      rw [if_neg (by simp), if_neg (by simp)]
      exact Tr.path_0 _ _ (by simp)
    have h3 : (hd1 5 exL).l = leaf (dgC exB) := by
      show root ((cur exL).map dgC) = _
      rw [ex_cur]
      exact Tr.root_1 _ rfl
    have h4 : (hd1 5 exL).c = 1 := by
      show ((cur exL).length : Int) = 1
      rw [ex_cur]; rfl
    rw [h1, h2, h3, h4]
    have h5 : leadE (leaf (dgC exA)) 0 1 [] = (leaf (dgC exA), 0) := by
      have := Tr.lead_path 1 [dgC exA] 0 (Nat.le_refl _) (by simp)
      rw [Tr.path_0 [dgC exA] 0 (by simp), Tr.root_1 [dgC exA] rfl] at this
      have h6 : lead (leaf (dgC exA)) 0 1 [] = (leaf (dgC exA), true) := this
      unfold Tr.leadE
      rw [if_neg (by omega), if_neg (by omega)]
      show (if (lead (leaf (dgC exA)) 0 1 []).2 = true then ((lead (leaf (dgC exA)) 0 1 []).1, (0 : Int)) else _) = _
      rw [h6]; rfl
    unfold ldE
    rw [h5]
    simp [leaf_ne]
end Go.Proofs.YtdikoffppjoomaaGreat.Ct
