/- Walk: the statement CertificateRevokes. -/
import Derived.Test.YtdikoffppjoomaaCZ
import Derived.WalkKit
import Derived.WalkSpells
import Derived.WalkLawsBesides
import Derived.Deep.QuietTactic
import Derived.BigQuiet
import Derived.Deep.Draws
import Derived.Deep.AppendLies
import Derived.Laws.OwnMore
import Derived.Laws.BytesArg
import Derived.Lib.Hide
import Derived.Deep.LoopGhost
namespace Go.Proofs.Ytdikoffppjoomaa.Ct
open Go.RowKit Go.Proofs.Ytdikoffppjoomaa.Dg
open Go.Proofs.Ytdikoffppjoomaa.Mw (I64 ret_int ret_bool Bk bl_trans own_ints RdI RdR ge ge_lt gi ge_mem own_rows bl_gb)
open Go.Proofs.Ytdikoffppjoomaa.Dc (Di DI DB next_any roll_any light_any)
set_option linter.unusedVariables false
set_option linter.unusedSimpArgs false
set_option maxRecDepth 100000

theorem asc_nodup {xs : List Cf} (h : Asc xs) : xs.Nodup := h.imp fun {a b} hab e => by rw [e] at hab; omega
section
variable {l : List Le} {id tm : Int} {c : Cf}
/-- The entry that revokes. -/
abbrev rvE (i : Int) : Le := ⟨1, ⟨i, 0, 0, 500, 0⟩⟩
theorem rv_k (i : Int) : ¬ (rvE i).k = 0 := by show ¬ (1 : Int) = 0; omega
abbrev isE (i c r : Int) : Le := ⟨0, ⟨i, c, 1, 500, r⟩⟩
theorem cur_facts (h : LI l 9 id tm) (hc : c ∈ cur l) : vld c = true ∧ fnd l c.i = some c ∧ gon l c.i = false ∧ 1 ≤ c.c ∧ c.c ≤ 6 ∧ c.i ≤ 9 ∧ fnd l 800 = none ∧ lst l ≤ 18 ∧ l.length ≤ 9 := by
  have h1 := cu_some.1 ((mem_cur h.v).1 hc)
  obtain ⟨x, hx, hk, hf⟩ := fnd_mem h1.1
  have h2 := h.el x hx hk
  rw [hf] at h2
  refine ⟨cur_vld h.v hc, h1.1, h1.2, h2.2.1, h2.2.2, by have := h.i1; omega, ?_, by have := h.lt; have := h.t1; omega, h.len⟩
  cases e : fnd l 800 with
  | none => rfl
  | some y =>
    obtain ⟨z, hz, hzk, hzf⟩ := fnd_mem e
    have h3 := h.el z hz hzk
    have h4 := fnd_id e
    rw [hzf] at h3
    have := h.i1
    omega
theorem n_rev (h : LI l 9 id tm) (hc : c ∈ cur l) : nxt l (rvE c.i) = 0 := by
  obtain ⟨hv, hf, hg, h1, h2, h3, h8, h4, h5⟩ := cur_facts h hc
  have hid := vld_id hv
  unfold nxt tim
  rw [if_neg (by omega), if_neg (rv_k _), if_pos rfl, if_neg (by unfold rvk; simp; omega), show fnd l (rvE c.i).f.i = some c from hf]
  show (if gon l c.i = true then 46 else if (500 : Int) < lst l then 43 else 0) = (0 : Int)
  rw [if_neg (by rw [hg]; simp), if_neg (by omega)]
theorem v_rev (h : LI l 9 id tm) (hc : c ∈ cur l) : V (l ++ [rvE c.i]) := V_snoc.2 ⟨h.v, n_rev h hc⟩
theorem f_rev (h : LI l 9 id tm) (hc : c ∈ cur l) (i : Int) : fnd (l ++ [rvE c.i]) i = fnd l i := fs_rev (n_rev h hc) (rv_k _) i
theorem g_rev (h : LI l 9 id tm) (hc : c ∈ cur l) : gon (l ++ [rvE c.i]) c.i = true := by
  rw [gon_snoc]
  have : gn1 (rvE c.i) c.i = true := decide_eq_true (.inl ⟨rfl, rfl⟩)
  rw [this, Bool.or_true]
theorem h_rev (h : LI l 9 id tm) (hc : c ∈ cur l) : hol (l ++ [rvE c.i]) c.c = false := by
  obtain ⟨hv, hf, _⟩ := cur_facts h hc
  rw [ho_rev (inv_of h.v) (n_rev h hc) (rv_k _) hf, if_pos rfl]
theorem h_cur (h : LI l 9 id tm) (hc : c ∈ cur l) : hol l c.c = true := (hol_cu (inv_of h.v) c.c).2 ⟨c.i, c, (mem_cur h.v).1 hc, rfl⟩
theorem a1 (h : LI l 9 id tm) (hc : c ∈ cur l) : apn l (rvE c.i) = (l ++ [rvE c.i], 0) := by unfold apn; rw [if_pos (chk_V h.v), if_pos (n_rev h hc)]
theorem a_err {m : List Le} {x : Le} {n : Int} (hV : V m) (h : nxt m x = n) (hn : n ≠ 0) : apn m x = ([], n) := by unfold apn; rw [if_pos (chk_V hV), if_neg (by rw [h]; exact hn), h]
theorem a2 (h : LI l 9 id tm) (hc : c ∈ cur l) : apn (l ++ [rvE c.i]) (rvE c.i) = ([], 46) := by
  obtain ⟨hv, hf, hg, h1, h2, h3, h8, h4, h5⟩ := cur_facts h hc
  have hid := vld_id hv
  refine a_err (v_rev h hc) ?_ (by omega)
  unfold nxt
  rw [if_neg (by simp; omega), if_neg (rv_k _), if_pos rfl, if_neg (by unfold rvk; simp; omega), show fnd (l ++ [rvE c.i]) (rvE c.i).f.i = some c from (f_rev h hc c.i).trans hf]
  show (if gon (l ++ [rvE c.i]) c.i = true then 46 else _) = 46
  rw [if_pos (g_rev h hc)]
theorem vld_is {i cc r : Int} (h1 : 1 ≤ i) (h2 : i ≤ 9999) (h3 : 0 ≤ cc) (h4 : cc ≤ 9999) (h5 : 0 ≤ r) (h6 : r ≤ 9999) : vld (isE i cc r).f = true := by
  unfold vld; simp; omega
theorem nxt_is (m : List Le) (i cc r : Int) (hl : m.length < 256) (hv : vld (isE i cc r).f = true) : nxt m (isE i cc r) = if (fnd m i).isSome = true then 5 else if r = 0 then (if hol m cc = true then 9 else tim m (isE i cc r)) else match fnd m r with | none => 4 | some o => if o.c = cc then (if gon m r = true then 46 else tim m (isE i cc r)) else 4 := by
  unfold nxt
  rw [if_neg (by omega), if_pos rfl, if_neg (by rw [hv]; simp)]
  rfl
theorem a3 (h : LI l 9 id tm) (hc : c ∈ cur l) : apn (l ++ [rvE c.i]) (isE 800 c.c c.i) = ([], 46) := by
  obtain ⟨hv, hf, hg, h1, h2, h3, h8, h4, h5⟩ := cur_facts h hc
  have hid := vld_id hv
  refine a_err (v_rev h hc) ?_ (by omega)
  rw [nxt_is _ _ _ _ (by simp; omega) (vld_is (by omega) (by omega) (by omega) (by omega) (by omega) (by omega)), if_neg (by rw [f_rev h hc, h8]; simp), if_neg (by omega), f_rev h hc, hf]
  show (if c.c = c.c then (if gon (l ++ [rvE c.i]) c.i = true then 46 else _) else 4) = 46
  rw [if_pos rfl, if_pos (g_rev h hc)]
theorem n4 (h : LI l 9 id tm) (hc : c ∈ cur l) : nxt (l ++ [rvE c.i]) (isE 800 c.c 0) = 0 := by
  obtain ⟨hv, hf, hg, h1, h2, h3, h8, h4, h5⟩ := cur_facts h hc
  rw [nxt_is _ _ _ _ (by simp; omega) (vld_is (by omega) (by omega) (by omega) (by omega) (by omega) (by omega)), if_neg (by rw [f_rev h hc, h8]; simp), if_pos rfl, if_neg (by rw [h_rev h hc]; simp)]
  unfold tim
  rw [lst_snoc]
  exact if_neg (by show ¬ ((500 : Int) < 500); omega)
theorem a4 (h : LI l 9 id tm) (hc : c ∈ cur l) : apn (l ++ [rvE c.i]) (isE 800 c.c 0) = (l ++ [rvE c.i] ++ [isE 800 c.c 0], 0) := by unfold apn; rw [if_pos (chk_V (v_rev h hc)), if_pos (n4 h hc)]
theorem a5 (h : LI l 9 id tm) (hc : c ∈ cur l) : apn l (isE 800 c.c 0) = ([], 9) := by
  obtain ⟨hv, hf, hg, h1, h2, h3, h8, h4, h5⟩ := cur_facts h hc
  refine a_err h.v ?_ (by omega)
  rw [nxt_is _ _ _ _ (by omega) (vld_is (by omega) (by omega) (by omega) (by omega) (by omega) (by omega)), if_neg (by rw [h8]; simp), if_pos rfl, if_pos (h_cur h hc)]
theorem a6 (h : LI l 9 id tm) (hc : c ∈ cur l) : apn l (isE c.i c.c c.i) = ([], 5) := by
  obtain ⟨hv, hf, hg, h1, h2, h3, h8, h4, h5⟩ := cur_facts h hc
  have hid := vld_id hv
  refine a_err h.v ?_ (by omega)
  rw [nxt_is _ _ _ _ (by omega) (vld_is (by omega) (by omega) (by omega) (by omega) (by omega) (by omega)), if_pos (by rw [hf]; rfl)]
theorem a7 (h : LI l 9 id tm) (hc : c ∈ cur l) : apn l (isE 800 (c.c + 1) c.i) = ([], 4) := by
  obtain ⟨hv, hf, hg, h1, h2, h3, h8, h4, h5⟩ := cur_facts h hc
  have hid := vld_id hv
  refine a_err h.v ?_ (by omega)
  rw [nxt_is _ _ _ _ (by omega) (vld_is (by omega) (by omega) (by omega) (by omega) (by omega) (by omega)), if_neg (by rw [h8]; simp), if_neg (by omega), hf]
  show (if c.c = c.c + 1 then _ else 4) = 4
  rw [if_neg (by omega)]
theorem len_rev (h : LI l 9 id tm) (hc : c ∈ cur l) : (crr (l ++ [rvE c.i])).length + 1 = (cur l).length := by
  have hV2 := v_rev h hc
  rw [crr_0 (chk_V hV2)]
  have hnd := asc_nodup (asc_cur h.v)
  have e : cur (l ++ [rvE c.i]) = (cur l).erase c := by
    refine asc_eq (asc_cur hV2) ((asc_cur h.v).sublist List.erase_sublist) fun x => ?_
    rw [mem_cur hV2, cu_rev (n_rev h hc) (rv_k _), hnd.mem_erase_iff, mem_cur h.v]
    constructor
    · intro hx
      split at hx
      · cases hx
      · rename_i hne
        exact ⟨fun e => hne (by rw [e]), hx⟩
    · rintro ⟨hne, hx⟩
      rw [if_neg ?_]
      · exact hx
      · intro e
        have e2 : x.i = c.i := e
        have h1 := (mem_cur h.v).1 hc
        rw [e2, h1] at hx
        injection hx with hx
        exact hne hx.symm
  rw [e, List.length_erase_of_mem hc]
  have := List.length_pos_of_mem hc
  omega
theorem v_again (h : LI l 9 id tm) (hc : c ∈ cur l) : V (l ++ [rvE c.i] ++ [isE 800 c.c 0]) := V_snoc.2 ⟨v_rev h hc, n4 h hc⟩
theorem len_again (h : LI l 9 id tm) (hc : c ∈ cur l) : (crr (l ++ [rvE c.i] ++ [isE 800 c.c 0])).length = (cur l).length := by
  have hV2 := v_rev h hc
  have hV3 := v_again h hc
  have h0 := len_rev h hc
  rw [crr_0 (chk_V hV2)] at h0
  rw [crr_0 (chk_V hV3)]
  have hcu := cu_iss (inv_of hV2) (n4 h hc) rfl
  have hn := iss_facts (inv_of hV2) (n4 h hc) rfl
  have hni : ∀ d, d ∈ cur (l ++ [rvE c.i]) → d.i ≠ 800 := fun d hd e => by
    have h1 := cu_some.1 ((mem_cur hV2).1 hd)
    rw [e] at h1
    rw [show fnd (l ++ [rvE c.i]) 800 = none from hn.1] at h1
    cases h1.1
  have e : cur (l ++ [rvE c.i] ++ [isE 800 c.c 0]) = ins (isE 800 c.c 0).f (cur (l ++ [rvE c.i])) := by
    refine asc_eq (asc_cur hV3) (asc_ins (asc_cur hV2) hni) fun x => ?_
    rw [mem_cur hV3, hcu, mem_ins, mem_cur hV2]
    constructor
    · intro hx
      split at hx
      · injection hx with hx; exact .inl hx.symm
      · split at hx
        · cases hx
        · exact .inr hx
    · rintro (rfl | hx)
      · rw [if_pos rfl]
      · have h1 := (mem_cur hV2).2 hx
        rw [if_neg (hni x h1), if_neg ?_]
        · exact hx
        · intro e0
          have := (vld_id (cur_vld hV2 h1)).1
          have e1 : x.i = 0 := e0
          omega
  rw [e, len_ins, h0]
end
theorem le64_vld {x : Le} (hk : x.k = 0) (h : vld x.f = true) : Le64 x := by
  unfold vld at h
  have := of_decide_eq_true h
  refine ⟨?_, ?_, ?_, ?_, ?_, ?_⟩ <;> unfold Mw.I64 <;> omega
set_option maxHeartbeats 40000000 in
theorem revokes_any (l0 : List Int) (A0 : Option Addr) (c0 : Nat) (n : Int) (w : World) (hr : RdI w .i64 A0 l0) (hi : ∀ x ∈ l0, I64 x) (hn0 : 0 ≤ n) (hn1 : n ≤ 255) :
    Calls Try.prog 4 #[.slice A0 l0.length c0, .int .u8 n] w fun e w' => e = .returned (.bool true) ∧ Below w.heap.size w w' := by
  by_cases hL : l0.length ≤ 600
  · have HL := Lib.hid (show ∀ W : World, Calls Try.prog 6 #[.slice A0 l0.length c0] W fun e w' => e = .returned (.bool true) ∧ W = w' from fun W => by have h6 := light_any l0 A0 c0 W; rwa [decide_eq_true hL] at h6)
    have HRo := Lib.hid (roll_any l0 A0 c0 w hr (by omega) hi)
    clear hr hi hL
    go_enter Try.func4, Try.ntmps4
    go_wp2_with fail
    refine (HL.out _).mono ?_
    rintro e w0 ⟨rfl, rfl⟩
    go_wp2_with fail
    refine HRo.out.mono ?_
    rintro e w1 ⟨rfl, hdi, hb1⟩
    clear HRo HL
    have HLg : Hid (Calls Try.prog 9 #[.pointer (some ⟨w.heap.size, 0, none⟩), .int .i64 9] w1 (LgP 9 w.heap.size w1)) := log_any w.heap.size 9 w1 hdi (by omega)
    go_wp2_with fail
    refine HLg.out.mono ?_
    rintro e w2 ⟨l, A, c, id, tm, rfl, hlc, hLI, hF⟩
    have hb2 : Below w.heap.size w w2 := bl_gb hb1 hF.gb (Nat.le_refl _)
    have hL2 := hF.rd
    have h64 := le64_V hLI.v
    have HCu := Lib.hid (show ∀ (W : World), RdL W A l → Calls Try.prog 11 #[.slice A l.length c] W (CE (cur l) W) from fun W h => by
      have := current_any l A c W h h64
      rwa [crr_0 (chk_V hLI.v)] at this)
    have hll := hLI.len
    clear HLg hdi hb1 hF
    go_wp2_with fail
    refine (HCu.out _ hL2).mono ?_
    rintro e w3 ⟨v, rfl, hown, hbq⟩
    obtain ⟨B, cB, rfl, hcB, hB3, -⟩ := own_rows cfl_len (by omega) hown
    have hL3 := hL2.old hbq
    have hb3 := bl_trans hb2 hbq
    have hcl : (cur l).length ≤ 9 := by have := len_curN l l.length; unfold cur; omega
    clear HCu hown hL2 hb2 hbq
    by_cases hm : (cur l).length = 0
    · have z0 : (((cur l).length : Int) == 0) = true := beq_iff_eq.2 (by omega)
      clear hm
      go_wp2_with fail
      refine (sane_any _).mono ?_
      rintro e wi ⟨rfl, hbi⟩
      go_wp2_with fail
      go_ret
      exact ⟨rfl, bl_trans hb3 hbi⟩
    · obtain ⟨J, hJ⟩ : ∃ J : Nat, n % ((cur l).length : Int) = (J : Int) := ⟨(n % ((cur l).length : Int)).toNat, by have := Int.emod_nonneg n (show ((cur l).length : Int) ≠ 0 by omega); omega⟩
      have hJl : J < (cur l).length := by have := Int.emod_lt_of_pos n (show (0 : Int) < ((cur l).length : Int) by omega); omega
      have hJt : n.tmod ((cur l).length : Int) = (J : Int) := by rw [Int.tmod_eq_emod_of_nonneg hn0]; exact hJ
      have hc : ge (cur l) J ∈ cur l := ge_mem _ _ hJl
      obtain ⟨b, off, rfl, hbl, e0, e1, e2, e3, e4⟩ := cf_at hB3 J hJl
      obtain ⟨cc, hcc⟩ : ∃ cc, cc = ge (cur l) J := ⟨_, rfl⟩
      rw [← hcc] at hc e0 e1 e2 e3 e4
      have hf := cur_facts hLI hc
      have hv := vld_id hf.1
      have HA1 : Hid (∀ (W : World) (A : Option Addr) (c : Nat), RdL W A l → Calls Try.prog 10 #[.slice A l.length c, lev (rvE cc.i)] W (AE (l ++ [rvE cc.i], 0) W)) := fun W A c h => by have := append_any l (rvE cc.i) A c W h h64 (le64_V (v_rev hLI hc) _ (by simp)); rwa [a1 hLI hc] at this
      have HA2 : Hid (∀ (W : World) (A : Option Addr) (c : Nat), RdL W A (l ++ [rvE cc.i]) → Calls Try.prog 10 #[.slice A (l ++ [rvE cc.i]).length c, lev (rvE cc.i)] W (AE ([], 46) W)) := fun W A c h => by have := append_any (l ++ [rvE cc.i]) (rvE cc.i) A c W h (le64_V (v_rev hLI hc)) (le64_V (v_rev hLI hc) _ (by simp)); rwa [a2 hLI hc] at this
      have HA3 : Hid (∀ (W : World) (A : Option Addr) (c : Nat), RdL W A (l ++ [rvE cc.i]) → Calls Try.prog 10 #[.slice A (l ++ [rvE cc.i]).length c, lev (isE 800 cc.c cc.i)] W (AE ([], 46) W)) := fun W A c h => by have := append_any (l ++ [rvE cc.i]) (isE 800 cc.c cc.i) A c W h (le64_V (v_rev hLI hc)) (le64_vld rfl (vld_is (by omega) (by omega) (by omega) (by omega) (by omega) (by omega))); rwa [a3 hLI hc] at this
      have HA4 : Hid (∀ (W : World) (A : Option Addr) (c : Nat), RdL W A (l ++ [rvE cc.i]) → Calls Try.prog 10 #[.slice A (l ++ [rvE cc.i]).length c, lev (isE 800 cc.c 0)] W (AE (l ++ [rvE cc.i] ++ [isE 800 cc.c 0], 0) W)) := fun W A c h => by have := append_any (l ++ [rvE cc.i]) (isE 800 cc.c 0) A c W h (le64_V (v_rev hLI hc)) (le64_vld rfl (vld_is (by omega) (by omega) (by omega) (by omega) (by omega) (by omega))); rwa [a4 hLI hc] at this
      have HA5 : Hid (∀ (W : World) (A : Option Addr) (c : Nat), RdL W A l → Calls Try.prog 10 #[.slice A l.length c, lev (isE 800 cc.c 0)] W (AE ([], 9) W)) := fun W A c h => by have := append_any l (isE 800 cc.c 0) A c W h h64 (le64_vld rfl (vld_is (by omega) (by omega) (by omega) (by omega) (by omega) (by omega))); rwa [a5 hLI hc] at this
      have HA6 : Hid (∀ (W : World) (A : Option Addr) (c : Nat), RdL W A l → Calls Try.prog 10 #[.slice A l.length c, lev (isE cc.i cc.c cc.i)] W (AE ([], 5) W)) := fun W A c h => by have := append_any l (isE cc.i cc.c cc.i) A c W h h64 (le64_vld rfl (vld_is (by omega) (by omega) (by omega) (by omega) (by omega) (by omega))); rwa [a6 hLI hc] at this
      have HA7 : Hid (∀ (W : World) (A : Option Addr) (c : Nat), RdL W A l → Calls Try.prog 10 #[.slice A l.length c, lev (isE 800 (cc.c + 1) cc.i)] W (AE ([], 4) W)) := fun W A c h => by have := append_any l (isE 800 (cc.c + 1) cc.i) A c W h h64 (le64_vld rfl (vld_is (by omega) (by omega) (by omega) (by omega) (by omega) (by omega))); rwa [a7 hLI hc] at this
      have HCG : Hid (∀ (W : World) (A : Option Addr) (c : Nat), RdL W A (l ++ [rvE cc.i]) → Calls Try.prog 11 #[.slice A (l ++ [rvE cc.i]).length c] W (CE (crr (l ++ [rvE cc.i])) W)) := fun W A c h => current_any _ A c W h (le64_V (v_rev hLI hc))
      have HCX : Hid (∀ (W : World) (A : Option Addr) (c : Nat), RdL W A (l ++ [rvE cc.i] ++ [isE 800 cc.c 0]) → Calls Try.prog 11 #[.slice A (l ++ [rvE cc.i] ++ [isE 800 cc.c 0]).length c] W (CE (crr (l ++ [rvE cc.i] ++ [isE 800 cc.c 0])) W)) := fun W A c h => current_any _ A c W h (le64_V (v_again hLI hc))
      have hg1 := len_rev hLI hc
      have hg2 := len_again hLI hc
      have hgt : (l ++ [rvE cc.i]).take l.length = l := List.take_left
      have hgl : (l ++ [rvE cc.i]).length = l.length + 1 := by simp
      have hc1 : cc.c + 1 ≤ 7 := by omega
      have hc0 : 1 ≤ cc.c := hf.2.2.2.1
      generalize crr (l ++ [rvE cc.i] ++ [isE 800 cc.c 0]) = CX at hg2 HCX
      generalize l ++ [rvE cc.i] ++ [isE 800 cc.c 0] = X at HA4 HCX
      generalize crr (l ++ [rvE cc.i]) = CG at hg1 HCG
      generalize l ++ [rvE cc.i] = G at *
      generalize cur l = cu at *
      have HGt := Lib.hid hgt
      have HGl := Lib.hid hgl
      have p1 : (CG.length : Int) = (cu.length : Int) - 1 := by omega
      have p2 : (CX.length : Int) = (cu.length : Int) := by omega
      have p3 : CG.length = cu.length - 1 := by omega
      have z0 : ((cu.length : Int) == 0) = false := beq_eq_false_iff_ne.2 (by omega)
      have y0 : 0 < cu.length := by omega
      have y1 : (0 : Int) < cu.length := by omega
      have y2 : (cu.length : Int) ≠ 0 := by omega
      have y3 : cu.length ≠ 0 := by omega
      have x0 : (0 : Int) ≤ (J : Int) := by omega
      have x1 : (J : Int) < cu.length := by omega
      clear hgt hgl hg1 hf hv hc hcc hm hLI h64
      go_wp2_with fail
      have hC4 : Bk (w3.alloc (.cells #[.int .i64 cc.i, .int .i64 cc.c, .int .i64 cc.g, .int .i64 cc.t, .int .i64 cc.r] 30)) w3.heap.size 30 #[.int .i64 cc.i, .int .i64 cc.c, .int .i64 cc.g, .int .i64 cc.t, .int .i64 cc.r] := Mw.Bk.new _ _ _
      have hL4 := hL3.alloc (.cells #[.int .i64 cc.i, .int .i64 cc.c, .int .i64 cc.g, .int .i64 cc.t, .int .i64 cc.r] 30)
      have hb4 := Mw.bl_alloc hb3 (.cells #[.int .i64 cc.i, .int .i64 cc.c, .int .i64 cc.g, .int .i64 cc.t, .int .i64 cc.r] 30)
      generalize w3.alloc (.cells #[.int .i64 cc.i, .int .i64 cc.c, .int .i64 cc.g, .int .i64 cc.t, .int .i64 cc.r] 30) = w4 at *
      generalize w3.heap.size = cb at *
      clear hL3 hb3 hB3 e0 e1 e2 e3 e4 hJ hJt hJl x0 x1
      refine (HA1.out _ _ _ hL4).mono ?_
      rintro e w5 ⟨Ag, cg, rfl, hcAg, hG5, -, hbq⟩
      have hL5 := hL4.old hbq
      have hC5 := hC4.old hbq
      have hb5 := bl_trans hb4 hbq
      clear hbq hL4 hC4 hb4
      have c0 := hC5.cell 0
      have c1 := hC5.cell 1
      have cl := hC5.lt
      go_wp2_with fail
      clear c0 c1 cl
      refine (HA2.out _ _ _ hG5).mono ?_
      rintro e w6 ⟨Ae5, ce5, rfl, -, -, -, hbq⟩
      have hL6 := hL5.old hbq
      have hC6 := hC5.old hbq
      have hG6 := hG5.old hbq
      have hb6 := bl_trans hb5 hbq
      clear hbq hL5 hC5 hG5 hb5
      have c0 := hC6.cell 0
      have c1 := hC6.cell 1
      have cl := hC6.lt
      go_wp2_with fail
      clear c0 c1 cl
      refine (issue_any _ _ _ _ _ _).mono ?_
      rintro e wi ⟨rfl, hbi⟩
      have hL7 := hL6.old hbi
      have hC7 := hC6.old hbi
      have hG7 := hG6.old hbi
      have hb7 := bl_trans hb6 hbi
      clear hbi hL6 hC6 hG6 hb6
      go_wp2_with fail
      refine (HA3.out _ _ _ hG7).mono ?_
      rintro e w8 ⟨Ae7, ce7, rfl, -, -, -, hbq⟩
      have hL8 := hL7.old hbq
      have hC8 := hC7.old hbq
      have hG8 := hG7.old hbq
      have hb8 := bl_trans hb7 hbq
      clear hbq hL7 hC7 hG7 hb7
      have c0 := hC8.cell 0
      have c1 := hC8.cell 1
      have cl := hC8.lt
      go_wp2_with fail
      clear c0 c1 cl
      refine (issue_any _ _ _ _ _ _).mono ?_
      rintro e wi ⟨rfl, hbi⟩
      have hL9 := hL8.old hbi
      have hC9 := hC8.old hbi
      have hG9 := hG8.old hbi
      have hb9 := bl_trans hb8 hbi
      clear hbi hL8 hC8 hG8 hb8
      go_wp2_with fail
      refine (HA4.out _ _ _ hG9).mono ?_
      rintro e w10 ⟨Ax, cx, rfl, hcAx, hX10, -, hbq⟩
      have hL10 := hL9.old hbq
      have hC10 := hC9.old hbq
      have hG10 := hG9.old hbq
      have hb10 := bl_trans hb9 hbq
      clear hbq hL9 hC9 hG9 hb9
      have c0 := hC10.cell 0
      have c1 := hC10.cell 1
      have cl := hC10.lt
      go_wp2_with fail
      clear c0 c1 cl
      refine (issue_any _ _ _ _ _ _).mono ?_
      rintro e wi ⟨rfl, hbi⟩
      have hL11 := hL10.old hbi
      have hC11 := hC10.old hbi
      have hG11 := hG10.old hbi
      have hX11 := hX10.old hbi
      have hb11 := bl_trans hb10 hbi
      clear hbi hL10 hC10 hG10 hX10 hb10
      go_wp2_with fail
      refine (HA5.out _ _ _ hL11).mono ?_
      rintro e w12 ⟨Ae11, ce11, rfl, -, -, -, hbq⟩
      have hL12 := hL11.old hbq
      have hC12 := hC11.old hbq
      have hG12 := hG11.old hbq
      have hX12 := hX11.old hbq
      have hb12 := bl_trans hb11 hbq
      clear hbq hL11 hC11 hG11 hX11 hb11
      have c0 := hC12.cell 0
      have c1 := hC12.cell 1
      have cl := hC12.lt
      go_wp2_with fail
      clear c0 c1 cl
      refine (issue_any _ _ _ _ _ _).mono ?_
      rintro e wi ⟨rfl, hbi⟩
      have hL13 := hL12.old hbi
      have hC13 := hC12.old hbi
      have hG13 := hG12.old hbi
      have hX13 := hX12.old hbi
      have hb13 := bl_trans hb12 hbi
      clear hbi hL12 hC12 hG12 hX12 hb12
      go_wp2_with fail
      refine (HA6.out _ _ _ hL13).mono ?_
      rintro e w14 ⟨Ae13, ce13, rfl, -, -, -, hbq⟩
      have hL14 := hL13.old hbq
      have hC14 := hC13.old hbq
      have hG14 := hG13.old hbq
      have hX14 := hX13.old hbq
      have hb14 := bl_trans hb13 hbq
      clear hbq hL13 hC13 hG13 hX13 hb13
      have c0 := hC14.cell 0
      have c1 := hC14.cell 1
      have cl := hC14.lt
      go_wp2_with fail
      clear c0 c1 cl
      refine (issue_any _ _ _ _ _ _).mono ?_
      rintro e wi ⟨rfl, hbi⟩
      have hL15 := hL14.old hbi
      have hC15 := hC14.old hbi
      have hG15 := hG14.old hbi
      have hX15 := hX14.old hbi
      have hb15 := bl_trans hb14 hbi
      clear hbi hL14 hC14 hG14 hX14 hb14
      go_wp2_with fail
      refine (HA7.out _ _ _ hL15).mono ?_
      rintro e w16 ⟨Ae15, ce15, rfl, -, -, -, hbq⟩
      have hL16 := hL15.old hbq
      have hC16 := hC15.old hbq
      have hG16 := hG15.old hbq
      have hX16 := hX15.old hbq
      have hb16 := bl_trans hb15 hbq
      clear hbq hL15 hC15 hG15 hX15 hb15
      have hgl := HGl.out
      have hcAg2 : G.length ≤ cg := hcAg
      have u3 : (l.length : Int) ≤ (cg : Int) := by omega
      have u4 : l.length ≤ cg := by omega
      have u5 : (0 : Int) ≤ (l.length : Int) := by omega
      have HSm := Lib.hid (show ∀ W : World, RdL W Ag G → RdL W A l → Calls Try.prog 14 #[.slice Ag l.length cg, .slice A l.length c] W (fun e w' => e = .returned (.bool true) ∧ Below W.heap.size W w') from fun W h1 h2 => samelog_any l Ag A cg c W (by have := rdr_take h1 l.length; rw [HGt.out] at this; exact this) h2 (by simp only [maxLen]; omega))
      clear hgl hcAg hcAg2
      go_wp2_with fail
      refine (HSm.out _ hG16 hL16).mono ?_
      rintro e wi ⟨rfl, hbi⟩
      have hL17 := hL16.old hbi
      have hC17 := hC16.old hbi
      have hG17 := hG16.old hbi
      have hX17 := hX16.old hbi
      have hb17 := bl_trans hb16 hbi
      clear hbi hL16 hC16 hG16 hX16 hb16
      go_wp2_with fail
      refine (HCG.out _ _ _ hG17).mono ?_
      rintro e wi ⟨vg, rfl, hog, hbi⟩
      obtain ⟨Bg, cBg, rfl, -, -, -⟩ := own_rows cfl_len (by omega) hog
      clear hog
      have hL18 := hL17.old hbi
      have hC18 := hC17.old hbi
      have hG18 := hG17.old hbi
      have hX18 := hX17.old hbi
      have hb18 := bl_trans hb17 hbi
      clear hbi hL17 hC17 hG17 hX17 hb17
      go_wp2_with fail
      refine (HCX.out _ _ _ hX18).mono ?_
      rintro e wi ⟨vx, rfl, hox, hbi⟩
      obtain ⟨Bx, cBx, rfl, -, -, -⟩ := own_rows cfl_len (by omega) hox
      clear hox
      have hL19 := hL18.old hbi
      have hC19 := hC18.old hbi
      have hG19 := hG18.old hbi
      have hX19 := hX18.old hbi
      have hb19 := bl_trans hb18 hbi
      clear hbi hL18 hC18 hG18 hX18 hb18
      go_wp2_with fail
      refine (sane_any _).mono ?_
      rintro e wi ⟨rfl, hbi⟩
      go_wp2_with fail
      go_ret
      exact ⟨rfl, bl_trans hb19 hbi⟩
  · have HL := Lib.hid (show ∀ W : World, Calls Try.prog 6 #[.slice A0 l0.length c0] W fun e w' => e = .returned (.bool false) ∧ W = w' from fun W => by have h6 := light_any l0 A0 c0 W; rwa [decide_eq_false hL] at h6)
    clear hr hi
    go_enter Try.func4, Try.ntmps4
    go_wp2_with fail
    refine (HL.out _).mono ?_
    rintro e w0 ⟨rfl, rfl⟩
    go_wp2_with fail
    refine (sane_any _).mono ?_
    rintro e w1 ⟨rfl, hb1⟩
    go_wp2_with fail
    go_ret
    exact ⟨rfl, hb1⟩
end Go.Proofs.Ytdikoffppjoomaa.Ct
