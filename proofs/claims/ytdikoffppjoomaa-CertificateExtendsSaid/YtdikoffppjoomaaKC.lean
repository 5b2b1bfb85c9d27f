/- Walk: the statement CertificateExtends. -/
import Derived.Test.YtdikoffppjoomaaCZ
import Derived.WalkKit
import Derived.WalkSpells
import Derived.WalkLawsBesides
import Derived.Deep.QuietTactic
import Derived.BigQuiet
import Derived.Deep.Draws
import Derived.Deep.AppendLies
import Derived.Laws.OwnMore
import Derived.Laws.BytesArg
import Derived.Lib.Hide
import Derived.Deep.LoopGhost
import Derived.Deep.RegionLaw
namespace Go.Proofs.Ytdikoffppjoomaa.Ct
open Go.RowKit Go.Proofs.Ytdikoffppjoomaa.Dg
open Go.Proofs.Ytdikoffppjoomaa.Mw (I64 ret_int ret_bool Bk bl_trans own_ints RdI RdR ge ge_lt gi ge_mem own_rows bl_gb)
open Go.Proofs.Ytdikoffppjoomaa.Dc (Di DI DB next_any roll_any light_any)
open Go.Proofs.Ytdikoffppjoomaa.Tr (RdD root cons rts consE consB rts_cons)
open Go.Proofs.Ytdikoffppjoomaa.Sg (Wd pw val ver chal ver_signed rpublic_yes)
set_option linter.unusedVariables false
set_option linter.unusedSimpArgs false
set_option maxRecDepth 100000

theorem cE_ok {ds : List St} {k : Nat} (h1 : 1 ≤ k) (h2 : k ≤ ds.length) (h3 : ds.length ≤ 256) : consE ds (k : Int) = (cons ds k true, 0) := by
  unfold Tr.consE
  rw [if_neg (by omega), if_neg (by omega), Int.toNat_natCast]
theorem cB_ok {ds : List St} {k : Nat} (h1 : 1 ≤ k) (h2 : k ≤ ds.length) (h3 : ds.length ≤ 256) : consB (k : Int) (ds.length : Int) (root (ds.take k)) (root ds) (cons ds k true) = true := by
  unfold Tr.consB
  rw [if_neg (by omega), Int.toNat_natCast, Int.toNat_natCast, rts_cons ds.length ds k true (root (ds.take k)) (Nat.le_refl _) h1 h2 (fun _ => rfl)]
  simp [eqb_self]
section
variable {l : List Le} {k : Nat}
theorem ext_ok (hV : V l) (h1 : 1 ≤ k) (h2 : k ≤ l.length) : ext l (k : Int) = (cons (l.map dgE) k true, 0) := by
  have := (inv_of hV).len
  unfold ext
  rw [if_pos (chk_V hV), cE_ok h1 (by simp; omega) (by simp; omega)]
theorem sld_ok (hV : V l) {s : Int} (hs : val s = true) : sld s l = (hd1 s l, 0) := by
  unfold sld
  rw [if_pos (chk_V hV), if_pos hs]
theorem exs_yes (hV : V l) (h1 : 1 ≤ k) (h2 : k ≤ l.length) {s : Int} (hs : val s = true) : exs (pw 4 s) (hd1 s (l.take k)) (hd1 s l) (cons (l.map dgE) k true) = true := by
  have hle := (inv_of hV).len
  have e1 : ∀ m : List Le, ver (pw 4 s) (hd1 s m).R (hd1 s m).S (chal (hd1 s m).R (pw 4 s) (dgH (hd1 s m))) = true := fun m => by rw [dgH_hd1]; exact ver_signed s (dgH (hd0 m)) hs
  have e2 := cB_ok (ds := l.map dgE) (k := k) h1 (by simp; omega) (by simp; omega)
  have e3 : consB (hd1 s (l.take k)).n (hd1 s l).n (hd1 s (l.take k)).r (hd1 s l).r (cons (l.map dgE) k true) = true := by
    show consB ((l.take k).length : Int) (l.length : Int) (root ((l.take k).map dgE)) (root (l.map dgE)) _ = true
    rw [List.map_take, show (l.take k).length = k by simp; omega]
    rw [List.length_map] at e2
    exact e2
  unfold exs
  rw [e1, e1, e3]; rfl
theorem exs_no (h2 : k < l.length) {s : Int} (p : List St) : exs (pw 4 s) (hd1 s l) (hd1 s (l.take k)) p = false := by
  have e3 : consB (hd1 s l).n (hd1 s (l.take k)).n (hd1 s l).r (hd1 s (l.take k)).r p = false := by
    show consB (l.length : Int) ((l.take k).length : Int) _ _ _ = false
    unfold Tr.consB
    rw [if_pos (by rw [show (l.take k).length = k by simp; omega]; omega)]
  unfold exs
  rw [e3, Bool.and_false]
theorem prv_cur (hV : V l) {c : Cf} (hc : c ∈ cur l) : prv l c.i = (pvo l c.i, 0) := by
  have h := cu_some.1 ((mem_cur hV).1 hc)
  unfold prv
  rw [if_pos (chk_V hV), if_pos (by rw [h.1]; rfl), if_neg (by rw [h.2]; simp)]
/-- What Prove says at the longer log of a certificate that was current at its beginning. -/
theorem prv_later (hV : V l) {c : Cf} (hc : c ∈ cur (l.take k)) : (c ∈ cur l → prv l c.i = (pvo l c.i, 0)) ∧ (c ∉ cur l → prv l c.i = (pv0, 46)) := by
  have hVk := V_take hV k
  have h := cu_some.1 ((mem_cur hVk).1 hc)
  have hf := fnd_take h.1
  refine ⟨fun h1 => prv_cur hV h1, fun h1 => ?_⟩
  have hg : gon l c.i = true := by
    cases e : gon l c.i
    · exact absurd ((mem_cur hV).2 (cu_some.2 ⟨hf, e⟩)) h1
    · rfl
  unfold prv
  rw [if_pos (chk_V hV), if_pos (by rw [hf]; rfl), if_pos hg]
end
theorem cons_256 (l : List St) (k : Nat) (h : l.length ≤ 256) : (cons l k true).length ≤ 1000000 := by
  have := Tr.cons_len 8 l k true (by simpa using h)
  omega
theorem mem_take_succ {xs : List Cf} {j : Nat} (hj : j < xs.length) {c : Cf} : c ∈ xs.take (j + 1) ↔ c ∈ xs.take j ∨ c = ge xs j := by
  have : xs.take (j + 1) = xs.take j ++ [ge xs j] := by
    rw [List.take_succ_eq_append_getElem hj]
    congr 1
    have := Mw.ge_lt xs j hj
    rw [List.getElem?_eq_getElem hj] at this
    injection this with this
    rw [this]
  rw [this]; simp
set_option maxHeartbeats 40000000 in
theorem extends_law (l0 : List Int) (A0 : Option Addr) (c0 : Nat) (n : Int) (w : World) (hr : RdI w .i64 A0 l0) (hi : ∀ x ∈ l0, I64 x) (hn0 : 0 ≤ n) (hn1 : n ≤ 255) :
    Calls Try.prog 5 #[.slice A0 l0.length c0, .int .u8 n] w fun e w' => e = .returned (.bool true) ∧ Below w.heap.size w w' := by
  by_cases hL : l0.length ≤ 600
  · have HL := Lib.hid (show ∀ W : World, Calls Try.prog 6 #[.slice A0 l0.length c0] W fun e w' => e = .returned (.bool true) ∧ W = w' from fun W => by have h6 := light_any l0 A0 c0 W; rwa [decide_eq_true hL] at h6)
    have HRo := Lib.hid (roll_any l0 A0 c0 w hr (by omega) hi)
    clear hr hi hL
    go_enter Try.func5, Try.ntmps5
    go_wp2_with fail
    refine (HL.out _).mono ?_
    rintro e w0 ⟨rfl, rfl⟩
    go_wp2_with fail
    refine HRo.out.mono ?_
    rintro e w1 ⟨rfl, hdi, hb1⟩
    clear HRo HL
    have HLg : Hid (Calls Try.prog 9 #[.pointer (some ⟨w.heap.size, 0, none⟩), .int .i64 9] w1 (LgP 9 w.heap.size w1)) := log_any w.heap.size 9 w1 hdi (by omega)
    go_wp2_with fail
    refine HLg.out.mono ?_
    rintro e w2 ⟨l, A, c, id, tm, rfl, hlc, hLI, hF⟩
    have hb2 : Below w.heap.size w w2 := bl_gb hb1 hF.gb (Nat.le_refl _)
    have hL2 := hF.rd
    have hV := hLI.v
    have hll := hLI.len
    clear HLg hdi hb1 hF hLI
    by_cases hm : l.length = 0
    · have z0 : ((l.length : Int) == 0) = true := beq_iff_eq.2 (by omega)
      clear hm
      go_wp2_with fail
      refine (sane_any _).mono ?_
      rintro e wi ⟨rfl, hbi⟩
      go_wp2_with fail
      go_ret
      exact ⟨rfl, bl_trans hb2 hbi⟩
    · obtain ⟨J, hJ⟩ : ∃ J : Nat, n % (l.length : Int) = (J : Int) := ⟨(n % (l.length : Int)).toNat, by have := Int.emod_nonneg n (show (l.length : Int) ≠ 0 by omega); omega⟩
      have hJl : J < l.length := by have := Int.emod_lt_of_pos n (show (0 : Int) < (l.length : Int) by omega); omega
      have hJt : n.tmod (l.length : Int) = (J : Int) := by rw [Int.tmod_eq_emod_of_nonneg hn0]; exact hJ
      have z0 : ((l.length : Int) == 0) = false := beq_eq_false_iff_ne.2 (by omega)
      have y0 : 0 < l.length := by omega
      have y1 : (0 : Int) < l.length := by omega
      have y2 : (l.length : Int) ≠ 0 := by omega
      have y3 : l.length ≠ 0 := by omega
      have HPb := Lib.hid (rpublic_yes 9 (by decide))
      obtain ⟨K, hK⟩ : ∃ K : Nat, (1 : Int) + (J : Int) = (K : Int) := ⟨J + 1, by omega⟩
      have hK1 : 1 ≤ K := by omega
      have hK2 : K ≤ l.length := by omega
      have hVk := V_take hV K
      have hlk : (l.take K).length = K := by simp; omega
      have h64 := le64_V hV
      have h64k := le64_V hVk
      have h9 : val 9 = true := by decide
      have HS1 : Hid (∀ W : World, RdL W A l → Calls Try.prog 16 #[.int .i64 9, .slice A K c] W (fun e w' => e = .returned (.tuple #[hev (hd1 9 (l.take K)), .int .i64 0]) ∧ Below W.heap.size W w')) := fun W h => by
        have := sealed_any 9 (l.take K) A c W (by unfold Mw.I64; omega) (rdr_take h K) h64k
        rwa [sld_ok hVk h9, hlk] at this
      have HS2 : Hid (∀ W : World, RdL W A l → Calls Try.prog 16 #[.int .i64 9, .slice A l.length c] W (fun e w' => e = .returned (.tuple #[hev (hd1 9 l), .int .i64 0]) ∧ Below W.heap.size W w')) := fun W h => by
        have := sealed_any 9 l A c W (by unfold Mw.I64; omega) h h64
        rwa [sld_ok hV h9] at this
      have HXt : Hid (∀ W : World, RdL W A l → Calls Try.prog 17 #[.slice A l.length c, .int .i64 (K : Int)] W (Tr.PE (cons (l.map dgE) K true, 0) W)) := fun W h => by
        have := extension_any l A c (K : Int) W h h64
        rwa [ext_ok hV hK1 hK2] at this
      have d1 := hd1_i 9 (l.take K)
      have d2 := hd1_i 9 l
      have hcln := cons_256 (l.map dgE) K (by simp; omega)
      have HE1 : Hid (∀ (W : World) (D : Option Addr) (cD : Nat), (cons (l.map dgE) K true).length ≤ cD → cD ≤ maxLen → RdD W D (cons (l.map dgE) K true) → Calls Try.prog 18 #[.int .i64 (pw 4 9), hev (hd1 9 (l.take K)), hev (hd1 9 l), .slice D (cons (l.map dgE) K true).length cD] W (fun e w' => e = .returned (.bool true) ∧ Below W.heap.size W w')) := fun W D cD h1 h2 h3 => by
        have := extends_any (pw 4 9) (hd1 9 (l.take K)) (hd1 9 l) _ D cD W (pw_i64 _ _) d1.1 d1.2.1 d1.2.2.1 d1.2.2.2 d2.1 d2.2.1 d2.2.2.1 d2.2.2.2 hcln h1 h2 h3
        rwa [exs_yes hV hK1 hK2 h9] at this
      have HE2 : Hid (K < l.length → ∀ (W : World) (D : Option Addr) (cD : Nat), (cons (l.map dgE) K true).length ≤ cD → cD ≤ maxLen → RdD W D (cons (l.map dgE) K true) → Calls Try.prog 18 #[.int .i64 (pw 4 9), hev (hd1 9 l), hev (hd1 9 (l.take K)), .slice D (cons (l.map dgE) K true).length cD] W (fun e w' => e = .returned (.bool false) ∧ Below W.heap.size W w')) := fun hlt W D cD h1 h2 h3 => by
        have := extends_any (pw 4 9) (hd1 9 l) (hd1 9 (l.take K)) _ D cD W (pw_i64 _ _) d2.1 d2.2.1 d2.2.2.1 d2.2.2.2 d1.1 d1.2.1 d1.2.2.1 d1.2.2.2 hcln h1 h2 h3
        rwa [exs_no hlt] at this
      have HC1 : Hid (∀ W : World, RdL W A l → Calls Try.prog 11 #[.slice A K c] W (CE (cur (l.take K)) W)) := fun W h => by
        have := current_any (l.take K) A c W (rdr_take h K) h64k
        rwa [crr_0 (chk_V hVk), hlk] at this
      have HC2 : Hid (∀ W : World, RdL W A l → Calls Try.prog 11 #[.slice A l.length c] W (CE (cur l) W)) := fun W h => by
        have := current_any l A c W h h64
        rwa [crr_0 (chk_V hV)] at this
      have HP1 : Hid (∀ (W : World) (x : Cf), x ∈ cur (l.take K) → RdL W A l → Calls Try.prog 12 #[.slice A K c, .int .i64 x.i] W (PvE (pvo (l.take K) x.i, 0) W)) := fun W x hx h => by
        have := prove_any (l.take K) A c x.i W (vld_i64 (cur_vld hVk hx)).1 (rdr_take h K) h64k
        rwa [prv_cur hVk hx, hlk] at this
      have HVf : Hid (∀ (W : World) (x : Cf) (E F : Option Addr) (cE cF : Nat), x ∈ cur (l.take K) → (pvo (l.take K) x.i).pa.length ≤ cE → cE ≤ maxLen → RdD W E (pvo (l.take K) x.i).pa → (pvo (l.take K) x.i).sp.length ≤ cF → cF ≤ maxLen → RdD W F (pvo (l.take K) x.i).sp → Calls Try.prog 19 #[.int .i64 (pw 4 9), hev (hd1 9 (l.take K)), cfv x, .agg #[.int .i64 (pvo (l.take K) x.i).ix, .int .i64 (pvo (l.take K) x.i).pl, .slice E (pvo (l.take K) x.i).pa.length cE, .slice F (pvo (l.take K) x.i).sp.length cF]] W (fun e w' => e = .returned (.int .i64 0) ∧ Below W.heap.size W w')) := fun W x E F cE cF hx h1 h2 h3 h4 h5 h6 => by
        have hcc := len_curN (l.take K) (l.take K).length
        have := verify_any (pw 4 9) (hd1 9 (l.take K)) x (pvo (l.take K) x.i).ix (pvo (l.take K) x.i).pl (pvo (l.take K) x.i).pa (pvo (l.take K) x.i).sp E F cE cF W (pw_i64 _ _) d1.1 d1.2.1 d1.2.2.1 d1.2.2.2 (pathE_256 _ _ (by simp; omega)) h1 h2 h3 (pathE_256 _ _ (by rw [List.length_map]; unfold cur; omega)) h4 h5 h6
        rwa [vrf_yes hVk hx h9] at this
      have HP2 : Hid (∀ (W : World) (x : Cf), x ∈ cur (l.take K) → RdL W A l → Calls Try.prog 12 #[.slice A l.length c, .int .i64 x.i] W (PvE (if x ∈ cur l then (pvo l x.i, 0) else (pv0, 46)) W)) := fun W x hx h => by
        have h1 := prove_any l A c x.i W (vld_i64 (cur_vld hVk hx)).1 h h64
        have h2 := prv_later hV hx
        by_cases hm : x ∈ cur l
        · rw [if_pos hm]; rwa [h2.1 hm] at h1
        · rw [if_neg hm]; rwa [h2.2 hm] at h1
      have hkc2 : (K : Int) ≤ (c : Int) := by omega
      have hkc3 : K ≤ c := by omega
      have hkc4 : (0 : Int) ≤ (K : Int) := by omega
      have hl1 : (cur (l.take K)).length ≤ 9 := by have := len_curN (l.take K) (l.take K).length; unfold cur; omega
      have hl2 : (cur l).length ≤ 9 := by have := len_curN l l.length; unfold cur; omega
      clear d1 d2 hV hVk h64 h64k h9 hlk
      generalize pvo (l.take K) = pq at HP1 HVf
      generalize hd1 9 (l.take K) = H1 at *
      generalize hd1 9 l = H2 at *
      generalize cons (l.map dgE) K true = P at *
      generalize cur (l.take K) = c1 at *
      generalize cur l = c2 at *
      generalize pw 4 9 = pk at *
      go_wp2_with fail
      skip
      clear hK hJ hJt hJl
      refine (HPb.out _).mono ?_
      rintro e w' ⟨rfl, rfl⟩
      go_wp2_with fail
      refine (HS1.out _ hL2).mono ?_
      rintro e w3 ⟨rfl, hbq⟩
      have hL3 := hL2.old hbq
      have hb3 := bl_trans hb2 hbq
      clear hL2 hb2 hbq HS1 HPb
      go_wp2_with fail
      have hH4 : Bk (w3.alloc (.cells (hcl H1) 54)) w3.heap.size 54 (hcl H1) := Mw.Bk.new _ _ _
      have hL4 := hL3.alloc (.cells (hcl H1) 54)
      have hb4 := Mw.bl_alloc hb3 (.cells (hcl H1) 54)
      change Calls Try.prog _ _ (w3.alloc (.cells (hcl H1) 54)) _
      generalize w3.alloc (.cells (hcl H1) 54) = w4 at *
      generalize w3.heap.size = g1 at *
      clear hL3 hb3
      refine (HS2.out _ hL4).mono ?_
      rintro e w5 ⟨rfl, hbq⟩
      have hH5 := hH4.old hbq
      have hL5 := hL4.old hbq
      have hb5 := bl_trans hb4 hbq
      clear hH4 hL4 hb4 hbq HS2
      go_wp2_with fail
      have hG6 : Bk (w5.alloc (.cells (hcl H2) 54)) w5.heap.size 54 (hcl H2) := Mw.Bk.new _ _ _
      have hH6 := hH5.alloc (.cells (hcl H2) 54)
      have hL6 := hL5.alloc (.cells (hcl H2) 54)
      have hb6 := Mw.bl_alloc hb5 (.cells (hcl H2) 54)
      change Calls Try.prog _ _ (w5.alloc (.cells (hcl H2) 54)) _
      generalize w5.alloc (.cells (hcl H2) 54) = w6 at *
      generalize w5.heap.size = g2 at *
      clear hH5 hL5 hb5
      refine (HXt.out _ hL6).mono ?_
      rintro e w7 ⟨D, cD, rfl, hcD, hmD, hrD, hbq⟩
      have hH7 := hH6.old hbq
      have hG7 := hG6.old hbq
      have hL7 := hL6.old hbq
      have hb7 := bl_trans hb6 hbq
      have hcD2 : P.length ≤ cD := hcD
      have hrD2 : RdD w7 D P := hrD
      clear hH6 hG6 hL6 hb6 hbq HXt hcD hrD
      have x0 : w7.cell? ⟨g1, 0, none⟩ = some (.int .i64 H1.n) := hH7.cell 0
      have x1 : w7.cell? ⟨g1, 1, none⟩ = some (.int .i64 H1.c) := hH7.cell 1
      have x2 : w7.cell? ⟨g1, 2, none⟩ = some (.int .u32 H1.r.1) := hH7.cell 2
      have x3 : w7.cell? ⟨g1, 3, none⟩ = some (.int .u32 H1.r.2.1) := hH7.cell 3
      have x4 : w7.cell? ⟨g1, 4, none⟩ = some (.int .u32 H1.r.2.2.1) := hH7.cell 4
      have x5 : w7.cell? ⟨g1, 5, none⟩ = some (.int .u32 H1.r.2.2.2) := hH7.cell 5
      have x6 : w7.cell? ⟨g1, 6, none⟩ = some (.int .u32 H1.l.1) := hH7.cell 6
      have x7 : w7.cell? ⟨g1, 7, none⟩ = some (.int .u32 H1.l.2.1) := hH7.cell 7
      have x8 : w7.cell? ⟨g1, 8, none⟩ = some (.int .u32 H1.l.2.2.1) := hH7.cell 8
      have x9 : w7.cell? ⟨g1, 9, none⟩ = some (.int .u32 H1.l.2.2.2) := hH7.cell 9
      have xa : w7.cell? ⟨g1, 10, none⟩ = some (.int .i64 H1.R) := hH7.cell 10
      have xb : w7.cell? ⟨g1, 11, none⟩ = some (.int .i64 H1.S) := hH7.cell 11
      have xl := hH7.lt
      have y0 : w7.cell? ⟨g2, 0, none⟩ = some (.int .i64 H2.n) := hG7.cell 0
      have y1 : w7.cell? ⟨g2, 1, none⟩ = some (.int .i64 H2.c) := hG7.cell 1
      have y2 : w7.cell? ⟨g2, 2, none⟩ = some (.int .u32 H2.r.1) := hG7.cell 2
      have y3 : w7.cell? ⟨g2, 3, none⟩ = some (.int .u32 H2.r.2.1) := hG7.cell 3
      have y4 : w7.cell? ⟨g2, 4, none⟩ = some (.int .u32 H2.r.2.2.1) := hG7.cell 4
      have y5 : w7.cell? ⟨g2, 5, none⟩ = some (.int .u32 H2.r.2.2.2) := hG7.cell 5
      have y6 : w7.cell? ⟨g2, 6, none⟩ = some (.int .u32 H2.l.1) := hG7.cell 6
      have y7 : w7.cell? ⟨g2, 7, none⟩ = some (.int .u32 H2.l.2.1) := hG7.cell 7
      have y8 : w7.cell? ⟨g2, 8, none⟩ = some (.int .u32 H2.l.2.2.1) := hG7.cell 8
      have y9 : w7.cell? ⟨g2, 9, none⟩ = some (.int .u32 H2.l.2.2.2) := hG7.cell 9
      have ya : w7.cell? ⟨g2, 10, none⟩ = some (.int .i64 H2.R) := hG7.cell 10
      have yb : w7.cell? ⟨g2, 11, none⟩ = some (.int .i64 H2.S) := hG7.cell 11
      have yl := hG7.lt
      go_wp2_with fail
      refine (HE1.out _ D cD hcD2 hmD hrD2).mono ?_
      rintro e w8 ⟨rfl, hbq⟩
      have hH8 := hH7.old hbq
      have hG8 := hG7.old hbq
      have hL8 := hL7.old hbq
      have hrD8 := hrD2.old hbq
      have hb8 := bl_trans hb7 hbq
      clear x0 x1 x2 x3 x4 x5 x6 x7 x8 x9 xa xb xl
      clear y0 y1 y2 y3 y4 y5 y6 y7 y8 y9 ya yb yl
      clear hH7 hG7 hL7 hrD2 hb7 hbq HE1
      have x0 : w8.cell? ⟨g1, 0, none⟩ = some (.int .i64 H1.n) := hH8.cell 0
      have x1 : w8.cell? ⟨g1, 1, none⟩ = some (.int .i64 H1.c) := hH8.cell 1
      have x2 : w8.cell? ⟨g1, 2, none⟩ = some (.int .u32 H1.r.1) := hH8.cell 2
      have x3 : w8.cell? ⟨g1, 3, none⟩ = some (.int .u32 H1.r.2.1) := hH8.cell 3
      have x4 : w8.cell? ⟨g1, 4, none⟩ = some (.int .u32 H1.r.2.2.1) := hH8.cell 4
      have x5 : w8.cell? ⟨g1, 5, none⟩ = some (.int .u32 H1.r.2.2.2) := hH8.cell 5
      have x6 : w8.cell? ⟨g1, 6, none⟩ = some (.int .u32 H1.l.1) := hH8.cell 6
      have x7 : w8.cell? ⟨g1, 7, none⟩ = some (.int .u32 H1.l.2.1) := hH8.cell 7
      have x8 : w8.cell? ⟨g1, 8, none⟩ = some (.int .u32 H1.l.2.2.1) := hH8.cell 8
      have x9 : w8.cell? ⟨g1, 9, none⟩ = some (.int .u32 H1.l.2.2.2) := hH8.cell 9
      have xa : w8.cell? ⟨g1, 10, none⟩ = some (.int .i64 H1.R) := hH8.cell 10
      have xb : w8.cell? ⟨g1, 11, none⟩ = some (.int .i64 H1.S) := hH8.cell 11
      have xl := hH8.lt
      have y0 : w8.cell? ⟨g2, 0, none⟩ = some (.int .i64 H2.n) := hG8.cell 0
      have y1 : w8.cell? ⟨g2, 1, none⟩ = some (.int .i64 H2.c) := hG8.cell 1
      have y2 : w8.cell? ⟨g2, 2, none⟩ = some (.int .u32 H2.r.1) := hG8.cell 2
      have y3 : w8.cell? ⟨g2, 3, none⟩ = some (.int .u32 H2.r.2.1) := hG8.cell 3
      have y4 : w8.cell? ⟨g2, 4, none⟩ = some (.int .u32 H2.r.2.2.1) := hG8.cell 4
      have y5 : w8.cell? ⟨g2, 5, none⟩ = some (.int .u32 H2.r.2.2.2) := hG8.cell 5
      have y6 : w8.cell? ⟨g2, 6, none⟩ = some (.int .u32 H2.l.1) := hG8.cell 6
      have y7 : w8.cell? ⟨g2, 7, none⟩ = some (.int .u32 H2.l.2.1) := hG8.cell 7
      have y8 : w8.cell? ⟨g2, 8, none⟩ = some (.int .u32 H2.l.2.2.1) := hG8.cell 8
      have y9 : w8.cell? ⟨g2, 9, none⟩ = some (.int .u32 H2.l.2.2.2) := hG8.cell 9
      have ya : w8.cell? ⟨g2, 10, none⟩ = some (.int .i64 H2.R) := hG8.cell 10
      have yb : w8.cell? ⟨g2, 11, none⟩ = some (.int .i64 H2.S) := hG8.cell 11
      have yl := hG8.lt
      obtain ⟨w9, hw9, hH9, hL9, hb9⟩ : ∃ w9 : World, w9 = w8 ∧ Bk w8 g1 54 (hcl H1) ∧ RdL w8 A l ∧ Below w.heap.size w w8 := ⟨w8, rfl, hH8, hL8, hb8⟩
      clear hw9
      by_cases hkl : K < l.length
      · have v0 : (K : Int) < l.length := by omega
        have HE3 := Lib.hid (HE2.out hkl _ D cD hcD2 hmD hrD8)
        go_wp2_with fail
        refine HE3.out.mono ?_
        rintro e wA ⟨rfl, hbq⟩
        have hHA := hH9.old hbq
        have hLA := hL9.old hbq
        have hbA := bl_trans hb9 hbq
        clear x0 x1 x2 x3 x4 x5 x6 x7 x8 x9 xa xb xl
        clear y0 y1 y2 y3 y4 y5 y6 y7 y8 y9 ya yb yl
        clear HE3 HE2 hbq hH9 hL9 hb9 hH8 hG8 hL8 hrD8 hb8
        go_wp2_with fail
        refine (HC1.out _ hLA).mono ?_
        rintro e wB ⟨v, rfl, hown, hbq⟩
        obtain ⟨C1, cC1, rfl, hcC, hrC, -⟩ := own_rows cfl_len (by omega) hown
        have hHB := hHA.old hbq
        have hLB := hLA.old hbq
        have hbB := bl_trans hbA hbq
        have HrC := Lib.hid hrC
        have HHB := Lib.hid hHB
        have HLB := Lib.hid hLB
        clear hown hbq hHA hLA hbA hrC hHB hLB hcC
        go_wp2_with fail
        go_loopw [105] (fun jj wv => ∃ (j : Nat), j ≤ c1.length ∧ jj = .int .i64 j ∧ Below wB.heap.size wB wv) (fun jj _ => c1.length - (RowKit.intOf jj).toNat)
        case atStart => exact ⟨0, by omega, rfl, Below.refl _ _⟩
        case round =>
          obtain ⟨j, hj, rfl, hbv⟩ := hrel
          by_cases hjl : j < c1.length
          · obtain ⟨b, off, rfl, hbl, e0, e1, e2, e3, e4⟩ := cf_at (HrC.out.old hbv) j hjl
            have hxm : ge c1 j ∈ c1 := ge_mem c1 j hjl
            generalize ge c1 j = x at hxm e0 e1 e2 e3 e4
            have hXa : Bk (wr.alloc (.cells #[.int .i64 x.i, .int .i64 x.c, .int .i64 x.g, .int .i64 x.t, .int .i64 x.r] 30)) wr.heap.size 30 #[.int .i64 x.i, .int .i64 x.c, .int .i64 x.g, .int .i64 x.t, .int .i64 x.r] := Mw.Bk.new _ _ _
            have hHa := (HHB.out.old hbv).alloc (.cells #[.int .i64 x.i, .int .i64 x.c, .int .i64 x.g, .int .i64 x.t, .int .i64 x.r] 30)
            have hLa := (HLB.out.old hbv).alloc (.cells #[.int .i64 x.i, .int .i64 x.c, .int .i64 x.g, .int .i64 x.t, .int .i64 x.r] 30)
            have hba := Mw.bl_alloc hbv (.cells #[.int .i64 x.i, .int .i64 x.c, .int .i64 x.g, .int .i64 x.t, .int .i64 x.r] 30)
            have u0 : (j : Int) < c1.length := by omega
            go_wp2_with fail
            generalize wr.alloc (.cells #[.int .i64 x.i, .int .i64 x.c, .int .i64 x.g, .int .i64 x.t, .int .i64 x.r] 30) = wa at *
            generalize wr.heap.size = xb at *
            clear e0 e1 e2 e3 e4 hbl hbv
            have x0 := hXa.cell 0
            have xl := hXa.lt
            have HP3 := Lib.hid (fun W => HP1.out W x hxm)
            have HV3 := Lib.hid (fun W E F cE cF => HVf.out W x E F cE cF hxm)
            have HP4 := Lib.hid (fun W => HP2.out W x hxm)
            have hq := pq x.i
            generalize pq x.i = Q at HP3 HV3
            clear hq
            go_region_law (first
              | (go_simp
                 go_at_call 12
                 refine (HP3.out _ (by first | exact hLa.drew | exact (hLa.alloc _).drew)).mono ?_
                 rintro e wc ⟨E, cE, F, cF, rfl, hcE, hmE, hrE, hcF, hmF, hrF, hbq⟩
                 have hbD : Below wa.heap.size wa wc := (by first | exact ⟨hbq.os, hbq.tape, hbq.output, hbq.size, hbq.block⟩ | exact (((Below.refl _ wa).alloc (Nat.le_refl _) _).trans ⟨hbq.os, hbq.tape, hbq.output, hbq.size, fun k hk => hbq.block k (by simp; omega)⟩))
                 try (have hZc : Bk wc wa.heap.size 40 #[.int .i64 0, .int .i64 0, .slice none 0 0, .slice none 0 0] := (Mw.Bk.new wa _ _).drew.old hbq
                      have zf := fun o => hZc.frozen o
                      have z0 := hZc.cell 0
                      have z1 := hZc.cell 1
                      have z2 := hZc.cell 2
                      have z3 := hZc.cell 3
                      have zl := hZc.lt)))
            · have hXc := hXa.old hbD
              have hHc := hHa.old hbD
              have hLc := hLa.old hbD
              have hbc := bl_trans hba hbD
              have n1 : xb < wa.heap.size := hXa.lt
              have n2 : g1 < wa.heap.size := hHa.lt
              have n3 : Mw.Away wa.heap.size A := fun a ha => by
                obtain ⟨b', off', e, hlt, _⟩ := hLa 0 (by omega)
                rw [ha] at e
                injection e with e
                rw [e]; exact Nat.ne_of_lt hlt
              have n4 : wB.heap.size ≤ wa.heap.size := hba.size
              clear hbq hbD hXa hHa hLa hba x0 xl
              have hQ : Bk (wc.alloc (.cells #[.int .i64 Q.ix, .int .i64 Q.pl, .slice E Q.pa.length cE, .slice F Q.sp.length cF] 40)) wc.heap.size 40 #[.int .i64 Q.ix, .int .i64 Q.pl, .slice E Q.pa.length cE, .slice F Q.sp.length cF] := Mw.Bk.new _ _ _
              have hXd := hXc.alloc (.cells #[.int .i64 Q.ix, .int .i64 Q.pl, .slice E Q.pa.length cE, .slice F Q.sp.length cF] 40)
              have hHd := hHc.alloc (.cells #[.int .i64 Q.ix, .int .i64 Q.pl, .slice E Q.pa.length cE, .slice F Q.sp.length cF] 40)
              have hLd := hLc.alloc (.cells #[.int .i64 Q.ix, .int .i64 Q.pl, .slice E Q.pa.length cE, .slice F Q.sp.length cF] 40)
              have hrEd := RdD.alloc hrE (.cells #[.int .i64 Q.ix, .int .i64 Q.pl, .slice E Q.pa.length cE, .slice F Q.sp.length cF] 40)
              have hrFd := RdD.alloc hrF (.cells #[.int .i64 Q.ix, .int .i64 Q.pl, .slice E Q.pa.length cE, .slice F Q.sp.length cF] 40)
              have hbd := Mw.bl_alloc hbc (.cells #[.int .i64 Q.ix, .int .i64 Q.pl, .slice E Q.pa.length cE, .slice F Q.sp.length cF] 40)
              clear hXc hHc hLc hbc hrE hrF n1 n2 n3 n4
              generalize wc.alloc (.cells #[.int .i64 Q.ix, .int .i64 Q.pl, .slice E Q.pa.length cE, .slice F Q.sp.length cF] 40) = wd at *
              generalize wc.heap.size = qb at *
              have x0 := hXd.cell 0
              have x1 := hXd.cell 1
              have x2 := hXd.cell 2
              have x3 := hXd.cell 3
              have x4 := hXd.cell 4
              have xl := hXd.lt
              have p0 := hQ.cell 0
              have p1 := hQ.cell 1
              have p2 := hQ.cell 2
              have p3 := hQ.cell 3
              have pl := hQ.lt
              have y0 : wd.cell? ⟨g1, 0, none⟩ = some (.int .i64 H1.n) := hHd.cell 0
              have y1 : wd.cell? ⟨g1, 1, none⟩ = some (.int .i64 H1.c) := hHd.cell 1
              have y2 : wd.cell? ⟨g1, 2, none⟩ = some (.int .u32 H1.r.1) := hHd.cell 2
              have y3 : wd.cell? ⟨g1, 3, none⟩ = some (.int .u32 H1.r.2.1) := hHd.cell 3
              have y4 : wd.cell? ⟨g1, 4, none⟩ = some (.int .u32 H1.r.2.2.1) := hHd.cell 4
              have y5 : wd.cell? ⟨g1, 5, none⟩ = some (.int .u32 H1.r.2.2.2) := hHd.cell 5
              have y6 : wd.cell? ⟨g1, 6, none⟩ = some (.int .u32 H1.l.1) := hHd.cell 6
              have y7 : wd.cell? ⟨g1, 7, none⟩ = some (.int .u32 H1.l.2.1) := hHd.cell 7
              have y8 : wd.cell? ⟨g1, 8, none⟩ = some (.int .u32 H1.l.2.2.1) := hHd.cell 8
              have y9 : wd.cell? ⟨g1, 9, none⟩ = some (.int .u32 H1.l.2.2.2) := hHd.cell 9
              have ya : wd.cell? ⟨g1, 10, none⟩ = some (.int .i64 H1.R) := hHd.cell 10
              have yb : wd.cell? ⟨g1, 11, none⟩ = some (.int .i64 H1.S) := hHd.cell 11
              have yl := hHd.lt
              go_wp2_with fail
              clear x0 x1 x2 x3 x4 xl
              clear p0 p1 p2 p3 pl
              clear y0 y1 y2 y3 y4 y5 y6 y7 y8 y9 ya yb yl
              refine (HV3.out _ E F cE cF hcE hmE hrEd hcF hmF hrFd).mono ?_
              rintro e we ⟨rfl, hbq⟩
              have hXe := hXd.old hbq
              have hLe := hLd.old hbq
              have hbe := bl_trans hbd hbq
              clear hXd hLd hHd hQ hbd hbq hrEd hrFd HV3 HP3
              by_cases hm : x ∈ c2
              · have h := HP4.out _ hLe
                rw [if_pos hm] at h
                have HPr := Lib.hid h
                have HM : Hid (decide (x ∈ c2) = true) := decide_eq_true hm
                clear h hm
                have x0 := hXe.cell 0
                have xl := hXe.lt
                go_wp2_with fail
                clear x0 xl
                refine HPr.out.mono ?_
                rintro e wf ⟨E2, cE2, F2, cF2, rfl, -, -, -, -, -, -, hbq⟩
                have hXf := hXe.old hbq
                have hLf := hLe.old hbq
                have hbf := bl_trans hbe hbq
                clear hXe hLe hbe hbq HPr
                go_wp2_with fail
                refine (HC2.out _ (by first | exact hLf.alloc _ | exact hLf)).mono ?_
                rintro e wg ⟨v2, rfl, hown, hbq⟩
                obtain ⟨C2, cC2, rfl, hcC2, hrC2, -⟩ := own_rows cfl_len (by omega) hown
                have hXg : Bk wg xb 30 #[.int .i64 x.i, .int .i64 x.c, .int .i64 x.g, .int .i64 x.t, .int .i64 x.r] := (hXf.alloc _).old hbq
                have hbg := bl_trans (Mw.bl_alloc hbf _) hbq
                have HrC2 := Lib.hid hrC2
                have HXg := Lib.hid hXg
                clear hown hbq hXf hLf hbf hrC2 hXg hcC2
                go_wp2_with fail
                go_loopw [22, 138] (fun st ii wv => ∃ (i : Nat), i ≤ c2.length ∧ ii = .int .i64 i ∧ st = .bool (decide (x ∈ c2.take i)) ∧ Below wg.heap.size wg wv) (fun _ ii _ => c2.length - (RowKit.intOf ii).toNat)
                case atStart => exact ⟨0, by omega, rfl, by simp, Below.refl _ _⟩
                case round =>
                  obtain ⟨i, hi2, rfl, rfl, hbh⟩ := hrel
                  have hXh := HXg.out.old hbh
                  have x0 := hXh.cell 0
                  have x1 := hXh.cell 1
                  have x2 := hXh.cell 2
                  have x3 := hXh.cell 3
                  have x4 := hXh.cell 4
                  have xl := hXh.lt
                  by_cases hil : i < c2.length
                  · obtain ⟨b5, off5, rfl, hbl5, e0, e1, e2, e3, e4⟩ := cf_at (HrC2.out.old hbh) i hil
                    have u1 : (i : Int) < c2.length := by omega
                    cases hst : decide (x ∈ c2.take i)
                    · by_cases q0 : (ge c2 i).i = x.i
                      · by_cases q1 : (ge c2 i).c = x.c
                        · by_cases q2 : (ge c2 i).g = x.g
                          · by_cases q3 : (ge c2 i).t = x.t
                            · by_cases q4 : (ge c2 i).r = x.r
                              · have hyx : ge c2 i = x := by
                                  generalize ge c2 i = y at *
                                  obtain ⟨a0, a1, a2, a3, a4⟩ := y
                                  obtain ⟨b0, b1, b2, b3, b4⟩ := x
                                  simp only at q0 q1 q2 q3 q4
                                  subst q0 q1 q2 q3 q4
                                  rfl
                                have H : Hid (decide (x ∈ c2.take (i + 1)) = true) := decide_eq_true ((mem_take_succ hil).2 (.inr hyx.symm))
                                have s0 : ((ge c2 i).i == x.i) = true := beq_iff_eq.2 q0
                                have s1 : ((ge c2 i).c == x.c) = true := beq_iff_eq.2 q1
                                have s2 : ((ge c2 i).g == x.g) = true := beq_iff_eq.2 q2
                                have s3 : ((ge c2 i).t == x.t) = true := beq_iff_eq.2 q3
                                have s4 : ((ge c2 i).r == x.r) = true := beq_iff_eq.2 q4
                                clear hyx q0 q1 q2 q3 q4
                                go_wp2_with fail
                                clear x0 x1 x2 x3 x4 xl
                                go_roundw
                                case rel => exact ⟨i + 1, by omega, by go_num, by rw [H.out] <;> rfl, by (repeat (first | with_reducible exact Below.refl _ _ | with_reducible refine bl_drewN ?_ _ | with_reducible refine Below.drew ?_ | with_reducible refine bl_alloc ?_ _ | with_reducible refine Below.alloc ?_ (by first | omega | (simp; done) | (simp; omega)) _ | with_reducible refine Below.setCell ?_ (by first | omega | (simp; done) | (simp; omega)) _ | with_reducible assumption))⟩
                                case measure => simp [RowKit.intOf]; omega
                              · have H : Hid (decide (x ∈ c2.take (i + 1)) = false) := decide_eq_false (fun hx => by
                                  rcases (mem_take_succ hil).1 hx with h | h
                                  · exact of_decide_eq_false hst h
                                  · exact q4 (by rw [h]))
                                have s0 : ((ge c2 i).i == x.i) = true := beq_iff_eq.2 q0
                                have s1 : ((ge c2 i).c == x.c) = true := beq_iff_eq.2 q1
                                have s2 : ((ge c2 i).g == x.g) = true := beq_iff_eq.2 q2
                                have s3 : ((ge c2 i).t == x.t) = true := beq_iff_eq.2 q3
                                have s4 : ((ge c2 i).r == x.r) = false := beq_eq_false_iff_ne.2 q4
                                clear q0 q1 q2 q3 q4 hst
                                go_wp2_with fail
                                clear x0 x1 x2 x3 x4 xl
                                go_roundw
                                case rel => exact ⟨i + 1, by omega, by go_num, by rw [H.out] <;> rfl, by (repeat (first | with_reducible exact Below.refl _ _ | with_reducible refine bl_drewN ?_ _ | with_reducible refine Below.drew ?_ | with_reducible refine bl_alloc ?_ _ | with_reducible refine Below.alloc ?_ (by first | omega | (simp; done) | (simp; omega)) _ | with_reducible refine Below.setCell ?_ (by first | omega | (simp; done) | (simp; omega)) _ | with_reducible assumption))⟩
                                case measure => simp [RowKit.intOf]; omega
                            · have H : Hid (decide (x ∈ c2.take (i + 1)) = false) := decide_eq_false (fun hx => by
                                rcases (mem_take_succ hil).1 hx with h | h
                                · exact of_decide_eq_false hst h
                                · exact q3 (by rw [h]))
                              have s0 : ((ge c2 i).i == x.i) = true := beq_iff_eq.2 q0
                              have s1 : ((ge c2 i).c == x.c) = true := beq_iff_eq.2 q1
                              have s2 : ((ge c2 i).g == x.g) = true := beq_iff_eq.2 q2
                              have s3 : ((ge c2 i).t == x.t) = false := beq_eq_false_iff_ne.2 q3
                              clear q0 q1 q2 q3 hst
                              go_wp2_with fail
                              clear x0 x1 x2 x3 x4 xl
                              go_roundw
                              case rel => exact ⟨i + 1, by omega, by go_num, by rw [H.out] <;> rfl, by (repeat (first | with_reducible exact Below.refl _ _ | with_reducible refine bl_drewN ?_ _ | with_reducible refine Below.drew ?_ | with_reducible refine bl_alloc ?_ _ | with_reducible refine Below.alloc ?_ (by first | omega | (simp; done) | (simp; omega)) _ | with_reducible refine Below.setCell ?_ (by first | omega | (simp; done) | (simp; omega)) _ | with_reducible assumption))⟩
                              case measure => simp [RowKit.intOf]; omega
                          · have H : Hid (decide (x ∈ c2.take (i + 1)) = false) := decide_eq_false (fun hx => by
                              rcases (mem_take_succ hil).1 hx with h | h
                              · exact of_decide_eq_false hst h
                              · exact q2 (by rw [h]))
                            have s0 : ((ge c2 i).i == x.i) = true := beq_iff_eq.2 q0
                            have s1 : ((ge c2 i).c == x.c) = true := beq_iff_eq.2 q1
                            have s2 : ((ge c2 i).g == x.g) = false := beq_eq_false_iff_ne.2 q2
                            clear q0 q1 q2 hst
                            go_wp2_with fail
                            clear x0 x1 x2 x3 x4 xl
                            go_roundw
                            case rel => exact ⟨i + 1, by omega, by go_num, by rw [H.out] <;> rfl, by (repeat (first | with_reducible exact Below.refl _ _ | with_reducible refine bl_drewN ?_ _ | with_reducible refine Below.drew ?_ | with_reducible refine bl_alloc ?_ _ | with_reducible refine Below.alloc ?_ (by first | omega | (simp; done) | (simp; omega)) _ | with_reducible refine Below.setCell ?_ (by first | omega | (simp; done) | (simp; omega)) _ | with_reducible assumption))⟩
                            case measure => simp [RowKit.intOf]; omega
                        · have H : Hid (decide (x ∈ c2.take (i + 1)) = false) := decide_eq_false (fun hx => by
                            rcases (mem_take_succ hil).1 hx with h | h
                            · exact of_decide_eq_false hst h
                            · exact q1 (by rw [h]))
                          have s0 : ((ge c2 i).i == x.i) = true := beq_iff_eq.2 q0
                          have s1 : ((ge c2 i).c == x.c) = false := beq_eq_false_iff_ne.2 q1
                          clear q0 q1 hst
                          go_wp2_with fail
                          clear x0 x1 x2 x3 x4 xl
                          go_roundw
                          case rel => exact ⟨i + 1, by omega, by go_num, by rw [H.out] <;> rfl, by (repeat (first | with_reducible exact Below.refl _ _ | with_reducible refine bl_drewN ?_ _ | with_reducible refine Below.drew ?_ | with_reducible refine bl_alloc ?_ _ | with_reducible refine Below.alloc ?_ (by first | omega | (simp; done) | (simp; omega)) _ | with_reducible refine Below.setCell ?_ (by first | omega | (simp; done) | (simp; omega)) _ | with_reducible assumption))⟩
                          case measure => simp [RowKit.intOf]; omega
                      · have H : Hid (decide (x ∈ c2.take (i + 1)) = false) := decide_eq_false (fun hx => by
                          rcases (mem_take_succ hil).1 hx with h | h
                          · exact of_decide_eq_false hst h
                          · exact q0 (by rw [h]))
                        have s0 : ((ge c2 i).i == x.i) = false := beq_eq_false_iff_ne.2 q0
                        clear q0 hst
                        go_wp2_with fail
                        clear x0 x1 x2 x3 x4 xl
                        go_roundw
                        case rel => exact ⟨i + 1, by omega, by go_num, by rw [H.out] <;> rfl, by (repeat (first | with_reducible exact Below.refl _ _ | with_reducible refine bl_drewN ?_ _ | with_reducible refine Below.drew ?_ | with_reducible refine bl_alloc ?_ _ | with_reducible refine Below.alloc ?_ (by first | omega | (simp; done) | (simp; omega)) _ | with_reducible refine Below.setCell ?_ (by first | omega | (simp; done) | (simp; omega)) _ | with_reducible assumption))⟩
                        case measure => simp [RowKit.intOf]; omega
                    · have H : Hid (decide (x ∈ c2.take (i + 1)) = true) := decide_eq_true ((mem_take_succ hil).2 (.inl (of_decide_eq_true hst)))
                      clear hst
                      go_wp2_with fail
                      clear x0 x1 x2 x3 x4 xl
                      go_roundw
                      case rel => exact ⟨i + 1, by omega, by go_num, by rw [H.out] <;> rfl, by (repeat (first | with_reducible exact Below.refl _ _ | with_reducible refine bl_drewN ?_ _ | with_reducible refine Below.drew ?_ | with_reducible refine bl_alloc ?_ _ | with_reducible refine Below.alloc ?_ (by first | omega | (simp; done) | (simp; omega)) _ | with_reducible refine Below.setCell ?_ (by first | omega | (simp; done) | (simp; omega)) _ | with_reducible assumption))⟩
                      case measure => simp [RowKit.intOf]; omega
                  · have hie : decide (x ∈ c2.take i) = true := by rw [show i = c2.length by omega, List.take_length]; exact HM.out
                    rw [hie]
                    have u1 : ¬ (i : Int) < c2.length := by omega
                    have hbz := bl_trans hbg hbh
                    clear hie hi2
                    clear x0 x1 x2 x3 x4 xl
                    go_wp2_with fail
                    go_roundw
                    case rel => exact ⟨j + 1, by omega, by go_num, hbz⟩
                    case measure => simp [RowKit.intOf]; omega
              · have h := HP4.out _ hLe
                rw [if_neg hm] at h
                have HPr := Lib.hid h
                have HM : Hid (decide (x ∈ c2) = false) := decide_eq_false hm
                clear h hm
                have x0 := hXe.cell 0
                have xl := hXe.lt
                go_wp2_with fail
                clear x0 xl
                refine HPr.out.mono ?_
                rintro e wf ⟨E2, cE2, F2, cF2, rfl, -, -, -, -, -, -, hbq⟩
                have hXf := hXe.old hbq
                have hLf := hLe.old hbq
                have hbf := bl_trans hbe hbq
                clear hXe hLe hbe hbq HPr
                go_wp2_with fail
                refine (HC2.out _ (by first | exact hLf.alloc _ | exact hLf)).mono ?_
                rintro e wg ⟨v2, rfl, hown, hbq⟩
                obtain ⟨C2, cC2, rfl, hcC2, hrC2, -⟩ := own_rows cfl_len (by omega) hown
                have hXg : Bk wg xb 30 #[.int .i64 x.i, .int .i64 x.c, .int .i64 x.g, .int .i64 x.t, .int .i64 x.r] := (hXf.alloc _).old hbq
                have hbg := bl_trans (Mw.bl_alloc hbf _) hbq
                have HrC2 := Lib.hid hrC2
                have HXg := Lib.hid hXg
                clear hown hbq hXf hLf hbf hrC2 hXg hcC2
                go_wp2_with fail
                go_loopw [22, 138] (fun st ii wv => ∃ (i : Nat), i ≤ c2.length ∧ ii = .int .i64 i ∧ st = .bool (decide (x ∈ c2.take i)) ∧ Below wg.heap.size wg wv) (fun _ ii _ => c2.length - (RowKit.intOf ii).toNat)
                case atStart => exact ⟨0, by omega, rfl, by simp, Below.refl _ _⟩
                case round =>
                  obtain ⟨i, hi2, rfl, rfl, hbh⟩ := hrel
                  have hXh := HXg.out.old hbh
                  have x0 := hXh.cell 0
                  have x1 := hXh.cell 1
                  have x2 := hXh.cell 2
                  have x3 := hXh.cell 3
                  have x4 := hXh.cell 4
                  have xl := hXh.lt
                  by_cases hil : i < c2.length
                  · obtain ⟨b5, off5, rfl, hbl5, e0, e1, e2, e3, e4⟩ := cf_at (HrC2.out.old hbh) i hil
                    have u1 : (i : Int) < c2.length := by omega
                    cases hst : decide (x ∈ c2.take i)
                    · by_cases q0 : (ge c2 i).i = x.i
                      · by_cases q1 : (ge c2 i).c = x.c
                        · by_cases q2 : (ge c2 i).g = x.g
                          · by_cases q3 : (ge c2 i).t = x.t
                            · by_cases q4 : (ge c2 i).r = x.r
                              · have hyx : ge c2 i = x := by
                                  generalize ge c2 i = y at *
                                  obtain ⟨a0, a1, a2, a3, a4⟩ := y
                                  obtain ⟨b0, b1, b2, b3, b4⟩ := x
                                  simp only at q0 q1 q2 q3 q4
                                  subst q0 q1 q2 q3 q4
                                  rfl
                                have H : Hid (decide (x ∈ c2.take (i + 1)) = true) := decide_eq_true ((mem_take_succ hil).2 (.inr hyx.symm))
                                have s0 : ((ge c2 i).i == x.i) = true := beq_iff_eq.2 q0
                                have s1 : ((ge c2 i).c == x.c) = true := beq_iff_eq.2 q1
                                have s2 : ((ge c2 i).g == x.g) = true := beq_iff_eq.2 q2
                                have s3 : ((ge c2 i).t == x.t) = true := beq_iff_eq.2 q3
                                have s4 : ((ge c2 i).r == x.r) = true := beq_iff_eq.2 q4
                                clear hyx q0 q1 q2 q3 q4
                                go_wp2_with fail
                                clear x0 x1 x2 x3 x4 xl
                                go_roundw
                                case rel => exact ⟨i + 1, by omega, by go_num, by rw [H.out] <;> rfl, by (repeat (first | with_reducible exact Below.refl _ _ | with_reducible refine bl_drewN ?_ _ | with_reducible refine Below.drew ?_ | with_reducible refine bl_alloc ?_ _ | with_reducible refine Below.alloc ?_ (by first | omega | (simp; done) | (simp; omega)) _ | with_reducible refine Below.setCell ?_ (by first | omega | (simp; done) | (simp; omega)) _ | with_reducible assumption))⟩
                                case measure => simp [RowKit.intOf]; omega
                              · have H : Hid (decide (x ∈ c2.take (i + 1)) = false) := decide_eq_false (fun hx => by
                                  rcases (mem_take_succ hil).1 hx with h | h
                                  · exact of_decide_eq_false hst h
                                  · exact q4 (by rw [h]))
                                have s0 : ((ge c2 i).i == x.i) = true := beq_iff_eq.2 q0
                                have s1 : ((ge c2 i).c == x.c) = true := beq_iff_eq.2 q1
                                have s2 : ((ge c2 i).g == x.g) = true := beq_iff_eq.2 q2
                                have s3 : ((ge c2 i).t == x.t) = true := beq_iff_eq.2 q3
                                have s4 : ((ge c2 i).r == x.r) = false := beq_eq_false_iff_ne.2 q4
                                clear q0 q1 q2 q3 q4 hst
                                go_wp2_with fail
                                clear x0 x1 x2 x3 x4 xl
                                go_roundw
                                case rel => exact ⟨i + 1, by omega, by go_num, by rw [H.out] <;> rfl, by (repeat (first | with_reducible exact Below.refl _ _ | with_reducible refine bl_drewN ?_ _ | with_reducible refine Below.drew ?_ | with_reducible refine bl_alloc ?_ _ | with_reducible refine Below.alloc ?_ (by first | omega | (simp; done) | (simp; omega)) _ | with_reducible refine Below.setCell ?_ (by first | omega | (simp; done) | (simp; omega)) _ | with_reducible assumption))⟩
                                case measure => simp [RowKit.intOf]; omega
                            · have H : Hid (decide (x ∈ c2.take (i + 1)) = false) := decide_eq_false (fun hx => by
                                rcases (mem_take_succ hil).1 hx with h | h
                                · exact of_decide_eq_false hst h
                                · exact q3 (by rw [h]))
                              have s0 : ((ge c2 i).i == x.i) = true := beq_iff_eq.2 q0
                              have s1 : ((ge c2 i).c == x.c) = true := beq_iff_eq.2 q1
                              have s2 : ((ge c2 i).g == x.g) = true := beq_iff_eq.2 q2
                              have s3 : ((ge c2 i).t == x.t) = false := beq_eq_false_iff_ne.2 q3
                              clear q0 q1 q2 q3 hst
                              go_wp2_with fail
                              clear x0 x1 x2 x3 x4 xl
                              go_roundw
                              case rel => exact ⟨i + 1, by omega, by go_num, by rw [H.out] <;> rfl, by (repeat (first | with_reducible exact Below.refl _ _ | with_reducible refine bl_drewN ?_ _ | with_reducible refine Below.drew ?_ | with_reducible refine bl_alloc ?_ _ | with_reducible refine Below.alloc ?_ (by first | omega | (simp; done) | (simp; omega)) _ | with_reducible refine Below.setCell ?_ (by first | omega | (simp; done) | (simp; omega)) _ | with_reducible assumption))⟩
                              case measure => simp [RowKit.intOf]; omega
                          · have H : Hid (decide (x ∈ c2.take (i + 1)) = false) := decide_eq_false (fun hx => by
                              rcases (mem_take_succ hil).1 hx with h | h
                              · exact of_decide_eq_false hst h
                              · exact q2 (by rw [h]))
                            have s0 : ((ge c2 i).i == x.i) = true := beq_iff_eq.2 q0
                            have s1 : ((ge c2 i).c == x.c) = true := beq_iff_eq.2 q1
                            have s2 : ((ge c2 i).g == x.g) = false := beq_eq_false_iff_ne.2 q2
                            clear q0 q1 q2 hst
                            go_wp2_with fail
                            clear x0 x1 x2 x3 x4 xl
                            go_roundw
                            case rel => exact ⟨i + 1, by omega, by go_num, by rw [H.out] <;> rfl, by (repeat (first | with_reducible exact Below.refl _ _ | with_reducible refine bl_drewN ?_ _ | with_reducible refine Below.drew ?_ | with_reducible refine bl_alloc ?_ _ | with_reducible refine Below.alloc ?_ (by first | omega | (simp; done) | (simp; omega)) _ | with_reducible refine Below.setCell ?_ (by first | omega | (simp; done) | (simp; omega)) _ | with_reducible assumption))⟩
                            case measure => simp [RowKit.intOf]; omega
                        · have H : Hid (decide (x ∈ c2.take (i + 1)) = false) := decide_eq_false (fun hx => by
                            rcases (mem_take_succ hil).1 hx with h | h
                            · exact of_decide_eq_false hst h
                            · exact q1 (by rw [h]))
                          have s0 : ((ge c2 i).i == x.i) = true := beq_iff_eq.2 q0
                          have s1 : ((ge c2 i).c == x.c) = false := beq_eq_false_iff_ne.2 q1
                          clear q0 q1 hst
                          go_wp2_with fail
                          clear x0 x1 x2 x3 x4 xl
                          go_roundw
                          case rel => exact ⟨i + 1, by omega, by go_num, by rw [H.out] <;> rfl, by (repeat (first | with_reducible exact Below.refl _ _ | with_reducible refine bl_drewN ?_ _ | with_reducible refine Below.drew ?_ | with_reducible refine bl_alloc ?_ _ | with_reducible refine Below.alloc ?_ (by first | omega | (simp; done) | (simp; omega)) _ | with_reducible refine Below.setCell ?_ (by first | omega | (simp; done) | (simp; omega)) _ | with_reducible assumption))⟩
                          case measure => simp [RowKit.intOf]; omega
                      · have H : Hid (decide (x ∈ c2.take (i + 1)) = false) := decide_eq_false (fun hx => by
                          rcases (mem_take_succ hil).1 hx with h | h
                          · exact of_decide_eq_false hst h
                          · exact q0 (by rw [h]))
                        have s0 : ((ge c2 i).i == x.i) = false := beq_eq_false_iff_ne.2 q0
                        clear q0 hst
                        go_wp2_with fail
                        clear x0 x1 x2 x3 x4 xl
                        go_roundw
                        case rel => exact ⟨i + 1, by omega, by go_num, by rw [H.out] <;> rfl, by (repeat (first | with_reducible exact Below.refl _ _ | with_reducible refine bl_drewN ?_ _ | with_reducible refine Below.drew ?_ | with_reducible refine bl_alloc ?_ _ | with_reducible refine Below.alloc ?_ (by first | omega | (simp; done) | (simp; omega)) _ | with_reducible refine Below.setCell ?_ (by first | omega | (simp; done) | (simp; omega)) _ | with_reducible assumption))⟩
                        case measure => simp [RowKit.intOf]; omega
                    · have H : Hid (decide (x ∈ c2.take (i + 1)) = true) := decide_eq_true ((mem_take_succ hil).2 (.inl (of_decide_eq_true hst)))
                      clear hst
                      go_wp2_with fail
                      clear x0 x1 x2 x3 x4 xl
                      go_roundw
                      case rel => exact ⟨i + 1, by omega, by go_num, by rw [H.out] <;> rfl, by (repeat (first | with_reducible exact Below.refl _ _ | with_reducible refine bl_drewN ?_ _ | with_reducible refine Below.drew ?_ | with_reducible refine bl_alloc ?_ _ | with_reducible refine Below.alloc ?_ (by first | omega | (simp; done) | (simp; omega)) _ | with_reducible refine Below.setCell ?_ (by first | omega | (simp; done) | (simp; omega)) _ | with_reducible assumption))⟩
                      case measure => simp [RowKit.intOf]; omega
                  · have hie : decide (x ∈ c2.take i) = false := by rw [show i = c2.length by omega, List.take_length]; exact HM.out
                    rw [hie]
                    have u1 : ¬ (i : Int) < c2.length := by omega
                    have hbz := bl_trans hbg hbh
                    clear hie hi2
                    clear x0 x1 x2 x3 x4 xl
                    go_wp2_with fail
                    go_roundw
                    case rel => exact ⟨j + 1, by omega, by go_num, hbz⟩
                    case measure => simp [RowKit.intOf]; omega
            all_goals
              have hXc := hXa.old hbD
              have hHc := hHa.old hbD
              have hLc := hLa.old hbD
              have hbc := bl_trans hba hbD
              have n1 : xb < wa.heap.size := hXa.lt
              have n2 : g1 < wa.heap.size := hHa.lt
              have n3 : Mw.Away wa.heap.size A := fun a ha => by
                obtain ⟨b', off', e, hlt, _⟩ := hLa 0 (by omega)
                rw [ha] at e
                injection e with e
                rw [e]; exact Nat.ne_of_lt hlt
              have n4 : wB.heap.size ≤ wa.heap.size := hba.size
              clear hbq hbD hXa hHa hLa hba x0 xl
              have hQ := (((hZc.set 0 (.int .i64 Q.ix)).set 1 (.int .i64 Q.pl)).set 2 (.slice E Q.pa.length cE)).set 3 (.slice F Q.sp.length cF)
              simp only [List.setIfInBounds_toArray, List.set_cons_zero, List.set_cons_succ] at hQ
              have hXd := (((hXc.far (p := ⟨wa.heap.size, 0, none⟩) (Nat.ne_of_lt n1) (.int .i64 Q.ix)).far (p := ⟨wa.heap.size, 1, none⟩) (Nat.ne_of_lt n1) (.int .i64 Q.pl)).far (p := ⟨wa.heap.size, 2, none⟩) (Nat.ne_of_lt n1) (.slice E Q.pa.length cE)).far (p := ⟨wa.heap.size, 3, none⟩) (Nat.ne_of_lt n1) (.slice F Q.sp.length cF)
              have hHd := (((hHc.far (p := ⟨wa.heap.size, 0, none⟩) (Nat.ne_of_lt n2) (.int .i64 Q.ix)).far (p := ⟨wa.heap.size, 1, none⟩) (Nat.ne_of_lt n2) (.int .i64 Q.pl)).far (p := ⟨wa.heap.size, 2, none⟩) (Nat.ne_of_lt n2) (.slice E Q.pa.length cE)).far (p := ⟨wa.heap.size, 3, none⟩) (Nat.ne_of_lt n2) (.slice F Q.sp.length cF)
              have hLd := (((hLc.far (p := ⟨wa.heap.size, 0, none⟩) n3 (.int .i64 Q.ix)).far (p := ⟨wa.heap.size, 1, none⟩) n3 (.int .i64 Q.pl)).far (p := ⟨wa.heap.size, 2, none⟩) n3 (.slice E Q.pa.length cE)).far (p := ⟨wa.heap.size, 3, none⟩) n3 (.slice F Q.sp.length cF)
              have hrEd := rdd_pf4 (a' := Q.ix) (b' := Q.pl) (A' := E) (n' := Q.pa.length) (c' := cE) (B' := F) (m' := Q.sp.length) (d' := cF) hZc hrE
              have hrFd := rdd_pf4 (a' := Q.ix) (b' := Q.pl) (A' := E) (n' := Q.pa.length) (c' := cE) (B' := F) (m' := Q.sp.length) (d' := cF) hZc hrF
              have hbd := (((hbc.setCell (p := ⟨wa.heap.size, 0, none⟩) n4 (.int .i64 Q.ix)).setCell (p := ⟨wa.heap.size, 1, none⟩) n4 (.int .i64 Q.pl)).setCell (p := ⟨wa.heap.size, 2, none⟩) n4 (.slice E Q.pa.length cE)).setCell (p := ⟨wa.heap.size, 3, none⟩) n4 (.slice F Q.sp.length cF)
              clear hZc zf z0 z1 z2 z3 zl hXc hHc hLc hbc hrE hrF
              generalize ((((wc.setCell ⟨wa.heap.size, 0, none⟩ (.int .i64 Q.ix)).setCell ⟨wa.heap.size, 1, none⟩ (.int .i64 Q.pl)).setCell ⟨wa.heap.size, 2, none⟩ (.slice E Q.pa.length cE)).setCell ⟨wa.heap.size, 3, none⟩ (.slice F Q.sp.length cF)) = wd at *
              generalize wa.heap.size = qb at *
              clear n1 n2 n3 n4
              have x0 := hXd.cell 0
              have x1 := hXd.cell 1
              have x2 := hXd.cell 2
              have x3 := hXd.cell 3
              have x4 := hXd.cell 4
              have xl := hXd.lt
              have p0 := hQ.cell 0
              have p1 := hQ.cell 1
              have p2 := hQ.cell 2
              have p3 := hQ.cell 3
              have pl := hQ.lt
              have y0 : wd.cell? ⟨g1, 0, none⟩ = some (.int .i64 H1.n) := hHd.cell 0
              have y1 : wd.cell? ⟨g1, 1, none⟩ = some (.int .i64 H1.c) := hHd.cell 1
              have y2 : wd.cell? ⟨g1, 2, none⟩ = some (.int .u32 H1.r.1) := hHd.cell 2
              have y3 : wd.cell? ⟨g1, 3, none⟩ = some (.int .u32 H1.r.2.1) := hHd.cell 3
              have y4 : wd.cell? ⟨g1, 4, none⟩ = some (.int .u32 H1.r.2.2.1) := hHd.cell 4
              have y5 : wd.cell? ⟨g1, 5, none⟩ = some (.int .u32 H1.r.2.2.2) := hHd.cell 5
              have y6 : wd.cell? ⟨g1, 6, none⟩ = some (.int .u32 H1.l.1) := hHd.cell 6
              have y7 : wd.cell? ⟨g1, 7, none⟩ = some (.int .u32 H1.l.2.1) := hHd.cell 7
              have y8 : wd.cell? ⟨g1, 8, none⟩ = some (.int .u32 H1.l.2.2.1) := hHd.cell 8
              have y9 : wd.cell? ⟨g1, 9, none⟩ = some (.int .u32 H1.l.2.2.2) := hHd.cell 9
              have ya : wd.cell? ⟨g1, 10, none⟩ = some (.int .i64 H1.R) := hHd.cell 10
              have yb : wd.cell? ⟨g1, 11, none⟩ = some (.int .i64 H1.S) := hHd.cell 11
              have yl := hHd.lt
              go_wp2_with fail
              clear x0 x1 x2 x3 x4 xl
              clear p0 p1 p2 p3 pl
              clear y0 y1 y2 y3 y4 y5 y6 y7 y8 y9 ya yb yl
              refine (HV3.out _ E F cE cF hcE hmE hrEd hcF hmF hrFd).mono ?_
              rintro e we ⟨rfl, hbq⟩
              have hXe := hXd.old hbq
              have hLe := hLd.old hbq
              have hbe := bl_trans hbd hbq
              clear hXd hLd hHd hQ hbd hbq hrEd hrFd HV3 HP3
              by_cases hm : x ∈ c2
              · have h := HP4.out _ hLe
                rw [if_pos hm] at h
                have HPr := Lib.hid h
                have HM : Hid (decide (x ∈ c2) = true) := decide_eq_true hm
                clear h hm
                have x0 := hXe.cell 0
                have xl := hXe.lt
                go_wp2_with fail
                clear x0 xl
                refine HPr.out.mono ?_
                rintro e wf ⟨E2, cE2, F2, cF2, rfl, -, -, -, -, -, -, hbq⟩
                have hXf := hXe.old hbq
                have hLf := hLe.old hbq
                have hbf := bl_trans hbe hbq
                clear hXe hLe hbe hbq HPr
                go_wp2_with fail
                refine (HC2.out _ (by first | exact hLf.alloc _ | exact hLf)).mono ?_
                rintro e wg ⟨v2, rfl, hown, hbq⟩
                obtain ⟨C2, cC2, rfl, hcC2, hrC2, -⟩ := own_rows cfl_len (by omega) hown
                have hXg : Bk wg xb 30 #[.int .i64 x.i, .int .i64 x.c, .int .i64 x.g, .int .i64 x.t, .int .i64 x.r] := (hXf.alloc _).old hbq
                have hbg := bl_trans (Mw.bl_alloc hbf _) hbq
                have HrC2 := Lib.hid hrC2
                have HXg := Lib.hid hXg
                clear hown hbq hXf hLf hbf hrC2 hXg hcC2
                go_wp2_with fail
                go_loopw [22, 138] (fun st ii wv => ∃ (i : Nat), i ≤ c2.length ∧ ii = .int .i64 i ∧ st = .bool (decide (x ∈ c2.take i)) ∧ Below wg.heap.size wg wv) (fun _ ii _ => c2.length - (RowKit.intOf ii).toNat)
                case atStart => exact ⟨0, by omega, rfl, by simp, Below.refl _ _⟩
                case round =>
                  obtain ⟨i, hi2, rfl, rfl, hbh⟩ := hrel
                  have hXh := HXg.out.old hbh
                  have x0 := hXh.cell 0
                  have x1 := hXh.cell 1
                  have x2 := hXh.cell 2
                  have x3 := hXh.cell 3
                  have x4 := hXh.cell 4
                  have xl := hXh.lt
                  by_cases hil : i < c2.length
                  · obtain ⟨b5, off5, rfl, hbl5, e0, e1, e2, e3, e4⟩ := cf_at (HrC2.out.old hbh) i hil
                    have u1 : (i : Int) < c2.length := by omega
                    cases hst : decide (x ∈ c2.take i)
                    · by_cases q0 : (ge c2 i).i = x.i
                      · by_cases q1 : (ge c2 i).c = x.c
                        · by_cases q2 : (ge c2 i).g = x.g
                          · by_cases q3 : (ge c2 i).t = x.t
                            · by_cases q4 : (ge c2 i).r = x.r
                              · have hyx : ge c2 i = x := by
                                  generalize ge c2 i = y at *
                                  obtain ⟨a0, a1, a2, a3, a4⟩ := y
                                  obtain ⟨b0, b1, b2, b3, b4⟩ := x
                                  simp only at q0 q1 q2 q3 q4
                                  subst q0 q1 q2 q3 q4
                                  rfl
                                have H : Hid (decide (x ∈ c2.take (i + 1)) = true) := decide_eq_true ((mem_take_succ hil).2 (.inr hyx.symm))
                                have s0 : ((ge c2 i).i == x.i) = true := beq_iff_eq.2 q0
                                have s1 : ((ge c2 i).c == x.c) = true := beq_iff_eq.2 q1
                                have s2 : ((ge c2 i).g == x.g) = true := beq_iff_eq.2 q2
                                have s3 : ((ge c2 i).t == x.t) = true := beq_iff_eq.2 q3
                                have s4 : ((ge c2 i).r == x.r) = true := beq_iff_eq.2 q4
                                clear hyx q0 q1 q2 q3 q4
                                go_wp2_with fail
                                clear x0 x1 x2 x3 x4 xl
                                go_roundw
                                case rel => exact ⟨i + 1, by omega, by go_num, by rw [H.out] <;> rfl, by (repeat (first | with_reducible exact Below.refl _ _ | with_reducible refine bl_drewN ?_ _ | with_reducible refine Below.drew ?_ | with_reducible refine bl_alloc ?_ _ | with_reducible refine Below.alloc ?_ (by first | omega | (simp; done) | (simp; omega)) _ | with_reducible refine Below.setCell ?_ (by first | omega | (simp; done) | (simp; omega)) _ | with_reducible assumption))⟩
                                case measure => simp [RowKit.intOf]; omega
                              · have H : Hid (decide (x ∈ c2.take (i + 1)) = false) := decide_eq_false (fun hx => by
                                  rcases (mem_take_succ hil).1 hx with h | h
                                  · exact of_decide_eq_false hst h
                                  · exact q4 (by rw [h]))
                                have s0 : ((ge c2 i).i == x.i) = true := beq_iff_eq.2 q0
                                have s1 : ((ge c2 i).c == x.c) = true := beq_iff_eq.2 q1
                                have s2 : ((ge c2 i).g == x.g) = true := beq_iff_eq.2 q2
                                have s3 : ((ge c2 i).t == x.t) = true := beq_iff_eq.2 q3
                                have s4 : ((ge c2 i).r == x.r) = false := beq_eq_false_iff_ne.2 q4
                                clear q0 q1 q2 q3 q4 hst
                                go_wp2_with fail
                                clear x0 x1 x2 x3 x4 xl
                                go_roundw
                                case rel => exact ⟨i + 1, by omega, by go_num, by rw [H.out] <;> rfl, by (repeat (first | with_reducible exact Below.refl _ _ | with_reducible refine bl_drewN ?_ _ | with_reducible refine Below.drew ?_ | with_reducible refine bl_alloc ?_ _ | with_reducible refine Below.alloc ?_ (by first | omega | (simp; done) | (simp; omega)) _ | with_reducible refine Below.setCell ?_ (by first | omega | (simp; done) | (simp; omega)) _ | with_reducible assumption))⟩
                                case measure => simp [RowKit.intOf]; omega
                            · have H : Hid (decide (x ∈ c2.take (i + 1)) = false) := decide_eq_false (fun hx => by
                                rcases (mem_take_succ hil).1 hx with h | h
                                · exact of_decide_eq_false hst h
                                · exact q3 (by rw [h]))
                              have s0 : ((ge c2 i).i == x.i) = true := beq_iff_eq.2 q0
                              have s1 : ((ge c2 i).c == x.c) = true := beq_iff_eq.2 q1
                              have s2 : ((ge c2 i).g == x.g) = true := beq_iff_eq.2 q2
                              have s3 : ((ge c2 i).t == x.t) = false := beq_eq_false_iff_ne.2 q3
                              clear q0 q1 q2 q3 hst
                              go_wp2_with fail
                              clear x0 x1 x2 x3 x4 xl
                              go_roundw
                              case rel => exact ⟨i + 1, by omega, by go_num, by rw [H.out] <;> rfl, by (repeat (first | with_reducible exact Below.refl _ _ | with_reducible refine bl_drewN ?_ _ | with_reducible refine Below.drew ?_ | with_reducible refine bl_alloc ?_ _ | with_reducible refine Below.alloc ?_ (by first | omega | (simp; done) | (simp; omega)) _ | with_reducible refine Below.setCell ?_ (by first | omega | (simp; done) | (simp; omega)) _ | with_reducible assumption))⟩
                              case measure => simp [RowKit.intOf]; omega
                          · have H : Hid (decide (x ∈ c2.take (i + 1)) = false) := decide_eq_false (fun hx => by
                              rcases (mem_take_succ hil).1 hx with h | h
                              · exact of_decide_eq_false hst h
                              · exact q2 (by rw [h]))
                            have s0 : ((ge c2 i).i == x.i) = true := beq_iff_eq.2 q0
                            have s1 : ((ge c2 i).c == x.c) = true := beq_iff_eq.2 q1
                            have s2 : ((ge c2 i).g == x.g) = false := beq_eq_false_iff_ne.2 q2
                            clear q0 q1 q2 hst
                            go_wp2_with fail
                            clear x0 x1 x2 x3 x4 xl
                            go_roundw
                            case rel => exact ⟨i + 1, by omega, by go_num, by rw [H.out] <;> rfl, by (repeat (first | with_reducible exact Below.refl _ _ | with_reducible refine bl_drewN ?_ _ | with_reducible refine Below.drew ?_ | with_reducible refine bl_alloc ?_ _ | with_reducible refine Below.alloc ?_ (by first | omega | (simp; done) | (simp; omega)) _ | with_reducible refine Below.setCell ?_ (by first | omega | (simp; done) | (simp; omega)) _ | with_reducible assumption))⟩
                            case measure => simp [RowKit.intOf]; omega
                        · have H : Hid (decide (x ∈ c2.take (i + 1)) = false) := decide_eq_false (fun hx => by
                            rcases (mem_take_succ hil).1 hx with h | h
                            · exact of_decide_eq_false hst h
                            · exact q1 (by rw [h]))
                          have s0 : ((ge c2 i).i == x.i) = true := beq_iff_eq.2 q0
                          have s1 : ((ge c2 i).c == x.c) = false := beq_eq_false_iff_ne.2 q1
                          clear q0 q1 hst
                          go_wp2_with fail
                          clear x0 x1 x2 x3 x4 xl
                          go_roundw
                          case rel => exact ⟨i + 1, by omega, by go_num, by rw [H.out] <;> rfl, by (repeat (first | with_reducible exact Below.refl _ _ | with_reducible refine bl_drewN ?_ _ | with_reducible refine Below.drew ?_ | with_reducible refine bl_alloc ?_ _ | with_reducible refine Below.alloc ?_ (by first | omega | (simp; done) | (simp; omega)) _ | with_reducible refine Below.setCell ?_ (by first | omega | (simp; done) | (simp; omega)) _ | with_reducible assumption))⟩
                          case measure => simp [RowKit.intOf]; omega
                      · have H : Hid (decide (x ∈ c2.take (i + 1)) = false) := decide_eq_false (fun hx => by
                          rcases (mem_take_succ hil).1 hx with h | h
                          · exact of_decide_eq_false hst h
                          · exact q0 (by rw [h]))
                        have s0 : ((ge c2 i).i == x.i) = false := beq_eq_false_iff_ne.2 q0
                        clear q0 hst
                        go_wp2_with fail
                        clear x0 x1 x2 x3 x4 xl
                        go_roundw
                        case rel => exact ⟨i + 1, by omega, by go_num, by rw [H.out] <;> rfl, by (repeat (first | with_reducible exact Below.refl _ _ | with_reducible refine bl_drewN ?_ _ | with_reducible refine Below.drew ?_ | with_reducible refine bl_alloc ?_ _ | with_reducible refine Below.alloc ?_ (by first | omega | (simp; done) | (simp; omega)) _ | with_reducible refine Below.setCell ?_ (by first | omega | (simp; done) | (simp; omega)) _ | with_reducible assumption))⟩
                        case measure => simp [RowKit.intOf]; omega
                    · have H : Hid (decide (x ∈ c2.take (i + 1)) = true) := decide_eq_true ((mem_take_succ hil).2 (.inl (of_decide_eq_true hst)))
                      clear hst
                      go_wp2_with fail
                      clear x0 x1 x2 x3 x4 xl
                      go_roundw
                      case rel => exact ⟨i + 1, by omega, by go_num, by rw [H.out] <;> rfl, by (repeat (first | with_reducible exact Below.refl _ _ | with_reducible refine bl_drewN ?_ _ | with_reducible refine Below.drew ?_ | with_reducible refine bl_alloc ?_ _ | with_reducible refine Below.alloc ?_ (by first | omega | (simp; done) | (simp; omega)) _ | with_reducible refine Below.setCell ?_ (by first | omega | (simp; done) | (simp; omega)) _ | with_reducible assumption))⟩
                      case measure => simp [RowKit.intOf]; omega
                  · have hie : decide (x ∈ c2.take i) = true := by rw [show i = c2.length by omega, List.take_length]; exact HM.out
                    rw [hie]
                    have u1 : ¬ (i : Int) < c2.length := by omega
                    have hbz := bl_trans hbg hbh
                    clear hie hi2
                    clear x0 x1 x2 x3 x4 xl
                    go_wp2_with fail
                    go_roundw
                    case rel => exact ⟨j + 1, by omega, by go_num, hbz⟩
                    case measure => simp [RowKit.intOf]; omega
              · have h := HP4.out _ hLe
                rw [if_neg hm] at h
                have HPr := Lib.hid h
                have HM : Hid (decide (x ∈ c2) = false) := decide_eq_false hm
                clear h hm
                have x0 := hXe.cell 0
                have xl := hXe.lt
                go_wp2_with fail
                clear x0 xl
                refine HPr.out.mono ?_
                rintro e wf ⟨E2, cE2, F2, cF2, rfl, -, -, -, -, -, -, hbq⟩
                have hXf := hXe.old hbq
                have hLf := hLe.old hbq
                have hbf := bl_trans hbe hbq
                clear hXe hLe hbe hbq HPr
                go_wp2_with fail
                refine (HC2.out _ (by first | exact hLf.alloc _ | exact hLf)).mono ?_
                rintro e wg ⟨v2, rfl, hown, hbq⟩
                obtain ⟨C2, cC2, rfl, hcC2, hrC2, -⟩ := own_rows cfl_len (by omega) hown
                have hXg : Bk wg xb 30 #[.int .i64 x.i, .int .i64 x.c, .int .i64 x.g, .int .i64 x.t, .int .i64 x.r] := (hXf.alloc _).old hbq
                have hbg := bl_trans (Mw.bl_alloc hbf _) hbq
                have HrC2 := Lib.hid hrC2
                have HXg := Lib.hid hXg
                clear hown hbq hXf hLf hbf hrC2 hXg hcC2
                go_wp2_with fail
                go_loopw [22, 138] (fun st ii wv => ∃ (i : Nat), i ≤ c2.length ∧ ii = .int .i64 i ∧ st = .bool (decide (x ∈ c2.take i)) ∧ Below wg.heap.size wg wv) (fun _ ii _ => c2.length - (RowKit.intOf ii).toNat)
                case atStart => exact ⟨0, by omega, rfl, by simp, Below.refl _ _⟩
                case round =>
                  obtain ⟨i, hi2, rfl, rfl, hbh⟩ := hrel
                  have hXh := HXg.out.old hbh
                  have x0 := hXh.cell 0
                  have x1 := hXh.cell 1
                  have x2 := hXh.cell 2
                  have x3 := hXh.cell 3
                  have x4 := hXh.cell 4
                  have xl := hXh.lt
                  by_cases hil : i < c2.length
                  · obtain ⟨b5, off5, rfl, hbl5, e0, e1, e2, e3, e4⟩ := cf_at (HrC2.out.old hbh) i hil
                    have u1 : (i : Int) < c2.length := by omega
                    cases hst : decide (x ∈ c2.take i)
                    · by_cases q0 : (ge c2 i).i = x.i
                      · by_cases q1 : (ge c2 i).c = x.c
                        · by_cases q2 : (ge c2 i).g = x.g
                          · by_cases q3 : (ge c2 i).t = x.t
                            · by_cases q4 : (ge c2 i).r = x.r
                              · have hyx : ge c2 i = x := by
                                  generalize ge c2 i = y at *
                                  obtain ⟨a0, a1, a2, a3, a4⟩ := y
                                  obtain ⟨b0, b1, b2, b3, b4⟩ := x
                                  simp only at q0 q1 q2 q3 q4
                                  subst q0 q1 q2 q3 q4
                                  rfl
                                have H : Hid (decide (x ∈ c2.take (i + 1)) = true) := decide_eq_true ((mem_take_succ hil).2 (.inr hyx.symm))
                                have s0 : ((ge c2 i).i == x.i) = true := beq_iff_eq.2 q0
                                have s1 : ((ge c2 i).c == x.c) = true := beq_iff_eq.2 q1
                                have s2 : ((ge c2 i).g == x.g) = true := beq_iff_eq.2 q2
                                have s3 : ((ge c2 i).t == x.t) = true := beq_iff_eq.2 q3
                                have s4 : ((ge c2 i).r == x.r) = true := beq_iff_eq.2 q4
                                clear hyx q0 q1 q2 q3 q4
                                go_wp2_with fail
                                clear x0 x1 x2 x3 x4 xl
                                go_roundw
                                case rel => exact ⟨i + 1, by omega, by go_num, by rw [H.out] <;> rfl, by (repeat (first | with_reducible exact Below.refl _ _ | with_reducible refine bl_drewN ?_ _ | with_reducible refine Below.drew ?_ | with_reducible refine bl_alloc ?_ _ | with_reducible refine Below.alloc ?_ (by first | omega | (simp; done) | (simp; omega)) _ | with_reducible refine Below.setCell ?_ (by first | omega | (simp; done) | (simp; omega)) _ | with_reducible assumption))⟩
                                case measure => simp [RowKit.intOf]; omega
                              · have H : Hid (decide (x ∈ c2.take (i + 1)) = false) := decide_eq_false (fun hx => by
                                  rcases (mem_take_succ hil).1 hx with h | h
                                  · exact of_decide_eq_false hst h
                                  · exact q4 (by rw [h]))
                                have s0 : ((ge c2 i).i == x.i) = true := beq_iff_eq.2 q0
                                have s1 : ((ge c2 i).c == x.c) = true := beq_iff_eq.2 q1
                                have s2 : ((ge c2 i).g == x.g) = true := beq_iff_eq.2 q2
                                have s3 : ((ge c2 i).t == x.t) = true := beq_iff_eq.2 q3
                                have s4 : ((ge c2 i).r == x.r) = false := beq_eq_false_iff_ne.2 q4
                                clear q0 q1 q2 q3 q4 hst
                                go_wp2_with fail
                                clear x0 x1 x2 x3 x4 xl
                                go_roundw
                                case rel => exact ⟨i + 1, by omega, by go_num, by rw [H.out] <;> rfl, by (repeat (first | with_reducible exact Below.refl _ _ | with_reducible refine bl_drewN ?_ _ | with_reducible refine Below.drew ?_ | with_reducible refine bl_alloc ?_ _ | with_reducible refine Below.alloc ?_ (by first | omega | (simp; done) | (simp; omega)) _ | with_reducible refine Below.setCell ?_ (by first | omega | (simp; done) | (simp; omega)) _ | with_reducible assumption))⟩
                                case measure => simp [RowKit.intOf]; omega
                            · have H : Hid (decide (x ∈ c2.take (i + 1)) = false) := decide_eq_false (fun hx => by
                                rcases (mem_take_succ hil).1 hx with h | h
                                · exact of_decide_eq_false hst h
                                · exact q3 (by rw [h]))
                              have s0 : ((ge c2 i).i == x.i) = true := beq_iff_eq.2 q0
                              have s1 : ((ge c2 i).c == x.c) = true := beq_iff_eq.2 q1
                              have s2 : ((ge c2 i).g == x.g) = true := beq_iff_eq.2 q2
                              have s3 : ((ge c2 i).t == x.t) = false := beq_eq_false_iff_ne.2 q3
                              clear q0 q1 q2 q3 hst
                              go_wp2_with fail
                              clear x0 x1 x2 x3 x4 xl
                              go_roundw
                              case rel => exact ⟨i + 1, by omega, by go_num, by rw [H.out] <;> rfl, by (repeat (first | with_reducible exact Below.refl _ _ | with_reducible refine bl_drewN ?_ _ | with_reducible refine Below.drew ?_ | with_reducible refine bl_alloc ?_ _ | with_reducible refine Below.alloc ?_ (by first | omega | (simp; done) | (simp; omega)) _ | with_reducible refine Below.setCell ?_ (by first | omega | (simp; done) | (simp; omega)) _ | with_reducible assumption))⟩
                              case measure => simp [RowKit.intOf]; omega
                          · have H : Hid (decide (x ∈ c2.take (i + 1)) = false) := decide_eq_false (fun hx => by
                              rcases (mem_take_succ hil).1 hx with h | h
                              · exact of_decide_eq_false hst h
                              · exact q2 (by rw [h]))
                            have s0 : ((ge c2 i).i == x.i) = true := beq_iff_eq.2 q0
                            have s1 : ((ge c2 i).c == x.c) = true := beq_iff_eq.2 q1
                            have s2 : ((ge c2 i).g == x.g) = false := beq_eq_false_iff_ne.2 q2
                            clear q0 q1 q2 hst
                            go_wp2_with fail
                            clear x0 x1 x2 x3 x4 xl
                            go_roundw
                            case rel => exact ⟨i + 1, by omega, by go_num, by rw [H.out] <;> rfl, by (repeat (first | with_reducible exact Below.refl _ _ | with_reducible refine bl_drewN ?_ _ | with_reducible refine Below.drew ?_ | with_reducible refine bl_alloc ?_ _ | with_reducible refine Below.alloc ?_ (by first | omega | (simp; done) | (simp; omega)) _ | with_reducible refine Below.setCell ?_ (by first | omega | (simp; done) | (simp; omega)) _ | with_reducible assumption))⟩
                            case measure => simp [RowKit.intOf]; omega
                        · have H : Hid (decide (x ∈ c2.take (i + 1)) = false) := decide_eq_false (fun hx => by
                            rcases (mem_take_succ hil).1 hx with h | h
                            · exact of_decide_eq_false hst h
                            · exact q1 (by rw [h]))
                          have s0 : ((ge c2 i).i == x.i) = true := beq_iff_eq.2 q0
                          have s1 : ((ge c2 i).c == x.c) = false := beq_eq_false_iff_ne.2 q1
                          clear q0 q1 hst
                          go_wp2_with fail
                          clear x0 x1 x2 x3 x4 xl
                          go_roundw
                          case rel => exact ⟨i + 1, by omega, by go_num, by rw [H.out] <;> rfl, by (repeat (first | with_reducible exact Below.refl _ _ | with_reducible refine bl_drewN ?_ _ | with_reducible refine Below.drew ?_ | with_reducible refine bl_alloc ?_ _ | with_reducible refine Below.alloc ?_ (by first | omega | (simp; done) | (simp; omega)) _ | with_reducible refine Below.setCell ?_ (by first | omega | (simp; done) | (simp; omega)) _ | with_reducible assumption))⟩
                          case measure => simp [RowKit.intOf]; omega
                      · have H : Hid (decide (x ∈ c2.take (i + 1)) = false) := decide_eq_false (fun hx => by
                          rcases (mem_take_succ hil).1 hx with h | h
                          · exact of_decide_eq_false hst h
                          · exact q0 (by rw [h]))
                        have s0 : ((ge c2 i).i == x.i) = false := beq_eq_false_iff_ne.2 q0
                        clear q0 hst
                        go_wp2_with fail
                        clear x0 x1 x2 x3 x4 xl
                        go_roundw
                        case rel => exact ⟨i + 1, by omega, by go_num, by rw [H.out] <;> rfl, by (repeat (first | with_reducible exact Below.refl _ _ | with_reducible refine bl_drewN ?_ _ | with_reducible refine Below.drew ?_ | with_reducible refine bl_alloc ?_ _ | with_reducible refine Below.alloc ?_ (by first | omega | (simp; done) | (simp; omega)) _ | with_reducible refine Below.setCell ?_ (by first | omega | (simp; done) | (simp; omega)) _ | with_reducible assumption))⟩
                        case measure => simp [RowKit.intOf]; omega
                    · have H : Hid (decide (x ∈ c2.take (i + 1)) = true) := decide_eq_true ((mem_take_succ hil).2 (.inl (of_decide_eq_true hst)))
                      clear hst
                      go_wp2_with fail
                      clear x0 x1 x2 x3 x4 xl
                      go_roundw
                      case rel => exact ⟨i + 1, by omega, by go_num, by rw [H.out] <;> rfl, by (repeat (first | with_reducible exact Below.refl _ _ | with_reducible refine bl_drewN ?_ _ | with_reducible refine Below.drew ?_ | with_reducible refine bl_alloc ?_ _ | with_reducible refine Below.alloc ?_ (by first | omega | (simp; done) | (simp; omega)) _ | with_reducible refine Below.setCell ?_ (by first | omega | (simp; done) | (simp; omega)) _ | with_reducible assumption))⟩
                      case measure => simp [RowKit.intOf]; omega
                  · have hie : decide (x ∈ c2.take i) = false := by rw [show i = c2.length by omega, List.take_length]; exact HM.out
                    rw [hie]
                    have u1 : ¬ (i : Int) < c2.length := by omega
                    have hbz := bl_trans hbg hbh
                    clear hie hi2
                    clear x0 x1 x2 x3 x4 xl
                    go_wp2_with fail
                    go_roundw
                    case rel => exact ⟨j + 1, by omega, by go_num, hbz⟩
                    case measure => simp [RowKit.intOf]; omega
          · have hje : ¬ (j : Int) < c1.length := by omega
            have hbz := bl_trans hbB hbv
            go_wp2_with fail
            refine (sane_any _).mono ?_
            rintro e wz ⟨rfl, hbq⟩
            go_wp2_with fail
            go_ret
            exact ⟨rfl, bl_trans hbz hbq⟩
      · have v0 : ¬ (K : Int) < l.length := by omega
        have hHA := hH9
        have hLA := hL9
        have hbA := hb9
        clear HE2 hL9 hb9 hL8 hb8
        go_wp2_with fail
        clear x0 x1 x2 x3 x4 x5 x6 x7 x8 x9 xa xb xl
        clear y0 y1 y2 y3 y4 y5 y6 y7 y8 y9 ya yb yl
        clear hH9 hH8 hG8 hrD8
        refine (HC1.out _ hLA).mono ?_
        rintro e wB ⟨v, rfl, hown, hbq⟩
        obtain ⟨C1, cC1, rfl, hcC, hrC, -⟩ := own_rows cfl_len (by omega) hown
        have hHB := hHA.old hbq
        have hLB := hLA.old hbq
        have hbB := bl_trans hbA hbq
        have HrC := Lib.hid hrC
        have HHB := Lib.hid hHB
        have HLB := Lib.hid hLB
        clear hown hbq hHA hLA hbA hrC hHB hLB hcC
        go_wp2_with fail
        go_loopw [105] (fun jj wv => ∃ (j : Nat), j ≤ c1.length ∧ jj = .int .i64 j ∧ Below wB.heap.size wB wv) (fun jj _ => c1.length - (RowKit.intOf jj).toNat)
        case atStart => exact ⟨0, by omega, rfl, Below.refl _ _⟩
        case round =>
          obtain ⟨j, hj, rfl, hbv⟩ := hrel
          by_cases hjl : j < c1.length
          · obtain ⟨b, off, rfl, hbl, e0, e1, e2, e3, e4⟩ := cf_at (HrC.out.old hbv) j hjl
            have hxm : ge c1 j ∈ c1 := ge_mem c1 j hjl
            generalize ge c1 j = x at hxm e0 e1 e2 e3 e4
            have hXa : Bk (wr.alloc (.cells #[.int .i64 x.i, .int .i64 x.c, .int .i64 x.g, .int .i64 x.t, .int .i64 x.r] 30)) wr.heap.size 30 #[.int .i64 x.i, .int .i64 x.c, .int .i64 x.g, .int .i64 x.t, .int .i64 x.r] := Mw.Bk.new _ _ _
            have hHa := (HHB.out.old hbv).alloc (.cells #[.int .i64 x.i, .int .i64 x.c, .int .i64 x.g, .int .i64 x.t, .int .i64 x.r] 30)
            have hLa := (HLB.out.old hbv).alloc (.cells #[.int .i64 x.i, .int .i64 x.c, .int .i64 x.g, .int .i64 x.t, .int .i64 x.r] 30)
            have hba := Mw.bl_alloc hbv (.cells #[.int .i64 x.i, .int .i64 x.c, .int .i64 x.g, .int .i64 x.t, .int .i64 x.r] 30)
            have u0 : (j : Int) < c1.length := by omega
            go_wp2_with fail
            generalize wr.alloc (.cells #[.int .i64 x.i, .int .i64 x.c, .int .i64 x.g, .int .i64 x.t, .int .i64 x.r] 30) = wa at *
            generalize wr.heap.size = xb at *
            clear e0 e1 e2 e3 e4 hbl hbv
            have x0 := hXa.cell 0
            have xl := hXa.lt
            have HP3 := Lib.hid (fun W => HP1.out W x hxm)
            have HV3 := Lib.hid (fun W E F cE cF => HVf.out W x E F cE cF hxm)
            have HP4 := Lib.hid (fun W => HP2.out W x hxm)
            have hq := pq x.i
            generalize pq x.i = Q at HP3 HV3
            clear hq
            go_region_law (first
              | (go_simp
                 go_at_call 12
                 refine (HP3.out _ (by first | exact hLa.drew | exact (hLa.alloc _).drew)).mono ?_
                 rintro e wc ⟨E, cE, F, cF, rfl, hcE, hmE, hrE, hcF, hmF, hrF, hbq⟩
                 have hbD : Below wa.heap.size wa wc := (by first | exact ⟨hbq.os, hbq.tape, hbq.output, hbq.size, hbq.block⟩ | exact (((Below.refl _ wa).alloc (Nat.le_refl _) _).trans ⟨hbq.os, hbq.tape, hbq.output, hbq.size, fun k hk => hbq.block k (by simp; omega)⟩))
                 try (have hZc : Bk wc wa.heap.size 40 #[.int .i64 0, .int .i64 0, .slice none 0 0, .slice none 0 0] := (Mw.Bk.new wa _ _).drew.old hbq
                      have zf := fun o => hZc.frozen o
                      have z0 := hZc.cell 0
                      have z1 := hZc.cell 1
                      have z2 := hZc.cell 2
                      have z3 := hZc.cell 3
                      have zl := hZc.lt)))
            · have hXc := hXa.old hbD
              have hHc := hHa.old hbD
              have hLc := hLa.old hbD
              have hbc := bl_trans hba hbD
              have n1 : xb < wa.heap.size := hXa.lt
              have n2 : g1 < wa.heap.size := hHa.lt
              have n3 : Mw.Away wa.heap.size A := fun a ha => by
                obtain ⟨b', off', e, hlt, _⟩ := hLa 0 (by omega)
                rw [ha] at e
                injection e with e
                rw [e]; exact Nat.ne_of_lt hlt
              have n4 : wB.heap.size ≤ wa.heap.size := hba.size
              clear hbq hbD hXa hHa hLa hba x0 xl
              have hQ : Bk (wc.alloc (.cells #[.int .i64 Q.ix, .int .i64 Q.pl, .slice E Q.pa.length cE, .slice F Q.sp.length cF] 40)) wc.heap.size 40 #[.int .i64 Q.ix, .int .i64 Q.pl, .slice E Q.pa.length cE, .slice F Q.sp.length cF] := Mw.Bk.new _ _ _
              have hXd := hXc.alloc (.cells #[.int .i64 Q.ix, .int .i64 Q.pl, .slice E Q.pa.length cE, .slice F Q.sp.length cF] 40)
              have hHd := hHc.alloc (.cells #[.int .i64 Q.ix, .int .i64 Q.pl, .slice E Q.pa.length cE, .slice F Q.sp.length cF] 40)
              have hLd := hLc.alloc (.cells #[.int .i64 Q.ix, .int .i64 Q.pl, .slice E Q.pa.length cE, .slice F Q.sp.length cF] 40)
              have hrEd := RdD.alloc hrE (.cells #[.int .i64 Q.ix, .int .i64 Q.pl, .slice E Q.pa.length cE, .slice F Q.sp.length cF] 40)
              have hrFd := RdD.alloc hrF (.cells #[.int .i64 Q.ix, .int .i64 Q.pl, .slice E Q.pa.length cE, .slice F Q.sp.length cF] 40)
              have hbd := Mw.bl_alloc hbc (.cells #[.int .i64 Q.ix, .int .i64 Q.pl, .slice E Q.pa.length cE, .slice F Q.sp.length cF] 40)
              clear hXc hHc hLc hbc hrE hrF n1 n2 n3 n4
              generalize wc.alloc (.cells #[.int .i64 Q.ix, .int .i64 Q.pl, .slice E Q.pa.length cE, .slice F Q.sp.length cF] 40) = wd at *
              generalize wc.heap.size = qb at *
              have x0 := hXd.cell 0
              have x1 := hXd.cell 1
              have x2 := hXd.cell 2
              have x3 := hXd.cell 3
              have x4 := hXd.cell 4
              have xl := hXd.lt
              have p0 := hQ.cell 0
              have p1 := hQ.cell 1
              have p2 := hQ.cell 2
              have p3 := hQ.cell 3
              have pl := hQ.lt
              have y0 : wd.cell? ⟨g1, 0, none⟩ = some (.int .i64 H1.n) := hHd.cell 0
              have y1 : wd.cell? ⟨g1, 1, none⟩ = some (.int .i64 H1.c) := hHd.cell 1
              have y2 : wd.cell? ⟨g1, 2, none⟩ = some (.int .u32 H1.r.1) := hHd.cell 2
              have y3 : wd.cell? ⟨g1, 3, none⟩ = some (.int .u32 H1.r.2.1) := hHd.cell 3
              have y4 : wd.cell? ⟨g1, 4, none⟩ = some (.int .u32 H1.r.2.2.1) := hHd.cell 4
              have y5 : wd.cell? ⟨g1, 5, none⟩ = some (.int .u32 H1.r.2.2.2) := hHd.cell 5
              have y6 : wd.cell? ⟨g1, 6, none⟩ = some (.int .u32 H1.l.1) := hHd.cell 6
              have y7 : wd.cell? ⟨g1, 7, none⟩ = some (.int .u32 H1.l.2.1) := hHd.cell 7
              have y8 : wd.cell? ⟨g1, 8, none⟩ = some (.int .u32 H1.l.2.2.1) := hHd.cell 8
              have y9 : wd.cell? ⟨g1, 9, none⟩ = some (.int .u32 H1.l.2.2.2) := hHd.cell 9
              have ya : wd.cell? ⟨g1, 10, none⟩ = some (.int .i64 H1.R) := hHd.cell 10
              have yb : wd.cell? ⟨g1, 11, none⟩ = some (.int .i64 H1.S) := hHd.cell 11
              have yl := hHd.lt
              go_wp2_with fail
              clear x0 x1 x2 x3 x4 xl
              clear p0 p1 p2 p3 pl
              clear y0 y1 y2 y3 y4 y5 y6 y7 y8 y9 ya yb yl
              refine (HV3.out _ E F cE cF hcE hmE hrEd hcF hmF hrFd).mono ?_
              rintro e we ⟨rfl, hbq⟩
              have hXe := hXd.old hbq
              have hLe := hLd.old hbq
              have hbe := bl_trans hbd hbq
              clear hXd hLd hHd hQ hbd hbq hrEd hrFd HV3 HP3
              by_cases hm : x ∈ c2
              · have h := HP4.out _ hLe
                rw [if_pos hm] at h
                have HPr := Lib.hid h
                have HM : Hid (decide (x ∈ c2) = true) := decide_eq_true hm
                clear h hm
                have x0 := hXe.cell 0
                have xl := hXe.lt
                go_wp2_with fail
                clear x0 xl
                refine HPr.out.mono ?_
                rintro e wf ⟨E2, cE2, F2, cF2, rfl, -, -, -, -, -, -, hbq⟩
                have hXf := hXe.old hbq
                have hLf := hLe.old hbq
                have hbf := bl_trans hbe hbq
                clear hXe hLe hbe hbq HPr
                go_wp2_with fail
                refine (HC2.out _ (by first | exact hLf.alloc _ | exact hLf)).mono ?_
                rintro e wg ⟨v2, rfl, hown, hbq⟩
                obtain ⟨C2, cC2, rfl, hcC2, hrC2, -⟩ := own_rows cfl_len (by omega) hown
                have hXg : Bk wg xb 30 #[.int .i64 x.i, .int .i64 x.c, .int .i64 x.g, .int .i64 x.t, .int .i64 x.r] := (hXf.alloc _).old hbq
                have hbg := bl_trans (Mw.bl_alloc hbf _) hbq
                have HrC2 := Lib.hid hrC2
                have HXg := Lib.hid hXg
                clear hown hbq hXf hLf hbf hrC2 hXg hcC2
                go_wp2_with fail
                go_loopw [22, 138] (fun st ii wv => ∃ (i : Nat), i ≤ c2.length ∧ ii = .int .i64 i ∧ st = .bool (decide (x ∈ c2.take i)) ∧ Below wg.heap.size wg wv) (fun _ ii _ => c2.length - (RowKit.intOf ii).toNat)
                case atStart => exact ⟨0, by omega, rfl, by simp, Below.refl _ _⟩
                case round =>
                  obtain ⟨i, hi2, rfl, rfl, hbh⟩ := hrel
                  have hXh := HXg.out.old hbh
                  have x0 := hXh.cell 0
                  have x1 := hXh.cell 1
                  have x2 := hXh.cell 2
                  have x3 := hXh.cell 3
                  have x4 := hXh.cell 4
                  have xl := hXh.lt
                  by_cases hil : i < c2.length
                  · obtain ⟨b5, off5, rfl, hbl5, e0, e1, e2, e3, e4⟩ := cf_at (HrC2.out.old hbh) i hil
                    have u1 : (i : Int) < c2.length := by omega
                    cases hst : decide (x ∈ c2.take i)
                    · by_cases q0 : (ge c2 i).i = x.i
                      · by_cases q1 : (ge c2 i).c = x.c
                        · by_cases q2 : (ge c2 i).g = x.g
                          · by_cases q3 : (ge c2 i).t = x.t
                            · by_cases q4 : (ge c2 i).r = x.r
                              · have hyx : ge c2 i = x := by
                                  generalize ge c2 i = y at *
                                  obtain ⟨a0, a1, a2, a3, a4⟩ := y
                                  obtain ⟨b0, b1, b2, b3, b4⟩ := x
                                  simp only at q0 q1 q2 q3 q4
                                  subst q0 q1 q2 q3 q4
                                  rfl
                                have H : Hid (decide (x ∈ c2.take (i + 1)) = true) := decide_eq_true ((mem_take_succ hil).2 (.inr hyx.symm))
                                have s0 : ((ge c2 i).i == x.i) = true := beq_iff_eq.2 q0
                                have s1 : ((ge c2 i).c == x.c) = true := beq_iff_eq.2 q1
                                have s2 : ((ge c2 i).g == x.g) = true := beq_iff_eq.2 q2
                                have s3 : ((ge c2 i).t == x.t) = true := beq_iff_eq.2 q3
                                have s4 : ((ge c2 i).r == x.r) = true := beq_iff_eq.2 q4
                                clear hyx q0 q1 q2 q3 q4
                                go_wp2_with fail
                                clear x0 x1 x2 x3 x4 xl
                                go_roundw
                                case rel => exact ⟨i + 1, by omega, by go_num, by rw [H.out] <;> rfl, by (repeat (first | with_reducible exact Below.refl _ _ | with_reducible refine bl_drewN ?_ _ | with_reducible refine Below.drew ?_ | with_reducible refine bl_alloc ?_ _ | with_reducible refine Below.alloc ?_ (by first | omega | (simp; done) | (simp; omega)) _ | with_reducible refine Below.setCell ?_ (by first | omega | (simp; done) | (simp; omega)) _ | with_reducible assumption))⟩
                                case measure => simp [RowKit.intOf]; omega
                              · have H : Hid (decide (x ∈ c2.take (i + 1)) = false) := decide_eq_false (fun hx => by
                                  rcases (mem_take_succ hil).1 hx with h | h
                                  · exact of_decide_eq_false hst h
                                  · exact q4 (by rw [h]))
                                have s0 : ((ge c2 i).i == x.i) = true := beq_iff_eq.2 q0
                                have s1 : ((ge c2 i).c == x.c) = true := beq_iff_eq.2 q1
                                have s2 : ((ge c2 i).g == x.g) = true := beq_iff_eq.2 q2
                                have s3 : ((ge c2 i).t == x.t) = true := beq_iff_eq.2 q3
                                have s4 : ((ge c2 i).r == x.r) = false := beq_eq_false_iff_ne.2 q4
                                clear q0 q1 q2 q3 q4 hst
                                go_wp2_with fail
                                clear x0 x1 x2 x3 x4 xl
                                go_roundw
                                case rel => exact ⟨i + 1, by omega, by go_num, by rw [H.out] <;> rfl, by (repeat (first | with_reducible exact Below.refl _ _ | with_reducible refine bl_drewN ?_ _ | with_reducible refine Below.drew ?_ | with_reducible refine bl_alloc ?_ _ | with_reducible refine Below.alloc ?_ (by first | omega | (simp; done) | (simp; omega)) _ | with_reducible refine Below.setCell ?_ (by first | omega | (simp; done) | (simp; omega)) _ | with_reducible assumption))⟩
                                case measure => simp [RowKit.intOf]; omega
                            · have H : Hid (decide (x ∈ c2.take (i + 1)) = false) := decide_eq_false (fun hx => by
                                rcases (mem_take_succ hil).1 hx with h | h
                                · exact of_decide_eq_false hst h
                                · exact q3 (by rw [h]))
                              have s0 : ((ge c2 i).i == x.i) = true := beq_iff_eq.2 q0
                              have s1 : ((ge c2 i).c == x.c) = true := beq_iff_eq.2 q1
                              have s2 : ((ge c2 i).g == x.g) = true := beq_iff_eq.2 q2
                              have s3 : ((ge c2 i).t == x.t) = false := beq_eq_false_iff_ne.2 q3
                              clear q0 q1 q2 q3 hst
                              go_wp2_with fail
                              clear x0 x1 x2 x3 x4 xl
                              go_roundw
                              case rel => exact ⟨i + 1, by omega, by go_num, by rw [H.out] <;> rfl, by (repeat (first | with_reducible exact Below.refl _ _ | with_reducible refine bl_drewN ?_ _ | with_reducible refine Below.drew ?_ | with_reducible refine bl_alloc ?_ _ | with_reducible refine Below.alloc ?_ (by first | omega | (simp; done) | (simp; omega)) _ | with_reducible refine Below.setCell ?_ (by first | omega | (simp; done) | (simp; omega)) _ | with_reducible assumption))⟩
                              case measure => simp [RowKit.intOf]; omega
                          · have H : Hid (decide (x ∈ c2.take (i + 1)) = false) := decide_eq_false (fun hx => by
                              rcases (mem_take_succ hil).1 hx with h | h
                              · exact of_decide_eq_false hst h
                              · exact q2 (by rw [h]))
                            have s0 : ((ge c2 i).i == x.i) = true := beq_iff_eq.2 q0
                            have s1 : ((ge c2 i).c == x.c) = true := beq_iff_eq.2 q1
                            have s2 : ((ge c2 i).g == x.g) = false := beq_eq_false_iff_ne.2 q2
                            clear q0 q1 q2 hst
                            go_wp2_with fail
                            clear x0 x1 x2 x3 x4 xl
                            go_roundw
                            case rel => exact ⟨i + 1, by omega, by go_num, by rw [H.out] <;> rfl, by (repeat (first | with_reducible exact Below.refl _ _ | with_reducible refine bl_drewN ?_ _ | with_reducible refine Below.drew ?_ | with_reducible refine bl_alloc ?_ _ | with_reducible refine Below.alloc ?_ (by first | omega | (simp; done) | (simp; omega)) _ | with_reducible refine Below.setCell ?_ (by first | omega | (simp; done) | (simp; omega)) _ | with_reducible assumption))⟩
                            case measure => simp [RowKit.intOf]; omega
                        · have H : Hid (decide (x ∈ c2.take (i + 1)) = false) := decide_eq_false (fun hx => by
                            rcases (mem_take_succ hil).1 hx with h | h
                            · exact of_decide_eq_false hst h
                            · exact q1 (by rw [h]))
                          have s0 : ((ge c2 i).i == x.i) = true := beq_iff_eq.2 q0
                          have s1 : ((ge c2 i).c == x.c) = false := beq_eq_false_iff_ne.2 q1
                          clear q0 q1 hst
                          go_wp2_with fail
                          clear x0 x1 x2 x3 x4 xl
                          go_roundw
                          case rel => exact ⟨i + 1, by omega, by go_num, by rw [H.out] <;> rfl, by (repeat (first | with_reducible exact Below.refl _ _ | with_reducible refine bl_drewN ?_ _ | with_reducible refine Below.drew ?_ | with_reducible refine bl_alloc ?_ _ | with_reducible refine Below.alloc ?_ (by first | omega | (simp; done) | (simp; omega)) _ | with_reducible refine Below.setCell ?_ (by first | omega | (simp; done) | (simp; omega)) _ | with_reducible assumption))⟩
                          case measure => simp [RowKit.intOf]; omega
                      · have H : Hid (decide (x ∈ c2.take (i + 1)) = false) := decide_eq_false (fun hx => by
                          rcases (mem_take_succ hil).1 hx with h | h
                          · exact of_decide_eq_false hst h
                          · exact q0 (by rw [h]))
                        have s0 : ((ge c2 i).i == x.i) = false := beq_eq_false_iff_ne.2 q0
                        clear q0 hst
                        go_wp2_with fail
                        clear x0 x1 x2 x3 x4 xl
                        go_roundw
                        case rel => exact ⟨i + 1, by omega, by go_num, by rw [H.out] <;> rfl, by (repeat (first | with_reducible exact Below.refl _ _ | with_reducible refine bl_drewN ?_ _ | with_reducible refine Below.drew ?_ | with_reducible refine bl_alloc ?_ _ | with_reducible refine Below.alloc ?_ (by first | omega | (simp; done) | (simp; omega)) _ | with_reducible refine Below.setCell ?_ (by first | omega | (simp; done) | (simp; omega)) _ | with_reducible assumption))⟩
                        case measure => simp [RowKit.intOf]; omega
                    · have H : Hid (decide (x ∈ c2.take (i + 1)) = true) := decide_eq_true ((mem_take_succ hil).2 (.inl (of_decide_eq_true hst)))
                      clear hst
                      go_wp2_with fail
                      clear x0 x1 x2 x3 x4 xl
                      go_roundw
                      case rel => exact ⟨i + 1, by omega, by go_num, by rw [H.out] <;> rfl, by (repeat (first | with_reducible exact Below.refl _ _ | with_reducible refine bl_drewN ?_ _ | with_reducible refine Below.drew ?_ | with_reducible refine bl_alloc ?_ _ | with_reducible refine Below.alloc ?_ (by first | omega | (simp; done) | (simp; omega)) _ | with_reducible refine Below.setCell ?_ (by first | omega | (simp; done) | (simp; omega)) _ | with_reducible assumption))⟩
                      case measure => simp [RowKit.intOf]; omega
                  · have hie : decide (x ∈ c2.take i) = true := by rw [show i = c2.length by omega, List.take_length]; exact HM.out
                    rw [hie]
                    have u1 : ¬ (i : Int) < c2.length := by omega
                    have hbz := bl_trans hbg hbh
                    clear hie hi2
                    clear x0 x1 x2 x3 x4 xl
                    go_wp2_with fail
                    go_roundw
                    case rel => exact ⟨j + 1, by omega, by go_num, hbz⟩
                    case measure => simp [RowKit.intOf]; omega
              · have h := HP4.out _ hLe
                rw [if_neg hm] at h
                have HPr := Lib.hid h
                have HM : Hid (decide (x ∈ c2) = false) := decide_eq_false hm
                clear h hm
                have x0 := hXe.cell 0
                have xl := hXe.lt
                go_wp2_with fail
                clear x0 xl
                refine HPr.out.mono ?_
                rintro e wf ⟨E2, cE2, F2, cF2, rfl, -, -, -, -, -, -, hbq⟩
                have hXf := hXe.old hbq
                have hLf := hLe.old hbq
                have hbf := bl_trans hbe hbq
                clear hXe hLe hbe hbq HPr
                go_wp2_with fail
                refine (HC2.out _ (by first | exact hLf.alloc _ | exact hLf)).mono ?_
                rintro e wg ⟨v2, rfl, hown, hbq⟩
                obtain ⟨C2, cC2, rfl, hcC2, hrC2, -⟩ := own_rows cfl_len (by omega) hown
                have hXg : Bk wg xb 30 #[.int .i64 x.i, .int .i64 x.c, .int .i64 x.g, .int .i64 x.t, .int .i64 x.r] := (hXf.alloc _).old hbq
                have hbg := bl_trans (Mw.bl_alloc hbf _) hbq
                have HrC2 := Lib.hid hrC2
                have HXg := Lib.hid hXg
                clear hown hbq hXf hLf hbf hrC2 hXg hcC2
                go_wp2_with fail
                go_loopw [22, 138] (fun st ii wv => ∃ (i : Nat), i ≤ c2.length ∧ ii = .int .i64 i ∧ st = .bool (decide (x ∈ c2.take i)) ∧ Below wg.heap.size wg wv) (fun _ ii _ => c2.length - (RowKit.intOf ii).toNat)
                case atStart => exact ⟨0, by omega, rfl, by simp, Below.refl _ _⟩
                case round =>
                  obtain ⟨i, hi2, rfl, rfl, hbh⟩ := hrel
                  have hXh := HXg.out.old hbh
                  have x0 := hXh.cell 0
                  have x1 := hXh.cell 1
                  have x2 := hXh.cell 2
                  have x3 := hXh.cell 3
                  have x4 := hXh.cell 4
                  have xl := hXh.lt
                  by_cases hil : i < c2.length
                  · obtain ⟨b5, off5, rfl, hbl5, e0, e1, e2, e3, e4⟩ := cf_at (HrC2.out.old hbh) i hil
                    have u1 : (i : Int) < c2.length := by omega
                    cases hst : decide (x ∈ c2.take i)
                    · by_cases q0 : (ge c2 i).i = x.i
                      · by_cases q1 : (ge c2 i).c = x.c
                        · by_cases q2 : (ge c2 i).g = x.g
                          · by_cases q3 : (ge c2 i).t = x.t
                            · by_cases q4 : (ge c2 i).r = x.r
                              · have hyx : ge c2 i = x := by
                                  generalize ge c2 i = y at *
                                  obtain ⟨a0, a1, a2, a3, a4⟩ := y
                                  obtain ⟨b0, b1, b2, b3, b4⟩ := x
                                  simp only at q0 q1 q2 q3 q4
                                  subst q0 q1 q2 q3 q4
                                  rfl
                                have H : Hid (decide (x ∈ c2.take (i + 1)) = true) := decide_eq_true ((mem_take_succ hil).2 (.inr hyx.symm))
                                have s0 : ((ge c2 i).i == x.i) = true := beq_iff_eq.2 q0
                                have s1 : ((ge c2 i).c == x.c) = true := beq_iff_eq.2 q1
                                have s2 : ((ge c2 i).g == x.g) = true := beq_iff_eq.2 q2
                                have s3 : ((ge c2 i).t == x.t) = true := beq_iff_eq.2 q3
                                have s4 : ((ge c2 i).r == x.r) = true := beq_iff_eq.2 q4
                                clear hyx q0 q1 q2 q3 q4
                                go_wp2_with fail
                                clear x0 x1 x2 x3 x4 xl
                                go_roundw
                                case rel => exact ⟨i + 1, by omega, by go_num, by rw [H.out] <;> rfl, by (repeat (first | with_reducible exact Below.refl _ _ | with_reducible refine bl_drewN ?_ _ | with_reducible refine Below.drew ?_ | with_reducible refine bl_alloc ?_ _ | with_reducible refine Below.alloc ?_ (by first | omega | (simp; done) | (simp; omega)) _ | with_reducible refine Below.setCell ?_ (by first | omega | (simp; done) | (simp; omega)) _ | with_reducible assumption))⟩
                                case measure => simp [RowKit.intOf]; omega
                              · have H : Hid (decide (x ∈ c2.take (i + 1)) = false) := decide_eq_false (fun hx => by
                                  rcases (mem_take_succ hil).1 hx with h | h
                                  · exact of_decide_eq_false hst h
                                  · exact q4 (by rw [h]))
                                have s0 : ((ge c2 i).i == x.i) = true := beq_iff_eq.2 q0
                                have s1 : ((ge c2 i).c == x.c) = true := beq_iff_eq.2 q1
                                have s2 : ((ge c2 i).g == x.g) = true := beq_iff_eq.2 q2
                                have s3 : ((ge c2 i).t == x.t) = true := beq_iff_eq.2 q3
                                have s4 : ((ge c2 i).r == x.r) = false := beq_eq_false_iff_ne.2 q4
                                clear q0 q1 q2 q3 q4 hst
                                go_wp2_with fail
                                clear x0 x1 x2 x3 x4 xl
                                go_roundw
                                case rel => exact ⟨i + 1, by omega, by go_num, by rw [H.out] <;> rfl, by (repeat (first | with_reducible exact Below.refl _ _ | with_reducible refine bl_drewN ?_ _ | with_reducible refine Below.drew ?_ | with_reducible refine bl_alloc ?_ _ | with_reducible refine Below.alloc ?_ (by first | omega | (simp; done) | (simp; omega)) _ | with_reducible refine Below.setCell ?_ (by first | omega | (simp; done) | (simp; omega)) _ | with_reducible assumption))⟩
                                case measure => simp [RowKit.intOf]; omega
                            · have H : Hid (decide (x ∈ c2.take (i + 1)) = false) := decide_eq_false (fun hx => by
                                rcases (mem_take_succ hil).1 hx with h | h
                                · exact of_decide_eq_false hst h
                                · exact q3 (by rw [h]))
                              have s0 : ((ge c2 i).i == x.i) = true := beq_iff_eq.2 q0
                              have s1 : ((ge c2 i).c == x.c) = true := beq_iff_eq.2 q1
                              have s2 : ((ge c2 i).g == x.g) = true := beq_iff_eq.2 q2
                              have s3 : ((ge c2 i).t == x.t) = false := beq_eq_false_iff_ne.2 q3
                              clear q0 q1 q2 q3 hst
                              go_wp2_with fail
                              clear x0 x1 x2 x3 x4 xl
                              go_roundw
                              case rel => exact ⟨i + 1, by omega, by go_num, by rw [H.out] <;> rfl, by (repeat (first | with_reducible exact Below.refl _ _ | with_reducible refine bl_drewN ?_ _ | with_reducible refine Below.drew ?_ | with_reducible refine bl_alloc ?_ _ | with_reducible refine Below.alloc ?_ (by first | omega | (simp; done) | (simp; omega)) _ | with_reducible refine Below.setCell ?_ (by first | omega | (simp; done) | (simp; omega)) _ | with_reducible assumption))⟩
                              case measure => simp [RowKit.intOf]; omega
                          · have H : Hid (decide (x ∈ c2.take (i + 1)) = false) := decide_eq_false (fun hx => by
                              rcases (mem_take_succ hil).1 hx with h | h
                              · exact of_decide_eq_false hst h
                              · exact q2 (by rw [h]))
                            have s0 : ((ge c2 i).i == x.i) = true := beq_iff_eq.2 q0
                            have s1 : ((ge c2 i).c == x.c) = true := beq_iff_eq.2 q1
                            have s2 : ((ge c2 i).g == x.g) = false := beq_eq_false_iff_ne.2 q2
                            clear q0 q1 q2 hst
                            go_wp2_with fail
                            clear x0 x1 x2 x3 x4 xl
                            go_roundw
                            case rel => exact ⟨i + 1, by omega, by go_num, by rw [H.out] <;> rfl, by (repeat (first | with_reducible exact Below.refl _ _ | with_reducible refine bl_drewN ?_ _ | with_reducible refine Below.drew ?_ | with_reducible refine bl_alloc ?_ _ | with_reducible refine Below.alloc ?_ (by first | omega | (simp; done) | (simp; omega)) _ | with_reducible refine Below.setCell ?_ (by first | omega | (simp; done) | (simp; omega)) _ | with_reducible assumption))⟩
                            case measure => simp [RowKit.intOf]; omega
                        · have H : Hid (decide (x ∈ c2.take (i + 1)) = false) := decide_eq_false (fun hx => by
                            rcases (mem_take_succ hil).1 hx with h | h
                            · exact of_decide_eq_false hst h
                            · exact q1 (by rw [h]))
                          have s0 : ((ge c2 i).i == x.i) = true := beq_iff_eq.2 q0
                          have s1 : ((ge c2 i).c == x.c) = false := beq_eq_false_iff_ne.2 q1
                          clear q0 q1 hst
                          go_wp2_with fail
                          clear x0 x1 x2 x3 x4 xl
                          go_roundw
                          case rel => exact ⟨i + 1, by omega, by go_num, by rw [H.out] <;> rfl, by (repeat (first | with_reducible exact Below.refl _ _ | with_reducible refine bl_drewN ?_ _ | with_reducible refine Below.drew ?_ | with_reducible refine bl_alloc ?_ _ | with_reducible refine Below.alloc ?_ (by first | omega | (simp; done) | (simp; omega)) _ | with_reducible refine Below.setCell ?_ (by first | omega | (simp; done) | (simp; omega)) _ | with_reducible assumption))⟩
                          case measure => simp [RowKit.intOf]; omega
                      · have H : Hid (decide (x ∈ c2.take (i + 1)) = false) := decide_eq_false (fun hx => by
                          rcases (mem_take_succ hil).1 hx with h | h
                          · exact of_decide_eq_false hst h
                          · exact q0 (by rw [h]))
                        have s0 : ((ge c2 i).i == x.i) = false := beq_eq_false_iff_ne.2 q0
                        clear q0 hst
                        go_wp2_with fail
                        clear x0 x1 x2 x3 x4 xl
                        go_roundw
                        case rel => exact ⟨i + 1, by omega, by go_num, by rw [H.out] <;> rfl, by (repeat (first | with_reducible exact Below.refl _ _ | with_reducible refine bl_drewN ?_ _ | with_reducible refine Below.drew ?_ | with_reducible refine bl_alloc ?_ _ | with_reducible refine Below.alloc ?_ (by first | omega | (simp; done) | (simp; omega)) _ | with_reducible refine Below.setCell ?_ (by first | omega | (simp; done) | (simp; omega)) _ | with_reducible assumption))⟩
                        case measure => simp [RowKit.intOf]; omega
                    · have H : Hid (decide (x ∈ c2.take (i + 1)) = true) := decide_eq_true ((mem_take_succ hil).2 (.inl (of_decide_eq_true hst)))
                      clear hst
                      go_wp2_with fail
                      clear x0 x1 x2 x3 x4 xl
                      go_roundw
                      case rel => exact ⟨i + 1, by omega, by go_num, by rw [H.out] <;> rfl, by (repeat (first | with_reducible exact Below.refl _ _ | with_reducible refine bl_drewN ?_ _ | with_reducible refine Below.drew ?_ | with_reducible refine bl_alloc ?_ _ | with_reducible refine Below.alloc ?_ (by first | omega | (simp; done) | (simp; omega)) _ | with_reducible refine Below.setCell ?_ (by first | omega | (simp; done) | (simp; omega)) _ | with_reducible assumption))⟩
                      case measure => simp [RowKit.intOf]; omega
                  · have hie : decide (x ∈ c2.take i) = false := by rw [show i = c2.length by omega, List.take_length]; exact HM.out
                    rw [hie]
                    have u1 : ¬ (i : Int) < c2.length := by omega
                    have hbz := bl_trans hbg hbh
                    clear hie hi2
                    clear x0 x1 x2 x3 x4 xl
                    go_wp2_with fail
                    go_roundw
                    case rel => exact ⟨j + 1, by omega, by go_num, hbz⟩
                    case measure => simp [RowKit.intOf]; omega
            all_goals
              have hXc := hXa.old hbD
              have hHc := hHa.old hbD
              have hLc := hLa.old hbD
              have hbc := bl_trans hba hbD
              have n1 : xb < wa.heap.size := hXa.lt
              have n2 : g1 < wa.heap.size := hHa.lt
              have n3 : Mw.Away wa.heap.size A := fun a ha => by
                obtain ⟨b', off', e, hlt, _⟩ := hLa 0 (by omega)
                rw [ha] at e
                injection e with e
                rw [e]; exact Nat.ne_of_lt hlt
              have n4 : wB.heap.size ≤ wa.heap.size := hba.size
              clear hbq hbD hXa hHa hLa hba x0 xl
              have hQ := (((hZc.set 0 (.int .i64 Q.ix)).set 1 (.int .i64 Q.pl)).set 2 (.slice E Q.pa.length cE)).set 3 (.slice F Q.sp.length cF)
              simp only [List.setIfInBounds_toArray, List.set_cons_zero, List.set_cons_succ] at hQ
              have hXd := (((hXc.far (p := ⟨wa.heap.size, 0, none⟩) (Nat.ne_of_lt n1) (.int .i64 Q.ix)).far (p := ⟨wa.heap.size, 1, none⟩) (Nat.ne_of_lt n1) (.int .i64 Q.pl)).far (p := ⟨wa.heap.size, 2, none⟩) (Nat.ne_of_lt n1) (.slice E Q.pa.length cE)).far (p := ⟨wa.heap.size, 3, none⟩) (Nat.ne_of_lt n1) (.slice F Q.sp.length cF)
              have hHd := (((hHc.far (p := ⟨wa.heap.size, 0, none⟩) (Nat.ne_of_lt n2) (.int .i64 Q.ix)).far (p := ⟨wa.heap.size, 1, none⟩) (Nat.ne_of_lt n2) (.int .i64 Q.pl)).far (p := ⟨wa.heap.size, 2, none⟩) (Nat.ne_of_lt n2) (.slice E Q.pa.length cE)).far (p := ⟨wa.heap.size, 3, none⟩) (Nat.ne_of_lt n2) (.slice F Q.sp.length cF)
              have hLd := (((hLc.far (p := ⟨wa.heap.size, 0, none⟩) n3 (.int .i64 Q.ix)).far (p := ⟨wa.heap.size, 1, none⟩) n3 (.int .i64 Q.pl)).far (p := ⟨wa.heap.size, 2, none⟩) n3 (.slice E Q.pa.length cE)).far (p := ⟨wa.heap.size, 3, none⟩) n3 (.slice F Q.sp.length cF)
              have hrEd := rdd_pf4 (a' := Q.ix) (b' := Q.pl) (A' := E) (n' := Q.pa.length) (c' := cE) (B' := F) (m' := Q.sp.length) (d' := cF) hZc hrE
              have hrFd := rdd_pf4 (a' := Q.ix) (b' := Q.pl) (A' := E) (n' := Q.pa.length) (c' := cE) (B' := F) (m' := Q.sp.length) (d' := cF) hZc hrF
              have hbd := (((hbc.setCell (p := ⟨wa.heap.size, 0, none⟩) n4 (.int .i64 Q.ix)).setCell (p := ⟨wa.heap.size, 1, none⟩) n4 (.int .i64 Q.pl)).setCell (p := ⟨wa.heap.size, 2, none⟩) n4 (.slice E Q.pa.length cE)).setCell (p := ⟨wa.heap.size, 3, none⟩) n4 (.slice F Q.sp.length cF)
              clear hZc zf z0 z1 z2 z3 zl hXc hHc hLc hbc hrE hrF
              generalize ((((wc.setCell ⟨wa.heap.size, 0, none⟩ (.int .i64 Q.ix)).setCell ⟨wa.heap.size, 1, none⟩ (.int .i64 Q.pl)).setCell ⟨wa.heap.size, 2, none⟩ (.slice E Q.pa.length cE)).setCell ⟨wa.heap.size, 3, none⟩ (.slice F Q.sp.length cF)) = wd at *
              generalize wa.heap.size = qb at *
              clear n1 n2 n3 n4
              have x0 := hXd.cell 0
              have x1 := hXd.cell 1
              have x2 := hXd.cell 2
              have x3 := hXd.cell 3
              have x4 := hXd.cell 4
              have xl := hXd.lt
              have p0 := hQ.cell 0
              have p1 := hQ.cell 1
              have p2 := hQ.cell 2
              have p3 := hQ.cell 3
              have pl := hQ.lt
              have y0 : wd.cell? ⟨g1, 0, none⟩ = some (.int .i64 H1.n) := hHd.cell 0
              have y1 : wd.cell? ⟨g1, 1, none⟩ = some (.int .i64 H1.c) := hHd.cell 1
              have y2 : wd.cell? ⟨g1, 2, none⟩ = some (.int .u32 H1.r.1) := hHd.cell 2
              have y3 : wd.cell? ⟨g1, 3, none⟩ = some (.int .u32 H1.r.2.1) := hHd.cell 3
              have y4 : wd.cell? ⟨g1, 4, none⟩ = some (.int .u32 H1.r.2.2.1) := hHd.cell 4
              have y5 : wd.cell? ⟨g1, 5, none⟩ = some (.int .u32 H1.r.2.2.2) := hHd.cell 5
              have y6 : wd.cell? ⟨g1, 6, none⟩ = some (.int .u32 H1.l.1) := hHd.cell 6
              have y7 : wd.cell? ⟨g1, 7, none⟩ = some (.int .u32 H1.l.2.1) := hHd.cell 7
              have y8 : wd.cell? ⟨g1, 8, none⟩ = some (.int .u32 H1.l.2.2.1) := hHd.cell 8
              have y9 : wd.cell? ⟨g1, 9, none⟩ = some (.int .u32 H1.l.2.2.2) := hHd.cell 9
              have ya : wd.cell? ⟨g1, 10, none⟩ = some (.int .i64 H1.R) := hHd.cell 10
              have yb : wd.cell? ⟨g1, 11, none⟩ = some (.int .i64 H1.S) := hHd.cell 11
              have yl := hHd.lt
              go_wp2_with fail
              clear x0 x1 x2 x3 x4 xl
              clear p0 p1 p2 p3 pl
              clear y0 y1 y2 y3 y4 y5 y6 y7 y8 y9 ya yb yl
              refine (HV3.out _ E F cE cF hcE hmE hrEd hcF hmF hrFd).mono ?_
              rintro e we ⟨rfl, hbq⟩
              have hXe := hXd.old hbq
              have hLe := hLd.old hbq
              have hbe := bl_trans hbd hbq
              clear hXd hLd hHd hQ hbd hbq hrEd hrFd HV3 HP3
              by_cases hm : x ∈ c2
              · have h := HP4.out _ hLe
                rw [if_pos hm] at h
                have HPr := Lib.hid h
                have HM : Hid (decide (x ∈ c2) = true) := decide_eq_true hm
                clear h hm
                have x0 := hXe.cell 0
                have xl := hXe.lt
                go_wp2_with fail
                clear x0 xl
                refine HPr.out.mono ?_
                rintro e wf ⟨E2, cE2, F2, cF2, rfl, -, -, -, -, -, -, hbq⟩
                have hXf := hXe.old hbq
                have hLf := hLe.old hbq
                have hbf := bl_trans hbe hbq
                clear hXe hLe hbe hbq HPr
                go_wp2_with fail
                refine (HC2.out _ (by first | exact hLf.alloc _ | exact hLf)).mono ?_
                rintro e wg ⟨v2, rfl, hown, hbq⟩
                obtain ⟨C2, cC2, rfl, hcC2, hrC2, -⟩ := own_rows cfl_len (by omega) hown
                have hXg : Bk wg xb 30 #[.int .i64 x.i, .int .i64 x.c, .int .i64 x.g, .int .i64 x.t, .int .i64 x.r] := (hXf.alloc _).old hbq
                have hbg := bl_trans (Mw.bl_alloc hbf _) hbq
                have HrC2 := Lib.hid hrC2
                have HXg := Lib.hid hXg
                clear hown hbq hXf hLf hbf hrC2 hXg hcC2
                go_wp2_with fail
                go_loopw [22, 138] (fun st ii wv => ∃ (i : Nat), i ≤ c2.length ∧ ii = .int .i64 i ∧ st = .bool (decide (x ∈ c2.take i)) ∧ Below wg.heap.size wg wv) (fun _ ii _ => c2.length - (RowKit.intOf ii).toNat)
                case atStart => exact ⟨0, by omega, rfl, by simp, Below.refl _ _⟩
                case round =>
                  obtain ⟨i, hi2, rfl, rfl, hbh⟩ := hrel
                  have hXh := HXg.out.old hbh
                  have x0 := hXh.cell 0
                  have x1 := hXh.cell 1
                  have x2 := hXh.cell 2
                  have x3 := hXh.cell 3
                  have x4 := hXh.cell 4
                  have xl := hXh.lt
                  by_cases hil : i < c2.length
                  · obtain ⟨b5, off5, rfl, hbl5, e0, e1, e2, e3, e4⟩ := cf_at (HrC2.out.old hbh) i hil
                    have u1 : (i : Int) < c2.length := by omega
                    cases hst : decide (x ∈ c2.take i)
                    · by_cases q0 : (ge c2 i).i = x.i
                      · by_cases q1 : (ge c2 i).c = x.c
                        · by_cases q2 : (ge c2 i).g = x.g
                          · by_cases q3 : (ge c2 i).t = x.t
                            · by_cases q4 : (ge c2 i).r = x.r
                              · have hyx : ge c2 i = x := by
                                  generalize ge c2 i = y at *
                                  obtain ⟨a0, a1, a2, a3, a4⟩ := y
                                  obtain ⟨b0, b1, b2, b3, b4⟩ := x
                                  simp only at q0 q1 q2 q3 q4
                                  subst q0 q1 q2 q3 q4
                                  rfl
                                have H : Hid (decide (x ∈ c2.take (i + 1)) = true) := decide_eq_true ((mem_take_succ hil).2 (.inr hyx.symm))
                                have s0 : ((ge c2 i).i == x.i) = true := beq_iff_eq.2 q0
                                have s1 : ((ge c2 i).c == x.c) = true := beq_iff_eq.2 q1
                                have s2 : ((ge c2 i).g == x.g) = true := beq_iff_eq.2 q2
                                have s3 : ((ge c2 i).t == x.t) = true := beq_iff_eq.2 q3
                                have s4 : ((ge c2 i).r == x.r) = true := beq_iff_eq.2 q4
                                clear hyx q0 q1 q2 q3 q4
                                go_wp2_with fail
                                clear x0 x1 x2 x3 x4 xl
                                go_roundw
                                case rel => exact ⟨i + 1, by omega, by go_num, by rw [H.out] <;> rfl, by (repeat (first | with_reducible exact Below.refl _ _ | with_reducible refine bl_drewN ?_ _ | with_reducible refine Below.drew ?_ | with_reducible refine bl_alloc ?_ _ | with_reducible refine Below.alloc ?_ (by first | omega | (simp; done) | (simp; omega)) _ | with_reducible refine Below.setCell ?_ (by first | omega | (simp; done) | (simp; omega)) _ | with_reducible assumption))⟩
                                case measure => simp [RowKit.intOf]; omega
                              · have H : Hid (decide (x ∈ c2.take (i + 1)) = false) := decide_eq_false (fun hx => by
                                  rcases (mem_take_succ hil).1 hx with h | h
                                  · exact of_decide_eq_false hst h
                                  · exact q4 (by rw [h]))
                                have s0 : ((ge c2 i).i == x.i) = true := beq_iff_eq.2 q0
                                have s1 : ((ge c2 i).c == x.c) = true := beq_iff_eq.2 q1
                                have s2 : ((ge c2 i).g == x.g) = true := beq_iff_eq.2 q2
                                have s3 : ((ge c2 i).t == x.t) = true := beq_iff_eq.2 q3
                                have s4 : ((ge c2 i).r == x.r) = false := beq_eq_false_iff_ne.2 q4
                                clear q0 q1 q2 q3 q4 hst
                                go_wp2_with fail
                                clear x0 x1 x2 x3 x4 xl
                                go_roundw
                                case rel => exact ⟨i + 1, by omega, by go_num, by rw [H.out] <;> rfl, by (repeat (first | with_reducible exact Below.refl _ _ | with_reducible refine bl_drewN ?_ _ | with_reducible refine Below.drew ?_ | with_reducible refine bl_alloc ?_ _ | with_reducible refine Below.alloc ?_ (by first | omega | (simp; done) | (simp; omega)) _ | with_reducible refine Below.setCell ?_ (by first | omega | (simp; done) | (simp; omega)) _ | with_reducible assumption))⟩
                                case measure => simp [RowKit.intOf]; omega
                            · have H : Hid (decide (x ∈ c2.take (i + 1)) = false) := decide_eq_false (fun hx => by
                                rcases (mem_take_succ hil).1 hx with h | h
                                · exact of_decide_eq_false hst h
                                · exact q3 (by rw [h]))
                              have s0 : ((ge c2 i).i == x.i) = true := beq_iff_eq.2 q0
                              have s1 : ((ge c2 i).c == x.c) = true := beq_iff_eq.2 q1
                              have s2 : ((ge c2 i).g == x.g) = true := beq_iff_eq.2 q2
                              have s3 : ((ge c2 i).t == x.t) = false := beq_eq_false_iff_ne.2 q3
                              clear q0 q1 q2 q3 hst
                              go_wp2_with fail
                              clear x0 x1 x2 x3 x4 xl
                              go_roundw
                              case rel => exact ⟨i + 1, by omega, by go_num, by rw [H.out] <;> rfl, by (repeat (first | with_reducible exact Below.refl _ _ | with_reducible refine bl_drewN ?_ _ | with_reducible refine Below.drew ?_ | with_reducible refine bl_alloc ?_ _ | with_reducible refine Below.alloc ?_ (by first | omega | (simp; done) | (simp; omega)) _ | with_reducible refine Below.setCell ?_ (by first | omega | (simp; done) | (simp; omega)) _ | with_reducible assumption))⟩
                              case measure => simp [RowKit.intOf]; omega
                          · have H : Hid (decide (x ∈ c2.take (i + 1)) = false) := decide_eq_false (fun hx => by
                              rcases (mem_take_succ hil).1 hx with h | h
                              · exact of_decide_eq_false hst h
                              · exact q2 (by rw [h]))
                            have s0 : ((ge c2 i).i == x.i) = true := beq_iff_eq.2 q0
                            have s1 : ((ge c2 i).c == x.c) = true := beq_iff_eq.2 q1
                            have s2 : ((ge c2 i).g == x.g) = false := beq_eq_false_iff_ne.2 q2
                            clear q0 q1 q2 hst
                            go_wp2_with fail
                            clear x0 x1 x2 x3 x4 xl
                            go_roundw
                            case rel => exact ⟨i + 1, by omega, by go_num, by rw [H.out] <;> rfl, by (repeat (first | with_reducible exact Below.refl _ _ | with_reducible refine bl_drewN ?_ _ | with_reducible refine Below.drew ?_ | with_reducible refine bl_alloc ?_ _ | with_reducible refine Below.alloc ?_ (by first | omega | (simp; done) | (simp; omega)) _ | with_reducible refine Below.setCell ?_ (by first | omega | (simp; done) | (simp; omega)) _ | with_reducible assumption))⟩
                            case measure => simp [RowKit.intOf]; omega
                        · have H : Hid (decide (x ∈ c2.take (i + 1)) = false) := decide_eq_false (fun hx => by
                            rcases (mem_take_succ hil).1 hx with h | h
                            · exact of_decide_eq_false hst h
                            · exact q1 (by rw [h]))
                          have s0 : ((ge c2 i).i == x.i) = true := beq_iff_eq.2 q0
                          have s1 : ((ge c2 i).c == x.c) = false := beq_eq_false_iff_ne.2 q1
                          clear q0 q1 hst
                          go_wp2_with fail
                          clear x0 x1 x2 x3 x4 xl
                          go_roundw
                          case rel => exact ⟨i + 1, by omega, by go_num, by rw [H.out] <;> rfl, by (repeat (first | with_reducible exact Below.refl _ _ | with_reducible refine bl_drewN ?_ _ | with_reducible refine Below.drew ?_ | with_reducible refine bl_alloc ?_ _ | with_reducible refine Below.alloc ?_ (by first | omega | (simp; done) | (simp; omega)) _ | with_reducible refine Below.setCell ?_ (by first | omega | (simp; done) | (simp; omega)) _ | with_reducible assumption))⟩
                          case measure => simp [RowKit.intOf]; omega
                      · have H : Hid (decide (x ∈ c2.take (i + 1)) = false) := decide_eq_false (fun hx => by
                          rcases (mem_take_succ hil).1 hx with h | h
                          · exact of_decide_eq_false hst h
                          · exact q0 (by rw [h]))
                        have s0 : ((ge c2 i).i == x.i) = false := beq_eq_false_iff_ne.2 q0
                        clear q0 hst
                        go_wp2_with fail
                        clear x0 x1 x2 x3 x4 xl
                        go_roundw
                        case rel => exact ⟨i + 1, by omega, by go_num, by rw [H.out] <;> rfl, by (repeat (first | with_reducible exact Below.refl _ _ | with_reducible refine bl_drewN ?_ _ | with_reducible refine Below.drew ?_ | with_reducible refine bl_alloc ?_ _ | with_reducible refine Below.alloc ?_ (by first | omega | (simp; done) | (simp; omega)) _ | with_reducible refine Below.setCell ?_ (by first | omega | (simp; done) | (simp; omega)) _ | with_reducible assumption))⟩
                        case measure => simp [RowKit.intOf]; omega
                    · have H : Hid (decide (x ∈ c2.take (i + 1)) = true) := decide_eq_true ((mem_take_succ hil).2 (.inl (of_decide_eq_true hst)))
                      clear hst
                      go_wp2_with fail
                      clear x0 x1 x2 x3 x4 xl
                      go_roundw
                      case rel => exact ⟨i + 1, by omega, by go_num, by rw [H.out] <;> rfl, by (repeat (first | with_reducible exact Below.refl _ _ | with_reducible refine bl_drewN ?_ _ | with_reducible refine Below.drew ?_ | with_reducible refine bl_alloc ?_ _ | with_reducible refine Below.alloc ?_ (by first | omega | (simp; done) | (simp; omega)) _ | with_reducible refine Below.setCell ?_ (by first | omega | (simp; done) | (simp; omega)) _ | with_reducible assumption))⟩
                      case measure => simp [RowKit.intOf]; omega
                  · have hie : decide (x ∈ c2.take i) = true := by rw [show i = c2.length by omega, List.take_length]; exact HM.out
                    rw [hie]
                    have u1 : ¬ (i : Int) < c2.length := by omega
                    have hbz := bl_trans hbg hbh
                    clear hie hi2
                    clear x0 x1 x2 x3 x4 xl
                    go_wp2_with fail
                    go_roundw
                    case rel => exact ⟨j + 1, by omega, by go_num, hbz⟩
                    case measure => simp [RowKit.intOf]; omega
              · have h := HP4.out _ hLe
                rw [if_neg hm] at h
                have HPr := Lib.hid h
                have HM : Hid (decide (x ∈ c2) = false) := decide_eq_false hm
                clear h hm
                have x0 := hXe.cell 0
                have xl := hXe.lt
                go_wp2_with fail
                clear x0 xl
                refine HPr.out.mono ?_
                rintro e wf ⟨E2, cE2, F2, cF2, rfl, -, -, -, -, -, -, hbq⟩
                have hXf := hXe.old hbq
                have hLf := hLe.old hbq
                have hbf := bl_trans hbe hbq
                clear hXe hLe hbe hbq HPr
                go_wp2_with fail
                refine (HC2.out _ (by first | exact hLf.alloc _ | exact hLf)).mono ?_
                rintro e wg ⟨v2, rfl, hown, hbq⟩
                obtain ⟨C2, cC2, rfl, hcC2, hrC2, -⟩ := own_rows cfl_len (by omega) hown
                have hXg : Bk wg xb 30 #[.int .i64 x.i, .int .i64 x.c, .int .i64 x.g, .int .i64 x.t, .int .i64 x.r] := (hXf.alloc _).old hbq
                have hbg := bl_trans (Mw.bl_alloc hbf _) hbq
                have HrC2 := Lib.hid hrC2
                have HXg := Lib.hid hXg
                clear hown hbq hXf hLf hbf hrC2 hXg hcC2
                go_wp2_with fail
                go_loopw [22, 138] (fun st ii wv => ∃ (i : Nat), i ≤ c2.length ∧ ii = .int .i64 i ∧ st = .bool (decide (x ∈ c2.take i)) ∧ Below wg.heap.size wg wv) (fun _ ii _ => c2.length - (RowKit.intOf ii).toNat)
                case atStart => exact ⟨0, by omega, rfl, by simp, Below.refl _ _⟩
                case round =>
                  obtain ⟨i, hi2, rfl, rfl, hbh⟩ := hrel
                  have hXh := HXg.out.old hbh
                  have x0 := hXh.cell 0
                  have x1 := hXh.cell 1
                  have x2 := hXh.cell 2
                  have x3 := hXh.cell 3
                  have x4 := hXh.cell 4
                  have xl := hXh.lt
                  by_cases hil : i < c2.length
                  · obtain ⟨b5, off5, rfl, hbl5, e0, e1, e2, e3, e4⟩ := cf_at (HrC2.out.old hbh) i hil
                    have u1 : (i : Int) < c2.length := by omega
                    cases hst : decide (x ∈ c2.take i)
                    · by_cases q0 : (ge c2 i).i = x.i
                      · by_cases q1 : (ge c2 i).c = x.c
                        · by_cases q2 : (ge c2 i).g = x.g
                          · by_cases q3 : (ge c2 i).t = x.t
                            · by_cases q4 : (ge c2 i).r = x.r
                              · have hyx : ge c2 i = x := by
                                  generalize ge c2 i = y at *
                                  obtain ⟨a0, a1, a2, a3, a4⟩ := y
                                  obtain ⟨b0, b1, b2, b3, b4⟩ := x
                                  simp only at q0 q1 q2 q3 q4
                                  subst q0 q1 q2 q3 q4
                                  rfl
                                have H : Hid (decide (x ∈ c2.take (i + 1)) = true) := decide_eq_true ((mem_take_succ hil).2 (.inr hyx.symm))
                                have s0 : ((ge c2 i).i == x.i) = true := beq_iff_eq.2 q0
                                have s1 : ((ge c2 i).c == x.c) = true := beq_iff_eq.2 q1
                                have s2 : ((ge c2 i).g == x.g) = true := beq_iff_eq.2 q2
                                have s3 : ((ge c2 i).t == x.t) = true := beq_iff_eq.2 q3
                                have s4 : ((ge c2 i).r == x.r) = true := beq_iff_eq.2 q4
                                clear hyx q0 q1 q2 q3 q4
                                go_wp2_with fail
                                clear x0 x1 x2 x3 x4 xl
                                go_roundw
                                case rel => exact ⟨i + 1, by omega, by go_num, by rw [H.out] <;> rfl, by (repeat (first | with_reducible exact Below.refl _ _ | with_reducible refine bl_drewN ?_ _ | with_reducible refine Below.drew ?_ | with_reducible refine bl_alloc ?_ _ | with_reducible refine Below.alloc ?_ (by first | omega | (simp; done) | (simp; omega)) _ | with_reducible refine Below.setCell ?_ (by first | omega | (simp; done) | (simp; omega)) _ | with_reducible assumption))⟩
                                case measure => simp [RowKit.intOf]; omega
                              · have H : Hid (decide (x ∈ c2.take (i + 1)) = false) := decide_eq_false (fun hx => by
                                  rcases (mem_take_succ hil).1 hx with h | h
                                  · exact of_decide_eq_false hst h
                                  · exact q4 (by rw [h]))
                                have s0 : ((ge c2 i).i == x.i) = true := beq_iff_eq.2 q0
                                have s1 : ((ge c2 i).c == x.c) = true := beq_iff_eq.2 q1
                                have s2 : ((ge c2 i).g == x.g) = true := beq_iff_eq.2 q2
                                have s3 : ((ge c2 i).t == x.t) = true := beq_iff_eq.2 q3
                                have s4 : ((ge c2 i).r == x.r) = false := beq_eq_false_iff_ne.2 q4
                                clear q0 q1 q2 q3 q4 hst
                                go_wp2_with fail
                                clear x0 x1 x2 x3 x4 xl
                                go_roundw
                                case rel => exact ⟨i + 1, by omega, by go_num, by rw [H.out] <;> rfl, by (repeat (first | with_reducible exact Below.refl _ _ | with_reducible refine bl_drewN ?_ _ | with_reducible refine Below.drew ?_ | with_reducible refine bl_alloc ?_ _ | with_reducible refine Below.alloc ?_ (by first | omega | (simp; done) | (simp; omega)) _ | with_reducible refine Below.setCell ?_ (by first | omega | (simp; done) | (simp; omega)) _ | with_reducible assumption))⟩
                                case measure => simp [RowKit.intOf]; omega
                            · have H : Hid (decide (x ∈ c2.take (i + 1)) = false) := decide_eq_false (fun hx => by
                                rcases (mem_take_succ hil).1 hx with h | h
                                · exact of_decide_eq_false hst h
                                · exact q3 (by rw [h]))
                              have s0 : ((ge c2 i).i == x.i) = true := beq_iff_eq.2 q0
                              have s1 : ((ge c2 i).c == x.c) = true := beq_iff_eq.2 q1
                              have s2 : ((ge c2 i).g == x.g) = true := beq_iff_eq.2 q2
                              have s3 : ((ge c2 i).t == x.t) = false := beq_eq_false_iff_ne.2 q3
                              clear q0 q1 q2 q3 hst
                              go_wp2_with fail
                              clear x0 x1 x2 x3 x4 xl
                              go_roundw
                              case rel => exact ⟨i + 1, by omega, by go_num, by rw [H.out] <;> rfl, by (repeat (first | with_reducible exact Below.refl _ _ | with_reducible refine bl_drewN ?_ _ | with_reducible refine Below.drew ?_ | with_reducible refine bl_alloc ?_ _ | with_reducible refine Below.alloc ?_ (by first | omega | (simp; done) | (simp; omega)) _ | with_reducible refine Below.setCell ?_ (by first | omega | (simp; done) | (simp; omega)) _ | with_reducible assumption))⟩
                              case measure => simp [RowKit.intOf]; omega
                          · have H : Hid (decide (x ∈ c2.take (i + 1)) = false) := decide_eq_false (fun hx => by
                              rcases (mem_take_succ hil).1 hx with h | h
                              · exact of_decide_eq_false hst h
                              · exact q2 (by rw [h]))
                            have s0 : ((ge c2 i).i == x.i) = true := beq_iff_eq.2 q0
                            have s1 : ((ge c2 i).c == x.c) = true := beq_iff_eq.2 q1
                            have s2 : ((ge c2 i).g == x.g) = false := beq_eq_false_iff_ne.2 q2
                            clear q0 q1 q2 hst
                            go_wp2_with fail
                            clear x0 x1 x2 x3 x4 xl
                            go_roundw
                            case rel => exact ⟨i + 1, by omega, by go_num, by rw [H.out] <;> rfl, by (repeat (first | with_reducible exact Below.refl _ _ | with_reducible refine bl_drewN ?_ _ | with_reducible refine Below.drew ?_ | with_reducible refine bl_alloc ?_ _ | with_reducible refine Below.alloc ?_ (by first | omega | (simp; done) | (simp; omega)) _ | with_reducible refine Below.setCell ?_ (by first | omega | (simp; done) | (simp; omega)) _ | with_reducible assumption))⟩
                            case measure => simp [RowKit.intOf]; omega
                        · have H : Hid (decide (x ∈ c2.take (i + 1)) = false) := decide_eq_false (fun hx => by
                            rcases (mem_take_succ hil).1 hx with h | h
                            · exact of_decide_eq_false hst h
                            · exact q1 (by rw [h]))
                          have s0 : ((ge c2 i).i == x.i) = true := beq_iff_eq.2 q0
                          have s1 : ((ge c2 i).c == x.c) = false := beq_eq_false_iff_ne.2 q1
                          clear q0 q1 hst
                          go_wp2_with fail
                          clear x0 x1 x2 x3 x4 xl
                          go_roundw
                          case rel => exact ⟨i + 1, by omega, by go_num, by rw [H.out] <;> rfl, by (repeat (first | with_reducible exact Below.refl _ _ | with_reducible refine bl_drewN ?_ _ | with_reducible refine Below.drew ?_ | with_reducible refine bl_alloc ?_ _ | with_reducible refine Below.alloc ?_ (by first | omega | (simp; done) | (simp; omega)) _ | with_reducible refine Below.setCell ?_ (by first | omega | (simp; done) | (simp; omega)) _ | with_reducible assumption))⟩
                          case measure => simp [RowKit.intOf]; omega
                      · have H : Hid (decide (x ∈ c2.take (i + 1)) = false) := decide_eq_false (fun hx => by
                          rcases (mem_take_succ hil).1 hx with h | h
                          · exact of_decide_eq_false hst h
                          · exact q0 (by rw [h]))
                        have s0 : ((ge c2 i).i == x.i) = false := beq_eq_false_iff_ne.2 q0
                        clear q0 hst
                        go_wp2_with fail
                        clear x0 x1 x2 x3 x4 xl
                        go_roundw
                        case rel => exact ⟨i + 1, by omega, by go_num, by rw [H.out] <;> rfl, by (repeat (first | with_reducible exact Below.refl _ _ | with_reducible refine bl_drewN ?_ _ | with_reducible refine Below.drew ?_ | with_reducible refine bl_alloc ?_ _ | with_reducible refine Below.alloc ?_ (by first | omega | (simp; done) | (simp; omega)) _ | with_reducible refine Below.setCell ?_ (by first | omega | (simp; done) | (simp; omega)) _ | with_reducible assumption))⟩
                        case measure => simp [RowKit.intOf]; omega
                    · have H : Hid (decide (x ∈ c2.take (i + 1)) = true) := decide_eq_true ((mem_take_succ hil).2 (.inl (of_decide_eq_true hst)))
                      clear hst
                      go_wp2_with fail
                      clear x0 x1 x2 x3 x4 xl
                      go_roundw
                      case rel => exact ⟨i + 1, by omega, by go_num, by rw [H.out] <;> rfl, by (repeat (first | with_reducible exact Below.refl _ _ | with_reducible refine bl_drewN ?_ _ | with_reducible refine Below.drew ?_ | with_reducible refine bl_alloc ?_ _ | with_reducible refine Below.alloc ?_ (by first | omega | (simp; done) | (simp; omega)) _ | with_reducible refine Below.setCell ?_ (by first | omega | (simp; done) | (simp; omega)) _ | with_reducible assumption))⟩
                      case measure => simp [RowKit.intOf]; omega
                  · have hie : decide (x ∈ c2.take i) = false := by rw [show i = c2.length by omega, List.take_length]; exact HM.out
                    rw [hie]
                    have u1 : ¬ (i : Int) < c2.length := by omega
                    have hbz := bl_trans hbg hbh
                    clear hie hi2
                    clear x0 x1 x2 x3 x4 xl
                    go_wp2_with fail
                    go_roundw
                    case rel => exact ⟨j + 1, by omega, by go_num, hbz⟩
                    case measure => simp [RowKit.intOf]; omega
          · have hje : ¬ (j : Int) < c1.length := by omega
            have hbz := bl_trans hbB hbv
            go_wp2_with fail
            refine (sane_any _).mono ?_
            rintro e wz ⟨rfl, hbq⟩
            go_wp2_with fail
            go_ret
            exact ⟨rfl, bl_trans hbz hbq⟩
  · have HL := Lib.hid (show ∀ W : World, Calls Try.prog 6 #[.slice A0 l0.length c0] W fun e w' => e = .returned (.bool false) ∧ W = w' from fun W => by have h6 := light_any l0 A0 c0 W; rwa [decide_eq_false hL] at h6)
    clear hr hi
    go_enter Try.func5, Try.ntmps5
    go_wp2_with fail
    refine (HL.out _).mono ?_
    rintro e w0 ⟨rfl, rfl⟩
    go_wp2_with fail
    refine (sane_any _).mono ?_
    rintro e w1 ⟨rfl, hb1⟩
    go_wp2_with fail
    go_ret
    exact ⟨rfl, hb1⟩
end Go.Proofs.Ytdikoffppjoomaa.Ct
