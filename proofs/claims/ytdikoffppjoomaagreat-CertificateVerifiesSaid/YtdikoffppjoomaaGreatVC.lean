/- Walk: the statement CertificateVerifies. -/
import Derived.Test.YtdikoffppjoomaaGreatVB
import Derived.Test.YtdikoffppjoomaaGreatCZ
import Derived.WalkKit
import Derived.WalkSpells
import Derived.WalkLawsBesides
import Derived.Deep.QuietTactic
import Derived.BigQuiet
import Derived.Deep.Draws
import Derived.Deep.AppendLies
import Derived.Laws.OwnMore
import Derived.Laws.BytesArg
import Derived.Lib.Hide
import Derived.Deep.LoopGhost
import Derived.Deep.RegionLaw
import Derived.OwnWalk
import Derived.Maps.AppendAt
import Derived.RegionTactic
namespace Go.Proofs.YtdikoffppjoomaaGreat.Ct
open Go.RowKit Go.Proofs.YtdikoffppjoomaaGreat.Dg
open Go.Proofs.YtdikoffppjoomaaGreat.Mw (I64 ret_int ret_bool Bk bl_trans own_ints RdI RdR ge ge_lt gi ge_mem own_rows bl_gb)
open Go.Proofs.YtdikoffppjoomaaGreat.Dc (Di DI DB next_any roll_any light_any)
open Go.Proofs.YtdikoffppjoomaaGreat.Tr (RdD root cons rts consE consB rts_cons pathE rpath_any)
open Go.Proofs.YtdikoffppjoomaaGreat.Sg (Wd pw val ver chal ver_signed rpublic_yes mod_any)
set_option linter.unusedVariables false
set_option linter.unusedSimpArgs false
set_option maxRecDepth 100000

theorem sld_ok {l : List Le} (hV : V l) {s : Int} (hs : val s = true) : sld s l = (hd1 s l, 0) := by
  unfold sld
  rw [if_pos (chk_V hV), if_pos hs]
theorem prv_cur {l : List Le} (hV : V l) {c : Cf} (hc : c ∈ cur l) : prv l c.i = (pvo l c.i, 0) := by
  have h := cu_some.1 ((mem_cur hV).1 hc)
  unfold prv
  rw [if_pos (chk_V hV), if_pos (by rw [h.1]; rfl), if_neg (by rw [h.2]; simp)]
theorem mem_take_succ {xs : List Cf} {j : Nat} (hj : j < xs.length) {c : Cf} : c ∈ xs.take (j + 1) ↔ c ∈ xs.take j ∨ c = ge xs j := by
  have : xs.take (j + 1) = xs.take j ++ [ge xs j] := by
    rw [List.take_succ_eq_append_getElem hj]
    congr 1
    have := Mw.ge_lt xs j hj
    rw [List.getElem?_eq_getElem hj] at this
    injection this with this
    rw [this]
  rw [this]; simp
/-- A proof as it lies in memory. -/
structure Pw where
  ix : Int
  pl : Int
  pa : List St
  sp : List St
  A : Option Addr
  ca : Nat
  B : Option Addr
  cb : Nat
instance : Inhabited Pw := ⟨⟨0, 0, [], [], none, 0, none, 0⟩⟩
abbrev pel (p : Pw) : List Value := [.int .i64 p.ix, .int .i64 p.pl, .slice p.A p.pa.length p.ca, .slice p.B p.sp.length p.cb]
theorem pel_len : ∀ p, (pel p).length = 4 := fun _ => rfl
/-- The path of a proof can be read. -/
def Pa (w : World) (A : Option Addr) (l : List St) (c : Nat) : Prop := l.length ≤ 1000000 ∧ l.length ≤ c ∧ c ≤ maxLen ∧ RdD w A l
def Sep (v : Value) (A : Option Addr) (l : List St) : Prop := ∀ a, A = some a → 0 < l.length → v.ownBlock ≠ some a.block
structure Ok (w : World) (p : Pw) : Prop where
  a : Pa w p.A p.pa p.ca
  b : Pa w p.B p.sp p.cb
structure Sp (v : Value) (p : Pw) : Prop where
  a : Sep v p.A p.pa
  b : Sep v p.B p.sp
theorem Pa.old {w w' : World} {A : Option Addr} {l : List St} {c : Nat} (h : Pa w A l c) (hb : Below w.heap.size w w') : Pa w' A l c := ⟨h.1, h.2.1, h.2.2.1, h.2.2.2.old hb⟩
theorem Ok.old {w w' : World} {p : Pw} (h : Ok w p) (hb : Below w.heap.size w w') : Ok w' p := ⟨h.a.old hb, h.b.old hb⟩
theorem rdd_grown {w w' : World} {A : Option Addr} {l : List St} {v : Value} (h : RdD w A l) (hg : w.grownBy w' v.ownBlock) (hA : Sep v A l) : RdD w' A l := fun k hk => by
  obtain ⟨b, off, e, hlt, hc⟩ := h k hk
  refine ⟨b, off, e, Nat.lt_of_lt_of_le hlt hg.size, fun j u hj => ?_⟩
  rw [World.cell?_of_block (hg.block b hlt (fun e2 => hA _ e (by omega) e2.symm))]
  exact hc j u hj
theorem Pa.grown {w w' : World} {A : Option Addr} {l : List St} {c : Nat} {v : Value} (h : Pa w A l c) (hg : w.grownBy w' v.ownBlock) (hA : Sep v A l) : Pa w' A l c := ⟨h.1, h.2.1, h.2.2.1, rdd_grown h.2.2.2 hg hA⟩
theorem Ok.grown {w w' : World} {p : Pw} {v : Value} (h : Ok w p) (hg : w.grownBy w' v.ownBlock) (hA : Sp v p) : Ok w' p := ⟨h.a.grown hg hA.a, h.b.grown hg hA.b⟩
theorem Pa.lt {w : World} {A : Option Addr} {l : List St} {c : Nat} (h : Pa w A l c) : ∀ a, A = some a → 0 < l.length → a.block < w.heap.size := fun a ha hl => by
  obtain ⟨b, off, e, hlt, _⟩ := h.2.2.2 0 hl
  rw [ha] at e
  injection e with e
  rw [e]; exact hlt
theorem sep_fresh {w : World} {A : Option Addr} {l : List St} {c : Nat} {v v' : Value} (h : Pa w A l c) (hs : Sep v A l) (hat : v'.ownBlock = v.ownBlock ∨ v'.ownBlock = some w.heap.size) : Sep v' A l := fun a ha hl e => by
  rcases hat with h2 | h2
  · exact hs a ha hl (h2.symm.trans e)
  · have := h.lt a ha hl
    rw [h2] at e
    injection e with e
    omega
theorem Sp.fresh {w : World} {p : Pw} {v v' : Value} (h : Ok w p) (hs : Sp v p) (hat : v'.ownBlock = v.ownBlock ∨ v'.ownBlock = some w.heap.size) : Sp v' p := ⟨sep_fresh h.a hs.a hat, sep_fresh h.b hs.b hat⟩
theorem sep_new {w : World} {A : Option Addr} {l : List St} {v : Value} {base : Nat} {e : TypeId} {k n : Nat} {xs : List Value} (hown : w.ownsRow base e k v n xs) (hf : ∀ a, A = some a → w.heap.size ≤ a.block) : Sep v A l := fun a ha _ e => by
  have h1 := (hown.lt _ e).2
  have h2 := hf a ha
  omega
theorem news_pv {w : World} {g : Nat} {T : TypeId} (p : Pw) (h : Bk w g T #[.int .i64 p.ix, .int .i64 p.pl, .slice p.A p.pa.length p.ca, .slice p.B p.sp.length p.cb]) : ∀ j u, (pel p)[j]? = some u → w.cell? ((⟨g, 0, none⟩ : Addr).add j) = some u := World.news_of_block h
theorem one_pv (p : Pw) : ∀ u ∈ pel p, u.oneCell' = true := by
  intro u hd
  simp [pel] at hd
  rcases hd with rfl | rfl | rfl | rfl <;> rfl
theorem infoProof : (Tryz.prog.info? 49).map (fun i => (i.zero, i.size, i.bytes)) = some (some (.agg #[.int .i64 0, .int .i64 0, .slice none 0 0, .slice none 0 0]), 4, 64) := by kernel_rfl
theorem val_key (s : Int) : val (1 + s % 1073741788) = true := decide_eq_true (by omega)
theorem pv_at {w : World} {A : Option Addr} {l : List Pw} (h : RdR 4 pel w A l) (i : Nat) (hi : i < l.length) : ∃ b off, A = some ⟨b, off, none⟩ ∧ b < w.heap.size ∧ w.cell? ⟨b, off + i * 4, none⟩ = some (.int .i64 (ge l i).ix) ∧ w.cell? ⟨b, off + i * 4 + 1, none⟩ = some (.int .i64 (ge l i).pl) ∧ w.cell? ⟨b, off + i * 4 + 2, none⟩ = some (.slice (ge l i).A (ge l i).pa.length (ge l i).ca) ∧ w.cell? ⟨b, off + i * 4 + 3, none⟩ = some (.slice (ge l i).B (ge l i).sp.length (ge l i).cb) := by
  obtain ⟨b, off, e, hlt, hc⟩ := h i hi
  exact ⟨b, off, e, hlt, hc 0 (by omega), hc 1 (by omega), hc 2 (by omega), hc 3 (by omega)⟩
theorem flat_snoc (P : List Pw) (p : Pw) : (P ++ [p]).flatMap pel = P.flatMap pel ++ pel p := by simp
set_option maxHeartbeats 40000000 in
theorem verifies_law (l0 : List Int) (A0 : Option Addr) (c0 : Nat) (s : Int) (w : World) (hr : RdI w .i64 A0 l0) (hi : ∀ x ∈ l0, I64 x) (hs : I64 s) :
    Calls Tryz.prog 3 #[.slice A0 l0.length c0, .int .i64 s] w fun e w' => e = .returned (.bool true) ∧ Below w.heap.size w w' := by
  by_cases hL : l0.length ≤ 600
  · have HL := Lib.hid (show ∀ W : World, Calls Tryz.prog 5 #[.slice A0 l0.length c0] W fun e w' => e = .returned (.bool true) ∧ W = w' from fun W => by have h6 := light_any l0 A0 c0 W; rwa [decide_eq_true hL] at h6)
    have HRo := Lib.hid (roll_any l0 A0 c0 w hr (by omega) hi)
    have HM : Hid (∀ W : World, Calls Tryz.prog 9 #[.int .i64 s, .int .i64 1073741788] W fun e w' => e = .returned (.int .i64 (s % 1073741788)) ∧ W = w') := fun W => mod_any s 1073741788 (by omega) (by omega) hs W
    have Hv := Lib.hid (val_key s)
    have m0 : 0 ≤ s % 1073741788 := by omega
    have m1 : s % 1073741788 < 1073741788 := by omega
    generalize s % 1073741788 = m at HM Hv m0 m1
    clear hr hi hL hs
    go_enter Tryz.func3, Tryz.ntmps3
    go_wp2_with fail
    refine (HL.out _).mono ?_
    rintro e w0 ⟨rfl, rfl⟩
    go_wp2_with fail
    refine HRo.out.mono ?_
    rintro e w1 ⟨rfl, hdi, hb1⟩
    clear HRo HL
    have HLg : Hid (Calls Tryz.prog 8 #[.pointer (some ⟨w.heap.size, 0, none⟩), .int .i64 9] w1 (LgP 9 w.heap.size w1)) := log_any w.heap.size 9 w1 hdi (by omega)
    go_wp2_with fail
    refine HLg.out.mono ?_
    rintro e w2 ⟨l, A, c, id, tm, rfl, hlc, hLI, hF⟩
    have hb2 : Below w.heap.size w w2 := bl_gb hb1 hF.gb (Nat.le_refl _)
    have hL2 := hF.rd
    have hV := hLI.v
    have hll := hLI.len
    clear HLg hdi hb1 hF hLI
    go_wp2_with fail
    refine (HM.out _).mono ?_
    rintro e w' ⟨rfl, rfl⟩
    have HPb := Lib.hid (rpublic_yes (1 + m) Hv.out)
    have h64 := le64_V hV
    have h9 : val (1 + m) = true := Hv.out
    have HS2 : Hid (∀ W : World, RdL W A l → Calls Tryz.prog 11 #[.int .i64 (1 + m), .slice A l.length c] W (fun e w' => e = .returned (.tuple #[hev (hd1 (1 + m) l), .int .i64 0]) ∧ Below W.heap.size W w')) := fun W h => by
      have := sealed_any (1 + m) l A c W (by unfold Mw.I64; omega) h h64
      rwa [sld_ok hV h9] at this
    have d1 := hd1_i (1 + m) l
    have HC2 : Hid (∀ W : World, RdL W A l → Calls Tryz.prog 12 #[.slice A l.length c] W (CE (cur l) W)) := fun W h => by
      have := current_any l A c W h h64
      rwa [crr_0 (chk_V hV)] at this
    have HP1 : Hid (∀ (W : World) (x : Cf), x ∈ cur l → RdL W A l → Calls Tryz.prog 13 #[.slice A l.length c, .int .i64 x.i] W (PvF (pvo l x.i, 0) W)) := fun W x hx h => by
      have := proveF_any l A c x.i W (vld_i64 (cur_vld hV hx)).1 h h64
      rwa [prv_cur hV hx] at this
    have hcc := len_curN l l.length
    have HPl : Hid (∀ x : Cf, (pvo l x.i).pa.length ≤ 1000000 ∧ (pvo l x.i).sp.length ≤ 1000000) := fun x => ⟨pathE_256 _ _ (by simp; omega), pathE_256 _ _ (by rw [List.length_map]; unfold cur; omega)⟩
    have HVf : Hid (∀ (W : World) (x : Cf) (E F : Option Addr) (cE cF : Nat), x ∈ cur l → (pvo l x.i).pa.length ≤ cE → cE ≤ maxLen → RdD W E (pvo l x.i).pa → (pvo l x.i).sp.length ≤ cF → cF ≤ maxLen → RdD W F (pvo l x.i).sp → Calls Tryz.prog 14 #[.int .i64 (pw 4 (1 + m)), hev (hd1 (1 + m) l), cfv x, .agg #[.int .i64 (pvo l x.i).ix, .int .i64 (pvo l x.i).pl, .slice E (pvo l x.i).pa.length cE, .slice F (pvo l x.i).sp.length cF]] W (fun e w' => e = .returned (.int .i64 0) ∧ Below W.heap.size W w')) := fun W x E F cE cF hx h1 h2 h3 h4 h5 h6 => by
      have := verify_any (pw 4 (1 + m)) (hd1 (1 + m) l) x (pvo l x.i).ix (pvo l x.i).pl (pvo l x.i).pa (pvo l x.i).sp E F cE cF W (pw_i64 _ _) d1.1 d1.2.1 d1.2.2.1 d1.2.2.2 (HPl.out x).1 h1 h2 h3 (HPl.out x).2 h4 h5 h6
      rwa [vrf_yes hV hx h9] at this
    have HV1 : Hid (∀ (W : World) (y : Cf) (i j : Int) (pa sp : List St) (E F : Option Addr) (cE cF : Nat), Pa W E pa cE → Pa W F sp cF → Calls Tryz.prog 14 #[.int .i64 (pw 4 (1 + m)), hev (hd1 (1 + m) l), cfv y, .agg #[.int .i64 i, .int .i64 j, .slice E pa.length cE, .slice F sp.length cF]] W (fun e w' => e = .returned (.int .i64 (vrf (pw 4 (1 + m)) (hd1 (1 + m) l) y i j pa sp)) ∧ Below W.heap.size W w')) := fun W y i j pa sp E F cE cF h1 h2 =>
      verify_any (pw 4 (1 + m)) (hd1 (1 + m) l) y i j pa sp E F cE cF W (pw_i64 _ _) d1.1 d1.2.1 d1.2.2.1 d1.2.2.2 h1.1 h1.2.1 h1.2.2.1 h1.2.2.2 h2.1 h2.2.1 h2.2.2.1 h2.2.2.2
    have HV2 : Hid (∀ (W : World) (y : Cf) (i j : Int) (pa sp : List St) (E F : Option Addr) (cE cF : Nat), Pa W E pa cE → Pa W F sp cF → Calls Tryz.prog 17 #[.int .i64 (pw 4 (1 + m)), hev (hd1 (1 + m) l), cfv y, .agg #[.int .i64 i, .int .i64 j, .slice E pa.length cE, .slice F sp.length cF]] W (fun e w' => e = .returned (.int .i64 (vrf (pw 4 (1 + m)) (hd1 (1 + m) l) y i j pa sp)) ∧ Below W.heap.size W w')) := fun W y i j pa sp E F cE cF h1 h2 =>
      rvrf_any (pw 4 (1 + m)) (hd1 (1 + m) l) y i j pa sp E F cE cF W (pw_i64 _ _) d1.1 d1.2.1 d1.2.2.1 d1.2.2.2 h1.1 h1.2.1 h1.2.2.1 h1.2.2.2 h2.1 h2.2.1 h2.2.2.1 h2.2.2.2
    have HDg : Hid (∀ W : World, RdL W A l → Calls Tryz.prog 16 #[.slice A l.length c] W (DE (l.map dgE) W)) := fun W h => ldigests_any l A c W (by omega) h
    have HPt : Hid (∀ (W : World) (D : Option Addr) (cD : Nat) (i : Int), (l.map dgE).length ≤ cD → cD ≤ maxLen → RdD W D (l.map dgE) → Calls Tryz.prog 15 #[.slice D (l.map dgE).length cD, .int .i64 i] W (Tr.PE (pathE (l.map dgE) i) W)) := fun W D cD i h1 h2 h3 => rpath_any (l.map dgE) D cD i W (by simp; omega) h1 h2 h3
    have HPa : Hid (∀ i : Int, (pathE (l.map dgE) i).1.length ≤ 1000000) := fun i => pathE_256 _ _ (by simp; omega)
    have hl2 : (cur l).length ≤ 9 := by unfold cur; omega
    clear d1 hV h64 h9 hcc
    generalize pvo l = pq at HP1 HVf HPl
    generalize vrf (pw 4 (1 + m)) (hd1 (1 + m) l) = vf at HV1 HV2
    generalize hd1 (1 + m) l = H at *
    generalize cur l = c2 at *
    generalize pw 4 (1 + m) = pk at *
    generalize l.map dgE = ds at *
    go_wp2_with fail
    refine (HPb.out _).mono ?_
    rintro e w' ⟨rfl, rfl⟩
    go_wp2_with fail
    refine (HS2.out _ hL2).mono ?_
    rintro e w3 ⟨rfl, hbq⟩
    have hL3 := hL2.old hbq
    have hb3 := bl_trans hb2 hbq
    clear hL2 hb2 hbq HS2 HPb HM Hv m0 m1
    go_wp2_with fail
    have hH4 : Bk (w3.alloc (.cells (hcl H) 39)) w3.heap.size 39 (hcl H) := Mw.Bk.new _ _ _
    have hL4 := hL3.alloc (.cells (hcl H) 39)
    have hb4 := Mw.bl_alloc hb3 (.cells (hcl H) 39)
    change Calls Tryz.prog _ _ (w3.alloc (.cells (hcl H) 39)) _
    generalize w3.alloc (.cells (hcl H) 39) = w4 at *
    generalize w3.heap.size = g1 at *
    clear hL3 hb3
    refine (HC2.out _ hL4).mono ?_
    rintro e wB ⟨v, rfl, hown, hbq⟩
    obtain ⟨C1, cC1, rfl, hcC, hrC, -⟩ := own_rows cfl_len (by omega) hown
    have hHB := hH4.old hbq
    have hLB := hL4.old hbq
    have hbB := bl_trans hb4 hbq
    have HrC := Lib.hid hrC
    have HHB := Lib.hid hHB
    have HLB := Lib.hid hLB
    obtain ⟨i0, hi0, hz0, hz1, hz2⟩ := info_parts infoProof
    clear hown hbq hH4 hL4 hb4 hrC hHB hLB hcC HC2
    go_wp2_with fail
    go_loopw [13, 59] (fun v jj wv => ∃ (j : Nat) (P : List Pw), j ≤ c2.length ∧ P.length = j ∧ jj = .int .i64 j ∧ wv.ownsRow wB.heap.size 49 4 v P.length (P.flatMap pel) ∧ (∀ p ∈ P, Ok wv p ∧ Sp v p) ∧ Below wB.heap.size wB wv) (fun _ jj _ => c2.length - (RowKit.intOf jj).toNat)
    case atStart => exact ⟨0, [], by omega, rfl, rfl, World.ownsRow_nil _ _ _ _, fun p hp => (by cases hp), Below.refl _ _⟩
    case round =>
      obtain ⟨j, P, hj, hP, rfl, hown, hok, hbv⟩ := hrel
      have HP := Lib.hid hP
      have HOk := Lib.hid hok
      have hPl : P.length ≤ 9 := by omega
      clear hP hok
      by_cases hjl : j < c2.length
      · obtain ⟨b, off, rfl, hbl, e0, e1, e2, e3, e4⟩ := cf_at (HrC.out.old hbv) j hjl
        have hxm : ge c2 j ∈ c2 := ge_mem c2 j hjl
        generalize ge c2 j = x at hxm e0 e1 e2 e3 e4
        have hXa : Bk (wr.alloc (.cells #[.int .i64 x.i, .int .i64 x.c, .int .i64 x.g, .int .i64 x.t, .int .i64 x.r] 46)) wr.heap.size 46 #[.int .i64 x.i, .int .i64 x.c, .int .i64 x.g, .int .i64 x.t, .int .i64 x.r] := Mw.Bk.new _ _ _
        have hHa := (HHB.out.old hbv).alloc (.cells #[.int .i64 x.i, .int .i64 x.c, .int .i64 x.g, .int .i64 x.t, .int .i64 x.r] 46)
        have hLa := (HLB.out.old hbv).alloc (.cells #[.int .i64 x.i, .int .i64 x.c, .int .i64 x.g, .int .i64 x.t, .int .i64 x.r] 46)
        have hba := Mw.bl_alloc hbv (.cells #[.int .i64 x.i, .int .i64 x.c, .int .i64 x.g, .int .i64 x.t, .int .i64 x.r] 46)
        have hoa := hown.alloc (.cells #[.int .i64 x.i, .int .i64 x.c, .int .i64 x.g, .int .i64 x.t, .int .i64 x.r] 46)
        have HOa : Hid (∀ p ∈ P, Ok (wr.alloc (.cells #[.int .i64 x.i, .int .i64 x.c, .int .i64 x.g, .int .i64 x.t, .int .i64 x.r] 46)) p ∧ Sp u13 p) := fun p hp => ⟨(HOk.out p hp).1.old ((Below.refl _ _).alloc (Nat.le_refl _) _), (HOk.out p hp).2⟩
        have u0 : (j : Int) < c2.length := by omega
        have HP3 := Lib.hid (fun W => HP1.out W x hxm)
        have HV3 := Lib.hid (fun W E F cE cF => HVf.out W x E F cE cF hxm)
        have hpl := HPl.out x
        generalize pq x.i = Q at HP3 HV3 hpl
        clear hown HOk
        go_wp2_with fail
        change Calls Tryz.prog _ _ (wr.alloc (.cells #[.int .i64 x.i, .int .i64 x.c, .int .i64 x.g, .int .i64 x.t, .int .i64 x.r] 46)) _
        generalize wr.alloc (.cells #[.int .i64 x.i, .int .i64 x.c, .int .i64 x.g, .int .i64 x.t, .int .i64 x.r] 46) = wa at *
        generalize wr.heap.size = xb at *
        clear e0 e1 e2 e3 e4 hbl hbv
        refine (HP3.out _ hLa).mono ?_
        rintro e wc ⟨E, cE, F, cF, rfl, hcE, hmE, hrE, hcF, hmF, hrF, hbq, hfE, hfF⟩
        have hXc := hXa.old hbq
        have hHc := hHa.old hbq
        have hbc := bl_trans hba hbq
        have hoc := own_olB hoa hbq
        have HOc : Hid (∀ p ∈ P, Ok wc p ∧ Sp u13 p) := fun p hp => ⟨(HOa.out p hp).1.old hbq, (HOa.out p hp).2⟩
        have HQs : Hid (Sp u13 ⟨Q.ix, Q.pl, Q.pa, Q.sp, E, cE, F, cF⟩) := ⟨sep_new hoa hfE, sep_new hoa hfF⟩
        clear hXa hHa hLa hba hoa HOa hfE hfF hbq HP3
        go_upto_region 16 with fail
        have hQ : Bk (wc.alloc (.cells #[.int .i64 Q.ix, .int .i64 Q.pl, .slice E Q.pa.length cE, .slice F Q.sp.length cF] 49)) wc.heap.size 49 #[.int .i64 Q.ix, .int .i64 Q.pl, .slice E Q.pa.length cE, .slice F Q.sp.length cF] := Mw.Bk.new _ _ _
        have hXd := hXc.alloc (.cells #[.int .i64 Q.ix, .int .i64 Q.pl, .slice E Q.pa.length cE, .slice F Q.sp.length cF] 49)
        have hHd := hHc.alloc (.cells #[.int .i64 Q.ix, .int .i64 Q.pl, .slice E Q.pa.length cE, .slice F Q.sp.length cF] 49)
        have hrEd := RdD.alloc hrE (.cells #[.int .i64 Q.ix, .int .i64 Q.pl, .slice E Q.pa.length cE, .slice F Q.sp.length cF] 49)
        have hrFd := RdD.alloc hrF (.cells #[.int .i64 Q.ix, .int .i64 Q.pl, .slice E Q.pa.length cE, .slice F Q.sp.length cF] 49)
        have hbd := Mw.bl_alloc hbc (.cells #[.int .i64 Q.ix, .int .i64 Q.pl, .slice E Q.pa.length cE, .slice F Q.sp.length cF] 49)
        have hod := hoc.alloc (.cells #[.int .i64 Q.ix, .int .i64 Q.pl, .slice E Q.pa.length cE, .slice F Q.sp.length cF] 49)
        have HOd : Hid (∀ p ∈ P, Ok (wc.alloc (.cells #[.int .i64 Q.ix, .int .i64 Q.pl, .slice E Q.pa.length cE, .slice F Q.sp.length cF] 49)) p ∧ Sp u13 p) := fun p hp => ⟨(HOc.out p hp).1.old ((Below.refl _ _).alloc (Nat.le_refl _) _), (HOc.out p hp).2⟩
        clear hXc hHc hrE hrF hbc hoc HOc
        generalize wc.alloc (.cells #[.int .i64 Q.ix, .int .i64 Q.pl, .slice E Q.pa.length cE, .slice F Q.sp.length cF] 49) = wd at *
        generalize wc.heap.size = qb at *
        have x0 := hXd.cell 0
        have x1 := hXd.cell 1
        have x2 := hXd.cell 2
        have x3 := hXd.cell 3
        have x4 := hXd.cell 4
        have xl := hXd.lt
        have p0 := hQ.cell 0
        have p1 := hQ.cell 1
        have p2 := hQ.cell 2
        have p3 := hQ.cell 3
        have pl := hQ.lt
        have y0 : wd.cell? ⟨g1, 0, none⟩ = some (.int .i64 H.n) := hHd.cell 0
        have y1 : wd.cell? ⟨g1, 1, none⟩ = some (.int .i64 H.c) := hHd.cell 1
        have y2 : wd.cell? ⟨g1, 2, none⟩ = some (.int .u32 H.r.1) := hHd.cell 2
        have y3 : wd.cell? ⟨g1, 3, none⟩ = some (.int .u32 H.r.2.1) := hHd.cell 3
        have y4 : wd.cell? ⟨g1, 4, none⟩ = some (.int .u32 H.r.2.2.1) := hHd.cell 4
        have y5 : wd.cell? ⟨g1, 5, none⟩ = some (.int .u32 H.r.2.2.2) := hHd.cell 5
        have y6 : wd.cell? ⟨g1, 6, none⟩ = some (.int .u32 H.l.1) := hHd.cell 6
        have y7 : wd.cell? ⟨g1, 7, none⟩ = some (.int .u32 H.l.2.1) := hHd.cell 7
        have y8 : wd.cell? ⟨g1, 8, none⟩ = some (.int .u32 H.l.2.2.1) := hHd.cell 8
        have y9 : wd.cell? ⟨g1, 9, none⟩ = some (.int .u32 H.l.2.2.2) := hHd.cell 9
        have ya : wd.cell? ⟨g1, 10, none⟩ = some (.int .i64 H.R) := hHd.cell 10
        have yb : wd.cell? ⟨g1, 11, none⟩ = some (.int .i64 H.S) := hHd.cell 11
        have yl := hHd.lt
        go_wp2_with fail
        refine (HV3.out _ E F cE cF hcE hmE hrEd hcF hmF hrFd).mono ?_
        rintro e we ⟨rfl, hbq⟩
        have hQe := hQ.old hbq
        have hbe := bl_trans hbd hbq
        have hoe := own_olB hod hbq
        have HOe : Hid (∀ p ∈ P, Ok we p ∧ Sp u13 p) := fun p hp => ⟨(HOd.out p hp).1.old hbq, (HOd.out p hp).2⟩
        have hQo : Hid (Ok we ⟨Q.ix, Q.pl, Q.pa, Q.sp, E, cE, F, cF⟩) := ⟨⟨hpl.1, hcE, hmE, hrEd.old hbq⟩, ⟨hpl.2, hcF, hmF, hrFd.old hbq⟩⟩
        clear x0 x1 x2 x3 x4 xl p0 p1 p2 p3 pl
        clear y0 y1 y2 y3 y4 y5 y6 y7 y8 y9 ya yb yl
        clear hQ hXd hHd hbd hbq hod HOd hrEd hrFd hcE hmE hcF hmF HV3 hpl
        have p0 := hQe.cell 0
        have p1 := hQe.cell 1
        have p2 := hQe.cell 2
        have p3 := hQe.cell 3
        have pl := hQe.lt
        clear hQe
        generalize hq : (⟨Q.ix, Q.pl, Q.pa, Q.sp, E, cE, F, cF⟩ : Pw) = q at HQs hQo
        have Hq := Lib.hid hq
        clear hq
        go_wp2_with (at_builtin; refine wpList_append_own_at _ rfl _ _ 44 rfl wB.heap.size 49 i0 (.agg #[.int .i64 0, .int .i64 0, .slice none 0 0, .slice none 0 0]) 4 64 Tryz.underlying44 hi0 hz0 hz1 hz2 rfl (by decide) _ _ _ rfl (hoe.alloc _) ⟨we.heap.size, 0, none⟩ 1 1 (pel q) rfl rfl ?c1 ?c2 ?c3 ?c4 ?c5 ?_)
        case c1 => exact news_pv q (by rw [← Hq.out]; exact Mw.Bk.new _ _ _)
        case c2 => exact one_pv _
        case c3 => simp only [maxLen]; omega
        case c4 => omega
        case c5 => have := hbe.size; simp; omega
        intro v' wf hof hgrow _ hat
        have hro : ∀ j, Value.ownBlock _ = some j → wB.heap.size ≤ j := fun j hj => (hoe.lt j hj).1
        have hbf : Below wB.heap.size wB wf := Below.grown (Mw.bl_alloc hbe _) hgrow (by have := hbe.size; simp; omega) hro
        have HOf : Hid (∀ p ∈ P ++ [q], Ok wf p ∧ Sp v' p) := fun p hp => by
          have h1 : Ok we p ∧ Sp u13 p := by
            rcases List.mem_append.1 hp with h | h
            · exact HOe.out p h
            · rw [List.mem_singleton.1 h]; exact ⟨hQo.out, HQs.out⟩
          have h2 := h1.1.old ((Below.refl _ we).alloc (Nat.le_refl _) (.cells #[.int .i64 Q.ix, .int .i64 Q.pl, .slice E Q.pa.length cE, .slice F Q.sp.length cF] 49))
          exact ⟨h2.grown hgrow h1.2, h1.2.fresh h2 (by simpa using hat)⟩
        have Hof : Hid (wf.ownsRow wB.heap.size 49 4 v' (P ++ [q]).length ((P ++ [q]).flatMap pel)) := by
          rw [flat_snoc, List.length_append]
          exact hof
        clear p0 p1 p2 p3 pl hof hgrow hat hro hoe hbe HOe hQo HQs Hq
        go_wp2_with fail
        go_roundw
        case rel => exact ⟨j + 1, P ++ [q], by omega, by have := HP.out; simp; omega, by go_num, Hof.out, HOf.out, hbf⟩
        case measure => simp [RowKit.intOf]; omega
      · obtain ⟨AP, cP, rfl, hcP, hrP, -⟩ := own_rows pel_len (by omega) hown
        have HrP := Lib.hid hrP
        have HHC := Lib.hid (HHB.out.old hbv)
        have HLC := Lib.hid (HLB.out.old hbv)
        have HrD := Lib.hid (HrC.out.old hbv)
        have HOC : Hid (∀ p ∈ P, Ok wr p) := fun p hp => (HOk.out p hp).1
        have hbC := bl_trans hbB hbv
        obtain ⟨wC, rfl⟩ : ∃ wo, wo = wr := ⟨_, rfl⟩
        have u0 : ¬ (j : Int) < c2.length := by omega
        clear hown hrP hbv hbB HHB HLB HrC HOk HP hcP
        go_wp2_with fail
        clear u0 hj hjl
        go_loopw [87] (fun ii wv => ∃ i : Nat, i ≤ l.length ∧ ii = .int .i64 i ∧ Below wC.heap.size wC wv) (fun ii _ => l.length - (RowKit.intOf ii).toNat)
        case atStart => exact ⟨0, by omega, rfl, Below.refl _ _⟩
        case round =>
          obtain ⟨i, hi, rfl, hbv⟩ := hrel
          by_cases hil : i < l.length
          · obtain ⟨b, off, rfl, hbl, e0, e1, e2, e3, e4, e5⟩ := le_at (HLC.out.old hbv) i hil
            generalize ge l i = x at e0 e1 e2 e3 e4 e5
            have u1 : (i : Int) < l.length := by omega
            have hXa : Bk (wr.alloc (.cells #[.int .i64 x.k, .int .i64 x.f.i, .int .i64 x.f.c, .int .i64 x.f.g, .int .i64 x.f.t, .int .i64 x.f.r] 54)) wr.heap.size 54 #[.int .i64 x.k, .int .i64 x.f.i, .int .i64 x.f.c, .int .i64 x.f.g, .int .i64 x.f.t, .int .i64 x.f.r] := Mw.Bk.new _ _ _
            have hba := Mw.bl_alloc hbv (.cells #[.int .i64 x.k, .int .i64 x.f.i, .int .i64 x.f.c, .int .i64 x.f.g, .int .i64 x.f.t, .int .i64 x.f.r] 54)
            go_upto_region 23 with fail
            clear e0 e1 e2 e3 e4 e5 hbl hbv
            generalize wr.alloc (.cells #[.int .i64 x.k, .int .i64 x.f.i, .int .i64 x.f.c, .int .i64 x.f.g, .int .i64 x.f.t, .int .i64 x.f.r] 54) = wa at *
            generalize wr.heap.size = xb at *
            have x0 := hXa.cell 0
            have xl := hXa.lt
            by_cases hk : x.k = 0
            · have z0 : (x.k != 0) = false := by rw [hk]; rfl
              have HXa := Lib.hid hXa
              clear hk
              go_wp2_with fail
              clear x0 xl z0 hXa
              go_loopw [20, 96] (fun st ii wv => ∃ (i : Nat), i ≤ c2.length ∧ ii = .int .i64 i ∧ st = .bool (decide (x.f ∈ c2.take i)) ∧ Below wa.heap.size wa wv) (fun _ ii _ => c2.length - (RowKit.intOf ii).toNat)
              case atStart => exact ⟨0, by omega, rfl, by simp, Below.refl _ _⟩
              case round =>
                obtain ⟨n, hn2, rfl, rfl, hbh⟩ := hrel
                have hXh := HXa.out.old hbh
                have x0 := hXh.cell 0
                have x1 := hXh.cell 1
                have x2 := hXh.cell 2
                have x3 := hXh.cell 3
                have x4 := hXh.cell 4
                have x5 := hXh.cell 5
                have xl := hXh.lt
                by_cases hnl : n < c2.length
                · obtain ⟨b5, off5, rfl, hbl5, e0, e1, e2, e3, e4⟩ := cf_at (HrD.out.old (bl_trans hba hbh)) n hnl
                  have u2 : (n : Int) < c2.length := by omega
                  cases hst : decide (x.f ∈ c2.take n)
                  · by_cases q0 : (ge c2 n).i = x.f.i
                    · by_cases q1 : (ge c2 n).c = x.f.c
                      · by_cases q2 : (ge c2 n).g = x.f.g
                        · by_cases q3 : (ge c2 n).t = x.f.t
                          · by_cases q4 : (ge c2 n).r = x.f.r
                            · have hyx : ge c2 n = x.f := by
                                generalize ge c2 n = y at *
                                obtain ⟨a0, a1, a2, a3, a4⟩ := y
                                obtain ⟨kk, ⟨b0, b1, b2, b3, b4⟩⟩ := x
                                simp only at q0 q1 q2 q3 q4
                                subst q0 q1 q2 q3 q4
                                rfl
                              have H : Hid (decide (x.f ∈ c2.take (n + 1)) = true) := decide_eq_true ((mem_take_succ hnl).2 (.inr hyx.symm))
                              have s0 : ((ge c2 n).i == x.f.i) = true := beq_iff_eq.2 q0
                              have s1 : ((ge c2 n).c == x.f.c) = true := beq_iff_eq.2 q1
                              have s2 : ((ge c2 n).g == x.f.g) = true := beq_iff_eq.2 q2
                              have s3 : ((ge c2 n).t == x.f.t) = true := beq_iff_eq.2 q3
                              have s4 : ((ge c2 n).r == x.f.r) = true := beq_iff_eq.2 q4
                              clear hyx q0 q1 q2 q3 q4 hst
                              go_wp2_with fail
                              clear x0 x1 x2 x3 x4 x5 xl
                              go_roundw
                              case rel => exact ⟨n + 1, by omega, by go_num, by rw [H.out] <;> rfl, by (repeat (first | with_reducible exact Below.refl _ _ | with_reducible refine bl_drewN ?_ _ | with_reducible refine Below.drew ?_ | with_reducible refine bl_alloc ?_ _ | with_reducible refine Below.alloc ?_ (by first | omega | (simp; done) | (simp; omega)) _ | with_reducible refine Below.setCell ?_ (by first | omega | (simp; done) | (simp; omega)) _ | with_reducible assumption))⟩
                              case measure => simp [RowKit.intOf]; omega
                            · have H : Hid (decide (x.f ∈ c2.take (n + 1)) = false) := decide_eq_false (fun hx => by
                                rcases (mem_take_succ hnl).1 hx with h | h
                                · exact of_decide_eq_false hst h
                                · exact q4 (by rw [h]))
                              have s0 : ((ge c2 n).i == x.f.i) = true := beq_iff_eq.2 q0
                              have s1 : ((ge c2 n).c == x.f.c) = true := beq_iff_eq.2 q1
                              have s2 : ((ge c2 n).g == x.f.g) = true := beq_iff_eq.2 q2
                              have s3 : ((ge c2 n).t == x.f.t) = true := beq_iff_eq.2 q3
                              have s4 : ((ge c2 n).r == x.f.r) = false := beq_eq_false_iff_ne.2 q4
                              clear q0 q1 q2 q3 q4 hst
                              go_wp2_with fail
                              clear x0 x1 x2 x3 x4 x5 xl
                              go_roundw
                              case rel => exact ⟨n + 1, by omega, by go_num, by rw [H.out] <;> rfl, by (repeat (first | with_reducible exact Below.refl _ _ | with_reducible refine bl_drewN ?_ _ | with_reducible refine Below.drew ?_ | with_reducible refine bl_alloc ?_ _ | with_reducible refine Below.alloc ?_ (by first | omega | (simp; done) | (simp; omega)) _ | with_reducible refine Below.setCell ?_ (by first | omega | (simp; done) | (simp; omega)) _ | with_reducible assumption))⟩
                              case measure => simp [RowKit.intOf]; omega
                          · have H : Hid (decide (x.f ∈ c2.take (n + 1)) = false) := decide_eq_false (fun hx => by
                              rcases (mem_take_succ hnl).1 hx with h | h
                              · exact of_decide_eq_false hst h
                              · exact q3 (by rw [h]))
                            have s0 : ((ge c2 n).i == x.f.i) = true := beq_iff_eq.2 q0
                            have s1 : ((ge c2 n).c == x.f.c) = true := beq_iff_eq.2 q1
                            have s2 : ((ge c2 n).g == x.f.g) = true := beq_iff_eq.2 q2
                            have s3 : ((ge c2 n).t == x.f.t) = false := beq_eq_false_iff_ne.2 q3
                            clear q0 q1 q2 q3 hst
                            go_wp2_with fail
                            clear x0 x1 x2 x3 x4 x5 xl
                            go_roundw
                            case rel => exact ⟨n + 1, by omega, by go_num, by rw [H.out] <;> rfl, by (repeat (first | with_reducible exact Below.refl _ _ | with_reducible refine bl_drewN ?_ _ | with_reducible refine Below.drew ?_ | with_reducible refine bl_alloc ?_ _ | with_reducible refine Below.alloc ?_ (by first | omega | (simp; done) | (simp; omega)) _ | with_reducible refine Below.setCell ?_ (by first | omega | (simp; done) | (simp; omega)) _ | with_reducible assumption))⟩
                            case measure => simp [RowKit.intOf]; omega
                        · have H : Hid (decide (x.f ∈ c2.take (n + 1)) = false) := decide_eq_false (fun hx => by
                            rcases (mem_take_succ hnl).1 hx with h | h
                            · exact of_decide_eq_false hst h
                            · exact q2 (by rw [h]))
                          have s0 : ((ge c2 n).i == x.f.i) = true := beq_iff_eq.2 q0
                          have s1 : ((ge c2 n).c == x.f.c) = true := beq_iff_eq.2 q1
                          have s2 : ((ge c2 n).g == x.f.g) = false := beq_eq_false_iff_ne.2 q2
                          clear q0 q1 q2 hst
                          go_wp2_with fail
                          clear x0 x1 x2 x3 x4 x5 xl
                          go_roundw
                          case rel => exact ⟨n + 1, by omega, by go_num, by rw [H.out] <;> rfl, by (repeat (first | with_reducible exact Below.refl _ _ | with_reducible refine bl_drewN ?_ _ | with_reducible refine Below.drew ?_ | with_reducible refine bl_alloc ?_ _ | with_reducible refine Below.alloc ?_ (by first | omega | (simp; done) | (simp; omega)) _ | with_reducible refine Below.setCell ?_ (by first | omega | (simp; done) | (simp; omega)) _ | with_reducible assumption))⟩
                          case measure => simp [RowKit.intOf]; omega
                      · have H : Hid (decide (x.f ∈ c2.take (n + 1)) = false) := decide_eq_false (fun hx => by
                          rcases (mem_take_succ hnl).1 hx with h | h
                          · exact of_decide_eq_false hst h
                          · exact q1 (by rw [h]))
                        have s0 : ((ge c2 n).i == x.f.i) = true := beq_iff_eq.2 q0
                        have s1 : ((ge c2 n).c == x.f.c) = false := beq_eq_false_iff_ne.2 q1
                        clear q0 q1 hst
                        go_wp2_with fail
                        clear x0 x1 x2 x3 x4 x5 xl
                        go_roundw
                        case rel => exact ⟨n + 1, by omega, by go_num, by rw [H.out] <;> rfl, by (repeat (first | with_reducible exact Below.refl _ _ | with_reducible refine bl_drewN ?_ _ | with_reducible refine Below.drew ?_ | with_reducible refine bl_alloc ?_ _ | with_reducible refine Below.alloc ?_ (by first | omega | (simp; done) | (simp; omega)) _ | with_reducible refine Below.setCell ?_ (by first | omega | (simp; done) | (simp; omega)) _ | with_reducible assumption))⟩
                        case measure => simp [RowKit.intOf]; omega
                    · have H : Hid (decide (x.f ∈ c2.take (n + 1)) = false) := decide_eq_false (fun hx => by
                        rcases (mem_take_succ hnl).1 hx with h | h
                        · exact of_decide_eq_false hst h
                        · exact q0 (by rw [h]))
                      have s0 : ((ge c2 n).i == x.f.i) = false := beq_eq_false_iff_ne.2 q0
                      clear q0 hst
                      go_wp2_with fail
                      clear x0 x1 x2 x3 x4 x5 xl
                      go_roundw
                      case rel => exact ⟨n + 1, by omega, by go_num, by rw [H.out] <;> rfl, by (repeat (first | with_reducible exact Below.refl _ _ | with_reducible refine bl_drewN ?_ _ | with_reducible refine Below.drew ?_ | with_reducible refine bl_alloc ?_ _ | with_reducible refine Below.alloc ?_ (by first | omega | (simp; done) | (simp; omega)) _ | with_reducible refine Below.setCell ?_ (by first | omega | (simp; done) | (simp; omega)) _ | with_reducible assumption))⟩
                      case measure => simp [RowKit.intOf]; omega
                  · have H : Hid (decide (x.f ∈ c2.take (n + 1)) = true) := decide_eq_true ((mem_take_succ hnl).2 (.inl (of_decide_eq_true hst)))
                    clear hst
                    go_wp2_with fail
                    clear x0 x1 x2 x3 x4 x5 xl
                    go_roundw
                    case rel => exact ⟨n + 1, by omega, by go_num, by rw [H.out] <;> rfl, by (repeat (first | with_reducible exact Below.refl _ _ | with_reducible refine bl_drewN ?_ _ | with_reducible refine Below.drew ?_ | with_reducible refine bl_alloc ?_ _ | with_reducible refine Below.alloc ?_ (by first | omega | (simp; done) | (simp; omega)) _ | with_reducible refine Below.setCell ?_ (by first | omega | (simp; done) | (simp; omega)) _ | with_reducible assumption))⟩
                    case measure => simp [RowKit.intOf]; omega
                · have u2 : ¬ (n : Int) < c2.length := by omega
                  have HXg := Lib.hid hXh
                  have hbg := bl_trans hba hbh
                  generalize decide (x.f ∈ c2.take n) = isc at *
                  obtain ⟨wG, rfl⟩ : ∃ wo, wo = wr := ⟨_, rfl⟩
                  clear hn2 hnl hbh hXh x0 x1 x2 x3 x4 x5 xl hba
                  go_wp2_with fail
                  clear u2
                  go_loopw [110] (fun jj wv => ∃ j : Nat, j ≤ P.length ∧ jj = .int .i64 j ∧ Below wG.heap.size wG wv) (fun jj _ => P.length - (RowKit.intOf jj).toNat)
                  case atStart => exact ⟨0, by omega, rfl, Below.refl _ _⟩
                  case round =>
                    obtain ⟨j, hj, rfl, hbj⟩ := hrel
                    by_cases hjl : j < P.length
                    · have hbJ := bl_trans hbg hbj
                      obtain ⟨b6, off6, rfl, hbl6, e0, e1, e2, e3⟩ := pv_at (HrP.out.old hbJ) j hjl
                      have hpk := (HOC.out _ (ge_mem P j hjl)).old hbJ
                      have hjP : (j : Int) < P.length := by omega
                      generalize ge P j = p at hpk e0 e1 e2 e3
                      have hpk2 := (hpk.old ((Below.refl _ _).alloc (Nat.le_refl _) (.cells #[.int .i64 p.ix, .int .i64 p.pl, .slice p.A p.pa.length p.ca, .slice p.B p.sp.length p.cb] 49))).old ((Below.refl _ _).alloc (Nat.le_refl _) (.cells #[.int .i64 p.ix, .int .i64 p.pl, .slice p.A p.pa.length p.ca, .slice p.B p.sp.length p.cb] 49))
                      have hQ2 : Bk ((wr.alloc (.cells #[.int .i64 p.ix, .int .i64 p.pl, .slice p.A p.pa.length p.ca, .slice p.B p.sp.length p.cb] 49)).alloc (.cells #[.int .i64 p.ix, .int .i64 p.pl, .slice p.A p.pa.length p.ca, .slice p.B p.sp.length p.cb] 49)) (wr.heap.size + 1) 49 #[.int .i64 p.ix, .int .i64 p.pl, .slice p.A p.pa.length p.ca, .slice p.B p.sp.length p.cb] := Mw.Bk.new' (by simp)
                      have hbL := Mw.bl_alloc (Mw.bl_alloc hbj (.cells #[.int .i64 p.ix, .int .i64 p.pl, .slice p.A p.pa.length p.ca, .slice p.B p.sp.length p.cb] 49)) (.cells #[.int .i64 p.ix, .int .i64 p.pl, .slice p.A p.pa.length p.ca, .slice p.B p.sp.length p.cb] 49)
                      have hqs : wG.heap.size ≤ wr.heap.size + 1 := Nat.le_succ_of_le hbj.size
                      go_upto_region 34 with fail
                      clear e0 e1 e2 e3 hbl6 hpk hbj hbJ
                      generalize (wr.alloc (.cells #[.int .i64 p.ix, .int .i64 p.pl, .slice p.A p.pa.length p.ca, .slice p.B p.sp.length p.cb] 49)).alloc (.cells #[.int .i64 p.ix, .int .i64 p.pl, .slice p.A p.pa.length p.ca, .slice p.B p.sp.length p.cb] 49) = wL at *
                      generalize wr.heap.size + 1 = qb at *
                      go_wp2_with fail
                      go_loopw [117] (fun ii wv => ∃ (i : Nat) (ix : Int) (pa : List St) (E : Option Addr) (cE : Nat), i ≤ l.length ∧ ii = .int .i64 i ∧ Bk wv qb 49 #[.int .i64 ix, .int .i64 p.pl, .slice E pa.length cE, .slice p.B p.sp.length p.cb] ∧ Pa wv E pa cE ∧ Pa wv p.B p.sp p.cb ∧ Below wG.heap.size wG wv) (fun ii _ => l.length - (RowKit.intOf ii).toNat)
                      case atStart => exact ⟨0, p.ix, p.pa, p.A, p.ca, by omega, rfl, hQ2, hpk2.a, hpk2.b, hbL⟩
                      case round =>
                        clear hQ2 hpk2 hbL
                        obtain ⟨k, ix, pa, E, cE, hk2, rfl, hQk, hPE, hPF, hbk⟩ := hrel
                        have hXk := HXg.out.old hbk
                        have hbK := bl_trans hbg hbk
                        have x0 := hXk.cell 0
                        have x1 := hXk.cell 1
                        have x2 := hXk.cell 2
                        have x3 := hXk.cell 3
                        have x4 := hXk.cell 4
                        have x5 := hXk.cell 5
                        have xl := hXk.lt
                        by_cases hkl : k < l.length
                        · obtain ⟨b7, off7, e7, hbl7, e0, e1, e2, e3, e4, e5⟩ := le_at (HLC.out.old hbK) k hkl
                          simp only [Option.some.injEq, Addr.mk.injEq, and_true] at e7
                          obtain ⟨rfl, rfl⟩ := e7
                          have u3 : (k : Int) < l.length := by omega
                          have u4 : (0 : Int) ≤ (k : Int) := by omega
                          have ql := hQk.lt
                          have qf := fun o => hQk.frozen o
                          have q0' := hQk.cell 0
                          have q2' := hQk.cell 2
                          by_cases q0 : (ge l k).k = x.k
                          · by_cases q1 : (ge l k).f.i = x.f.i
                            · by_cases q2 : (ge l k).f.c = x.f.c
                              · by_cases q3 : (ge l k).f.g = x.f.g
                                · by_cases q4 : (ge l k).f.t = x.f.t
                                  · by_cases q5 : (ge l k).f.r = x.f.r
                                    · have s0 : ((ge l k).k == x.k) = true := beq_iff_eq.2 q0
                                      have s1 : ((ge l k).f.i == x.f.i) = true := beq_iff_eq.2 q1
                                      have s2 : ((ge l k).f.c == x.f.c) = true := beq_iff_eq.2 q2
                                      have s3 : ((ge l k).f.g == x.f.g) = true := beq_iff_eq.2 q3
                                      have s4 : ((ge l k).f.t == x.f.t) = true := beq_iff_eq.2 q4
                                      have s5 : ((ge l k).f.r == x.f.r) = true := beq_iff_eq.2 q5
                                      clear q0 q1 q2 q3 q4 q5
                                      go_wp2_with fail
                                      refine Mm.region_ext (by kernel_rfl) (by kernel_rfl) ?_; (repeat (first | go_big_quiet_step (fail) | quiet_step (fail))); refine wpQuiet_nil ?_
                                      intro w5 hb5
                                      have hQ5 := hQk.old hb5
                                      have hE5 := hPE.old hb5
                                      have hF5 := hPF.old hb5
                                      have hb6 := bl_trans hbk hb5
                                      have ql5 := hQ5.lt
                                      have qf5 := fun o => hQ5.frozen o
                                      have t0 := hQ5.cell 0
                                      clear e0 e1 e2 e3 e4 e5 x0 x1 x2 x3 x4 x5 xl hXk hQk hPE hPF hbk hb5 ql qf q0' q2' hbl7
                                      have hL6 := (HLC.out.old (bl_trans hbg hb6))
                                      have hQ6 := hQ5.set 0 (.int .i64 (k : Int))
                                      simp only [List.setIfInBounds_toArray, List.set_cons_zero, List.set_cons_succ] at hQ6
                                      have hE6 : Pa (w5.setCell ⟨qb, 0, none⟩ (.int .i64 (k : Int))) E pa cE := ⟨hE5.1, hE5.2.1, hE5.2.2.1, rdd_pf hQ5 (nou _ _ _ _ _ _ _ _) hE5.2.2.2 0 _⟩
                                      have hF6 : Pa (w5.setCell ⟨qb, 0, none⟩ (.int .i64 (k : Int))) p.B p.sp p.cb := ⟨hF5.1, hF5.2.1, hF5.2.2.1, rdd_pf hQ5 (nou _ _ _ _ _ _ _ _) hF5.2.2.2 0 _⟩
                                      have hb7 : Below wG.heap.size wG (w5.setCell ⟨qb, 0, none⟩ (.int .i64 (k : Int))) := hb6.setCell (p := ⟨qb, 0, none⟩) hqs _
                                      have hL7 := HLC.out.old (bl_trans hbg hb7)
                                      go_wp2_with fail
                                      clear t0 hQ5 hE5 hF5 ql5 qf5 hL6 hb6
                                      generalize w5.setCell ⟨qb, 0, none⟩ (.int .i64 (k : Int)) = w6 at *
                                      refine (HDg.out _ hL7).mono ?_
                                      rintro e w7 ⟨D, cD, rfl, hcD, hmD, hrD, hb8⟩
                                      have hQ7 := hQ6.old hb8
                                      have hF7 := hF6.old hb8
                                      have hb9 := bl_trans hb7 hb8
                                      clear hQ6 hE6 hF6 hb7 hL7 hb8
                                      go_wp2_with fail
                                      refine (HPt.out _ D cD (k : Int) hcD hmD hrD).mono ?_
                                      rintro e w8 ⟨G, cG, rfl, hcG, hmG, hrG, hb8⟩
                                      have hGl := HPa.out (k : Int)
                                      generalize (pathE ds (k : Int)).1 = pz at hcG hrG hGl
                                      have hQ8 := hQ7.old hb8
                                      have hF8 := hF7.old hb8
                                      have hba9 := bl_trans hb9 hb8
                                      have ql8 := hQ8.lt
                                      have qf8 := fun o => hQ8.frozen o
                                      have t2 := hQ8.cell 2
                                      have hQ9 := hQ8.set 2 (.slice G pz.length cG)
                                      simp only [List.setIfInBounds_toArray, List.set_cons_zero, List.set_cons_succ] at hQ9
                                      have hG9 : Pa (w8.setCell ⟨qb, 2, none⟩ (.slice G pz.length cG)) G pz cG := ⟨hGl, hcG, hmG, rdd_pf hQ8 (nou _ _ _ _ _ _ _ _) hrG 2 _⟩
                                      have hF9 : Pa (w8.setCell ⟨qb, 2, none⟩ (.slice G pz.length cG)) p.B p.sp p.cb := ⟨hF8.1, hF8.2.1, hF8.2.2.1, rdd_pf hQ8 (nou _ _ _ _ _ _ _ _) hF8.2.2.2 2 _⟩
                                      have hbz : Below wG.heap.size wG (w8.setCell ⟨qb, 2, none⟩ (.slice G pz.length cG)) := hba9.setCell (p := ⟨qb, 2, none⟩) hqs _
                                      clear hQ7 hF7 hb9 hb8 hcD hmD hrD hQ8 hF8 hba9 hcG hmG hrG
                                      go_wp2_with fail
                                      clear ql8 qf8 t2
                                      go_roundw
                                      case rel => exact ⟨k + 1, k, pz, G, cG, by omega, by go_num, hQ9, hG9, hF9, hbz⟩
                                      case measure => simp [RowKit.intOf]; omega
                                    · have s0 : ((ge l k).k == x.k) = true := beq_iff_eq.2 q0
                                      have s1 : ((ge l k).f.i == x.f.i) = true := beq_iff_eq.2 q1
                                      have s2 : ((ge l k).f.c == x.f.c) = true := beq_iff_eq.2 q2
                                      have s3 : ((ge l k).f.g == x.f.g) = true := beq_iff_eq.2 q3
                                      have s4 : ((ge l k).f.t == x.f.t) = true := beq_iff_eq.2 q4
                                      have s5 : ((ge l k).f.r == x.f.r) = false := beq_eq_false_iff_ne.2 q5
                                      clear q0 q1 q2 q3 q4 q5
                                      go_wp2_with fail
                                      refine Mm.region_ext (by kernel_rfl) (by kernel_rfl) ?_; (repeat (first | go_big_quiet_step (fail) | quiet_step (fail))); refine wpQuiet_nil ?_
                                      intro w5 hb5
                                      have hQ5 := hQk.old hb5
                                      have hE5 := hPE.old hb5
                                      have hF5 := hPF.old hb5
                                      have hb6 := bl_trans hbk hb5
                                      clear e0 e1 e2 e3 e4 e5 x0 x1 x2 x3 x4 x5 xl hXk hQk hPE hPF hbk hb5 ql qf q0' q2' hbl7
                                      go_wp2_with fail
                                      go_roundw
                                      case rel => exact ⟨k + 1, ix, pa, E, cE, by omega, by go_num, hQ5, hE5, hF5, hb6⟩
                                      case measure => simp [RowKit.intOf]; omega
                                  · have s0 : ((ge l k).k == x.k) = true := beq_iff_eq.2 q0
                                    have s1 : ((ge l k).f.i == x.f.i) = true := beq_iff_eq.2 q1
                                    have s2 : ((ge l k).f.c == x.f.c) = true := beq_iff_eq.2 q2
                                    have s3 : ((ge l k).f.g == x.f.g) = true := beq_iff_eq.2 q3
                                    have s4 : ((ge l k).f.t == x.f.t) = false := beq_eq_false_iff_ne.2 q4
                                    clear q0 q1 q2 q3 q4
                                    go_wp2_with fail
                                    refine Mm.region_ext (by kernel_rfl) (by kernel_rfl) ?_; (repeat (first | go_big_quiet_step (fail) | quiet_step (fail))); refine wpQuiet_nil ?_
                                    intro w5 hb5
                                    have hQ5 := hQk.old hb5
                                    have hE5 := hPE.old hb5
                                    have hF5 := hPF.old hb5
                                    have hb6 := bl_trans hbk hb5
                                    clear e0 e1 e2 e3 e4 e5 x0 x1 x2 x3 x4 x5 xl hXk hQk hPE hPF hbk hb5 ql qf q0' q2' hbl7
                                    go_wp2_with fail
                                    go_roundw
                                    case rel => exact ⟨k + 1, ix, pa, E, cE, by omega, by go_num, hQ5, hE5, hF5, hb6⟩
                                    case measure => simp [RowKit.intOf]; omega
                                · have s0 : ((ge l k).k == x.k) = true := beq_iff_eq.2 q0
                                  have s1 : ((ge l k).f.i == x.f.i) = true := beq_iff_eq.2 q1
                                  have s2 : ((ge l k).f.c == x.f.c) = true := beq_iff_eq.2 q2
                                  have s3 : ((ge l k).f.g == x.f.g) = false := beq_eq_false_iff_ne.2 q3
                                  clear q0 q1 q2 q3
                                  go_wp2_with fail
                                  refine Mm.region_ext (by kernel_rfl) (by kernel_rfl) ?_; (repeat (first | go_big_quiet_step (fail) | quiet_step (fail))); refine wpQuiet_nil ?_
                                  intro w5 hb5
                                  have hQ5 := hQk.old hb5
                                  have hE5 := hPE.old hb5
                                  have hF5 := hPF.old hb5
                                  have hb6 := bl_trans hbk hb5
                                  clear e0 e1 e2 e3 e4 e5 x0 x1 x2 x3 x4 x5 xl hXk hQk hPE hPF hbk hb5 ql qf q0' q2' hbl7
                                  go_wp2_with fail
                                  go_roundw
                                  case rel => exact ⟨k + 1, ix, pa, E, cE, by omega, by go_num, hQ5, hE5, hF5, hb6⟩
                                  case measure => simp [RowKit.intOf]; omega
                              · have s0 : ((ge l k).k == x.k) = true := beq_iff_eq.2 q0
                                have s1 : ((ge l k).f.i == x.f.i) = true := beq_iff_eq.2 q1
                                have s2 : ((ge l k).f.c == x.f.c) = false := beq_eq_false_iff_ne.2 q2
                                clear q0 q1 q2
                                go_wp2_with fail
                                refine Mm.region_ext (by kernel_rfl) (by kernel_rfl) ?_; (repeat (first | go_big_quiet_step (fail) | quiet_step (fail))); refine wpQuiet_nil ?_
                                intro w5 hb5
                                have hQ5 := hQk.old hb5
                                have hE5 := hPE.old hb5
                                have hF5 := hPF.old hb5
                                have hb6 := bl_trans hbk hb5
                                clear e0 e1 e2 e3 e4 e5 x0 x1 x2 x3 x4 x5 xl hXk hQk hPE hPF hbk hb5 ql qf q0' q2' hbl7
                                go_wp2_with fail
                                go_roundw
                                case rel => exact ⟨k + 1, ix, pa, E, cE, by omega, by go_num, hQ5, hE5, hF5, hb6⟩
                                case measure => simp [RowKit.intOf]; omega
                            · have s0 : ((ge l k).k == x.k) = true := beq_iff_eq.2 q0
                              have s1 : ((ge l k).f.i == x.f.i) = false := beq_eq_false_iff_ne.2 q1
                              clear q0 q1
                              go_wp2_with fail
                              refine Mm.region_ext (by kernel_rfl) (by kernel_rfl) ?_; (repeat (first | go_big_quiet_step (fail) | quiet_step (fail))); refine wpQuiet_nil ?_
                              intro w5 hb5
                              have hQ5 := hQk.old hb5
                              have hE5 := hPE.old hb5
                              have hF5 := hPF.old hb5
                              have hb6 := bl_trans hbk hb5
                              clear e0 e1 e2 e3 e4 e5 x0 x1 x2 x3 x4 x5 xl hXk hQk hPE hPF hbk hb5 ql qf q0' q2' hbl7
                              go_wp2_with fail
                              go_roundw
                              case rel => exact ⟨k + 1, ix, pa, E, cE, by omega, by go_num, hQ5, hE5, hF5, hb6⟩
                              case measure => simp [RowKit.intOf]; omega
                          · have s0 : ((ge l k).k == x.k) = false := beq_eq_false_iff_ne.2 q0
                            clear q0
                            go_wp2_with fail
                            refine Mm.region_ext (by kernel_rfl) (by kernel_rfl) ?_; (repeat (first | go_big_quiet_step (fail) | quiet_step (fail))); refine wpQuiet_nil ?_
                            intro w5 hb5
                            have hQ5 := hQk.old hb5
                            have hE5 := hPE.old hb5
                            have hF5 := hPF.old hb5
                            have hb6 := bl_trans hbk hb5
                            clear e0 e1 e2 e3 e4 e5 x0 x1 x2 x3 x4 x5 xl hXk hQk hPE hPF hbk hb5 ql qf q0' q2' hbl7
                            go_wp2_with fail
                            go_roundw
                            case rel => exact ⟨k + 1, ix, pa, E, cE, by omega, by go_num, hQ5, hE5, hF5, hb6⟩
                            case measure => simp [RowKit.intOf]; omega
                        · have u3 : ¬ (k : Int) < l.length := by omega
                          have hHk := HHC.out.old hbK
                          have y0 : wr.cell? ⟨g1, 0, none⟩ = some (.int .i64 H.n) := hHk.cell 0
                          have y1 : wr.cell? ⟨g1, 1, none⟩ = some (.int .i64 H.c) := hHk.cell 1
                          have y2 : wr.cell? ⟨g1, 2, none⟩ = some (.int .u32 H.r.1) := hHk.cell 2
                          have y3 : wr.cell? ⟨g1, 3, none⟩ = some (.int .u32 H.r.2.1) := hHk.cell 3
                          have y4 : wr.cell? ⟨g1, 4, none⟩ = some (.int .u32 H.r.2.2.1) := hHk.cell 4
                          have y5 : wr.cell? ⟨g1, 5, none⟩ = some (.int .u32 H.r.2.2.2) := hHk.cell 5
                          have y6 : wr.cell? ⟨g1, 6, none⟩ = some (.int .u32 H.l.1) := hHk.cell 6
                          have y7 : wr.cell? ⟨g1, 7, none⟩ = some (.int .u32 H.l.2.1) := hHk.cell 7
                          have y8 : wr.cell? ⟨g1, 8, none⟩ = some (.int .u32 H.l.2.2.1) := hHk.cell 8
                          have y9 : wr.cell? ⟨g1, 9, none⟩ = some (.int .u32 H.l.2.2.2) := hHk.cell 9
                          have ya : wr.cell? ⟨g1, 10, none⟩ = some (.int .i64 H.R) := hHk.cell 10
                          have yb : wr.cell? ⟨g1, 11, none⟩ = some (.int .i64 H.S) := hHk.cell 11
                          have yl := hHk.lt
                          have t0 := hQk.cell 0
                          have t1 := hQk.cell 1
                          have t2 := hQk.cell 2
                          have t3 := hQk.cell 3
                          have tl := hQk.lt
                          have HV5 := Lib.hid (HV1.out wr x.f ix p.pl pa p.sp E p.B cE p.cb hPE hPF)
                          have HV6 := Lib.hid (fun W (hb : Below wr.heap.size wr W) => HV2.out W x.f ix p.pl pa p.sp E p.B cE p.cb (hPE.old hb) (hPF.old hb))
                          generalize vf x.f ix p.pl pa p.sp = vv at HV5 HV6
                          cases isc
                          · go_wp2_with fail
                            refine HV5.out.mono ?_
                            rintro e w5 ⟨rfl, hb5⟩
                            have hX5 := hXk.old hb5
                            have hH5 := hHk.old hb5
                            have hQ5 := hQk.old hb5
                            have hb6 := bl_trans hbk hb5
                            clear x0 x1 x2 x3 x4 x5 xl t0 t1 t2 t3 tl
                            clear y0 y1 y2 y3 y4 y5 y6 y7 y8 y9 ya yb yl
                            have HV7 := Lib.hid (HV6.out w5 hb5)
                            clear hXk hHk hQk hbk hb5 HV5 HV6 hPE hPF hbK
                            by_cases hv : vv = 0
                            · subst hv
                              have x0 := hX5.cell 0
                              have x1 := hX5.cell 1
                              have x2 := hX5.cell 2
                              have x3 := hX5.cell 3
                              have x4 := hX5.cell 4
                              have x5 := hX5.cell 5
                              have xl := hX5.lt
                              have t0 := hQ5.cell 0
                              have t1 := hQ5.cell 1
                              have t2 := hQ5.cell 2
                              have t3 := hQ5.cell 3
                              have tl := hQ5.lt
                              have y0 : w5.cell? ⟨g1, 0, none⟩ = some (.int .i64 H.n) := hH5.cell 0
                              have y1 : w5.cell? ⟨g1, 1, none⟩ = some (.int .i64 H.c) := hH5.cell 1
                              have y2 : w5.cell? ⟨g1, 2, none⟩ = some (.int .u32 H.r.1) := hH5.cell 2
                              have y3 : w5.cell? ⟨g1, 3, none⟩ = some (.int .u32 H.r.2.1) := hH5.cell 3
                              have y4 : w5.cell? ⟨g1, 4, none⟩ = some (.int .u32 H.r.2.2.1) := hH5.cell 4
                              have y5 : w5.cell? ⟨g1, 5, none⟩ = some (.int .u32 H.r.2.2.2) := hH5.cell 5
                              have y6 : w5.cell? ⟨g1, 6, none⟩ = some (.int .u32 H.l.1) := hH5.cell 6
                              have y7 : w5.cell? ⟨g1, 7, none⟩ = some (.int .u32 H.l.2.1) := hH5.cell 7
                              have y8 : w5.cell? ⟨g1, 8, none⟩ = some (.int .u32 H.l.2.2.1) := hH5.cell 8
                              have y9 : w5.cell? ⟨g1, 9, none⟩ = some (.int .u32 H.l.2.2.2) := hH5.cell 9
                              have ya : w5.cell? ⟨g1, 10, none⟩ = some (.int .i64 H.R) := hH5.cell 10
                              have yb : w5.cell? ⟨g1, 11, none⟩ = some (.int .i64 H.S) := hH5.cell 11
                              have yl := hH5.lt
                              go_wp2_with fail
                              refine HV7.out.mono ?_
                              rintro e w6 ⟨rfl, hb7⟩
                              have hb8 := bl_trans hb6 hb7
                              clear x0 x1 x2 x3 x4 x5 xl t0 t1 t2 t3 tl
                              clear y0 y1 y2 y3 y4 y5 y6 y7 y8 y9 ya yb yl
                              clear hX5 hH5 hQ5 hb6 hb7 HV7
                              go_wp2_with fail
                              go_roundw
                              case rel => exact ⟨j + 1, by omega, by go_num, hb8⟩
                              case measure => simp [RowKit.intOf]; omega
                            · have v0 : (vv == 0) = false := beq_eq_false_iff_ne.2 hv
                              clear hX5 hH5 hQ5 HV7 hv
                              go_wp2_with fail
                              go_roundw
                              case rel => exact ⟨j + 1, by omega, by go_num, hb6⟩
                              case measure => simp [RowKit.intOf]; omega
                          · clear hXk hHk hQk HV5 HV6 hPE hPF hbK
                            go_wp2_with fail
                            clear x0 x1 x2 x3 x4 x5 xl t0 t1 t2 t3 tl
                            clear y0 y1 y2 y3 y4 y5 y6 y7 y8 y9 ya yb yl
                            go_roundw
                            case rel => exact ⟨j + 1, by omega, by go_num, hbk⟩
                            case measure => simp [RowKit.intOf]; omega
                    · have u3 : ¬ (j : Int) < P.length := by omega
                      have hbz := bl_trans hbg hbj
                      go_wp2_with fail
                      go_roundw
                      case rel => exact ⟨i + 1, by omega, by go_num, hbz⟩
                      case measure => simp [RowKit.intOf]; omega
            · have z0 : (x.k != 0) = true := bne_iff_ne.2 hk
              clear hk hXa
              go_wp2_with fail
              clear x0 xl
              go_roundw
              case rel => exact ⟨i + 1, by omega, by go_num, hba⟩
              case measure => simp [RowKit.intOf]; omega
          · have u1 : ¬ (i : Int) < l.length := by omega
            have hbz := bl_trans hbC hbv
            go_wp2_with fail
            refine (sane_any _).mono ?_
            rintro e wi ⟨rfl, hbi⟩
            go_wp2_with fail
            go_ret
            exact ⟨rfl, bl_trans hbz hbi⟩
  · have HL := Lib.hid (show ∀ W : World, Calls Tryz.prog 5 #[.slice A0 l0.length c0] W fun e w' => e = .returned (.bool false) ∧ W = w' from fun W => by have h6 := light_any l0 A0 c0 W; rwa [decide_eq_false hL] at h6)
    clear hr hi
    go_enter Tryz.func3, Tryz.ntmps3
    go_wp2_with fail
    refine (HL.out _).mono ?_
    rintro e w0 ⟨rfl, rfl⟩
    go_wp2_with fail
    refine (sane_any _).mono ?_
    rintro e w1 ⟨rfl, hb1⟩
    go_wp2_with fail
    go_ret
    exact ⟨rfl, hb1⟩
end Go.Proofs.YtdikoffppjoomaaGreat.Ct
