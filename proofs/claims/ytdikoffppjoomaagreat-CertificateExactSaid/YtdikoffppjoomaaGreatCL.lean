/- Walks: appends of rows; certificates, Current. -/
import Derived.Test.YtdikoffppjoomaaGreatCK
import Derived.WalkKit
import Derived.WalkSpells
import Derived.WalkLawsBesides
import Derived.Deep.QuietTactic
import Derived.BigQuiet
import Derived.Deep.Draws
import Derived.Deep.AppendLies
import Derived.Laws.OwnMore
import Derived.Laws.BytesArg
import Derived.Lib.Hide
import Derived.Deep.LoopGhost
import Derived.Lib.SmallJoins
import Derived.Test.YtdikoffppjoomaaGreatAR
import Derived.Deep.RegionLaw
namespace Go.Proofs.YtdikoffppjoomaaGreat.Ct
open Go.RowKit Go.Proofs.YtdikoffppjoomaaGreat.Dg
open Go.Proofs.YtdikoffppjoomaaGreat.Mw (I64 ret_int ret_bool Bk bl_trans own_ints RdI RdR ge ge_lt gi ge_mem own_rows wpList_append_run)
set_option linter.unusedVariables false
set_option linter.unusedSimpArgs false
set_option maxRecDepth 100000

section
variable {α : Type} [Inhabited α] {k : Nat} {enc : α → List Value}
theorem rdr_nil {w : World} {l : List α} (h : RdR k enc w none l) : l = [] := by
  cases l with
  | nil => rfl
  | cons a l => obtain ⟨b, off, e, _⟩ := h 0 (by simp); cases e
theorem rdr_news (hk : ∀ a, (enc a).length = k) (h0 : 0 < k) {w : World} {a : Addr} {l : List α} (h : RdR k enc w (some a) l) : ∀ (j : Nat) (u : Value), (l.flatMap enc)[j]? = some u → w.cell? (a.add j) = some u := fun j u hu => by
  have hj : j < (l.flatMap enc).length := by
    rcases Nat.lt_or_ge j (l.flatMap enc).length with h1 | h1
    · exact h1
    · rw [List.getElem?_eq_none h1] at hu; cases hu
  rw [Mw.flat_len hk] at hj
  have hi : j / k < l.length := (Nat.div_lt_iff_lt_mul h0).2 hj
  obtain ⟨b, off, e, _, hc⟩ := h (j / k) hi
  cases e
  have e2 : j / k * k + j % k = j := by rw [Nat.mul_comm]; exact Nat.div_add_mod j k
  have h3 := Mw.flat_at hk l (j / k) (j % k) hi (Nat.mod_lt _ h0)
  rw [e2, hu] at h3
  have h4 := hc (j % k) (Nat.mod_lt _ h0)
  rw [← h3] at h4
  have e1 : (⟨b, off, none⟩ : Addr).add j = ⟨b, off + j, none⟩ := by
    unfold Addr.add
    by_cases h : j = 0
    · subst h; rfl
    · simp [h]
  rw [e1, ← h4, Nat.add_assoc, e2]
end
theorem infoCert : (Tryz.prog.info? 46).map (fun i => (i.zero, i.size, i.bytes)) = some (some (cfv ⟨0, 0, 0, 0, 0⟩), 5, 40) := by kernel_rfl
theorem appCert {w : World} {base : Nat} {v : Value} {xs l : List Cf} {A : Option Addr} {c : Nat} (hown : w.ownsRow base 46 5 v xs.length (xs.flatMap cfl)) (hr : RdR 5 cfl w A l) (h1 : xs.length + l.length ≤ 100000) (hb : base ≤ w.heap.size) :
    ∃ v' w', (Builtin.append_ #[42, 42] 42 #[v, .slice A l.length c]).run Tryz.prog w = .ok v' w' ∧ w'.ownsRow base 46 5 v' (xs ++ l).length ((xs ++ l).flatMap cfl) ∧ w.grownBy w' v.ownBlock := by
  obtain ⟨i0, hi0, hz0, hz1, hz2⟩ := info_parts infoCert
  rcases A with _ | a
  · obtain rfl := rdr_nil hr
    refine ⟨v, w, ?_, by simpa using hown, Mw.gb_refl _ _⟩
    rcases hown.2 with ⟨rfl, h0⟩ | ⟨g, cap, cur, rfl, hg, hh, hc, hm, _⟩
    · simp [Builtin.append_, run_underlying Tryz.underlying42, sizeOf, typeInfo, hi0, Builtin.lenOf, Builtin.firstCells]
    · simp [Builtin.append_, run_underlying Tryz.underlying42, sizeOf, typeInfo, hi0, Builtin.lenOf, Builtin.firstCells, hc, storeCells]
  · obtain ⟨v', w', h2, h3, h4, -, -⟩ := run_append_own_at (P := Tryz.prog) (w := w) base 42 42 46 i0 (cfv ⟨0, 0, 0, 0, 0⟩) 5 40 Tryz.underlying42 hi0 hz0 hz1 hz2 rfl (by decide) v xs.length (xs.flatMap cfl) hown a l.length c (l.flatMap cfl) (Mw.flat_len cfl_len l) (rdr_news cfl_len (by omega) hr) (fun u hu => by obtain ⟨d, _, hd⟩ := List.mem_flatMap.1 hu; revert hd; simp [cfl]; rintro (rfl | rfl | rfl | rfl | rfl | rfl) <;> rfl) (by simp only [maxLen]; omega) (by omega) hb
    exact ⟨v', w', h2, by rw [List.flatMap_append, List.length_append]; exact h3, h4⟩
theorem infoEntry : (Tryz.prog.info? 54).map (fun i => (i.zero, i.size, i.bytes)) = some (some (lev ⟨0, ⟨0, 0, 0, 0, 0⟩⟩), 6, 48) := by kernel_rfl
theorem appEntry {w : World} {base : Nat} {v : Value} {xs l : List Le} {A : Option Addr} {c : Nat} (hown : w.ownsRow base 54 6 v xs.length (xs.flatMap lel)) (hr : RdR 6 lel w A l) (h1 : xs.length + l.length ≤ 100000) (hb : base ≤ w.heap.size) :
    ∃ v' w', (Builtin.append_ #[27, 27] 27 #[v, .slice A l.length c]).run Tryz.prog w = .ok v' w' ∧ w'.ownsRow base 54 6 v' (xs ++ l).length ((xs ++ l).flatMap lel) ∧ w.grownBy w' v.ownBlock := by
  obtain ⟨i0, hi0, hz0, hz1, hz2⟩ := info_parts infoEntry
  rcases A with _ | a
  · obtain rfl := rdr_nil hr
    refine ⟨v, w, ?_, by simpa using hown, Mw.gb_refl _ _⟩
    rcases hown.2 with ⟨rfl, h0⟩ | ⟨g, cap, cur, rfl, hg, hh, hc, hm, _⟩
    · simp [Builtin.append_, run_underlying Tryz.underlying27, sizeOf, typeInfo, hi0, Builtin.lenOf, Builtin.firstCells]
    · simp [Builtin.append_, run_underlying Tryz.underlying27, sizeOf, typeInfo, hi0, Builtin.lenOf, Builtin.firstCells, hc, storeCells]
  · obtain ⟨v', w', h2, h3, h4, -, -⟩ := run_append_own_at (P := Tryz.prog) (w := w) base 27 27 54 i0 (lev ⟨0, ⟨0, 0, 0, 0, 0⟩⟩) 6 48 Tryz.underlying27 hi0 hz0 hz1 hz2 rfl (by decide) v xs.length (xs.flatMap lel) hown a l.length c (l.flatMap lel) (Mw.flat_len lel_len l) (rdr_news lel_len (by omega) hr) (fun u hu => by obtain ⟨d, _, hd⟩ := List.mem_flatMap.1 hu; revert hd; simp [lel]; rintro (rfl | rfl | rfl | rfl | rfl | rfl) <;> rfl) (by simp only [maxLen]; omega) (by omega) hb
    exact ⟨v', w', h2, by rw [List.flatMap_append, List.length_append]; exact h3, h4⟩
/-- The ending is a row of certificates in new memory. -/
def CE (l : List Cf) (w : World) (e : Ending) (w' : World) : Prop := ∃ v, e = .returned v ∧ w'.ownsRow w.heap.size 46 5 v l.length (l.flatMap cfl) ∧ Below w.heap.size w w'
theorem rdc_one {w : World} {g : Nat} {T : TypeId} (c : Cf) (h : Bk w g T #[.int .i64 c.i, .int .i64 c.c, .int .i64 c.g, .int .i64 c.t, .int .i64 c.r]) : RdC w (some ⟨g, 0, none⟩) [c] := RdR.bk cfl_len h rfl
theorem rdl_one {w : World} {g : Nat} {T : TypeId} (x : Le) (h : Bk w g T #[.int .i64 x.k, .int .i64 x.f.i, .int .i64 x.f.c, .int .i64 x.f.g, .int .i64 x.f.t, .int .i64 x.f.r]) : RdL w (some ⟨g, 0, none⟩) [x] := RdR.bk lel_len h rfl
theorem take_map_succ {α β : Type} [Inhabited α] (f : α → β) (l : List α) (k : Nat) (h : k < l.length) : (l.take (k + 1)).map f = (l.take k).map f ++ [f (ge l k)] := by
  have : l.take (k + 1) = l.take k ++ [ge l k] := by
    rw [List.take_succ_eq_append_getElem h]
    congr 1
    have := Mw.ge_lt l k h
    rw [List.getElem?_eq_getElem h] at this
    injection this with this
    rw [this]
  rw [this]; simp
def cft (L : List Le) (k : Int) : Cf := (fnd L k).getD default
set_option maxHeartbeats 1000000 in
theorem certs_any (L : List Le) (g b1 b2 b3 : Nat) (w : World) (h : LM w g L b1 b2 b3) (hV : V L) : Calls Tryz.prog 48 #[.pointer (some ⟨g, 0, none⟩)] w (CE (cur L) w) := by
  have I := inv_of hV
  have hL := I.len
  obtain ⟨c0, c1, c2, c3, c4⟩ := h.at
  have hlt := h.lt.1
  have HK := Lib.hid (keys_any h.m2 (by omega))
  have HM := Lib.hid h
  have HV := Lib.hid hV
  clear h hV
  go_enter Tryz.func48, Tryz.ntmps48
  go_wp2_with fail
  refine (keys_c _ _).mono ?_
  rintro e w1 ⟨rfl, rfl⟩
  go_wp2_with fail
  refine HK.out.mono ?_
  rintro e w1 ⟨v, ks, rfl, hks, hmem, hkl, hown, hb1⟩
  obtain ⟨A, c, rfl, hr, ha⟩ := own_ints hown
  have hcur : cur L = ks.map (cft L) := (cur_keys HV.out ks hks fun k => by
    rw [hmem]
    have e1 : (curf L k).isSome = (cu L k).isSome := by unfold curf cu; cases gon L k <;> cases fnd L k <;> rfl
    rw [e1]
    refine ⟨fun h => h.2, fun h => ⟨?_, h⟩⟩
    obtain ⟨cc, hc⟩ := Option.isSome_iff_exists.1 h
    have h1 := cu_some.1 hc
    have h2 := vld_id (I.val _ _ h1.1)
    have h3 := fnd_id h1.1
    unfold Mw.I64; omega).symm
  have Hin := Lib.hid (show ∀ k, k < ks.length → I64 (ge ks k) ∧ fnd L (ge ks k) = some (cft L (ge ks k)) ∧ gon L (ge ks k) = false from fun k hk => by
    have h1 := (hmem _).1 (ge_mem ks k hk)
    have e1 : (curf L (ge ks k)).isSome = (cu L (ge ks k)).isSome := by unfold curf cu; cases gon L (ge ks k) <;> cases fnd L (ge ks k) <;> rfl
    rw [e1] at h1
    obtain ⟨cc, hc⟩ := Option.isSome_iff_exists.1 h1.2
    have h2 := cu_some.1 hc
    exact ⟨h1.1, by unfold cft; rw [h2.1]; rfl, h2.2⟩)
  have HC := Lib.hid hcur
  have HR := Lib.hid hr
  have hM1 := HM.out.old hb1
  have HM1 := Lib.hid hM1
  clear hks hmem hown hcur hM1 c0 c1 c2 c3 c4 hlt ha
  have hr := HR.out
  clear hr
  go_wp2_with fail
  go_loopw [3, 13] (fun x i wr => ∃ k : Nat, k ≤ ks.length ∧ i = .int .i64 k ∧ wr.ownsRow w1.heap.size 46 5 x ((ks.take k).map (cft L)).length (((ks.take k).map (cft L)).flatMap cfl) ∧ Below w1.heap.size w1 wr) (fun _ i _ => ks.length - (RowKit.intOf i).toNat)
  case atStart => exact ⟨0, by omega, rfl, World.ownsRow_nil _ _ _ _, Below.refl _ _⟩
  case round =>
    obtain ⟨k, hk, rfl, hown, hb⟩ := hrel
    by_cases hlt : k < ks.length
    · obtain ⟨b, off, rfl, hbl, hc0⟩ := (HR.out.old hb) k hlt
      have hc : wr.cell? ⟨b, off + k, none⟩ = some (.int .i64 (ge ks k)) := hc0
      clear hc0
      obtain ⟨hi, hf, hg⟩ := Hin.out k hlt
      have hMr := HM1.out.old hb
      obtain ⟨c0, c1, c2, c3, c4⟩ := hMr.at
      have hgl := hMr.lt.1
      have q1 := hMr.cur1 hi hf hg
      obtain ⟨v2, w2, hrun, hown2, hg2⟩ := appCert (c := 1) (hown.alloc (.cells #[.int .i64 (cft L (ge ks k)).i, .int .i64 (cft L (ge ks k)).c, .int .i64 (cft L (ge ks k)).g, .int .i64 (cft L (ge ks k)).t, .int .i64 (cft L (ge ks k)).r] 46)) (rdc_one (cft L (ge ks k)) (Mw.Bk.new _ _ _)) (by simp; omega) (by have := hb.size; simp; omega)
      have hb2 : Below w1.heap.size w1 w2 := Below.grown (Mw.bl_alloc hb _) hg2 (by have := hb.size; simp; omega) (fun q hq => by have := (hown.lt q hq).1; omega)
      have HO : Hid (w2.ownsRow w1.heap.size 46 5 v2 ((ks.take (k + 1)).map (cft L)).length (((ks.take (k + 1)).map (cft L)).flatMap cfl)) := by
        rw [take_map_succ (cft L) ks k hlt]; exact hown2
      clear hi hf hg hMr hown hown2 hg2 hb
      go_wp2_with (at_builtin; refine wpList_append_run rfl (.tmp 17) (.tmp 24) 42 rfl _ (.slice (some ⟨wr.heap.size, 0, none⟩) 1 1) rfl rfl v2 w2 (by exact hrun) ?_)
      clear hrun
      go_wp2_with fail
      go_roundw
      case rel => exact ⟨k + 1, by omega, by go_num, HO.out, hb2⟩
      case measure => simp [RowKit.intOf]; omega
    · have HKL : Hid (k = ks.length) := by unfold Hid; omega
      clear hk
      go_wp2_with fail
      go_ret
      refine ⟨_, rfl, ?_, ?_⟩
      · have h1 := hown
        rw [HKL.out, List.take_length, ← HC.out] at h1
        exact Go.Joins.ownsRow_le h1 hb1.size
      · exact hb1.trans (hb.mono hb1.size)
end Go.Proofs.YtdikoffppjoomaaGreat.Ct
namespace Go.Proofs.YtdikoffppjoomaaGreat.Ct
open Go.RowKit Go.Proofs.YtdikoffppjoomaaGreat.Dg
open Go.Proofs.YtdikoffppjoomaaGreat.Mw (I64 ret_int ret_bool Bk bl_trans own_ints RdI RdR ge ge_lt gi ge_mem own_rows wpList_append_run)
set_option linter.unusedVariables false
set_option linter.unusedSimpArgs false
set_option maxRecDepth 100000

/-- What Current returns. -/
def crr (l : List Le) : List Cf := if chk l = 0 then cur l else []
theorem crr_0 {l : List Le} (h : chk l = 0) : crr l = cur l := if_pos h
theorem current_any (l : List Le) (A : Option Addr) (c : Nat) (w : World) (hr : RdL w A l) (h64 : ∀ x, x ∈ l → Le64 x) : Calls Tryz.prog 12 #[.slice A l.length c] w (CE (crr l) w) := by
  have HR := Lib.hid (read_any l A c w hr h64)
  clear hr h64
  by_cases hz : chk l = 0
  · have z0 : (chk l != 0) = false := by rw [hz]; rfl
    have HZ := Lib.hid hz
    have HV := Lib.hid (V_chk hz)
    clear hz
    go_enter Tryz.func12, Tryz.ntmps12
    go_wp2_with fail
    refine HR.out.mono ?_
    rintro e w2 ⟨v, rfl, hb, hx⟩
    obtain ⟨g, b1, b2, b3, rfl, hM, -⟩ := hx HZ.out
    go_wp2_with fail
    refine (certs_any l g b1 b2 b3 w2 hM HV.out).mono ?_
    rintro e w3 ⟨v, rfl, hown, hb3⟩
    go_wp2_with fail
    go_ret
    exact ⟨v, rfl, by rw [crr_0 HZ.out]; exact Go.Joins.ownsRow_le hown hb.size, bl_trans hb hb3⟩
  · have z0 : (chk l != 0) = true := bne_iff_ne.2 hz
    have HC : Hid (crr l = []) := if_neg hz
    clear hz
    go_enter Tryz.func12, Tryz.ntmps12
    go_wp2_with fail
    refine HR.out.mono ?_
    rintro e w2 ⟨v, rfl, hb, hx⟩
    clear hx
    go_wp2_with fail
    go_ret
    exact ⟨_, rfl, by rw [HC.out]; exact World.ownsRow_nil _ _ _ _, hb⟩
theorem own_empty (w : World) (e : TypeId) (size : Nat) : (w.alloc (.cells #[] e)).ownsRow w.heap.size e size (.slice (some ⟨w.heap.size, 0, none⟩) 0 0) 0 [] :=
  ⟨by simp, .inr ⟨w.heap.size, 0, #[], rfl, Nat.le_refl _, heap_alloc_new w _, by omega, by simp [maxLen], by simp, by simp⟩⟩
/-- The ending is a row of entries in new memory. -/
def LE (l : List Le) (w : World) (e : Ending) (w' : World) : Prop := ∃ v, e = .returned v ∧ w'.ownsRow w.heap.size 54 6 v l.length (l.flatMap lel) ∧ Below w.heap.size w w'
theorem clonel_any (l : List Le) (A : Option Addr) (c : Nat) (w : World) (hl : l.length ≤ 1000) (hr : RdL w A l) : Calls Tryz.prog 73 #[.slice A l.length c] w (LE l w) := by
  have hnil : ∀ (W : World) (a : Option Addr) (n c n' c' : Nat), (binOp .eql 27 (.slice a n c) (.slice none n' c')).run Tryz.prog W = .ok (.bool a.isNone) W := fun W a n c n' c' => Lib.run_eql_slice_nil W 27 54 a n c n' c' Tryz.underlying27
  rcases A with _ | a
  · obtain rfl := rdr_nil hr
    clear hr
    go_enter Tryz.func73, Tryz.ntmps73
    go_wp2_with fail
    go_ret
    exact ⟨_, rfl, World.ownsRow_nil _ _ _ _, by (repeat (first | with_reducible exact Below.refl _ _ | with_reducible refine bl_drewN ?_ _ | with_reducible refine Below.drew ?_ | with_reducible refine bl_alloc ?_ _ | with_reducible refine Below.alloc ?_ (by first | omega | (simp; done) | (simp; omega)) _ | with_reducible refine Below.setCell ?_ (by first | omega | (simp; done) | (simp; omega)) _ | with_reducible assumption))⟩
  · obtain ⟨v2, w2, hrun, hown, hg⟩ := appEntry (base := w.heap.size) (xs := []) (c := c) (own_empty w 54 6) (hr.alloc (.cells #[] 54)) (by simp; omega) (by simp)
    have hb2 : Below w.heap.size w w2 := Mw.bl_gb (Mw.bl_alloc (Below.refl _ _) _) hg (Nat.le_refl _)
    have HO : Hid (w2.ownsRow w.heap.size 54 6 v2 l.length (l.flatMap lel)) := by unfold Hid; simpa using hown
    clear hr hown hg
    go_enter Tryz.func73, Tryz.ntmps73
    go_wp2_with (at_builtin; refine wpList_append_run rfl (.tmp 5) (.tmp 6) 27 rfl (.slice (some ⟨w.heap.size, 0, none⟩) 0 0) (.slice (some a) l.length c) rfl rfl v2 w2 (by exact hrun) ?_)
    clear hrun
    go_wp2_with fail
    go_ret
    exact ⟨v2, rfl, HO.out, hb2⟩
/-- What Append returns. -/
def apn (l : List Le) (x : Le) : List Le × Int := if chk l = 0 then (if nxt l x = 0 then (l ++ [x], 0) else ([], nxt l x)) else ([], chk l)
def AE (r : List Le × Int) (w : World) (e : Ending) (w' : World) : Prop := ∃ A c, e = .returned (.tuple #[.slice A r.1.length c, .int .i64 r.2]) ∧ r.1.length ≤ c ∧ RdL w' A r.1 ∧ (∀ a, A = some a → w.heap.size ≤ a.block ∧ a.block < w'.heap.size) ∧ Below w.heap.size w w'
theorem ae_nil (n : Int) {w w' : World} (hb : Below w.heap.size w w') {r : List Le × Int} (hr : r = ([], n)) : AE r w (.returned (.tuple #[.slice none 0 0, .int .i64 n])) w' := by
  subst hr
  exact ⟨none, 0, rfl, Nat.le_refl _, RdR.nil _ _, fun a ha => (by cases ha), hb⟩
theorem blk_newsE {w : World} {g : Nat} {T : TypeId} (x : Le) (h : Bk w g T #[.int .i64 x.k, .int .i64 x.f.i, .int .i64 x.f.c, .int .i64 x.f.g, .int .i64 x.f.t, .int .i64 x.f.r]) : ∀ j u, (lel x)[j]? = some u → w.cell? ((⟨g, 0, none⟩ : Addr).add j) = some u := fun j u hu => by
  have := rdr_news lel_len (by omega) (rdl_one x h) j u
  simp at this
  exact this hu
theorem lel_one (x : Le) : ∀ u ∈ lel x, u.oneCell' = true := fun u hu => by revert hu; simp [lel]; rintro (rfl | rfl | rfl | rfl | rfl | rfl) <;> rfl
set_option maxHeartbeats 4000000 in
theorem append_any (l : List Le) (x : Le) (A : Option Addr) (c : Nat) (w : World) (hr : RdL w A l) (h64 : ∀ x, x ∈ l → Le64 x) (hx : Le64 x) : Calls Tryz.prog 28 #[.slice A l.length c, lev x] w (AE (apn l x) w) := by
  have hr1 := hr.alloc (.cells #[.int .i64 x.k, .int .i64 x.f.i, .int .i64 x.f.c, .int .i64 x.f.g, .int .i64 x.f.t, .int .i64 x.f.r] 54)
  have HR := Lib.hid (read_any l A c _ hr1 h64)
  have HX := Mw.Bk.new w 54 #[.int .i64 x.k, .int .i64 x.f.i, .int .i64 x.f.c, .int .i64 x.f.g, .int .i64 x.f.t, .int .i64 x.f.r]
  have HR1 := Lib.hid hr1
  clear hr h64 hr1
  by_cases hz : chk l = 0
  · have z0 : (chk l != 0) = false := by rw [hz]; rfl
    have HZ := Lib.hid hz
    have hV := V_chk hz
    have HV := Lib.hid hV
    have hle := (inv_of hV).len
    clear hz hV
    go_enter Tryz.func28, Tryz.ntmps28
    go_wp2_with fail
    refine HR.out.mono ?_
    rintro e w2 ⟨v, rfl, hb, hx2⟩
    obtain ⟨g, b1, b2, b3, rfl, hM, hg0, hg1, hg2, hg3⟩ := hx2 HZ.out
    have hX2 := HX.old hb
    have hr2 := HR1.out.old hb
    have x0 := hX2.cell 0
    have x1 := hX2.cell 1
    have x2 := hX2.cell 2
    have x3 := hX2.cell 3
    have x4 := hX2.cell 4
    have x5 := hX2.cell 5
    have l1 := hX2.lt
    clear hx2
    go_wp2_with fail
    refine (add_any l x g b1 b2 b3 w2 hM HV.out hx hle).mono ?_
    rintro e w3 ⟨rfl, -, hgl⟩
    have hsz : (w.alloc (.cells #[.int .i64 x.k, .int .i64 x.f.i, .int .i64 x.f.c, .int .i64 x.f.g, .int .i64 x.f.t, .int .i64 x.f.r] 54)).heap.size = w.heap.size + 1 := by simp
    rw [hsz] at hg0 hg1 hg2 hg3
    have hb3 : Below (w.heap.size + 1) w2 w3 := hgl.below hg0 hg1 hg2 hg3 (by have := hb.size; rw [hsz] at this; exact this)
    have hb4 : Below (w.heap.size + 1) (w.alloc (.cells #[.int .i64 x.k, .int .i64 x.f.i, .int .i64 x.f.c, .int .i64 x.f.g, .int .i64 x.f.t, .int .i64 x.f.r] 54)) w3 := by rw [hsz] at hb; exact hb.trans hb3
    have hX3 := HX.below hb4 (by omega)
    have hr3 : RdL w3 A l := HR1.out.old (by rw [hsz]; exact hb4)
    have hb5 : Below w.heap.size w w3 := ((Below.refl _ w).alloc (Nat.le_refl _) _).trans (hb4.mono (by omega))
    clear x0 x1 x2 x3 x4 x5 l1 hb hM hg0 hg1 hg2 hg3 hX2 hr2 hgl hb3 hb4 hsz
    have x0 := hX3.cell 0
    have x1 := hX3.cell 1
    have x2 := hX3.cell 2
    have x3 := hX3.cell 3
    have x4 := hX3.cell 4
    have x5 := hX3.cell 5
    have l1 := hX3.lt
    by_cases hn : nxt l x = 0
    · have z1 : (nxt l x != 0) = false := by rw [hn]; rfl
      have HA : Hid (apn l x = (l ++ [x], 0)) := by unfold Hid apn; rw [if_pos HZ.out, if_pos hn]
      obtain ⟨i0, hi0, hz0, hz1, hz2⟩ := info_parts infoEntry
      have HR3 := Lib.hid hr3
      clear hn hr3
      go_wp2_with fail
      go_region_law (first
        | (refine step_append_lies _ (by rfl) (.tmp 24) (.tmp 26) 27 (by rfl) w3.heap.size 54 i0 (lev ⟨0, ⟨0, 0, 0, 0, 0⟩⟩) 6 48 Tryz.underlying27 hi0 hz0 hz1 hz2 rfl (by decide) vC l.length (l.flatMap lel) (by rfl) (by first | exact hC2 | exact World.ownsRow.alloc hC2 _) _ 1 1 (lel x) (by rfl) rfl (by first | exact blk_newsE x (Mw.Bk.new' rfl) | exact blk_newsE x ((Mw.Bk.new _ _ _).drew.old hbC)) (lel_one x) (by decide) (by simp only [maxLen]; omega) (by omega) (by have := hbD.size; first | exact this | (simp; omega)) _ rfl ?_
           intro g5 cap5 w5 hown5 hgrow5 hat5 hlt5
           have hb6 : Below w3.heap.size w3 w5 := Below.grown (by first | exact hbD | exact hbD.alloc hbD.size _) hgrow5 (by have := hbD.size; first | exact this | (simp; omega)) (fun j hj => (hC2.lt j hj).1))
        | (go_simp
           go_at_call 73
           refine (clonel_any l A c _ (by omega) (by first | exact HR3.out.drew | exact HR3.out.drew.alloc _ | exact HR3.out | exact HR3.out.alloc _)).mono ?_
           rintro e w4 ⟨vC, rfl, hC, hbC⟩
           have hC2 : w4.ownsRow w3.heap.size 54 6 vC l.length (l.flatMap lel) := Go.Joins.ownsRow_le hC (by first | exact Nat.le_refl _ | (simp; done) | (simp; omega))
           have hbD : Below w3.heap.size w3 w4 := (by first | exact ⟨hbC.os, hbC.tape, hbC.output, hbC.size, hbC.block⟩ | exact (((Below.refl _ w3).alloc (Nat.le_refl _) _).trans ⟨hbC.os, hbC.tape, hbC.output, hbC.size, fun k hk => hbC.block k (by simp; omega)⟩))
           have hX4 := hX3.below hbD l1
           have y0 := hX4.cell 0
           have y1 := hX4.cell 1
           have y2 := hX4.cell 2
           have y3 := hX4.cell 3
           have y4 := hX4.cell 4
           have y5 := hX4.cell 5
           have yl := hX4.lt))
      all_goals
        have hown6 : w5.ownsRow w3.heap.size 54 6 (.slice (some ⟨g5, 0, none⟩) (l.length + 1) cap5) (l ++ [x]).length ((l ++ [x]).flatMap lel) := by simpa using hown5
        obtain ⟨A6, c6, he, hc6, hr6, ha6⟩ := own_rows lel_len (by omega) hown6
        clear hown5 hown6 hgrow5
        go_wp2_with fail
        go_ret2
        rw [HA.out]
        exact ⟨A6, c6, by rw [← he] <;> rfl, hc6, hr6, fun a ha => ⟨Nat.le_trans hb5.size (ha6 a ha).1, (ha6 a ha).2⟩, bl_trans hb5 hb6⟩
    · have z1 : (nxt l x != 0) = true := bne_iff_ne.2 hn
      have HA : Hid (apn l x = ([], nxt l x)) := by unfold Hid apn; rw [if_pos HZ.out, if_neg hn]
      clear hn hr3
      go_wp2_with fail
      go_ret2
      exact ae_nil _ hb5 HA.out
  · have z0 : (chk l != 0) = true := bne_iff_ne.2 hz
    have HA : Hid (apn l x = ([], chk l)) := if_neg hz
    clear hz
    go_enter Tryz.func28, Tryz.ntmps28
    go_wp2_with fail
    refine HR.out.mono ?_
    rintro e w2 ⟨v, rfl, hb, -⟩
    go_wp2_with fail
    go_ret2
    exact ae_nil _ (bl_trans (by (repeat (first | with_reducible exact Below.refl _ _ | with_reducible refine bl_drewN ?_ _ | with_reducible refine Below.drew ?_ | with_reducible refine bl_alloc ?_ _ | with_reducible refine Below.alloc ?_ (by first | omega | (simp; done) | (simp; omega)) _ | with_reducible refine Below.setCell ?_ (by first | omega | (simp; done) | (simp; omega)) _ | with_reducible assumption))) hb) HA.out
end Go.Proofs.YtdikoffppjoomaaGreat.Ct
