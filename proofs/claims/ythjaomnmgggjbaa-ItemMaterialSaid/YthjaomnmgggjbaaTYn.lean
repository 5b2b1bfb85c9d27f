/- Walks: items off the tape. -/
import Derived.Test.YthjaomnmgggjbaaTX
import Derived.WalkKit
import Derived.WalkSpells
import Derived.WalkLawsBesides
import Derived.Deep.QuietTactic
import Derived.BigQuiet
import Derived.Deep.Draws
import Derived.Deep.AppendLies
import Derived.Laws.OwnMore
import Derived.Laws.BytesArg
import Derived.Lib.Hide
import Derived.Deep.LoopGhost
import Derived.Deep.DeepCutAuto
import Derived.Deep.RegionLaw
import Derived.Deep.AppendLies
import Derived.Test.YthjaomnmgggjbaaAM
namespace Go.Proofs.Ythjaomnmgggjbaa.Tm
open Go.RowKit Go.Proofs.Ythjaomnmgggjbaa.Mw
set_option linter.unusedVariables false

theorem psOk_snoc {l : List Pt} {p : Pt} (h : psOk l = true) (hp : vp p = true) : psOk (l ++ [p]) = true := by
  unfold psOk
  refine allI_true fun j hj => ?_
  by_cases h1 : j < l.length
  · rw [gp_left _ _ _ h1]; exact allI_at h j h1
  · have : j = l.length := by simp at hj; omega
    subst this
    rw [gp_snoc]; exact hp
theorem infoPart : (Try.prog.info? 23).map (fun i => (i.zero, i.size, i.bytes)) = some (some (pv ⟨0, 0, 0, 0, 0, 0⟩), 6, 48) := by kernel_rfl
theorem news_part {w : World} {g : Nat} {T : TypeId} (p : Pt) (h : Bk w g T (pa p)) : ∀ j u, (pl p)[j]? = some u → w.cell? ((⟨g, 0, none⟩ : Addr).add j) = some u := World.news_of_block h
theorem news_parts {w : World} {g : Nat} {T : TypeId} (l : List Pt) (h : Bk w g T (l.flatMap pl).toArray) : ∀ j u, (l.flatMap pl)[j]? = some u → w.cell? ((⟨g, 0, none⟩ : Addr).add j) = some u := World.news_of_block h
theorem pl_one (p : Pt) : ∀ u ∈ pl p, u.oneCell' = true := by simp [pl, Value.oneCell']
/-- Enemies that ascend, below a number. -/
def EnS (id : Int) (l : List Int) (e : Nat) : Prop := (∀ i, i < l.length → enAt id l i = true) ∧ (∀ i, i < l.length → gi l i < e) ∧ l.length ≤ e
theorem ens_nil (id : Int) : EnS id [] 0 := ⟨fun i hi => absurd hi (by simp), fun i hi => absurd hi (by simp), by simp⟩
theorem ens_step {id : Int} {l : List Int} {e : Nat} (h : EnS id l e) : EnS id l (e + 1) := ⟨h.1, fun i hi => by have := h.2.1 i hi; omega, by have := h.2.2; omega⟩
theorem ens_snoc {id : Int} {l : List Int} {e : Nat} (h : EnS id l e) (he : e ≤ 9999) (hid : (e : Int) ≠ id) : EnS id (l ++ [(e : Int)]) (e + 1) := by
  obtain ⟨h1, h2, h3⟩ := h
  refine ⟨fun i hi => ?_, fun i hi => ?_, by simp; omega⟩
  · by_cases hi' : i < l.length
    · have := decide_eq_true_iff.1 (h1 i hi')
      refine decide_eq_true ?_
      rw [gi_left _ _ _ hi', gi_left _ _ (i - 1) (by omega)]
      exact this
    · have e1 : i = l.length := by simp at hi; omega
      subst e1
      refine decide_eq_true ⟨?_, ?_, ?_, ?_⟩
      · rw [gi_snoc]; omega
      · rw [gi_snoc]; omega
      · rw [gi_snoc]; exact hid
      · by_cases h0 : l.length = 0
        · exact .inl h0
        · right
          rw [gi_snoc, gi_left _ _ _ (by omega)]
          exact h2 _ (by omega)
  · by_cases hi' : i < l.length
    · rw [gi_left _ _ _ hi']; have := h2 i hi'; omega
    · have e1 : i = l.length := by simp at hi; omega
      subst e1
      rw [gi_snoc]; omega
abbrev itz : Array Value := #[.int .i64 0, .int .i64 0, .string ⟨#[]⟩, .slice none 0 0, .slice none 0 0]
/-- What the ending of Item is. -/
def TIt (id ver n : Int) (tp : Nat) (w : World) (e : Ending) (w' : World) : Prop := ∃ (x : It) (A : Option Addr) (c : Nat) (E : Option Addr) (d : Nat), ItOk w' x A E ∧ (∀ a, A = some a → w.heap.size ≤ a.block) ∧ (∀ a, E = some a → w.heap.size ≤ a.block) ∧ (n ≤ 0 → isn id = true → 1 ≤ ver → ver ≤ 8 → x.id = id ∧ chk x = 0 ∧ x.ps.length ≤ 3) ∧ e = .returned (iv x A c E d) ∧ Tp w' tp ∧ w.grownBy w' (some tp)

theorem set5 (w : World) (g : Nat) (a b c d e : Value) : w.grownBy (((((w.setCell ⟨g, 0, none⟩ a).setCell ⟨g, 1, none⟩ b).setCell ⟨g, 2, none⟩ c).setCell ⟨g, 3, none⟩ d).setCell ⟨g, 4, none⟩ e) (some g) :=
  gb_set (p := ⟨g, 4, none⟩) (gb_set (p := ⟨g, 3, none⟩) (gb_set (p := ⟨g, 2, none⟩) (gb_set (p := ⟨g, 1, none⟩) (gb_set (p := ⟨g, 0, none⟩) (gb_refl _ _) (.inl rfl) _) (.inl rfl) _) (.inl rfl) _) (.inl rfl) _) (.inl rfl) _
theorem far5 {w : World} {tp : Nat} (h : Tp w tp) (g : Nat) (hg : tp < g) (a b c d e : Value) : Tp (((((w.setCell ⟨g, 0, none⟩ a).setCell ⟨g, 1, none⟩ b).setCell ⟨g, 2, none⟩ c).setCell ⟨g, 3, none⟩ d).setCell ⟨g, 4, none⟩ e) tp :=
  ((((h.far (p := ⟨g, 0, none⟩) hg _).far (p := ⟨g, 1, none⟩) hg _).far (p := ⟨g, 2, none⟩) hg _).far (p := ⟨g, 3, none⟩) hg _).far (p := ⟨g, 4, none⟩) hg _
theorem bk5 {w : World} {g : Nat} {T : TypeId} {a b c d e : Value} (h : Bk w g T #[a, b, c, d, e]) : (w.cell? ⟨g, 0, none⟩ = some a ∧ w.cell? ⟨g, 1, none⟩ = some b ∧ w.cell? ⟨g, 2, none⟩ = some c ∧ w.cell? ⟨g, 3, none⟩ = some d ∧ w.cell? ⟨g, 4, none⟩ = some e) ∧ w.frozen? ⟨g, 0, none⟩ = false ∧ w.frozen? ⟨g, 1, none⟩ = false ∧ w.frozen? ⟨g, 2, none⟩ = false ∧ w.frozen? ⟨g, 3, none⟩ = false ∧ w.frozen? ⟨g, 4, none⟩ = false :=
  ⟨⟨h.cell 0, h.cell 1, h.cell 2, h.cell 3, h.cell 4⟩, h.frozen 0, h.frozen 1, h.frozen 2, h.frozen 3, h.frozen 4⟩
theorem abc_prt {s : ByteArray} {n : Nat} (h : Abc s n) : prt (⟨#[113]⟩ ++ s) = true := by
  refine allI_true fun j hj => ?_
  have e : (ByteArray.mk #[113]).size = 1 := rfl
  by_cases h0 : j < 1
  · obtain rfl : j = 0 := by omega
    rw [byt_app_lt _ _ _ (by rw [e]; omega)]; rfl
  · rw [ByteArray.size_append, e] at hj
    rw [byt_app_ge _ _ _ (by rw [e]; omega), e]
    have := h.2 (j - 1) (by omega)
    exact decide_eq_true (by omega)
theorem item_valid {id ver : Int} {s : ByteArray} {ps : List Pt} {en : List Int} (hs : Abc s 3) (h1 : 1 ≤ ps.length) (h2 : ps.length ≤ 3) (hp : psOk ps = true) (he : EnS id en 6) (hid : isn id = true) (v1 : 1 ≤ ver) (v2 : ver ≤ 8) :
    chk ⟨id, ver, ⟨#[113]⟩ ++ s, ps, en⟩ = 0 := by
  have e : (ByteArray.mk #[113] ++ s).size = 1 + s.size := by rw [ByteArray.size_append]; rfl
  have hs3 := hs.1
  have hel := he.2.2
  exact chk_0 ⟨hid, v1, v2⟩ ⟨by show (ByteArray.mk #[113] ++ s).size ≤ 40; omega, by show ps.length ≤ 6; omega, by show en.length ≤ 8; omega⟩ ⟨by show (ByteArray.mk #[113] ++ s).size ≠ 0; omega, abc_prt hs⟩ (by show ps.length ≠ 0; omega) hp (allI_true he.1)

set_option maxHeartbeats 4000000 in
set_option maxRecDepth 100000 in
theorem item_any (tp : Nat) (id ver n : Int) (w : World) (ht : Tp w tp) (hn : n ≤ 1000000) :
    Calls Try.prog 16 #[.pointer (some ⟨tp, 0, none⟩), .int .i64 id, .int .i64 ver, .int .i64 n] w (TIt id ver n tp w) := by
  obtain ⟨i0, hi0, hz0, hz1, hz2⟩ := info_parts infoPart
  obtain ⟨j0, hj0, hy0, hy1, hy2⟩ := info_parts infoInt
  have hlt := ht.lt
  go_enter Try.func16, Try.ntmps16
  go_wp2_with fail
  refine (word_any tp 3 _ (ht.alloc _) (by omega) (by omega)).mono ?_
  rintro e w1 ⟨s, hs, rfl, ht1, hg1⟩
  have r1 : Bk w1 w.heap.size 33 itz := Bk.kept (by exact Bk.new' rfl) hg1 (by omega)
  have hc1 := gb_trans (gb_alloc (gb_refl w (some tp)) _) hg1
  have hs3 := hs.1
  have hq1 : (ByteArray.mk #[113]).size ≤ 1 := by decide
  have hz := r1.lt
  clear hg1
  go_wp2_with fail
  refine (range_any tp 1 3 _ (ht1.alloc _) (by omega) (by omega) (by omega)).mono ?_
  rintro e w2 ⟨N0, hN, rfl, ht2, hg2⟩
  obtain ⟨N, rfl⟩ := Int.eq_ofNat_of_zero_le (show 0 ≤ N0 by omega)
  have r2 := (r1.alloc _).kept hg2 (by omega)
  have hc2 := gb_trans (gb_alloc hc1 _) hg2
  have hI2 : IS w2 w1.heap.size tp ⟨id, ver, ⟨#[113]⟩ ++ s, [], []⟩ (.slice none 0 0) (.slice none 0 0) := ⟨Bk.kept (by exact Bk.new' rfl) hg2 (by omega), World.ownsRow_nil _ _ _ _, World.ownsRow_nil _ _ _ _, ht2, by omega⟩
  clear hg2 ht1 r1 hc1
  go_wp2_with fail
  go_loopw [10] (fun j wr => ∃ (k : Nat) (ps : List Pt) (vP : Value), j = .int .i64 k ∧ ps.length + k = N ∧ psOk ps = true ∧ IS wr w1.heap.size tp ⟨id, ver, ⟨#[113]⟩ ++ s, ps, []⟩ vP (.slice none 0 0) ∧ Bk wr w.heap.size 33 itz ∧ w.grownBy wr (some tp)) (fun j _ => (intOf j).toNat)
  case atStart => exact ⟨N, [], _, rfl, by simp, rfl, hI2, r2, hc2⟩
  case round =>
    clear hI2 r2 hc2 ht2
    obtain ⟨k, ps, vP, rfl, hlen, hps, hI, hr, hc⟩ := hrel
    have Hlen := Lib.hid hlen
    have Hps := Lib.hid hps
    have hl1 : ps.length ≤ 3 := by omega
    have hk3 : k ≤ 3 := by omega
    clear hlen hps
    by_cases hk0 : 0 < k
    · have hk0' : (0 : Int) < k := by omega
      have d3 : wr.cell? ⟨w1.heap.size, 3, none⟩ = some vP := hI.bk.cell 3
      go_wp2_with fail
      go_region_law (first
        | (refine step_append_lies _ (by rfl) (.tmp 25) (.tmp 28) 31 (by rfl) (w1.heap.size + 1) 23 i0 (pv ⟨0, 0, 0, 0, 0, 0⟩) 6 48 Try.underlying31 hi0 hz0 hz1 hz2 rfl (by decide) vP ps.length (ps.flatMap pl) (by rfl) (hI3.ps.alloc _) ⟨w3.heap.size, 0, none⟩ 1 1 (pl p) (by rfl) rfl (news_part p (by exact Bk.new' rfl)) (pl_one p) (by decide) (by simp only [maxLen]; omega) (by omega) (by simp; omega) _ rfl ?_
           intro g4 cap4 w4 hown4 hgrow4 hat4 hlt4
           have e3 : w4.cell? ⟨w1.heap.size, 3, none⟩ = some vP := ((hI3.alloc _).bk.grown hgrow4 (fun e => by have := (hI3.ps.lt _ e.symm).1; omega)).cell 3
           have ef : w4.frozen? ⟨w1.heap.size, 3, none⟩ = false := ((hI3.alloc _).bk.grown hgrow4 (fun e => by have := (hI3.ps.lt _ e.symm).1; omega)).frozen 3)
        | (go_simp
           go_at_call 23
           refine (part_any tp 0 _ (by exact hI.tape) (by omega)).mono ?_
           rintro e w3 ⟨p, hp64, hpv, rfl, ht3, hg3⟩
           have hI3 := hI.turn (gb_trans (gb_drew (gb_refl _ _)) hg3) ht3
           have d4 : w3.cell? ⟨w1.heap.size, 3, none⟩ = some vP := hI3.bk.cell 3
           have hb3 := hI3.bk.lt
           have hr3 := hr.kept (gb_trans (gb_drew (gb_refl _ _)) hg3) (by omega)
           have hc3 := gb_trans hc (gb_trans (gb_drew (gb_refl _ _)) hg3)))
      all_goals
        have hI4 := (hI3.alloc _).addP (l := [p]) hgrow4 hown4
        have hr4 := Bk.far (p := ⟨w1.heap.size, 3, none⟩) ((hr3.alloc _).grown hgrow4 (fun e => by have := (hI3.ps.lt _ e.symm).1; omega)) (by simp; omega) (.slice (some ⟨g4, 0, none⟩) (ps.length + 1) cap4)
        have hc4 := gb_set (p := ⟨w1.heap.size, 3, none⟩) (gb_grown (gb_alloc hc3 _) hgrow4 (fun k hk => by have := (hI3.ps.lt k hk).1; omega)) (.inr (by simp; omega)) (.slice (some ⟨g4, 0, none⟩) (ps.length + 1) cap4)
        clear hgrow4 hown4 hI3 hr3 hc3 hg3 d3 d4 e3 ef
        go_wp2_with fail
        go_roundw
        case rel => exact ⟨k - 1, ps ++ [p], _, by go_num, by have := Hlen.out; simp; omega, psOk_snoc Hps.out (hpv (by omega)), hI4, hr4, hc4⟩
        case measure => simp [intOf]; omega
    · have hN1 : 1 ≤ ps.length := by have := Hlen.out; omega
      go_wp2_with fail
      obtain ⟨wo, rfl⟩ : ∃ wo : World, wo = wr := ⟨_, rfl⟩
      go_loopw [11] (fun j wr => ∃ (q : Nat) (en : List Int) (vE : Value), j = .int .i64 q ∧ q ≤ 6 ∧ EnS id en q ∧ IS wr w1.heap.size tp ⟨id, ver, ⟨#[113]⟩ ++ s, ps, en⟩ vP vE ∧ Bk wr w.heap.size 33 itz ∧ w.grownBy wr (some tp)) (fun j _ => 6 - (intOf j).toNat)
      case atStart => exact ⟨0, [], _, rfl, by omega, ens_nil id, hI, hr, hc⟩
      case round =>
        clear hI hr hc
        obtain ⟨q, en, vE, rfl, hq, hen, hI, hr, hc⟩ := hrel
        have Hen := Lib.hid hen
        have hel : en.length ≤ 6 := by have := hen.2.2; omega
        clear hen
        by_cases hq6 : q < 6
        · have hq6' : (q : Int) < 6 := by omega
          cases hqi : ((q : Int) != id)
          · go_wp2_with fail
            go_roundw
            case rel => exact ⟨q + 1, en, vE, by go_num, by omega, ens_step Hen.out, hI, hr, hc⟩
            case measure => simp [intOf]; omega
          · go_wp2_with fail
            refine (one_any tp 8 _ hI.tape (by omega) (by omega)).mono ?_
            rintro e w3 ⟨x, rfl, ht3, hg3⟩
            have hI3 := hI.turn hg3 ht3
            have hr3 := hr.kept hg3 (by omega)
            have hc3 := gb_trans hc hg3
            have hb3 := hI3.bk.lt
            clear hI hr hc hg3 ht3
            cases x
            · go_wp2_with fail
              go_roundw
              case rel => exact ⟨q + 1, en, vE, by go_num, by omega, ens_step Hen.out, hI3, hr3, hc3⟩
              case measure => simp [intOf]; omega
            · have d4 : w3.cell? ⟨w1.heap.size, 4, none⟩ = some vE := hI3.bk.cell 4
              go_wp2_with (at_builtin; refine wpList_append_lies _ rfl _ _ 28 rfl (w1.heap.size + 1) 3 j0 (.int .i64 0) 1 8 Try.underlying28 hj0 hy0 hy1 hy2 rfl (by decide) vE en.length (en.map (Value.int .i64)) rfl (hI3.en.alloc _) ⟨w3.heap.size, 0, none⟩ 1 1 [.int .i64 (q : Int)] rfl rfl (cell_one_new _ _ _) ?c2 (by decide) ?c3 ?c4 ?c5 _ rfl ?_)
              case c2 => simp [Value.oneCell']
              case c3 => simp only [maxLen]; omega
              case c4 => omega
              case c5 => simp; omega
              intro g4 cap4 w4 hown4 hgrow4 hat4 hlt4
              have hI4 := (hI3.alloc _).addE (l := [(q : Int)]) hgrow4 hown4
              have hB4 := (hI3.alloc (.cells #[.int .i64 (q : Int)] 3)).bk.grown hgrow4 (fun e => by have := (hI3.en.lt _ e.symm).1; omega)
              have e3 : w4.cell? ⟨w1.heap.size, 4, none⟩ = some vE := hB4.cell 4
              have ef : w4.frozen? ⟨w1.heap.size, 4, none⟩ = false := hB4.frozen 4
              have hr4 := Bk.far (p := ⟨w1.heap.size, 4, none⟩) ((hr3.alloc _).grown hgrow4 (fun e => by have := (hI3.en.lt _ e.symm).1; omega)) (by simp; omega) (.slice (some ⟨g4, 0, none⟩) (en.length + 1) cap4)
              have hc4 := gb_set (p := ⟨w1.heap.size, 4, none⟩) (gb_grown (gb_alloc hc3 _) hgrow4 (fun k hk => by have := (hI3.en.lt k hk).1; omega)) (.inr (by simp; omega)) (.slice (some ⟨g4, 0, none⟩) (en.length + 1) cap4)
              clear hgrow4 hown4 hI3 hr3 hc3 d4 hB4
              go_wp2_with fail
              go_roundw
              case rel => exact ⟨q + 1, en ++ [(q : Int)], _, by go_num, by omega, ens_snoc Hen.out (by omega) (by simpa using hqi), hI4, hr4, hc4⟩
              case measure => simp [intOf]; omega
        · obtain rfl : q = 6 := by omega
          have hsz : (ByteArray.mk #[113] ++ s).size ≤ 1000000 := by rw [ByteArray.size_append]; omega
          by_cases hn0 : n ≤ 0
          · obtain ⟨x, hx⟩ : ∃ x : It, x = ⟨id, ver, ⟨#[113]⟩ ++ s, ps, en⟩ := ⟨_, rfl⟩
            have HV : Hid (n ≤ 0 → isn id = true → 1 ≤ ver → ver ≤ 8 → x.id = id ∧ chk x = 0 ∧ x.ps.length ≤ 3) := fun _ h1 h2 h3 => by rw [hx]; exact ⟨rfl, item_valid hs hN1 hl1 Hps.out Hen.out h1 h2 h3, hl1⟩
            have HS : Hid (x.stem.size ≤ 1000000 ∧ x.ps.length ≤ 1000000 ∧ x.en.length ≤ 1000000) := by rw [hx]; exact ⟨hsz, by show ps.length ≤ 1000000; omega, by show en.length ≤ 1000000; omega⟩
            rw [← hx] at hI
            clear hx
            obtain ⟨⟨c0, c1, c2, c3, c4⟩, f0, f1, f2, f3, f4⟩ := bk5 hI.bk
            obtain ⟨⟨e0, e1, e2, e3, e4⟩, m0, m1, m2, m3, m4⟩ := bk5 hr
            obtain ⟨A1, cA, rfl, hrP, haP⟩ := own_parts hI.ps
            obtain ⟨E1, cE, rfl, hrE, haE⟩ := own_ints hI.en
            have hG := set5 wr w.heap.size (.int .i64 x.id) (.int .i64 x.ver) (.string x.stem) (.slice A1 x.ps.length cA) (.slice E1 x.en.length cE)
            have HO : Hid (ItOk _ x A1 E1) := ⟨hrP.grown hG (fun a ha => by have := (haP a ha).1; omega), hrE.grown hG (fun a ha => by have := (haE a ha).1; omega), HS.out⟩
            have HT := Lib.hid (far5 hI.tape w.heap.size hlt (.int .i64 x.id) (.int .i64 x.ver) (.string x.stem) (.slice A1 x.ps.length cA) (.slice E1 x.en.length cE))
            have HP := Lib.hid haP
            have HE := Lib.hid haE
            have HG := Lib.hid hG
            clear hG haP haE hrP hrE
            go_wp2_with fail
            refine bodyPost_ret (v := iv x A1 cA E1 cE) (by simp [results, Try.results16, go_sem, c0, c1, c2, c3, c4, e0, e1, e2, e3, e4]) rfl ⟨x, A1, cA, E1, cE, HO.out, fun a ha => by have := (HP.out a ha).1; omega, fun a ha => by have := (HE.out a ha).1; omega, HV.out, rfl, HT.out, gb_grown hc HG.out (fun k hk => by cases hk; omega)⟩
          · obtain ⟨x, hx⟩ : ∃ x : It, x = ⟨id, ver, ⟨#[113]⟩ ++ s, ps, en⟩ := ⟨_, rfl⟩
            have hx1 : 1 ≤ x.ps.length := by rw [hx]; exact hN1
            have hx2 : x.ps.length ≤ 3 := by rw [hx]; exact hl1
            have hx3 : x.en.length ≤ 6 := by rw [hx]; exact hel
            have hx4 : x.stem.size ≤ 1000000 := by rw [hx]; exact hsz
            rw [← hx] at hI
            clear hx
            go_wp2_with fail
            refine (one_any tp n _ hI.tape (by omega) (by omega)).mono ?_
            rintro e w6 ⟨y, rfl, ht6, hg6⟩
            have hI6 := hI.turn hg6 ht6
            have hr6 := hr.kept hg6 (by omega)
            have hc6 := gb_trans hc hg6
            clear hI hr hc hg6 ht6
            go_upto_if 54 with fail
            go_cut [] (fun wx => ∃ (x : It) (vP vE : Value), IS wx w1.heap.size tp x vP vE ∧ x.stem.size ≤ 1000000 ∧ x.ps.length ≤ 20 ∧ x.en.length ≤ 20 ∧ Bk wx w.heap.size 33 itz ∧ w.grownBy wx (some tp))
            case first =>
              cases y
              · go_wp2_with fail
                go_meet
                exact ⟨x, vP, vE, hI6, hx4, by omega, by omega, hr6, hc6⟩
              · go_wp2_with fail
                refine (next_any tp 7 _ hI6.tape (by omega) (by omega)).mono ?_
                rintro e w7 ⟨z, hz7, rfl, ht7, hg7⟩
                have hI7 := hI6.turn hg7 ht7
                have hr7 := hr6.kept hg7 (by omega)
                have hc7 := gb_trans hc6 hg7
                have hb7 := hI7.bk.lt
                clear hI6 hr6 hc6 hg7 ht7
                have hz8 : z = 0 ∨ z = 1 ∨ z = 2 ∨ z = 3 ∨ z = 4 ∨ z = 5 ∨ z = 6 := by omega
                obtain ⟨⟨c0, c1, c2, c3, c4⟩, f0, f1, f2, f3, f4⟩ := bk5 hI7.bk
                rcases hz8 with rfl | rfl | rfl | rfl | rfl | rfl | rfl
                · go_wp2_with fail
                  refine (wild_any tp _ hI7.tape).mono ?_
                  rintro e w8 ⟨v, hv8, rfl, ht8, hg8⟩
                  have hI8 := hI7.turn hg8 ht8
                  have hr8 := hr7.kept hg8 (by omega)
                  have hc8 := gb_trans hc7 hg8
                  clear c0 c1 c2 c3 c4 f0 f1 f2 f3 f4 hI7 hr7 hc7 hg8
                  obtain ⟨⟨c0, c1, c2, c3, c4⟩, f0, f1, f2, f3, f4⟩ := bk5 hI8.bk
                  go_wp2_with fail
                  go_meet
                  exact ⟨_, _, _, hI8.setId v, hx4, by show x.ps.length ≤ 20; omega, by show x.en.length ≤ 20; omega, hr8.far (by simp; omega) _, gb_set hc8 (.inr (by simp; omega)) _⟩
                · go_wp2_with fail
                  refine (pickl tp [0, 8, 9, -1] 4 w7 hI7.tape _ _ rfl (by decide) (by decide)).mono ?_
                  rintro e w8 ⟨v, hv8, rfl, ht8, hg8⟩
                  have hI8 := (hI7.alloc _).turn hg8 ht8
                  have hr8 := (hr7.alloc _).kept hg8 (by omega)
                  have hc8 := gb_trans (gb_alloc hc7 _) hg8
                  clear c0 c1 c2 c3 c4 f0 f1 f2 f3 f4 hI7 hr7 hc7 hg8
                  obtain ⟨⟨c0, c1, c2, c3, c4⟩, f0, f1, f2, f3, f4⟩ := bk5 hI8.bk
                  go_wp2_with fail
                  go_meet
                  exact ⟨_, _, _, hI8.setVer v, hx4, by show x.ps.length ≤ 20; omega, by show x.en.length ≤ 20; omega, hr8.far (by simp; omega) _, gb_set hc8 (.inr (by simp; omega)) _⟩
                · go_wp2_with fail
                  refine (next_any tp 3 _ (hI7.tape.alloc _) (by omega) (by omega)).mono ?_
                  rintro e w8 ⟨v, hv8, rfl, ht8, hg8⟩
                  have hI8 := (hI7.alloc _).turn hg8 ht8
                  have hr8 := (hr7.alloc _).kept hg8 (by omega)
                  have hc8 := gb_trans (gb_alloc hc7 _) hg8
                  have hB8 : Bk w8 w7.heap.size 9 #[.string ⟨#[]⟩, .string ⟨#[116, 97, 98, 9]⟩, .string ⟨#[48, 49, 50, 51, 52, 53, 54, 55, 56, 57, 48, 49, 50, 51, 52, 53, 54, 55, 56, 57, 48, 49, 50, 51, 52, 53, 54, 55, 56, 57, 48, 49, 50, 51, 52, 53, 54, 55, 56, 57, 120]⟩] := Bk.kept (by exact Bk.new' rfl) hg8 (by omega)
                  have s0 := hB8.cell 0
                  have s1 := hB8.cell 1
                  have s2 := hB8.cell 2
                  have hv9 : v = 0 ∨ v = 1 ∨ v = 2 := by omega
                  clear c0 c1 c2 c3 c4 f0 f1 f2 f3 f4 hI7 hr7 hc7 hg8
                  obtain ⟨⟨c0, c1, c2, c3, c4⟩, f0, f1, f2, f3, f4⟩ := bk5 hI8.bk
                  rcases hv9 with rfl | rfl | rfl
                  all_goals
                    go_wp2_with fail
                    go_meet
                    exact ⟨_, _, _, hI8.setStem _, by show (ByteArray.mk _).size ≤ 1000000; decide, by show x.ps.length ≤ 20; omega, by show x.en.length ≤ 20; omega, hr8.far (by simp; omega) _, gb_set hc8 (.inr (by simp; omega)) _⟩
                · go_wp2_with fail
                  go_meet
                  exact ⟨_, _, _, hI7.noParts, hx4, by simp, by show x.en.length ≤ 20; omega, hr7.far (by simp; omega) _, gb_set hc7 (.inr (by simp; omega)) _⟩
                · go_wp2_with fail
                  go_region_law (first
                    | (refine step_append_lies _ (by rfl) (.tmp 111) (.tmp 114) 31 (by rfl) (w1.heap.size + 1) 23 i0 (pv ⟨0, 0, 0, 0, 0, 0⟩) 6 48 Try.underlying31 hi0 hz0 hz1 hz2 rfl (by decide) vP x.ps.length (x.ps.flatMap pl) (by rfl) (hI8.ps.alloc _) ⟨w8.heap.size, 0, none⟩ 1 1 (pl p) (by rfl) rfl (news_part p (by exact Bk.new' rfl)) (pl_one p) (by decide) (by simp only [maxLen]; omega) (by omega) (by simp; omega) _ rfl ?_
                       intro g9 cap9 w9 hown9 hgrow9 hat9 hlt9
                       have e3 : w9.cell? ⟨w1.heap.size, 3, none⟩ = some vP := ((hI8.alloc _).bk.grown hgrow9 (fun e => by have := (hI8.ps.lt _ e.symm).1; omega)).cell 3
                       have ef : w9.frozen? ⟨w1.heap.size, 3, none⟩ = false := ((hI8.alloc _).bk.grown hgrow9 (fun e => by have := (hI8.ps.lt _ e.symm).1; omega)).frozen 3)
                    | (go_simp
                       go_at_call 23
                       refine (part_any tp 1 _ (by exact hI7.tape) (by omega)).mono ?_
                       rintro e w8 ⟨p, hp64, hpv, rfl, ht8, hg8⟩
                       have hI8 := hI7.turn (gb_trans (gb_drew (gb_refl _ _)) hg8) ht8
                       have d8 : w8.cell? ⟨w1.heap.size, 3, none⟩ = some vP := hI8.bk.cell 3
                       have hb8 := hI8.bk.lt
                       have hr8 := hr7.kept (gb_trans (gb_drew (gb_refl _ _)) hg8) (by omega)
                       have hc8 := gb_trans hc7 (gb_trans (gb_drew (gb_refl _ _)) hg8)))
                  all_goals
                    have hI9 := (hI8.alloc _).addP (l := [p]) hgrow9 hown9
                    have hr9 := Bk.far (p := ⟨w1.heap.size, 3, none⟩) ((hr8.alloc _).grown hgrow9 (fun e => by have := (hI8.ps.lt _ e.symm).1; omega)) (by simp; omega) (.slice (some ⟨g9, 0, none⟩) (x.ps.length + 1) cap9)
                    have hc9 := gb_set (p := ⟨w1.heap.size, 3, none⟩) (gb_grown (gb_alloc hc8 _) hgrow9 (fun k hk => by have := (hI8.ps.lt k hk).1; omega)) (.inr (by simp; omega)) (.slice (some ⟨g9, 0, none⟩) (x.ps.length + 1) cap9)
                    go_wp2_with fail
                    go_meet
                    exact ⟨_, _, _, hI9, hx4, by show (x.ps ++ [p]).length ≤ 20; simp; omega, by show x.en.length ≤ 20; omega, hr9, hc9⟩
                · go_wp2_with fail
                  go_region_law (first
                    | (refine step_append_lies _ (by rfl) (.tmp 120) (.tmp 125) 28 (by rfl) (w1.heap.size + 1) 3 j0 (.int .i64 0) 1 8 Try.underlying28 hj0 hy0 hy1 hy2 rfl (by decide) vE x.en.length (x.en.map (Value.int .i64)) (by rfl) (hI8.en.alloc _) ⟨w8.heap.size, 0, none⟩ 1 1 [.int .i64 v] (by rfl) rfl (cell_one_new _ _ _) (by simp [Value.oneCell']) (by decide) (by simp only [maxLen]; omega) (by omega) (by simp; omega) _ rfl ?_
                       intro g9 cap9 w9 hown9 hgrow9 hat9 hlt9
                       have e3 : w9.cell? ⟨w1.heap.size, 4, none⟩ = some vE := ((hI8.alloc _).bk.grown hgrow9 (fun e => by have := (hI8.en.lt _ e.symm).1; omega)).cell 4
                       have ef : w9.frozen? ⟨w1.heap.size, 4, none⟩ = false := ((hI8.alloc _).bk.grown hgrow9 (fun e => by have := (hI8.en.lt _ e.symm).1; omega)).frozen 4)
                    | (go_simp
                       go_at_call 39
                       refine (pickl tp [0, id, -1, 10000, 3] 5 w7.drew (by exact hI7.tape) _ _ rfl (by simp) (by simp)).mono ?_
                       rintro e w8 ⟨v, hv8, rfl, ht8, hg8⟩
                       have hI8 := (hI7.alloc _).turn (gb_trans (gb_drew (gb_refl _ _)) hg8) ht8
                       have d8 : w8.cell? ⟨w1.heap.size, 4, none⟩ = some vE := hI8.bk.cell 4
                       have hb8 := hI8.bk.lt
                       have hr8 := (hr7.alloc _).kept (gb_trans (gb_drew (gb_refl _ _)) hg8) (by omega)
                       have hc8 := gb_trans (gb_alloc hc7 _) (gb_trans (gb_drew (gb_refl _ _)) hg8)))
                  all_goals
                    have hI9 := (hI8.alloc _).addE (l := [v]) hgrow9 hown9
                    have hr9 := Bk.far (p := ⟨w1.heap.size, 4, none⟩) ((hr8.alloc _).grown hgrow9 (fun e => by have := (hI8.en.lt _ e.symm).1; omega)) (by simp; omega) (.slice (some ⟨g9, 0, none⟩) (x.en.length + 1) cap9)
                    have hc9 := gb_set (p := ⟨w1.heap.size, 4, none⟩) (gb_grown (gb_alloc hc8 _) hgrow9 (fun k hk => by have := (hI8.en.lt k hk).1; omega)) (.inr (by simp; omega)) (.slice (some ⟨g9, 0, none⟩) (x.en.length + 1) cap9)
                    go_wp2_with fail
                    go_meet
                    exact ⟨_, _, _, hI9, hx4, by show x.ps.length ≤ 20; omega, by show (x.en ++ [v]).length ≤ 20; simp; omega, hr9, hc9⟩
                · obtain ⟨gP, capP, hvP, _, hltP⟩ := hI7.ps.form (by omega)
                  have hcp : ∀ j, j < 6 → w7.cell? ⟨gP, j, none⟩ = (pl (gp x.ps 0))[j]? := fun j hj => by
                    have h := hI7.ps
                    rw [hvP] at h
                    rw [h.cellAt j (by omega), ← flat_at x.ps 0 j (by omega) hj, Nat.zero_mul, Nat.zero_add]
                  have p0 := hcp 0 (by omega)
                  have p1 := hcp 1 (by omega)
                  have p2 := hcp 2 (by omega)
                  have p3 := hcp 3 (by omega)
                  have p4 := hcp 4 (by omega)
                  have p5 := hcp 5 (by omega)
                  simp only [pl, List.getElem?_cons_zero, List.getElem?_cons_succ] at p0 p1 p2 p3 p4 p5
                  have hx1' : (0 : Int) < x.ps.length := by omega
                  clear hcp
                  go_wp2_with fail
                  rw [hvP] at c3
                  have hps := hI7.ps
                  rw [hvP] at hps
                  have hx1n : 0 < x.ps.length := by omega
                  have hl6 : ([gp x.ps 0, gp x.ps 0, gp x.ps 0, gp x.ps 0, gp x.ps 0, gp x.ps 0] : List Pt).length = 6 := rfl
                  refine Am.wp_region_M (S := fun w' => w'.cell? ⟨w1.heap.size, 3, none⟩ = some (.slice (some ⟨gP, 0, none⟩) x.ps.length capP) ∧ w'.cell? ⟨gP, 0, none⟩ = some (.int .i64 (gp x.ps 0).k) ∧ w'.cell? ⟨gP, 1, none⟩ = some (.int .i64 (gp x.ps 0).m) ∧ w'.cell? ⟨gP, 2, none⟩ = some (.int .i64 (gp x.ps 0).t) ∧ w'.cell? ⟨gP, 3, none⟩ = some (.int .i64 (gp x.ps 0).o) ∧ w'.cell? ⟨gP, 4, none⟩ = some (.int .i64 (gp x.ps 0).n) ∧ w'.cell? ⟨gP, 5, none⟩ = some (.int .i64 (gp x.ps 0).y)) [27, 28, 29] (by kernel_rfl) ⟨c3, p0, p1, p2, p3, p4, p5⟩ (fun hS => ?_)
                  change Am.wpAnyM _ _ _ _ _ _ 30 _ _ _
                  (refine Am.wpAnyM_take (i := 0) (v := ?_) rfl (by kernel_rfl) (by kernel_rfl) (by kernel_rfl) (by kernel_rfl) (by kernel_rfl) (fun _ _ _ h => h) (Or.inl ⟨by rfl, ?_⟩) hS ?_; rotate_left 1; focus (intro w' hSw; (try dsimp only at hSw); go_simp; try (with_reducible rfl)); try simp only [Act.put, List.setIfInBounds_toArray, List.set_cons_zero, List.set_cons_succ])
                  (refine Am.wpAnyM_take (i := 1) (v := ?_) rfl (by kernel_rfl) (by kernel_rfl) (by kernel_rfl) (by kernel_rfl) (by kernel_rfl) (fun _ _ _ h => h) (Or.inl ⟨by rfl, ?_⟩) hS ?_; rotate_left 1; focus (intro w' hSw; (try dsimp only at hSw); go_simp; try (with_reducible rfl)); try simp only [Act.put, List.setIfInBounds_toArray, List.set_cons_zero, List.set_cons_succ])
                  (refine Am.wpAnyM_take (i := 2) (v := ?_) rfl (by kernel_rfl) (by kernel_rfl) (by kernel_rfl) (by kernel_rfl) (by kernel_rfl) (fun _ _ _ h => h) (Or.inl ⟨by rfl, ?_⟩) hS ?_; rotate_left 1; focus (intro w' hSw; (try dsimp only at hSw); go_simp; try (with_reducible rfl)); try simp only [Act.put, List.setIfInBounds_toArray, List.set_cons_zero, List.set_cons_succ])
                  (refine Am.wpAnyM_take (i := 3) (v := ?_) rfl (by kernel_rfl) (by kernel_rfl) (by kernel_rfl) (by kernel_rfl) (by kernel_rfl) (fun _ _ _ h => h) (Or.inl ⟨by rfl, ?_⟩) hS ?_; rotate_left 1; focus (intro w' hSw; (try dsimp only at hSw); go_simp; try (with_reducible rfl)); try simp only [Act.put, List.setIfInBounds_toArray, List.set_cons_zero, List.set_cons_succ])
                  (refine Am.wpAnyM_take (i := 4) (v := ?_) rfl (by kernel_rfl) (by kernel_rfl) (by kernel_rfl) (by kernel_rfl) (by kernel_rfl) (fun _ _ _ h => h) (Or.inl ⟨by rfl, ?_⟩) hS ?_; rotate_left 1; focus (intro w' hSw; (try dsimp only at hSw); go_simp; try (with_reducible rfl)); try simp only [Act.put, List.setIfInBounds_toArray, List.set_cons_zero, List.set_cons_succ])
                  (refine Am.wpAnyM_take (i := 5) (v := ?_) rfl (by kernel_rfl) (by kernel_rfl) (by kernel_rfl) (by kernel_rfl) (by kernel_rfl) (fun _ _ _ h => h) (Or.inl ⟨by rfl, ?_⟩) hS ?_; rotate_left 1; focus (intro w' hSw; (try dsimp only at hSw); go_simp; try (with_reducible rfl)); try simp only [Act.put, List.setIfInBounds_toArray, List.set_cons_zero, List.set_cons_succ])
                  (refine Am.wpAnyM_take (i := 6) (v := ?_) rfl (by kernel_rfl) (by kernel_rfl) (by kernel_rfl) (by kernel_rfl) (by kernel_rfl) (fun _ _ _ h => h) (Or.inl ⟨by rfl, ?_⟩) hS ?_; rotate_left 1; focus (intro w' hSw; (try dsimp only at hSw); go_simp; try (with_reducible rfl)); try simp only [Act.put, List.setIfInBounds_toArray, List.set_cons_zero, List.set_cons_succ])
                  (refine Am.wpAnyM_take (i := 7) (v := ?_) rfl (by kernel_rfl) (by kernel_rfl) (by kernel_rfl) (by kernel_rfl) (by kernel_rfl) (fun _ _ _ h => h) (Or.inl ⟨by rfl, ?_⟩) hS ?_; rotate_left 1; focus (intro w' hSw; (try dsimp only at hSw); go_simp; try (with_reducible rfl)); try simp only [Act.put, List.setIfInBounds_toArray, List.set_cons_zero, List.set_cons_succ])
                  (refine Am.wpAnyM_take (i := 8) (v := ?_) rfl (by kernel_rfl) (by kernel_rfl) (by kernel_rfl) (by kernel_rfl) (by kernel_rfl) (fun _ _ _ h => h) (Or.inl ⟨by rfl, ?_⟩) hS ?_; rotate_left 1; focus (intro w' hSw; (try dsimp only at hSw); go_simp; try (with_reducible rfl)); try simp only [Act.put, List.setIfInBounds_toArray, List.set_cons_zero, List.set_cons_succ])
                  (refine Am.wpAnyM_take (i := 9) (v := ?_) rfl (by kernel_rfl) (by kernel_rfl) (by kernel_rfl) (by kernel_rfl) (by kernel_rfl) (fun _ _ _ h => h) (Or.inl ⟨by rfl, ?_⟩) hS ?_; rotate_left 1; focus (intro w' hSw; (try dsimp only at hSw); go_simp; try (with_reducible rfl)); try simp only [Act.put, List.setIfInBounds_toArray, List.set_cons_zero, List.set_cons_succ])
                  (refine Am.wpAnyM_take (i := 10) (v := ?_) rfl (by kernel_rfl) (by kernel_rfl) (by kernel_rfl) (by kernel_rfl) (by kernel_rfl) (fun _ _ _ h => h) (Or.inl ⟨by rfl, ?_⟩) hS ?_; rotate_left 1; focus (intro w' hSw; (try dsimp only at hSw); go_simp; try (with_reducible rfl)); try simp only [Act.put, List.setIfInBounds_toArray, List.set_cons_zero, List.set_cons_succ])
                  (refine Am.wpAnyM_take (i := 11) (v := ?_) rfl (by kernel_rfl) (by kernel_rfl) (by kernel_rfl) (by kernel_rfl) (by kernel_rfl) (fun _ _ _ h => h) (Or.inl ⟨by rfl, ?_⟩) hS ?_; rotate_left 1; focus (intro w' hSw; (try dsimp only at hSw); go_simp; try (with_reducible rfl)); try simp only [Act.put, List.setIfInBounds_toArray, List.set_cons_zero, List.set_cons_succ])
                  (refine Am.wpAnyM_take (i := 12) (v := ?_) rfl (by kernel_rfl) (by kernel_rfl) (by kernel_rfl) (by kernel_rfl) (by kernel_rfl) (fun _ _ _ h => h) (Or.inl ⟨by rfl, ?_⟩) hS ?_; rotate_left 1; focus (intro w' hSw; (try dsimp only at hSw); go_simp; try (with_reducible rfl)); try simp only [Act.put, List.setIfInBounds_toArray, List.set_cons_zero, List.set_cons_succ])
                  (refine Am.wpAnyM_take (i := 13) (v := ?_) rfl (by kernel_rfl) (by kernel_rfl) (by kernel_rfl) (by kernel_rfl) (by kernel_rfl) (fun _ _ _ h => h) (Or.inl ⟨by rfl, ?_⟩) hS ?_; rotate_left 1; focus (intro w' hSw; (try dsimp only at hSw); go_simp; try (with_reducible rfl)); try simp only [Act.put, List.setIfInBounds_toArray, List.set_cons_zero, List.set_cons_succ])
                  (refine Am.wpAnyM_take (i := 14) (v := ?_) rfl (by kernel_rfl) (by kernel_rfl) (by kernel_rfl) (by kernel_rfl) (by kernel_rfl) (fun _ _ _ h => h) (Or.inl ⟨by rfl, ?_⟩) hS ?_; rotate_left 1; focus (intro w' hSw; (try dsimp only at hSw); go_simp; try (with_reducible rfl)); try simp only [Act.put, List.setIfInBounds_toArray, List.set_cons_zero, List.set_cons_succ])
                  (refine Am.wpAnyM_take (i := 15) (v := ?_) rfl (by kernel_rfl) (by kernel_rfl) (by kernel_rfl) (by kernel_rfl) (by kernel_rfl) (fun _ _ _ h => h) (Or.inl ⟨by rfl, ?_⟩) hS ?_; rotate_left 1; focus (intro w' hSw; (try dsimp only at hSw); go_simp; try (with_reducible rfl)); try simp only [Act.put, List.setIfInBounds_toArray, List.set_cons_zero, List.set_cons_succ])
                  (refine Am.wpAnyM_take (i := 16) (v := ?_) rfl (by kernel_rfl) (by kernel_rfl) (by kernel_rfl) (by kernel_rfl) (by kernel_rfl) (fun _ _ _ h => h) (Or.inl ⟨by rfl, ?_⟩) hS ?_; rotate_left 1; focus (intro w' hSw; (try dsimp only at hSw); go_simp; try (with_reducible rfl)); try simp only [Act.put, List.setIfInBounds_toArray, List.set_cons_zero, List.set_cons_succ])
                  (refine Am.wpAnyM_take (i := 17) (v := ?_) rfl (by kernel_rfl) (by kernel_rfl) (by kernel_rfl) (by kernel_rfl) (by kernel_rfl) (fun _ _ _ h => h) (Or.inl ⟨by rfl, ?_⟩) hS ?_; rotate_left 1; focus (intro w' hSw; (try dsimp only at hSw); go_simp; try (with_reducible rfl)); try simp only [Act.put, List.setIfInBounds_toArray, List.set_cons_zero, List.set_cons_succ])
                  (refine Am.wpAnyM_take (i := 18) (v := ?_) rfl (by kernel_rfl) (by kernel_rfl) (by kernel_rfl) (by kernel_rfl) (by kernel_rfl) (fun _ _ _ h => h) (Or.inl ⟨by rfl, ?_⟩) hS ?_; rotate_left 1; focus (intro w' hSw; (try dsimp only at hSw); go_simp; try (with_reducible rfl)); try simp only [Act.put, List.setIfInBounds_toArray, List.set_cons_zero, List.set_cons_succ])
                  (refine Am.wpAnyM_take (i := 19) (v := ?_) rfl (by kernel_rfl) (by kernel_rfl) (by kernel_rfl) (by kernel_rfl) (by kernel_rfl) (fun _ _ _ h => h) (Or.inl ⟨by rfl, ?_⟩) hS ?_; rotate_left 1; focus (intro w' hSw; (try dsimp only at hSw); go_simp; try (with_reducible rfl)); try simp only [Act.put, List.setIfInBounds_toArray, List.set_cons_zero, List.set_cons_succ])
                  (refine Am.wpAnyM_take (i := 20) (v := ?_) rfl (by kernel_rfl) (by kernel_rfl) (by kernel_rfl) (by kernel_rfl) (by kernel_rfl) (fun _ _ _ h => h) (Or.inl ⟨by rfl, ?_⟩) hS ?_; rotate_left 1; focus (intro w' hSw; (try dsimp only at hSw); go_simp; try (with_reducible rfl)); try simp only [Act.put, List.setIfInBounds_toArray, List.set_cons_zero, List.set_cons_succ])
                  (refine Am.wpAnyM_take (i := 21) (v := ?_) rfl (by kernel_rfl) (by kernel_rfl) (by kernel_rfl) (by kernel_rfl) (by kernel_rfl) (fun _ _ _ h => h) (Or.inl ⟨by rfl, ?_⟩) hS ?_; rotate_left 1; focus (intro w' hSw; (try dsimp only at hSw); go_simp; try (with_reducible rfl)); try simp only [Act.put, List.setIfInBounds_toArray, List.set_cons_zero, List.set_cons_succ])
                  (refine Am.wpAnyM_take (i := 22) (v := ?_) rfl (by kernel_rfl) (by kernel_rfl) (by kernel_rfl) (by kernel_rfl) (by kernel_rfl) (fun _ _ _ h => h) (Or.inl ⟨by rfl, ?_⟩) hS ?_; rotate_left 1; focus (intro w' hSw; (try dsimp only at hSw); go_simp; try (with_reducible rfl)); try simp only [Act.put, List.setIfInBounds_toArray, List.set_cons_zero, List.set_cons_succ])
                  (refine Am.wpAnyM_take (i := 23) (v := ?_) rfl (by kernel_rfl) (by kernel_rfl) (by kernel_rfl) (by kernel_rfl) (by kernel_rfl) (fun _ _ _ h => h) (Or.inl ⟨by rfl, ?_⟩) hS ?_; rotate_left 1; focus (intro w' hSw; (try dsimp only at hSw); go_simp; try (with_reducible rfl)); try simp only [Act.put, List.setIfInBounds_toArray, List.set_cons_zero, List.set_cons_succ])
                  (refine Am.wpAnyM_take (i := 24) (v := ?_) rfl (by kernel_rfl) (by kernel_rfl) (by kernel_rfl) (by kernel_rfl) (by kernel_rfl) (fun _ _ _ h => h) (Or.inl ⟨by rfl, ?_⟩) hS ?_; rotate_left 1; focus (intro w' hSw; (try dsimp only at hSw); go_simp; try (with_reducible rfl)); try simp only [Act.put, List.setIfInBounds_toArray, List.set_cons_zero, List.set_cons_succ])
                  (refine Am.wpAnyM_take (i := 25) (v := ?_) rfl (by kernel_rfl) (by kernel_rfl) (by kernel_rfl) (by kernel_rfl) (by kernel_rfl) (fun _ _ _ h => h) (Or.inl ⟨by rfl, ?_⟩) hS ?_; rotate_left 1; focus (intro w' hSw; (try dsimp only at hSw); go_simp; try (with_reducible rfl)); try simp only [Act.put, List.setIfInBounds_toArray, List.set_cons_zero, List.set_cons_succ])
                  refine Am.wpAnyM_one (i := 26) (by kernel_rfl) rfl (fun K hK => ?_)
                  go_simp
                  refine hK.out _ _ (by refine ⟨?_, ?_, ?_, ?_, ?_, ?_, ?_⟩ <;> (repeat (first | with_reducible assumption | with_reducible refine Mw.cell_alloc ?_ _ | with_reducible refine Mw.cell_drew ?_ | with_reducible refine Mw.cell_far ?_ (by first | assumption | omega | (simp; omega)) _))) (fun hS => ?_)
                  clear hK K
                  (try simp only [Act.put, List.setIfInBounds_toArray, List.set_cons_zero, List.set_cons_succ])
                  refine Am.wpAnyM_tail (i := 27) (by kernel_rfl) rfl (by rfl) (fun K hK => ?_)
                  refine step_append_lies _ (by rfl) (.tmp 58) (.tmp 83) 31 (by rfl) (w1.heap.size + 1) 23 i0 (pv ⟨0, 0, 0, 0, 0, 0⟩) 6 48 Try.underlying31 hi0 hz0 hz1 hz2 rfl (by decide) (.slice (some ⟨gP, 0, none⟩) x.ps.length capP) x.ps.length (x.ps.flatMap pl) (by rfl) (by first | exact hps.alloc _ | exact (hps.alloc _).drew | exact hps.drew.alloc _) ⟨w7.heap.size, 0, none⟩ 6 6 ([gp x.ps 0, gp x.ps 0, gp x.ps 0, gp x.ps 0, gp x.ps 0, gp x.ps 0].flatMap pl) (by rfl) rfl (news_parts (T := 23) [gp x.ps 0, gp x.ps 0, gp x.ps 0, gp x.ps 0, gp x.ps 0, gp x.ps 0] (by first | exact Bk.drew (Bk.new' rfl) | exact Bk.new' rfl)) (by simp [pl, Value.oneCell']) (by decide) (by simp only [maxLen]; omega) (by omega) (by simp; omega) _ rfl ?_
                  intro g9 cap9 w9 hown9 hgrow9 hat9 hlt9
                  refine hK.out _ _ ?_
                  clear hK K
                  (try simp only [Act.put, List.setIfInBounds_toArray, List.set_cons_zero, List.set_cons_succ])
                  have hI8 := hI7.old (w' := (w7.alloc (.cells ([gp x.ps 0, gp x.ps 0, gp x.ps 0, gp x.ps 0, gp x.ps 0, gp x.ps 0].flatMap pl).toArray 23)).drew) (((Below.refl _ _).alloc (Nat.le_refl _) _).drew)
                  have hr8 := hr7.old (w' := (w7.alloc (.cells ([gp x.ps 0, gp x.ps 0, gp x.ps 0, gp x.ps 0, gp x.ps 0, gp x.ps 0].flatMap pl).toArray 23)).drew) (((Below.refl _ _).alloc (Nat.le_refl _) _).drew)
                  have hc8 := gb_drew (gb_alloc hc7 (.cells ([gp x.ps 0, gp x.ps 0, gp x.ps 0, gp x.ps 0, gp x.ps 0, gp x.ps 0].flatMap pl).toArray 23))
                  have hgr : ((w7.alloc (.cells ([gp x.ps 0, gp x.ps 0, gp x.ps 0, gp x.ps 0, gp x.ps 0, gp x.ps 0].flatMap pl).toArray 23)).drew).grownBy w9 vP.ownBlock := by rw [hvP]; exact hgrow9
                  have hB9 := hI8.bk.grown hgr (fun e => by have := (hI8.ps.lt _ e.symm).1; omega)
                  have e3 : w9.cell? ⟨w1.heap.size, 3, none⟩ = some vP := hB9.cell 3
                  have ef : w9.frozen? ⟨w1.heap.size, 3, none⟩ = false := hB9.frozen 3
                  have hI9 := hI8.addP (l := [gp x.ps 0, gp x.ps 0, gp x.ps 0, gp x.ps 0, gp x.ps 0, gp x.ps 0]) hgr hown9
                  have hr9 := Bk.far (p := ⟨w1.heap.size, 3, none⟩) (hr8.grown hgr (fun e => by have := (hI8.ps.lt _ e.symm).1; omega)) (by simp; omega) (.slice (some ⟨g9, 0, none⟩) (x.ps.length + 6) cap9)
                  have hc9 := gb_set (p := ⟨w1.heap.size, 3, none⟩) (gb_grown hc8 hgr (fun k hk => by have := (hI8.ps.lt k hk).1; omega)) (.inr (by simp; omega)) (.slice (some ⟨g9, 0, none⟩) (x.ps.length + 6) cap9)
                  clear hown9 hgrow9 hgr hI8 hr8 hc8 hB9 hI7 hr7 hc7 hps
                  (refine Am.wpAnyM_tail (i := 28) (by kernel_rfl) rfl (by rfl) (fun K hK => ?_); go_simp; refine hK.out _ _ ?_; clear hK K; try simp only [Act.put, List.setIfInBounds_toArray, List.set_cons_zero, List.set_cons_succ])
                  (refine Am.wpAnyM_tail (i := 29) (by kernel_rfl) rfl (by rfl) (fun K hK => ?_); go_simp; refine hK.out _ _ ?_; clear hK K; try simp only [Act.put, List.setIfInBounds_toArray, List.set_cons_zero, List.set_cons_succ])
                  refine Am.wpAnyM_done (by kernel_rfl) ?_ _
                  go_wp2_with fail
                  go_meet
                  exact ⟨_, _, _, hI9, hx4, by show (x.ps ++ _).length ≤ 20; simp; omega, by show x.en.length ≤ 20; omega, hr9, hc9⟩
            case rest =>
              clear hI6 hr6 hc6 hx1 hx2 hx3 hx4
              obtain ⟨x, vP, vE, hI, hx4, hx2, hx3, hr, hc⟩ := hcut
              have HS : Hid (x.stem.size ≤ 1000000 ∧ x.ps.length ≤ 1000000 ∧ x.en.length ≤ 1000000) := ⟨hx4, by omega, by omega⟩
              obtain ⟨wr, rfl⟩ : ∃ wr : World, wr = wc := ⟨_, rfl⟩
              obtain ⟨⟨c0, c1, c2, c3, c4⟩, f0, f1, f2, f3, f4⟩ := bk5 hI.bk
              obtain ⟨⟨e0, e1, e2, e3, e4⟩, m0, m1, m2, m3, m4⟩ := bk5 hr
              obtain ⟨A1, cA, rfl, hrP, haP⟩ := own_parts hI.ps
              obtain ⟨E1, cE, rfl, hrE, haE⟩ := own_ints hI.en
              have hG := set5 wr w.heap.size (.int .i64 x.id) (.int .i64 x.ver) (.string x.stem) (.slice A1 x.ps.length cA) (.slice E1 x.en.length cE)
              have HO : Hid (ItOk _ x A1 E1) := ⟨hrP.grown hG (fun a ha => by have := (haP a ha).1; omega), hrE.grown hG (fun a ha => by have := (haE a ha).1; omega), HS.out⟩
              have HT := Lib.hid (far5 hI.tape w.heap.size hlt (.int .i64 x.id) (.int .i64 x.ver) (.string x.stem) (.slice A1 x.ps.length cA) (.slice E1 x.en.length cE))
              have HP := Lib.hid haP
              have HE := Lib.hid haE
              have HG := Lib.hid hG
              clear hG haP haE hrP hrE
              go_wp2_with fail
              refine bodyPost_ret (v := iv x A1 cA E1 cE) (by simp [results, Try.results16, go_sem, c0, c1, c2, c3, c4, e0, e1, e2, e3, e4]) rfl ⟨x, A1, cA, E1, cE, HO.out, fun a ha => by have := (HP.out a ha).1; omega, fun a ha => by have := (HE.out a ha).1; omega, fun h => by omega, rfl, HT.out, gb_grown hc HG.out (fun k hk => by cases hk; omega)⟩
end Go.Proofs.Ythjaomnmgggjbaa.Tm
