/- Walks: items off the tape. -/
import Derived.Test.YthjaomnmgggjbaaTX
import Derived.WalkKit
import Derived.WalkSpells
import Derived.WalkLawsBesides
import Derived.Deep.QuietTactic
import Derived.BigQuiet
import Derived.Deep.Draws
import Derived.Deep.AppendLies
import Derived.Laws.OwnMore
import Derived.Laws.BytesArg
import Derived.Lib.Hide
import Derived.Deep.LoopGhost
import Derived.Deep.DeepCutAuto
import Derived.Deep.RegionLaw
import Derived.Deep.AppendLies
namespace Go.Proofs.Ythjaomnmgggjbaa.Tm
open Go.RowKit Go.Proofs.Ythjaomnmgggjbaa.Mw
set_option linter.unusedVariables false

theorem psOk_snoc {l : List Pt} {p : Pt} (h : psOk l = true) (hp : vp p = true) : psOk (l ++ [p]) = true := by
  unfold psOk
  refine allI_true fun j hj => ?_
  by_cases h1 : j < l.length
  · rw [gp_left _ _ _ h1]; exact allI_at h j h1
  · have : j = l.length := by simp at hj; omega
    subst this
    rw [gp_snoc]; exact hp
theorem infoPart : (Try.prog.info? 23).map (fun i => (i.zero, i.size, i.bytes)) = some (some (pv ⟨0, 0, 0, 0, 0, 0⟩), 6, 48) := by kernel_rfl
theorem news_part {w : World} {g : Nat} {T : TypeId} (p : Pt) (h : Bk w g T (pa p)) : ∀ j u, (pl p)[j]? = some u → w.cell? ((⟨g, 0, none⟩ : Addr).add j) = some u := World.news_of_block h
theorem pl_one (p : Pt) : ∀ u ∈ pl p, u.oneCell' = true := by simp [pl, Value.oneCell']
/-- Enemies that ascend, below a number. -/
def EnS (id : Int) (l : List Int) (e : Nat) : Prop := (∀ i, i < l.length → enAt id l i = true) ∧ (∀ i, i < l.length → gi l i < e) ∧ l.length ≤ e
theorem ens_nil (id : Int) : EnS id [] 0 := ⟨fun i hi => absurd hi (by simp), fun i hi => absurd hi (by simp), by simp⟩
theorem ens_step {id : Int} {l : List Int} {e : Nat} (h : EnS id l e) : EnS id l (e + 1) := ⟨h.1, fun i hi => by have := h.2.1 i hi; omega, by have := h.2.2; omega⟩
theorem ens_snoc {id : Int} {l : List Int} {e : Nat} (h : EnS id l e) (he : e ≤ 9999) (hid : (e : Int) ≠ id) : EnS id (l ++ [(e : Int)]) (e + 1) := by
  obtain ⟨h1, h2, h3⟩ := h
  refine ⟨fun i hi => ?_, fun i hi => ?_, by simp; omega⟩
  · by_cases hi' : i < l.length
    · have := decide_eq_true_iff.1 (h1 i hi')
      refine decide_eq_true ?_
      rw [gi_left _ _ _ hi', gi_left _ _ (i - 1) (by omega)]
      exact this
    · have e1 : i = l.length := by simp at hi; omega
      subst e1
      refine decide_eq_true ⟨?_, ?_, ?_, ?_⟩
      · rw [gi_snoc]; omega
      · rw [gi_snoc]; omega
      · rw [gi_snoc]; exact hid
      · by_cases h0 : l.length = 0
        · exact .inl h0
        · right
          rw [gi_snoc, gi_left _ _ _ (by omega)]
          exact h2 _ (by omega)
  · by_cases hi' : i < l.length
    · rw [gi_left _ _ _ hi']; have := h2 i hi'; omega
    · have e1 : i = l.length := by simp at hi; omega
      subst e1
      rw [gi_snoc]; omega
abbrev itz : Array Value := #[.int .i64 0, .int .i64 0, .string ⟨#[]⟩, .slice none 0 0, .slice none 0 0]
/-- What the ending of Item is. -/
def TIt (id ver n : Int) (tp : Nat) (w : World) (e : Ending) (w' : World) : Prop := ∃ (x : It) (A : Option Addr) (c : Nat) (E : Option Addr) (d : Nat), ItOk w' x A E ∧ (∀ a, A = some a → w.heap.size ≤ a.block) ∧ (∀ a, E = some a → w.heap.size ≤ a.block) ∧ (n ≤ 0 → isn id = true → 1 ≤ ver → ver ≤ 8 → x.id = id ∧ chk x = 0 ∧ x.ps.length ≤ 3) ∧ e = .returned (iv x A c E d) ∧ Tp w' tp ∧ w.grownBy w' (some tp)

theorem set5 (w : World) (g : Nat) (a b c d e : Value) : w.grownBy (((((w.setCell ⟨g, 0, none⟩ a).setCell ⟨g, 1, none⟩ b).setCell ⟨g, 2, none⟩ c).setCell ⟨g, 3, none⟩ d).setCell ⟨g, 4, none⟩ e) (some g) :=
  gb_set (p := ⟨g, 4, none⟩) (gb_set (p := ⟨g, 3, none⟩) (gb_set (p := ⟨g, 2, none⟩) (gb_set (p := ⟨g, 1, none⟩) (gb_set (p := ⟨g, 0, none⟩) (gb_refl _ _) (.inl rfl) _) (.inl rfl) _) (.inl rfl) _) (.inl rfl) _) (.inl rfl) _
theorem far5 {w : World} {tp : Nat} (h : Tp w tp) (g : Nat) (hg : tp < g) (a b c d e : Value) : Tp (((((w.setCell ⟨g, 0, none⟩ a).setCell ⟨g, 1, none⟩ b).setCell ⟨g, 2, none⟩ c).setCell ⟨g, 3, none⟩ d).setCell ⟨g, 4, none⟩ e) tp :=
  ((((h.far (p := ⟨g, 0, none⟩) hg _).far (p := ⟨g, 1, none⟩) hg _).far (p := ⟨g, 2, none⟩) hg _).far (p := ⟨g, 3, none⟩) hg _).far (p := ⟨g, 4, none⟩) hg _
theorem bk5 {w : World} {g : Nat} {T : TypeId} {a b c d e : Value} (h : Bk w g T #[a, b, c, d, e]) : (w.cell? ⟨g, 0, none⟩ = some a ∧ w.cell? ⟨g, 1, none⟩ = some b ∧ w.cell? ⟨g, 2, none⟩ = some c ∧ w.cell? ⟨g, 3, none⟩ = some d ∧ w.cell? ⟨g, 4, none⟩ = some e) ∧ w.frozen? ⟨g, 0, none⟩ = false ∧ w.frozen? ⟨g, 1, none⟩ = false ∧ w.frozen? ⟨g, 2, none⟩ = false ∧ w.frozen? ⟨g, 3, none⟩ = false ∧ w.frozen? ⟨g, 4, none⟩ = false :=
  ⟨⟨h.cell 0, h.cell 1, h.cell 2, h.cell 3, h.cell 4⟩, h.frozen 0, h.frozen 1, h.frozen 2, h.frozen 3, h.frozen 4⟩
theorem abc_prt {s : ByteArray} {n : Nat} (h : Abc s n) : prt (⟨#[113]⟩ ++ s) = true := by
  refine allI_true fun j hj => ?_
  have e : (ByteArray.mk #[113]).size = 1 := rfl
  by_cases h0 : j < 1
  · obtain rfl : j = 0 := by omega
    rw [byt_app_lt _ _ _ (by rw [e]; omega)]; rfl
  · rw [ByteArray.size_append, e] at hj
    rw [byt_app_ge _ _ _ (by rw [e]; omega), e]
    have := h.2 (j - 1) (by omega)
    exact decide_eq_true (by omega)
theorem item_valid {id ver : Int} {s : ByteArray} {ps : List Pt} {en : List Int} (hs : Abc s 3) (h1 : 1 ≤ ps.length) (h2 : ps.length ≤ 3) (hp : psOk ps = true) (he : EnS id en 6) (hid : isn id = true) (v1 : 1 ≤ ver) (v2 : ver ≤ 8) :
    chk ⟨id, ver, ⟨#[113]⟩ ++ s, ps, en⟩ = 0 := by
  have e : (ByteArray.mk #[113] ++ s).size = 1 + s.size := by rw [ByteArray.size_append]; rfl
  have hs3 := hs.1
  have hel := he.2.2
  exact chk_0 ⟨hid, v1, v2⟩ ⟨by show (ByteArray.mk #[113] ++ s).size ≤ 40; omega, by show ps.length ≤ 6; omega, by show en.length ≤ 8; omega⟩ ⟨by show (ByteArray.mk #[113] ++ s).size ≠ 0; omega, abc_prt hs⟩ (by show ps.length ≠ 0; omega) hp (allI_true he.1)

set_option maxHeartbeats 4000000 in
set_option maxRecDepth 100000 in
theorem item0_any (tp : Nat) (id ver n : Int) (w : World) (ht : Tp w tp) (hn : n ≤ 0) :
    Calls Try.prog 16 #[.pointer (some ⟨tp, 0, none⟩), .int .i64 id, .int .i64 ver, .int .i64 n] w (TIt id ver n tp w) := by
  obtain ⟨i0, hi0, hz0, hz1, hz2⟩ := info_parts infoPart
  obtain ⟨j0, hj0, hy0, hy1, hy2⟩ := info_parts infoInt
  have hlt := ht.lt
  go_enter Try.func16, Try.ntmps16
  go_wp2_with fail
  refine (word_any tp 3 _ (ht.alloc _) (by omega) (by omega)).mono ?_
  rintro e w1 ⟨s, hs, rfl, ht1, hg1⟩
  have r1 : Bk w1 w.heap.size 33 itz := Bk.kept (by exact Bk.new' rfl) hg1 (by omega)
  have hc1 := gb_trans (gb_alloc (gb_refl w (some tp)) _) hg1
  have hs3 := hs.1
  have hq1 : (ByteArray.mk #[113]).size ≤ 1 := by decide
  have hz := r1.lt
  clear hg1
  go_wp2_with fail
  refine (range_any tp 1 3 _ (ht1.alloc _) (by omega) (by omega) (by omega)).mono ?_
  rintro e w2 ⟨N0, hN, rfl, ht2, hg2⟩
  obtain ⟨N, rfl⟩ := Int.eq_ofNat_of_zero_le (show 0 ≤ N0 by omega)
  have r2 := (r1.alloc _).kept hg2 (by omega)
  have hc2 := gb_trans (gb_alloc hc1 _) hg2
  have hI2 : IS w2 w1.heap.size tp ⟨id, ver, ⟨#[113]⟩ ++ s, [], []⟩ (.slice none 0 0) (.slice none 0 0) := ⟨Bk.kept (by exact Bk.new' rfl) hg2 (by omega), World.ownsRow_nil _ _ _ _, World.ownsRow_nil _ _ _ _, ht2, by omega⟩
  clear hg2 ht1 r1 hc1
  go_wp2_with fail
  go_loopw [10] (fun j wr => ∃ (k : Nat) (ps : List Pt) (vP : Value), j = .int .i64 k ∧ ps.length + k = N ∧ psOk ps = true ∧ IS wr w1.heap.size tp ⟨id, ver, ⟨#[113]⟩ ++ s, ps, []⟩ vP (.slice none 0 0) ∧ Bk wr w.heap.size 33 itz ∧ w.grownBy wr (some tp)) (fun j _ => (intOf j).toNat)
  case atStart => exact ⟨N, [], _, rfl, by simp, rfl, hI2, r2, hc2⟩
  case round =>
    clear hI2 r2 hc2 ht2
    obtain ⟨k, ps, vP, rfl, hlen, hps, hI, hr, hc⟩ := hrel
    have Hlen := Lib.hid hlen
    have Hps := Lib.hid hps
    have hl1 : ps.length ≤ 3 := by omega
    have hk3 : k ≤ 3 := by omega
    clear hlen hps
    by_cases hk0 : 0 < k
    · have hk0' : (0 : Int) < k := by omega
      have d3 : wr.cell? ⟨w1.heap.size, 3, none⟩ = some vP := hI.bk.cell 3
      go_wp2_with fail
      go_region_law (first
        | (refine step_append_lies _ (by rfl) (.tmp 25) (.tmp 28) 31 (by rfl) (w1.heap.size + 1) 23 i0 (pv ⟨0, 0, 0, 0, 0, 0⟩) 6 48 Try.underlying31 hi0 hz0 hz1 hz2 rfl (by decide) vP ps.length (ps.flatMap pl) (by rfl) (hI3.ps.alloc _) ⟨w3.heap.size, 0, none⟩ 1 1 (pl p) (by rfl) rfl (news_part p (by exact Bk.new' rfl)) (pl_one p) (by decide) (by simp only [maxLen]; omega) (by omega) (by simp; omega) _ rfl ?_
           intro g4 cap4 w4 hown4 hgrow4 hat4 hlt4
           have e3 : w4.cell? ⟨w1.heap.size, 3, none⟩ = some vP := ((hI3.alloc _).bk.grown hgrow4 (fun e => by have := (hI3.ps.lt _ e.symm).1; omega)).cell 3
           have ef : w4.frozen? ⟨w1.heap.size, 3, none⟩ = false := ((hI3.alloc _).bk.grown hgrow4 (fun e => by have := (hI3.ps.lt _ e.symm).1; omega)).frozen 3)
        | (go_simp
           go_at_call 23
           refine (part_any tp 0 _ (by exact hI.tape) (by omega)).mono ?_
           rintro e w3 ⟨p, hp64, hpv, rfl, ht3, hg3⟩
           have hI3 := hI.turn (gb_trans (gb_drew (gb_refl _ _)) hg3) ht3
           have d4 : w3.cell? ⟨w1.heap.size, 3, none⟩ = some vP := hI3.bk.cell 3
           have hb3 := hI3.bk.lt
           have hr3 := hr.kept (gb_trans (gb_drew (gb_refl _ _)) hg3) (by omega)
           have hc3 := gb_trans hc (gb_trans (gb_drew (gb_refl _ _)) hg3)))
      all_goals
        have hI4 := (hI3.alloc _).addP (l := [p]) hgrow4 hown4
        have hr4 := Bk.far (p := ⟨w1.heap.size, 3, none⟩) ((hr3.alloc _).grown hgrow4 (fun e => by have := (hI3.ps.lt _ e.symm).1; omega)) (by simp; omega) (.slice (some ⟨g4, 0, none⟩) (ps.length + 1) cap4)
        have hc4 := gb_set (p := ⟨w1.heap.size, 3, none⟩) (gb_grown (gb_alloc hc3 _) hgrow4 (fun k hk => by have := (hI3.ps.lt k hk).1; omega)) (.inr (by simp; omega)) (.slice (some ⟨g4, 0, none⟩) (ps.length + 1) cap4)
        clear hgrow4 hown4 hI3 hr3 hc3 hg3 d3 d4 e3 ef
        go_wp2_with fail
        go_roundw
        case rel => exact ⟨k - 1, ps ++ [p], _, by go_num, by have := Hlen.out; simp; omega, psOk_snoc Hps.out (hpv (by omega)), hI4, hr4, hc4⟩
        case measure => simp [intOf]; omega
    · have hN1 : 1 ≤ ps.length := by have := Hlen.out; omega
      go_wp2_with fail
      obtain ⟨wo, rfl⟩ : ∃ wo : World, wo = wr := ⟨_, rfl⟩
      go_loopw [11] (fun j wr => ∃ (q : Nat) (en : List Int) (vE : Value), j = .int .i64 q ∧ q ≤ 6 ∧ EnS id en q ∧ IS wr w1.heap.size tp ⟨id, ver, ⟨#[113]⟩ ++ s, ps, en⟩ vP vE ∧ Bk wr w.heap.size 33 itz ∧ w.grownBy wr (some tp)) (fun j _ => 6 - (intOf j).toNat)
      case atStart => exact ⟨0, [], _, rfl, by omega, ens_nil id, hI, hr, hc⟩
      case round =>
        clear hI hr hc
        obtain ⟨q, en, vE, rfl, hq, hen, hI, hr, hc⟩ := hrel
        have Hen := Lib.hid hen
        have hel : en.length ≤ 6 := by have := hen.2.2; omega
        clear hen
        by_cases hq6 : q < 6
        · have hq6' : (q : Int) < 6 := by omega
          cases hqi : ((q : Int) != id)
          · go_wp2_with fail
            go_roundw
            case rel => exact ⟨q + 1, en, vE, by go_num, by omega, ens_step Hen.out, hI, hr, hc⟩
            case measure => simp [intOf]; omega
          · go_wp2_with fail
            refine (one_any tp 8 _ hI.tape (by omega) (by omega)).mono ?_
            rintro e w3 ⟨x, rfl, ht3, hg3⟩
            have hI3 := hI.turn hg3 ht3
            have hr3 := hr.kept hg3 (by omega)
            have hc3 := gb_trans hc hg3
            have hb3 := hI3.bk.lt
            clear hI hr hc hg3 ht3
            cases x
            · go_wp2_with fail
              go_roundw
              case rel => exact ⟨q + 1, en, vE, by go_num, by omega, ens_step Hen.out, hI3, hr3, hc3⟩
              case measure => simp [intOf]; omega
            · have d4 : w3.cell? ⟨w1.heap.size, 4, none⟩ = some vE := hI3.bk.cell 4
              go_wp2_with (at_builtin; refine wpList_append_lies _ rfl _ _ 28 rfl (w1.heap.size + 1) 3 j0 (.int .i64 0) 1 8 Try.underlying28 hj0 hy0 hy1 hy2 rfl (by decide) vE en.length (en.map (Value.int .i64)) rfl (hI3.en.alloc _) ⟨w3.heap.size, 0, none⟩ 1 1 [.int .i64 (q : Int)] rfl rfl (cell_one_new _ _ _) ?c2 (by decide) ?c3 ?c4 ?c5 _ rfl ?_)
              case c2 => simp [Value.oneCell']
              case c3 => simp only [maxLen]; omega
              case c4 => omega
              case c5 => simp; omega
              intro g4 cap4 w4 hown4 hgrow4 hat4 hlt4
              have hI4 := (hI3.alloc _).addE (l := [(q : Int)]) hgrow4 hown4
              have hB4 := (hI3.alloc (.cells #[.int .i64 (q : Int)] 3)).bk.grown hgrow4 (fun e => by have := (hI3.en.lt _ e.symm).1; omega)
              have e3 : w4.cell? ⟨w1.heap.size, 4, none⟩ = some vE := hB4.cell 4
              have ef : w4.frozen? ⟨w1.heap.size, 4, none⟩ = false := hB4.frozen 4
              have hr4 := Bk.far (p := ⟨w1.heap.size, 4, none⟩) ((hr3.alloc _).grown hgrow4 (fun e => by have := (hI3.en.lt _ e.symm).1; omega)) (by simp; omega) (.slice (some ⟨g4, 0, none⟩) (en.length + 1) cap4)
              have hc4 := gb_set (p := ⟨w1.heap.size, 4, none⟩) (gb_grown (gb_alloc hc3 _) hgrow4 (fun k hk => by have := (hI3.en.lt k hk).1; omega)) (.inr (by simp; omega)) (.slice (some ⟨g4, 0, none⟩) (en.length + 1) cap4)
              clear hgrow4 hown4 hI3 hr3 hc3 d4 hB4
              go_wp2_with fail
              go_roundw
              case rel => exact ⟨q + 1, en ++ [(q : Int)], _, by go_num, by omega, ens_snoc Hen.out (by omega) (by simpa using hqi), hI4, hr4, hc4⟩
              case measure => simp [intOf]; omega
        · obtain rfl : q = 6 := by omega
          have hsz : (ByteArray.mk #[113] ++ s).size ≤ 1000000 := by rw [ByteArray.size_append]; omega
          by_cases hn0 : n ≤ 0
          · obtain ⟨x, hx⟩ : ∃ x : It, x = ⟨id, ver, ⟨#[113]⟩ ++ s, ps, en⟩ := ⟨_, rfl⟩
            have HV : Hid (n ≤ 0 → isn id = true → 1 ≤ ver → ver ≤ 8 → x.id = id ∧ chk x = 0 ∧ x.ps.length ≤ 3) := fun _ h1 h2 h3 => by rw [hx]; exact ⟨rfl, item_valid hs hN1 hl1 Hps.out Hen.out h1 h2 h3, hl1⟩
            have HS : Hid (x.stem.size ≤ 1000000 ∧ x.ps.length ≤ 1000000 ∧ x.en.length ≤ 1000000) := by rw [hx]; exact ⟨hsz, by show ps.length ≤ 1000000; omega, by show en.length ≤ 1000000; omega⟩
            rw [← hx] at hI
            clear hx
            obtain ⟨⟨c0, c1, c2, c3, c4⟩, f0, f1, f2, f3, f4⟩ := bk5 hI.bk
            obtain ⟨⟨e0, e1, e2, e3, e4⟩, m0, m1, m2, m3, m4⟩ := bk5 hr
            obtain ⟨A1, cA, rfl, hrP, haP⟩ := own_parts hI.ps
            obtain ⟨E1, cE, rfl, hrE, haE⟩ := own_ints hI.en
            have hG := set5 wr w.heap.size (.int .i64 x.id) (.int .i64 x.ver) (.string x.stem) (.slice A1 x.ps.length cA) (.slice E1 x.en.length cE)
            have HO : Hid (ItOk _ x A1 E1) := ⟨hrP.grown hG (fun a ha => by have := (haP a ha).1; omega), hrE.grown hG (fun a ha => by have := (haE a ha).1; omega), HS.out⟩
            have HT := Lib.hid (far5 hI.tape w.heap.size hlt (.int .i64 x.id) (.int .i64 x.ver) (.string x.stem) (.slice A1 x.ps.length cA) (.slice E1 x.en.length cE))
            have HP := Lib.hid haP
            have HE := Lib.hid haE
            have HG := Lib.hid hG
            clear hG haP haE hrP hrE
            go_wp2_with fail
            refine bodyPost_ret (v := iv x A1 cA E1 cE) (by simp [results, Try.results16, go_sem, c0, c1, c2, c3, c4, e0, e1, e2, e3, e4]) rfl ⟨x, A1, cA, E1, cE, HO.out, fun a ha => by have := (HP.out a ha).1; omega, fun a ha => by have := (HE.out a ha).1; omega, HV.out, rfl, HT.out, gb_grown hc HG.out (fun k hk => by cases hk; omega)⟩
          · exact absurd hn hn0
end Go.Proofs.Ythjaomnmgggjbaa.Tm
