/- Walks: read, Check. -/
import Derived.Test.YtdikoffppjoomaaGreatCH
import Derived.WalkKit
import Derived.WalkSpells
import Derived.WalkLawsBesides
import Derived.Deep.QuietTactic
import Derived.BigQuiet
import Derived.Deep.Draws
import Derived.Deep.AppendLies
import Derived.Laws.OwnMore
import Derived.Laws.BytesArg
import Derived.Lib.Hide
import Derived.Deep.LoopGhost
import Derived.Test.YtdikoffppjoomaaGreatIter
namespace Go.Proofs.YtdikoffppjoomaaGreat.Ct
open Go.RowKit Go.Proofs.YtdikoffppjoomaaGreat.Dg
open Go.Proofs.YtdikoffppjoomaaGreat.Mw (I64 ret_int ret_bool Bk bl_trans own_ints RdI RdR ge ge_lt gi ge_mem)
set_option linter.unusedVariables false
set_option linter.unusedSimpArgs false
set_option maxRecDepth 100000

theorem chN_stick {l : List Le} : ∀ {n m : Nat}, n ≤ m → chN l n ≠ 0 → chN l m = chN l n
  | n, 0, h, _ => by
    have e : n = 0 := by omega
    subst e; rfl
  | n, m + 1, h, h0 => by
    by_cases e : n = m + 1
    · subst e; rfl
    · have ih := chN_stick (by omega : n ≤ m) h0
      rw [chN_succ, if_neg (by rw [ih]; exact h0), ih]
theorem chN_V {l : List Le} {k : Nat} (hk : k ≤ l.length) (h : chN l k = 0) : V (l.take k) := by
  unfold V
  have h2 := chN_left (l.take k) (l.drop k) k (by simp; omega)
  rw [List.take_append_drop] at h2
  rw [show (l.take k).length = k by simp; omega, ← h2]
  exact h
theorem V_chk {l : List Le} (h : chk l = 0) : V l := by
  unfold chk at h
  split at h
  · omega
  · exact h
theorem chk_V {l : List Le} (h : V l) : chk l = 0 := by
  have h1 := (inv_of h).len
  unfold chk
  rw [if_neg (by omega)]
  exact h
/-- What read returns: the ledger, or the error. -/
def RE (l : List Le) (w : World) (e : Ending) (w' : World) : Prop := ∃ v, e = .returned (.tuple #[v, .int .i64 (chk l)]) ∧ Below w.heap.size w w' ∧ (chk l = 0 → ∃ g b1 b2 b3, v = .pointer (some ⟨g, 0, none⟩) ∧ LM w' g l b1 b2 b3 ∧ w.heap.size ≤ g ∧ w.heap.size ≤ b1 ∧ w.heap.size ≤ b2 ∧ w.heap.size ≤ b3)
set_option maxHeartbeats 1000000 in
theorem read_any (l : List Le) (A : Option Addr) (c : Nat) (w : World) (hr : RdL w A l) (h64 : ∀ x, x ∈ l → Le64 x) : Calls Tryz.prog 47 #[.slice A l.length c] w (RE l w) := by
  by_cases h256 : 256 < l.length
  · have h1 : (256 : Int) < l.length := by omega
    have H : Hid (chk l = 3) := if_pos h256
    clear hr h64 h256
    go_enter Tryz.func47, Tryz.ntmps47
    go_wp2_with fail
    go_ret2
    exact ⟨_, by rw [H.out] <;> rfl, Below.refl _ _, fun h => by rw [H.out] at h; cases h⟩
  · have h1 : ¬ (256 : Int) < l.length := by omega
    have H : Hid (chk l = chN l l.length) := if_neg h256
    have HR := Lib.hid hr
    have H64 := Lib.hid h64
    clear hr h64
    go_enter Tryz.func47, Tryz.ntmps47
    go_wp2_with fail
    refine (newledger_any _).mono ?_
    rintro e w1 ⟨g, b1, b2, b3, rfl, hM, hg0, hg1, hg2, hg3, hb1⟩
    go_wp2_with fail
    go_loopw [14] (fun i wr => ∃ k : Nat, k ≤ l.length ∧ i = .int .i64 k ∧ chN l k = 0 ∧ LM wr g (l.take k) b1 b2 b3 ∧ Below w.heap.size w wr) (fun i _ => l.length - (RowKit.intOf i).toNat)
    case atStart => exact ⟨0, by omega, rfl, rfl, hM, hb1⟩
    case round =>
      clear hM hb1
      obtain ⟨k, hk, rfl, hc, hM, hb⟩ := hrel
      by_cases hlt : k < l.length
      · obtain ⟨b, off, rfl, hbl, c0, c1, c2, c3, c4, c5⟩ := le_at (HR.out.old hb) k hlt
        have h64 := H64.out _ (ge_mem l k hlt)
        have hV := chN_V hk hc
        have hs : chN l (k + 1) = nxt (l.take k) (gE l k) := by rw [chN_succ, if_pos hc]
        have hle : (l.take k).length ≤ 256 := by simp; omega
        have HA := Lib.hid (add_any (l.take k) (ge l k) g b1 b2 b3 _ (hM.alloc (.cells #[.int .i64 (ge l k).k, .int .i64 (ge l k).f.i, .int .i64 (ge l k).f.c, .int .i64 (ge l k).f.g, .int .i64 (ge l k).f.t, .int .i64 (ge l k).f.r] 54)) hV h64 hle)
        have HS := Lib.hid hs
        clear hV hs hle h64 hM
        go_wp2_with fail
        refine HA.out.mono ?_
        rintro e w2 ⟨rfl, hM2, hgl2⟩
        have hgle : Below w.heap.size _ w2 := hgl2.below hg0 hg1 hg2 hg3 (by have := hb.size; simp; omega)
        have hb2 : Below w.heap.size w w2 := (Mw.bl_alloc hb _).trans hgle
        clear hgl2 hgle hb c0 c1 c2 c3 c4 c5
        by_cases hz : nxt (l.take k) (gE l k) = 0
        · have z0 : (nxt (l.take k) (gE l k) != 0) = false := by rw [hz]; rfl
          have z1 : (nxt (l.take k) (ge l k) != 0) = false := z0
          have hM3 : LM w2 g (l.take (k + 1)) b1 b2 b3 := by rw [take_gE hlt]; exact hM2 hz
          have hc2 : chN l (k + 1) = 0 := HS.out.trans hz
          clear hM2 hz
          go_wp2_with fail
          go_roundw
          case rel => exact ⟨k + 1, by omega, by go_num, hc2, hM3, hb2⟩
          case measure => simp [RowKit.intOf]; omega
        · have z0 : (nxt (l.take k) (gE l k) != 0) = true := bne_iff_ne.2 hz
          have z1 : (nxt (l.take k) (ge l k) != 0) = true := z0
          have HK : Hid (chk l = nxt (l.take k) (gE l k)) := by
            unfold Hid
            rw [H.out, ← HS.out]
            exact chN_stick (by omega) (by rw [HS.out]; exact hz)
          have HZ := Lib.hid hz
          clear hM2 hz
          go_wp2_with fail
          go_ret2
          exact ⟨_, by rw [HK.out] <;> rfl, hb2, fun h => absurd (HK.out.symm.trans h) HZ.out⟩
      · have hkl : k = l.length := by omega
        have HM : Hid (LM wr g l b1 b2 b3) := by unfold Hid; rw [hkl, List.take_length] at hM; exact hM
        have HK : Hid (chk l = 0) := by unfold Hid; rw [H.out, ← hkl]; exact hc
        clear hkl hM hc
        go_wp2_with fail
        go_ret2
        exact ⟨_, by rw [HK.out] <;> rfl, hb, fun _ => ⟨g, b1, b2, b3, rfl, HM.out, hg0, hg1, hg2, hg3⟩⟩
theorem check_log (l : List Le) (A : Option Addr) (c : Nat) (w : World) (hr : RdL w A l) (h64 : ∀ x, x ∈ l → Le64 x) : Calls Tryz.prog 24 #[.slice A l.length c] w fun e w' => e = .returned (.int .i64 (chk l)) ∧ Below w.heap.size w w' := by
  have HR := Lib.hid (read_any l A c w hr h64)
  clear hr h64
  go_enter Tryz.func24, Tryz.ntmps24
  go_wp2_with fail
  refine HR.out.mono ?_
  rintro e w2 ⟨v, rfl, hb, -⟩
  go_wp2_with fail
  go_ret
  exact ⟨rfl, hb⟩
end Go.Proofs.YtdikoffppjoomaaGreat.Ct
namespace Go.Proofs.YtdikoffppjoomaaGreat.Ct
open Go.RowKit Go.Maps Go.Sort Go.Shelf
open Go.Proofs.YtdikoffppjoomaaGreat.Mw (I64)
set_option linter.unusedVariables false
set_option linter.unusedSimpArgs false
set_option maxRecDepth 100000

theorem sortsA (m : Nat) : AnyZI.SortsIn Tryz.prog Tryz.sortedA_ren Fence.wide m :=
  ⟨fun blk off cap ss W hH hblk hsz => callsIn_wide.2 (AnyM.slices_Sort_int Tryz.sortA blk off cap ss W hH hblk hsz),
   fun p cap W => callsIn_wide.2 (AnyM.slices_Sort_int_none Tryz.sortA p cap W)⟩
theorem keys_c (mb : Option Nat) (W : World) : Calls Tryz.prog 87 #[.map mb] W fun e w' => e = .returned (.func (.func 114) #[] #[.pointer (some ⟨W.heap.size, 0, none⟩)]) ∧ w' = W.alloc (.cells #[.map mb] 95) :=
  (callsIn_wide (n := 5)).1 (AnyZI.keys_in Tryz.keysA Fence.wide 5 trivial rfl mb W)
set_option maxHeartbeats 1000000 in
theorem sorted_c {H : Type} (b nn : Nat) (D0 : DataW H) (R : Value → Option (DataW H × List MemPlace)) (w : World) (hown : w.ownsMap Tryz.prog 3 R b nn D0) (hmax : Maps.size D0 ≤ maxLen) (hbytes : Maps.size D0 * 8 ≤ 140737488355328) :
    Calls Tryz.prog 86 #[.func (.func 114) #[] #[.pointer (some ⟨w.heap.size, 0, none⟩)]] (w.alloc (.cells #[.map (some b)] 95)) fun e w' => ∃ (v : Value) (ss : List Int), e = .returned v ∧ ss.Perm (intKeys D0) ∧
      w'.ownsRow (w.alloc (.cells #[.map (some b)] 95)).heap.size 3 1 v ss.length ((ss.mergeSort (fun x y => decide (x ≤ y))).map encZ) ∧ (v = .slice none 0 0 ↔ ss = []) ∧ Below (w.alloc (.cells #[.map (some b)] 95)).heap.size (w.alloc (.cells #[.map (some b)] 95)) w' := by
  have hbl := hown.lt
  have hseq : SeqGives Fence.wide 2 Tryz.prog 114 #[.pointer (some ⟨w.heap.size, 0, none⟩)] encZ (fun ss => ss.Perm (intKeys D0)) (Maps.size D0) (w.alloc (.cells #[.map (some b)] 95)) :=
    AnyZI.keys_gives (ρ := Tryz.keysA_ren) { Tryz.keysA with } Fence.wide _ trivial rfl (by omega) w.heap.size b nn D0 _ (by simp) (by simp) (by
      obtain ⟨es, clock, hb, Ft, hs, hD⟩ := hown
      exact ⟨es, clock, (Below.heap_alloc _ _ b hbl).trans hb, Ft, hs, hD⟩)
  exact (callsIn_wide (n := 5)).1 (AnyZI.sorted_in Tryz.sortedA Fence.wide 5 trivial trivial trivial trivial rfl (by omega) (sortsA _) (enters_of Tryz.func113 (by kernel_rfl) rfl) 114 #[.pointer (some ⟨w.heap.size, 0, none⟩)] trivial (enters_of Tryz.func114 (by kernel_rfl) rfl) _ _ hmax hbytes _ hseq)
theorem intKeys_mem {H : Type} {P : Program} {k : TypeId} {R : Value → Option (DataW H × List MemPlace)} {w : World} {b n : Nat} {D0 : DataW H} (hown : w.ownsMap P k R b n D0) (K : Keyed P k) (hk : P.underlying k = some (.int .i64)) :
    (intKeys D0).Nodup ∧ ∀ x, x ∈ intKeys D0 ↔ has D0 (.int .i64 x) = true := by
  obtain ⟨es, hD, hpw, _⟩ := hown.entries K
  obtain ⟨es', hD', hko⟩ := hown.keysOf
  obtain rfl : es = es' := by rw [hD] at hD'; simpa using hD'
  subst hD
  have hk' : ∀ p ∈ es, ∃ x, p.1 = .int .i64 x := fun p hp => by obtain ⟨v, hv⟩ := hko p hp; obtain ⟨x, _, hx, _⟩ := Maps.keyOf_i64 hk hv; exact ⟨x, hx⟩
  constructor
  · show (es.map fun p => Go.intOf p.1).Nodup
    refine List.pairwise_map.2 (hpw.imp_of_mem fun {p q} hp' hq' hne e => hne ?_)
    obtain ⟨a, ha⟩ := hk' p hp'
    obtain ⟨b, hb⟩ := hk' q hq'
    rw [ha, hb] at e ⊢
    exact congrArg _ e
  · intro x
    rw [has_eq, List.any_eq_true]
    show x ∈ es.map (fun p => Go.intOf p.1) ↔ _
    rw [List.mem_map]
    constructor
    · rintro ⟨p, hp', rfl⟩
      obtain ⟨a, ha⟩ := hk' p hp'
      exact ⟨p, hp', by rw [ha]; simp [Lit.sameKey, Go.intOf]⟩
    · rintro ⟨p, hp', hs⟩
      obtain ⟨a, ha⟩ := hk' p hp'
      rw [ha] at hs
      exact ⟨p, hp', by rw [ha]; simpa [Lit.sameKey, Go.intOf] using hs⟩
/-- The numbers of the current certificates, sorted. -/
theorem keys_any {w : World} {b n : Nat} {f : Int → Option Value} (h : MapF RC w b n f) (hn : n ≤ 1000) :
    Calls Tryz.prog 86 #[.func (.func 114) #[] #[.pointer (some ⟨w.heap.size, 0, none⟩)]] (w.alloc (.cells #[.map (some b)] 95)) fun e w' => ∃ (v : Value) (ks : List Int), e = .returned v ∧ ks.Pairwise (· < ·) ∧ (∀ x, x ∈ ks ↔ I64 x ∧ (f x).isSome = true) ∧ ks.length ≤ n ∧ 
      w'.ownsRow (w.heap.size + 1) 3 1 v ks.length (ks.map (Value.int .i64)) ∧ Below w.heap.size w w' := by
  obtain ⟨D, hown, hf⟩ := h
  have hsz := hown.size_le
  refine (sorted_c b n D RC w hown (by simp only [maxLen]; omega) (by omega)).mono ?_
  rintro e w' ⟨v, ss, rfl, hp, hrow, -, hb⟩
  obtain ⟨hnd, hm⟩ := intKeys_mem hown (int_keyed Tryz.underlying3) Tryz.underlying3
  have hwf := intKeys_wf hown Tryz.underlying3
  have hpm := (List.mergeSort_perm ss fun x y => decide (x ≤ y)).trans hp
  have hs := List.pairwise_mergeSort (le := fun x y : Int => decide (x ≤ y)) (fun a b c h1 h2 => by simp only [decide_eq_true_eq] at *; omega) (fun a b => by simp only [Bool.or_eq_true, decide_eq_true_eq]; omega) ss
  refine ⟨v, ss.mergeSort fun x y => decide (x ≤ y), rfl, ?_, fun x => ?_, ?_, ?_, ?_⟩
  · have hnd' : (ss.mergeSort fun x y => decide (x ≤ y)).Nodup := hpm.nodup_iff.2 hnd
    refine (hs.and hnd').imp fun {a b} h => ?_
    have h1 := of_decide_eq_true h.1
    have h2 := h.2
    omega
  · rw [hpm.mem_iff, hm]
    constructor
    · intro hx
      have hw : (Lit.int .i64 x).wf = true := hwf x ((hm x).2 hx)
      have hI : I64 x := by
        simp [Lit.wf, IntKind.min, IntKind.max, IntKind.signed, IntKind.bits] at hw
        unfold Mw.I64; omega
      have := hf x hI
      cases e : f x with
      | none => rw [e] at this; rw [this] at hx; cases hx
      | some u => exact ⟨hI, rfl⟩
    · rintro ⟨hI, hx⟩
      have := hf x hI
      cases e : f x with
      | none => rw [e] at hx; cases hx
      | some u => rw [e] at this; exact this.1
  · rw [List.length_mergeSort, hp.length_eq]
    have : (intKeys D).length = Maps.size D := by
      obtain ⟨es, hD, _⟩ := hown.entries (int_keyed Tryz.underlying3)
      subst hD
      simp [intKeys, size_eq]
    omega
  · rw [List.length_mergeSort]
    have : (w.alloc (.cells #[.map (some b)] 95)).heap.size = w.heap.size + 1 := by simp
    rw [this] at hrow
    exact hrow
  · exact ((Below.refl _ w).alloc (Nat.le_refl _) _).trans (hb.mono (by simp))
end Go.Proofs.YtdikoffppjoomaaGreat.Ct
