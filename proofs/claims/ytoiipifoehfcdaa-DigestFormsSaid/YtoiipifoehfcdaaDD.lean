/- Walks: Text of the program. -/
import Derived.Test.YtoiipifoehfcdaaDC
import Derived.WalkKit
import Derived.WalkSpells
import Derived.WalkLawsBesides
import Derived.Deep.QuietTactic
import Derived.BigQuiet
import Derived.Deep.Draws
import Derived.Deep.AppendLies
import Derived.Laws.OwnMore
import Derived.Laws.BytesArg
import Derived.Lib.Hide
import Derived.Deep.LoopGhost
namespace Go.Proofs.Ytoiipifoehfcdaa.Dg
open Go.RowKit

theorem info8 : (Try.prog.info? 5).map (fun i => (i.zero, i.size, i.bytes)) = some (some (.int .u8 0), 1, 1) := by kernel_rfl

/-- Word number k of four. -/
def wrd (s : St) (k : Nat) : Int := if k = 0 then s.1 else if k = 1 then s.2.1 else if k = 2 then s.2.2.1 else s.2.2.2
theorem index4_0 (s : St) (w : World) : (Instr.index 24 (dv s) (.int .i64 0)).run Try.prog w = .ok (.int .u32 s.1) w := by kernel_rfl
theorem index4_1 (s : St) (w : World) : (Instr.index 24 (dv s) (.int .i64 1)).run Try.prog w = .ok (.int .u32 s.2.1) w := by kernel_rfl
theorem index4_2 (s : St) (w : World) : (Instr.index 24 (dv s) (.int .i64 2)).run Try.prog w = .ok (.int .u32 s.2.2.1) w := by kernel_rfl
theorem index4_3 (s : St) (w : World) : (Instr.index 24 (dv s) (.int .i64 3)).run Try.prog w = .ok (.int .u32 s.2.2.2) w := by kernel_rfl
theorem index4 (s : St) (k : Nat) (h : k < 4) (w : World) : (Instr.index 24 (dv s) (.int .i64 k)).run Try.prog w = .ok (.int .u32 (wrd s k)) w := by
  have : k = 0 ∨ k = 1 ∨ k = 2 ∨ k = 3 := by omega
  rcases this with h | h | h | h <;> subst h
  · exact index4_0 s w
  · exact index4_1 s w
  · exact index4_2 s w
  · exact index4_3 s w
/-- Four bits of a word. -/
def nib (x : Int) (m : Nat) : Int := bits .and .u32 (x / 2 ^ (4 * m)) 15
/-- A hexadecimal digit as a byte. -/
def hexd (n : Int) : Int := if n < 10 then 48 + n else 87 + n
/-- Byte number i of the text of four words. -/
def dgt (s : St) (i : Nat) : Int := hexd (nib (wrd s (i / 8)) (7 - i % 8))
/-- The first n bytes of the text. -/
def tx (s : St) (n : Nat) : List Int := (List.range n).map (dgt s)
theorem tx_len (s : St) (n : Nat) : (tx s n).length = n := by simp [tx]
theorem tx_succ (s : St) (n : Nat) : tx s (n + 1) = tx s n ++ [dgt s n] := by simp [tx, List.range_succ]

theorem and15 (y : Int) : 0 ≤ bits .and .u32 y 15 ∧ bits .and .u32 y 15 ≤ 15 := by
  show 0 ≤ IntKind.u32.wrap ((BitVec.ofInt 32 y &&& BitVec.ofInt 32 15).toNat : Int) ∧ IntKind.u32.wrap ((BitVec.ofInt 32 y &&& BitVec.ofInt 32 15).toNat : Int) ≤ 15
  rw [IntKind.wrap_u32, BitVec.toNat_and]
  have : (BitVec.ofInt 32 y).toNat &&& (BitVec.ofInt 32 15).toNat ≤ 15 := Nat.and_le_right
  omega
theorem hexlook' : ∀ k : Fin 16, (((ByteArray.mk #[48, 49, 50, 51, 52, 53, 54, 55, 56, 57, 97, 98, 99, 100, 101, 102])[((k.val : Nat) : Int).toNat]'(by have := k.isLt; show ((k.val : Nat) : Int).toNat < 16; omega)).toNat : Int) = hexd ((k.val : Nat) : Int) := by decide +kernel
theorem hexlook (n : Int) (h0 : 0 ≤ n) (h1 : n ≤ 15) (hh : n.toNat < (ByteArray.mk #[48, 49, 50, 51, 52, 53, 54, 55, 56, 57, 97, 98, 99, 100, 101, 102]).size) :
    (((ByteArray.mk #[48, 49, 50, 51, 52, 53, 54, 55, 56, 57, 97, 98, 99, 100, 101, 102])[n.toNat]'hh).toNat : Int) = hexd n := by
  obtain ⟨m, rfl⟩ := Int.eq_ofNat_of_zero_le h0
  have hm : m < 16 := by omega
  exact hexlook' ⟨m, hm⟩
theorem dgt_at (s : St) (k m : Nat) (h : m < 8) : dgt s (8 * k + m) = hexd (nib (wrd s k) (7 - m)) := by
  unfold dgt
  rw [show (8 * k + m) / 8 = k by omega, show (8 * k + m) % 8 = m by omega]

set_option maxHeartbeats 400000 in
theorem text_any (s : St) (w : World) :
    Calls Try.prog 7 #[dv s] w fun e w' => e = .returned (.string (strOfNums (tx s 32))) ∧ Below w.heap.size w w' := by
  obtain ⟨i0, hi, hz0, hz1, hz2⟩ := info_parts info8
  go_enter Try.func7, Try.ntmps7
  go_wp2_with fail
  go_loopw [3, 8] (fun v j wr => ∃ k : Nat, k ≤ 4 ∧ j = .int .i64 k ∧ wr.ownsRow w.heap.size 5 1 v (8 * k) ((tx s (8 * k)).map (Value.int .u8)) ∧ Below w.heap.size w wr) (fun _ j _ => 4 - (intOf j).toNat)
  case atStart => exact ⟨0, by omega, rfl, World.ownsRow_nil _ _ _ _, by (repeat (first | with_reducible exact Below.refl _ _ | with_reducible refine bl_drewN ?_ _ | with_reducible refine Below.drew ?_ | with_reducible refine bl_alloc ?_ _ | with_reducible refine Below.alloc ?_ (by first | omega | (simp; done) | (simp; omega)) _ | with_reducible refine Below.setCell ?_ (by first | omega | (simp; done) | (simp; omega)) _ | with_reducible assumption))⟩
  case round =>
    obtain ⟨k, hk, rfl, hown, hb⟩ := hrel
    by_cases hlt : k < 4
    · have hix := index4 s k hlt
      have hbk : decide ((k : Int) < 4) = true := decide_eq_true (by omega)
      go_wp2_with fail
      obtain ⟨wo, rfl⟩ : ∃ wo : World, wo = wr := ⟨_, rfl⟩
      go_loopw [3, 6] (fun v j wr => ∃ m : Nat, m ≤ 8 ∧ j = .int .i64 (7 - m) ∧ wr.ownsRow w.heap.size 5 1 v (8 * k + m) ((tx s (8 * k + m)).map (Value.int .u8)) ∧ Below w.heap.size w wr) (fun _ j _ => (intOf j + 1).toNat)
      case atStart => exact ⟨0, by omega, rfl, hown, hb⟩
      case round =>
        clear hown hb
        obtain ⟨m, hm, rfl, hown, hb⟩ := hrel
        by_cases hmt : m < 8
        · obtain ⟨hn0, hn1⟩ := and15 (wrd s k / 2 ^ (4 * (7 - m)))
          have Hd := Lib.hid (dgt_at s k m hmt)
          go_wp2_with (at_builtin; refine wpList_append_own _ rfl _ _ 43 rfl w.heap.size 5 i0 (.int .u8 0) 1 1 Try.underlying43 hi hz0 hz1 hz2 rfl (by decide) _ _ _ rfl (hown.alloc _) ⟨wr.heap.size, 0, none⟩ 1 1 [_] rfl rfl (cell_one_new _ _ _) ?c2 ?c3 ?c4 ?c5 ?_)
          case c2 => simp [Value.oneCell']
          case c3 => simp only [maxLen]; omega
          case c4 => omega
          case c5 => have := hb.size; simp; omega
          intro v' w1 hown' hgrow _
          have hb1 : Below w.heap.size w w1 := (hb.alloc hb.size _).grown hgrow (by have := hb.size; simp; omega) (fun j hj => (hown.lt j hj).1)
          have hown1 : w1.ownsRow w.heap.size 5 1 v' (8 * k + (m + 1)) ((tx s (8 * k + (m + 1))).map (Value.int .u8)) := by
            rw [show 8 * k + (m + 1) = 8 * k + m + 1 by omega, tx_succ, List.map_append, Hd.out]
            have := hexlook _ hn0 hn1 (show _ < 16 by omega)
            rw [this] at hown'
            exact hown'
          clear hown' hgrow hown hb
          go_wp2
          go_roundw
          case rel => exact ⟨m + 1, by omega, by go_num, hown1, hb1⟩
          case measure => simp [intOf]; omega
        · obtain rfl : m = 8 := by omega
          go_wp2
          go_roundw
          case rel => exact ⟨k + 1, by omega, by go_num, hown, hb⟩
          case measure => simp [intOf]; omega
    · obtain rfl : k = 4 := by omega
      obtain ⟨g, cap, hv, _, hlt'⟩ := hown.form (by omega)
      have hcv := run_convert_bytes_arg (P := Try.prog) wr 43 5 Try.underlying43 Try.underlying5 g 0 32 cap (tx s 32) (tx_len s 32) (fun i hi => by
        subst hv
        rw [Nat.zero_add, hown.cellAt i (by omega), List.getElem?_map, List.getD_eq_getElem?_getD, List.getElem?_eq_getElem (by rw [tx_len]; omega)]
        rfl) 9 Try.underlying9
      rw [hv]
      clear hown hv
      go_wp2
      go_ret
      exact ⟨rfl, hb⟩
end Go.Proofs.Ytoiipifoehfcdaa.Dg
