/- Plain mathematics of the identity layer: candidate numbers as bytes. No program in sight. -/
import Derived.WalkKit
import Derived.Laws.BytesArg
import Derived.Deep.Draws
import Derived.Laws.Rows
namespace Go.Proofs.Ytpdekglmmgecmaa.Id
open Go.RowKit

/-- The check letters. -/
def LETS : List Int := [65, 66, 67, 68, 69, 70, 71, 72, 74, 75, 76, 77, 78, 80, 81, 82, 83, 84, 85, 86, 87, 88, 89]
/-- What a byte is above the digit nought, as bytes are reckoned. -/
def d8 (c : Int) : Int := (c - 48) % 256
/-- The weighted sum of eight bytes. -/
def lsum (b : Nat → Int) : Int := d8 (b 0) + 2 * d8 (b 1) + 3 * d8 (b 2) + 4 * d8 (b 3) + 5 * d8 (b 4) + 6 * d8 (b 5) + 7 * d8 (b 6) + 8 * d8 (b 7)
theorem d8_bd (c : Int) : 0 ≤ d8 c ∧ d8 c ≤ 255 := by unfold d8; omega
theorem lsum_bd (b : Nat → Int) : 0 ≤ lsum b ∧ lsum b ≤ 9180 := by
  have h0 := d8_bd (b 0); have h1 := d8_bd (b 1); have h2 := d8_bd (b 2); have h3 := d8_bd (b 3)
  have h4 := d8_bd (b 4); have h5 := d8_bd (b 5); have h6 := d8_bd (b 6); have h7 := d8_bd (b 7)
  unfold lsum; omega
/-- Letter number n. -/
def let_ (n : Int) : Int := LETS.getD n.toNat 0
/-- The check letter of eight bytes. -/
def ltr (b : Nat → Int) : Int := let_ (lsum b % 23)
/-- Nine bytes as a value. -/
abbrev wv (b : Nat → Int) : Value := .agg #[.int .u8 (b 0), .int .u8 (b 1), .int .u8 (b 2), .int .u8 (b 3), .int .u8 (b 4), .int .u8 (b 5), .int .u8 (b 6), .int .u8 (b 7), .int .u8 (b 8)]
abbrev wc (b : Nat → Int) : Array Value := #[.int .u8 (b 0), .int .u8 (b 1), .int .u8 (b 2), .int .u8 (b 3), .int .u8 (b 4), .int .u8 (b 5), .int .u8 (b 6), .int .u8 (b 7), .int .u8 (b 8)]

theorem letlook' : ∀ k : Fin 23, (((ByteArray.mk #[65, 66, 67, 68, 69, 70, 71, 72, 74, 75, 76, 77, 78, 80, 81, 82, 83, 84, 85, 86, 87, 88, 89])[((k.val : Nat) : Int).toNat]'(by have := k.isLt; show ((k.val : Nat) : Int).toNat < 23; omega)).toNat : Int) = let_ ((k.val : Nat) : Int) := by decide +kernel
theorem letlook (n : Int) (h0 : 0 ≤ n) (h1 : n < 23) (hh : n.toNat < (ByteArray.mk #[65, 66, 67, 68, 69, 70, 71, 72, 74, 75, 76, 77, 78, 80, 81, 82, 83, 84, 85, 86, 87, 88, 89]).size) :
    (((ByteArray.mk #[65, 66, 67, 68, 69, 70, 71, 72, 74, 75, 76, 77, 78, 80, 81, 82, 83, 84, 85, 86, 87, 88, 89])[n.toNat]'hh).toNat : Int) = let_ n := by
  obtain ⟨m, rfl⟩ := Int.eq_ofNat_of_zero_le h0
  have hm : m < 23 := by omega
  exact letlook' ⟨m, hm⟩

theorem ret_bool {a b : Bool} (h : a = b) : Ending.returned (.bool a) = .returned (.bool b) := by rw [h]
theorem bl_alloc {a w : World} (h : Below a.heap.size a w) (o : Obj) : Below a.heap.size a (w.alloc o) := h.alloc h.size o
theorem bl_trans {a b c : World} (h : Below a.heap.size a b) (k : Below b.heap.size b c) : Below a.heap.size a c := h.trans (k.mono h.size)
theorem bcell {W w1 : World} (hb : Below W.heap.size W w1) (n : Nat) (hn : n ≤ W.heap.size) : ∀ b o, b < n → w1.cell? ⟨b, o, none⟩ = W.cell? ⟨b, o, none⟩ :=
  fun b o h => hb.cell (p := ⟨b, o, none⟩) (Nat.lt_of_lt_of_le h hn)
theorem bl_drewN {B : Nat} {a w : World} (h : Below B a w) (n : Nat) : Below B a (w.drewN n) := ⟨h.os, h.tape, h.output, h.size, h.block⟩

/-- Byte number k of a string, as an integer. -/
def byt (s : ByteArray) (k : Nat) : Int := ((s.data.toList.getD k 0).toNat : Int)
theorem byt_at (s : ByteArray) (k : Nat) (h : k < s.size) : byt s k = ↑s[k].toNat := by
  have hk' : k < s.data.toList.length := by simpa using h
  unfold byt; rw [List.getD_eq_getElem?_getD, List.getElem?_eq_getElem hk']; rfl
theorem byt_bd (s : ByteArray) (k : Nat) : 0 ≤ byt s k ∧ byt s k ≤ 255 := by
  unfold byt
  have := (s.data.toList.getD k 0).toNat_lt
  omega
theorem list9 (l : List UInt8) (h : l.length = 9) : l.map (fun b : UInt8 => Value.int .u8 (b.toNat : Int)) = (wc fun k => ((l.getD k 0).toNat : Int)).toList := by
  match l, h with
  | [c0, c1, c2, c3, c4, c5, c6, c7, c8], _ => rfl
theorem list8 (l : List UInt8) (h : l.length = 8) : l.map (fun b : UInt8 => Value.int .u8 (b.toNat : Int)) ++ [.int .u8 0] = (wc fun k => ((l.getD k 0).toNat : Int)).toList := by
  match l, h with
  | [c0, c1, c2, c3, c4, c5, c6, c7], _ => rfl
theorem setRow_alloc (W : World) (cur cs : Array Value) (T : TypeId) : (W.alloc (.cells cur T)).setRow W.heap.size cs = W.alloc (.cells cs T) := by
  have e : (W.heap.push (.cells cur T)).modify W.heap.size (fun | .cells _ elem frozen => .cells cs elem frozen | o => o) = W.heap.push (.cells cs T) := by
    apply Array.ext_getElem?
    intro i
    rw [Array.getElem?_modify, Array.getElem?_push, Array.getElem?_push]
    by_cases h : i = W.heap.size
    · subst h; simp
    · rw [if_neg h, if_neg h, if_neg (fun e => h e.symm)]
  exact congrArg (fun h : Array Obj => ({ heap := h, tape := W.tape, drawn := W.drawn, os := W.os, output := W.output } : World)) e
end Go.Proofs.Ytpdekglmmgecmaa.Id
