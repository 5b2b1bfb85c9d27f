/- Slices of integers that are read; equality of two arrays of four words. -/
import Derived.Test.YtdikoffppjoomaaGreatGE
import Derived.WalkKit
import Derived.WalkSpells
import Derived.WalkLawsBesides
import Derived.Deep.QuietTactic
import Derived.BigQuiet
import Derived.Deep.Draws
import Derived.Deep.AppendLies
import Derived.Laws.OwnMore
import Derived.Laws.BytesArg
import Derived.Lib.Hide
import Derived.Deep.LoopGhost
namespace Go.Proofs.YtdikoffppjoomaaGreat.Dg
open Go.RowKit

theorem Rd.lit (W : World) (kd : IntKind) (T : TypeId) (l : List Int) : Rd (W.alloc (.cells (l.map (Value.int kd)).toArray T)) (W.heap.size + 1) kd (some ⟨W.heap.size, 0, none⟩) l := fun i hi => by
  refine ⟨_, _, rfl, by omega, ?_⟩
  rw [World.cell?_alloc_at _ _ _ _ rfl]
  simp [gi, List.getElem?_eq_getElem hi]

theorem Rd.lit' {W W0 : World} {B g : Nat} {kd : IntKind} {cs : Array Value} {T : TypeId} {l : List Int} (hW : W = W0.alloc (.cells cs T)) (hcs : (l.map (Value.int kd)).toArray = cs) (hg : g = W0.heap.size) (hB : g < B) :
    Rd W B kd (some ⟨g, 0, none⟩) l := by
  subst hW hcs hg
  exact fun i hi => by
    obtain ⟨b, off, e, hlt, hc⟩ := Rd.lit W0 kd T l i hi
    exact ⟨b, off, e, by cases e; exact hB, hc⟩

theorem Rd.more {w : World} {B B' : Nat} {kd : IntKind} {A : Option Addr} {l : List Int} (h : Rd w B kd A l) (hB : B ≤ B') : Rd w B' kd A l := fun i hi => by
  obtain ⟨b, off, e, hlt, hc⟩ := h i hi
  exact ⟨b, off, e, by omega, hc⟩

/-- Equality of two states, as a Bool. -/
def eqb (s t : St) : Bool := s.1 == t.1 && s.2.1 == t.2.1 && s.2.2.1 == t.2.2.1 && s.2.2.2 == t.2.2.2
theorem eqb_iff (s t : St) : eqb s t = true ↔ s = t := by
  obtain ⟨a, b, c, d⟩ := s
  obtain ⟨a', b', c', d'⟩ := t
  simp [eqb, and_assoc]
theorem eqb_self (s : St) : eqb s s = true := (eqb_iff s s).2 rfl
theorem part_0 (a b c d : Int) (w : World) : (part 33 #[.int .u32 a, .int .u32 b, .int .u32 c, .int .u32 d] 0).run Tryz.prog w = .ok (.int .u32 a) w := by kernel_rfl
theorem part_1 (a b c d : Int) (w : World) : (part 33 #[.int .u32 a, .int .u32 b, .int .u32 c, .int .u32 d] 1).run Tryz.prog w = .ok (.int .u32 b) w := by kernel_rfl
theorem part_2 (a b c d : Int) (w : World) : (part 33 #[.int .u32 a, .int .u32 b, .int .u32 c, .int .u32 d] 2).run Tryz.prog w = .ok (.int .u32 c) w := by kernel_rfl
theorem part_3 (a b c d : Int) (w : World) : (part 33 #[.int .u32 a, .int .u32 b, .int .u32 c, .int .u32 d] 3).run Tryz.prog w = .ok (.int .u32 d) w := by kernel_rfl
theorem cells32 : Tryz.prog.cellsOf 33 = 1 := by kernel_rfl
theorem info32 : (Tryz.prog.info? 33).map (fun i => (i.zero, i.size, i.bytes)) = some (some (.int .u32 0), 1, 4) := by kernel_rfl
theorem eq4 (T : TypeId) (hu : Tryz.prog.underlying T = some (.array 4 33)) (s t : St) (w : World) : (Op.equalIn 10000 T (dv s) (dv t)).run Tryz.prog w = .ok (eqb s t) w := by
  obtain ⟨i0, hi, _⟩ := info_parts info32
  have h := run_equalIn_array (P := Tryz.prog) w 9999 (dv s).cells (dv t).cells hu hi
  refine h.trans ?_
  rw [cells32, show List.range 4 = [0, 1, 2, 3] from rfl]
  have e : ∀ (a b : Int) (W : World), (Op.equalIn 9999 33 (.int .u32 a) (.int .u32 b)).run Tryz.prog W = .ok (a == b) W := fun a b W => run_equalIn_int W 9998 _ _ _ a b Tryz.underlying33
  simp only [Op.eqItems, Sem.run_bind, Value.cells, eqb, Nat.mul_one]
  cases h0 : s.1 == t.1 <;> cases h1 : s.2.1 == t.2.1 <;> cases h2 : s.2.2.1 == t.2.2.1 <;> cases h3 : s.2.2.2 == t.2.2.2 <;> simp [part_0, part_1, part_2, part_3, e, h0, h1, h2, h3]
theorem eq_dig (a b c d a' b' c' d' : Int) (w : World) : (Op.equalIn 10000 35 (.agg #[.int .u32 a, .int .u32 b, .int .u32 c, .int .u32 d]) (.agg #[.int .u32 a', .int .u32 b', .int .u32 c', .int .u32 d'])).run Tryz.prog w = .ok (eqb (a, b, c, d) (a', b', c', d')) w :=
  eq4 _ Tryz.underlying35 (a, b, c, d) (a', b', c', d') w
/-- Word number k of four. -/
def wrd (s : St) (k : Nat) : Int := if k = 0 then s.1 else if k = 1 then s.2.1 else if k = 2 then s.2.2.1 else s.2.2.2
theorem index4_0 (s : St) (w : World) : (Instr.index 35 (dv s) (.int .i64 0)).run Tryz.prog w = .ok (.int .u32 s.1) w := by kernel_rfl
theorem index4_1 (s : St) (w : World) : (Instr.index 35 (dv s) (.int .i64 1)).run Tryz.prog w = .ok (.int .u32 s.2.1) w := by kernel_rfl
theorem index4_2 (s : St) (w : World) : (Instr.index 35 (dv s) (.int .i64 2)).run Tryz.prog w = .ok (.int .u32 s.2.2.1) w := by kernel_rfl
theorem index4_3 (s : St) (w : World) : (Instr.index 35 (dv s) (.int .i64 3)).run Tryz.prog w = .ok (.int .u32 s.2.2.2) w := by kernel_rfl
theorem index4 (s : St) (k : Nat) (h : k < 4) (w : World) : (Instr.index 35 (dv s) (.int .i64 k)).run Tryz.prog w = .ok (.int .u32 (wrd s k)) w := by
  have : k = 0 ∨ k = 1 ∨ k = 2 ∨ k = 3 := by omega
  rcases this with h | h | h | h <;> subst h
  · exact index4_0 s w
  · exact index4_1 s w
  · exact index4_2 s w
  · exact index4_3 s w

end Go.Proofs.YtdikoffppjoomaaGreat.Dg
