/- A set of seats in memory: a map from seats to true. No walk. -/
import Derived.Test.YtcidpgjeddogmaaVW
import Derived.Maps.Own
import Derived.DeepKeys4
import Derived.WalkKit
import Derived.WalkSpells
import Derived.WalkLawsBesides
import Derived.Deep.QuietTactic
import Derived.BigQuiet
import Derived.Deep.Draws
import Derived.Deep.AppendLies
import Derived.Laws.OwnMore
import Derived.Laws.BytesArg
import Derived.Lib.Hide
import Derived.Deep.LoopGhost
namespace Go.Proofs.Ytcidpgjeddogmaa.Pl
open Go.RowKit
open Go.Proofs.Ytcidpgjeddogmaa.Mw
open Go.Proofs.Ytcidpgjeddogmaa.St
open Go.ChangeMaps Go.MapKept
set_option linter.unusedVariables false
set_option linter.unusedSimpArgs false

theorem seat_size : Try.prog.types.size = 119 + 2 := by kernel_rfl
theorem seat_law : WideMaps.KeyLaw Try.prog 50 := deep_law_laid (m := 3) (by kernel_rfl) (by omega) (by rw [seat_size]; decide) (by kernel_rfl) (by rw [Try.underlying50])
/-- The numbers of a place are numbers. -/
def PcI (p : Pc) : Prop := I64 p.m ∧ I64 p.r ∧ I64 p.l
theorem i64_wf {x : Int} (h : I64 x) : (Lit.int .i64 x).wf = true := by
  unfold I64 at h
  have h1 : IntKind.i64.min = -9223372036854775808 := by decide
  have h2 : IntKind.i64.max = 9223372036854775807 := by decide
  show (decide (IntKind.i64.min ≤ x) && decide (x ≤ IntKind.i64.max)) = true
  rw [h1, h2, decide_eq_true h.1, decide_eq_true h.2]; rfl
theorem kl_int {x : Int} (h : I64 x) (d : Nat) : Try.prog.keyLits (d + 1) 3 [.int .i64 x] = some [.int .i64 x] := by
  unfold Program.keyLits
  rw [Try.underlying3]
  simp only [i64_wf h, and_self, if_true]
theorem seat_key {p : Pc} (h : PcI p) : ∃ l, keyOf Try.prog 50 (seatv p) = some l := by
  obtain ⟨h1, h2, h3⟩ := h
  have hk : Try.prog.keyType 50 = true := by kernel_rfl
  have hc : Try.prog.cellsOf 50 = 3 := by kernel_rfl
  have hc3 : Try.prog.cellsOf 3 = 1 := by kernel_rfl
  have hf : (seatv p).formed Try.prog 50 = true := by
    unfold Value.formed
    rw [Try.underlying50]
    simp only [hc]; rfl
  have hl : Try.prog.keyLits (119 + 1 + 1 + 1) 50 [.int .i64 p.m, .int .i64 p.r, .int .i64 p.l] = some [.int .i64 p.m, .int .i64 p.r, .int .i64 p.l] := by
    unfold Program.keyLits
    rw [Try.underlying50]
    simp only [hc, hc3, List.mapM_cons, List.mapM_nil, List.drop_zero, List.drop_succ_cons, List.take_succ_cons, List.take_zero, kl_int h1, kl_int h2, kl_int h3]
    rw [if_pos ⟨rfl, by kernel_rfl⟩]; rfl
  have hcl : (seatv p).cells.toList = [.int .i64 p.m, .int .i64 p.r, .int .i64 p.l] := by simp [Value.cells]
  refine ⟨.string (keyBytes [.int .i64 p.m, .int .i64 p.r, .int .i64 p.l]), ?_⟩
  unfold keyOf
  have hl2 : Try.prog.keyLits (Try.prog.types.size + 1) 50 (seatv p).cells.toList = some [.int .i64 p.m, .int .i64 p.r, .int .i64 p.l] := by rw [hcl, seat_size]; exact hl
  simp only [Try.underlying50, hk, hf, Bool.and_self, if_true, hl2, Option.map_some]
theorem seatv_inj {p q : Pc} : seatv p = seatv q ↔ seq p q = true := by
  unfold seq
  rw [Bool.and_eq_true, Bool.and_eq_true, beq_iff_eq, beq_iff_eq, beq_iff_eq]
  constructor
  · intro h
    simp [seatv] at h
    exact h
  · rintro ⟨h1, h2, h3⟩
    simp [seatv, h1, h2, h3]
/-- Block b is a set of the seats of these places. -/
def SetM (w : World) (b : Nat) (l : List Pc) : Prop :=
  ∃ es clock, w.heap[b]? = some (.map es clock) ∧ es.size = l.length ∧ (∀ e, e ∈ es.toList → e.val = .bool true ∧ ∃ p, p ∈ l ∧ PcI p ∧ e.key = seatv p) ∧ ∀ p, p ∈ l → ∃ e, e ∈ es.toList ∧ e.key = seatv p
section
variable {w w' : World} {b : Nat} {l : List Pc}
theorem SetM.lt (h : SetM w b l) : b < w.heap.size := by
  obtain ⟨es, clock, hb, _⟩ := h
  exact (Array.getElem?_eq_some_iff.1 hb).1
theorem SetM.old (h : SetM w b l) (hb : Below w.heap.size w w') : SetM w' b l := by
  have hlt := h.lt
  obtain ⟨es, clock, hm, h1⟩ := h
  exact ⟨es, clock, (hb.block b hlt).trans hm, h1⟩
theorem SetM.new (w : World) : SetM (w.alloc (.map #[] 0)) w.heap.size [] := ⟨#[], 0, (MapKept.heap_alloc w _).1, rfl, fun e he => (by simp at he), fun p hp => (by cases hp)⟩
theorem SetM.keys (h : SetM w b l) : ∃ es clock, w.heap[b]? = some (.map es clock) ∧ ∀ e, e ∈ es.toList → ∃ x, keyOf Try.prog 50 e.key = some x := by
  obtain ⟨es, clock, hm, _, h2, _⟩ := h
  refine ⟨es, clock, hm, fun e he => ?_⟩
  obtain ⟨_, p, _, hp, hk⟩ := h2 e he
  rw [hk]; exact seat_key hp
theorem any_seq {l : List Pc} {p : Pc} : (l.any fun x => seq x p) = true ↔ ∃ x, x ∈ l ∧ seatv x = seatv p := by
  rw [List.any_eq_true]
  exact ⟨fun ⟨x, h1, h2⟩ => ⟨x, h1, seatv_inj.2 h2⟩, fun ⟨x, h1, h2⟩ => ⟨x, h1, seatv_inj.1 h2⟩⟩
theorem SetM.look (h : SetM w b l) {p : Pc} (hp : PcI p) : (Instr.lookup 70 (.map (some b)) (seatv p) false).run Try.prog w = .ok (.bool (l.any fun x => seq x p)) w := by
  obtain ⟨es, clock, hm, hsz, h2, h3⟩ := h
  obtain ⟨kl, hkey⟩ := seat_key hp
  obtain ⟨i0, hi0, hz0, -, -⟩ := info_parts infoBool
  have hz : (zeroValue 4).run Try.prog w = .ok (.bool false) w := by simp [zeroValue, typeInfo, hi0, hz0, Result.andThen]
  rcases seat_law.find w hkey es.toList (fun e he => by obtain ⟨_, q, _, hq, hk⟩ := h2 e he; rw [hk]; exact seat_key hq) with ⟨f1, f2⟩ | ⟨j, e0, f1, f2, f3⟩
  · have hany : (l.any fun x => seq x p) = false := by
      cases e : l.any fun x => seq x p
      · rfl
      · obtain ⟨x, hx, hs⟩ := any_seq.1 e
        obtain ⟨y, hy, hyk⟩ := h3 x hx
        exact absurd (hyk.trans hs) (f2 y hy)
    rw [hany]
    simp [Instr.lookup, run_underlying Try.underlying70, MapKept.run_getObj_map hm, seat_law.check w _ hkey, f1, hz, Result.andThen]
  · have hm0 : e0 ∈ es.toList := List.mem_of_getElem? f2
    obtain ⟨hv, q, hq, _, hqk⟩ := h2 e0 hm0
    have hany : (l.any fun x => seq x p) = true := any_seq.2 ⟨q, hq, by rw [← hqk, f3]⟩
    rw [hany]
    simp [Instr.lookup, run_underlying Try.underlying70, MapKept.run_getObj_map hm, seat_law.check w _ hkey, f1, Result.andThen, hv]
theorem SetM.put (h : SetM w b l) {p : Pc} (hp : PcI p) (hn : (l.any fun x => seq x p) = false) : ∃ w', (Instr.mapUpdate 70 (.map (some b)) (seatv p) (.bool true)).run Try.prog w = .ok () w' ∧ SetM w' b (l ++ [p]) ∧ w.grownBy w' (some b) := by
  obtain ⟨es, clock, hm, hsz, h2, h3⟩ := h
  obtain ⟨kl, hkey⟩ := seat_key hp
  rcases seat_law.find w hkey es.toList (fun e he => by obtain ⟨_, q, _, hq, hk⟩ := h2 e he; rw [hk]; exact seat_key hq) with ⟨f1, f2⟩ | ⟨j, e0, f1, f2, f3⟩
  · refine ⟨ChangeMaps.setBlock w b (.map (es.push ⟨seatv p, .bool true, clock⟩) (clock + 1)), ?_, ⟨_, _, heap_setBlock_same hm _, ?_, fun e he => ?_, fun q hq => ?_⟩, ⟨rfl, rfl, rfl, by simp [ChangeMaps.setBlock], fun i _ hi => heap_setBlock_other hm _ (fun e => hi (by rw [e]))⟩⟩
    · simp [Instr.mapUpdate, run_underlying Try.underlying70, MapKept.run_getObj_map hm, seat_law.check w false hkey, f1, MapKept.run_setObj_map _ hm, Result.andThen, ChangeMaps.setBlock]
    · simp [hsz]
    · simp only [Array.toList_push, List.mem_append, List.mem_singleton] at he
      rcases he with he | rfl
      · obtain ⟨hv, q, hq, hqi, hk⟩ := h2 e he
        exact ⟨hv, q, List.mem_append.2 (.inl hq), hqi, hk⟩
      · exact ⟨rfl, p, by simp, hp, rfl⟩
    · rcases List.mem_append.1 hq with hq | hq
      · obtain ⟨e, he, hk⟩ := h3 q hq
        exact ⟨e, by simp only [Array.toList_push, List.mem_append]; exact .inl he, hk⟩
      · have : q = p := by simpa using hq
        subst this
        exact ⟨⟨seatv q, .bool true, clock⟩, by simp, rfl⟩
  · have hm0 : e0 ∈ es.toList := List.mem_of_getElem? f2
    obtain ⟨hv, q, hq, _, hqk⟩ := h2 e0 hm0
    rw [any_seq.2 ⟨q, hq, by rw [← hqk, f3]⟩] at hn
    cases hn
end
end Go.Proofs.Ytcidpgjeddogmaa.Pl
