/- Walk: the chapter's example. -/
import Derived.Test.YtmdgghdmfipllaaRH
import Derived.Test.YtmdgghdmfipllaaRI
import Derived.WalkKit
import Derived.WalkSpells
import Derived.WalkLawsBesides
import Derived.Deep.QuietTactic
import Derived.BigQuiet
import Derived.Deep.Draws
import Derived.Deep.AppendLies
import Derived.Laws.OwnMore
import Derived.Laws.BytesArg
import Derived.Lib.Hide
import Derived.Deep.LoopGhost
import Derived.RegionTactic
import Derived.Deep.RegionHeld3
namespace Go.Proofs.Ytmdgghdmfipllaa.Tr
open Go.RowKit Go.Proofs.Ytmdgghdmfipllaa.Dg
open Go.Proofs.Ytmdgghdmfipllaa.Mw (I64 ret_int ret_bool Bk bl_trans own_ints)
set_option linter.unusedVariables false
attribute [local go_sem] eq_dig

theorem pe1 : perm (1702391088, 1651466610, 0, 4) = (2237893944, 2826354152, 1787934199, 4035424684) := by rw [perm_eq]; decide +kernel
theorem pe2 : perm (2237893944, 2826354152, 1787934198, 4035424684) = (4087630213, 3142781249, 3933393771, 848224113) := by rw [perm_eq]; decide +kernel
theorem pe3 : perm (4087630213, 3142781249, 361573524, 848224113) = (4199294018, 3609818663, 4048370698, 2824072943) := by rw [perm_eq]; decide +kernel
theorem pe4 : perm (4199294018, 3609818663, 4048370698, 2824072943) = (1521376873, 3633786, 3721624201, 4020869120) := by rw [perm_eq]; decide +kernel
theorem ws0 : wst 0 [1, 0, 0, 0] 0 = (1702391089, 1651466610, 0, 4) := rfl
theorem ws1 : wst 0 [1, 0, 0, 0] 1 = (2237893944, 2826354152, 1787934198, 4035424684) := by
  show wstep (wst 0 [1, 0, 0, 0] 0) 1 0 = _
  rw [ws0]
  unfold wstep
  rw [show (xor32 (1702391089, 1651466610, 0, 4).1 1, xor32 (1702391089, 1651466610, 0, 4).2.1 0, (1702391089, 1651466610, 0, 4).2.2.1, (1702391089, 1651466610, 0, 4).2.2.2) = ((1702391088, 1651466610, 0, 4) : St) by decide +kernel, pe1]
  decide +kernel
theorem ws2 : wst 0 [1, 0, 0, 0] 2 = (4087630213, 3142781249, 3933393771, 848224113) := by
  show wstep (wst 0 [1, 0, 0, 0] 1) 0 0 = _
  rw [ws1]
  unfold wstep
  rw [show (xor32 (2237893944, 2826354152, 1787934198, 4035424684).1 0, xor32 (2237893944, 2826354152, 1787934198, 4035424684).2.1 0, (2237893944, 2826354152, 1787934198, 4035424684).2.2.1, (2237893944, 2826354152, 1787934198, 4035424684).2.2.2) = ((2237893944, 2826354152, 1787934198, 4035424684) : St) by decide +kernel, pe2]
  decide +kernel
theorem leaf_a : leaf (1, 0, 0, 0) = (1521376873, 3633786, 3721624201, 4020869120) := by
  show perm (perm ((wst 0 [1, 0, 0, 0] 2).1, (wst 0 [1, 0, 0, 0] 2).2.1, xor32 (wst 0 [1, 0, 0, 0] 2).2.2.1 4294967295, (wst 0 [1, 0, 0, 0] 2).2.2.2)) = _
  rw [ws2]
  rw [show ((4087630213, 3142781249, 3933393771, 848224113).1, (4087630213, 3142781249, 3933393771, 848224113).2.1, xor32 (4087630213, 3142781249, 3933393771, 848224113).2.2.1 4294967295, (4087630213, 3142781249, 3933393771, 848224113).2.2.2) = ((4087630213, 3142781249, 361573524, 848224113) : St) by decide +kernel, pe3, pe4]
theorem leaf_ne : eqb (leaf (1, 0, 0, 0)) (1, 0, 0, 0) = false := by rw [leaf_a]; decide +kernel
theorem spl_3 : spl 3 = 2 := spl_unique (j := 1) (by omega) (by decide) (by decide)
theorem spl_2 : spl 2 = 1 := spl_unique (j := 0) (by omega) (by decide) (by decide)
theorem root_s (x : St) : root [x] = leaf x := root_1 [x] rfl
theorem root_p (x y : St) : root [x, y] = jn (leaf x) (leaf y) := by
  rw [root_2 [x, y] (by simp), show [x, y].length = 2 from rfl, spl_2]
  show jn (root [x]) (root [y]) = _
  rw [root_s, root_s]
theorem root_t (x y z : St) : root [x, y, z] = jn (jn (leaf x) (leaf y)) (leaf z) := by
  rw [root_2 [x, y, z] (by simp), show [x, y, z].length = 3 from rfl, spl_3]
  show jn (root [x, y]) (root [z]) = _
  rw [root_s, root_p]
theorem path_t (x y z : St) : pathE [x, y, z] 1 = ([leaf x, leaf z], 0) := by
  show (path [x, y, z] 1, (0 : Int)) = _
  rw [path_l [x, y, z] 1 (by simp) (by rw [show [x, y, z].length = 3 from rfl, spl_3]; omega), show [x, y, z].length = 3 from rfl, spl_3]
  show (path [x, y] 1 ++ [root [z]], (0 : Int)) = _
  rw [path_r [x, y] 1 (by simp) (by rw [show [x, y].length = 2 from rfl, spl_2]; omega), show [x, y].length = 2 from rfl, spl_2]
  show ((path [y] 0 ++ [root [x]]) ++ [root [z]], (0 : Int)) = _
  rw [path_0 [y] 0 (by simp), root_s, root_s]
  rfl
theorem cons_t2 (x y z : St) : consE [x, y, z] 2 = ([leaf z], 0) := by
  show (cons [x, y, z] 2 true, (0 : Int)) = _
  rw [cons_l [x, y, z] 2 true (by simp) (by simp) (by rw [show [x, y, z].length = 3 from rfl, spl_3]; omega), show [x, y, z].length = 3 from rfl, spl_3]
  show (cons [x, y] 2 true ++ [root [z]], (0 : Int)) = _
  rw [cons_t [x, y] 2 rfl, root_s]
  rfl
theorem cons_t1 (x y z : St) : consE [x, y, z] 1 = ([leaf y, leaf z], 0) := by
  show (cons [x, y, z] 1 true, (0 : Int)) = _
  rw [cons_l [x, y, z] 1 true (by simp) (by simp) (by rw [show [x, y, z].length = 3 from rfl, spl_3]; omega), show [x, y, z].length = 3 from rfl, spl_3]
  show (cons [x, y] 1 true ++ [root [z]], (0 : Int)) = _
  rw [cons_l [x, y] 1 true (by simp) (by simp) (by rw [show [x, y].length = 2 from rfl, spl_2]; omega), show [x, y].length = 2 from rfl, spl_2]
  show ((cons [x] 1 true ++ [root [y]]) ++ [root [z]], (0 : Int)) = _
  rw [cons_t [x] 1 rfl, root_s, root_s]
  rfl
theorem lead_t (x y z : St) : leadE (leaf y) 1 3 [leaf x, leaf z] = (root [x, y, z], 0) := by
  have h := lead_path _ [x, y, z] 1 (Nat.le_refl _) (by simp)
  have h2 : path [x, y, z] 1 = [leaf x, leaf z] := congrArg Prod.fst (path_t x y z)
  rw [h2] at h
  have h3 : lead (leaf y) 1 3 [leaf x, leaf z] = (root [x, y, z], true) := h
  show (if (lead (leaf y) 1 3 [leaf x, leaf z]).2 = true then ((lead (leaf y) 1 3 [leaf x, leaf z]).1, (0 : Int)) else ((0, 0, 0, 0), 44)) = _
  rw [h3]
  rfl
/-- Three digests. -/
abbrev dA : St := (1, 0, 0, 0)
abbrev dB : St := (2, 0, 0, 0)
abbrev dC : St := (3, 0, 0, 0)

/-- What the example has in memory. -/
structure SN (w : World) (s g h : Nat) (X la lb lc : St) (P Q R : Option Addr) : Prop where
  a : Bk w s 34 #[.int .u32 1, .int .u32 0, .int .u32 0, .int .u32 0]
  b : Bk w (s + 1) 34 #[.int .u32 2, .int .u32 0, .int .u32 0, .int .u32 0]
  c : Bk w (s + 1 + 1) 34 #[.int .u32 3, .int .u32 0, .int .u32 0, .int .u32 0]
  x : Bk w g 34 (c4 X)
  r : Bk w h 34 (c4 X)
  p : RdD w P [la, lc]
  q : RdD w Q [lc]
  t : RdD w R [lb, lc]
section
variable {w w' : World} {s g h : Nat} {X la lb lc : St} {P Q R : Option Addr}
theorem SN.old (H : SN w s g h X la lb lc P Q R) (hb : Below w.heap.size w w') : SN w' s g h X la lb lc P Q R := ⟨H.a.old hb, H.b.old hb, H.c.old hb, H.x.old hb, H.r.old hb, H.p.old hb, H.q.old hb, H.t.old hb⟩
theorem SN.alloc (H : SN w s g h X la lb lc P Q R) (o : Obj) : SN (w.alloc o) s g h X la lb lc P Q R := H.old ((Below.refl _ _).alloc (Nat.le_refl _) o)
theorem SN.drew (H : SN w s g h X la lb lc P Q R) : SN w.drew s g h X la lb lc P Q R := ⟨H.a, H.b, H.c, H.x, H.r, H.p, H.q, H.t⟩
theorem SN.keep (H : SN w s g h X la lb lc P Q R) : w.cell? ⟨s, 0, none⟩ = some (.int .u32 1) ∧ w.cell? ⟨s, 1, none⟩ = some (.int .u32 0) ∧ w.cell? ⟨s, 2, none⟩ = some (.int .u32 0) ∧ w.cell? ⟨s, 3, none⟩ = some (.int .u32 0) ∧ w.cell? ⟨s + 1, 0, none⟩ = some (.int .u32 2) ∧ w.cell? ⟨s + 1, 1, none⟩ = some (.int .u32 0) ∧ w.cell? ⟨s + 1, 2, none⟩ = some (.int .u32 0) ∧ w.cell? ⟨s + 1, 3, none⟩ = some (.int .u32 0) ∧ w.cell? ⟨s + 1 + 1, 0, none⟩ = some (.int .u32 3) ∧ w.cell? ⟨s + 1 + 1, 1, none⟩ = some (.int .u32 0) ∧ w.cell? ⟨s + 1 + 1, 2, none⟩ = some (.int .u32 0) ∧ w.cell? ⟨s + 1 + 1, 3, none⟩ = some (.int .u32 0) ∧ w.cell? ⟨g, 0, none⟩ = some (.int .u32 X.1) ∧ w.cell? ⟨g, 1, none⟩ = some (.int .u32 X.2.1) ∧ w.cell? ⟨g, 2, none⟩ = some (.int .u32 X.2.2.1) ∧ w.cell? ⟨g, 3, none⟩ = some (.int .u32 X.2.2.2) ∧ w.cell? ⟨h, 0, none⟩ = some (.int .u32 X.1) ∧ w.cell? ⟨h, 1, none⟩ = some (.int .u32 X.2.1) ∧ w.cell? ⟨h, 2, none⟩ = some (.int .u32 X.2.2.1) ∧ w.cell? ⟨h, 3, none⟩ = some (.int .u32 X.2.2.2) :=
  ⟨H.a.cell 0, H.a.cell 1, H.a.cell 2, H.a.cell 3, H.b.cell 0, H.b.cell 1, H.b.cell 2, H.b.cell 3, H.c.cell 0, H.c.cell 1, H.c.cell 2, H.c.cell 3, H.x.cell 0, H.x.cell 1, H.x.cell 2, H.x.cell 3, H.r.cell 0, H.r.cell 1, H.r.cell 2, H.r.cell 3⟩
theorem SN.cells (H : SN w s g h X la lb lc P Q R) : (w.cell? ⟨s, 0, none⟩ = some (.int .u32 1) ∧ w.cell? ⟨s, 1, none⟩ = some (.int .u32 0) ∧ w.cell? ⟨s, 2, none⟩ = some (.int .u32 0) ∧ w.cell? ⟨s, 3, none⟩ = some (.int .u32 0)) ∧ (w.cell? ⟨s + 1, 0, none⟩ = some (.int .u32 2) ∧ w.cell? ⟨s + 1, 1, none⟩ = some (.int .u32 0) ∧ w.cell? ⟨s + 1, 2, none⟩ = some (.int .u32 0) ∧ w.cell? ⟨s + 1, 3, none⟩ = some (.int .u32 0)) ∧ (w.cell? ⟨s + 1 + 1, 0, none⟩ = some (.int .u32 3) ∧ w.cell? ⟨s + 1 + 1, 1, none⟩ = some (.int .u32 0) ∧ w.cell? ⟨s + 1 + 1, 2, none⟩ = some (.int .u32 0) ∧ w.cell? ⟨s + 1 + 1, 3, none⟩ = some (.int .u32 0)) ∧ (w.cell? ⟨g, 0, none⟩ = some (.int .u32 X.1) ∧ w.cell? ⟨g, 1, none⟩ = some (.int .u32 X.2.1) ∧ w.cell? ⟨g, 2, none⟩ = some (.int .u32 X.2.2.1) ∧ w.cell? ⟨g, 3, none⟩ = some (.int .u32 X.2.2.2)) ∧ (w.cell? ⟨h, 0, none⟩ = some (.int .u32 X.1) ∧ w.cell? ⟨h, 1, none⟩ = some (.int .u32 X.2.1) ∧ w.cell? ⟨h, 2, none⟩ = some (.int .u32 X.2.2.1) ∧ w.cell? ⟨h, 3, none⟩ = some (.int .u32 X.2.2.2)) ∧ s < w.heap.size ∧ s + 1 < w.heap.size ∧ s + 1 + 1 < w.heap.size ∧ g < w.heap.size ∧ h < w.heap.size :=
  ⟨⟨H.a.cell 0, H.a.cell 1, H.a.cell 2, H.a.cell 3⟩, ⟨H.b.cell 0, H.b.cell 1, H.b.cell 2, H.b.cell 3⟩, ⟨H.c.cell 0, H.c.cell 1, H.c.cell 2, H.c.cell 3⟩, ⟨H.x.cell 0, H.x.cell 1, H.x.cell 2, H.x.cell 3⟩, ⟨H.r.cell 0, H.r.cell 1, H.r.cell 2, H.r.cell 3⟩, H.a.lt, H.b.lt, H.c.lt, H.x.lt, H.r.lt⟩
end

set_option maxHeartbeats 40000000 in
set_option maxRecDepth 100000 in
theorem sane_any (w : World) :
    Calls Try.prog 8 #[] w fun e w' => e = .returned (.bool true) ∧ Below w.heap.size w w' := by
  have hne := leaf_ne
  have h1 := path_t (1, 0, 0, 0) (2, 0, 0, 0) (3, 0, 0, 0)
  have h2 := cons_t2 (1, 0, 0, 0) (2, 0, 0, 0) (3, 0, 0, 0)
  have h3 := cons_t1 (1, 0, 0, 0) (2, 0, 0, 0) (3, 0, 0, 0)
  have h4 := lead_t (1, 0, 0, 0) (2, 0, 0, 0) (3, 0, 0, 0)
  have h5 := root_t (1, 0, 0, 0) (2, 0, 0, 0) (3, 0, 0, 0)
  have LA := Lib.hid (show ∀ W : World, Calls Try.prog 13 #[.agg #[.int .u32 1, .int .u32 0, .int .u32 0, .int .u32 0]] W fun e w' => e = .returned (dv (leaf (1, 0, 0, 0))) ∧ Below W.heap.size W w' from fun W => leaf_any (1, 0, 0, 0) W)
  have LB := Lib.hid (show ∀ W : World, Calls Try.prog 13 #[.agg #[.int .u32 2, .int .u32 0, .int .u32 0, .int .u32 0]] W fun e w' => e = .returned (dv (leaf (2, 0, 0, 0))) ∧ Below W.heap.size W w' from fun W => leaf_any (2, 0, 0, 0) W)
  have LC := Lib.hid (show ∀ W : World, Calls Try.prog 13 #[.agg #[.int .u32 3, .int .u32 0, .int .u32 0, .int .u32 0]] W fun e w' => e = .returned (dv (leaf (3, 0, 0, 0))) ∧ Below W.heap.size W w' from fun W => leaf_any (3, 0, 0, 0) W)
  have S5 := Lib.hid (show ∀ W : World, Calls Try.prog 18 #[.int .i64 5] W fun e w' => e = .returned (.int .i64 4) ∧ W = w' from fun W => by
    have h6 := split_any 5 (by unfold Mw.I64; omega) W
    rw [show splI 5 = 4 by rw [show (5 : Int) = ((5 : Nat) : Int) from rfl, splI_nat, spl_unique (j := 2) (by omega) (by decide) (by decide)]; rfl] at h6
    exact h6)
  generalize hla : leaf (1, 0, 0, 0) = la at h1 h2 h3 h4 h5 LA hne
  generalize hlb : leaf (2, 0, 0, 0) = lb at h1 h2 h3 h4 h5 LB
  generalize hlc : leaf (3, 0, 0, 0) = lc at h1 h2 h3 h4 h5 LC
  clear hla hlb hlc
  have JA := Lib.hid (show ∀ W : World, Calls Try.prog 19 #[dv la, dv lb] W fun e w' => e = .returned (dv (jn la lb)) ∧ Below W.heap.size W w' from fun W => join_any la lb W)
  have JB := Lib.hid (show ∀ W : World, Calls Try.prog 19 #[dv (jn la lb), dv lc] W fun e w' => e = .returned (dv (jn (jn la lb) lc)) ∧ Below W.heap.size W w' from fun W => join_any (jn la lb) lc W)
  generalize jn la lb = j at h5 JA JB
  generalize hX : jn j lc = X at h5 JB
  rw [h5] at h4
  have HP := Lib.hid (show ∀ (W : World) (b : Nat), RdD W (some ⟨b, 0, none⟩) [(1, 0, 0, 0), (2, 0, 0, 0), (3, 0, 0, 0)] → Calls Try.prog 11 #[.slice (some ⟨b, 0, none⟩) 3 3, .int .i64 1] W (PE ([la, lc], 0) W) from fun W b hr => by
    rw [← h1]; exact ppath_any [(1, 0, 0, 0), (2, 0, 0, 0), (3, 0, 0, 0)] (some ⟨b, 0, none⟩) 3 1 W (by simp) (by simp) (by simp [maxLen]) hr)
  have HC2 := Lib.hid (show ∀ (W : World) (b : Nat), RdD W (some ⟨b, 0, none⟩) [(1, 0, 0, 0), (2, 0, 0, 0), (3, 0, 0, 0)] → Calls Try.prog 24 #[.slice (some ⟨b, 0, none⟩) 3 3, .int .i64 2] W (PE ([lc], 0) W) from fun W b hr => by
    rw [← h2]; exact pcons_any [(1, 0, 0, 0), (2, 0, 0, 0), (3, 0, 0, 0)] (some ⟨b, 0, none⟩) 3 2 W (by simp) (by simp) (by simp [maxLen]) hr)
  have HC1 := Lib.hid (show ∀ (W : World) (b : Nat), RdD W (some ⟨b, 0, none⟩) [(1, 0, 0, 0), (2, 0, 0, 0), (3, 0, 0, 0)] → Calls Try.prog 24 #[.slice (some ⟨b, 0, none⟩) 3 3, .int .i64 1] W (PE ([lb, lc], 0) W) from fun W b hr => by
    rw [← h3]; exact pcons_any [(1, 0, 0, 0), (2, 0, 0, 0), (3, 0, 0, 0)] (some ⟨b, 0, none⟩) 3 1 W (by simp) (by simp) (by simp [maxLen]) hr)
  have HL := Lib.hid (show ∀ (W : World) (A : Option Addr) (c : Nat), 2 ≤ c → c ≤ maxLen → RdD W A [la, lc] → Calls Try.prog 12 #[dv lb, .int .i64 1, .int .i64 3, .slice A 2 c] W (LE (X, 0) W) from fun W A c h7 h8 hr => by
    rw [← h4]; exact plead_any lb 1 3 [la, lc] A c W (by simp) h7 h8 hr)
  have HR := Lib.hid (show ∀ (W : World) (b : Nat), RdD W (some ⟨b, 0, none⟩) [(1, 0, 0, 0), (2, 0, 0, 0), (3, 0, 0, 0)] → Calls Try.prog 14 #[.slice (some ⟨b, 0, none⟩) 3 3] W fun e w' => e = .returned (dv X) ∧ Below W.heap.size W w' from fun W b hr => by
    rw [← h5]; exact proot_ind _ [(1, 0, 0, 0), (2, 0, 0, 0), (3, 0, 0, 0)] (some ⟨b, 0, none⟩) 3 W (Nat.le_refl _) (by simp) (by simp) (by simp [maxLen]) hr)
  have SA := Lib.hid (show ∀ (W : World) (A B : Option Addr) (c d : Nat), RdD W A [la, lc] → RdD W B [la, lc] → Calls Try.prog 26 #[.slice A 2 c, .slice B 2 d] W fun e w' => e = .returned (.bool true) ∧ Below W.heap.size W w' from fun W A B c d ha hb => same_true [la, lc] A B c d W (by simp) ha hb)
  have SC := Lib.hid (show ∀ (W : World) (A B : Option Addr) (c d : Nat), RdD W A [lc] → RdD W B [lc] → Calls Try.prog 26 #[.slice A 1 c, .slice B 1 d] W fun e w' => e = .returned (.bool true) ∧ Below W.heap.size W w' from fun W A B c d ha hb => same_true [lc] A B c d W (by simp) ha hb)
  have SB := Lib.hid (show ∀ (W : World) (A B : Option Addr) (c d : Nat), RdD W A [lb, lc] → RdD W B [lb, lc] → Calls Try.prog 26 #[.slice A 2 c, .slice B 2 d] W fun e w' => e = .returned (.bool true) ∧ Below W.heap.size W w' from fun W A B c d ha hb => same_true [lb, lc] A B c d W (by simp) ha hb)
  have hxx : eqb (X.1, X.2.1, X.2.2.1, X.2.2.2) (X.1, X.2.1, X.2.2.1, X.2.2.2) = true := eqb_self _
  have hne' : eqb (la.1, la.2.1, la.2.2.1, la.2.2.2) (1, 0, 0, 0) = false := hne
  clear h1 h2 h3 h4 h5 hne hX
  go_enter Try.func8, Try.ntmps8
  go_wp2_with fail
  have hl0 : RdD (((((w.alloc (.cells #[.int .u32 1, .int .u32 0, .int .u32 0, .int .u32 0] 34)).alloc (.cells #[.int .u32 2, .int .u32 0, .int .u32 0, .int .u32 0] 34)).alloc (.cells #[.int .u32 3, .int .u32 0, .int .u32 0, .int .u32 0] 34))).alloc (.cells #[.int .u32 1, .int .u32 0, .int .u32 0, .int .u32 0, .int .u32 2, .int .u32 0, .int .u32 0, .int .u32 0, .int .u32 3, .int .u32 0, .int .u32 0, .int .u32 0] 34)) (some ⟨w.heap.size + 1 + 1 + 1, 0, none⟩) [(1, 0, 0, 0), (2, 0, 0, 0), (3, 0, 0, 0)] := RdD.bk (T := 34) (cs := #[.int .u32 1, .int .u32 0, .int .u32 0, .int .u32 0, .int .u32 2, .int .u32 0, .int .u32 0, .int .u32 0, .int .u32 3, .int .u32 0, .int .u32 0, .int .u32 0]) (by (repeat (first | ((with_reducible refine Mw.Bk.new' ?_); (first | rfl | (simp; done) | (simp; omega))) | with_reducible refine Mw.Bk.alloc ?_ _ | with_reducible refine Mw.Bk.drewN ?_ _ | with_reducible refine Mw.Bk.drew ?_ | with_reducible assumption))) rfl
  refine (HP.out _ _ hl0).mono ?_
  rintro e w1 ⟨P, cp, rfl, hp1, hp2, hp3, hb1⟩
  have a1 : Bk w1 w.heap.size 34 #[.int .u32 1, .int .u32 0, .int .u32 0, .int .u32 0] := Mw.Bk.old (by (repeat (first | ((with_reducible refine Mw.Bk.new' ?_); (first | rfl | (simp; done) | (simp; omega))) | with_reducible refine Mw.Bk.alloc ?_ _ | with_reducible refine Mw.Bk.drewN ?_ _ | with_reducible refine Mw.Bk.drew ?_ | with_reducible assumption))) hb1
  have b1 : Bk w1 (w.heap.size + 1) 34 #[.int .u32 2, .int .u32 0, .int .u32 0, .int .u32 0] := Mw.Bk.old (by (repeat (first | ((with_reducible refine Mw.Bk.new' ?_); (first | rfl | (simp; done) | (simp; omega))) | with_reducible refine Mw.Bk.alloc ?_ _ | with_reducible refine Mw.Bk.drewN ?_ _ | with_reducible refine Mw.Bk.drew ?_ | with_reducible assumption))) hb1
  have c1 : Bk w1 (w.heap.size + 1 + 1) 34 #[.int .u32 3, .int .u32 0, .int .u32 0, .int .u32 0] := Mw.Bk.old (by (repeat (first | ((with_reducible refine Mw.Bk.new' ?_); (first | rfl | (simp; done) | (simp; omega))) | with_reducible refine Mw.Bk.alloc ?_ _ | with_reducible refine Mw.Bk.drewN ?_ _ | with_reducible refine Mw.Bk.drew ?_ | with_reducible assumption))) hb1
  have hl1 := hl0.old hb1
  have hc1 : Below w.heap.size w w1 := bl_trans (by (repeat (first | with_reducible exact Below.refl _ _ | with_reducible refine bl_drewN ?_ _ | with_reducible refine Below.drew ?_ | with_reducible refine bl_alloc ?_ _ | with_reducible refine Below.alloc ?_ (by first | omega | (simp; done) | (simp; omega)) _ | with_reducible refine Below.setCell ?_ (by first | omega | (simp; done) | (simp; omega)) _ | with_reducible assumption))) hb1
  clear hb1 hl0
  go_wp2_with fail
  refine (HC2.out _ _ hl1).mono ?_
  rintro e w2 ⟨Q, cq, rfl, hq1, hq2, hq3, hb2⟩
  have a2 := a1.old hb2
  have b2 := b1.old hb2
  have c2 := c1.old hb2
  have hl2 := hl1.old hb2
  have hp4 := hp3.old hb2
  have hc2 := bl_trans hc1 hb2
  clear hb2 hl1 a1 b1 c1 hp3 hc1
  go_wp2_with fail
  refine (HC1.out _ _ hl2).mono ?_
  rintro e w3 ⟨R, cr, rfl, hr1, hr2, hr3, hb3⟩
  have a3 := a2.old hb3
  have b3 := b2.old hb3
  have c3 := c2.old hb3
  have hl3 := hl2.old hb3
  have hp5 := hp4.old hb3
  have hq4 := hq3.old hb3
  have hc3 := bl_trans hc2 hb3
  clear hb3 hl2 a2 b2 c2 hp4 hq3 hc2
  obtain ⟨⟨k0, k1, k2, k3⟩, -⟩ := bk4 b3
  go_wp2_with fail
  refine (LB.out _).mono ?_
  rintro e w4 ⟨rfl, hb4⟩
  have a4 := a3.old hb4
  have b4 := b3.old hb4
  have c4' := c3.old hb4
  have hl4 := hl3.old hb4
  have hp6 := hp5.old hb4
  have hq5 := hq4.old hb4
  have hr4 := hr3.old hb4
  have hc4 := bl_trans hc3 hb4
  clear hb4 hl3 a3 b3 c3 hp5 hq4 hr3 hc3 k0 k1 k2 k3
  go_wp2_with fail
  refine (HL.out _ _ _ hp1 hp2 hp6).mono ?_
  rintro e w5 ⟨rfl, hb5⟩
  have a5 := a4.old hb5
  have b5 := b4.old hb5
  have c5 := c4'.old hb5
  have hl5 := hl4.old hb5
  have hp7 := hp6.old hb5
  have hq6 := hq5.old hb5
  have hr5 := hr4.old hb5
  have hc5 := bl_trans hc4 hb5
  clear hb5 hl4 a4 b4 c4' hp6 hq5 hr4 hc4
  go_wp2_with fail
  refine (HR.out _ _ (hl5.alloc _)).mono ?_
  rintro e w6 ⟨rfl, hb6⟩
  obtain ⟨g, hg⟩ : ∃ g, g = w5.heap.size := ⟨_, rfl⟩
  obtain ⟨h, hh⟩ : ∃ h, h = w6.heap.size := ⟨_, rfl⟩
  have hS : SN (w6.alloc (.cells (c4 X) 34)) w.heap.size g h X la lb lc P Q R := ⟨((a5.alloc _).old hb6).alloc _, ((b5.alloc _).old hb6).alloc _, ((c5.alloc _).old hb6).alloc _, (by rw [hg]; exact ((Mw.Bk.new _ _ _).old hb6).alloc _), (by rw [hh]; exact Mw.Bk.new _ _ _), ((hp7.alloc _).old hb6).alloc _, ((hq6.alloc _).old hb6).alloc _, ((hr5.alloc _).old hb6).alloc _⟩
  have hc : Below w.heap.size w w6 := bl_trans (by (repeat (first | with_reducible exact Below.refl _ _ | with_reducible refine bl_drewN ?_ _ | with_reducible refine Below.drew ?_ | with_reducible refine bl_alloc ?_ _ | with_reducible refine Below.alloc ?_ (by first | omega | (simp; done) | (simp; omega)) _ | with_reducible refine Below.setCell ?_ (by first | omega | (simp; done) | (simp; omega)) _ | with_reducible assumption))) hb6
  have a6 := (a5.alloc (.cells (c4 X) 34)).old hb6
  clear hb6 a5 b5 c5 hp7 hq6 hr5 hc5 hl5
  obtain ⟨⟨y0, y1, y2, y3⟩, -⟩ := bk4 a6
  have z0 := a6.lt
  go_wp2_with fail
  rw [← hg, ← hh]
  clear hg hh y0 y1 y2 y3 z0 a6
  obtain ⟨⟨ka0, ka1, ka2, ka3⟩, ⟨kb0, kb1, kb2, kb3⟩, ⟨kc0, kc1, kc2, kc3⟩, ⟨kx0, kx1, kx2, kx3⟩, ⟨kr0, kr1, kr2, kr3⟩, l0, l1, l2, l3, l4⟩ := hS.cells
  simp only [List.append]
  go_region_held3 (fun w' => w'.cell? ⟨w.heap.size, 0, none⟩ = some (.int .u32 1) ∧ w'.cell? ⟨w.heap.size, 1, none⟩ = some (.int .u32 0) ∧ w'.cell? ⟨w.heap.size, 2, none⟩ = some (.int .u32 0) ∧ w'.cell? ⟨w.heap.size, 3, none⟩ = some (.int .u32 0) ∧ w'.cell? ⟨w.heap.size + 1, 0, none⟩ = some (.int .u32 2) ∧ w'.cell? ⟨w.heap.size + 1, 1, none⟩ = some (.int .u32 0) ∧ w'.cell? ⟨w.heap.size + 1, 2, none⟩ = some (.int .u32 0) ∧ w'.cell? ⟨w.heap.size + 1, 3, none⟩ = some (.int .u32 0) ∧ w'.cell? ⟨w.heap.size + 1 + 1, 0, none⟩ = some (.int .u32 3) ∧ w'.cell? ⟨w.heap.size + 1 + 1, 1, none⟩ = some (.int .u32 0) ∧ w'.cell? ⟨w.heap.size + 1 + 1, 2, none⟩ = some (.int .u32 0) ∧ w'.cell? ⟨w.heap.size + 1 + 1, 3, none⟩ = some (.int .u32 0) ∧ w'.cell? ⟨g, 0, none⟩ = some (.int .u32 X.1) ∧ w'.cell? ⟨g, 1, none⟩ = some (.int .u32 X.2.1) ∧ w'.cell? ⟨g, 2, none⟩ = some (.int .u32 X.2.2.1) ∧ w'.cell? ⟨g, 3, none⟩ = some (.int .u32 X.2.2.2) ∧ w'.cell? ⟨h, 0, none⟩ = some (.int .u32 X.1) ∧ w'.cell? ⟨h, 1, none⟩ = some (.int .u32 X.2.1) ∧ w'.cell? ⟨h, 2, none⟩ = some (.int .u32 X.2.2.1) ∧ w'.cell? ⟨h, 3, none⟩ = some (.int .u32 X.2.2.2)) ((refine SN.keep (la := la) (lb := lb) (lc := lc) (P := P) (Q := Q) (R := R) ?_; (repeat (first | with_reducible exact hS | with_reducible refine SN.alloc ?_ _ | with_reducible refine SN.drew ?_)))) ((first
    | (go_at_call 13; ((with_reducible refine (LA.out _).mono ?_); rintro e w' ⟨rfl, hb'⟩; replace hS : SN w' w.heap.size g h X la lb lc P Q R := SN.old (by (repeat (first | with_reducible exact hS | with_reducible refine SN.alloc ?_ _ | with_reducible refine SN.drew ?_))) hb'; replace hc : Below w.heap.size w w' := bl_trans (by (repeat (first | with_reducible exact Below.refl _ _ | with_reducible refine bl_drewN ?_ _ | with_reducible refine Below.drew ?_ | with_reducible refine bl_alloc ?_ _ | with_reducible refine Below.alloc ?_ (by first | omega | (simp; done) | (simp; omega)) _ | with_reducible refine Below.setCell ?_ (by first | omega | (simp; done) | (simp; omega)) _ | with_reducible assumption))) hb'; clear hb' ka0 ka1 ka2 ka3 kb0 kb1 kb2 kb3 kc0 kc1 kc2 kc3 kx0 kx1 kx2 kx3 kr0 kr1 kr2 kr3 l0 l1 l2 l3 l4; obtain ⟨⟨ka0, ka1, ka2, ka3⟩, ⟨kb0, kb1, kb2, kb3⟩, ⟨kc0, kc1, kc2, kc3⟩, ⟨kx0, kx1, kx2, kx3⟩, ⟨kr0, kr1, kr2, kr3⟩, l0, l1, l2, l3, l4⟩ := hS.cells))
    | (go_at_call 13; ((with_reducible refine (LB.out _).mono ?_); rintro e w' ⟨rfl, hb'⟩; replace hS : SN w' w.heap.size g h X la lb lc P Q R := SN.old (by (repeat (first | with_reducible exact hS | with_reducible refine SN.alloc ?_ _ | with_reducible refine SN.drew ?_))) hb'; replace hc : Below w.heap.size w w' := bl_trans (by (repeat (first | with_reducible exact Below.refl _ _ | with_reducible refine bl_drewN ?_ _ | with_reducible refine Below.drew ?_ | with_reducible refine bl_alloc ?_ _ | with_reducible refine Below.alloc ?_ (by first | omega | (simp; done) | (simp; omega)) _ | with_reducible refine Below.setCell ?_ (by first | omega | (simp; done) | (simp; omega)) _ | with_reducible assumption))) hb'; clear hb' ka0 ka1 ka2 ka3 kb0 kb1 kb2 kb3 kc0 kc1 kc2 kc3 kx0 kx1 kx2 kx3 kr0 kr1 kr2 kr3 l0 l1 l2 l3 l4; obtain ⟨⟨ka0, ka1, ka2, ka3⟩, ⟨kb0, kb1, kb2, kb3⟩, ⟨kc0, kc1, kc2, kc3⟩, ⟨kx0, kx1, kx2, kx3⟩, ⟨kr0, kr1, kr2, kr3⟩, l0, l1, l2, l3, l4⟩ := hS.cells))
    | (go_at_call 13; ((with_reducible refine (LC.out _).mono ?_); rintro e w' ⟨rfl, hb'⟩; replace hS : SN w' w.heap.size g h X la lb lc P Q R := SN.old (by (repeat (first | with_reducible exact hS | with_reducible refine SN.alloc ?_ _ | with_reducible refine SN.drew ?_))) hb'; replace hc : Below w.heap.size w w' := bl_trans (by (repeat (first | with_reducible exact Below.refl _ _ | with_reducible refine bl_drewN ?_ _ | with_reducible refine Below.drew ?_ | with_reducible refine bl_alloc ?_ _ | with_reducible refine Below.alloc ?_ (by first | omega | (simp; done) | (simp; omega)) _ | with_reducible refine Below.setCell ?_ (by first | omega | (simp; done) | (simp; omega)) _ | with_reducible assumption))) hb'; clear hb' ka0 ka1 ka2 ka3 kb0 kb1 kb2 kb3 kc0 kc1 kc2 kc3 kx0 kx1 kx2 kx3 kr0 kr1 kr2 kr3 l0 l1 l2 l3 l4; obtain ⟨⟨ka0, ka1, ka2, ka3⟩, ⟨kb0, kb1, kb2, kb3⟩, ⟨kc0, kc1, kc2, kc3⟩, ⟨kx0, kx1, kx2, kx3⟩, ⟨kr0, kr1, kr2, kr3⟩, l0, l1, l2, l3, l4⟩ := hS.cells))
    | (go_at_call 19; ((with_reducible refine (JA.out _).mono ?_); rintro e w' ⟨rfl, hb'⟩; replace hS : SN w' w.heap.size g h X la lb lc P Q R := SN.old (by (repeat (first | with_reducible exact hS | with_reducible refine SN.alloc ?_ _ | with_reducible refine SN.drew ?_))) hb'; replace hc : Below w.heap.size w w' := bl_trans (by (repeat (first | with_reducible exact Below.refl _ _ | with_reducible refine bl_drewN ?_ _ | with_reducible refine Below.drew ?_ | with_reducible refine bl_alloc ?_ _ | with_reducible refine Below.alloc ?_ (by first | omega | (simp; done) | (simp; omega)) _ | with_reducible refine Below.setCell ?_ (by first | omega | (simp; done) | (simp; omega)) _ | with_reducible assumption))) hb'; clear hb' ka0 ka1 ka2 ka3 kb0 kb1 kb2 kb3 kc0 kc1 kc2 kc3 kx0 kx1 kx2 kx3 kr0 kr1 kr2 kr3 l0 l1 l2 l3 l4; obtain ⟨⟨ka0, ka1, ka2, ka3⟩, ⟨kb0, kb1, kb2, kb3⟩, ⟨kc0, kc1, kc2, kc3⟩, ⟨kx0, kx1, kx2, kx3⟩, ⟨kr0, kr1, kr2, kr3⟩, l0, l1, l2, l3, l4⟩ := hS.cells))
    | (go_at_call 19; ((with_reducible refine (JB.out _).mono ?_); rintro e w' ⟨rfl, hb'⟩; replace hS : SN w' w.heap.size g h X la lb lc P Q R := SN.old (by (repeat (first | with_reducible exact hS | with_reducible refine SN.alloc ?_ _ | with_reducible refine SN.drew ?_))) hb'; replace hc : Below w.heap.size w w' := bl_trans (by (repeat (first | with_reducible exact Below.refl _ _ | with_reducible refine bl_drewN ?_ _ | with_reducible refine Below.drew ?_ | with_reducible refine bl_alloc ?_ _ | with_reducible refine Below.alloc ?_ (by first | omega | (simp; done) | (simp; omega)) _ | with_reducible refine Below.setCell ?_ (by first | omega | (simp; done) | (simp; omega)) _ | with_reducible assumption))) hb'; clear hb' ka0 ka1 ka2 ka3 kb0 kb1 kb2 kb3 kc0 kc1 kc2 kc3 kx0 kx1 kx2 kx3 kr0 kr1 kr2 kr3 l0 l1 l2 l3 l4; obtain ⟨⟨ka0, ka1, ka2, ka3⟩, ⟨kb0, kb1, kb2, kb3⟩, ⟨kc0, kc1, kc2, kc3⟩, ⟨kx0, kx1, kx2, kx3⟩, ⟨kr0, kr1, kr2, kr3⟩, l0, l1, l2, l3, l4⟩ := hS.cells))
    | (go_at_call 26; ((with_reducible refine (SA.out _ P _ _ _ (SN.p (s := w.heap.size) (g := g) (h := h) (X := X) (lb := lb) (Q := Q) (R := R) (by (repeat (first | with_reducible exact hS | with_reducible refine SN.alloc ?_ _ | with_reducible refine SN.drew ?_)))) (RdD.bk (T := 34) (cs := #[.int .u32 la.1, .int .u32 la.2.1, .int .u32 la.2.2.1, .int .u32 la.2.2.2, .int .u32 lc.1, .int .u32 lc.2.1, .int .u32 lc.2.2.1, .int .u32 lc.2.2.2]) (by (repeat (first | ((with_reducible refine Mw.Bk.new' ?_); (first | rfl | (simp; done) | (simp; omega))) | with_reducible refine Mw.Bk.alloc ?_ _ | with_reducible refine Mw.Bk.drewN ?_ _ | with_reducible refine Mw.Bk.drew ?_ | with_reducible assumption))) rfl)).mono ?_); rintro e w' ⟨rfl, hb'⟩; replace hS : SN w' w.heap.size g h X la lb lc P Q R := SN.old (by (repeat (first | with_reducible exact hS | with_reducible refine SN.alloc ?_ _ | with_reducible refine SN.drew ?_))) hb'; replace hc : Below w.heap.size w w' := bl_trans (by (repeat (first | with_reducible exact Below.refl _ _ | with_reducible refine bl_drewN ?_ _ | with_reducible refine Below.drew ?_ | with_reducible refine bl_alloc ?_ _ | with_reducible refine Below.alloc ?_ (by first | omega | (simp; done) | (simp; omega)) _ | with_reducible refine Below.setCell ?_ (by first | omega | (simp; done) | (simp; omega)) _ | with_reducible assumption))) hb'; clear hb' ka0 ka1 ka2 ka3 kb0 kb1 kb2 kb3 kc0 kc1 kc2 kc3 kx0 kx1 kx2 kx3 kr0 kr1 kr2 kr3 l0 l1 l2 l3 l4; obtain ⟨⟨ka0, ka1, ka2, ka3⟩, ⟨kb0, kb1, kb2, kb3⟩, ⟨kc0, kc1, kc2, kc3⟩, ⟨kx0, kx1, kx2, kx3⟩, ⟨kr0, kr1, kr2, kr3⟩, l0, l1, l2, l3, l4⟩ := hS.cells))
    | (go_at_call 26; ((with_reducible refine (SC.out _ Q _ _ _ (SN.q (s := w.heap.size) (g := g) (h := h) (X := X) (la := la) (lb := lb) (P := P) (R := R) (by (repeat (first | with_reducible exact hS | with_reducible refine SN.alloc ?_ _ | with_reducible refine SN.drew ?_)))) (RdD.bk (T := 34) (cs := #[.int .u32 lc.1, .int .u32 lc.2.1, .int .u32 lc.2.2.1, .int .u32 lc.2.2.2]) (by (repeat (first | ((with_reducible refine Mw.Bk.new' ?_); (first | rfl | (simp; done) | (simp; omega))) | with_reducible refine Mw.Bk.alloc ?_ _ | with_reducible refine Mw.Bk.drewN ?_ _ | with_reducible refine Mw.Bk.drew ?_ | with_reducible assumption))) rfl)).mono ?_); rintro e w' ⟨rfl, hb'⟩; replace hS : SN w' w.heap.size g h X la lb lc P Q R := SN.old (by (repeat (first | with_reducible exact hS | with_reducible refine SN.alloc ?_ _ | with_reducible refine SN.drew ?_))) hb'; replace hc : Below w.heap.size w w' := bl_trans (by (repeat (first | with_reducible exact Below.refl _ _ | with_reducible refine bl_drewN ?_ _ | with_reducible refine Below.drew ?_ | with_reducible refine bl_alloc ?_ _ | with_reducible refine Below.alloc ?_ (by first | omega | (simp; done) | (simp; omega)) _ | with_reducible refine Below.setCell ?_ (by first | omega | (simp; done) | (simp; omega)) _ | with_reducible assumption))) hb'; clear hb' ka0 ka1 ka2 ka3 kb0 kb1 kb2 kb3 kc0 kc1 kc2 kc3 kx0 kx1 kx2 kx3 kr0 kr1 kr2 kr3 l0 l1 l2 l3 l4; obtain ⟨⟨ka0, ka1, ka2, ka3⟩, ⟨kb0, kb1, kb2, kb3⟩, ⟨kc0, kc1, kc2, kc3⟩, ⟨kx0, kx1, kx2, kx3⟩, ⟨kr0, kr1, kr2, kr3⟩, l0, l1, l2, l3, l4⟩ := hS.cells))
    | (go_at_call 26; ((with_reducible refine (SB.out _ R _ _ _ (SN.t (s := w.heap.size) (g := g) (h := h) (X := X) (la := la) (P := P) (Q := Q) (by (repeat (first | with_reducible exact hS | with_reducible refine SN.alloc ?_ _ | with_reducible refine SN.drew ?_)))) (RdD.bk (T := 34) (cs := #[.int .u32 lb.1, .int .u32 lb.2.1, .int .u32 lb.2.2.1, .int .u32 lb.2.2.2, .int .u32 lc.1, .int .u32 lc.2.1, .int .u32 lc.2.2.1, .int .u32 lc.2.2.2]) (by (repeat (first | ((with_reducible refine Mw.Bk.new' ?_); (first | rfl | (simp; done) | (simp; omega))) | with_reducible refine Mw.Bk.alloc ?_ _ | with_reducible refine Mw.Bk.drewN ?_ _ | with_reducible refine Mw.Bk.drew ?_ | with_reducible assumption))) rfl)).mono ?_); rintro e w' ⟨rfl, hb'⟩; replace hS : SN w' w.heap.size g h X la lb lc P Q R := SN.old (by (repeat (first | with_reducible exact hS | with_reducible refine SN.alloc ?_ _ | with_reducible refine SN.drew ?_))) hb'; replace hc : Below w.heap.size w w' := bl_trans (by (repeat (first | with_reducible exact Below.refl _ _ | with_reducible refine bl_drewN ?_ _ | with_reducible refine Below.drew ?_ | with_reducible refine bl_alloc ?_ _ | with_reducible refine Below.alloc ?_ (by first | omega | (simp; done) | (simp; omega)) _ | with_reducible refine Below.setCell ?_ (by first | omega | (simp; done) | (simp; omega)) _ | with_reducible assumption))) hb'; clear hb' ka0 ka1 ka2 ka3 kb0 kb1 kb2 kb3 kc0 kc1 kc2 kc3 kx0 kx1 kx2 kx3 kr0 kr1 kr2 kr3 l0 l1 l2 l3 l4; obtain ⟨⟨ka0, ka1, ka2, ka3⟩, ⟨kb0, kb1, kb2, kb3⟩, ⟨kc0, kc1, kc2, kc3⟩, ⟨kx0, kx1, kx2, kx3⟩, ⟨kr0, kr1, kr2, kr3⟩, l0, l1, l2, l3, l4⟩ := hS.cells))
    | (go_at_call 18; ((with_reducible refine (S5.out _).mono ?_); rintro e w' ⟨rfl, rfl⟩))))
  all_goals go_wp2_with fail
  go_ret
  exact ⟨rfl, by (repeat (first | with_reducible exact Below.refl _ _ | with_reducible refine bl_drewN ?_ _ | with_reducible refine Below.drew ?_ | with_reducible refine bl_alloc ?_ _ | with_reducible refine Below.alloc ?_ (by first | omega | (simp; done) | (simp; omega)) _ | with_reducible refine Below.setCell ?_ (by first | omega | (simp; done) | (simp; omega)) _ | with_reducible assumption))⟩
end Go.Proofs.Ytmdgghdmfipllaa.Tr
