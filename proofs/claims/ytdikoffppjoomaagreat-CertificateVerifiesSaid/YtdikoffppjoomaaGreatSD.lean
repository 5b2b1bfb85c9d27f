/- Walk: the sanity check of the statements of this layer. -/
import Derived.Test.YtdikoffppjoomaaGreatSC
import Derived.WalkKit
import Derived.WalkSpells
import Derived.WalkLawsBesides
import Derived.Deep.QuietTactic
import Derived.BigQuiet
import Derived.Deep.Draws
import Derived.Deep.AppendLies
import Derived.Laws.OwnMore
import Derived.Laws.BytesArg
import Derived.Lib.Hide
import Derived.Deep.LoopGhost
namespace Go.Proofs.YtdikoffppjoomaaGreat.Sg
open Go.RowKit Go.Proofs.YtdikoffppjoomaaGreat.Dg
open Go.Proofs.YtdikoffppjoomaaGreat.Mw (I64 ret_int ret_bool Bk bl_trans own_ints)
set_option linter.unusedVariables false
set_option linter.unusedSimpArgs false

theorem ver_signed (s : Int) (d : St) (h : val s = true) : ver (pw 4 s) (sR s d) (sS s d) (chal (sR s d) (pw 4 s) d) = true := by
  have h1 := val_bd h
  have h2 := non_bd s d
  have h3 := chal_bd (sR s d) (pw 4 s) d
  exact holds s (non s d) (chal (sR s d) (pw 4 s) d) (by omega) (by omega) (by omega)
theorem I64_pw (x n : Int) : I64 (pw x n) := by have := pw_bd x n; unfold I64; omega
theorem I64_sS (s : Int) (d : St) : I64 (sS s d) := by have := sS_bd s d; unfold I64; omega
theorem I64_sR (s : Int) (d : St) : I64 (sR s d) := by have := sR_bd s d; unfold I64; omega
theorem verify_yes (s : Int) (d : St) (hv : val s = true) (hd : Wd d) (w : World) :
    Calls Tryz.prog 59 #[.int .i64 (pw 4 s), dv d, sgv (sR s d) (sS s d)] w fun e w' => e = .returned (.bool true) ∧ Below w.heap.size w w' := by
  have := verify_any (pw 4 s) (sR s d) (sS s d) d (I64_pw _ _) (I64_sR _ _) (I64_sS _ _) hd w
  rwa [ver_signed s d hv] at this
theorem public_2 (w : World) : Calls Tryz.prog 43 #[.int .i64 2] w fun e w' => e = .returned (.tuple #[.int .i64 16, .int .i64 0]) ∧ w = w' := by
  have := public_yes 2 rfl w
  rwa [pub2] at this
theorem power_4 (w : World) : Calls Tryz.prog 84 #[.int .i64 4, .int .i64 1073741789] w fun e w' => e = .returned (.int .i64 1) ∧ w = w' := by
  have := power_any 4 1073741789 (by unfold I64; omega) (by unfold I64; omega) w
  rwa [order4] at this
theorem valid_1 (w : World) : Calls Tryz.prog 83 #[.int .i64 1] w fun e w' => e = .returned (.bool true) ∧ w = w' := valid_any 1 w
theorem valid_Q (w : World) : Calls Tryz.prog 83 #[.int .i64 1073741789] w fun e w' => e = .returned (.bool false) ∧ w = w' := valid_any 1073741789 w
theorem Wd1 : Wd (1, 2, 3, 4) := by unfold Wd; decide

end Go.Proofs.YtdikoffppjoomaaGreat.Sg
