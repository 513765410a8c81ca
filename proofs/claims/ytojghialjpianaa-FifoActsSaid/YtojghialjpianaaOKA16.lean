import Derived.Test.YtojghialjpianaaOK16
import Derived.Test.YtojghialjpianaaP16e
set_option linter.unusedVariables false
set_option linter.unusedSimpArgs false
namespace Go.Proofs.Ytojghialjpianaa.M
open Go Go.Sep Go.Proofs
set_option maxRecDepth 100000
set_option linter.unusedVariables false
theorem okAc {W : World} (m : Nat) (xs : List Value) (h : Ok Try.prog W m 50 xs) : ∃ r, xs = AcC r ∧ (∀ H, FsOk W H r.x) := by
  have y := (Ok.struct h Try.underlying50).1.trans (show Try.prog.cellsOf 50 = 12 by kernel_rfl)
  obtain ⟨x_0, t, rfl⟩ : ∃ a t, xs = a :: t := by
    cases xs with
    | nil => simp at y
    | cons a t => exact ⟨a, t, rfl⟩
  obtain ⟨x_1, x_2, x_3, x_4, x_5, x_6, x_7, x_8, x_9, x_10, x_11, rfl⟩ := len11 (show t.length = 11 by simpa using y)
  obtain ⟨_, k, g⟩ := Ok.struct h Try.underlying50
  have ok_0 : Ok Try.prog W k 3 [x_0] := Ok.field g (i := 0) (o := 0) (s := 1) rfl rfl rfl (by kernel_rfl) rfl
  have ok_1 : Ok Try.prog W k 31 [x_1, x_2, x_3, x_4, x_5, x_6, x_7, x_8, x_9, x_10, x_11] := Ok.field g (i := 1) (o := 1) (s := 11) rfl rfl rfl (by kernel_rfl) rfl
  obtain ⟨z_0, q_0, r_0⟩ := Ok.int ok_0 Try.underlying3
  obtain rfl := one_inj q_0
  obtain ⟨r, e1, hr⟩ := okFs k _ ok_1
  exact ⟨⟨z_0, r⟩, by rw [AcC, ← e1], hr⟩
end Go.Proofs.Ytojghialjpianaa.M
