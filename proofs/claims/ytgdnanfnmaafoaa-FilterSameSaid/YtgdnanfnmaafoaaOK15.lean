import Derived.Test.YtgdnanfnmaafoaaFE15
import Derived.Test.YtgdnanfnmaafoaaS7
set_option linter.unusedVariables false
set_option linter.unusedSimpArgs false
namespace Go.Proofs.Ytgdnanfnmaafoaa.M
open Go Go.Sep Go.Proofs
set_option maxRecDepth 100000
set_option linter.unusedVariables false
theorem okRule {W : World} (m : Nat) (xs : List Value) (h : Ok Try.prog W m 46 xs) : ∃ r, xs = RuC r ∧ RuOk r := by
  have y := (Ok.struct h Try.underlying46).1.trans (show Try.prog.cellsOf 46 = 10 by kernel_rfl)
  obtain ⟨x_0, x_1, x_2, x_3, x_4, x_5, x_6, x_7, x_8, x_9, rfl⟩ := len10 y
  have ok : Ok Try.prog W m 46 [x_0, x_1, x_2, x_3, x_4, x_5, x_6, x_7, x_8, x_9] := h
  obtain ⟨_, k, g⟩ := Ok.struct ok Try.underlying46
  have ok_0 : Ok Try.prog W k 3 [x_0] := Ok.field g (i := 0) (o := 0) (s := 1) rfl rfl rfl (by kernel_rfl) rfl
  have ok_1 : Ok Try.prog W k 25 [x_1] := Ok.field g (i := 1) (o := 1) (s := 1) rfl rfl rfl (by kernel_rfl) rfl
  have ok_2 : Ok Try.prog W k 25 [x_2] := Ok.field g (i := 2) (o := 2) (s := 1) rfl rfl rfl (by kernel_rfl) rfl
  have ok_3 : Ok Try.prog W k 5 [x_3] := Ok.field g (i := 3) (o := 3) (s := 1) rfl rfl rfl (by kernel_rfl) rfl
  have ok_4 : Ok Try.prog W k 5 [x_4] := Ok.field g (i := 4) (o := 4) (s := 1) rfl rfl rfl (by kernel_rfl) rfl
  have ok_5 : Ok Try.prog W k 5 [x_5] := Ok.field g (i := 5) (o := 5) (s := 1) rfl rfl rfl (by kernel_rfl) rfl
  have ok_6 : Ok Try.prog W k 5 [x_6] := Ok.field g (i := 6) (o := 6) (s := 1) rfl rfl rfl (by kernel_rfl) rfl
  have ok_7 : Ok Try.prog W k 25 [x_7] := Ok.field g (i := 7) (o := 7) (s := 1) rfl rfl rfl (by kernel_rfl) rfl
  have ok_8 : Ok Try.prog W k 25 [x_8] := Ok.field g (i := 8) (o := 8) (s := 1) rfl rfl rfl (by kernel_rfl) rfl
  have ok_9 : Ok Try.prog W k 4 [x_9] := Ok.field g (i := 9) (o := 9) (s := 1) rfl rfl rfl (by kernel_rfl) rfl
  obtain ⟨z_0, q_0, r_0⟩ := Ok.int ok_0 Try.underlying3
  obtain rfl := one_inj q_0
  have r_0 : (-9223372036854775808 : Int) ≤ z_0 ∧ z_0 ≤ 9223372036854775807 := r_0
  obtain ⟨z_1, q_1, r_1⟩ := Ok.int ok_1 Try.underlying25
  obtain rfl := one_inj q_1
  have r_1 : (0 : Int) ≤ z_1 ∧ z_1 ≤ 4294967295 := r_1
  obtain ⟨z_2, q_2, r_2⟩ := Ok.int ok_2 Try.underlying25
  obtain rfl := one_inj q_2
  have r_2 : (0 : Int) ≤ z_2 ∧ z_2 ≤ 4294967295 := r_2
  obtain ⟨z_3, q_3, r_3⟩ := Ok.int ok_3 Try.underlying5
  obtain rfl := one_inj q_3
  have r_3 : (0 : Int) ≤ z_3 ∧ z_3 ≤ 255 := r_3
  obtain ⟨z_4, q_4, r_4⟩ := Ok.int ok_4 Try.underlying5
  obtain rfl := one_inj q_4
  have r_4 : (0 : Int) ≤ z_4 ∧ z_4 ≤ 255 := r_4
  obtain ⟨z_5, q_5, r_5⟩ := Ok.int ok_5 Try.underlying5
  obtain rfl := one_inj q_5
  have r_5 : (0 : Int) ≤ z_5 ∧ z_5 ≤ 255 := r_5
  obtain ⟨z_6, q_6, r_6⟩ := Ok.int ok_6 Try.underlying5
  obtain rfl := one_inj q_6
  have r_6 : (0 : Int) ≤ z_6 ∧ z_6 ≤ 255 := r_6
  obtain ⟨z_7, q_7, r_7⟩ := Ok.int ok_7 Try.underlying25
  obtain rfl := one_inj q_7
  have r_7 : (0 : Int) ≤ z_7 ∧ z_7 ≤ 4294967295 := r_7
  obtain ⟨z_8, q_8, r_8⟩ := Ok.int ok_8 Try.underlying25
  obtain rfl := one_inj q_8
  have r_8 : (0 : Int) ≤ z_8 ∧ z_8 ≤ 4294967295 := r_8
  obtain ⟨b_9, q_9⟩ := Ok.bool ok_9 Try.underlying4
  obtain rfl := one_inj q_9
  exact ⟨⟨z_0, z_1, z_2, z_3, z_4, z_5, z_6, z_7, z_8, b_9⟩, rfl, ⟨r_0, r_1, r_2, r_3, r_4, r_5, r_6, r_7, r_8⟩⟩
end Go.Proofs.Ytgdnanfnmaafoaa.M
