import Derived.Test.YtlgdfoniijmlbaaDoorOK20D
import Derived.Test.YtlgdfoniijmlbaaDoorP20d
set_option linter.unusedVariables false
set_option linter.unusedSimpArgs false
namespace Go.Proofs.YtlgdfoniijmlbaaDoor.M
open Go Go.Sep Go.Proofs
set_option maxRecDepth 100000
set_option linter.unusedVariables false
theorem okAc {W : World} (m : Nat) (xs : List Value) (h : Ok Tryd.prog W m 51 xs) : ∃ r, xs = AcQ r ∧ (∀ H, AcOk W H r) := by
  have y := (Ok.struct h Tryd.underlying51).1.trans (show Tryd.prog.cellsOf 51 = 4 by kernel_rfl)
  obtain ⟨x_0, x_1, x_2, x_3, rfl⟩ := len4 y
  have ok : Ok Tryd.prog W m 51 [x_0, x_1, x_2, x_3] := h
  obtain ⟨_, k, g⟩ := Ok.struct ok Tryd.underlying51
  have ok_0 : Ok Tryd.prog W k 3 [x_0] := Ok.field g (i := 0) (o := 0) (s := 1) rfl rfl rfl (by kernel_rfl) rfl
  have ok_1 : Ok Tryd.prog W k 32 [x_1, x_2] := Ok.field g (i := 1) (o := 1) (s := 2) rfl rfl rfl (by kernel_rfl) rfl
  have ok_2 : Ok Tryd.prog W k 5 [x_3] := Ok.field g (i := 2) (o := 3) (s := 1) rfl rfl rfl (by kernel_rfl) rfl
  obtain ⟨z_0, q_0, r_0⟩ := Ok.int ok_0 Tryd.underlying3
  obtain rfl := one_inj q_0
  have r_0 : (-9223372036854775808 : Int) ≤ z_0 ∧ z_0 ≤ 9223372036854775807 := r_0
  obtain ⟨_, k_1, g_1⟩ := Ok.struct ok_1 Tryd.underlying32
  have ok_1_0 : Ok Tryd.prog W k_1 29 [x_1] := Ok.field g_1 (i := 0) (o := 0) (s := 1) rfl rfl rfl (by kernel_rfl) rfl
  have ok_1_1 : Ok Tryd.prog W k_1 30 [x_2] := Ok.field g_1 (i := 1) (o := 1) (s := 1) rfl rfl rfl (by kernel_rfl) rfl
  obtain ⟨z_1_0, q_1_0, r_1_0⟩ := Ok.int ok_1_0 Tryd.underlying29
  obtain rfl := one_inj q_1_0
  have r_1_0 : (0 : Int) ≤ z_1_0 ∧ z_1_0 ≤ 4294967295 := r_1_0
  obtain ⟨sa_1_1, n_1_1, c_1_1, es_1_1, q_1_1, en_1_1, ec_1_1, eb_1_1, wf_1_1, rd_1_1⟩ := Ok.ints (b := 1) ok_1_1 Tryd.underlying30 Tryd.underlying5 (by kernel_rfl) (by kernel_rfl)
  obtain rfl := one_inj q_1_1
  have m_1_1 : n_1_1 ≤ 140737488351232 := by omega
  obtain ⟨z_2, q_2, r_2⟩ := Ok.int ok_2 Tryd.underlying5
  obtain rfl := one_inj q_2
  have r_2 : (0 : Int) ≤ z_2 ∧ z_2 ≤ 255 := r_2
  exact ⟨⟨z_0, ⟨z_1_0, es_1_1, sa_1_1, n_1_1, c_1_1⟩, z_2⟩, rfl, fun H => ⟨⟨r_1_0, en_1_1, m_1_1, wf_1_1, rd_1_1 H⟩, r_2.1, r_2.2⟩⟩
end Go.Proofs.YtlgdfoniijmlbaaDoor.M
