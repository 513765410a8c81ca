import Derived.Test.YtlgdfoniijmlbaaFH20
import Derived.Test.YtlgdfoniijmlbaaS7
set_option linter.unusedVariables false
set_option linter.unusedSimpArgs false
namespace Go.Proofs.Ytlgdfoniijmlbaa.M
open Go Go.Sep Go.Proofs
set_option maxRecDepth 100000
set_option linter.unusedVariables false
theorem okPd {W : World} (m : Nat) (xs : List Value) (h : Ok Try.prog W m 25 xs) : ∃ r, xs = PdC r ∧ (∀ H, PdOk W H r) := by
  have y := (Ok.struct h Try.underlying25).1.trans (show Try.prog.cellsOf 25 = 2 by kernel_rfl)
  obtain ⟨x_0, x_1, rfl⟩ := len2 y
  have ok : Ok Try.prog W m 25 [x_0, x_1] := h
  obtain ⟨_, k, g⟩ := Ok.struct ok Try.underlying25
  have ok_0 : Ok Try.prog W k 22 [x_0] := Ok.field g (i := 0) (o := 0) (s := 1) rfl rfl rfl (by kernel_rfl) rfl
  have ok_1 : Ok Try.prog W k 23 [x_1] := Ok.field g (i := 1) (o := 1) (s := 1) rfl rfl rfl (by kernel_rfl) rfl
  obtain ⟨z_0, q_0, r_0⟩ := Ok.int ok_0 Try.underlying22
  obtain rfl := one_inj q_0
  have r_0 : (0 : Int) ≤ z_0 ∧ z_0 ≤ 4294967295 := r_0
  obtain ⟨sa_1, n_1, c_1, es_1, q_1, en_1, ec_1, eb_1, wf_1, rd_1⟩ := Ok.ints (b := 1) ok_1 Try.underlying23 Try.underlying5 (by kernel_rfl) (by kernel_rfl)
  obtain rfl := one_inj q_1
  have m_1 : n_1 ≤ 140737488351232 := by omega
  exact ⟨⟨z_0, es_1, sa_1, n_1, c_1⟩, rfl, fun H => ⟨r_0, en_1, m_1, wf_1, rd_1 H⟩⟩
theorem okAc {W : World} (m : Nat) (xs : List Value) (h : Ok Try.prog W m 49 xs) : ∃ r, xs = AcQ r ∧ (∀ H, AcOk W H r) := by
  have y := (Ok.struct h Try.underlying49).1.trans (show Try.prog.cellsOf 49 = 4 by kernel_rfl)
  obtain ⟨x_0, x_1, x_2, x_3, rfl⟩ := len4 y
  have ok : Ok Try.prog W m 49 [x_0, x_1, x_2, x_3] := h
  obtain ⟨_, k, g⟩ := Ok.struct ok Try.underlying49
  have ok_0 : Ok Try.prog W k 3 [x_0] := Ok.field g (i := 0) (o := 0) (s := 1) rfl rfl rfl (by kernel_rfl) rfl
  have ok_1 : Ok Try.prog W k 25 [x_1, x_2] := Ok.field g (i := 1) (o := 1) (s := 2) rfl rfl rfl (by kernel_rfl) rfl
  have ok_2 : Ok Try.prog W k 5 [x_3] := Ok.field g (i := 2) (o := 3) (s := 1) rfl rfl rfl (by kernel_rfl) rfl
  obtain ⟨z_0, q_0, r_0⟩ := Ok.int ok_0 Try.underlying3
  obtain rfl := one_inj q_0
  have r_0 : (-9223372036854775808 : Int) ≤ z_0 ∧ z_0 ≤ 9223372036854775807 := r_0
  obtain ⟨_, k_1, g_1⟩ := Ok.struct ok_1 Try.underlying25
  have ok_1_0 : Ok Try.prog W k_1 22 [x_1] := Ok.field g_1 (i := 0) (o := 0) (s := 1) rfl rfl rfl (by kernel_rfl) rfl
  have ok_1_1 : Ok Try.prog W k_1 23 [x_2] := Ok.field g_1 (i := 1) (o := 1) (s := 1) rfl rfl rfl (by kernel_rfl) rfl
  obtain ⟨z_1_0, q_1_0, r_1_0⟩ := Ok.int ok_1_0 Try.underlying22
  obtain rfl := one_inj q_1_0
  have r_1_0 : (0 : Int) ≤ z_1_0 ∧ z_1_0 ≤ 4294967295 := r_1_0
  obtain ⟨sa_1_1, n_1_1, c_1_1, es_1_1, q_1_1, en_1_1, ec_1_1, eb_1_1, wf_1_1, rd_1_1⟩ := Ok.ints (b := 1) ok_1_1 Try.underlying23 Try.underlying5 (by kernel_rfl) (by kernel_rfl)
  obtain rfl := one_inj q_1_1
  have m_1_1 : n_1_1 ≤ 140737488351232 := by omega
  obtain ⟨z_2, q_2, r_2⟩ := Ok.int ok_2 Try.underlying5
  obtain rfl := one_inj q_2
  have r_2 : (0 : Int) ≤ z_2 ∧ z_2 ≤ 255 := r_2
  exact ⟨⟨z_0, ⟨z_1_0, es_1_1, sa_1_1, n_1_1, c_1_1⟩, z_2⟩, rfl, fun H => ⟨⟨r_1_0, en_1_1, m_1_1, wf_1_1, rd_1_1 H⟩, r_2.1, r_2.2⟩⟩
theorem all_mem {α : Type} {P : List Chunk → α → Prop} {rs : List α} (h : ∀ r ∈ rs, ∀ H, P H r) (H : List Chunk) : ∀ y ∈ rs, P H y := fun y hy => h y hy H
end Go.Proofs.Ytlgdfoniijmlbaa.M
