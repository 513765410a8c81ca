import Derived.Test.YthigfghfpmpiiaaDoorFA19D
import Derived.Test.YthigfghfpmpiiaaDoorS7
set_option linter.unusedVariables false
set_option linter.unusedSimpArgs false
namespace Go.Proofs.YthigfghfpmpiiaaDoor.M
open Go Go.Sep Go.Proofs
set_option maxRecDepth 100000
set_option linter.unusedVariables false
theorem okPd {W : World} (m : Nat) (xs : List Value) (h : Ok Tryd.prog W m 35 xs) : ∃ r, xs = PdC r ∧ (∀ H, PdOk W H r) := by
  have y := (Ok.struct h Tryd.underlying35).1.trans (show Tryd.prog.cellsOf 35 = 2 by kernel_rfl)
  obtain ⟨x_0, x_1, rfl⟩ := len2 y
  have ok : Ok Tryd.prog W m 35 [x_0, x_1] := h
  obtain ⟨_, k, g⟩ := Ok.struct ok Tryd.underlying35
  have ok_0 : Ok Tryd.prog W k 33 [x_0] := Ok.field g (i := 0) (o := 0) (s := 1) rfl rfl rfl (by kernel_rfl) rfl
  have ok_1 : Ok Tryd.prog W k 23 [x_1] := Ok.field g (i := 1) (o := 1) (s := 1) rfl rfl rfl (by kernel_rfl) rfl
  obtain ⟨z_0, q_0, r_0⟩ := Ok.int ok_0 Tryd.underlying33
  obtain rfl := one_inj q_0
  have r_0 : (0 : Int) ≤ z_0 ∧ z_0 ≤ 4294967295 := r_0
  obtain ⟨sa_1, n_1, c_1, es_1, q_1, en_1, ec_1, eb_1, wf_1, rd_1⟩ := Ok.ints (b := 1) ok_1 Tryd.underlying23 Tryd.underlying5 (by kernel_rfl) (by kernel_rfl)
  obtain rfl := one_inj q_1
  have m_1 : n_1 ≤ 140737488351232 := by omega
  exact ⟨⟨z_0, es_1, sa_1, n_1, c_1⟩, rfl, fun H => ⟨r_0, en_1, m_1, wf_1, rd_1 H⟩⟩
theorem all_mem {α : Type} {P : List Chunk → α → Prop} {rs : List α} (h : ∀ r ∈ rs, ∀ H, P H r) (H : List Chunk) : ∀ y ∈ rs, P H y := fun y hy => h y hy H
end Go.Proofs.YthigfghfpmpiiaaDoor.M
