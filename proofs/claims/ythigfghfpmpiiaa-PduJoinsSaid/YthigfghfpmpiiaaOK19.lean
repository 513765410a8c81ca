import Derived.Test.YthigfghfpmpiiaaFC19
import Derived.Test.YthigfghfpmpiiaaS7
set_option linter.unusedVariables false
set_option linter.unusedSimpArgs false
namespace Go.Proofs.Ythigfghfpmpiiaa.M
open Go Go.Sep Go.Proofs
set_option maxRecDepth 100000
set_option linter.unusedVariables false
theorem okPd {W : World} (m : Nat) (xs : List Value) (h : Ok Try.prog W m 35 xs) : ∃ r, xs = PdC r ∧ (∀ H, PdOk W H r) := by
  have y := (Ok.struct h Try.underlying35).1.trans (show Try.prog.cellsOf 35 = 2 by kernel_rfl)
  obtain ⟨x_0, x_1, rfl⟩ := len2 y
  have ok : Ok Try.prog W m 35 [x_0, x_1] := h
  obtain ⟨_, k, g⟩ := Ok.struct ok Try.underlying35
  have ok_0 : Ok Try.prog W k 33 [x_0] := Ok.field g (i := 0) (o := 0) (s := 1) rfl rfl rfl (by kernel_rfl) rfl
  have ok_1 : Ok Try.prog W k 25 [x_1] := Ok.field g (i := 1) (o := 1) (s := 1) rfl rfl rfl (by kernel_rfl) rfl
  obtain ⟨z_0, q_0, r_0⟩ := Ok.int ok_0 Try.underlying33
  obtain rfl := one_inj q_0
  have r_0 : (0 : Int) ≤ z_0 ∧ z_0 ≤ 4294967295 := r_0
  obtain ⟨sa_1, n_1, c_1, es_1, q_1, en_1, ec_1, eb_1, wf_1, rd_1⟩ := Ok.ints (b := 1) ok_1 Try.underlying25 Try.underlying5 (by kernel_rfl) (by kernel_rfl)
  obtain rfl := one_inj q_1
  have m_1 : n_1 ≤ 140737488351232 := by omega
  exact ⟨⟨z_0, es_1, sa_1, n_1, c_1⟩, rfl, fun H => ⟨r_0, en_1, m_1, wf_1, rd_1 H⟩⟩
theorem pd_getD {W : World} {rs : List Pd} (h : ∀ r ∈ rs, ∀ H, PdOk W H r) (H : List Chunk) (k : Nat) : PdOk W H (rs.getD k default) := by
  rcases Nat.lt_or_ge k rs.length with hk | hk
  · have e : rs[k] = rs.getD k default := by rw [List.getD_eq_getElem?_getD, List.getElem?_eq_getElem hk]; rfl
    rw [← e]; exact h _ (List.getElem_mem hk) H
  · rw [List.getD_eq_getElem?_getD, List.getElem?_eq_none hk]; exact PdOk.dflt
end Go.Proofs.Ythigfghfpmpiiaa.M
