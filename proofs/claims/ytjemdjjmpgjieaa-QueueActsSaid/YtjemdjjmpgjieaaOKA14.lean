import Derived.Test.YtjemdjjmpgjieaaFI14
import Derived.Test.YtjemdjjmpgjieaaS7
import Derived.Test.YtjemdjjmpgjieaaFP14
set_option linter.unusedVariables false
set_option linter.unusedSimpArgs false
namespace Go.Proofs.Ytjemdjjmpgjieaa.M
open Go Go.Sep Go.Proofs
set_option maxRecDepth 100000
set_option linter.unusedVariables false
theorem okFs {W : World} (m : Nat) (xs : List Value) (h : Ok Try.prog W m 31 xs) : ∃ r, xs = FsC r ∧ (∀ H, FsOk W H r) := by
  have y := (Ok.struct h Try.underlying31).1.trans (show Try.prog.cellsOf 31 = 11 by kernel_rfl)
  obtain ⟨x_0, x_1, x_2, x_3, x_4, x_5, x_6, x_7, x_8, x_9, x_10, rfl⟩ := len11 y
  have ok : Ok Try.prog W m 31 [x_0, x_1, x_2, x_3, x_4, x_5, x_6, x_7, x_8, x_9, x_10] := h
  obtain ⟨_, k, g⟩ := Ok.struct ok Try.underlying31
  have ok_0 : Ok Try.prog W k 3 [x_0] := Ok.field g (i := 0) (o := 0) (s := 1) rfl rfl rfl (by kernel_rfl) rfl
  have ok_1 : Ok Try.prog W k 28 [x_1] := Ok.field g (i := 1) (o := 1) (s := 1) rfl rfl rfl (by kernel_rfl) rfl
  have ok_2 : Ok Try.prog W k 4 [x_2] := Ok.field g (i := 2) (o := 2) (s := 1) rfl rfl rfl (by kernel_rfl) rfl
  have ok_3 : Ok Try.prog W k 4 [x_3] := Ok.field g (i := 3) (o := 3) (s := 1) rfl rfl rfl (by kernel_rfl) rfl
  have ok_4 : Ok Try.prog W k 4 [x_4] := Ok.field g (i := 4) (o := 4) (s := 1) rfl rfl rfl (by kernel_rfl) rfl
  have ok_5 : Ok Try.prog W k 4 [x_5] := Ok.field g (i := 5) (o := 5) (s := 1) rfl rfl rfl (by kernel_rfl) rfl
  have ok_6 : Ok Try.prog W k 4 [x_6] := Ok.field g (i := 6) (o := 6) (s := 1) rfl rfl rfl (by kernel_rfl) rfl
  have ok_7 : Ok Try.prog W k 5 [x_7] := Ok.field g (i := 7) (o := 7) (s := 1) rfl rfl rfl (by kernel_rfl) rfl
  have ok_8 : Ok Try.prog W k 5 [x_8] := Ok.field g (i := 8) (o := 8) (s := 1) rfl rfl rfl (by kernel_rfl) rfl
  have ok_9 : Ok Try.prog W k 28 [x_9] := Ok.field g (i := 9) (o := 9) (s := 1) rfl rfl rfl (by kernel_rfl) rfl
  have ok_10 : Ok Try.prog W k 29 [x_10] := Ok.field g (i := 10) (o := 10) (s := 1) rfl rfl rfl (by kernel_rfl) rfl
  obtain ⟨z_0, q_0, r_0⟩ := Ok.int ok_0 Try.underlying3
  obtain rfl := one_inj q_0
  have r_0 : (-9223372036854775808 : Int) ≤ z_0 ∧ z_0 ≤ 9223372036854775807 := r_0
  obtain ⟨z_1, q_1, r_1⟩ := Ok.int ok_1 Try.underlying28
  obtain rfl := one_inj q_1
  have r_1 : (0 : Int) ≤ z_1 ∧ z_1 ≤ 4294967295 := r_1
  obtain ⟨b_2, q_2⟩ := Ok.bool ok_2 Try.underlying4
  obtain rfl := one_inj q_2
  obtain ⟨b_3, q_3⟩ := Ok.bool ok_3 Try.underlying4
  obtain rfl := one_inj q_3
  obtain ⟨b_4, q_4⟩ := Ok.bool ok_4 Try.underlying4
  obtain rfl := one_inj q_4
  obtain ⟨b_5, q_5⟩ := Ok.bool ok_5 Try.underlying4
  obtain rfl := one_inj q_5
  obtain ⟨b_6, q_6⟩ := Ok.bool ok_6 Try.underlying4
  obtain rfl := one_inj q_6
  obtain ⟨z_7, q_7, r_7⟩ := Ok.int ok_7 Try.underlying5
  obtain rfl := one_inj q_7
  have r_7 : (0 : Int) ≤ z_7 ∧ z_7 ≤ 255 := r_7
  obtain ⟨z_8, q_8, r_8⟩ := Ok.int ok_8 Try.underlying5
  obtain rfl := one_inj q_8
  have r_8 : (0 : Int) ≤ z_8 ∧ z_8 ≤ 255 := r_8
  obtain ⟨z_9, q_9, r_9⟩ := Ok.int ok_9 Try.underlying28
  obtain rfl := one_inj q_9
  have r_9 : (0 : Int) ≤ z_9 ∧ z_9 ≤ 4294967295 := r_9
  obtain ⟨sa_10, n_10, c_10, es_10, q_10, en_10, ec_10, eb_10, wf_10, rd_10⟩ := Ok.ints (b := 1) ok_10 Try.underlying29 Try.underlying5 (by kernel_rfl) (by kernel_rfl)
  obtain rfl := one_inj q_10
  have m_10 : n_10 ≤ 140737488351232 := by omega
  exact ⟨⟨⟨z_0, z_1, b_2, b_3, b_4, b_5, b_6, z_7, z_8, z_9, es_10⟩, sa_10, n_10, c_10⟩, rfl, fun H => ⟨en_10, m_10, ⟨r_0, r_1, r_7, r_8, r_9, wf_10⟩, rd_10 H⟩⟩
end Go.Proofs.Ytjemdjjmpgjieaa.M

namespace Go.Proofs.Ytjemdjjmpgjieaa.M
open Go Go.Sep Go.Proofs
set_option maxRecDepth 100000
set_option linter.unusedVariables false
theorem okQa {W : World} (m : Nat) (xs : List Value) (h : Ok Try.prog W m 49 xs) : ∃ r, xs = QaC r ∧ (∀ H, FsOk W H r.x) := by
  have y := (Ok.struct h Try.underlying49).1.trans (show Try.prog.cellsOf 49 = 13 by kernel_rfl)
  obtain ⟨x_0, x_1, t, rfl⟩ : ∃ a b t, xs = a :: b :: t := by
    match xs, y with
    | a :: b :: t, _ => exact ⟨a, b, t, rfl⟩
  obtain ⟨x_2, x_3, x_4, x_5, x_6, x_7, x_8, x_9, x_10, x_11, x_12, rfl⟩ := len11 (show t.length = 11 by simpa using y)
  obtain ⟨_, k, g⟩ := Ok.struct h Try.underlying49
  have ok_0 : Ok Try.prog W k 3 [x_0] := Ok.field g (i := 0) (o := 0) (s := 1) rfl rfl rfl (by kernel_rfl) rfl
  have ok_1 : Ok Try.prog W k 3 [x_1] := Ok.field g (i := 1) (o := 1) (s := 1) rfl rfl rfl (by kernel_rfl) rfl
  have ok_2 : Ok Try.prog W k 31 [x_2, x_3, x_4, x_5, x_6, x_7, x_8, x_9, x_10, x_11, x_12] := Ok.field g (i := 2) (o := 2) (s := 11) rfl rfl rfl (by kernel_rfl) rfl
  obtain ⟨z_0, q_0, r_0⟩ := Ok.int ok_0 Try.underlying3
  obtain rfl := one_inj q_0
  obtain ⟨z_1, q_1, r_1⟩ := Ok.int ok_1 Try.underlying3
  obtain rfl := one_inj q_1
  obtain ⟨r, e1, hr⟩ := okFs k _ ok_2
  exact ⟨⟨z_0, z_1, r⟩, by rw [QaC, ← e1], hr⟩
end Go.Proofs.Ytjemdjjmpgjieaa.M
