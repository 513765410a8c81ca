/- The law PackWaits holds: the row, out of the contract that is proved of its text. Conditions: none. -/
import Derived.Test.YtlgdfoniijmlbaaRows
import Derived.Test.YtlgdfoniijmlbaaOK20
import Derived.Test.YtlgdfoniijmlbaaFJ20
import Derived.Test.YtlgdfoniijmlbaaS7
import Derived.WalkKit
import Derived.ProofKit
import Derived.OpenShut
import Derived.ShutString
import Derived.ChangeOld
import Derived.Below
import Derived.SizedLaws
import Derived.Lib.SmallJoins
import Derived.Carry
set_option linter.unusedVariables false
set_option linter.unusedSimpArgs false
namespace Go.Proofs.Ytlgdfoniijmlbaa.packWaits
open Go.ChangeShapes Go.WideShapes Go.ChangeAt Go.RowKit Go.Sep Go.Joins
open Go.ChangeMaps (open_string shut_string)
set_option linter.unusedVariables false
theorem own : ownKnob Try.prog.godebug = none := by kernel_rfl
theorem laidOut : laidOutB Try.prog = true := by kernel_rfl
set_option maxHeartbeats 1000000 in
set_option maxRecDepth 100000 in
theorem lifted (os : Os) (started : os.Started) (H : Type) (enc : TypeId × Value → H) :
    ReturnsInHanded {} Try.checked os 3 .any (Rows.packWaitsSpec.pre6 enc Try.prog Try.f3 Rows.packWaitsRow.domain false) (Rows.packWaitsSpec.post enc Try.prog Try.f3 false true false false) := by
  refine returnsInHanded_of_change_sized (C := Try.checked) own started (by kernel_rfl) Try.func3
    (ChangeSpec.witness6 (enc := enc) (C := Try.checked) false ⟨#[], #[Value.agg #[Value.int IntKind.i64 0, Value.int IntKind.i64 0, Value.int IntKind.u32 0, Value.slice none 0 0, Value.slice none 0 0]], []⟩ 8 (by kernel_rfl) (by kernel_rfl) (by kernel_rfl) (by kernel_rfl)) ?_
  intro W base args ds gs before hval0 hW hcnd hsz0 _
  have hsz : (DataW.weightsEach Try.prog (Try.f3.params.toList ++ Rows.packWaitsSpec.plain.varTypes Try.prog) (ds ++ gs)).all (· ≤ reachBytes) = true := hsz0
  have hval : ∀ (j : Nat) t v, Try.f3.params[j]? = some t → args[j]? = some v → Value.okWide Try.prog W .any base t v := hval0
  have hW' := hW
  obtain ⟨p, q, hA0, hV, rfl, hfz, hnd⟩ := hW
  have hA : DataW.TrodAll enc Try.prog W 0 (fun _ => true) true Try.f3.params.toList args.toList ds p := hA0
  rw [Try.params3] at hA hval hsz
  obtain ⟨v0, vs0, d0, ds0, p0, q0, hargs, rfl, rfl, h0, r0⟩ := trodAll_cons hA
  obtain ⟨rfl, rfl, rfl⟩ := trodAll_nil r0
  obtain rfl : args = #[v0] := by cases args; simp_all
  obtain ⟨rfl, rfl⟩ := trodVars_none hV
  have k0 := h0
  have lt0 : ∀ x ∈ p0, x.block < W.heap.size := by obtain ⟨m, hm⟩ := k0; exact DataW.trod_lt m _ _ _ hm
  obtain ⟨⟨x0⟩, rfl, y0⟩ := Go.WideShapes.okWide_struct Try.underlying28 (hval 0 28 v0 rfl rfl)
  have y0 : x0.length = 5 := y0.trans (show Try.prog.cellsOf 28 = 5 by kernel_rfl)
  obtain ⟨x0_0, x0_1, x0_2, x0_3, x0_4, rfl⟩ := len5 y0
  obtain ⟨j0, ok0⟩ := Ok.arg 0 h0 hsz rfl rfl
  have ok0 : Ok Try.prog W j0 28 [x0_0, x0_1, x0_2, x0_3, x0_4] := ok0
  obtain ⟨_, k0, g0⟩ := Ok.struct ok0 Try.underlying28
  have ok0_0 : Ok Try.prog W k0 3 [x0_0] := Ok.field g0 (i := 0) (o := 0) (s := 1) rfl rfl rfl (by kernel_rfl) rfl
  have ok0_1 : Ok Try.prog W k0 3 [x0_1] := Ok.field g0 (i := 1) (o := 1) (s := 1) rfl rfl rfl (by kernel_rfl) rfl
  have ok0_2 : Ok Try.prog W k0 25 [x0_2, x0_3] := Ok.field g0 (i := 2) (o := 2) (s := 2) rfl rfl rfl (by kernel_rfl) rfl
  have ok0_3 : Ok Try.prog W k0 26 [x0_4] := Ok.field g0 (i := 3) (o := 4) (s := 1) rfl rfl rfl (by kernel_rfl) rfl
  obtain ⟨z0_0, q0_0, r0_0⟩ := Ok.int ok0_0 Try.underlying3
  obtain rfl := one_inj q0_0
  have r0_0 : (-9223372036854775808 : Int) ≤ z0_0 ∧ z0_0 ≤ 9223372036854775807 := r0_0
  obtain ⟨z0_1, q0_1, r0_1⟩ := Ok.int ok0_1 Try.underlying3
  obtain rfl := one_inj q0_1
  have r0_1 : (-9223372036854775808 : Int) ≤ z0_1 ∧ z0_1 ≤ 9223372036854775807 := r0_1
  obtain ⟨_, k0_2, g0_2⟩ := Ok.struct ok0_2 Try.underlying25
  have ok0_2_0 : Ok Try.prog W k0_2 22 [x0_2] := Ok.field g0_2 (i := 0) (o := 0) (s := 1) rfl rfl rfl (by kernel_rfl) rfl
  have ok0_2_1 : Ok Try.prog W k0_2 23 [x0_3] := Ok.field g0_2 (i := 1) (o := 1) (s := 1) rfl rfl rfl (by kernel_rfl) rfl
  obtain ⟨z0_2_0, q0_2_0, r0_2_0⟩ := Ok.int ok0_2_0 Try.underlying22
  obtain rfl := one_inj q0_2_0
  have r0_2_0 : (0 : Int) ≤ z0_2_0 ∧ z0_2_0 ≤ 4294967295 := r0_2_0
  obtain ⟨sa0_2_1, n0_2_1, c0_2_1, es0_2_1, q0_2_1, en0_2_1, ec0_2_1, eb0_2_1, wf0_2_1, rd0_2_1⟩ := Ok.ints (b := 1) ok0_2_1 Try.underlying23 Try.underlying5 (by kernel_rfl) (by kernel_rfl)
  obtain rfl := one_inj q0_2_1
  have m0_2_1 : n0_2_1 ≤ 140737488351232 := by omega
  obtain ⟨sa0_3, n0_3, c0_3, es0_3, q0_3, en0_3, ec0_3, eb0_3, wf0_3, rd0_3⟩ := Ok.rows (α := Pd) (b := 32) (sz := 2) (PdC) (fun r => ∀ H, PdOk W H r) ok0_3 Try.underlying26 (by kernel_rfl) (by kernel_rfl) (M.okPd)
  obtain rfl := one_inj q0_3
  have m0_3 : n0_3 ≤ 140737488351232 := by omega
  clear hA0 hval0 hsz0 hsz
  refine (SC.law (w0 := W) (M.packWaitsI z0_0 z0_1 ⟨z0_2_0, es0_2_1, sa0_2_1, n0_2_1, c0_2_1⟩ (fun H => ⟨r0_2_0, en0_2_1, m0_2_1, wf0_2_1, rd0_2_1 H⟩) es0_3 sa0_3 n0_3 c0_3 rd0_3 en0_3 (by omega) (M.all_mem wf0_3))).mono fun e W' ⟨he, bel⟩ => ?_
  subst he
  exact ⟨_, rfl, _, _, _, [], _, [], hW', trodAll_mk1 (shut_bool Try.underlying4 _), (trodAll_cons_mk (Below.trod laidOut (by kernel_rfl) (of_decide_eq_true (by kernel_rfl)) k0 bel lt0) trodAll_mk0), rfl, bel.frame _, fun h => by cases h⟩
theorem over : Rows.packWaitsRow.holds Try.pinned (OpenSpec.ofChange Rows.packWaitsSpec) :=
  OpenClaim.holds_of_wide 3 Try.f3 rfl rfl rfl rfl rfl rfl rfl ⟨rfl, rfl, rfl, rfl, rfl⟩ rfl rfl rfl rfl rfl (by kernel_rfl) Try.func3 (by kernel_rfl)
    (of_decide_eq_true (by kernel_rfl)) (by unfold Func.isWrapper; first | (rw [if_pos (by decide +kernel)]; kernel_rfl) | (rw [if_neg (by decide +kernel)]; exact ⟨rfl, rfl⟩))
    (fun os started H enc _ => lifted os started H enc)
theorem proved : Rows.PackWaitsSaid := over
#print axioms proved
end Go.Proofs.Ytlgdfoniijmlbaa.packWaits
namespace Go.Proofs.Ytlgdfoniijmlbaa
/-- The row, under a short name, for the claim. -/
theorem packWaits_holds : Rows.PackWaitsSaid := packWaits.proved
end Go.Proofs.Ytlgdfoniijmlbaa
