/- The law TunnelOpens holds: the row, out of the contract that is proved of its text. Conditions: none. -/
import Derived.Test.YtecgicpimgghaaaRows
import Derived.Test.YtecgicpimgghaaaS6
import Derived.Test.YtecgicpimgghaaaS24
import Derived.Test.YtecgicpimgghaaaLTunnelOpens
import Derived.Test.YtecgicpimgghaaaS7
import Derived.WalkKit
import Derived.ProofKit
import Derived.OpenShut
import Derived.ShutString
import Derived.ChangeOld
import Derived.Below
import Derived.SizedLaws
import Derived.Lib.SmallJoins
import Derived.Carry
set_option linter.unusedVariables false
set_option linter.unusedSimpArgs false
namespace Go.Proofs.Ytecgicpimgghaaa.tunnelOpens
open Go.ChangeShapes Go.WideShapes Go.ChangeAt Go.RowKit Go.Sep Go.Joins
open Go.ChangeMaps (open_string shut_string)
set_option linter.unusedVariables false
theorem own : ownKnob Try.prog.godebug = none := by kernel_rfl
theorem laidOut : laidOutB Try.prog = true := by kernel_rfl
set_option maxHeartbeats 1000000 in
set_option maxRecDepth 100000 in
theorem lifted (os : Os) (started : os.Started) (H : Type) (enc : TypeId × Value → H) :
    ReturnsInHanded {} Try.checked os 5 .any (Rows.tunnelOpensSpec.pre6 enc Try.prog Try.f5 Rows.tunnelOpensRow.domain false) (Rows.tunnelOpensSpec.post enc Try.prog Try.f5 false true false false) := by
  refine returnsInHanded_of_change_sized (C := Try.checked) own started (by kernel_rfl) Try.func5
    (ChangeSpec.witness6 (enc := enc) (C := Try.checked) false ⟨#[], #[Value.agg #[Value.int IntKind.u32 0, Value.int IntKind.u8 0, Value.int IntKind.u8 0, Value.slice none 0 0, Value.int IntKind.i64 0, Value.int IntKind.u32 0, Value.bool false, Value.bool false, Value.bool false, Value.bool false, Value.bool false, Value.int IntKind.u8 0, Value.int IntKind.u8 0, Value.int IntKind.u32 0, Value.slice none 0 0]], []⟩ 8 (by kernel_rfl) (by kernel_rfl) (by kernel_rfl) (by kernel_rfl)) ?_
  intro W base args ds gs before hval0 hW hcnd hsz0 _
  have hsz : (DataW.weightsEach Try.prog (Try.f5.params.toList ++ Rows.tunnelOpensSpec.plain.varTypes Try.prog) (ds ++ gs)).all (· ≤ reachBytes) = true := hsz0
  have hval : ∀ (j : Nat) t v, Try.f5.params[j]? = some t → args[j]? = some v → Value.okWide Try.prog W .any base t v := hval0
  have hW' := hW
  obtain ⟨p, q, hA0, hV, rfl, hfz, hnd⟩ := hW
  have hA : DataW.TrodAll enc Try.prog W 0 (fun _ => true) true Try.f5.params.toList args.toList ds p := hA0
  rw [Try.params5] at hA hval hsz
  obtain ⟨v0, vs0, d0, ds0, p0, q0, hargs, rfl, rfl, h0, r0⟩ := trodAll_cons hA
  obtain ⟨rfl, rfl, rfl⟩ := trodAll_nil r0
  obtain rfl : args = #[v0] := by cases args; simp_all
  obtain ⟨rfl, rfl⟩ := trodVars_none hV
  have k0 := h0
  have lt0 : ∀ x ∈ p0, x.block < W.heap.size := by obtain ⟨m, hm⟩ := k0; exact DataW.trod_lt m _ _ _ hm
  obtain ⟨⟨x0⟩, rfl, y0⟩ := Go.WideShapes.okWide_struct Try.underlying49 (hval 0 49 v0 rfl rfl)
  have y0 : x0.length = 15 := y0.trans (show Try.prog.cellsOf 49 = 15 by kernel_rfl)
  obtain ⟨x0_0, x0_1, x0_2, x0_3, x0_4, x0_5, x0_6, x0_7, x0_8, x0_9, x0_10, x0_11, x0_12, x0_13, x0_14, rfl⟩ := len15 y0
  obtain ⟨j0, ok0⟩ := Ok.arg 0 h0 hsz rfl rfl
  have ok0 : Ok Try.prog W j0 49 [x0_0, x0_1, x0_2, x0_3, x0_4, x0_5, x0_6, x0_7, x0_8, x0_9, x0_10, x0_11, x0_12, x0_13, x0_14] := ok0
  obtain ⟨_, k0, g0⟩ := Ok.struct ok0 Try.underlying49
  have ok0_0 : Ok Try.prog W k0 22 [x0_0] := Ok.field g0 (i := 0) (o := 0) (s := 1) rfl rfl rfl (by kernel_rfl) rfl
  have ok0_1 : Ok Try.prog W k0 5 [x0_1] := Ok.field g0 (i := 1) (o := 1) (s := 1) rfl rfl rfl (by kernel_rfl) rfl
  have ok0_2 : Ok Try.prog W k0 5 [x0_2] := Ok.field g0 (i := 2) (o := 2) (s := 1) rfl rfl rfl (by kernel_rfl) rfl
  have ok0_3 : Ok Try.prog W k0 23 [x0_3] := Ok.field g0 (i := 3) (o := 3) (s := 1) rfl rfl rfl (by kernel_rfl) rfl
  have ok0_4 : Ok Try.prog W k0 25 [x0_4, x0_5, x0_6, x0_7, x0_8, x0_9, x0_10, x0_11, x0_12, x0_13, x0_14] := Ok.field g0 (i := 4) (o := 4) (s := 11) rfl rfl rfl (by kernel_rfl) rfl
  obtain ⟨z0_0, q0_0, r0_0⟩ := Ok.int ok0_0 Try.underlying22
  obtain rfl := one_inj q0_0
  have r0_0 : (0 : Int) ≤ z0_0 ∧ z0_0 ≤ 4294967295 := r0_0
  obtain ⟨z0_1, q0_1, r0_1⟩ := Ok.int ok0_1 Try.underlying5
  obtain rfl := one_inj q0_1
  have r0_1 : (0 : Int) ≤ z0_1 ∧ z0_1 ≤ 255 := r0_1
  obtain ⟨z0_2, q0_2, r0_2⟩ := Ok.int ok0_2 Try.underlying5
  obtain rfl := one_inj q0_2
  have r0_2 : (0 : Int) ≤ z0_2 ∧ z0_2 ≤ 255 := r0_2
  obtain ⟨sa0_3, n0_3, c0_3, es0_3, q0_3, en0_3, ec0_3, eb0_3, wf0_3, rd0_3⟩ := Ok.ints (b := 1) ok0_3 Try.underlying23 Try.underlying5 (by kernel_rfl) (by kernel_rfl)
  obtain rfl := one_inj q0_3
  have m0_3 : n0_3 ≤ 140737488351232 := by omega
  obtain ⟨_, k0_4, g0_4⟩ := Ok.struct ok0_4 Try.underlying25
  have ok0_4_0 : Ok Try.prog W k0_4 3 [x0_4] := Ok.field g0_4 (i := 0) (o := 0) (s := 1) rfl rfl rfl (by kernel_rfl) rfl
  have ok0_4_1 : Ok Try.prog W k0_4 22 [x0_5] := Ok.field g0_4 (i := 1) (o := 1) (s := 1) rfl rfl rfl (by kernel_rfl) rfl
  have ok0_4_2 : Ok Try.prog W k0_4 4 [x0_6] := Ok.field g0_4 (i := 2) (o := 2) (s := 1) rfl rfl rfl (by kernel_rfl) rfl
  have ok0_4_3 : Ok Try.prog W k0_4 4 [x0_7] := Ok.field g0_4 (i := 3) (o := 3) (s := 1) rfl rfl rfl (by kernel_rfl) rfl
  have ok0_4_4 : Ok Try.prog W k0_4 4 [x0_8] := Ok.field g0_4 (i := 4) (o := 4) (s := 1) rfl rfl rfl (by kernel_rfl) rfl
  have ok0_4_5 : Ok Try.prog W k0_4 4 [x0_9] := Ok.field g0_4 (i := 5) (o := 5) (s := 1) rfl rfl rfl (by kernel_rfl) rfl
  have ok0_4_6 : Ok Try.prog W k0_4 4 [x0_10] := Ok.field g0_4 (i := 6) (o := 6) (s := 1) rfl rfl rfl (by kernel_rfl) rfl
  have ok0_4_7 : Ok Try.prog W k0_4 5 [x0_11] := Ok.field g0_4 (i := 7) (o := 7) (s := 1) rfl rfl rfl (by kernel_rfl) rfl
  have ok0_4_8 : Ok Try.prog W k0_4 5 [x0_12] := Ok.field g0_4 (i := 8) (o := 8) (s := 1) rfl rfl rfl (by kernel_rfl) rfl
  have ok0_4_9 : Ok Try.prog W k0_4 22 [x0_13] := Ok.field g0_4 (i := 9) (o := 9) (s := 1) rfl rfl rfl (by kernel_rfl) rfl
  have ok0_4_10 : Ok Try.prog W k0_4 23 [x0_14] := Ok.field g0_4 (i := 10) (o := 10) (s := 1) rfl rfl rfl (by kernel_rfl) rfl
  obtain ⟨z0_4_0, q0_4_0, r0_4_0⟩ := Ok.int ok0_4_0 Try.underlying3
  obtain rfl := one_inj q0_4_0
  have r0_4_0 : (-9223372036854775808 : Int) ≤ z0_4_0 ∧ z0_4_0 ≤ 9223372036854775807 := r0_4_0
  obtain ⟨z0_4_1, q0_4_1, r0_4_1⟩ := Ok.int ok0_4_1 Try.underlying22
  obtain rfl := one_inj q0_4_1
  have r0_4_1 : (0 : Int) ≤ z0_4_1 ∧ z0_4_1 ≤ 4294967295 := r0_4_1
  obtain ⟨b0_4_2, q0_4_2⟩ := Ok.bool ok0_4_2 Try.underlying4
  obtain rfl := one_inj q0_4_2
  obtain ⟨b0_4_3, q0_4_3⟩ := Ok.bool ok0_4_3 Try.underlying4
  obtain rfl := one_inj q0_4_3
  obtain ⟨b0_4_4, q0_4_4⟩ := Ok.bool ok0_4_4 Try.underlying4
  obtain rfl := one_inj q0_4_4
  obtain ⟨b0_4_5, q0_4_5⟩ := Ok.bool ok0_4_5 Try.underlying4
  obtain rfl := one_inj q0_4_5
  obtain ⟨b0_4_6, q0_4_6⟩ := Ok.bool ok0_4_6 Try.underlying4
  obtain rfl := one_inj q0_4_6
  obtain ⟨z0_4_7, q0_4_7, r0_4_7⟩ := Ok.int ok0_4_7 Try.underlying5
  obtain rfl := one_inj q0_4_7
  have r0_4_7 : (0 : Int) ≤ z0_4_7 ∧ z0_4_7 ≤ 255 := r0_4_7
  obtain ⟨z0_4_8, q0_4_8, r0_4_8⟩ := Ok.int ok0_4_8 Try.underlying5
  obtain rfl := one_inj q0_4_8
  have r0_4_8 : (0 : Int) ≤ z0_4_8 ∧ z0_4_8 ≤ 255 := r0_4_8
  obtain ⟨z0_4_9, q0_4_9, r0_4_9⟩ := Ok.int ok0_4_9 Try.underlying22
  obtain rfl := one_inj q0_4_9
  have r0_4_9 : (0 : Int) ≤ z0_4_9 ∧ z0_4_9 ≤ 4294967295 := r0_4_9
  obtain ⟨sa0_4_10, n0_4_10, c0_4_10, es0_4_10, q0_4_10, en0_4_10, ec0_4_10, eb0_4_10, wf0_4_10, rd0_4_10⟩ := Ok.ints (b := 1) ok0_4_10 Try.underlying23 Try.underlying5 (by kernel_rfl) (by kernel_rfl)
  obtain rfl := one_inj q0_4_10
  have m0_4_10 : n0_4_10 ≤ 140737488351232 := by omega
  clear hA0 hval0 hsz0 hsz
  refine (SC.law (w0 := W) (M.tunnelOpens z0_0 z0_1 z0_2 r0_0 r0_1 r0_2 sa0_3 n0_3 c0_3 es0_3 rd0_3 en0_3 m0_3 wf0_3 ⟨z0_4_0, z0_4_1, b0_4_2, b0_4_3, b0_4_4, b0_4_5, b0_4_6, z0_4_7, z0_4_8, z0_4_9, es0_4_10⟩ sa0_4_10 n0_4_10 c0_4_10 rd0_4_10 en0_4_10 m0_4_10 ⟨r0_4_0, r0_4_1, r0_4_7, r0_4_8, r0_4_9, wf0_4_10⟩)).mono fun e W' ⟨he, bel⟩ => ?_
  subst he
  exact ⟨_, rfl, _, _, _, [], _, [], hW', trodAll_mk1 (shut_bool Try.underlying4 _), (trodAll_cons_mk (Below.trod laidOut (by kernel_rfl) (of_decide_eq_true (by kernel_rfl)) k0 bel lt0) trodAll_mk0), rfl, bel.frame _, fun h => by cases h⟩
theorem over : Rows.tunnelOpensRow.holds Try.pinned (OpenSpec.ofChange Rows.tunnelOpensSpec) :=
  OpenClaim.holds_of_wide 5 Try.f5 rfl rfl rfl rfl rfl rfl rfl ⟨rfl, rfl, rfl, rfl, rfl⟩ rfl rfl rfl rfl rfl (by kernel_rfl) Try.func5 (by kernel_rfl)
    (of_decide_eq_true (by kernel_rfl)) (by unfold Func.isWrapper; first | (rw [if_pos (by decide +kernel)]; kernel_rfl) | (rw [if_neg (by decide +kernel)]; exact ⟨rfl, rfl⟩))
    (fun os started H enc _ => lifted os started H enc)
theorem proved : Rows.TunnelOpensSaid := over
#print axioms proved
end Go.Proofs.Ytecgicpimgghaaa.tunnelOpens
namespace Go.Proofs.Ytecgicpimgghaaa
/-- The row, under a short name, for the claim. -/
theorem tunnelOpens_holds : Rows.TunnelOpensSaid := tunnelOpens.proved
end Go.Proofs.Ytecgicpimgghaaa
