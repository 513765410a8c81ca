/- The law TunnelEth holds: the row, out of the contract that is proved of its text. Conditions: none. -/
import Derived.Test.YtecgicpimgghaaaRows
import Derived.Test.YtecgicpimgghaaaS6
import Derived.Test.YtecgicpimgghaaaS24
import Derived.Test.YtecgicpimgghaaaLTunnelEth
import Derived.Test.YtecgicpimgghaaaS7
import Derived.WalkKit
import Derived.ProofKit
import Derived.OpenShut
import Derived.ShutString
import Derived.ChangeOld
import Derived.Below
import Derived.SizedLaws
import Derived.Lib.SmallJoins
import Derived.Carry
set_option linter.unusedVariables false
set_option linter.unusedSimpArgs false
namespace Go.Proofs.Ytecgicpimgghaaa.tunnelEth
open Go.ChangeShapes Go.WideShapes Go.ChangeAt Go.RowKit Go.Sep Go.Joins
open Go.ChangeMaps (open_string shut_string)
set_option linter.unusedVariables false
theorem own : ownKnob Try.prog.godebug = none := by kernel_rfl
theorem laidOut : laidOutB Try.prog = true := by kernel_rfl
set_option maxHeartbeats 1000000 in
set_option maxRecDepth 100000 in
theorem lifted (os : Os) (started : os.Started) (H : Type) (enc : TypeId × Value → H) :
    ReturnsInHanded {} Try.checked os 4 .any (Rows.tunnelEthSpec.pre6 enc Try.prog Try.f4 Rows.tunnelEthRow.domain false) (Rows.tunnelEthSpec.post enc Try.prog Try.f4 false true false false) := by
  refine returnsInHanded_of_change_sized (C := Try.checked) own started (by kernel_rfl) Try.func4
    (ChangeSpec.witness6 (enc := enc) (C := Try.checked) false ⟨#[], #[Value.agg #[Value.int IntKind.u8 0, Value.int IntKind.u8 0, Value.int IntKind.u8 0, Value.int IntKind.u8 0, Value.int IntKind.u8 0, Value.int IntKind.u8 0, Value.int IntKind.u8 0, Value.int IntKind.u8 0, Value.int IntKind.u8 0, Value.int IntKind.u8 0, Value.int IntKind.u8 0, Value.int IntKind.u8 0, Value.bool false, Value.int IntKind.u16 0, Value.int IntKind.u16 0, Value.slice none 0 0], Value.slice none 0 0], []⟩ 8 (by kernel_rfl) (by kernel_rfl) (by kernel_rfl) (by kernel_rfl)) ?_
  intro W base args ds gs before hval0 hW hcnd hsz0 _
  have hsz : (DataW.weightsEach Try.prog (Try.f4.params.toList ++ Rows.tunnelEthSpec.plain.varTypes Try.prog) (ds ++ gs)).all (· ≤ reachBytes) = true := hsz0
  have hval : ∀ (j : Nat) t v, Try.f4.params[j]? = some t → args[j]? = some v → Value.okWide Try.prog W .any base t v := hval0
  have hW' := hW
  obtain ⟨p, q, hA0, hV, rfl, hfz, hnd⟩ := hW
  have hA : DataW.TrodAll enc Try.prog W 0 (fun _ => true) true Try.f4.params.toList args.toList ds p := hA0
  rw [Try.params4] at hA hval hsz
  obtain ⟨v0, vs0, d0, ds0, p0, q0, hargs, rfl, rfl, h0, r0⟩ := trodAll_cons hA
  obtain ⟨v1, vs1, d1, ds1, p1, q1, rfl, rfl, rfl, h1, r1⟩ := trodAll_cons r0
  obtain ⟨rfl, rfl, rfl⟩ := trodAll_nil r1
  obtain rfl : args = #[v0, v1] := by cases args; simp_all
  obtain ⟨rfl, rfl⟩ := trodVars_none hV
  have k0 := h0
  have lt0 : ∀ x ∈ p0, x.block < W.heap.size := by obtain ⟨m, hm⟩ := k0; exact DataW.trod_lt m _ _ _ hm
  obtain ⟨⟨x0⟩, rfl, y0⟩ := Go.WideShapes.okWide_struct Try.underlying38 (hval 0 38 v0 rfl rfl)
  have y0 : x0.length = 16 := y0.trans (show Try.prog.cellsOf 38 = 16 by kernel_rfl)
  obtain ⟨x0_0, x0_1, x0_2, x0_3, x0_4, x0_5, x0_6, x0_7, x0_8, x0_9, x0_10, x0_11, x0_12, x0_13, x0_14, x0_15, rfl⟩ := len16 y0
  obtain ⟨j0, ok0⟩ := Ok.arg 0 h0 hsz rfl rfl
  have ok0 : Ok Try.prog W j0 38 [x0_0, x0_1, x0_2, x0_3, x0_4, x0_5, x0_6, x0_7, x0_8, x0_9, x0_10, x0_11, x0_12, x0_13, x0_14, x0_15] := ok0
  obtain ⟨_, k0, g0⟩ := Ok.struct ok0 Try.underlying38
  have ok0_0 : Ok Try.prog W k0 35 [x0_0, x0_1, x0_2, x0_3, x0_4, x0_5] := Ok.field g0 (i := 0) (o := 0) (s := 6) rfl rfl rfl (by kernel_rfl) rfl
  have ok0_1 : Ok Try.prog W k0 35 [x0_6, x0_7, x0_8, x0_9, x0_10, x0_11] := Ok.field g0 (i := 1) (o := 6) (s := 6) rfl rfl rfl (by kernel_rfl) rfl
  have ok0_2 : Ok Try.prog W k0 4 [x0_12] := Ok.field g0 (i := 2) (o := 12) (s := 1) rfl rfl rfl (by kernel_rfl) rfl
  have ok0_3 : Ok Try.prog W k0 36 [x0_13] := Ok.field g0 (i := 3) (o := 13) (s := 1) rfl rfl rfl (by kernel_rfl) rfl
  have ok0_4 : Ok Try.prog W k0 36 [x0_14] := Ok.field g0 (i := 4) (o := 14) (s := 1) rfl rfl rfl (by kernel_rfl) rfl
  have ok0_5 : Ok Try.prog W k0 23 [x0_15] := Ok.field g0 (i := 5) (o := 15) (s := 1) rfl rfl rfl (by kernel_rfl) rfl
  obtain ⟨_, k0_0, g0_0⟩ := Ok.array ok0_0 Try.underlying35
  have ok0_0_0 : Ok Try.prog W k0_0 5 [x0_0] := Ok.elem g0_0 0 1 (by omega) (by kernel_rfl) rfl
  have ok0_0_1 : Ok Try.prog W k0_0 5 [x0_1] := Ok.elem g0_0 1 1 (by omega) (by kernel_rfl) rfl
  have ok0_0_2 : Ok Try.prog W k0_0 5 [x0_2] := Ok.elem g0_0 2 1 (by omega) (by kernel_rfl) rfl
  have ok0_0_3 : Ok Try.prog W k0_0 5 [x0_3] := Ok.elem g0_0 3 1 (by omega) (by kernel_rfl) rfl
  have ok0_0_4 : Ok Try.prog W k0_0 5 [x0_4] := Ok.elem g0_0 4 1 (by omega) (by kernel_rfl) rfl
  have ok0_0_5 : Ok Try.prog W k0_0 5 [x0_5] := Ok.elem g0_0 5 1 (by omega) (by kernel_rfl) rfl
  obtain ⟨z0_0_0, q0_0_0, r0_0_0⟩ := Ok.int ok0_0_0 Try.underlying5
  obtain rfl := one_inj q0_0_0
  have r0_0_0 : (0 : Int) ≤ z0_0_0 ∧ z0_0_0 ≤ 255 := r0_0_0
  obtain ⟨z0_0_1, q0_0_1, r0_0_1⟩ := Ok.int ok0_0_1 Try.underlying5
  obtain rfl := one_inj q0_0_1
  have r0_0_1 : (0 : Int) ≤ z0_0_1 ∧ z0_0_1 ≤ 255 := r0_0_1
  obtain ⟨z0_0_2, q0_0_2, r0_0_2⟩ := Ok.int ok0_0_2 Try.underlying5
  obtain rfl := one_inj q0_0_2
  have r0_0_2 : (0 : Int) ≤ z0_0_2 ∧ z0_0_2 ≤ 255 := r0_0_2
  obtain ⟨z0_0_3, q0_0_3, r0_0_3⟩ := Ok.int ok0_0_3 Try.underlying5
  obtain rfl := one_inj q0_0_3
  have r0_0_3 : (0 : Int) ≤ z0_0_3 ∧ z0_0_3 ≤ 255 := r0_0_3
  obtain ⟨z0_0_4, q0_0_4, r0_0_4⟩ := Ok.int ok0_0_4 Try.underlying5
  obtain rfl := one_inj q0_0_4
  have r0_0_4 : (0 : Int) ≤ z0_0_4 ∧ z0_0_4 ≤ 255 := r0_0_4
  obtain ⟨z0_0_5, q0_0_5, r0_0_5⟩ := Ok.int ok0_0_5 Try.underlying5
  obtain rfl := one_inj q0_0_5
  have r0_0_5 : (0 : Int) ≤ z0_0_5 ∧ z0_0_5 ≤ 255 := r0_0_5
  obtain ⟨_, k0_1, g0_1⟩ := Ok.array ok0_1 Try.underlying35
  have ok0_1_0 : Ok Try.prog W k0_1 5 [x0_6] := Ok.elem g0_1 0 1 (by omega) (by kernel_rfl) rfl
  have ok0_1_1 : Ok Try.prog W k0_1 5 [x0_7] := Ok.elem g0_1 1 1 (by omega) (by kernel_rfl) rfl
  have ok0_1_2 : Ok Try.prog W k0_1 5 [x0_8] := Ok.elem g0_1 2 1 (by omega) (by kernel_rfl) rfl
  have ok0_1_3 : Ok Try.prog W k0_1 5 [x0_9] := Ok.elem g0_1 3 1 (by omega) (by kernel_rfl) rfl
  have ok0_1_4 : Ok Try.prog W k0_1 5 [x0_10] := Ok.elem g0_1 4 1 (by omega) (by kernel_rfl) rfl
  have ok0_1_5 : Ok Try.prog W k0_1 5 [x0_11] := Ok.elem g0_1 5 1 (by omega) (by kernel_rfl) rfl
  obtain ⟨z0_1_0, q0_1_0, r0_1_0⟩ := Ok.int ok0_1_0 Try.underlying5
  obtain rfl := one_inj q0_1_0
  have r0_1_0 : (0 : Int) ≤ z0_1_0 ∧ z0_1_0 ≤ 255 := r0_1_0
  obtain ⟨z0_1_1, q0_1_1, r0_1_1⟩ := Ok.int ok0_1_1 Try.underlying5
  obtain rfl := one_inj q0_1_1
  have r0_1_1 : (0 : Int) ≤ z0_1_1 ∧ z0_1_1 ≤ 255 := r0_1_1
  obtain ⟨z0_1_2, q0_1_2, r0_1_2⟩ := Ok.int ok0_1_2 Try.underlying5
  obtain rfl := one_inj q0_1_2
  have r0_1_2 : (0 : Int) ≤ z0_1_2 ∧ z0_1_2 ≤ 255 := r0_1_2
  obtain ⟨z0_1_3, q0_1_3, r0_1_3⟩ := Ok.int ok0_1_3 Try.underlying5
  obtain rfl := one_inj q0_1_3
  have r0_1_3 : (0 : Int) ≤ z0_1_3 ∧ z0_1_3 ≤ 255 := r0_1_3
  obtain ⟨z0_1_4, q0_1_4, r0_1_4⟩ := Ok.int ok0_1_4 Try.underlying5
  obtain rfl := one_inj q0_1_4
  have r0_1_4 : (0 : Int) ≤ z0_1_4 ∧ z0_1_4 ≤ 255 := r0_1_4
  obtain ⟨z0_1_5, q0_1_5, r0_1_5⟩ := Ok.int ok0_1_5 Try.underlying5
  obtain rfl := one_inj q0_1_5
  have r0_1_5 : (0 : Int) ≤ z0_1_5 ∧ z0_1_5 ≤ 255 := r0_1_5
  obtain ⟨b0_2, q0_2⟩ := Ok.bool ok0_2 Try.underlying4
  obtain rfl := one_inj q0_2
  obtain ⟨z0_3, q0_3, r0_3⟩ := Ok.int ok0_3 Try.underlying36
  obtain rfl := one_inj q0_3
  have r0_3 : (0 : Int) ≤ z0_3 ∧ z0_3 ≤ 65535 := r0_3
  obtain ⟨z0_4, q0_4, r0_4⟩ := Ok.int ok0_4 Try.underlying36
  obtain rfl := one_inj q0_4
  have r0_4 : (0 : Int) ≤ z0_4 ∧ z0_4 ≤ 65535 := r0_4
  obtain ⟨sa0_5, n0_5, c0_5, es0_5, q0_5, en0_5, ec0_5, eb0_5, wf0_5, rd0_5⟩ := Ok.ints (b := 1) ok0_5 Try.underlying23 Try.underlying5 (by kernel_rfl) (by kernel_rfl)
  obtain rfl := one_inj q0_5
  have m0_5 : n0_5 ≤ 140737488351232 := by omega
  have k1 := h1
  have lt1 : ∀ x ∈ p1, x.block < W.heap.size := by obtain ⟨m, hm⟩ := k1; exact DataW.trod_lt m _ _ _ hm
  obtain ⟨sa1, n1, c1, rfl⟩ := Go.WideShapes.okWide_slice Try.underlying23 (hval 1 23 v1 rfl rfl)
  obtain ⟨j1, ok1⟩ := Ok.arg 1 h1 hsz rfl rfl
  have ok1 : Ok Try.prog W j1 23 [Value.slice sa1 n1 c1] := ok1
  obtain ⟨es1, en1, ec1, eb1, wf1, rd1⟩ := Ok.ints1 (b := 1) ok1 Try.underlying23 Try.underlying5 (by kernel_rfl) (by kernel_rfl)
  have m1 : n1 ≤ 140737488351232 := by omega
  clear hA0 hval0 hsz0 hsz
  refine (SC.law (w0 := W) (M.tunnelEth ⟨[z0_0_0, z0_0_1, z0_0_2, z0_0_3, z0_0_4, z0_0_5, z0_1_0, z0_1_1, z0_1_2, z0_1_3, z0_1_4, z0_1_5], b0_2, z0_3, z0_4, es0_5⟩ sa0_5 n0_5 c0_5 rd0_5 en0_5 m0_5 ⟨rfl, (by intro y hy; simp only [List.mem_cons, List.mem_nil_iff, or_false] at hy; rcases hy with rfl | rfl | rfl | rfl | rfl | rfl | rfl | rfl | rfl | rfl | rfl | rfl <;> assumption), r0_3, r0_4, wf0_5⟩ sa1 n1 c1 es1 rd1 en1 m1 wf1)).mono fun e W' ⟨he, bel⟩ => ?_
  subst he
  exact ⟨_, rfl, _, _, _, [], _, [], hW', trodAll_mk1 (shut_bool Try.underlying4 _), (trodAll_cons_mk (Below.trod laidOut (by kernel_rfl) (of_decide_eq_true (by kernel_rfl)) k0 bel lt0) (trodAll_cons_mk (Below.trod laidOut (by kernel_rfl) (of_decide_eq_true (by kernel_rfl)) k1 bel lt1) trodAll_mk0)), rfl, bel.frame _, fun h => by cases h⟩
theorem over : Rows.tunnelEthRow.holds Try.pinned (OpenSpec.ofChange Rows.tunnelEthSpec) :=
  OpenClaim.holds_of_wide 4 Try.f4 rfl rfl rfl rfl rfl rfl rfl ⟨rfl, rfl, rfl, rfl, rfl⟩ rfl rfl rfl rfl rfl (by kernel_rfl) Try.func4 (by kernel_rfl)
    (of_decide_eq_true (by kernel_rfl)) (by unfold Func.isWrapper; first | (rw [if_pos (by decide +kernel)]; kernel_rfl) | (rw [if_neg (by decide +kernel)]; exact ⟨rfl, rfl⟩))
    (fun os started H enc _ => lifted os started H enc)
theorem proved : Rows.TunnelEthSaid := over
#print axioms proved
end Go.Proofs.Ytecgicpimgghaaa.tunnelEth
namespace Go.Proofs.Ytecgicpimgghaaa
/-- The row, under a short name, for the claim. -/
theorem tunnelEth_holds : Rows.TunnelEthSaid := tunnelEth.proved
end Go.Proofs.Ytecgicpimgghaaa
