/- The law TunnelBack holds: the row, out of the contract that is proved of its text. Conditions: none. -/
import Derived.Test.YtecgicpimgghaaaRows
import Derived.Test.YtecgicpimgghaaaS6
import Derived.Test.YtecgicpimgghaaaS24
import Derived.Test.YtecgicpimgghaaaLTunnelBack
import Derived.Test.YtecgicpimgghaaaS7
import Derived.WalkKit
import Derived.ProofKit
import Derived.OpenShut
import Derived.ShutString
import Derived.ChangeOld
import Derived.Below
import Derived.SizedLaws
import Derived.Lib.SmallJoins
import Derived.Carry
set_option linter.unusedVariables false
set_option linter.unusedSimpArgs false
namespace Go.Proofs.Ytecgicpimgghaaa.tunnelBack
open Go.ChangeShapes Go.WideShapes Go.ChangeAt Go.RowKit Go.Sep Go.Joins
open Go.ChangeMaps (open_string shut_string)
set_option linter.unusedVariables false
theorem own : ownKnob Try.prog.godebug = none := by kernel_rfl
theorem laidOut : laidOutB Try.prog = true := by kernel_rfl
set_option maxHeartbeats 1000000 in
set_option maxRecDepth 100000 in
theorem lifted (os : Os) (started : os.Started) (H : Type) (enc : TypeId × Value → H) :
    ReturnsInHanded {} Try.checked os 7 .any (Rows.tunnelBackSpec.pre6 enc Try.prog Try.f7 Rows.tunnelBackRow.domain false) (Rows.tunnelBackSpec.post enc Try.prog Try.f7 false true false false) := by
  refine returnsInHanded_of_change_sized (C := Try.checked) own started (by kernel_rfl) Try.func7
    (ChangeSpec.witness6 (enc := enc) (C := Try.checked) false ⟨#[], #[Value.agg #[Value.int IntKind.u8 0, Value.int IntKind.u8 0, Value.int IntKind.u8 0, Value.int IntKind.u8 0, Value.int IntKind.u8 0, Value.int IntKind.u8 0, Value.int IntKind.u8 0, Value.int IntKind.u8 0, Value.int IntKind.u8 0, Value.int IntKind.u8 0, Value.int IntKind.u8 0, Value.int IntKind.u8 0, Value.bool false, Value.int IntKind.u16 0, Value.int IntKind.u16 0, Value.slice none 0 0], Value.agg #[Value.int IntKind.i64 0, Value.int IntKind.u32 0, Value.bool false, Value.bool false, Value.bool false, Value.bool false, Value.bool false, Value.int IntKind.u8 0, Value.int IntKind.u8 0, Value.int IntKind.u32 0, Value.slice none 0 0], Value.slice none 0 0], []⟩ 8 (by kernel_rfl) (by kernel_rfl) (by kernel_rfl) (by kernel_rfl)) ?_
  intro W base args ds gs before hval0 hW hcnd hsz0 _
  have hsz : (DataW.weightsEach Try.prog (Try.f7.params.toList ++ Rows.tunnelBackSpec.plain.varTypes Try.prog) (ds ++ gs)).all (· ≤ reachBytes) = true := hsz0
  have hval : ∀ (j : Nat) t v, Try.f7.params[j]? = some t → args[j]? = some v → Value.okWide Try.prog W .any base t v := hval0
  have hW' := hW
  obtain ⟨p, q, hA0, hV, rfl, hfz, hnd⟩ := hW
  have hA : DataW.TrodAll enc Try.prog W 0 (fun _ => true) true Try.f7.params.toList args.toList ds p := hA0
  rw [Try.params7] at hA hval hsz
  obtain ⟨v0, vs0, d0, ds0, p0, q0, hargs, rfl, rfl, h0, r0⟩ := trodAll_cons hA
  obtain ⟨v1, vs1, d1, ds1, p1, q1, rfl, rfl, rfl, h1, r1⟩ := trodAll_cons r0
  obtain ⟨v2, vs2, d2, ds2, p2, q2, rfl, rfl, rfl, h2, r2⟩ := trodAll_cons r1
  obtain ⟨rfl, rfl, rfl⟩ := trodAll_nil r2
  obtain rfl : args = #[v0, v1, v2] := by cases args; simp_all
  obtain ⟨rfl, rfl⟩ := trodVars_none hV
  have k0 := h0
  have lt0 : ∀ x ∈ p0, x.block < W.heap.size := by obtain ⟨m, hm⟩ := k0; exact DataW.trod_lt m _ _ _ hm
  obtain ⟨⟨x0⟩, rfl, y0⟩ := Go.WideShapes.okWide_struct Try.underlying38 (hval 0 38 v0 rfl rfl)
  have y0 : x0.length = 16 := y0.trans (show Try.prog.cellsOf 38 = 16 by kernel_rfl)
  obtain ⟨x0_0, x0_1, x0_2, x0_3, x0_4, x0_5, x0_6, x0_7, x0_8, x0_9, x0_10, x0_11, x0_12, x0_13, x0_14, x0_15, rfl⟩ := len16 y0
  obtain ⟨j0, ok0⟩ := Ok.arg 0 h0 hsz rfl rfl
  have ok0 : Ok Try.prog W j0 38 [x0_0, x0_1, x0_2, x0_3, x0_4, x0_5, x0_6, x0_7, x0_8, x0_9, x0_10, x0_11, x0_12, x0_13, x0_14, x0_15] := ok0
  obtain ⟨_, k0, g0⟩ := Ok.struct ok0 Try.underlying38
  have ok0_0 : Ok Try.prog W k0 35 [x0_0, x0_1, x0_2, x0_3, x0_4, x0_5] := Ok.field g0 (i := 0) (o := 0) (s := 6) rfl rfl rfl (by kernel_rfl) rfl
  have ok0_1 : Ok Try.prog W k0 35 [x0_6, x0_7, x0_8, x0_9, x0_10, x0_11] := Ok.field g0 (i := 1) (o := 6) (s := 6) rfl rfl rfl (by kernel_rfl) rfl
  have ok0_2 : Ok Try.prog W k0 4 [x0_12] := Ok.field g0 (i := 2) (o := 12) (s := 1) rfl rfl rfl (by kernel_rfl) rfl
  have ok0_3 : Ok Try.prog W k0 36 [x0_13] := Ok.field g0 (i := 3) (o := 13) (s := 1) rfl rfl rfl (by kernel_rfl) rfl
  have ok0_4 : Ok Try.prog W k0 36 [x0_14] := Ok.field g0 (i := 4) (o := 14) (s := 1) rfl rfl rfl (by kernel_rfl) rfl
  have ok0_5 : Ok Try.prog W k0 23 [x0_15] := Ok.field g0 (i := 5) (o := 15) (s := 1) rfl rfl rfl (by kernel_rfl) rfl
  obtain ⟨_, k0_0, g0_0⟩ := Ok.array ok0_0 Try.underlying35
  have ok0_0_0 : Ok Try.prog W k0_0 5 [x0_0] := Ok.elem g0_0 0 1 (by omega) (by kernel_rfl) rfl
  have ok0_0_1 : Ok Try.prog W k0_0 5 [x0_1] := Ok.elem g0_0 1 1 (by omega) (by kernel_rfl) rfl
  have ok0_0_2 : Ok Try.prog W k0_0 5 [x0_2] := Ok.elem g0_0 2 1 (by omega) (by kernel_rfl) rfl
  have ok0_0_3 : Ok Try.prog W k0_0 5 [x0_3] := Ok.elem g0_0 3 1 (by omega) (by kernel_rfl) rfl
  have ok0_0_4 : Ok Try.prog W k0_0 5 [x0_4] := Ok.elem g0_0 4 1 (by omega) (by kernel_rfl) rfl
  have ok0_0_5 : Ok Try.prog W k0_0 5 [x0_5] := Ok.elem g0_0 5 1 (by omega) (by kernel_rfl) rfl
  obtain ⟨z0_0_0, q0_0_0, r0_0_0⟩ := Ok.int ok0_0_0 Try.underlying5
  obtain rfl := one_inj q0_0_0
  have r0_0_0 : (0 : Int) ≤ z0_0_0 ∧ z0_0_0 ≤ 255 := r0_0_0
  obtain ⟨z0_0_1, q0_0_1, r0_0_1⟩ := Ok.int ok0_0_1 Try.underlying5
  obtain rfl := one_inj q0_0_1
  have r0_0_1 : (0 : Int) ≤ z0_0_1 ∧ z0_0_1 ≤ 255 := r0_0_1
  obtain ⟨z0_0_2, q0_0_2, r0_0_2⟩ := Ok.int ok0_0_2 Try.underlying5
  obtain rfl := one_inj q0_0_2
  have r0_0_2 : (0 : Int) ≤ z0_0_2 ∧ z0_0_2 ≤ 255 := r0_0_2
  obtain ⟨z0_0_3, q0_0_3, r0_0_3⟩ := Ok.int ok0_0_3 Try.underlying5
  obtain rfl := one_inj q0_0_3
  have r0_0_3 : (0 : Int) ≤ z0_0_3 ∧ z0_0_3 ≤ 255 := r0_0_3
  obtain ⟨z0_0_4, q0_0_4, r0_0_4⟩ := Ok.int ok0_0_4 Try.underlying5
  obtain rfl := one_inj q0_0_4
  have r0_0_4 : (0 : Int) ≤ z0_0_4 ∧ z0_0_4 ≤ 255 := r0_0_4
  obtain ⟨z0_0_5, q0_0_5, r0_0_5⟩ := Ok.int ok0_0_5 Try.underlying5
  obtain rfl := one_inj q0_0_5
  have r0_0_5 : (0 : Int) ≤ z0_0_5 ∧ z0_0_5 ≤ 255 := r0_0_5
  obtain ⟨_, k0_1, g0_1⟩ := Ok.array ok0_1 Try.underlying35
  have ok0_1_0 : Ok Try.prog W k0_1 5 [x0_6] := Ok.elem g0_1 0 1 (by omega) (by kernel_rfl) rfl
  have ok0_1_1 : Ok Try.prog W k0_1 5 [x0_7] := Ok.elem g0_1 1 1 (by omega) (by kernel_rfl) rfl
  have ok0_1_2 : Ok Try.prog W k0_1 5 [x0_8] := Ok.elem g0_1 2 1 (by omega) (by kernel_rfl) rfl
  have ok0_1_3 : Ok Try.prog W k0_1 5 [x0_9] := Ok.elem g0_1 3 1 (by omega) (by kernel_rfl) rfl
  have ok0_1_4 : Ok Try.prog W k0_1 5 [x0_10] := Ok.elem g0_1 4 1 (by omega) (by kernel_rfl) rfl
  have ok0_1_5 : Ok Try.prog W k0_1 5 [x0_11] := Ok.elem g0_1 5 1 (by omega) (by kernel_rfl) rfl
  obtain ⟨z0_1_0, q0_1_0, r0_1_0⟩ := Ok.int ok0_1_0 Try.underlying5
  obtain rfl := one_inj q0_1_0
  have r0_1_0 : (0 : Int) ≤ z0_1_0 ∧ z0_1_0 ≤ 255 := r0_1_0
  obtain ⟨z0_1_1, q0_1_1, r0_1_1⟩ := Ok.int ok0_1_1 Try.underlying5
  obtain rfl := one_inj q0_1_1
  have r0_1_1 : (0 : Int) ≤ z0_1_1 ∧ z0_1_1 ≤ 255 := r0_1_1
  obtain ⟨z0_1_2, q0_1_2, r0_1_2⟩ := Ok.int ok0_1_2 Try.underlying5
  obtain rfl := one_inj q0_1_2
  have r0_1_2 : (0 : Int) ≤ z0_1_2 ∧ z0_1_2 ≤ 255 := r0_1_2
  obtain ⟨z0_1_3, q0_1_3, r0_1_3⟩ := Ok.int ok0_1_3 Try.underlying5
  obtain rfl := one_inj q0_1_3
  have r0_1_3 : (0 : Int) ≤ z0_1_3 ∧ z0_1_3 ≤ 255 := r0_1_3
  obtain ⟨z0_1_4, q0_1_4, r0_1_4⟩ := Ok.int ok0_1_4 Try.underlying5
  obtain rfl := one_inj q0_1_4
  have r0_1_4 : (0 : Int) ≤ z0_1_4 ∧ z0_1_4 ≤ 255 := r0_1_4
  obtain ⟨z0_1_5, q0_1_5, r0_1_5⟩ := Ok.int ok0_1_5 Try.underlying5
  obtain rfl := one_inj q0_1_5
  have r0_1_5 : (0 : Int) ≤ z0_1_5 ∧ z0_1_5 ≤ 255 := r0_1_5
  obtain ⟨b0_2, q0_2⟩ := Ok.bool ok0_2 Try.underlying4
  obtain rfl := one_inj q0_2
  obtain ⟨z0_3, q0_3, r0_3⟩ := Ok.int ok0_3 Try.underlying36
  obtain rfl := one_inj q0_3
  have r0_3 : (0 : Int) ≤ z0_3 ∧ z0_3 ≤ 65535 := r0_3
  obtain ⟨z0_4, q0_4, r0_4⟩ := Ok.int ok0_4 Try.underlying36
  obtain rfl := one_inj q0_4
  have r0_4 : (0 : Int) ≤ z0_4 ∧ z0_4 ≤ 65535 := r0_4
  obtain ⟨sa0_5, n0_5, c0_5, es0_5, q0_5, en0_5, ec0_5, eb0_5, wf0_5, rd0_5⟩ := Ok.ints (b := 1) ok0_5 Try.underlying23 Try.underlying5 (by kernel_rfl) (by kernel_rfl)
  obtain rfl := one_inj q0_5
  have m0_5 : n0_5 ≤ 140737488351232 := by omega
  have k1 := h1
  have lt1 : ∀ x ∈ p1, x.block < W.heap.size := by obtain ⟨m, hm⟩ := k1; exact DataW.trod_lt m _ _ _ hm
  obtain ⟨⟨x1⟩, rfl, y1⟩ := Go.WideShapes.okWide_struct Try.underlying25 (hval 1 25 v1 rfl rfl)
  have y1 : x1.length = 11 := y1.trans (show Try.prog.cellsOf 25 = 11 by kernel_rfl)
  obtain ⟨x1_0, x1_1, x1_2, x1_3, x1_4, x1_5, x1_6, x1_7, x1_8, x1_9, x1_10, rfl⟩ := len11 y1
  obtain ⟨j1, ok1⟩ := Ok.arg 1 h1 hsz rfl rfl
  have ok1 : Ok Try.prog W j1 25 [x1_0, x1_1, x1_2, x1_3, x1_4, x1_5, x1_6, x1_7, x1_8, x1_9, x1_10] := ok1
  obtain ⟨_, k1, g1⟩ := Ok.struct ok1 Try.underlying25
  have ok1_0 : Ok Try.prog W k1 3 [x1_0] := Ok.field g1 (i := 0) (o := 0) (s := 1) rfl rfl rfl (by kernel_rfl) rfl
  have ok1_1 : Ok Try.prog W k1 22 [x1_1] := Ok.field g1 (i := 1) (o := 1) (s := 1) rfl rfl rfl (by kernel_rfl) rfl
  have ok1_2 : Ok Try.prog W k1 4 [x1_2] := Ok.field g1 (i := 2) (o := 2) (s := 1) rfl rfl rfl (by kernel_rfl) rfl
  have ok1_3 : Ok Try.prog W k1 4 [x1_3] := Ok.field g1 (i := 3) (o := 3) (s := 1) rfl rfl rfl (by kernel_rfl) rfl
  have ok1_4 : Ok Try.prog W k1 4 [x1_4] := Ok.field g1 (i := 4) (o := 4) (s := 1) rfl rfl rfl (by kernel_rfl) rfl
  have ok1_5 : Ok Try.prog W k1 4 [x1_5] := Ok.field g1 (i := 5) (o := 5) (s := 1) rfl rfl rfl (by kernel_rfl) rfl
  have ok1_6 : Ok Try.prog W k1 4 [x1_6] := Ok.field g1 (i := 6) (o := 6) (s := 1) rfl rfl rfl (by kernel_rfl) rfl
  have ok1_7 : Ok Try.prog W k1 5 [x1_7] := Ok.field g1 (i := 7) (o := 7) (s := 1) rfl rfl rfl (by kernel_rfl) rfl
  have ok1_8 : Ok Try.prog W k1 5 [x1_8] := Ok.field g1 (i := 8) (o := 8) (s := 1) rfl rfl rfl (by kernel_rfl) rfl
  have ok1_9 : Ok Try.prog W k1 22 [x1_9] := Ok.field g1 (i := 9) (o := 9) (s := 1) rfl rfl rfl (by kernel_rfl) rfl
  have ok1_10 : Ok Try.prog W k1 23 [x1_10] := Ok.field g1 (i := 10) (o := 10) (s := 1) rfl rfl rfl (by kernel_rfl) rfl
  obtain ⟨z1_0, q1_0, r1_0⟩ := Ok.int ok1_0 Try.underlying3
  obtain rfl := one_inj q1_0
  have r1_0 : (-9223372036854775808 : Int) ≤ z1_0 ∧ z1_0 ≤ 9223372036854775807 := r1_0
  obtain ⟨z1_1, q1_1, r1_1⟩ := Ok.int ok1_1 Try.underlying22
  obtain rfl := one_inj q1_1
  have r1_1 : (0 : Int) ≤ z1_1 ∧ z1_1 ≤ 4294967295 := r1_1
  obtain ⟨b1_2, q1_2⟩ := Ok.bool ok1_2 Try.underlying4
  obtain rfl := one_inj q1_2
  obtain ⟨b1_3, q1_3⟩ := Ok.bool ok1_3 Try.underlying4
  obtain rfl := one_inj q1_3
  obtain ⟨b1_4, q1_4⟩ := Ok.bool ok1_4 Try.underlying4
  obtain rfl := one_inj q1_4
  obtain ⟨b1_5, q1_5⟩ := Ok.bool ok1_5 Try.underlying4
  obtain rfl := one_inj q1_5
  obtain ⟨b1_6, q1_6⟩ := Ok.bool ok1_6 Try.underlying4
  obtain rfl := one_inj q1_6
  obtain ⟨z1_7, q1_7, r1_7⟩ := Ok.int ok1_7 Try.underlying5
  obtain rfl := one_inj q1_7
  have r1_7 : (0 : Int) ≤ z1_7 ∧ z1_7 ≤ 255 := r1_7
  obtain ⟨z1_8, q1_8, r1_8⟩ := Ok.int ok1_8 Try.underlying5
  obtain rfl := one_inj q1_8
  have r1_8 : (0 : Int) ≤ z1_8 ∧ z1_8 ≤ 255 := r1_8
  obtain ⟨z1_9, q1_9, r1_9⟩ := Ok.int ok1_9 Try.underlying22
  obtain rfl := one_inj q1_9
  have r1_9 : (0 : Int) ≤ z1_9 ∧ z1_9 ≤ 4294967295 := r1_9
  obtain ⟨sa1_10, n1_10, c1_10, es1_10, q1_10, en1_10, ec1_10, eb1_10, wf1_10, rd1_10⟩ := Ok.ints (b := 1) ok1_10 Try.underlying23 Try.underlying5 (by kernel_rfl) (by kernel_rfl)
  obtain rfl := one_inj q1_10
  have m1_10 : n1_10 ≤ 140737488351232 := by omega
  have k2 := h2
  have lt2 : ∀ x ∈ p2, x.block < W.heap.size := by obtain ⟨m, hm⟩ := k2; exact DataW.trod_lt m _ _ _ hm
  obtain ⟨sa2, n2, c2, rfl⟩ := Go.WideShapes.okWide_slice Try.underlying23 (hval 2 23 v2 rfl rfl)
  obtain ⟨j2, ok2⟩ := Ok.arg 2 h2 hsz rfl rfl
  have ok2 : Ok Try.prog W j2 23 [Value.slice sa2 n2 c2] := ok2
  obtain ⟨es2, en2, ec2, eb2, wf2, rd2⟩ := Ok.ints1 (b := 1) ok2 Try.underlying23 Try.underlying5 (by kernel_rfl) (by kernel_rfl)
  have m2 : n2 ≤ 140737488351232 := by omega
  clear hA0 hval0 hsz0 hsz
  refine (SC.law (w0 := W) (M.tunnelBack ⟨[z0_0_0, z0_0_1, z0_0_2, z0_0_3, z0_0_4, z0_0_5, z0_1_0, z0_1_1, z0_1_2, z0_1_3, z0_1_4, z0_1_5], b0_2, z0_3, z0_4, es0_5⟩ sa0_5 n0_5 c0_5 rd0_5 en0_5 m0_5 ⟨rfl, (by intro y hy; simp only [List.mem_cons, List.mem_nil_iff, or_false] at hy; rcases hy with rfl | rfl | rfl | rfl | rfl | rfl | rfl | rfl | rfl | rfl | rfl | rfl <;> assumption), r0_3, r0_4, wf0_5⟩ ⟨z1_0, z1_1, b1_2, b1_3, b1_4, b1_5, b1_6, z1_7, z1_8, z1_9, es1_10⟩ sa1_10 n1_10 c1_10 rd1_10 en1_10 m1_10 ⟨r1_0, r1_1, r1_7, r1_8, r1_9, wf1_10⟩ sa2 n2 c2 es2 rd2 en2 m2 wf2)).mono fun e W' ⟨he, bel⟩ => ?_
  subst he
  exact ⟨_, rfl, _, _, _, [], _, [], hW', trodAll_mk1 (shut_bool Try.underlying4 _), (trodAll_cons_mk (Below.trod laidOut (by kernel_rfl) (of_decide_eq_true (by kernel_rfl)) k0 bel lt0) (trodAll_cons_mk (Below.trod laidOut (by kernel_rfl) (of_decide_eq_true (by kernel_rfl)) k1 bel lt1) (trodAll_cons_mk (Below.trod laidOut (by kernel_rfl) (of_decide_eq_true (by kernel_rfl)) k2 bel lt2) trodAll_mk0))), rfl, bel.frame _, fun h => by cases h⟩
theorem over : Rows.tunnelBackRow.holds Try.pinned (OpenSpec.ofChange Rows.tunnelBackSpec) :=
  OpenClaim.holds_of_wide 7 Try.f7 rfl rfl rfl rfl rfl rfl rfl ⟨rfl, rfl, rfl, rfl, rfl⟩ rfl rfl rfl rfl rfl (by kernel_rfl) Try.func7 (by kernel_rfl)
    (of_decide_eq_true (by kernel_rfl)) (by unfold Func.isWrapper; first | (rw [if_pos (by decide +kernel)]; kernel_rfl) | (rw [if_neg (by decide +kernel)]; exact ⟨rfl, rfl⟩))
    (fun os started H enc _ => lifted os started H enc)
theorem proved : Rows.TunnelBackSaid := over
#print axioms proved
end Go.Proofs.Ytecgicpimgghaaa.tunnelBack
namespace Go.Proofs.Ytecgicpimgghaaa
/-- The row, under a short name, for the claim. -/
theorem tunnelBack_holds : Rows.TunnelBackSaid := tunnelBack.proved
end Go.Proofs.Ytecgicpimgghaaa
