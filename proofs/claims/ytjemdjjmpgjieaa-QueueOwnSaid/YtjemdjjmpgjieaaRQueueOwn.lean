/- The law QueueOwn holds: the row, out of the contract that is proved of its text. Conditions: none. -/
import Derived.Test.YtjemdjjmpgjieaaRows
import Derived.Test.YtjemdjjmpgjieaaS6
import Derived.Test.YtjemdjjmpgjieaaOK14
import Derived.Test.YtjemdjjmpgjieaaLQueueOwn
import Derived.Test.YtjemdjjmpgjieaaS7
import Derived.WalkKit
import Derived.ProofKit
import Derived.OpenShut
import Derived.ShutString
import Derived.ChangeOld
import Derived.Below
import Derived.SizedLaws
import Derived.Lib.SmallJoins
import Derived.Carry
set_option linter.unusedVariables false
set_option linter.unusedSimpArgs false
namespace Go.Proofs.Ytjemdjjmpgjieaa.queueOwn
open Go.ChangeShapes Go.WideShapes Go.ChangeAt Go.RowKit Go.Sep Go.Joins
open Go.ChangeMaps (open_string shut_string)
set_option linter.unusedVariables false
theorem own : ownKnob Try.prog.godebug = none := by kernel_rfl
theorem laidOut : laidOutB Try.prog = true := by kernel_rfl
set_option maxHeartbeats 1000000 in
set_option maxRecDepth 100000 in
theorem lifted (os : Os) (started : os.Started) (H : Type) (enc : TypeId × Value → H) :
    ReturnsInHanded {} Try.checked os 6 .any (Rows.queueOwnSpec.pre6 enc Try.prog Try.f6 Rows.queueOwnRow.domain false) (Rows.queueOwnSpec.post enc Try.prog Try.f6 false true false false) := by
  refine returnsInHanded_of_change_sized (C := Try.checked) own started (by kernel_rfl) Try.func6
    (ChangeSpec.witness6 (enc := enc) (C := Try.checked) false ⟨#[], #[Value.agg #[Value.int IntKind.i64 0, Value.int IntKind.u32 0, Value.bool false, Value.bool false, Value.bool false, Value.bool false, Value.bool false, Value.int IntKind.u8 0, Value.int IntKind.u8 0, Value.int IntKind.u32 0, Value.slice none 0 0]], []⟩ 8 (by kernel_rfl) (by kernel_rfl) (by kernel_rfl) (by kernel_rfl)) ?_
  intro W base args ds gs before hval0 hW hcnd hsz0 _
  have hsz : (DataW.weightsEach Try.prog (Try.f6.params.toList ++ Rows.queueOwnSpec.plain.varTypes Try.prog) (ds ++ gs)).all (· ≤ reachBytes) = true := hsz0
  have hval : ∀ (j : Nat) t v, Try.f6.params[j]? = some t → args[j]? = some v → Value.okWide Try.prog W .any base t v := hval0
  have hW' := hW
  obtain ⟨p, q, hA0, hV, rfl, hfz, hnd⟩ := hW
  have hA : DataW.TrodAll enc Try.prog W 0 (fun _ => true) true Try.f6.params.toList args.toList ds p := hA0
  rw [Try.params6] at hA hval hsz
  obtain ⟨v0, vs0, d0, ds0, p0, q0, hargs, rfl, rfl, h0, r0⟩ := trodAll_cons hA
  obtain ⟨rfl, rfl, rfl⟩ := trodAll_nil r0
  obtain rfl : args = #[v0] := by cases args; simp_all
  obtain ⟨rfl, rfl⟩ := trodVars_none hV
  have k0 := h0
  have lt0 : ∀ x ∈ p0, x.block < W.heap.size := by obtain ⟨m, hm⟩ := k0; exact DataW.trod_lt m _ _ _ hm
  obtain ⟨⟨x0⟩, rfl, y0⟩ := Go.WideShapes.okWide_struct Try.underlying31 (hval 0 31 v0 rfl rfl)
  have y0 : x0.length = 11 := y0.trans (show Try.prog.cellsOf 31 = 11 by kernel_rfl)
  obtain ⟨x0_0, x0_1, x0_2, x0_3, x0_4, x0_5, x0_6, x0_7, x0_8, x0_9, x0_10, rfl⟩ := len11 y0
  obtain ⟨j0, ok0⟩ := Ok.arg 0 h0 hsz rfl rfl
  have ok0 : Ok Try.prog W j0 31 [x0_0, x0_1, x0_2, x0_3, x0_4, x0_5, x0_6, x0_7, x0_8, x0_9, x0_10] := ok0
  obtain ⟨_, k0, g0⟩ := Ok.struct ok0 Try.underlying31
  have ok0_0 : Ok Try.prog W k0 3 [x0_0] := Ok.field g0 (i := 0) (o := 0) (s := 1) rfl rfl rfl (by kernel_rfl) rfl
  have ok0_1 : Ok Try.prog W k0 28 [x0_1] := Ok.field g0 (i := 1) (o := 1) (s := 1) rfl rfl rfl (by kernel_rfl) rfl
  have ok0_2 : Ok Try.prog W k0 4 [x0_2] := Ok.field g0 (i := 2) (o := 2) (s := 1) rfl rfl rfl (by kernel_rfl) rfl
  have ok0_3 : Ok Try.prog W k0 4 [x0_3] := Ok.field g0 (i := 3) (o := 3) (s := 1) rfl rfl rfl (by kernel_rfl) rfl
  have ok0_4 : Ok Try.prog W k0 4 [x0_4] := Ok.field g0 (i := 4) (o := 4) (s := 1) rfl rfl rfl (by kernel_rfl) rfl
  have ok0_5 : Ok Try.prog W k0 4 [x0_5] := Ok.field g0 (i := 5) (o := 5) (s := 1) rfl rfl rfl (by kernel_rfl) rfl
  have ok0_6 : Ok Try.prog W k0 4 [x0_6] := Ok.field g0 (i := 6) (o := 6) (s := 1) rfl rfl rfl (by kernel_rfl) rfl
  have ok0_7 : Ok Try.prog W k0 5 [x0_7] := Ok.field g0 (i := 7) (o := 7) (s := 1) rfl rfl rfl (by kernel_rfl) rfl
  have ok0_8 : Ok Try.prog W k0 5 [x0_8] := Ok.field g0 (i := 8) (o := 8) (s := 1) rfl rfl rfl (by kernel_rfl) rfl
  have ok0_9 : Ok Try.prog W k0 28 [x0_9] := Ok.field g0 (i := 9) (o := 9) (s := 1) rfl rfl rfl (by kernel_rfl) rfl
  have ok0_10 : Ok Try.prog W k0 29 [x0_10] := Ok.field g0 (i := 10) (o := 10) (s := 1) rfl rfl rfl (by kernel_rfl) rfl
  obtain ⟨z0_0, q0_0, r0_0⟩ := Ok.int ok0_0 Try.underlying3
  obtain rfl := one_inj q0_0
  have r0_0 : (-9223372036854775808 : Int) ≤ z0_0 ∧ z0_0 ≤ 9223372036854775807 := r0_0
  obtain ⟨z0_1, q0_1, r0_1⟩ := Ok.int ok0_1 Try.underlying28
  obtain rfl := one_inj q0_1
  have r0_1 : (0 : Int) ≤ z0_1 ∧ z0_1 ≤ 4294967295 := r0_1
  obtain ⟨b0_2, q0_2⟩ := Ok.bool ok0_2 Try.underlying4
  obtain rfl := one_inj q0_2
  obtain ⟨b0_3, q0_3⟩ := Ok.bool ok0_3 Try.underlying4
  obtain rfl := one_inj q0_3
  obtain ⟨b0_4, q0_4⟩ := Ok.bool ok0_4 Try.underlying4
  obtain rfl := one_inj q0_4
  obtain ⟨b0_5, q0_5⟩ := Ok.bool ok0_5 Try.underlying4
  obtain rfl := one_inj q0_5
  obtain ⟨b0_6, q0_6⟩ := Ok.bool ok0_6 Try.underlying4
  obtain rfl := one_inj q0_6
  obtain ⟨z0_7, q0_7, r0_7⟩ := Ok.int ok0_7 Try.underlying5
  obtain rfl := one_inj q0_7
  have r0_7 : (0 : Int) ≤ z0_7 ∧ z0_7 ≤ 255 := r0_7
  obtain ⟨z0_8, q0_8, r0_8⟩ := Ok.int ok0_8 Try.underlying5
  obtain rfl := one_inj q0_8
  have r0_8 : (0 : Int) ≤ z0_8 ∧ z0_8 ≤ 255 := r0_8
  obtain ⟨z0_9, q0_9, r0_9⟩ := Ok.int ok0_9 Try.underlying28
  obtain rfl := one_inj q0_9
  have r0_9 : (0 : Int) ≤ z0_9 ∧ z0_9 ≤ 4294967295 := r0_9
  obtain ⟨sa0_10, n0_10, c0_10, es0_10, q0_10, en0_10, ec0_10, eb0_10, wf0_10, rd0_10⟩ := Ok.ints (b := 1) ok0_10 Try.underlying29 Try.underlying5 (by kernel_rfl) (by kernel_rfl)
  obtain rfl := one_inj q0_10
  have m0_10 : n0_10 ≤ 140737488351232 := by omega
  clear hA0 hval0 hsz0 hsz
  refine (SC.law (w0 := W) (M.queueOwnI ⟨z0_0, z0_1, b0_2, b0_3, b0_4, b0_5, b0_6, z0_7, z0_8, z0_9, es0_10⟩ sa0_10 n0_10 c0_10 rd0_10 en0_10 m0_10 ⟨r0_0, r0_1, r0_7, r0_8, r0_9, wf0_10⟩)).mono fun e W' ⟨he, bel⟩ => ?_
  subst he
  exact ⟨_, rfl, _, _, _, [], _, [], hW', trodAll_mk1 (shut_bool Try.underlying4 _), (trodAll_cons_mk (Below.trod laidOut (by kernel_rfl) (of_decide_eq_true (by kernel_rfl)) k0 bel lt0) trodAll_mk0), rfl, bel.frame _, fun h => by cases h⟩
theorem over : Rows.queueOwnRow.holds Try.pinned (OpenSpec.ofChange Rows.queueOwnSpec) :=
  OpenClaim.holds_of_wide 6 Try.f6 rfl rfl rfl rfl rfl rfl rfl ⟨rfl, rfl, rfl, rfl, rfl⟩ rfl rfl rfl rfl rfl (by kernel_rfl) Try.func6 (by kernel_rfl)
    (of_decide_eq_true (by kernel_rfl)) (by unfold Func.isWrapper; first | (rw [if_pos (by decide +kernel)]; kernel_rfl) | (rw [if_neg (by decide +kernel)]; exact ⟨rfl, rfl⟩))
    (fun os started H enc _ => lifted os started H enc)
theorem proved : Rows.QueueOwnSaid := over
#print axioms proved
end Go.Proofs.Ytjemdjjmpgjieaa.queueOwn
namespace Go.Proofs.Ytjemdjjmpgjieaa
/-- The row, under a short name, for the claim. -/
theorem queueOwn_holds : Rows.QueueOwnSaid := queueOwn.proved
end Go.Proofs.Ytjemdjjmpgjieaa
