/- The law FilterAdds holds: the row, out of the contract that is proved of its text. Conditions: none. -/
import Derived.Test.YtgdnanfnmaafoaaRows
import Derived.Test.YtgdnanfnmaafoaaOK15
import Derived.Test.YtgdnanfnmaafoaaLFilterAdds
import Derived.Test.YtgdnanfnmaafoaaS7
import Derived.WalkKit
import Derived.ProofKit
import Derived.OpenShut
import Derived.ShutString
import Derived.ChangeOld
import Derived.Below
import Derived.SizedLaws
import Derived.Lib.SmallJoins
import Derived.Carry
set_option linter.unusedVariables false
set_option linter.unusedSimpArgs false
namespace Go.Proofs.Ytgdnanfnmaafoaa.filterAdds
open Go.ChangeShapes Go.WideShapes Go.ChangeAt Go.RowKit Go.Sep Go.Joins
open Go.ChangeMaps (open_string shut_string)
set_option linter.unusedVariables false
theorem own : ownKnob Try.prog.godebug = none := by kernel_rfl
theorem laidOut : laidOutB Try.prog = true := by kernel_rfl
set_option maxHeartbeats 1000000 in
set_option maxRecDepth 100000 in
theorem lifted (os : Os) (started : os.Started) (H : Type) (enc : TypeId × Value → H) :
    ReturnsInHanded {} Try.checked os 6 .any (Rows.filterAddsSpec.pre6 enc Try.prog Try.f6 Rows.filterAddsRow.domain false) (Rows.filterAddsSpec.post enc Try.prog Try.f6 false true false false) := by
  refine returnsInHanded_of_change_sized (C := Try.checked) own started (by kernel_rfl) Try.func6
    (ChangeSpec.witness6 (enc := enc) (C := Try.checked) false ⟨#[], #[Value.agg #[Value.slice none 0 0, Value.bool false], Value.agg #[Value.int IntKind.i64 0, Value.int IntKind.u32 0, Value.int IntKind.u32 0, Value.int IntKind.u8 0, Value.int IntKind.u8 0, Value.int IntKind.u8 0, Value.int IntKind.u8 0, Value.int IntKind.u32 0, Value.int IntKind.u32 0, Value.bool false], Value.agg #[Value.int IntKind.i64 0, Value.int IntKind.u32 0, Value.bool false, Value.bool false, Value.bool false, Value.bool false, Value.bool false, Value.int IntKind.u8 0, Value.int IntKind.u8 0, Value.int IntKind.u32 0, Value.slice none 0 0]], []⟩ 8 (by kernel_rfl) (by kernel_rfl) (by kernel_rfl) (by kernel_rfl)) ?_
  intro W base args ds gs before hval0 hW hcnd hsz0 _
  have hsz : (DataW.weightsEach Try.prog (Try.f6.params.toList ++ Rows.filterAddsSpec.plain.varTypes Try.prog) (ds ++ gs)).all (· ≤ reachBytes) = true := hsz0
  have hval : ∀ (j : Nat) t v, Try.f6.params[j]? = some t → args[j]? = some v → Value.okWide Try.prog W .any base t v := hval0
  have hW' := hW
  obtain ⟨p, q, hA0, hV, rfl, hfz, hnd⟩ := hW
  have hA : DataW.TrodAll enc Try.prog W 0 (fun _ => true) true Try.f6.params.toList args.toList ds p := hA0
  rw [Try.params6] at hA hval hsz
  obtain ⟨v0, vs0, d0, ds0, p0, q0, hargs, rfl, rfl, h0, r0⟩ := trodAll_cons hA
  obtain ⟨v1, vs1, d1, ds1, p1, q1, rfl, rfl, rfl, h1, r1⟩ := trodAll_cons r0
  obtain ⟨v2, vs2, d2, ds2, p2, q2, rfl, rfl, rfl, h2, r2⟩ := trodAll_cons r1
  obtain ⟨rfl, rfl, rfl⟩ := trodAll_nil r2
  obtain rfl : args = #[v0, v1, v2] := by cases args; simp_all
  obtain ⟨rfl, rfl⟩ := trodVars_none hV
  have k0 := h0
  have lt0 : ∀ x ∈ p0, x.block < W.heap.size := by obtain ⟨m, hm⟩ := k0; exact DataW.trod_lt m _ _ _ hm
  obtain ⟨⟨x0⟩, rfl, y0⟩ := Go.WideShapes.okWide_struct Try.underlying24 (hval 0 24 v0 rfl rfl)
  have y0 : x0.length = 2 := y0.trans (show Try.prog.cellsOf 24 = 2 by kernel_rfl)
  obtain ⟨x0_0, x0_1, rfl⟩ := len2 y0
  obtain ⟨j0, ok0⟩ := Ok.arg 0 h0 hsz rfl rfl
  have ok0 : Ok Try.prog W j0 24 [x0_0, x0_1] := ok0
  obtain ⟨_, k0, g0⟩ := Ok.struct ok0 Try.underlying24
  have ok0_0 : Ok Try.prog W k0 22 [x0_0] := Ok.field g0 (i := 0) (o := 0) (s := 1) rfl rfl rfl (by kernel_rfl) rfl
  have ok0_1 : Ok Try.prog W k0 4 [x0_1] := Ok.field g0 (i := 1) (o := 1) (s := 1) rfl rfl rfl (by kernel_rfl) rfl
  obtain ⟨sa0_0, n0_0, c0_0, es0_0, q0_0, en0_0, ec0_0, eb0_0, wf0_0, rd0_0⟩ := Ok.rows (α := Rul) (b := 32) (sz := 10) (RuC) (RuOk) ok0_0 Try.underlying22 (by kernel_rfl) (by kernel_rfl) (M.okRule)
  obtain rfl := one_inj q0_0
  have m0_0 : n0_0 ≤ 140737488351232 := by omega
  obtain ⟨b0_1, q0_1⟩ := Ok.bool ok0_1 Try.underlying4
  obtain rfl := one_inj q0_1
  have k1 := h1
  have lt1 : ∀ x ∈ p1, x.block < W.heap.size := by obtain ⟨m, hm⟩ := k1; exact DataW.trod_lt m _ _ _ hm
  obtain ⟨⟨x1⟩, rfl, y1⟩ := Go.WideShapes.okWide_struct Try.underlying46 (hval 1 46 v1 rfl rfl)
  have y1 : x1.length = 10 := y1.trans (show Try.prog.cellsOf 46 = 10 by kernel_rfl)
  obtain ⟨x1_0, x1_1, x1_2, x1_3, x1_4, x1_5, x1_6, x1_7, x1_8, x1_9, rfl⟩ := len10 y1
  obtain ⟨j1, ok1⟩ := Ok.arg 1 h1 hsz rfl rfl
  have ok1 : Ok Try.prog W j1 46 [x1_0, x1_1, x1_2, x1_3, x1_4, x1_5, x1_6, x1_7, x1_8, x1_9] := ok1
  obtain ⟨_, k1, g1⟩ := Ok.struct ok1 Try.underlying46
  have ok1_0 : Ok Try.prog W k1 3 [x1_0] := Ok.field g1 (i := 0) (o := 0) (s := 1) rfl rfl rfl (by kernel_rfl) rfl
  have ok1_1 : Ok Try.prog W k1 25 [x1_1] := Ok.field g1 (i := 1) (o := 1) (s := 1) rfl rfl rfl (by kernel_rfl) rfl
  have ok1_2 : Ok Try.prog W k1 25 [x1_2] := Ok.field g1 (i := 2) (o := 2) (s := 1) rfl rfl rfl (by kernel_rfl) rfl
  have ok1_3 : Ok Try.prog W k1 5 [x1_3] := Ok.field g1 (i := 3) (o := 3) (s := 1) rfl rfl rfl (by kernel_rfl) rfl
  have ok1_4 : Ok Try.prog W k1 5 [x1_4] := Ok.field g1 (i := 4) (o := 4) (s := 1) rfl rfl rfl (by kernel_rfl) rfl
  have ok1_5 : Ok Try.prog W k1 5 [x1_5] := Ok.field g1 (i := 5) (o := 5) (s := 1) rfl rfl rfl (by kernel_rfl) rfl
  have ok1_6 : Ok Try.prog W k1 5 [x1_6] := Ok.field g1 (i := 6) (o := 6) (s := 1) rfl rfl rfl (by kernel_rfl) rfl
  have ok1_7 : Ok Try.prog W k1 25 [x1_7] := Ok.field g1 (i := 7) (o := 7) (s := 1) rfl rfl rfl (by kernel_rfl) rfl
  have ok1_8 : Ok Try.prog W k1 25 [x1_8] := Ok.field g1 (i := 8) (o := 8) (s := 1) rfl rfl rfl (by kernel_rfl) rfl
  have ok1_9 : Ok Try.prog W k1 4 [x1_9] := Ok.field g1 (i := 9) (o := 9) (s := 1) rfl rfl rfl (by kernel_rfl) rfl
  obtain ⟨z1_0, q1_0, r1_0⟩ := Ok.int ok1_0 Try.underlying3
  obtain rfl := one_inj q1_0
  have r1_0 : (-9223372036854775808 : Int) ≤ z1_0 ∧ z1_0 ≤ 9223372036854775807 := r1_0
  obtain ⟨z1_1, q1_1, r1_1⟩ := Ok.int ok1_1 Try.underlying25
  obtain rfl := one_inj q1_1
  have r1_1 : (0 : Int) ≤ z1_1 ∧ z1_1 ≤ 4294967295 := r1_1
  obtain ⟨z1_2, q1_2, r1_2⟩ := Ok.int ok1_2 Try.underlying25
  obtain rfl := one_inj q1_2
  have r1_2 : (0 : Int) ≤ z1_2 ∧ z1_2 ≤ 4294967295 := r1_2
  obtain ⟨z1_3, q1_3, r1_3⟩ := Ok.int ok1_3 Try.underlying5
  obtain rfl := one_inj q1_3
  have r1_3 : (0 : Int) ≤ z1_3 ∧ z1_3 ≤ 255 := r1_3
  obtain ⟨z1_4, q1_4, r1_4⟩ := Ok.int ok1_4 Try.underlying5
  obtain rfl := one_inj q1_4
  have r1_4 : (0 : Int) ≤ z1_4 ∧ z1_4 ≤ 255 := r1_4
  obtain ⟨z1_5, q1_5, r1_5⟩ := Ok.int ok1_5 Try.underlying5
  obtain rfl := one_inj q1_5
  have r1_5 : (0 : Int) ≤ z1_5 ∧ z1_5 ≤ 255 := r1_5
  obtain ⟨z1_6, q1_6, r1_6⟩ := Ok.int ok1_6 Try.underlying5
  obtain rfl := one_inj q1_6
  have r1_6 : (0 : Int) ≤ z1_6 ∧ z1_6 ≤ 255 := r1_6
  obtain ⟨z1_7, q1_7, r1_7⟩ := Ok.int ok1_7 Try.underlying25
  obtain rfl := one_inj q1_7
  have r1_7 : (0 : Int) ≤ z1_7 ∧ z1_7 ≤ 4294967295 := r1_7
  obtain ⟨z1_8, q1_8, r1_8⟩ := Ok.int ok1_8 Try.underlying25
  obtain rfl := one_inj q1_8
  have r1_8 : (0 : Int) ≤ z1_8 ∧ z1_8 ≤ 4294967295 := r1_8
  obtain ⟨b1_9, q1_9⟩ := Ok.bool ok1_9 Try.underlying4
  obtain rfl := one_inj q1_9
  have k2 := h2
  have lt2 : ∀ x ∈ p2, x.block < W.heap.size := by obtain ⟨m, hm⟩ := k2; exact DataW.trod_lt m _ _ _ hm
  obtain ⟨⟨x2⟩, rfl, y2⟩ := Go.WideShapes.okWide_struct Try.underlying28 (hval 2 28 v2 rfl rfl)
  have y2 : x2.length = 11 := y2.trans (show Try.prog.cellsOf 28 = 11 by kernel_rfl)
  obtain ⟨x2_0, x2_1, x2_2, x2_3, x2_4, x2_5, x2_6, x2_7, x2_8, x2_9, x2_10, rfl⟩ := len11 y2
  obtain ⟨j2, ok2⟩ := Ok.arg 2 h2 hsz rfl rfl
  have ok2 : Ok Try.prog W j2 28 [x2_0, x2_1, x2_2, x2_3, x2_4, x2_5, x2_6, x2_7, x2_8, x2_9, x2_10] := ok2
  obtain ⟨_, k2, g2⟩ := Ok.struct ok2 Try.underlying28
  have ok2_0 : Ok Try.prog W k2 3 [x2_0] := Ok.field g2 (i := 0) (o := 0) (s := 1) rfl rfl rfl (by kernel_rfl) rfl
  have ok2_1 : Ok Try.prog W k2 25 [x2_1] := Ok.field g2 (i := 1) (o := 1) (s := 1) rfl rfl rfl (by kernel_rfl) rfl
  have ok2_2 : Ok Try.prog W k2 4 [x2_2] := Ok.field g2 (i := 2) (o := 2) (s := 1) rfl rfl rfl (by kernel_rfl) rfl
  have ok2_3 : Ok Try.prog W k2 4 [x2_3] := Ok.field g2 (i := 3) (o := 3) (s := 1) rfl rfl rfl (by kernel_rfl) rfl
  have ok2_4 : Ok Try.prog W k2 4 [x2_4] := Ok.field g2 (i := 4) (o := 4) (s := 1) rfl rfl rfl (by kernel_rfl) rfl
  have ok2_5 : Ok Try.prog W k2 4 [x2_5] := Ok.field g2 (i := 5) (o := 5) (s := 1) rfl rfl rfl (by kernel_rfl) rfl
  have ok2_6 : Ok Try.prog W k2 4 [x2_6] := Ok.field g2 (i := 6) (o := 6) (s := 1) rfl rfl rfl (by kernel_rfl) rfl
  have ok2_7 : Ok Try.prog W k2 5 [x2_7] := Ok.field g2 (i := 7) (o := 7) (s := 1) rfl rfl rfl (by kernel_rfl) rfl
  have ok2_8 : Ok Try.prog W k2 5 [x2_8] := Ok.field g2 (i := 8) (o := 8) (s := 1) rfl rfl rfl (by kernel_rfl) rfl
  have ok2_9 : Ok Try.prog W k2 25 [x2_9] := Ok.field g2 (i := 9) (o := 9) (s := 1) rfl rfl rfl (by kernel_rfl) rfl
  have ok2_10 : Ok Try.prog W k2 26 [x2_10] := Ok.field g2 (i := 10) (o := 10) (s := 1) rfl rfl rfl (by kernel_rfl) rfl
  obtain ⟨z2_0, q2_0, r2_0⟩ := Ok.int ok2_0 Try.underlying3
  obtain rfl := one_inj q2_0
  have r2_0 : (-9223372036854775808 : Int) ≤ z2_0 ∧ z2_0 ≤ 9223372036854775807 := r2_0
  obtain ⟨z2_1, q2_1, r2_1⟩ := Ok.int ok2_1 Try.underlying25
  obtain rfl := one_inj q2_1
  have r2_1 : (0 : Int) ≤ z2_1 ∧ z2_1 ≤ 4294967295 := r2_1
  obtain ⟨b2_2, q2_2⟩ := Ok.bool ok2_2 Try.underlying4
  obtain rfl := one_inj q2_2
  obtain ⟨b2_3, q2_3⟩ := Ok.bool ok2_3 Try.underlying4
  obtain rfl := one_inj q2_3
  obtain ⟨b2_4, q2_4⟩ := Ok.bool ok2_4 Try.underlying4
  obtain rfl := one_inj q2_4
  obtain ⟨b2_5, q2_5⟩ := Ok.bool ok2_5 Try.underlying4
  obtain rfl := one_inj q2_5
  obtain ⟨b2_6, q2_6⟩ := Ok.bool ok2_6 Try.underlying4
  obtain rfl := one_inj q2_6
  obtain ⟨z2_7, q2_7, r2_7⟩ := Ok.int ok2_7 Try.underlying5
  obtain rfl := one_inj q2_7
  have r2_7 : (0 : Int) ≤ z2_7 ∧ z2_7 ≤ 255 := r2_7
  obtain ⟨z2_8, q2_8, r2_8⟩ := Ok.int ok2_8 Try.underlying5
  obtain rfl := one_inj q2_8
  have r2_8 : (0 : Int) ≤ z2_8 ∧ z2_8 ≤ 255 := r2_8
  obtain ⟨z2_9, q2_9, r2_9⟩ := Ok.int ok2_9 Try.underlying25
  obtain rfl := one_inj q2_9
  have r2_9 : (0 : Int) ≤ z2_9 ∧ z2_9 ≤ 4294967295 := r2_9
  obtain ⟨sa2_10, n2_10, c2_10, es2_10, q2_10, en2_10, ec2_10, eb2_10, wf2_10, rd2_10⟩ := Ok.ints (b := 1) ok2_10 Try.underlying26 Try.underlying5 (by kernel_rfl) (by kernel_rfl)
  obtain rfl := one_inj q2_10
  have m2_10 : n2_10 ≤ 140737488351232 := by omega
  clear hA0 hval0 hsz0 hsz
  refine (SC.law (w0 := W) (M.filterAdds es0_0 sa0_0 n0_0 c0_0 rd0_0 en0_0 (by omega) (getD_ok wf0_0) b0_1 ⟨z1_0, z1_1, z1_2, z1_3, z1_4, z1_5, z1_6, z1_7, z1_8, b1_9⟩ ⟨r1_0, r1_1, r1_2, r1_3, r1_4, r1_5, r1_6, r1_7, r1_8⟩ ⟨z2_0, z2_1, b2_2, b2_3, b2_4, b2_5, b2_6, z2_7, z2_8, z2_9, es2_10⟩ sa2_10 n2_10 c2_10 rd2_10 en2_10 m2_10 ⟨r2_0, r2_1, r2_7, r2_8, r2_9, wf2_10⟩)).mono fun e W' ⟨he, bel⟩ => ?_
  subst he
  exact ⟨_, rfl, _, _, _, [], _, [], hW', trodAll_mk1 (shut_bool Try.underlying4 _), (trodAll_cons_mk (Below.trod laidOut (by kernel_rfl) (of_decide_eq_true (by kernel_rfl)) k0 bel lt0) (trodAll_cons_mk (Below.trod laidOut (by kernel_rfl) (of_decide_eq_true (by kernel_rfl)) k1 bel lt1) (trodAll_cons_mk (Below.trod laidOut (by kernel_rfl) (of_decide_eq_true (by kernel_rfl)) k2 bel lt2) trodAll_mk0))), rfl, bel.frame _, fun h => by cases h⟩
theorem over : Rows.filterAddsRow.holds Try.pinned (OpenSpec.ofChange Rows.filterAddsSpec) :=
  OpenClaim.holds_of_wide 6 Try.f6 rfl rfl rfl rfl rfl rfl rfl ⟨rfl, rfl, rfl, rfl, rfl⟩ rfl rfl rfl rfl rfl (by kernel_rfl) Try.func6 (by kernel_rfl)
    (of_decide_eq_true (by kernel_rfl)) (by unfold Func.isWrapper; first | (rw [if_pos (by decide +kernel)]; kernel_rfl) | (rw [if_neg (by decide +kernel)]; exact ⟨rfl, rfl⟩))
    (fun os started H enc _ => lifted os started H enc)
theorem proved : Rows.FilterAddsSaid := over
#print axioms proved
end Go.Proofs.Ytgdnanfnmaafoaa.filterAdds
namespace Go.Proofs.Ytgdnanfnmaafoaa
/-- The row, under a short name, for the claim. -/
theorem filterAdds_holds : Rows.FilterAddsSaid := filterAdds.proved
end Go.Proofs.Ytgdnanfnmaafoaa
