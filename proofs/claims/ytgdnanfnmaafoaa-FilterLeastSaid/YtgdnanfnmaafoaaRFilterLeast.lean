/- The law FilterLeast holds: the row, out of the contract that is proved of its text. Conditions: none. -/
import Derived.Test.YtgdnanfnmaafoaaRows
import Derived.Test.YtgdnanfnmaafoaaOK15
import Derived.Test.YtgdnanfnmaafoaaLFilterLeast
import Derived.Test.YtgdnanfnmaafoaaS7
import Derived.WalkKit
import Derived.ProofKit
import Derived.OpenShut
import Derived.ShutString
import Derived.ChangeOld
import Derived.Below
import Derived.SizedLaws
import Derived.Lib.SmallJoins
import Derived.Carry
set_option linter.unusedVariables false
set_option linter.unusedSimpArgs false
namespace Go.Proofs.Ytgdnanfnmaafoaa.filterLeast
open Go.ChangeShapes Go.WideShapes Go.ChangeAt Go.RowKit Go.Sep Go.Joins
open Go.ChangeMaps (open_string shut_string)
set_option linter.unusedVariables false
theorem own : ownKnob Try.prog.godebug = none := by kernel_rfl
theorem laidOut : laidOutB Try.prog = true := by kernel_rfl
set_option maxHeartbeats 1000000 in
set_option maxRecDepth 100000 in
theorem lifted (os : Os) (started : os.Started) (H : Type) (enc : TypeId × Value → H) :
    ReturnsInHanded {} Try.checked os 7 .any (Rows.filterLeastSpec.pre6 enc Try.prog Try.f7 Rows.filterLeastRow.domain false) (Rows.filterLeastSpec.post enc Try.prog Try.f7 false true false false) := by
  refine returnsInHanded_of_change_sized (C := Try.checked) own started (by kernel_rfl) Try.func7
    (ChangeSpec.witness6 (enc := enc) (C := Try.checked) false ⟨#[], #[Value.agg #[Value.slice none 0 0, Value.bool false]], []⟩ 8 (by kernel_rfl) (by kernel_rfl) (by kernel_rfl) (by kernel_rfl)) ?_
  intro W base args ds gs before hval0 hW hcnd hsz0 _
  have hsz : (DataW.weightsEach Try.prog (Try.f7.params.toList ++ Rows.filterLeastSpec.plain.varTypes Try.prog) (ds ++ gs)).all (· ≤ reachBytes) = true := hsz0
  have hval : ∀ (j : Nat) t v, Try.f7.params[j]? = some t → args[j]? = some v → Value.okWide Try.prog W .any base t v := hval0
  have hW' := hW
  obtain ⟨p, q, hA0, hV, rfl, hfz, hnd⟩ := hW
  have hA : DataW.TrodAll enc Try.prog W 0 (fun _ => true) true Try.f7.params.toList args.toList ds p := hA0
  rw [Try.params7] at hA hval hsz
  obtain ⟨v0, vs0, d0, ds0, p0, q0, hargs, rfl, rfl, h0, r0⟩ := trodAll_cons hA
  obtain ⟨rfl, rfl, rfl⟩ := trodAll_nil r0
  obtain rfl : args = #[v0] := by cases args; simp_all
  obtain ⟨rfl, rfl⟩ := trodVars_none hV
  have k0 := h0
  have lt0 : ∀ x ∈ p0, x.block < W.heap.size := by obtain ⟨m, hm⟩ := k0; exact DataW.trod_lt m _ _ _ hm
  obtain ⟨⟨x0⟩, rfl, y0⟩ := Go.WideShapes.okWide_struct Try.underlying24 (hval 0 24 v0 rfl rfl)
  have y0 : x0.length = 2 := y0.trans (show Try.prog.cellsOf 24 = 2 by kernel_rfl)
  obtain ⟨x0_0, x0_1, rfl⟩ := len2 y0
  obtain ⟨j0, ok0⟩ := Ok.arg 0 h0 hsz rfl rfl
  have ok0 : Ok Try.prog W j0 24 [x0_0, x0_1] := ok0
  obtain ⟨_, k0, g0⟩ := Ok.struct ok0 Try.underlying24
  have ok0_0 : Ok Try.prog W k0 22 [x0_0] := Ok.field g0 (i := 0) (o := 0) (s := 1) rfl rfl rfl (by kernel_rfl) rfl
  have ok0_1 : Ok Try.prog W k0 4 [x0_1] := Ok.field g0 (i := 1) (o := 1) (s := 1) rfl rfl rfl (by kernel_rfl) rfl
  obtain ⟨sa0_0, n0_0, c0_0, es0_0, q0_0, en0_0, ec0_0, eb0_0, wf0_0, rd0_0⟩ := Ok.rows (α := Rul) (b := 32) (sz := 10) (RuC) (RuOk) ok0_0 Try.underlying22 (by kernel_rfl) (by kernel_rfl) (M.okRule)
  obtain rfl := one_inj q0_0
  have m0_0 : n0_0 ≤ 140737488351232 := by omega
  obtain ⟨b0_1, q0_1⟩ := Ok.bool ok0_1 Try.underlying4
  obtain rfl := one_inj q0_1
  clear hA0 hval0 hsz0 hsz
  refine (SC.law (w0 := W) (M.filterLeast es0_0 sa0_0 n0_0 c0_0 rd0_0 en0_0 m0_0 (getD_ok wf0_0) b0_1)).mono fun e W' ⟨he, bel⟩ => ?_
  subst he
  exact ⟨_, rfl, _, _, _, [], _, [], hW', trodAll_mk1 (shut_bool Try.underlying4 _), (trodAll_cons_mk (Below.trod laidOut (by kernel_rfl) (of_decide_eq_true (by kernel_rfl)) k0 bel lt0) trodAll_mk0), rfl, bel.frame _, fun h => by cases h⟩
theorem over : Rows.filterLeastRow.holds Try.pinned (OpenSpec.ofChange Rows.filterLeastSpec) :=
  OpenClaim.holds_of_wide 7 Try.f7 rfl rfl rfl rfl rfl rfl rfl ⟨rfl, rfl, rfl, rfl, rfl⟩ rfl rfl rfl rfl rfl (by kernel_rfl) Try.func7 (by kernel_rfl)
    (of_decide_eq_true (by kernel_rfl)) (by unfold Func.isWrapper; first | (rw [if_pos (by decide +kernel)]; kernel_rfl) | (rw [if_neg (by decide +kernel)]; exact ⟨rfl, rfl⟩))
    (fun os started H enc _ => lifted os started H enc)
theorem proved : Rows.FilterLeastSaid := over
#print axioms proved
end Go.Proofs.Ytgdnanfnmaafoaa.filterLeast
namespace Go.Proofs.Ytgdnanfnmaafoaa
/-- The row, under a short name, for the claim. -/
theorem filterLeast_holds : Rows.FilterLeastSaid := filterLeast.proved
end Go.Proofs.Ytgdnanfnmaafoaa
