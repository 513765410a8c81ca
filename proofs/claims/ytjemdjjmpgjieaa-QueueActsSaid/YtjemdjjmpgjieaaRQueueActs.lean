import Derived.Test.YtjemdjjmpgjieaaRows
import Derived.Test.YtjemdjjmpgjieaaS6
import Derived.Test.YtjemdjjmpgjieaaOKA14
import Derived.Test.YtjemdjjmpgjieaaLQueueActs
import Derived.Test.YtjemdjjmpgjieaaS7
import Derived.WalkKit
import Derived.ProofKit
import Derived.OpenShut
import Derived.ShutString
import Derived.ChangeOld
import Derived.Below
import Derived.SizedLaws
import Derived.Lib.SmallJoins
import Derived.Carry
set_option linter.unusedVariables false
set_option linter.unusedSimpArgs false
/- The law QueueActs holds: the row, out of the contract that is proved of its text. Conditions: none. -/
namespace Go.Proofs.Ytjemdjjmpgjieaa.queueActs
open Go.ChangeShapes Go.WideShapes Go.ChangeAt Go.RowKit Go.Sep Go.Joins
open Go.ChangeMaps (open_string shut_string)
set_option linter.unusedVariables false
theorem own : ownKnob Try.prog.godebug = none := by kernel_rfl
theorem laidOut : laidOutB Try.prog = true := by kernel_rfl
set_option maxHeartbeats 1000000 in
set_option maxRecDepth 100000 in
theorem lifted (os : Os) (started : os.Started) (H : Type) (enc : TypeId × Value → H) :
    ReturnsInHanded {} Try.checked os 4 .any (Rows.queueActsSpec.pre6 enc Try.prog Try.f4 Rows.queueActsRow.domain false) (Rows.queueActsSpec.post enc Try.prog Try.f4 false true false false) := by
  refine returnsInHanded_of_change_sized (C := Try.checked) own started (by kernel_rfl) Try.func4
    (ChangeSpec.witness6 (enc := enc) (C := Try.checked) false ⟨#[], #[.int .i64 0, Value.slice none 0 0], []⟩ 8 (by kernel_rfl) (by kernel_rfl) (by kernel_rfl) (by kernel_rfl)) ?_
  intro W base args ds gs before hval0 hW hcnd hsz0 _
  have hsz : (DataW.weightsEach Try.prog (Try.f4.params.toList ++ Rows.queueActsSpec.plain.varTypes Try.prog) (ds ++ gs)).all (· ≤ reachBytes) = true := hsz0
  have hval : ∀ (j : Nat) t v, Try.f4.params[j]? = some t → args[j]? = some v → Value.okWide Try.prog W .any base t v := hval0
  have hW' := hW
  obtain ⟨p, q, hA0, hV, rfl, hfz, hnd⟩ := hW
  have hA : DataW.TrodAll enc Try.prog W 0 (fun _ => true) true Try.f4.params.toList args.toList ds p := hA0
  rw [Try.params4] at hA hval hsz
  obtain ⟨v0, vs0, d0, ds0, p0, q0, hargs, rfl, rfl, h0, r0⟩ := trodAll_cons hA
  obtain ⟨v1, vs1, d1, ds1, p1, q1, rfl, rfl, rfl, h1, r1⟩ := trodAll_cons r0
  obtain ⟨rfl, rfl, rfl⟩ := trodAll_nil r1
  obtain rfl : args = #[v0, v1] := by cases args; simp_all
  obtain ⟨rfl, rfl⟩ := trodVars_none hV
  have k0 := h0
  have lt0 : ∀ x ∈ p0, x.block < W.heap.size := by obtain ⟨m, hm⟩ := k0; exact DataW.trod_lt m _ _ _ hm
  obtain ⟨a0, rfl, rfl, rfl, w0⟩ := open_int Try.underlying3 (hval 0 3 v0 rfl rfl) h0
  have k1 := h1
  have lt1 : ∀ x ∈ p1, x.block < W.heap.size := by obtain ⟨m, hm⟩ := k1; exact DataW.trod_lt m _ _ _ hm
  obtain ⟨sa1, n1, c1, rfl⟩ := Go.WideShapes.okWide_slice Try.underlying42 (hval 1 42 v1 rfl rfl)
  obtain ⟨j1, ok1⟩ := Ok.arg 1 h1 hsz rfl rfl
  have ok1 : Ok Try.prog W j1 42 [Value.slice sa1 n1 c1] := ok1
  obtain ⟨es1, en1, ec1, eb1, wf1, rd1⟩ := Ok.rows1 (α := M.Qa) (b := 64) (sz := 13) (M.QaC) (fun r => ∀ H, FsOk W H r.x) ok1 Try.underlying42 (by kernel_rfl) (by kernel_rfl) (M.okQa)
  have m1 : n1 ≤ 140737488351232 := by omega
  clear hA0 hval0 hsz0 hsz
  refine (SC.law (w0 := W) (M.queueActsI a0 es1 sa1 n1 c1 rd1 en1 (by omega) (fun H x hx => wf1 x hx H))).mono fun e W' ⟨he, bel⟩ => ?_
  subst he
  exact ⟨_, rfl, _, _, _, [], _, [], hW', trodAll_mk1 (shut_bool Try.underlying4 _), (trodAll_cons_mk (Below.trod laidOut (by kernel_rfl) (of_decide_eq_true (by kernel_rfl)) k0 bel lt0) (trodAll_cons_mk (Below.trod laidOut (by kernel_rfl) (of_decide_eq_true (by kernel_rfl)) k1 bel lt1) trodAll_mk0)), rfl, bel.frame _, fun h => by cases h⟩
theorem over : Rows.queueActsRow.holds Try.pinned (OpenSpec.ofChange Rows.queueActsSpec) :=
  OpenClaim.holds_of_wide 4 Try.f4 rfl rfl rfl rfl rfl rfl rfl ⟨rfl, rfl, rfl, rfl, rfl⟩ rfl rfl rfl rfl rfl (by kernel_rfl) Try.func4 (by kernel_rfl)
    (of_decide_eq_true (by kernel_rfl)) (by unfold Func.isWrapper; first | (rw [if_pos (by decide +kernel)]; kernel_rfl) | (rw [if_neg (by decide +kernel)]; exact ⟨rfl, rfl⟩))
    (fun os started H enc _ => lifted os started H enc)
theorem proved : Rows.QueueActsSaid := over
#print axioms proved
end Go.Proofs.Ytjemdjjmpgjieaa.queueActs
namespace Go.Proofs.Ytjemdjjmpgjieaa
/-- The row, under a short name, for the claim. -/
theorem queueActs_holds : Rows.QueueActsSaid := queueActs.proved
end Go.Proofs.Ytjemdjjmpgjieaa
