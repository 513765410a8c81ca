/- The law QueueOrders holds: the row, out of the contract that is proved of its text. Conditions: none. -/
import Derived.Test.YtjemdjjmpgjieaaRows
import Derived.Test.YtjemdjjmpgjieaaS6
import Derived.Test.YtjemdjjmpgjieaaOK14
import Derived.Test.YtjemdjjmpgjieaaLQueueOrders
import Derived.Test.YtjemdjjmpgjieaaS7
import Derived.WalkKit
import Derived.ProofKit
import Derived.OpenShut
import Derived.ShutString
import Derived.ChangeOld
import Derived.Below
import Derived.SizedLaws
import Derived.Lib.SmallJoins
import Derived.Carry
set_option linter.unusedVariables false
set_option linter.unusedSimpArgs false
namespace Go.Proofs.Ytjemdjjmpgjieaa.queueOrders
open Go.ChangeShapes Go.WideShapes Go.ChangeAt Go.RowKit Go.Sep Go.Joins
open Go.ChangeMaps (open_string shut_string)
set_option linter.unusedVariables false
theorem own : ownKnob Try.prog.godebug = none := by kernel_rfl
theorem laidOut : laidOutB Try.prog = true := by kernel_rfl
set_option maxHeartbeats 1000000 in
set_option maxRecDepth 100000 in
theorem lifted (os : Os) (started : os.Started) (H : Type) (enc : TypeId × Value → H) :
    ReturnsInHanded {} Try.checked os 7 .any (Rows.queueOrdersSpec.pre6 enc Try.prog Try.f7 Rows.queueOrdersRow.domain false) (Rows.queueOrdersSpec.post enc Try.prog Try.f7 false true false false) := by
  refine returnsInHanded_of_change_sized (C := Try.checked) own started (by kernel_rfl) Try.func7
    (ChangeSpec.witness6 (enc := enc) (C := Try.checked) false ⟨#[], #[Value.slice none 0 0], []⟩ 8 (by kernel_rfl) (by kernel_rfl) (by kernel_rfl) (by kernel_rfl)) ?_
  intro W base args ds gs before hval0 hW hcnd hsz0 _
  have hsz : (DataW.weightsEach Try.prog (Try.f7.params.toList ++ Rows.queueOrdersSpec.plain.varTypes Try.prog) (ds ++ gs)).all (· ≤ reachBytes) = true := hsz0
  have hval : ∀ (j : Nat) t v, Try.f7.params[j]? = some t → args[j]? = some v → Value.okWide Try.prog W .any base t v := hval0
  have hW' := hW
  obtain ⟨p, q, hA0, hV, rfl, hfz, hnd⟩ := hW
  have hA : DataW.TrodAll enc Try.prog W 0 (fun _ => true) true Try.f7.params.toList args.toList ds p := hA0
  rw [Try.params7] at hA hval hsz
  obtain ⟨v0, vs0, d0, ds0, p0, q0, hargs, rfl, rfl, h0, r0⟩ := trodAll_cons hA
  obtain ⟨rfl, rfl, rfl⟩ := trodAll_nil r0
  obtain rfl : args = #[v0] := by cases args; simp_all
  obtain ⟨rfl, rfl⟩ := trodVars_none hV
  have k0 := h0
  have lt0 : ∀ x ∈ p0, x.block < W.heap.size := by obtain ⟨m, hm⟩ := k0; exact DataW.trod_lt m _ _ _ hm
  obtain ⟨sa0, n0, c0, rfl⟩ := Go.WideShapes.okWide_slice Try.underlying22 (hval 0 22 v0 rfl rfl)
  obtain ⟨j0, ok0⟩ := Ok.arg 0 h0 hsz rfl rfl
  have ok0 : Ok Try.prog W j0 22 [Value.slice sa0 n0 c0] := ok0
  obtain ⟨es0, en0, ec0, eb0, wf0, rd0⟩ := Ok.rows1 (α := Fs) (b := 48) (sz := 11) (FsC) (fun r => ∀ H, FsOk W H r) ok0 Try.underlying22 (by kernel_rfl) (by kernel_rfl) (M.okFs)
  have m0 : n0 ≤ 140737488351232 := by omega
  clear hA0 hval0 hsz0 hsz
  refine (SC.law (w0 := W) (M.queueOrders es0 sa0 n0 c0 rd0 en0 (by omega) (fun H x hx => wf0 x hx H))).mono fun e W' ⟨he, bel⟩ => ?_
  subst he
  exact ⟨_, rfl, _, _, _, [], _, [], hW', trodAll_mk1 (shut_bool Try.underlying4 _), (trodAll_cons_mk (Below.trod laidOut (by kernel_rfl) (of_decide_eq_true (by kernel_rfl)) k0 bel lt0) trodAll_mk0), rfl, bel.frame _, fun h => by cases h⟩
theorem over : Rows.queueOrdersRow.holds Try.pinned (OpenSpec.ofChange Rows.queueOrdersSpec) :=
  OpenClaim.holds_of_wide 7 Try.f7 rfl rfl rfl rfl rfl rfl rfl ⟨rfl, rfl, rfl, rfl, rfl⟩ rfl rfl rfl rfl rfl (by kernel_rfl) Try.func7 (by kernel_rfl)
    (of_decide_eq_true (by kernel_rfl)) (by unfold Func.isWrapper; first | (rw [if_pos (by decide +kernel)]; kernel_rfl) | (rw [if_neg (by decide +kernel)]; exact ⟨rfl, rfl⟩))
    (fun os started H enc _ => lifted os started H enc)
theorem proved : Rows.QueueOrdersSaid := over
#print axioms proved
end Go.Proofs.Ytjemdjjmpgjieaa.queueOrders
namespace Go.Proofs.Ytjemdjjmpgjieaa
/-- The row, under a short name, for the claim. -/
theorem queueOrders_holds : Rows.QueueOrdersSaid := queueOrders.proved
end Go.Proofs.Ytjemdjjmpgjieaa
