/- The law PackFills holds: the row, out of the contract that is proved of its text. Conditions: none. -/
import Derived.Test.YtlgdfoniijmlbaaDoorRows
import Derived.Test.YtlgdfoniijmlbaaDoorTie
import Derived.Test.YtlgdfoniijmlbaaDoorCards
import Derived.Test.YtlgdfoniijmlbaaDoorOK20D
import Derived.Test.YtlgdfoniijmlbaaDoorFO20D
import Derived.Test.YtlgdfoniijmlbaaDoorS7
import Derived.WalkKit
import Derived.ProofKit
import Derived.OpenShut
import Derived.ShutString
import Derived.ChangeOld
import Derived.Below
import Derived.SizedLaws
import Derived.Lib.SmallJoins
import Derived.Carry
import Derived.LaidMore
import Derived.Lay
import Derived.SevenTiedAt
import Derived.Stop.Joined
set_option linter.unusedVariables false
set_option linter.unusedSimpArgs false
namespace Go.Proofs.YtlgdfoniijmlbaaDoor.packFills
open Go.ChangeShapes Go.WideShapes Go.ChangeAt Go.RowKit Go.Sep Go.Joins
open Go.ChangeMaps (open_string shut_string)
set_option linter.unusedVariables false
theorem own : ownKnob Tryd.prog.godebug = none := by kernel_rfl
theorem laidOut : laidOutB Tryd.prog = true := by kernel_rfl
set_option maxHeartbeats 1000000 in
set_option maxRecDepth 100000 in
theorem lifted (os : Os) (started : os.Started) (H : Type) (enc : TypeId × Value → H) :
    ReturnsInHanded {} Tryd.checked os 3 .any (fun w args => (Rows.packFillsSpec.pre enc Tryd.prog Tryd.f3 Rows.packFillsRow.domain false w args ∧ laidMetH Tryd.prog Rows.packFillsRow.laid w) ∧ sizedMet enc Tryd.prog Tryd.f3 (OpenSpec.ofChange Rows.packFillsSpec) false w args) (Rows.packFillsSpec.post enc Tryd.prog Tryd.f3 false true false false) := by
  refine returnsInHanded_of_change_and (C := Tryd.checked) (X := fun w _ => laidMetH Tryd.prog Rows.packFillsRow.laid w) (fun _ _ _ hh h => h.of_heap hh) own started (by kernel_rfl) Tryd.func3
    (ChangeSpec.witness_shaped (enc := enc) (C := Tryd.checked) (os := os) (X := fun w _ => laidMetH Tryd.prog Rows.packFillsRow.laid w) false (World.laidAll Tryd.prog os Rows.packFillsRow.laid) #[.int .i64 0, Value.slice none 0 0] 8 (World.laidAll_os _ _ _)
      (World.shaped_of_ZipB (by kernel_rfl) (by kernel_rfl)) (by kernel_rfl) (by kernel_rfl) (by kernel_rfl)
      (by rw [MakeChecks.laidMetH_plain _ _ _ (by kernel_rfl)]; exact laidMet_laidAll _ (by kernel_rfl) (by kernel_rfl))) ?_
  intro W base args ds gs before hval0 hW hcnd hsz0 hL _
  have hsz : (DataW.weightsEach Tryd.prog (Tryd.f3.params.toList ++ Rows.packFillsSpec.plain.varTypes Tryd.prog) (ds ++ gs)).all (· ≤ reachBytes) = true := hsz0
  have hval : ∀ (j : Nat) t v, Tryd.f3.params[j]? = some t → args[j]? = some v → Value.okWide Tryd.prog W .any base t v := hval0
  have hW' := hW
  obtain ⟨p, q, hA0, hV, rfl, hfz, hnd⟩ := hW
  have hA : DataW.TrodAll enc Tryd.prog W 0 (fun _ => true) true Tryd.f3.params.toList args.toList ds p := hA0
  rw [Tryd.params3] at hA hval hsz
  obtain ⟨v0, vs0, d0, ds0, p0, q0, hargs, rfl, rfl, h0, r0⟩ := trodAll_cons hA
  obtain ⟨v1, vs1, d1, ds1, p1, q1, rfl, rfl, rfl, h1, r1⟩ := trodAll_cons r0
  obtain ⟨rfl, rfl, rfl⟩ := trodAll_nil r1
  obtain rfl : args = #[v0, v1] := by cases args; simp_all
  obtain ⟨rfl, rfl⟩ := trodVars_none hV
  have k0 := h0
  have lt0 : ∀ x ∈ p0, x.block < W.heap.size := by obtain ⟨m, hm⟩ := k0; exact DataW.trod_lt m _ _ _ hm
  obtain ⟨a0, rfl, rfl, rfl, w0⟩ := open_int Tryd.underlying3 (hval 0 3 v0 rfl rfl) h0
  have k1 := h1
  have lt1 : ∀ x ∈ p1, x.block < W.heap.size := by obtain ⟨m, hm⟩ := k1; exact DataW.trod_lt m _ _ _ hm
  obtain ⟨sa1, n1, c1, rfl⟩ := Go.WideShapes.okWide_slice Tryd.underlying22 (hval 1 22 v1 rfl rfl)
  obtain ⟨j1, ok1⟩ := Ok.arg 1 h1 hsz rfl rfl
  have ok1 : Ok Tryd.prog W j1 22 [Value.slice sa1 n1 c1] := ok1
  obtain ⟨es1, en1, ec1, eb1, wf1, rd1⟩ := Ok.rows1 (α := Pd) (b := 32) (sz := 2) (PdC) (fun r => ∀ H, PdOk W H r) ok1 Tryd.underlying22 (by kernel_rfl) (by kernel_rfl) (M.okPd)
  have m1 : n1 ≤ 140737488351232 := by omega
  clear hA0 hval0 hsz0 hsz
  refine (SC.law (w0 := W) (M.packFillsI a0 es1 sa1 n1 c1 rd1 en1 (by omega) (M.all_mem wf1))).mono fun e W' ⟨he, bel⟩ => ?_
  subst he
  exact ⟨_, rfl, _, _, _, [], _, [], hW', trodAll_mk1 (shut_bool Tryd.underlying4 _), (trodAll_cons_mk (Below.trod laidOut (by kernel_rfl) (of_decide_eq_true (by kernel_rfl)) k0 bel lt0) (trodAll_cons_mk (Below.trod laidOut (by kernel_rfl) (of_decide_eq_true (by kernel_rfl)) k1 bel lt1) trodAll_mk0)), rfl, bel.frame _, fun h => by cases h⟩
theorem over : Rows.packFillsRow.holds Tryd.pinned (OpenSpec.ofChange Rows.packFillsSpec) :=
  OpenClaim.holds_of_wide 3 Tryd.f3 rfl rfl rfl rfl rfl rfl rfl ⟨rfl, rfl, rfl, rfl, rfl⟩ rfl rfl rfl rfl rfl (by kernel_rfl) Tryd.func3 (by kernel_rfl)
    (of_decide_eq_true (by kernel_rfl)) (by unfold Func.isWrapper; first | (rw [if_pos (by decide +kernel)]; kernel_rfl) | (rw [if_neg (by decide +kernel)]; exact ⟨rfl, rfl⟩))
    (fun os started H enc _ => lifted os started H enc)
theorem card_holds : Rows.PackFillsCardSaid :=
  Claim7.holds_tied_plain_at .later [] [.data, .pinned] true (true, "13d9df52ebd9facd5734aa46b7a2f907d82216c710aa0970dee521797ecb5f24") false
    over (fun _ h => by cases h) (by kernel_rfl) (fun _ h => by cases h) packFills_row_tie rfl ⟨rfl, rfl⟩ (by kernel_rfl) rfl
    (fun f fn hf hfn => by
      obtain rfl : f = 3 := Option.some.inj ((show Tryd.prog.funcNamed "omnibus/omnibuslaw20.PackFills" = some 3 by kernel_rfl).symm.trans hf) |>.symm
      obtain rfl : fn = Tryd.f3 := (Option.some.inj (Tryd.func3.symm.trans hfn)).symm
      exact ⟨by kernel_rfl, fun j t ht => by
        rw [Tryd.params3] at ht
        have hm : t ∈ [3, 22] := by simpa using Array.mem_of_getElem? ht
        have hall : ([3, 22].all fun u => !Tryd.prog.wantsStandIn u) = true := by kernel_rfl
        exact (show Tryd.prog.wantsStandIn t = false by simpa using List.all_eq_true.1 hall t hm)⟩)
    (by kernel_rfl)
#print axioms card_holds
end Go.Proofs.YtlgdfoniijmlbaaDoor.packFills
namespace Go.Proofs.YtlgdfoniijmlbaaDoor
/-- The card, under a short name, for the claim. -/
theorem packFills_holds : Rows.PackFillsCardSaid := packFills.card_holds
end Go.Proofs.YtlgdfoniijmlbaaDoor
