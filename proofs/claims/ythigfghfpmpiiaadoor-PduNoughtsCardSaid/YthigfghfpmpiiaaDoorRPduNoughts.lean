/- The law PduNoughts holds: the row, out of the contract that is proved of its text. Conditions: none. -/
import Derived.Test.YthigfghfpmpiiaaDoorRows
import Derived.Test.YthigfghfpmpiiaaDoorTie
import Derived.Test.YthigfghfpmpiiaaDoorCards
import Derived.Test.YthigfghfpmpiiaaDoorS6
import Derived.Test.YthigfghfpmpiiaaDoorOK19D
import Derived.Test.YthigfghfpmpiiaaDoorFC19D
import Derived.Test.YthigfghfpmpiiaaDoorS7
import Derived.WalkKit
import Derived.ProofKit
import Derived.OpenShut
import Derived.ShutString
import Derived.ChangeOld
import Derived.Below
import Derived.SizedLaws
import Derived.Lib.SmallJoins
import Derived.Carry
import Derived.LaidMore
import Derived.Lay
import Derived.SevenTiedAt
import Derived.Stop.Joined
set_option linter.unusedVariables false
set_option linter.unusedSimpArgs false
namespace Go.Proofs.YthigfghfpmpiiaaDoor.pduNoughts
open Go.ChangeShapes Go.WideShapes Go.ChangeAt Go.RowKit Go.Sep Go.Joins
open Go.ChangeMaps (open_string shut_string)
set_option linter.unusedVariables false
theorem own : ownKnob Tryd.prog.godebug = none := by kernel_rfl
theorem laidOut : laidOutB Tryd.prog = true := by kernel_rfl
set_option maxHeartbeats 1000000 in
set_option maxRecDepth 100000 in
theorem lifted (os : Os) (started : os.Started) (H : Type) (enc : TypeId × Value → H) :
    ReturnsInHanded {} Tryd.checked os 5 .any (fun w args => (Rows.pduNoughtsSpec.pre enc Tryd.prog Tryd.f5 Rows.pduNoughtsRow.domain false w args ∧ laidMetH Tryd.prog Rows.pduNoughtsRow.laid w) ∧ sizedMet enc Tryd.prog Tryd.f5 (OpenSpec.ofChange Rows.pduNoughtsSpec) false w args) (Rows.pduNoughtsSpec.post enc Tryd.prog Tryd.f5 false true false false) := by
  refine returnsInHanded_of_change_and (C := Tryd.checked) (X := fun w _ => laidMetH Tryd.prog Rows.pduNoughtsRow.laid w) (fun _ _ _ hh h => h.of_heap hh) own started (by kernel_rfl) Tryd.func5
    (ChangeSpec.witness_shaped (enc := enc) (C := Tryd.checked) (os := os) (X := fun w _ => laidMetH Tryd.prog Rows.pduNoughtsRow.laid w) false (World.laidAll Tryd.prog os Rows.pduNoughtsRow.laid) #[Value.agg #[Value.int IntKind.u32 0, Value.slice none 0 0], .int .u8 0, .int .u8 0] 8 (World.laidAll_os _ _ _)
      (World.shaped_of_ZipB (by kernel_rfl) (by kernel_rfl)) (by kernel_rfl) (by kernel_rfl) (by kernel_rfl)
      (by rw [MakeChecks.laidMetH_plain _ _ _ (by kernel_rfl)]; exact laidMet_laidAll _ (by kernel_rfl) (by kernel_rfl))) ?_
  intro W base args ds gs before hval0 hW hcnd hsz0 hL _
  have hsz : (DataW.weightsEach Tryd.prog (Tryd.f5.params.toList ++ Rows.pduNoughtsSpec.plain.varTypes Tryd.prog) (ds ++ gs)).all (· ≤ reachBytes) = true := hsz0
  have hval : ∀ (j : Nat) t v, Tryd.f5.params[j]? = some t → args[j]? = some v → Value.okWide Tryd.prog W .any base t v := hval0
  have hW' := hW
  obtain ⟨p, q, hA0, hV, rfl, hfz, hnd⟩ := hW
  have hA : DataW.TrodAll enc Tryd.prog W 0 (fun _ => true) true Tryd.f5.params.toList args.toList ds p := hA0
  rw [Tryd.params5] at hA hval hsz
  obtain ⟨v0, vs0, d0, ds0, p0, q0, hargs, rfl, rfl, h0, r0⟩ := trodAll_cons hA
  obtain ⟨v1, vs1, d1, ds1, p1, q1, rfl, rfl, rfl, h1, r1⟩ := trodAll_cons r0
  obtain ⟨v2, vs2, d2, ds2, p2, q2, rfl, rfl, rfl, h2, r2⟩ := trodAll_cons r1
  obtain ⟨rfl, rfl, rfl⟩ := trodAll_nil r2
  obtain rfl : args = #[v0, v1, v2] := by cases args; simp_all
  obtain ⟨rfl, rfl⟩ := trodVars_none hV
  have k0 := h0
  have lt0 : ∀ x ∈ p0, x.block < W.heap.size := by obtain ⟨m, hm⟩ := k0; exact DataW.trod_lt m _ _ _ hm
  obtain ⟨⟨x0⟩, rfl, y0⟩ := Go.WideShapes.okWide_struct Tryd.underlying35 (hval 0 35 v0 rfl rfl)
  have y0 : x0.length = 2 := y0.trans (show Tryd.prog.cellsOf 35 = 2 by kernel_rfl)
  obtain ⟨x0_0, x0_1, rfl⟩ := len2 y0
  obtain ⟨j0, ok0⟩ := Ok.arg 0 h0 hsz rfl rfl
  have ok0 : Ok Tryd.prog W j0 35 [x0_0, x0_1] := ok0
  obtain ⟨_, k0, g0⟩ := Ok.struct ok0 Tryd.underlying35
  have ok0_0 : Ok Tryd.prog W k0 33 [x0_0] := Ok.field g0 (i := 0) (o := 0) (s := 1) rfl rfl rfl (by kernel_rfl) rfl
  have ok0_1 : Ok Tryd.prog W k0 23 [x0_1] := Ok.field g0 (i := 1) (o := 1) (s := 1) rfl rfl rfl (by kernel_rfl) rfl
  obtain ⟨z0_0, q0_0, r0_0⟩ := Ok.int ok0_0 Tryd.underlying33
  obtain rfl := one_inj q0_0
  have r0_0 : (0 : Int) ≤ z0_0 ∧ z0_0 ≤ 4294967295 := r0_0
  obtain ⟨sa0_1, n0_1, c0_1, es0_1, q0_1, en0_1, ec0_1, eb0_1, wf0_1, rd0_1⟩ := Ok.ints (b := 1) ok0_1 Tryd.underlying23 Tryd.underlying5 (by kernel_rfl) (by kernel_rfl)
  obtain rfl := one_inj q0_1
  have m0_1 : n0_1 ≤ 140737488351232 := by omega
  have k1 := h1
  have lt1 : ∀ x ∈ p1, x.block < W.heap.size := by obtain ⟨m, hm⟩ := k1; exact DataW.trod_lt m _ _ _ hm
  obtain ⟨a1, rfl, rfl, rfl, w1⟩ := open_int Tryd.underlying5 (hval 1 5 v1 rfl rfl) h1
  have k2 := h2
  have lt2 : ∀ x ∈ p2, x.block < W.heap.size := by obtain ⟨m, hm⟩ := k2; exact DataW.trod_lt m _ _ _ hm
  obtain ⟨a2, rfl, rfl, rfl, w2⟩ := open_int Tryd.underlying5 (hval 2 5 v2 rfl rfl) h2
  clear hA0 hval0 hsz0 hsz
  refine (SC.law (w0 := W) (M.pduNoughts ⟨z0_0, es0_1, sa0_1, n0_1, c0_1⟩ (fun H => ⟨r0_0, en0_1, m0_1, wf0_1, rd0_1 H⟩) a1 a2 (wf_in w1).1 (wf_in w1).2 (wf_in w2).1 (wf_in w2).2)).mono fun e W' ⟨he, bel⟩ => ?_
  subst he
  exact ⟨_, rfl, _, _, _, [], _, [], hW', trodAll_mk1 (shut_bool Tryd.underlying4 _), (trodAll_cons_mk (Below.trod laidOut (by kernel_rfl) (of_decide_eq_true (by kernel_rfl)) k0 bel lt0) (trodAll_cons_mk (Below.trod laidOut (by kernel_rfl) (of_decide_eq_true (by kernel_rfl)) k1 bel lt1) (trodAll_cons_mk (Below.trod laidOut (by kernel_rfl) (of_decide_eq_true (by kernel_rfl)) k2 bel lt2) trodAll_mk0))), rfl, bel.frame _, fun h => by cases h⟩
theorem over : Rows.pduNoughtsRow.holds Tryd.pinned (OpenSpec.ofChange Rows.pduNoughtsSpec) :=
  OpenClaim.holds_of_wide 5 Tryd.f5 rfl rfl rfl rfl rfl rfl rfl ⟨rfl, rfl, rfl, rfl, rfl⟩ rfl rfl rfl rfl rfl (by kernel_rfl) Tryd.func5 (by kernel_rfl)
    (of_decide_eq_true (by kernel_rfl)) (by unfold Func.isWrapper; first | (rw [if_pos (by decide +kernel)]; kernel_rfl) | (rw [if_neg (by decide +kernel)]; exact ⟨rfl, rfl⟩))
    (fun os started H enc _ => lifted os started H enc)
theorem card_holds : Rows.PduNoughtsCardSaid :=
  Claim7.holds_tied_plain_at .later [] [.data, .pinned] true (true, "0782b3cb086d57356583c8c547c59f36c0f64ab351da5af4d6f223dcf4c93166") false
    over (fun _ h => by cases h) (by kernel_rfl) (fun _ h => by cases h) pduNoughts_row_tie rfl ⟨rfl, rfl⟩ (by kernel_rfl) rfl
    (fun f fn hf hfn => by
      obtain rfl : f = 5 := Option.some.inj ((show Tryd.prog.funcNamed "omnibus/omnibuslaw19.PduNoughts" = some 5 by kernel_rfl).symm.trans hf) |>.symm
      obtain rfl : fn = Tryd.f5 := (Option.some.inj (Tryd.func5.symm.trans hfn)).symm
      exact ⟨by kernel_rfl, fun j t ht => by
        rw [Tryd.params5] at ht
        have hm : t ∈ [35, 5, 5] := by simpa using Array.mem_of_getElem? ht
        have hall : ([35, 5, 5].all fun u => !Tryd.prog.wantsStandIn u) = true := by kernel_rfl
        exact (show Tryd.prog.wantsStandIn t = false by simpa using List.all_eq_true.1 hall t hm)⟩)
    (by kernel_rfl)
#print axioms card_holds
end Go.Proofs.YthigfghfpmpiiaaDoor.pduNoughts
namespace Go.Proofs.YthigfghfpmpiiaaDoor
/-- The card, under a short name, for the claim. -/
theorem pduNoughts_holds : Rows.PduNoughtsCardSaid := pduNoughts.card_holds
end Go.Proofs.YthigfghfpmpiiaaDoor
