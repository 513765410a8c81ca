import Derived.Test.YtecgicpimgghaaaProg
import Derived.Test.YtecgicpimgghaaaFC18
set_option linter.unusedVariables false
set_option linter.unusedSimpArgs false
namespace Go.Proofs.Ytecgicpimgghaaa.M
open Go Go.Sep Go.Proofs
set_option maxRecDepth 10000
set_option maxHeartbeats 2000000
theorem f0_ok : FrOk (⟨1, 5, false, false, false, false, false, 0, 0, 0, [9]⟩ : Frm) := ⟨by decide, by decide, by decide, by decide, by decide, Byte.one (by omega) (by omega)⟩
theorem alive {w0 : World} {H : List Chunk}  : SC Try.prog w0 8 #[] H (fun v H' => v = .bool true ∧ H' = H) := by
 refine SC.enter Try.func8 rfl (Nat.le_of_ble_eq_true rfl) ?_
 refine SW.seq_k fun K0 hK0 => ?_
 refine SW.region _ _ _ _ ?_
 refine RL.p T ?_
 refine RL.nil _ _ _ _ ?_
 refine hK0 _ _ _ ?_
 refine SW.seq_k fun K1 hK1 => ?_
 refine SW.region _ _ _ _ ?_
 refine RL.bs T rfl rfl rfl (by exact (rfl : _ = some [_])) (fun b4_0 => ?_)
 refine RL.s ?_
 refine NV.pure T (rfl : _ = some (Value.agg #[_, _, _, _, _, _, _, _, _, _, _])) ?_
 refine RL.c fun9 (fun hs => putold (⟨1, 5, false, false, false, false, false, 0, 0, 0, [9]⟩ : Frm) _ 1 1 (Rd.rowh hs (by repeat first | exact At.head _ _ | apply At.tail | apply At.app)) rfl (by omega) f0_ok) ?_
 rintro _ _ ⟨a1, c1, rfl, e⟩; obtain rfl := e.symm
 refine RL.p T ?_
 refine RL.p T ?_
 refine RL.p T ?_
 refine RL.p T ?_
 refine RL.p T ?_
 refine RL.nil _ _ _ _ ?_
 refine hK1 _ _ _ ?_
 refine SW.seq_k fun K2 hK2 => ?_
 refine SW.region _ _ _ _ ?_
 refine RL.p T ?_
 refine RL.bs T rfl rfl rfl (by exact (rfl : _ = some [_, _, _, _, _, _, _])) (fun b10_1 => ?_)
 refine RL.c fun13 (fun hs => same a1 _ _ c1 7 7 (putO (⟨1, 5, false, false, false, false, false, 0, 0, 0, [9]⟩ : Frm)).1 [0, 0, 0, 0, 5, 1, 9] (Rd.rowh hs (by repeat first | exact At.head _ _ | apply At.tail | apply At.app)) (Rd.rowh hs (by repeat first | exact At.head _ _ | apply At.tail | apply At.app)) rfl rfl (by have := putO_len (⟨1, 5, false, false, false, false, false, 0, 0, 0, [9]⟩ : Frm); omega) (by omega)) ?_
 rintro _ _ ⟨rfl, e⟩; obtain rfl := e.symm
 refine RL.p T ?_
 refine RL.join (fr1 := ?_) 2 12 true [13, 14] (fun hs0 hj => ?_) ?_ ?_
 rotate_left
 ·have hs0j := hs0
  try simp only [decide_eq_true_eq, Bool.not_eq_true', decide_eq_false_iff_not, Bool.not_eq_false', Int.not_lt, Int.not_le, Int.toNat_natCast, Bool.and_eq_true, Bool.or_eq_true, Bool.and_eq_false_iff, Bool.or_eq_false_iff] at hs0
  refine RL.p T ?_
  refine RL.p T ?_
  exact hj
 ·repeat first | exact Mx.refl | exact Mx.mix | refine Mx.put rfl ?_ | refine Mx.upd rfl ?_ | refine Mx.updl rfl ?_ | refine Mx.fin rfl ?_ | refine Mx.inner rfl ?_ | refine Mx.none ?_
 refine RL.and ?_
 refine RL.p T ?_
 refine RL.nil _ _ _ _ ?_
 refine hK2 _ _ _ ?_
 refine SW.ret ?_
 refine retQ.rr (H) ?_
 clear hK2 K2 hK1 K1 hK0 K0
 refine ⟨boolE ?_, rfl⟩
 decide +kernel
end Go.Proofs.Ytecgicpimgghaaa.M
