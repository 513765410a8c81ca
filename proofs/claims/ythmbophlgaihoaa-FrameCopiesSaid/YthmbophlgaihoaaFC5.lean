import Derived.Test.YthmbophlgaihoaaProg
import Derived.Test.YthmbophlgaihoaaFB5
import Derived.Test.YthmbophlgaihoaaP5b
set_option linter.unusedVariables false
set_option linter.unusedSimpArgs false
namespace Go.Proofs.Ythmbophlgaihoaa.M
open Go Go.Sep Go.Proofs
set_option maxRecDepth 10000
set_option maxHeartbeats 2000000
theorem alive {w0 : World} {H : List Chunk}  : SC Try.prog w0 9 #[] H (fun v H' => v = .bool true ∧ H' = H) := by
 refine SC.enter Try.func9 rfl (Nat.le_of_ble_eq_true rfl) ?_
 refine SW.seq_k fun K0 hK0 => ?_
 refine SW.region _ _ _ _ ?_
 refine RL.p T ?_
 refine RL.nil _ _ _ _ ?_
 refine hK0 _ _ _ ?_
 refine SW.seq_k fun K1 hK1 => ?_
 refine SW.region _ _ _ _ ?_
 refine RL.c fun15 (fun hs => pCode 2 12 (by omega) (by omega)) ?_
 rintro _ _ ⟨rfl, e⟩; obtain rfl := e.symm
 refine RL.p T ?_
 refine RL.p T ?_
 refine RL.p T ?_
 refine RL.p T ?_
 refine RL.p T ?_
 refine RL.nil _ _ _ _ ?_
 refine hK1 _ _ _ ?_
 refine SW.seq_k fun K2 hK2 => ?_
 refine SW.region _ _ _ _ ?_
 refine RL.c fun14 (fun hs => pFit 2 33 (by omega) (by omega)) ?_
 rintro _ _ ⟨rfl, e⟩; obtain rfl := e.symm
 refine RL.p T ?_
 refine RL.p T ?_
 refine RL.p T ?_
 refine RL.p T ?_
 refine RL.p T ?_
 refine RL.nil _ _ _ _ ?_
 refine hK2 _ _ _ ?_
 refine SW.seq_k fun K3 hK3 => ?_
 refine SW.region _ _ _ _ ?_
 refine RL.c fun15 (fun hs => pCode 3 2048 (by omega) (by omega)) ?_
 rintro _ _ ⟨rfl, e⟩; obtain rfl := e.symm
 refine RL.p T ?_
 refine RL.p T ?_
 refine RL.p T ?_
 refine RL.p T ?_
 refine RL.p T ?_
 refine RL.nil _ _ _ _ ?_
 refine hK3 _ _ _ ?_
 refine SW.seq_k fun K4 hK4 => ?_
 refine SW.region _ _ _ _ ?_
 refine RL.p T ?_
 refine RL.p T ?_
 refine RL.p T ?_
 refine RL.join (fr1 := ?_) 2 21 true [22, 23] (fun hs0 hj => ?_) ?_ ?_
 rotate_left
 ·have hs0j := hs0
  try simp only [decide_eq_true_eq, Bool.not_eq_true', decide_eq_false_iff_not, Bool.not_eq_false', Int.not_lt, Int.not_le, Int.toNat_natCast, Bool.and_eq_true, Bool.or_eq_true, Bool.and_eq_false_iff, Bool.or_eq_false_iff] at hs0
  refine RL.p T ?_
  refine RL.p T ?_
  exact hj
 ·repeat first | exact Mx.refl | exact Mx.mix | refine Mx.put rfl ?_ | refine Mx.upd rfl ?_ | refine Mx.updl rfl ?_ | refine Mx.fin rfl ?_ | refine Mx.inner rfl ?_ | refine Mx.none ?_
 refine RL.and ?_
 refine RL.p T ?_
 refine RL.join (fr1 := ?_) 2 25 true [26, 27] (fun hs1 hj => ?_) ?_ ?_
 rotate_left
 ·have hs1j := hs1
  try simp only [decide_eq_true_eq, Bool.not_eq_true', decide_eq_false_iff_not, Bool.not_eq_false', Int.not_lt, Int.not_le, Int.toNat_natCast, Bool.and_eq_true, Bool.or_eq_true, Bool.and_eq_false_iff, Bool.or_eq_false_iff] at hs1
  refine RL.p T ?_
  refine RL.p T ?_
  exact hj
 ·repeat first | exact Mx.refl | exact Mx.mix | refine Mx.put rfl ?_ | refine Mx.upd rfl ?_ | refine Mx.updl rfl ?_ | refine Mx.fin rfl ?_ | refine Mx.inner rfl ?_ | refine Mx.none ?_
 refine RL.and ?_
 refine RL.p T ?_
 refine RL.join (fr1 := ?_) 2 29 true [30, 31] (fun hs2 hj => ?_) ?_ ?_
 rotate_left
 ·have hs2j := hs2
  try simp only [decide_eq_true_eq, Bool.not_eq_true', decide_eq_false_iff_not, Bool.not_eq_false', Int.not_lt, Int.not_le, Int.toNat_natCast, Bool.and_eq_true, Bool.or_eq_true, Bool.and_eq_false_iff, Bool.or_eq_false_iff] at hs2
  refine RL.p T ?_
  refine RL.p T ?_
  exact hj
 ·repeat first | exact Mx.refl | exact Mx.mix | refine Mx.put rfl ?_ | refine Mx.upd rfl ?_ | refine Mx.updl rfl ?_ | refine Mx.fin rfl ?_ | refine Mx.inner rfl ?_ | refine Mx.none ?_
 refine RL.and ?_
 refine RL.p T ?_
 refine RL.join (fr1 := ?_) 2 33 true [34, 35] (fun hs3 hj => ?_) ?_ ?_
 rotate_left
 ·have hs3j := hs3
  try simp only [decide_eq_true_eq, Bool.not_eq_true', decide_eq_false_iff_not, Bool.not_eq_false', Int.not_lt, Int.not_le, Int.toNat_natCast, Bool.and_eq_true, Bool.or_eq_true, Bool.and_eq_false_iff, Bool.or_eq_false_iff] at hs3
  refine RL.p T ?_
  refine RL.p T ?_
  exact hj
 ·repeat first | exact Mx.refl | exact Mx.mix | refine Mx.put rfl ?_ | refine Mx.upd rfl ?_ | refine Mx.updl rfl ?_ | refine Mx.fin rfl ?_ | refine Mx.inner rfl ?_ | refine Mx.none ?_
 refine RL.and ?_
 refine RL.p T ?_
 refine RL.join (fr1 := ?_) 2 37 true [38, 39] (fun hs4 hj => ?_) ?_ ?_
 rotate_left
 ·have hs4j := hs4
  try simp only [decide_eq_true_eq, Bool.not_eq_true', decide_eq_false_iff_not, Bool.not_eq_false', Int.not_lt, Int.not_le, Int.toNat_natCast, Bool.and_eq_true, Bool.or_eq_true, Bool.and_eq_false_iff, Bool.or_eq_false_iff] at hs4
  refine RL.p T ?_
  refine RL.p T ?_
  exact hj
 ·repeat first | exact Mx.refl | exact Mx.mix | refine Mx.put rfl ?_ | refine Mx.upd rfl ?_ | refine Mx.updl rfl ?_ | refine Mx.fin rfl ?_ | refine Mx.inner rfl ?_ | refine Mx.none ?_
 refine RL.and ?_
 refine RL.p T ?_
 refine RL.join (fr1 := ?_) 3 41 true [42, 43, 44] (fun hs5 hj => ?_) ?_ ?_
 rotate_left
 ·have hs5j := hs5
  try simp only [decide_eq_true_eq, Bool.not_eq_true', decide_eq_false_iff_not, Bool.not_eq_false', Int.not_lt, Int.not_le, Int.toNat_natCast, Bool.and_eq_true, Bool.or_eq_true, Bool.and_eq_false_iff, Bool.or_eq_false_iff] at hs5
  refine RL.s ?_
  first | refine NV.buildc T rfl (rfl : _ = some [_, _, _, _, _, _, _, _, _, _, _]) ?_ | refine NV.pure T (rfl : _ = some (Value.agg #[_, _, _, _, _, _, _, _, _, _, _])) ?_
  refine RL.c fun10 (fun hs => (fcheck (zeroF 1) none 0 0 Rd.nilS rfl (by omega) ⟨by simp [zeroF], by simp [zeroF], by simp [zeroF], by simp [zeroF], by simp [zeroF], Byte.nil⟩)) ?_
  rintro _ _ ⟨rfl, e⟩; obtain rfl := e.symm
  refine RL.p T ?_
  exact hj
 ·repeat first | exact Mx.refl | exact Mx.mix | refine Mx.put rfl ?_ | refine Mx.upd rfl ?_ | refine Mx.updl rfl ?_ | refine Mx.fin rfl ?_ | refine Mx.inner rfl ?_ | refine Mx.none ?_
 refine RL.and ?_
 refine RL.p T ?_
 refine RL.join (fr1 := ?_) 3 46 true [47, 48, 49] (fun hs6 hj => ?_) ?_ ?_
 rotate_left
 ·have hs6j := hs6
  try simp only [decide_eq_true_eq, Bool.not_eq_true', decide_eq_false_iff_not, Bool.not_eq_false', Int.not_lt, Int.not_le, Int.toNat_natCast, Bool.and_eq_true, Bool.or_eq_true, Bool.and_eq_false_iff, Bool.or_eq_false_iff] at hs6
  refine RL.s ?_
  first | refine NV.buildc T rfl (rfl : _ = some [_, _, _, _, _, _, _, _, _, _, _]) ?_ | refine NV.pure T (rfl : _ = some (Value.agg #[_, _, _, _, _, _, _, _, _, _, _])) ?_
  refine RL.c fun10 (fun hs => (fcheck (zeroF 0) none 0 0 Rd.nilS rfl (by omega) ⟨by simp [zeroF], by simp [zeroF], by simp [zeroF], by simp [zeroF], by simp [zeroF], Byte.nil⟩)) ?_
  rintro _ _ ⟨rfl, e⟩; obtain rfl := e.symm
  refine RL.p T ?_
  exact hj
 ·repeat first | exact Mx.refl | exact Mx.mix | refine Mx.put rfl ?_ | refine Mx.upd rfl ?_ | refine Mx.updl rfl ?_ | refine Mx.fin rfl ?_ | refine Mx.inner rfl ?_ | refine Mx.none ?_
 refine RL.and ?_
 refine RL.p T ?_
 refine RL.nil _ _ _ _ ?_
 refine hK4 _ _ _ ?_
 refine SW.ret ?_
 refine retQ.rr (H) ?_
 clear hK4 K4 hK3 K3 hK2 K2 hK1 K1 hK0 K0
 refine ⟨boolE ?_, rfl⟩; decide
theorem frameSizes {w0 : World} {H : List Chunk} (k n m : Int) (n0 : -9223372036854775808 ≤ n) (n1 : n ≤ 9223372036854775807) (m0 : -9223372036854775808 ≤ m) (m1 : m ≤ 9223372036854775807) : SC Try.prog w0 6 #[.int .i64 k, .int .i64 n, .int .i64 m] H (fun v H' => v = .bool true ∧ H' = H) := by
 refine SC.enter Try.func6 rfl (Nat.le_of_ble_eq_true rfl) ?_
 refine SW.seq_k fun K0 hK0 => ?_
 refine SW.region _ _ _ _ ?_
 refine RL.p T ?_
 refine RL.nil _ _ _ _ ?_
 refine hK0 _ _ _ ?_
 refine SW.seq_k fun K1 hK1 => ?_
 refine SW.seq_k fun K2 hK2 => ?_
 refine SW.region _ _ _ _ ?_
 refine RL.c fun9 (fun hs => alive) ?_
 rintro _ _ ⟨rfl, e⟩; obtain rfl := e.symm
 refine RL.p T ?_
 refine RL.nil _ _ _ _ ?_
 refine hK2 _ _ _ ?_
 refine SW.cs (fun hc0 => ?_) (fun hc0 => ?_)
 ·skip
  first
   | (exfalso; first | omega | contradiction | (simp at *; done))
   | (
    refine SW.seq_k fun K3 hK3 => ?_
    refine SW.region _ _ _ _ ?_
    refine RL.p T ?_
    refine RL.nil _ _ _ _ ?_
    refine hK3 _ _ _ ?_
    refine SW.ret ?_
    refine retQ.rr (H) ?_
    clear hK3 K3 hK2 K2 hK1 K1 hK0 K0
    first | exact ⟨rfl, rfl⟩ | (refine ⟨boolE ?_, rfl⟩; simp)
    )
 ·skip
  first
   | (exfalso; first | omega | contradiction | (simp at *; done))
   | (
    refine SW.skip ?_
    refine hK1 _ _ _ ?_
    refine SW.seq_k fun K4 hK4 => ?_
    refine SW.region _ _ _ _ ?_
    refine RL.p T ?_
    refine RL.p T ?_
    refine RL.c fun15 (fun hs => pCode k n (by omega) (by omega)) ?_
    rintro _ _ ⟨rfl, e⟩; obtain rfl := e.symm
    refine RL.p T ?_
    refine RL.p T ?_
    refine RL.p T ?_
    refine RL.p T ?_
    refine RL.p T ?_
    refine RL.nil _ _ _ _ ?_
    refine hK4 _ _ _ ?_
    refine SW.seq_k fun K5 hK5 => ?_
    refine SW.region _ _ _ _ ?_
    refine RL.p T ?_
    refine RL.p T ?_
    refine RL.c fun16 (fun hs => rcode k n (by omega) (by omega)) ?_
    rintro _ _ ⟨rfl, e⟩; obtain rfl := e.symm
    refine RL.p T ?_
    refine RL.p T ?_
    refine RL.p T ?_
    refine RL.p T ?_
    refine RL.p T ?_
    refine RL.nil _ _ _ _ ?_
    refine hK5 _ _ _ ?_
    refine SW.seq_k fun K6 hK6 => ?_
    refine SW.region _ _ _ _ ?_
    refine RL.p T ?_
    refine RL.p T ?_
    refine RL.c fun17 (fun hs => pSize k m (by omega) (by omega)) ?_
    rintro _ _ ⟨rfl, e⟩; obtain rfl := e.symm
    refine RL.p T ?_
    refine RL.p T ?_
    refine RL.p T ?_
    refine RL.p T ?_
    refine RL.p T ?_
    refine RL.nil _ _ _ _ ?_
    refine hK6 _ _ _ ?_
    refine SW.seq_k fun K7 hK7 => ?_
    refine SW.region _ _ _ _ ?_
    refine RL.p T ?_
    refine RL.p T ?_
    refine RL.c fun18 (fun hs => rsize k m (by omega) (by omega)) ?_
    rintro _ _ ⟨rfl, e⟩; obtain rfl := e.symm
    refine RL.p T ?_
    refine RL.p T ?_
    refine RL.p T ?_
    refine RL.p T ?_
    refine RL.p T ?_
    refine RL.nil _ _ _ _ ?_
    refine hK7 _ _ _ ?_
    refine SW.seq_k fun K8 hK8 => ?_
    refine SW.region _ _ _ _ ?_
    refine RL.p T ?_
    refine RL.p T ?_
    refine RL.c fun14 (fun hs => pFit k n (by omega) (by omega)) ?_
    rintro _ _ ⟨rfl, e⟩; obtain rfl := e.symm
    refine RL.p T ?_
    refine RL.p T ?_
    refine RL.p T ?_
    refine RL.p T ?_
    refine RL.p T ?_
    refine RL.nil _ _ _ _ ?_
    refine hK8 _ _ _ ?_
    refine SW.seq_k fun K9 hK9 => ?_
    refine SW.region _ _ _ _ ?_
    refine RL.p T ?_
    refine RL.p T ?_
    refine RL.c fun19 (fun hs => rfit k n (by omega) (by omega)) ?_
    rintro _ _ ⟨rfl, e⟩; obtain rfl := e.symm
    refine RL.p T ?_
    refine RL.p T ?_
    refine RL.p T ?_
    refine RL.p T ?_
    refine RL.p T ?_
    refine RL.nil _ _ _ _ ?_
    refine hK9 _ _ _ ?_
    refine SW.seq_k fun K10 hK10 => ?_
    refine SW.region _ _ _ _ ?_
    refine RL.p T ?_
    refine RL.p T ?_
    refine RL.p T ?_
    refine RL.p T ?_
    refine RL.join (fr1 := ?_) 3 60 true [61, 62, 63] (fun hs0 hj => ?_) ?_ ?_
    rotate_left
    ·have hs0j := hs0
     try simp only [decide_eq_true_eq, Bool.not_eq_true', decide_eq_false_iff_not, Bool.not_eq_false', Int.not_lt, Int.not_le, Int.toNat_natCast, Bool.and_eq_true, Bool.or_eq_true, Bool.and_eq_false_iff, Bool.or_eq_false_iff] at hs0
     refine RL.p T ?_
     refine RL.p T ?_
     refine RL.p T ?_
     exact hj
    ·repeat first | exact Mx.refl | exact Mx.mix | refine Mx.put rfl ?_ | refine Mx.upd rfl ?_ | refine Mx.updl rfl ?_ | refine Mx.fin rfl ?_ | refine Mx.inner rfl ?_ | refine Mx.none ?_
    refine RL.and ?_
    refine RL.p T ?_
    refine RL.join (fr1 := ?_) 3 65 true [66, 67, 68] (fun hs1 hj => ?_) ?_ ?_
    rotate_left
    ·have hs1j := hs1
     try simp only [decide_eq_true_eq, Bool.not_eq_true', decide_eq_false_iff_not, Bool.not_eq_false', Int.not_lt, Int.not_le, Int.toNat_natCast, Bool.and_eq_true, Bool.or_eq_true, Bool.and_eq_false_iff, Bool.or_eq_false_iff] at hs1
     refine RL.p T ?_
     refine RL.p T ?_
     refine RL.p T ?_
     exact hj
    ·repeat first | exact Mx.refl | exact Mx.mix | refine Mx.put rfl ?_ | refine Mx.upd rfl ?_ | refine Mx.updl rfl ?_ | refine Mx.fin rfl ?_ | refine Mx.inner rfl ?_ | refine Mx.none ?_
    refine RL.and ?_
    refine RL.p T ?_
    refine RL.join (fr1 := ?_) 3 70 true [71, 72, 73] (fun hs2 hj => ?_) ?_ ?_
    rotate_left
    ·have hs2j := hs2
     try simp only [decide_eq_true_eq, Bool.not_eq_true', decide_eq_false_iff_not, Bool.not_eq_false', Int.not_lt, Int.not_le, Int.toNat_natCast, Bool.and_eq_true, Bool.or_eq_true, Bool.and_eq_false_iff, Bool.or_eq_false_iff] at hs2
     refine RL.p T ?_
     refine RL.p T ?_
     refine RL.p T ?_
     exact hj
    ·repeat first | exact Mx.refl | exact Mx.mix | refine Mx.put rfl ?_ | refine Mx.upd rfl ?_ | refine Mx.updl rfl ?_ | refine Mx.fin rfl ?_ | refine Mx.inner rfl ?_ | refine Mx.none ?_
    refine RL.and ?_
    refine RL.p T ?_
    refine RL.join (fr1 := ?_) 3 75 true [76, 77, 78] (fun hs3 hj => ?_) ?_ ?_
    rotate_left
    ·have hs3j := hs3
     try simp only [decide_eq_true_eq, Bool.not_eq_true', decide_eq_false_iff_not, Bool.not_eq_false', Int.not_lt, Int.not_le, Int.toNat_natCast, Bool.and_eq_true, Bool.or_eq_true, Bool.and_eq_false_iff, Bool.or_eq_false_iff] at hs3
     refine RL.p T ?_
     refine RL.p T ?_
     refine RL.p T ?_
     exact hj
    ·repeat first | exact Mx.refl | exact Mx.mix | refine Mx.put rfl ?_ | refine Mx.upd rfl ?_ | refine Mx.updl rfl ?_ | refine Mx.fin rfl ?_ | refine Mx.inner rfl ?_ | refine Mx.none ?_
    refine RL.and ?_
    refine RL.p T ?_
    refine RL.join (fr1 := ?_) 3 80 true [81, 82, 83] (fun hs4 hj => ?_) ?_ ?_
    rotate_left
    ·have hs4j := hs4
     try simp only [decide_eq_true_eq, Bool.not_eq_true', decide_eq_false_iff_not, Bool.not_eq_false', Int.not_lt, Int.not_le, Int.toNat_natCast, Bool.and_eq_true, Bool.or_eq_true, Bool.and_eq_false_iff, Bool.or_eq_false_iff] at hs4
     refine RL.p T ?_
     refine RL.p T ?_
     refine RL.p T ?_
     exact hj
    ·repeat first | exact Mx.refl | exact Mx.mix | refine Mx.put rfl ?_ | refine Mx.upd rfl ?_ | refine Mx.updl rfl ?_ | refine Mx.fin rfl ?_ | refine Mx.inner rfl ?_ | refine Mx.none ?_
    refine RL.and ?_
    refine RL.p T ?_
    refine RL.nil _ _ _ _ ?_
    refine hK10 _ _ _ ?_
    refine SW.ret ?_
    refine retQ.rr (H) ?_
    clear hK10 K10 hK9 K9 hK8 K8 hK7 K7 hK6 K6 hK5 K5 hK4 K4 hK2 K2 hK1 K1 hK0 K0
    first | exact ⟨rfl, rfl⟩ | (refine ⟨boolE ?_, rfl⟩; simp)
    )
theorem frameBack {w0 : World} {H : List Chunk} (k n : Int) (n0 : -9223372036854775808 ≤ n) (n1 : n ≤ 9223372036854775807) : SC Try.prog w0 7 #[.int .i64 k, .int .i64 n] H (fun v H' => v = .bool true ∧ H' = H) := by
 refine SC.enter Try.func7 rfl (Nat.le_of_ble_eq_true rfl) ?_
 refine SW.seq_k fun K0 hK0 => ?_
 have q1 := sizeS_bd k n
 have q2 := codeS_bd k n
 have q3 := fitS_bd k n
 refine SW.region _ _ _ _ ?_
 refine RL.p T ?_
 refine RL.nil _ _ _ _ ?_
 refine hK0 _ _ _ ?_
 refine SW.seq_k fun K1 hK1 => ?_
 refine SW.seq_k fun K2 hK2 => ?_
 refine SW.region _ _ _ _ ?_
 refine RL.c fun9 (fun hs => alive) ?_
 rintro _ _ ⟨rfl, e⟩; obtain rfl := e.symm
 refine RL.p T ?_
 refine RL.nil _ _ _ _ ?_
 refine hK2 _ _ _ ?_
 refine SW.cs (fun hc0 => ?_) (fun hc0 => ?_)
 ·skip
  first
   | (exfalso; first | omega | contradiction | (simp at *; done))
   | (
    refine SW.seq_k fun K3 hK3 => ?_
    refine SW.region _ _ _ _ ?_
    refine RL.p T ?_
    refine RL.nil _ _ _ _ ?_
    refine hK3 _ _ _ ?_
    refine SW.ret ?_
    refine retQ.rr (H) ?_
    clear hK3 K3 hK2 K2 hK1 K1 hK0 K0
    have b1 := fun h => back1 (k := k) (n := n) h
    have b2 := fun h => back2 (k := k) (n := n) h
    have b3 := fun h => back3 (k := k) (n := n) h
    have b4 := fun h => back4 (k := k) (n := n) h
    refine ⟨boolE ?_, rfl⟩
    first | rfl | grind
    )
 ·skip
  first
   | (exfalso; first | omega | contradiction | (simp at *; done))
   | (
    refine SW.skip ?_
    refine hK1 _ _ _ ?_
    refine SW.seq_k fun K4 hK4 => ?_
    refine SW.seq_k fun K5 hK5 => ?_
    refine SW.region _ _ _ _ ?_
    refine RL.p T ?_
    refine RL.p T ?_
    refine RL.c fun17 (fun hs => pSize k n (by omega) (by omega)) ?_
    rintro _ _ ⟨rfl, e⟩; obtain rfl := e.symm
    refine RL.p T ?_
    refine RL.p T ?_
    refine RL.p T ?_
    refine RL.p T ?_
    refine RL.p T ?_
    refine RL.nil _ _ _ _ ?_
    refine hK5 _ _ _ ?_
    refine SW.seq_k fun K6 hK6 => ?_
    refine SW.region _ _ _ _ ?_
    refine RL.p T ?_
    refine RL.p T ?_
    refine RL.nil _ _ _ _ ?_
    refine hK6 _ _ _ ?_
    refine SW.cs (fun hc1 => ?_) (fun hc1 => ?_)
    ·skip
     first
      | (exfalso; first | omega | contradiction | (simp at *; done))
      | (
       refine SW.seq_k fun K7 hK7 => ?_
       refine SW.region _ _ _ _ ?_
       refine RL.p T ?_
       refine RL.p T ?_
       refine RL.c fun15 (fun hs => pCode k (sizeS k n).1 (by omega) (by omega)) ?_
       rintro _ _ ⟨rfl, e⟩; obtain rfl := e.symm
       refine RL.p T ?_
       refine RL.p T ?_
       refine RL.p T ?_
       refine RL.p T ?_
       refine RL.p T ?_
       refine RL.nil _ _ _ _ ?_
       refine hK7 _ _ _ ?_
       refine SW.seq_k fun K8 hK8 => ?_
       refine SW.region _ _ _ _ ?_
       refine RL.p T ?_
       refine RL.p T ?_
       refine RL.p T ?_
       refine RL.join (fr1 := ?_) 3 35 false [36, 37, 38] (fun hs0 hj => ?_) ?_ ?_
       rotate_left
       ·have hs0j := hs0
        try simp only [decide_eq_true_eq, Bool.not_eq_true', decide_eq_false_iff_not, Bool.not_eq_false', Int.not_lt, Int.not_le, Int.toNat_natCast, Bool.and_eq_true, Bool.or_eq_true, Bool.and_eq_false_iff, Bool.or_eq_false_iff] at hs0
        refine RL.p T ?_
        refine RL.p T ?_
        refine RL.p T ?_
        exact hj
       ·repeat first | exact Mx.refl | exact Mx.mix | refine Mx.put rfl ?_ | refine Mx.upd rfl ?_ | refine Mx.updl rfl ?_ | refine Mx.fin rfl ?_ | refine Mx.inner rfl ?_ | refine Mx.none ?_
       refine RL.or ?_
       refine RL.nil _ _ _ _ ?_
       refine hK8 _ _ _ ?_
       refine SW.cs (fun hc2 => ?_) (fun hc2 => ?_)
       ·skip
        first
         | (exfalso; first | omega | contradiction | (simp at *; done))
         | (
          refine SW.seq_k fun K9 hK9 => ?_
          refine SW.region _ _ _ _ ?_
          refine RL.p T ?_
          refine RL.nil _ _ _ _ ?_
          refine hK9 _ _ _ ?_
          refine SW.ret ?_
          refine retQ.rr (H) ?_
          clear hK9 K9 hK8 K8 hK7 K7 hK6 K6 hK5 K5 hK4 K4 hK2 K2 hK1 K1 hK0 K0
          have b1 := fun h => back1 (k := k) (n := n) h
          have b2 := fun h => back2 (k := k) (n := n) h
          have b3 := fun h => back3 (k := k) (n := n) h
          have b4 := fun h => back4 (k := k) (n := n) h
          refine ⟨boolE ?_, rfl⟩
          first | rfl | grind
          )
       ·skip
        first
         | (exfalso; first | omega | contradiction | (simp at *; done))
         | (
          refine SW.skip ?_
          refine hK4 _ _ _ ?_
          refine SW.seq_k fun K10 hK10 => ?_
          refine SW.region _ _ _ _ ?_
          refine RL.p T ?_
          refine RL.p T ?_
          refine RL.c fun15 (fun hs => pCode k n (by omega) (by omega)) ?_
          rintro _ _ ⟨rfl, e⟩; obtain rfl := e.symm
          refine RL.p T ?_
          refine RL.p T ?_
          refine RL.p T ?_
          refine RL.p T ?_
          refine RL.p T ?_
          refine RL.nil _ _ _ _ ?_
          refine hK10 _ _ _ ?_
          refine SW.seq_k fun K11 hK11 => ?_
          refine SW.seq_k fun K12 hK12 => ?_
          refine SW.region _ _ _ _ ?_
          refine RL.p T ?_
          refine RL.p T ?_
          refine RL.c fun17 (fun hs => pSize k (codeS k n).1 (by omega) (by omega)) ?_
          rintro _ _ ⟨rfl, e⟩; obtain rfl := e.symm
          refine RL.p T ?_
          refine RL.p T ?_
          refine RL.p T ?_
          refine RL.p T ?_
          refine RL.p T ?_
          refine RL.nil _ _ _ _ ?_
          refine hK12 _ _ _ ?_
          refine SW.seq_k fun K13 hK13 => ?_
          refine SW.region _ _ _ _ ?_
          refine RL.p T ?_
          refine RL.p T ?_
          refine RL.p T ?_
          refine RL.join (fr1 := ?_) 7 54 true [55, 56, 57, 58, 59, 60, 61] (fun hs1 hj => ?_) ?_ ?_
          rotate_left
          ·have hs1j := hs1
           try simp only [decide_eq_true_eq, Bool.not_eq_true', decide_eq_false_iff_not, Bool.not_eq_false', Int.not_lt, Int.not_le, Int.toNat_natCast, Bool.and_eq_true, Bool.or_eq_true, Bool.and_eq_false_iff, Bool.or_eq_false_iff] at hs1
           refine RL.p T ?_
           refine RL.p T ?_
           refine RL.p T ?_
           refine RL.join (fr1 := ?_) 3 57 false [58, 59, 60] (fun hs2 hj => ?_) ?_ ?_
           rotate_left
           ·have hs2j := hs2
            try simp only [decide_eq_true_eq, Bool.not_eq_true', decide_eq_false_iff_not, Bool.not_eq_false', Int.not_lt, Int.not_le, Int.toNat_natCast, Bool.and_eq_true, Bool.or_eq_true, Bool.and_eq_false_iff, Bool.or_eq_false_iff] at hs2
            refine RL.p T ?_
            refine RL.p T ?_
            refine RL.p T ?_
            exact hj
           ·repeat first | exact Mx.refl | exact Mx.mix | refine Mx.put rfl ?_ | refine Mx.upd rfl ?_ | refine Mx.updl rfl ?_ | refine Mx.fin rfl ?_ | refine Mx.inner rfl ?_ | refine Mx.none ?_
           refine RL.or ?_
           exact hj
          ·repeat first | exact Mx.refl | exact Mx.mix | refine Mx.put rfl ?_ | refine Mx.upd rfl ?_ | refine Mx.updl rfl ?_ | refine Mx.fin rfl ?_ | refine Mx.inner rfl ?_ | refine Mx.none ?_
          refine RL.and ?_
          refine RL.nil _ _ _ _ ?_
          refine hK13 _ _ _ ?_
          refine SW.cs (fun hc3 => ?_) (fun hc3 => ?_)
          ·skip
           first
            | (exfalso; first | omega | contradiction | (simp at *; done))
            | (
             refine SW.seq_k fun K14 hK14 => ?_
             refine SW.region _ _ _ _ ?_
             refine RL.p T ?_
             refine RL.nil _ _ _ _ ?_
             refine hK14 _ _ _ ?_
             refine SW.ret ?_
             refine retQ.rr (H) ?_
             clear hK14 K14 hK13 K13 hK12 K12 hK11 K11 hK10 K10 hK8 K8 hK7 K7 hK6 K6 hK5 K5 hK4 K4 hK2 K2 hK1 K1 hK0 K0
             have b1 := fun h => back1 (k := k) (n := n) h
             have b2 := fun h => back2 (k := k) (n := n) h
             have b3 := fun h => back3 (k := k) (n := n) h
             have b4 := fun h => back4 (k := k) (n := n) h
             refine ⟨boolE ?_, rfl⟩
             first | rfl | grind
             )
          ·skip
           first
            | (exfalso; first | omega | contradiction | (simp at *; done))
            | (
             refine SW.skip ?_
             refine hK11 _ _ _ ?_
             refine SW.seq_k fun K15 hK15 => ?_
             refine SW.region _ _ _ _ ?_
             refine RL.p T ?_
             refine RL.p T ?_
             refine RL.c fun14 (fun hs => pFit k n (by omega) (by omega)) ?_
             rintro _ _ ⟨rfl, e⟩; obtain rfl := e.symm
             refine RL.p T ?_
             refine RL.p T ?_
             refine RL.p T ?_
             refine RL.p T ?_
             refine RL.p T ?_
             refine RL.nil _ _ _ _ ?_
             refine hK15 _ _ _ ?_
             refine SW.seq_k fun K16 hK16 => ?_
             refine SW.seq_k fun K17 hK17 => ?_
             refine SW.region _ _ _ _ ?_
             refine RL.p T ?_
             refine RL.p T ?_
             refine RL.nil _ _ _ _ ?_
             refine hK17 _ _ _ ?_
             refine SW.cs (fun hc4 => ?_) (fun hc4 => ?_)
             ·skip
              first
               | (exfalso; first | omega | contradiction | (simp at *; done))
               | (
                refine SW.seq_k fun K18 hK18 => ?_
                refine SW.region _ _ _ _ ?_
                refine RL.p T ?_
                refine RL.p T ?_
                refine RL.p T ?_
                refine RL.join (fr1 := ?_) 2 73 true [74, 75] (fun hs3 hj => ?_) ?_ ?_
                rotate_left
                ·have hs3j := hs3
                 try simp only [decide_eq_true_eq, Bool.not_eq_true', decide_eq_false_iff_not, Bool.not_eq_false', Int.not_lt, Int.not_le, Int.toNat_natCast, Bool.and_eq_true, Bool.or_eq_true, Bool.and_eq_false_iff, Bool.or_eq_false_iff] at hs3
                 refine RL.p T ?_
                 refine RL.p T ?_
                 exact hj
                ·repeat first | exact Mx.refl | exact Mx.mix | refine Mx.put rfl ?_ | refine Mx.upd rfl ?_ | refine Mx.updl rfl ?_ | refine Mx.fin rfl ?_ | refine Mx.inner rfl ?_ | refine Mx.none ?_
                refine RL.and ?_
                refine RL.p T ?_
                refine RL.nil _ _ _ _ ?_
                refine hK18 _ _ _ ?_
                refine SW.ret ?_
                refine retQ.rr (H) ?_
                clear hK18 K18 hK17 K17 hK16 K16 hK15 K15 hK13 K13 hK12 K12 hK11 K11 hK10 K10 hK8 K8 hK7 K7 hK6 K6 hK5 K5 hK4 K4 hK2 K2 hK1 K1 hK0 K0
                have b1 := fun h => back1 (k := k) (n := n) h
                have b2 := fun h => back2 (k := k) (n := n) h
                have b3 := fun h => back3 (k := k) (n := n) h
                have b4 := fun h => back4 (k := k) (n := n) h
                refine ⟨boolE ?_, rfl⟩
                first | rfl | grind
                )
             ·skip
              first
               | (exfalso; first | omega | contradiction | (simp at *; done))
               | (
                refine SW.skip ?_
                refine hK16 _ _ _ ?_
                refine SW.seq_k fun K19 hK19 => ?_
                refine SW.region _ _ _ _ ?_
                refine RL.p T ?_
                refine RL.p T ?_
                refine RL.c fun15 (fun hs => pCode k (fitS k n).1 (by omega) (by omega)) ?_
                rintro _ _ ⟨rfl, e⟩; obtain rfl := e.symm
                refine RL.p T ?_
                refine RL.p T ?_
                refine RL.p T ?_
                refine RL.p T ?_
                refine RL.p T ?_
                refine RL.nil _ _ _ _ ?_
                refine hK19 _ _ _ ?_
                refine SW.seq_k fun K20 hK20 => ?_
                refine SW.region _ _ _ _ ?_
                refine RL.p T ?_
                refine RL.p T ?_
                refine RL.p T ?_
                refine RL.join (fr1 := ?_) 3 85 true [86, 87, 88] (fun hs4 hj => ?_) ?_ ?_
                rotate_left
                ·have hs4j := hs4
                 try simp only [decide_eq_true_eq, Bool.not_eq_true', decide_eq_false_iff_not, Bool.not_eq_false', Int.not_lt, Int.not_le, Int.toNat_natCast, Bool.and_eq_true, Bool.or_eq_true, Bool.and_eq_false_iff, Bool.or_eq_false_iff] at hs4
                 refine RL.p T ?_
                 refine RL.p T ?_
                 refine RL.p T ?_
                 exact hj
                ·repeat first | exact Mx.refl | exact Mx.mix | refine Mx.put rfl ?_ | refine Mx.upd rfl ?_ | refine Mx.updl rfl ?_ | refine Mx.fin rfl ?_ | refine Mx.inner rfl ?_ | refine Mx.none ?_
                refine RL.and ?_
                refine RL.p T ?_
                refine RL.join (fr1 := ?_) 6 90 true [91, 92, 93, 94, 95, 96] (fun hs5 hj => ?_) ?_ ?_
                rotate_left
                ·have hs5j := hs5
                 try simp only [decide_eq_true_eq, Bool.not_eq_true', decide_eq_false_iff_not, Bool.not_eq_false', Int.not_lt, Int.not_le, Int.toNat_natCast, Bool.and_eq_true, Bool.or_eq_true, Bool.and_eq_false_iff, Bool.or_eq_false_iff] at hs5
                 refine RL.p T ?_
                 refine RL.p T ?_
                 refine RL.p T ?_
                 refine RL.p T ?_
                 refine RL.p T ?_
                 refine RL.p T ?_
                 exact hj
                ·repeat first | exact Mx.refl | exact Mx.mix | refine Mx.put rfl ?_ | refine Mx.upd rfl ?_ | refine Mx.updl rfl ?_ | refine Mx.fin rfl ?_ | refine Mx.inner rfl ?_ | refine Mx.none ?_
                refine RL.and ?_
                refine RL.p T ?_
                refine RL.nil _ _ _ _ ?_
                refine hK20 _ _ _ ?_
                refine SW.ret ?_
                refine retQ.rr (H) ?_
                clear hK20 K20 hK19 K19 hK17 K17 hK16 K16 hK15 K15 hK13 K13 hK12 K12 hK11 K11 hK10 K10 hK8 K8 hK7 K7 hK6 K6 hK5 K5 hK4 K4 hK2 K2 hK1 K1 hK0 K0
                have b1 := fun h => back1 (k := k) (n := n) h
                have b2 := fun h => back2 (k := k) (n := n) h
                have b3 := fun h => back3 (k := k) (n := n) h
                have b4 := fun h => back4 (k := k) (n := n) h
                refine ⟨boolE ?_, rfl⟩
                first | rfl | grind
                )
             )
          )
       )
    ·skip
     first
      | (exfalso; first | omega | contradiction | (simp at *; done))
      | (
       refine SW.skip ?_
       refine hK4 _ _ _ ?_
       refine SW.seq_k fun K21 hK21 => ?_
       refine SW.region _ _ _ _ ?_
       refine RL.p T ?_
       refine RL.p T ?_
       refine RL.c fun15 (fun hs => pCode k n (by omega) (by omega)) ?_
       rintro _ _ ⟨rfl, e⟩; obtain rfl := e.symm
       refine RL.p T ?_
       refine RL.p T ?_
       refine RL.p T ?_
       refine RL.p T ?_
       refine RL.p T ?_
       refine RL.nil _ _ _ _ ?_
       refine hK21 _ _ _ ?_
       refine SW.seq_k fun K22 hK22 => ?_
       refine SW.seq_k fun K23 hK23 => ?_
       refine SW.region _ _ _ _ ?_
       refine RL.p T ?_
       refine RL.p T ?_
       refine RL.c fun17 (fun hs => pSize k (codeS k n).1 (by omega) (by omega)) ?_
       rintro _ _ ⟨rfl, e⟩; obtain rfl := e.symm
       refine RL.p T ?_
       refine RL.p T ?_
       refine RL.p T ?_
       refine RL.p T ?_
       refine RL.p T ?_
       refine RL.nil _ _ _ _ ?_
       refine hK23 _ _ _ ?_
       refine SW.seq_k fun K24 hK24 => ?_
       refine SW.region _ _ _ _ ?_
       refine RL.p T ?_
       refine RL.p T ?_
       refine RL.p T ?_
       refine RL.join (fr1 := ?_) 7 54 true [55, 56, 57, 58, 59, 60, 61] (fun hs6 hj => ?_) ?_ ?_
       rotate_left
       ·have hs6j := hs6
        try simp only [decide_eq_true_eq, Bool.not_eq_true', decide_eq_false_iff_not, Bool.not_eq_false', Int.not_lt, Int.not_le, Int.toNat_natCast, Bool.and_eq_true, Bool.or_eq_true, Bool.and_eq_false_iff, Bool.or_eq_false_iff] at hs6
        refine RL.p T ?_
        refine RL.p T ?_
        refine RL.p T ?_
        refine RL.join (fr1 := ?_) 3 57 false [58, 59, 60] (fun hs7 hj => ?_) ?_ ?_
        rotate_left
        ·have hs7j := hs7
         try simp only [decide_eq_true_eq, Bool.not_eq_true', decide_eq_false_iff_not, Bool.not_eq_false', Int.not_lt, Int.not_le, Int.toNat_natCast, Bool.and_eq_true, Bool.or_eq_true, Bool.and_eq_false_iff, Bool.or_eq_false_iff] at hs7
         refine RL.p T ?_
         refine RL.p T ?_
         refine RL.p T ?_
         exact hj
        ·repeat first | exact Mx.refl | exact Mx.mix | refine Mx.put rfl ?_ | refine Mx.upd rfl ?_ | refine Mx.updl rfl ?_ | refine Mx.fin rfl ?_ | refine Mx.inner rfl ?_ | refine Mx.none ?_
        refine RL.or ?_
        exact hj
       ·repeat first | exact Mx.refl | exact Mx.mix | refine Mx.put rfl ?_ | refine Mx.upd rfl ?_ | refine Mx.updl rfl ?_ | refine Mx.fin rfl ?_ | refine Mx.inner rfl ?_ | refine Mx.none ?_
       refine RL.and ?_
       refine RL.nil _ _ _ _ ?_
       refine hK24 _ _ _ ?_
       refine SW.cs (fun hc5 => ?_) (fun hc5 => ?_)
       ·skip
        first
         | (exfalso; first | omega | contradiction | (simp at *; done))
         | (
          refine SW.seq_k fun K25 hK25 => ?_
          refine SW.region _ _ _ _ ?_
          refine RL.p T ?_
          refine RL.nil _ _ _ _ ?_
          refine hK25 _ _ _ ?_
          refine SW.ret ?_
          refine retQ.rr (H) ?_
          clear hK25 K25 hK24 K24 hK23 K23 hK22 K22 hK21 K21 hK6 K6 hK5 K5 hK4 K4 hK2 K2 hK1 K1 hK0 K0
          have b1 := fun h => back1 (k := k) (n := n) h
          have b2 := fun h => back2 (k := k) (n := n) h
          have b3 := fun h => back3 (k := k) (n := n) h
          have b4 := fun h => back4 (k := k) (n := n) h
          refine ⟨boolE ?_, rfl⟩
          first | rfl | grind
          )
       ·skip
        first
         | (exfalso; first | omega | contradiction | (simp at *; done))
         | (
          refine SW.skip ?_
          refine hK22 _ _ _ ?_
          refine SW.seq_k fun K26 hK26 => ?_
          refine SW.region _ _ _ _ ?_
          refine RL.p T ?_
          refine RL.p T ?_
          refine RL.c fun14 (fun hs => pFit k n (by omega) (by omega)) ?_
          rintro _ _ ⟨rfl, e⟩; obtain rfl := e.symm
          refine RL.p T ?_
          refine RL.p T ?_
          refine RL.p T ?_
          refine RL.p T ?_
          refine RL.p T ?_
          refine RL.nil _ _ _ _ ?_
          refine hK26 _ _ _ ?_
          refine SW.seq_k fun K27 hK27 => ?_
          refine SW.seq_k fun K28 hK28 => ?_
          refine SW.region _ _ _ _ ?_
          refine RL.p T ?_
          refine RL.p T ?_
          refine RL.nil _ _ _ _ ?_
          refine hK28 _ _ _ ?_
          refine SW.cs (fun hc6 => ?_) (fun hc6 => ?_)
          ·skip
           first
            | (exfalso; first | omega | contradiction | (simp at *; done))
            | (
             refine SW.seq_k fun K29 hK29 => ?_
             refine SW.region _ _ _ _ ?_
             refine RL.p T ?_
             refine RL.p T ?_
             refine RL.p T ?_
             refine RL.join (fr1 := ?_) 2 73 true [74, 75] (fun hs8 hj => ?_) ?_ ?_
             rotate_left
             ·have hs8j := hs8
              try simp only [decide_eq_true_eq, Bool.not_eq_true', decide_eq_false_iff_not, Bool.not_eq_false', Int.not_lt, Int.not_le, Int.toNat_natCast, Bool.and_eq_true, Bool.or_eq_true, Bool.and_eq_false_iff, Bool.or_eq_false_iff] at hs8
              refine RL.p T ?_
              refine RL.p T ?_
              exact hj
             ·repeat first | exact Mx.refl | exact Mx.mix | refine Mx.put rfl ?_ | refine Mx.upd rfl ?_ | refine Mx.updl rfl ?_ | refine Mx.fin rfl ?_ | refine Mx.inner rfl ?_ | refine Mx.none ?_
             refine RL.and ?_
             refine RL.p T ?_
             refine RL.nil _ _ _ _ ?_
             refine hK29 _ _ _ ?_
             refine SW.ret ?_
             refine retQ.rr (H) ?_
             clear hK29 K29 hK28 K28 hK27 K27 hK26 K26 hK24 K24 hK23 K23 hK22 K22 hK21 K21 hK6 K6 hK5 K5 hK4 K4 hK2 K2 hK1 K1 hK0 K0
             have b1 := fun h => back1 (k := k) (n := n) h
             have b2 := fun h => back2 (k := k) (n := n) h
             have b3 := fun h => back3 (k := k) (n := n) h
             have b4 := fun h => back4 (k := k) (n := n) h
             refine ⟨boolE ?_, rfl⟩
             first | rfl | grind
             )
          ·skip
           first
            | (exfalso; first | omega | contradiction | (simp at *; done))
            | (
             refine SW.skip ?_
             refine hK27 _ _ _ ?_
             refine SW.seq_k fun K30 hK30 => ?_
             refine SW.region _ _ _ _ ?_
             refine RL.p T ?_
             refine RL.p T ?_
             refine RL.c fun15 (fun hs => pCode k (fitS k n).1 (by omega) (by omega)) ?_
             rintro _ _ ⟨rfl, e⟩; obtain rfl := e.symm
             refine RL.p T ?_
             refine RL.p T ?_
             refine RL.p T ?_
             refine RL.p T ?_
             refine RL.p T ?_
             refine RL.nil _ _ _ _ ?_
             refine hK30 _ _ _ ?_
             refine SW.seq_k fun K31 hK31 => ?_
             refine SW.region _ _ _ _ ?_
             refine RL.p T ?_
             refine RL.p T ?_
             refine RL.p T ?_
             refine RL.join (fr1 := ?_) 3 85 true [86, 87, 88] (fun hs9 hj => ?_) ?_ ?_
             rotate_left
             ·have hs9j := hs9
              try simp only [decide_eq_true_eq, Bool.not_eq_true', decide_eq_false_iff_not, Bool.not_eq_false', Int.not_lt, Int.not_le, Int.toNat_natCast, Bool.and_eq_true, Bool.or_eq_true, Bool.and_eq_false_iff, Bool.or_eq_false_iff] at hs9
              refine RL.p T ?_
              refine RL.p T ?_
              refine RL.p T ?_
              exact hj
             ·repeat first | exact Mx.refl | exact Mx.mix | refine Mx.put rfl ?_ | refine Mx.upd rfl ?_ | refine Mx.updl rfl ?_ | refine Mx.fin rfl ?_ | refine Mx.inner rfl ?_ | refine Mx.none ?_
             refine RL.and ?_
             refine RL.p T ?_
             refine RL.join (fr1 := ?_) 6 90 true [91, 92, 93, 94, 95, 96] (fun hs10 hj => ?_) ?_ ?_
             rotate_left
             ·have hs10j := hs10
              try simp only [decide_eq_true_eq, Bool.not_eq_true', decide_eq_false_iff_not, Bool.not_eq_false', Int.not_lt, Int.not_le, Int.toNat_natCast, Bool.and_eq_true, Bool.or_eq_true, Bool.and_eq_false_iff, Bool.or_eq_false_iff] at hs10
              refine RL.p T ?_
              refine RL.p T ?_
              refine RL.p T ?_
              refine RL.p T ?_
              refine RL.p T ?_
              refine RL.p T ?_
              exact hj
             ·repeat first | exact Mx.refl | exact Mx.mix | refine Mx.put rfl ?_ | refine Mx.upd rfl ?_ | refine Mx.updl rfl ?_ | refine Mx.fin rfl ?_ | refine Mx.inner rfl ?_ | refine Mx.none ?_
             refine RL.and ?_
             refine RL.p T ?_
             refine RL.nil _ _ _ _ ?_
             refine hK31 _ _ _ ?_
             refine SW.ret ?_
             refine retQ.rr (H) ?_
             clear hK31 K31 hK30 K30 hK28 K28 hK27 K27 hK26 K26 hK24 K24 hK23 K23 hK22 K22 hK21 K21 hK6 K6 hK5 K5 hK4 K4 hK2 K2 hK1 K1 hK0 K0
             have b1 := fun h => back1 (k := k) (n := n) h
             have b2 := fun h => back2 (k := k) (n := n) h
             have b3 := fun h => back3 (k := k) (n := n) h
             have b4 := fun h => back4 (k := k) (n := n) h
             refine ⟨boolE ?_, rfl⟩
             first | rfl | grind
             )
          )
       )
    )
theorem frameRises {w0 : World} {H : List Chunk} (k a b : Int) (a0 : -9223372036854775808 ≤ a) (a1 : a ≤ 9223372036854775807) (b0 : -9223372036854775808 ≤ b) (b1 : b ≤ 9223372036854775807) : SC Try.prog w0 4 #[.int .i64 k, .int .i64 a, .int .i64 b] H (fun v H' => v = .bool true ∧ H' = H) := by
 refine SC.enter Try.func4 rfl (Nat.le_of_ble_eq_true rfl) ?_
 refine SW.seq_k fun K0 hK0 => ?_
 refine SW.region _ _ _ _ ?_
 refine RL.p T ?_
 refine RL.nil _ _ _ _ ?_
 refine hK0 _ _ _ ?_
 refine SW.seq_k fun K1 hK1 => ?_
 refine SW.seq_k fun K2 hK2 => ?_
 refine SW.region _ _ _ _ ?_
 refine RL.c fun9 (fun hs => alive) ?_
 rintro _ _ ⟨rfl, e⟩; obtain rfl := e.symm
 refine RL.p T ?_
 refine RL.nil _ _ _ _ ?_
 refine hK2 _ _ _ ?_
 refine SW.cs (fun hc0 => ?_) (fun hc0 => ?_)
 ·skip
  first
   | (exfalso; first | omega | contradiction | (simp at *; done))
   | (
    refine SW.seq_k fun K3 hK3 => ?_
    refine SW.region _ _ _ _ ?_
    refine RL.p T ?_
    refine RL.nil _ _ _ _ ?_
    refine hK3 _ _ _ ?_
    refine SW.ret ?_
    refine retQ.rr (H) ?_
    clear hK3 K3 hK2 K2 hK1 K1 hK0 K0
    have b1 := fun h h2 => rises1 (k := k) (a := min a b) (b := max a b) (by omega) h h2
    have b2 := fun h1 h2 => rises2 (k := k) (a := min a b) (b := max a b) h1 h2
    refine ⟨boolE ?_, rfl⟩
    first | rfl | grind
    )
 ·skip
  first
   | (exfalso; first | omega | contradiction | (simp at *; done))
   | (
    refine SW.skip ?_
    refine hK1 _ _ _ ?_
    refine SW.seq_k fun K4 hK4 => ?_
    refine SW.region _ _ _ _ ?_
    refine RL.p T ?_
    refine RL.p T ?_
    refine RL.p T ?_
    refine RL.p T ?_
    refine RL.p T ?_
    refine RL.p T ?_
    refine RL.p T ?_
    refine RL.p T ?_
    refine RL.nil _ _ _ _ ?_
    refine hK4 _ _ _ ?_
    refine SW.seq_k fun K5 hK5 => ?_
    refine SW.region _ _ _ _ ?_
    refine RL.p T ?_
    refine RL.p T ?_
    refine RL.c fun14 (fun hs => pFit k (min a b) (by omega) (by omega)) ?_
    rintro _ _ ⟨rfl, e⟩; obtain rfl := e.symm
    refine RL.p T ?_
    refine RL.p T ?_
    refine RL.p T ?_
    refine RL.p T ?_
    refine RL.p T ?_
    refine RL.nil _ _ _ _ ?_
    refine hK5 _ _ _ ?_
    refine SW.seq_k fun K6 hK6 => ?_
    refine SW.region _ _ _ _ ?_
    refine RL.p T ?_
    refine RL.p T ?_
    refine RL.c fun14 (fun hs => pFit k (max a b) (by omega) (by omega)) ?_
    rintro _ _ ⟨rfl, e⟩; obtain rfl := e.symm
    refine RL.p T ?_
    refine RL.p T ?_
    refine RL.p T ?_
    refine RL.p T ?_
    refine RL.p T ?_
    refine RL.nil _ _ _ _ ?_
    refine hK6 _ _ _ ?_
    refine SW.seq_k fun K7 hK7 => ?_
    refine SW.seq_k fun K8 hK8 => ?_
    refine SW.region _ _ _ _ ?_
    refine RL.p T ?_
    refine RL.p T ?_
    refine RL.p T ?_
    refine RL.join (fr1 := ?_) 2 37 true [38, 39] (fun hs0 hj => ?_) ?_ ?_
    rotate_left
    ·have hs0j := hs0
     try simp only [decide_eq_true_eq, Bool.not_eq_true', decide_eq_false_iff_not, Bool.not_eq_false', Int.not_lt, Int.not_le, Int.toNat_natCast, Bool.and_eq_true, Bool.or_eq_true, Bool.and_eq_false_iff, Bool.or_eq_false_iff] at hs0
     refine RL.p T ?_
     refine RL.p T ?_
     exact hj
    ·repeat first | exact Mx.refl | exact Mx.mix | refine Mx.put rfl ?_ | refine Mx.upd rfl ?_ | refine Mx.updl rfl ?_ | refine Mx.fin rfl ?_ | refine Mx.inner rfl ?_ | refine Mx.none ?_
    refine RL.and ?_
    refine RL.p T ?_
    refine RL.join (fr1 := ?_) 7 41 true [42, 43, 44, 45, 46, 47, 48] (fun hs1 hj => ?_) ?_ ?_
    rotate_left
    ·have hs1j := hs1
     try simp only [decide_eq_true_eq, Bool.not_eq_true', decide_eq_false_iff_not, Bool.not_eq_false', Int.not_lt, Int.not_le, Int.toNat_natCast, Bool.and_eq_true, Bool.or_eq_true, Bool.and_eq_false_iff, Bool.or_eq_false_iff] at hs1
     refine RL.p T ?_
     refine RL.p T ?_
     refine RL.p T ?_
     refine RL.join (fr1 := ?_) 3 44 false [45, 46, 47] (fun hs2 hj => ?_) ?_ ?_
     rotate_left
     ·have hs2j := hs2
      try simp only [decide_eq_true_eq, Bool.not_eq_true', decide_eq_false_iff_not, Bool.not_eq_false', Int.not_lt, Int.not_le, Int.toNat_natCast, Bool.and_eq_true, Bool.or_eq_true, Bool.and_eq_false_iff, Bool.or_eq_false_iff] at hs2
      refine RL.p T ?_
      refine RL.p T ?_
      refine RL.p T ?_
      exact hj
     ·repeat first | exact Mx.refl | exact Mx.mix | refine Mx.put rfl ?_ | refine Mx.upd rfl ?_ | refine Mx.updl rfl ?_ | refine Mx.fin rfl ?_ | refine Mx.inner rfl ?_ | refine Mx.none ?_
     refine RL.or ?_
     exact hj
    ·repeat first | exact Mx.refl | exact Mx.mix | refine Mx.put rfl ?_ | refine Mx.upd rfl ?_ | refine Mx.updl rfl ?_ | refine Mx.fin rfl ?_ | refine Mx.inner rfl ?_ | refine Mx.none ?_
    refine RL.and ?_
    refine RL.nil _ _ _ _ ?_
    refine hK8 _ _ _ ?_
    refine SW.cs (fun hc1 => ?_) (fun hc1 => ?_)
    ·skip
     first
      | (exfalso; first | omega | contradiction | (simp at *; done))
      | (
       refine SW.seq_k fun K9 hK9 => ?_
       refine SW.region _ _ _ _ ?_
       refine RL.p T ?_
       refine RL.nil _ _ _ _ ?_
       refine hK9 _ _ _ ?_
       refine SW.ret ?_
       refine retQ.rr (H) ?_
       clear hK9 K9 hK8 K8 hK7 K7 hK6 K6 hK5 K5 hK4 K4 hK2 K2 hK1 K1 hK0 K0
       have b1 := fun h h2 => rises1 (k := k) (a := min a b) (b := max a b) (by omega) h h2
       have b2 := fun h1 h2 => rises2 (k := k) (a := min a b) (b := max a b) h1 h2
       refine ⟨boolE ?_, rfl⟩
       first | rfl | grind
       )
    ·skip
     first
      | (exfalso; first | omega | contradiction | (simp at *; done))
      | (
       refine SW.skip ?_
       refine hK7 _ _ _ ?_
       refine SW.seq_k fun K10 hK10 => ?_
       refine SW.region _ _ _ _ ?_
       refine RL.p T ?_
       refine RL.p T ?_
       refine RL.c fun15 (fun hs => pCode k (min a b) (by omega) (by omega)) ?_
       rintro _ _ ⟨rfl, e⟩; obtain rfl := e.symm
       refine RL.p T ?_
       refine RL.p T ?_
       refine RL.p T ?_
       refine RL.p T ?_
       refine RL.p T ?_
       refine RL.nil _ _ _ _ ?_
       refine hK10 _ _ _ ?_
       refine SW.seq_k fun K11 hK11 => ?_
       refine SW.region _ _ _ _ ?_
       refine RL.p T ?_
       refine RL.p T ?_
       refine RL.c fun15 (fun hs => pCode k (max a b) (by omega) (by omega)) ?_
       rintro _ _ ⟨rfl, e⟩; obtain rfl := e.symm
       refine RL.p T ?_
       refine RL.p T ?_
       refine RL.p T ?_
       refine RL.p T ?_
       refine RL.p T ?_
       refine RL.nil _ _ _ _ ?_
       refine hK11 _ _ _ ?_
       refine SW.seq_k fun K12 hK12 => ?_
       refine SW.region _ _ _ _ ?_
       refine RL.p T ?_
       refine RL.p T ?_
       refine RL.p T ?_
       refine RL.join (fr1 := ?_) 2 64 false [65, 66] (fun hs3 hj => ?_) ?_ ?_
       rotate_left
       ·have hs3j := hs3
        try simp only [decide_eq_true_eq, Bool.not_eq_true', decide_eq_false_iff_not, Bool.not_eq_false', Int.not_lt, Int.not_le, Int.toNat_natCast, Bool.and_eq_true, Bool.or_eq_true, Bool.and_eq_false_iff, Bool.or_eq_false_iff] at hs3
        refine RL.p T ?_
        refine RL.p T ?_
        exact hj
       ·repeat first | exact Mx.refl | exact Mx.mix | refine Mx.put rfl ?_ | refine Mx.upd rfl ?_ | refine Mx.updl rfl ?_ | refine Mx.fin rfl ?_ | refine Mx.inner rfl ?_ | refine Mx.none ?_
       refine RL.or ?_
       refine RL.p T ?_
       refine RL.join (fr1 := ?_) 7 68 false [69, 70, 71, 72, 73, 74, 75] (fun hs4 hj => ?_) ?_ ?_
       rotate_left
       ·have hs4j := hs4
        try simp only [decide_eq_true_eq, Bool.not_eq_true', decide_eq_false_iff_not, Bool.not_eq_false', Int.not_lt, Int.not_le, Int.toNat_natCast, Bool.and_eq_true, Bool.or_eq_true, Bool.and_eq_false_iff, Bool.or_eq_false_iff] at hs4
        refine RL.p T ?_
        refine RL.p T ?_
        refine RL.p T ?_
        refine RL.p T ?_
        refine RL.p T ?_
        refine RL.p T ?_
        refine RL.p T ?_
        exact hj
       ·repeat first | exact Mx.refl | exact Mx.mix | refine Mx.put rfl ?_ | refine Mx.upd rfl ?_ | refine Mx.updl rfl ?_ | refine Mx.fin rfl ?_ | refine Mx.inner rfl ?_ | refine Mx.none ?_
       refine RL.or ?_
       refine RL.p T ?_
       refine RL.nil _ _ _ _ ?_
       refine hK12 _ _ _ ?_
       refine SW.ret ?_
       refine retQ.rr (H) ?_
       clear hK12 K12 hK11 K11 hK10 K10 hK8 K8 hK7 K7 hK6 K6 hK5 K5 hK4 K4 hK2 K2 hK1 K1 hK0 K0
       have b1 := fun h h2 => rises1 (k := k) (a := min a b) (b := max a b) (by omega) h h2
       have b2 := fun h1 h2 => rises2 (k := k) (a := min a b) (b := max a b) h1 h2
       refine ⟨boolE ?_, rfl⟩
       first | rfl | grind
       )
    )
theorem frameChecks {w0 : World} {H : List Chunk} (f : Frm) (sa : Option Addr) (n c : Nat) (hR : ∀ H, Rd w0 H sa n c 1 (f.data.map (.int .u8))) (hn : n = f.data.length) (hm : n ≤ 140737488351232) (hf : FrOk f) (g : Frm) (sb : Option Addr) (m d : Nat) (hS : ∀ H, Rd w0 H sb m d 1 (g.data.map (.int .u8))) (hn2 : m = g.data.length) (hm2 : m ≤ 140737488351232) (hg : FrOk g) : SC Try.prog w0 3 #[FA f sa n c, FA g sb m d] H (fun v H' => v = .bool true ∧ H' = H) := by
 refine SC.enter Try.func3 rfl (Nat.le_of_ble_eq_true rfl) ?_
 refine SW.seq_k fun K0 hK0 => ?_
 refine SW.region _ _ _ _ ?_
 refine RL.s ?_
 refine NV.box rfl (by exact (rfl : _ = [_, _, _, _, _, _, _, _, _, _, _])) ?_
 intro b2_0
 refine RL.s ?_
 refine NV.box rfl (by exact (rfl : _ = [_, _, _, _, _, _, _, _, _, _, _])) ?_
 intro b3_1
 refine RL.p T ?_
 refine RL.nil _ _ _ _ ?_
 refine hK0 _ _ _ ?_
 refine SW.seq_k fun K1 hK1 => ?_
 refine SW.seq_k fun K2 hK2 => ?_
 refine SW.region _ _ _ _ ?_
 refine RL.c fun9 (fun hs => alive) ?_
 rintro _ _ ⟨rfl, e⟩; obtain rfl := e.symm
 refine RL.p T ?_
 refine RL.nil _ _ _ _ ?_
 refine hK2 _ _ _ ?_
 refine SW.cs (fun hc0 => ?_) (fun hc0 => ?_)
 ·skip
  first
   | (exfalso; first | omega | contradiction | (simp at *; done))
   | (
    refine SW.seq_k fun K3 hK3 => ?_
    refine SW.region _ _ _ _ ?_
    refine RL.p T ?_
    refine RL.nil _ _ _ _ ?_
    refine hK3 _ _ _ ?_
    refine SW.ret ?_
    refine retQ.rr (H) ?_
    clear hK3 K3 hK2 K2 hK1 K1 hK0 K0
    first | exact ⟨rfl, rfl⟩ | (refine ⟨boolE ?_, rfl⟩; simp [sameF_refl])
    )
 ·skip
  first
   | (exfalso; first | omega | contradiction | (simp at *; done))
   | (
    refine SW.skip ?_
    refine hK1 _ _ _ ?_
    refine SW.seq_k fun K4 hK4 => ?_
    refine SW.seq_k fun K5 hK5 => ?_
    refine SW.region _ _ _ _ ?_
    refine RL.p T ?_
    refine RL.lv1 T ?_
    refine RL.p T ?_
    refine RL.p T ?_
    refine RL.p T ?_
    refine RL.join (fr1 := ?_) 4 11 false [12, 13, 14, 15] (fun hs0 hj => ?_) ?_ ?_
    rotate_left
    ·have hs0j := hs0
     try simp only [decide_eq_true_eq, Bool.not_eq_true', decide_eq_false_iff_not, Bool.not_eq_false', Int.not_lt, Int.not_le, Int.toNat_natCast, Bool.and_eq_true, Bool.or_eq_true, Bool.and_eq_false_iff, Bool.or_eq_false_iff] at hs0
     refine RL.p T ?_
     refine RL.lv1 T ?_
     refine RL.p T ?_
     refine RL.p T ?_
     exact hj
    ·repeat first | exact Mx.refl | exact Mx.mix | refine Mx.put rfl ?_ | refine Mx.upd rfl ?_ | refine Mx.updl rfl ?_ | refine Mx.fin rfl ?_ | refine Mx.inner rfl ?_ | refine Mx.none ?_
    refine RL.or ?_
    refine RL.nil _ _ _ _ ?_
    refine hK5 _ _ _ ?_
    refine SW.cs (fun hc1 => ?_) (fun hc1 => ?_)
    ·skip
     first
      | (exfalso; first | omega | contradiction | (simp at *; done))
      | (
       refine SW.seq_k fun K6 hK6 => ?_
       refine SW.region _ _ _ _ ?_
       refine RL.p T ?_
       refine RL.nil _ _ _ _ ?_
       refine hK6 _ _ _ ?_
       refine SW.ret ?_
       refine retQ.rr (H) ?_
       clear hK6 K6 hK5 K5 hK4 K4 hK2 K2 hK1 K1 hK0 K0
       first | exact ⟨rfl, rfl⟩ | (refine ⟨boolE ?_, rfl⟩; simp [sameF_refl])
       )
    ·skip
     first
      | (exfalso; first | omega | contradiction | (simp at *; done))
      | (
       refine SW.skip ?_
       refine hK4 _ _ _ ?_
       refine SW.seq_k fun K7 hK7 => ?_
       refine SW.drawQ [(17, 0), (18, 1), (19, 2), (20, 3), (21, 4), (22, 5), (23, 6), (24, 7), (25, 8), (26, 9), (27, 10), (28, 11), (29, 12), (30, 13), (31, 14), (32, 15), (33, 16), (34, 17), (35, 18), (4, 19)] [[], [0], [], [2, 1, 0], [1, 0, 3, 2], [4, 1, 0, 3, 2], [5, 4, 1, 0, 3, 2], [5, 4, 1, 0, 3, 2], [6, 5, 4, 1, 0, 3, 2, 7], [5, 4, 1, 0, 3, 2], [5, 4, 1, 0, 3, 2], [9, 5, 4, 1, 0, 3, 2, 10, 8, 6, 7], [8, 6, 5, 4, 1, 0, 3, 2, 7, 11, 9, 10], [5, 4, 1, 0, 3, 2, 12, 8, 6, 7, 11, 9, 10], [13, 5, 4, 1, 0, 3, 2, 12, 8, 6, 7, 11, 9, 10], [14, 13, 5, 4, 1, 0, 3, 2, 12, 8, 6, 7, 11, 9, 10], [14, 13, 5, 4, 1, 0, 3, 2, 12, 8, 6, 7, 11, 9, 10], [15, 14, 13, 5, 4, 1, 0, 3, 2, 12, 8, 6, 7, 11, 9, 10, 16], [14, 13, 5, 4, 1, 0, 3, 2, 12, 8, 6, 7, 11, 9, 10, 17, 15, 16], [18, 14, 13, 5, 4, 1, 0, 3, 2, 12, 8, 6, 7, 11, 9, 10, 17, 15, 16]] mixed (by kernel_rfl) (by kernel_rfl) ?_
       refine QL.lvN T rfl rfl rfl rfl rfl (by repeat first | exact At.head _ _ | assumption | exact At.put (by assumption) _ | apply At.tail | apply At.app) (by exact (rfl : _ = [_, _, _, _, _, _, _, _, _, _, _])) ?_
       refine QL.c fun10 (fun hs => fcheck f sa n c (hR _) hn hm hf) ?_
       refine QL.lvN T rfl rfl rfl rfl rfl (by repeat first | exact At.head _ _ | assumption | exact At.put (by assumption) _ | apply At.tail | apply At.app) (by exact (rfl : _ = [_, _, _, _, _, _, _, _, _, _, _])) ?_
       refine QL.c fun11 (fun hs => rfcheck f sa n c (hR _) hn hm hf) ?_
       refine QL.p T ?_
       refine QL.p T ?_
       refine QL.join (fr1 := ?_) 7 22 true [23, 24, 25, 26, 27, 28, 29] (fun hs1 hj => ?_) ?_ ?_
       rotate_left
       ·have hs1j := hs1
        try simp only [decide_eq_true_eq, Bool.not_eq_true', decide_eq_false_iff_not, Bool.not_eq_false', Int.not_lt, Int.not_le, Int.toNat_natCast, Bool.and_eq_true, Bool.or_eq_true, Bool.and_eq_false_iff, Bool.or_eq_false_iff] at hs1
        refine QL.lvN T rfl rfl rfl rfl rfl (by repeat first | exact At.head _ _ | assumption | exact At.put (by assumption) _ | apply At.tail | apply At.app) (by exact (rfl : _ = [_, _, _, _, _, _, _, _, _, _, _])) ?_
        refine QL.lvN T rfl rfl rfl rfl rfl (by repeat first | exact At.head _ _ | assumption | exact At.put (by assumption) _ | apply At.tail | apply At.app) (by exact (rfl : _ = [_, _, _, _, _, _, _, _, _, _, _])) ?_
        refine QL.c fun12 (fun hs => fsame f sa n c (hR _) hn hm hf g sb m d (hS _) hn2 hm2 hg) ?_
        refine QL.lvN T rfl rfl rfl rfl rfl (by repeat first | exact At.head _ _ | assumption | exact At.put (by assumption) _ | apply At.tail | apply At.app) (by exact (rfl : _ = [_, _, _, _, _, _, _, _, _, _, _])) ?_
        refine QL.lvN T rfl rfl rfl rfl rfl (by repeat first | exact At.head _ _ | assumption | exact At.put (by assumption) _ | apply At.tail | apply At.app) (by exact (rfl : _ = [_, _, _, _, _, _, _, _, _, _, _])) ?_
        refine QL.c fun13 (fun hs => rfsame f sa n c (hR _) hn hm hf g sb m d (hS _) hn2 hm2 hg) ?_
        refine QL.p T ?_
        exact hj
       ·repeat first | exact Mx.refl | exact Mx.mix | refine Mx.put rfl ?_ | refine Mx.upd rfl ?_ | refine Mx.updl rfl ?_ | refine Mx.fin rfl ?_ | refine Mx.inner rfl ?_ | refine Mx.none ?_
       refine QL.and ?_
       refine QL.p T ?_
       refine QL.join (fr1 := ?_) 3 31 true [32, 33, 34] (fun hs2 hj => ?_) ?_ ?_
       rotate_left
       ·have hs2j := hs2
        try simp only [decide_eq_true_eq, Bool.not_eq_true', decide_eq_false_iff_not, Bool.not_eq_false', Int.not_lt, Int.not_le, Int.toNat_natCast, Bool.and_eq_true, Bool.or_eq_true, Bool.and_eq_false_iff, Bool.or_eq_false_iff] at hs2
        refine QL.lvN T rfl rfl rfl rfl rfl (by repeat first | exact At.head _ _ | assumption | exact At.put (by assumption) _ | apply At.tail | apply At.app) (by exact (rfl : _ = [_, _, _, _, _, _, _, _, _, _, _])) ?_
        refine QL.lvN T rfl rfl rfl rfl rfl (by repeat first | exact At.head _ _ | assumption | exact At.put (by assumption) _ | apply At.tail | apply At.app) (by exact (rfl : _ = [_, _, _, _, _, _, _, _, _, _, _])) ?_
        refine QL.c fun12 (fun hs => fsame f sa n c (hR _) hn hm hf f sa n c (hR _) hn hm hf) ?_
        exact hj
       ·repeat first | exact Mx.refl | exact Mx.mix | refine Mx.put rfl ?_ | refine Mx.upd rfl ?_ | refine Mx.updl rfl ?_ | refine Mx.fin rfl ?_ | refine Mx.inner rfl ?_ | refine Mx.none ?_
       refine QL.and ?_
       refine QL.p T ?_
       refine QL.nil ?_
       refine hK7 _ _ _ ?_
       refine SW.ret ?_
       refine retQ.rr (H) ?_
       clear hK7 K7 hK5 K5 hK4 K4 hK2 K2 hK1 K1 hK0 K0
       first | exact ⟨rfl, rfl⟩ | (refine ⟨boolE ?_, rfl⟩; simp [sameF_refl])
       )
    )
end Go.Proofs.Ythmbophlgaihoaa.M
