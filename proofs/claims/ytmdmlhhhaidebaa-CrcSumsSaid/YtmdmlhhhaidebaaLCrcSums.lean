import Derived.Test.YtmdmlhhhaidebaaProg
import Derived.Test.YtmdmlhhhaidebaaFG2
set_option linter.unusedVariables false
set_option linter.unusedSimpArgs false
namespace Go.Proofs.Ytmdmlhhhaidebaa.M
open Go Go.Sep Go.Proofs
set_option maxRecDepth 10000
set_option maxHeartbeats 2000000
theorem crcSums {w0 : World} {H : List Chunk} (m : Int) (s : Nat) (hs0 : s < 2 ^ 64) (sa : Option Addr) (n c : Nat) (es : List Int) (hR : Rd w0 H sa n c 1 (es.map (.int .u8))) (hn : n = es.length) (hm : n ≤ 140737488351232) (hB : Byte es) : SC Try.prog w0 3 #[.int .i64 m, .int .u64 ((s : Nat) : Int), .slice sa n c] H (fun v H' => v = .bool true ∧ H' = H) := by
 refine SC.enter Try.func3 rfl (Nat.le_of_ble_eq_true rfl) ?_
 refine SW.seq_k fun K0 hK0 => ?_
 refine SW.region _ _ _ _ ?_
 refine RL.p T ?_
 refine RL.nil _ _ _ _ ?_
 refine hK0 _ _ _ ?_
 refine SW.seq_k fun K1 hK1 => ?_
 refine SW.seq_k fun K2 hK2 => ?_
 refine SW.region _ _ _ _ ?_
 refine RL.c fun9 (fun hs => alive) ?_
 rintro _ _ ⟨rfl, e⟩; obtain rfl := e.symm
 refine RL.p T ?_
 refine RL.nil _ _ _ _ ?_
 refine hK2 _ _ _ ?_
 refine SW.cs (fun hc0 => ?_) (fun hc0 => ?_)
 ·skip
  first
   | (exfalso; first | omega | contradiction | (simp at *; done))
   | (
    refine SW.seq_k fun K3 hK3 => ?_
    refine SW.region _ _ _ _ ?_
    refine RL.p T ?_
    refine RL.nil _ _ _ _ ?_
    refine hK3 _ _ _ ?_
    refine SW.ret ?_
    refine retQ.rr (H) ?_
    clear hK3 K3 hK2 K2 hK1 K1 hK0 K0
    first
      | exact ⟨rfl, rfl⟩
      | (refine ⟨boolE ?_, rfl⟩; simp)
    )
 ·skip
  first
   | (exfalso; first | omega | contradiction | (simp at *; done))
   | (
    refine SW.skip ?_
    refine hK1 _ _ _ ?_
    refine SW.seq_k fun K4 hK4 => ?_
    refine SW.seq_k fun K5 hK5 => ?_
    refine SW.region _ _ _ _ ?_
    refine RL.p T ?_
    refine RL.c fun10 (fun hs => good sa n c) ?_
    rintro _ _ ⟨rfl, e⟩; obtain rfl := e.symm
    refine RL.p T ?_
    refine RL.nil _ _ _ _ ?_
    refine hK5 _ _ _ ?_
    refine SW.cs (fun hc1 => ?_) (fun hc1 => ?_)
    ·skip
     first
      | (exfalso; first | omega | contradiction | (simp at *; done))
      | (
       refine SW.seq_k fun K6 hK6 => ?_
       refine SW.region _ _ _ _ ?_
       refine RL.p T ?_
       refine RL.nil _ _ _ _ ?_
       refine hK6 _ _ _ ?_
       refine SW.ret ?_
       refine retQ.rr (H) ?_
       clear hK6 K6 hK5 K5 hK4 K4 hK2 K2 hK1 K1 hK0 K0
       first
         | exact ⟨rfl, rfl⟩
         | (refine ⟨boolE ?_, rfl⟩; simp)
       )
    ·skip
     first
      | (exfalso; first | omega | contradiction | (simp at *; done))
      | (
       refine SW.skip ?_
       refine hK4 _ _ _ ?_
       refine SW.seq_k fun K7 hK7 => ?_
       refine SW.region _ _ _ _ ?_
       refine RL.p T ?_
       refine RL.p T ?_
       refine RL.c fun11 (fun hs => csum m sa n c es hR hn hm hB) ?_
       rintro _ _ ⟨rfl, e⟩; obtain rfl := e.symm
       refine RL.p T ?_
       refine RL.p T ?_
       refine RL.p T ?_
       refine RL.p T ?_
       refine RL.p T ?_
       refine RL.nil _ _ _ _ ?_
       refine hK7 _ _ _ ?_
       refine SW.seq_k fun K8 hK8 => ?_
       refine SW.region _ _ _ _ ?_
       refine RL.p T ?_
       refine RL.p T ?_
       refine RL.c fun12 (fun hs => rsum m sa n c es hR hn hm hB) ?_
       rintro _ _ ⟨rfl, e⟩; obtain rfl := e.symm
       refine RL.p T ?_
       refine RL.p T ?_
       refine RL.p T ?_
       refine RL.p T ?_
       refine RL.p T ?_
       refine RL.nil _ _ _ _ ?_
       refine hK8 _ _ _ ?_
       refine SW.seq_k fun K9 hK9 => ?_
       refine SW.region _ _ _ _ ?_
       refine RL.p T ?_
       refine RL.p T ?_
       refine RL.p T ?_
       refine RL.c fun13 (fun hs => more m s hs0 sa n c es hR hn hm hB) ?_
       rintro _ _ ⟨rfl, e⟩; obtain rfl := e.symm
       refine RL.p T ?_
       refine RL.p T ?_
       refine RL.p T ?_
       refine RL.p T ?_
       refine RL.p T ?_
       refine RL.nil _ _ _ _ ?_
       refine hK9 _ _ _ ?_
       refine SW.seq_k fun K10 hK10 => ?_
       refine SW.region _ _ _ _ ?_
       refine RL.p T ?_
       refine RL.p T ?_
       refine RL.p T ?_
       refine RL.c fun14 (fun hs => rmore m s hs0 sa n c es hR hn hm hB) ?_
       rintro _ _ ⟨rfl, e⟩; obtain rfl := e.symm
       refine RL.p T ?_
       refine RL.p T ?_
       refine RL.p T ?_
       refine RL.p T ?_
       refine RL.p T ?_
       refine RL.nil _ _ _ _ ?_
       refine hK10 _ _ _ ?_
       refine SW.seq_k fun K11 hK11 => ?_
       refine SW.region _ _ _ _ ?_
       refine RL.p T ?_
       refine RL.c fun15 (fun hs => rof m) ?_
       rintro _ _ ⟨rfl, e⟩; obtain rfl := e.symm
       refine RL.p T ?_
       refine RL.p T ?_
       refine RL.p T ?_
       refine RL.p T ?_
       refine RL.p T ?_
       refine RL.p T ?_
       refine RL.p T ?_
       refine RL.nil _ _ _ _ ?_
       refine hK11 _ _ _ ?_
       refine SW.seq_k fun K12 hK12 => ?_
       refine SW.region _ _ _ _ ?_
       refine RL.p T ?_
       refine RL.p T ?_
       refine RL.p T ?_
       refine RL.p T ?_
       refine RL.join (fr1 := ?_) 3 58 true [59, 60, 61] (fun hs0 hj => ?_) ?_ ?_
       rotate_left
       ·have hs0j := hs0
        try simp only [decide_eq_true_eq, Bool.not_eq_true', decide_eq_false_iff_not, Bool.not_eq_false', Int.not_lt, Int.not_le, Int.toNat_natCast, Bool.and_eq_true, Bool.or_eq_true, Bool.and_eq_false_iff, Bool.or_eq_false_iff] at hs0
        refine RL.p T ?_
        refine RL.p T ?_
        refine RL.p T ?_
        exact hj
       ·repeat first | exact Mx.refl | exact Mx.mix | refine Mx.put rfl ?_ | refine Mx.upd rfl ?_ | refine Mx.updl rfl ?_ | refine Mx.fin rfl ?_ | refine Mx.inner rfl ?_ | refine Mx.none ?_
       refine RL.and ?_
       refine RL.p T ?_
       refine RL.join (fr1 := ?_) 3 63 true [64, 65, 66] (fun hs1 hj => ?_) ?_ ?_
       rotate_left
       ·have hs1j := hs1
        try simp only [decide_eq_true_eq, Bool.not_eq_true', decide_eq_false_iff_not, Bool.not_eq_false', Int.not_lt, Int.not_le, Int.toNat_natCast, Bool.and_eq_true, Bool.or_eq_true, Bool.and_eq_false_iff, Bool.or_eq_false_iff] at hs1
        refine RL.p T ?_
        refine RL.p T ?_
        refine RL.p T ?_
        exact hj
       ·repeat first | exact Mx.refl | exact Mx.mix | refine Mx.put rfl ?_ | refine Mx.upd rfl ?_ | refine Mx.updl rfl ?_ | refine Mx.fin rfl ?_ | refine Mx.inner rfl ?_ | refine Mx.none ?_
       refine RL.and ?_
       refine RL.p T ?_
       refine RL.join (fr1 := ?_) 3 68 true [69, 70, 71] (fun hs2 hj => ?_) ?_ ?_
       rotate_left
       ·have hs2j := hs2
        try simp only [decide_eq_true_eq, Bool.not_eq_true', decide_eq_false_iff_not, Bool.not_eq_false', Int.not_lt, Int.not_le, Int.toNat_natCast, Bool.and_eq_true, Bool.or_eq_true, Bool.and_eq_false_iff, Bool.or_eq_false_iff] at hs2
        refine RL.p T ?_
        refine RL.p T ?_
        refine RL.p T ?_
        exact hj
       ·repeat first | exact Mx.refl | exact Mx.mix | refine Mx.put rfl ?_ | refine Mx.upd rfl ?_ | refine Mx.updl rfl ?_ | refine Mx.fin rfl ?_ | refine Mx.inner rfl ?_ | refine Mx.none ?_
       refine RL.and ?_
       refine RL.p T ?_
       refine RL.join (fr1 := ?_) 4 73 true [74, 75, 76, 77] (fun hs3 hj => ?_) ?_ ?_
       rotate_left
       ·have hs3j := hs3
        try simp only [decide_eq_true_eq, Bool.not_eq_true', decide_eq_false_iff_not, Bool.not_eq_false', Int.not_lt, Int.not_le, Int.toNat_natCast, Bool.and_eq_true, Bool.or_eq_true, Bool.and_eq_false_iff, Bool.or_eq_false_iff] at hs3
        refine RL.p T ?_
        refine RL.c fun16 (fun hs => csize m) ?_
        rintro _ _ ⟨rfl, e⟩; obtain rfl := e.symm
        refine RL.p T ?_
        refine RL.p T ?_
        exact hj
       ·repeat first | exact Mx.refl | exact Mx.mix | refine Mx.put rfl ?_ | refine Mx.upd rfl ?_ | refine Mx.updl rfl ?_ | refine Mx.fin rfl ?_ | refine Mx.inner rfl ?_ | refine Mx.none ?_
       refine RL.and ?_
       refine RL.p T ?_
       refine RL.nil _ _ _ _ ?_
       refine hK12 _ _ _ ?_
       refine SW.ret ?_
       refine retQ.rr (H) ?_
       clear hK12 K12 hK11 K11 hK10 K10 hK9 K9 hK8 K8 hK7 K7 hK5 K5 hK4 K4 hK2 K2 hK1 K1 hK0 K0
       first
         | exact ⟨rfl, rfl⟩
         | (refine ⟨boolE ?_, rfl⟩; simp)
       )
    )
theorem crcSumsI {w0 : World} {H : List Chunk} (m s : Int) (h0 : 0 ≤ s) (h1 : s ≤ 18446744073709551615) (sa : Option Addr) (n c : Nat) (es : List Int) (hR : ∀ H, Rd w0 H sa n c 1 (es.map (.int .u8))) (hn : n = es.length) (hm : n ≤ 140737488351232) (hB : Byte es) : SC Try.prog w0 3 #[.int .i64 m, .int .u64 s, .slice sa n c] H (fun v H' => v = .bool true ∧ H' = H) := by
  obtain ⟨k, rfl⟩ := Int.eq_ofNat_of_zero_le h0
  exact crcSums m k (by omega) sa n c es (hR _) hn hm hB
end Go.Proofs.Ytmdmlhhhaidebaa.M
