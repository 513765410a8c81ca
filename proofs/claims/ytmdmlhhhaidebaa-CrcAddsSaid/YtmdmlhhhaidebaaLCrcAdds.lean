import Derived.Test.YtmdmlhhhaidebaaProg
import Derived.Test.YtmdmlhhhaidebaaFG2
set_option linter.unusedVariables false
set_option linter.unusedSimpArgs false
namespace Go.Proofs.Ytmdmlhhhaidebaa.M
open Go Go.Sep Go.Proofs
set_option maxRecDepth 10000
set_option maxHeartbeats 2000000
theorem crcAdds {w0 : World} {H : List Chunk} (m : Int) (sa : Option Addr) (n c : Nat) (es : List Int) (hR : ∀ H, Rd w0 H sa n c 1 (es.map (.int .u8))) (hn : n = es.length) (hm : n ≤ 140737488351232) (hB : Byte es) : SC Try.prog w0 4 #[.int .i64 m, .slice sa n c] H (fun v H' => v = .bool true ∧ H' = H) := by
 refine SC.enter Try.func4 rfl (Nat.le_of_ble_eq_true rfl) ?_
 refine SW.seq_k fun K0 hK0 => ?_
 refine SW.region _ _ _ _ ?_
 refine RL.p T ?_
 refine RL.nil _ _ _ _ ?_
 refine hK0 _ _ _ ?_
 refine SW.seq_k fun K1 hK1 => ?_
 refine SW.seq_k fun K2 hK2 => ?_
 refine SW.region _ _ _ _ ?_
 refine RL.c fun9 (fun hs => alive) ?_
 rintro _ _ ⟨rfl, e⟩; obtain rfl := e.symm
 refine RL.p T ?_
 refine RL.nil _ _ _ _ ?_
 refine hK2 _ _ _ ?_
 refine SW.cs (fun hc0 => ?_) (fun hc0 => ?_)
 ·skip
  first
   | (exfalso; first | omega | contradiction | (simp at *; done))
   | (
    refine SW.seq_k fun K3 hK3 => ?_
    refine SW.region _ _ _ _ ?_
    refine RL.p T ?_
    refine RL.nil _ _ _ _ ?_
    refine hK3 _ _ _ ?_
    refine SW.ret ?_
    refine retQ.rr (H) ?_
    clear hK3 K3 hK2 K2 hK1 K1 hK0 K0
    first
      | exact ⟨rfl, rfl⟩
      | (refine ⟨boolE ?_, rfl⟩; simp)
    )
 ·skip
  first
   | (exfalso; first | omega | contradiction | (simp at *; done))
   | (
    refine SW.skip ?_
    refine hK1 _ _ _ ?_
    refine SW.seq_k fun K4 hK4 => ?_
    refine SW.seq_k fun K5 hK5 => ?_
    refine SW.region _ _ _ _ ?_
    refine RL.p T ?_
    refine RL.c fun10 (fun hs => good sa n c) ?_
    rintro _ _ ⟨rfl, e⟩; obtain rfl := e.symm
    refine RL.p T ?_
    refine RL.nil _ _ _ _ ?_
    refine hK5 _ _ _ ?_
    refine SW.cs (fun hc1 => ?_) (fun hc1 => ?_)
    ·skip
     first
      | (exfalso; first | omega | contradiction | (simp at *; done))
      | (
       refine SW.seq_k fun K6 hK6 => ?_
       refine SW.region _ _ _ _ ?_
       refine RL.p T ?_
       refine RL.nil _ _ _ _ ?_
       refine hK6 _ _ _ ?_
       refine SW.ret ?_
       refine retQ.rr (H) ?_
       clear hK6 K6 hK5 K5 hK4 K4 hK2 K2 hK1 K1 hK0 K0
       first
         | exact ⟨rfl, rfl⟩
         | (refine ⟨boolE ?_, rfl⟩; simp)
       )
    ·skip
     first
      | (exfalso; first | omega | contradiction | (simp at *; done))
      | (
       refine SW.skip ?_
       refine hK4 _ _ _ ?_
       refine SW.seq_k fun K7 hK7 => ?_
       have hml := add_len m es
       have hab := add_byte (m := m) hB
       refine SW.region _ _ _ _ ?_
       refine RL.bs T rfl rfl rfl (by exact (rfl : _ = some [])) (fun b16_0 => ?_)
       refine RL.p T ?_
       refine RL.apI (ki := .u8) (xs := []) (ys := es) T (fun a0_ c0_ => ?_) (hR := fun hs => (hR _))
       refine RL.p T ?_
       rw [Nat.zero_add, List.nil_append]
       refine RL.nil _ _ _ _ ?_
       refine hK7 _ _ _ ?_
       refine SW.seq_k fun K8 hK8 => ?_
       refine SW.region _ _ _ _ ?_
       refine RL.p T ?_
       refine RL.p T ?_
       refine RL.c fun17 (fun hs => add m a0_ n c0_ es (Rd.rowh hs (by repeat first | exact At.head _ _ | apply At.tail)) hn hm hB) ?_
       rintro _ _ ⟨a1, c1, rfl, e⟩; obtain rfl := e.symm
       refine RL.p T ?_
       refine RL.p T ?_
       refine RL.p T ?_
       refine RL.p T ?_
       refine RL.p T ?_
       refine RL.nil _ _ _ _ ?_
       refine hK8 _ _ _ ?_
       refine SW.seq_k fun K9 hK9 => ?_
       refine SW.region _ _ _ _ ?_
       refine RL.p T ?_
       refine RL.p T ?_
       refine RL.c fun18 (fun hs => radd m sa n c es (hR _) hn hm hB) ?_
       rintro _ _ ⟨a2, c2, rfl, e⟩; obtain rfl := e.symm
       refine RL.p T ?_
       refine RL.p T ?_
       refine RL.p T ?_
       refine RL.p T ?_
       refine RL.p T ?_
       refine RL.nil _ _ _ _ ?_
       refine hK9 _ _ _ ?_
       refine SW.seq_k fun K10 hK10 => ?_
       refine SW.seq_k fun K11 hK11 => ?_
       refine SW.region _ _ _ _ ?_
       refine RL.p T ?_
       refine RL.p T ?_
       refine RL.c fun19 (fun hs => same a1 a2 _ c1 _ c2 (addV m es).1 (addV m es).1 (Rd.rowh hs (by repeat first | exact At.head _ _ | apply At.tail)) (Rd.rowh hs (by repeat first | exact At.head _ _ | apply At.tail)) rfl rfl (by omega) (by omega)) ?_
       rintro _ _ ⟨rfl, e⟩; obtain rfl := e.symm
       refine RL.p T ?_
       refine RL.p T ?_
       refine RL.join (fr1 := ?_) 3 35 false [36, 37, 38] (fun hs0 hj => ?_) ?_ ?_
       rotate_left
       ·have hs0j := hs0
        try simp only [decide_eq_true_eq, Bool.not_eq_true', decide_eq_false_iff_not, Bool.not_eq_false', Int.not_lt, Int.not_le, Int.toNat_natCast, Bool.and_eq_true, Bool.or_eq_true, Bool.and_eq_false_iff, Bool.or_eq_false_iff] at hs0
        refine RL.p T ?_
        refine RL.p T ?_
        refine RL.p T ?_
        exact hj
       ·repeat first | exact Mx.refl | exact Mx.mix | refine Mx.put rfl ?_ | refine Mx.upd rfl ?_ | refine Mx.updl rfl ?_ | refine Mx.fin rfl ?_ | refine Mx.inner rfl ?_ | refine Mx.none ?_
       refine RL.or ?_
       refine RL.p T ?_
       refine RL.join (fr1 := ?_) 7 40 false [41, 42, 43, 44, 45, 46, 47] (fun hs1 hj => ?_) ?_ ?_
       rotate_left
       ·have hs1j := hs1
        try simp only [decide_eq_true_eq, Bool.not_eq_true', decide_eq_false_iff_not, Bool.not_eq_false', Int.not_lt, Int.not_le, Int.toNat_natCast, Bool.and_eq_true, Bool.or_eq_true, Bool.and_eq_false_iff, Bool.or_eq_false_iff] at hs1
        refine RL.p T ?_
        refine RL.p T ?_
        refine RL.c fun20 (fun hs => fits m a0_ n c0_ es (Rd.rowh hs (by repeat first | exact At.head _ _ | apply At.tail)) hn hm hB) ?_
        rintro _ _ ⟨rfl, e⟩; obtain rfl := e.symm
        refine RL.p T ?_
        refine RL.p T ?_
        refine RL.c fun21 (fun hs => rfits m sa n c es (hR _) hn hm hB) ?_
        rintro _ _ ⟨rfl, e⟩; obtain rfl := e.symm
        refine RL.p T ?_
        exact hj
       ·repeat first | exact Mx.refl | exact Mx.mix | refine Mx.put rfl ?_ | refine Mx.upd rfl ?_ | refine Mx.updl rfl ?_ | refine Mx.fin rfl ?_ | refine Mx.inner rfl ?_ | refine Mx.none ?_
       refine RL.or ?_
       refine RL.p T ?_
       refine RL.join (fr1 := ?_) 7 49 false [50, 51, 52, 53, 54, 55, 56] (fun hs2 hj => ?_) ?_ ?_
       rotate_left
       ·have hs2j := hs2
        try simp only [decide_eq_true_eq, Bool.not_eq_true', decide_eq_false_iff_not, Bool.not_eq_false', Int.not_lt, Int.not_le, Int.toNat_natCast, Bool.and_eq_true, Bool.or_eq_true, Bool.and_eq_false_iff, Bool.or_eq_false_iff] at hs2
        refine RL.p T ?_
        refine RL.p T ?_
        refine RL.c fun20 (fun hs => fits m a1 _ c1 (addV m es).1 (Rd.rowh hs (by repeat first | exact At.head _ _ | apply At.tail)) rfl (by omega) hab) ?_
        rintro _ _ ⟨rfl, e⟩; obtain rfl := e.symm
        refine RL.p T ?_
        refine RL.p T ?_
        refine RL.c fun21 (fun hs => rfits m a1 _ c1 (addV m es).1 (Rd.rowh hs (by repeat first | exact At.head _ _ | apply At.tail)) rfl (by omega) hab) ?_
        rintro _ _ ⟨rfl, e⟩; obtain rfl := e.symm
        refine RL.p T ?_
        exact hj
       ·repeat first | exact Mx.refl | exact Mx.mix | refine Mx.put rfl ?_ | refine Mx.upd rfl ?_ | refine Mx.updl rfl ?_ | refine Mx.fin rfl ?_ | refine Mx.inner rfl ?_ | refine Mx.none ?_
       refine RL.or ?_
       refine RL.nil _ _ _ _ ?_
       refine hK11 _ _ _ ?_
       refine SW.cs (fun hc2 => ?_) (fun hc2 => ?_)
       ·skip
        first
         | (exfalso; first | omega | contradiction | (simp at *; done))
         | (
          refine SW.seq_k fun K12 hK12 => ?_
          refine SW.region _ _ _ _ ?_
          refine RL.p T ?_
          refine RL.nil _ _ _ _ ?_
          refine hK12 _ _ _ ?_
          refine SW.ret ?_
          refine retQ.rr (H) ?_
          clear hK12 K12 hK11 K11 hK10 K10 hK9 K9 hK8 K8 hK7 K7 hK5 K5 hK4 K4 hK2 K2 hK1 K1 hK0 K0
          first
            | exact ⟨rfl, rfl⟩
            | (refine ⟨boolE ?_, rfl⟩; simp)
          )
       ·skip
        first
         | (exfalso; first | omega | contradiction | (simp at *; done))
         | (
          refine SW.skip ?_
          refine hK10 _ _ _ ?_
          refine SW.seq_k fun K13 hK13 => ?_
          refine SW.seq_k fun K14 hK14 => ?_
          refine SW.region _ _ _ _ ?_
          refine RL.p T ?_
          refine RL.p T ?_
          refine RL.p T ?_
          refine RL.nil _ _ _ _ ?_
          refine hK14 _ _ _ ?_
          refine SW.block ?_
          refine SW.loopM (fun frB mm fr ds HH => ∃ (k : Nat) (xs : List Int), mm = (addV m es).1.length - k ∧ (k ≤ (addV m es).1.length ∧ (xs.length = (addV m es).1.length)) ∧ FrIs [10, 60, 61, 62, 63, 64, 65, 66] frB fr [(60, .int .i64 k)] ∧ ds = [] ∧ HH = (.row a2 (addV m es).1.length c2 5 1 ((addV m es).1.map (.int .u8)) :: .row a1 (addV m es).1.length c1 5 1 (xs.map (.int .u8)) :: .row a0_ n c0_ 5 1 (es.map (.int .u8)) :: H)) (n := (addV m es).1.length - 0) ?_ ?_
          ·exact ⟨0, (addV m es).1, rfl, ⟨Nat.zero_le _, rfl⟩, (.cons rfl (.nil (by repeat first | exact Mx.refl | exact Mx.mix | refine Mx.put rfl ?_ | refine Mx.upd rfl ?_ | refine Mx.updl rfl ?_ | refine Mx.fin rfl ?_ | refine Mx.inner rfl ?_ | refine Mx.none ?_))), rfl, rfl⟩
          ·rintro mm fr ds HH ⟨k, xs, rfl, ⟨hk, hxl⟩, hFr, rfl, eHH⟩
           obtain rfl := eHH.symm
           obtain ⟨frU, rfl⟩ := hFr.eq
           clear hFr
           refine SW.seq_k fun K15 hK15 => ?_
           refine SW.region _ _ _ _ ?_
           refine RL.p T ?_
           refine RL.nil _ _ _ _ ?_
           refine hK15 _ _ _ ?_
           refine SW.seq_k fun K16 hK16 => ?_
           refine SW.cs (fun hc3 => ?_) (fun hc3 => ?_)
           ·skip
            first
             | (exfalso; first | omega | contradiction | (simp at *; done))
             | (
              refine SW.skip ?_
              refine hK16 _ _ _ ?_
              refine SW.seq_k fun K17 hK17 => ?_
              refine SW.block ?_
              refine SW.seq_k fun K18 hK18 => ?_
              refine SW.region _ _ _ _ ?_
              refine RL.p T ?_
              refine RL.p T ?_
              refine RL.nil _ _ _ _ ?_
              refine hK18 _ _ _ ?_
              refine SW.region _ _ _ _ ?_
              refine RL.p T ?_
              refine RL.p T ?_
              refine RL.ix T ?_
              refine RL.sei T ?_
              refine RL.nil _ _ _ _ ?_
              refine hK17 _ _ _ ?_
              refine SW.region _ _ _ _ ?_
              first | refine RL.ar ?_ | refine RL.p T ?_
              refine RL.p T ?_
              refine RL.nil _ _ _ _ ?_
              exact ⟨(addV m es).1.length - (k + 1), (by omega), k + 1, xs.set k 7, (by rfl), ⟨by omega, (by rw [List.length_set]; exact hxl)⟩, (.cons rfl (.nil (by repeat first | exact Mx.refl | exact Mx.mix | refine Mx.put rfl ?_ | refine Mx.upd rfl ?_ | refine Mx.updl rfl ?_ | refine Mx.fin rfl ?_ | refine Mx.inner rfl ?_ | refine Mx.none ?_))), rfl, rfl⟩
              )
           ·skip
            first
             | (exfalso; first | omega | contradiction | (simp at *; done))
             | (
              refine SW.exit ?_
              refine hK13 _ _ _ ?_
              refine SW.seq_k fun K19 hK19 => ?_
              refine SW.region _ _ _ _ ?_
              refine RL.p T ?_
              refine RL.p T ?_
              refine RL.c fun19 (fun hs => same a0_ sa n c0_ n c es es (Rd.rowh hs (by repeat first | exact At.head _ _ | apply At.tail)) (hR _) hn hn hm hm) ?_
              rintro _ _ ⟨rfl, e⟩; obtain rfl := e.symm
              refine RL.p T ?_
              refine RL.nil _ _ _ _ ?_
              refine hK19 _ _ _ ?_
              refine SW.ret ?_
              refine retQ.rr (H) ?_
              clear hK19 K19 hK16 K16 hK15 K15 hK14 K14 hK13 K13 hK11 K11 hK10 K10 hK9 K9 hK8 K8 hK7 K7 hK5 K5 hK4 K4 hK2 K2 hK1 K1 hK0 K0
              first
                | exact ⟨rfl, rfl⟩
                | (refine ⟨boolE ?_, rfl⟩; simp)
              )
          )
       )
    )
end Go.Proofs.Ytmdmlhhhaidebaa.M
