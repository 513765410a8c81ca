import Derived.Test.YthmbophlgaihoaaProg
import Derived.Test.YthmbophlgaihoaaFC5
import Derived.Test.YthmbophlgaihoaaP5b
set_option linter.unusedVariables false
set_option linter.unusedSimpArgs false
namespace Go.Proofs.Ythmbophlgaihoaa.M
open Go Go.Sep Go.Proofs
set_option maxRecDepth 10000
set_option maxHeartbeats 2000000
theorem cntK_bd (f : Frm) : ∀ j : Nat, 0 ≤ cntK f j ∧ cntK f j ≤ j
  | 0 => by simp [cntK]
  | j + 1 => by
    have := cntK_bd f j
    unfold cntK
    split <;> omega
theorem frameKinds {w0 : World} {H : List Chunk} (f : Frm) (sa : Option Addr) (n c : Nat) (hR : ∀ H, Rd w0 H sa n c 1 (f.data.map (.int .u8))) (hn : n = f.data.length) (hm : n ≤ 140737488351232) (hf : FrOk f) : SC Try.prog w0 5 #[FA f sa n c] H (fun v H' => v = .bool true ∧ H' = H) := by
 refine SC.enter Try.func5 rfl (Nat.le_of_ble_eq_true rfl) ?_
 refine SW.seq_k fun K0 hK0 => ?_
 refine SW.region _ _ _ _ ?_
 refine RL.s ?_
 refine NV.box rfl (by exact (rfl : _ = [_, _, _, _, _, _, _, _, _, _, _])) ?_
 intro b1_0
 refine RL.p T ?_
 refine RL.nil _ _ _ _ ?_
 refine hK0 _ _ _ ?_
 refine SW.seq_k fun K1 hK1 => ?_
 refine SW.seq_k fun K2 hK2 => ?_
 refine SW.region _ _ _ _ ?_
 refine RL.c fun9 (fun hs => alive) ?_
 rintro _ _ ⟨rfl, e⟩; obtain rfl := e.symm
 refine RL.p T ?_
 refine RL.nil _ _ _ _ ?_
 refine hK2 _ _ _ ?_
 refine SW.cs (fun hc0 => ?_) (fun hc0 => ?_)
 ·skip
  first
   | (exfalso; first | omega | contradiction | (simp at *; done))
   | (
    refine SW.seq_k fun K3 hK3 => ?_
    refine SW.region _ _ _ _ ?_
    refine RL.p T ?_
    refine RL.nil _ _ _ _ ?_
    refine hK3 _ _ _ ?_
    refine SW.ret ?_
    refine retQ.rr (H) ?_
    clear hK3 K3 hK2 K2 hK1 K1 hK0 K0
    first
      | exact ⟨rfl, rfl⟩
      | (obtain rfl : j = 3 := by omega
         refine ⟨boolE ?_, rfl⟩
         first
           | exact decide_eq_true (kinds1 (by assumption))
           | exact decide_eq_true (kinds2 (by assumption) (by grind)))
    )
 ·skip
  first
   | (exfalso; first | omega | contradiction | (simp at *; done))
   | (
    refine SW.skip ?_
    refine hK1 _ _ _ ?_
    refine SW.seq_k fun K4 hK4 => ?_
    refine SW.seq_k fun K5 hK5 => ?_
    refine SW.region _ _ _ _ ?_
    refine RL.lvN T rfl rfl rfl rfl rfl (by repeat first | exact At.head _ _ | assumption | exact At.put (by assumption) _ | apply At.tail | apply At.app) (by exact (rfl : _ = [_, _, _, _, _, _, _, _, _, _, _])) ?_
    refine RL.c fun10 (fun hs => fcheck f sa n c (hR _) hn hm hf) ?_
    rintro _ _ ⟨rfl, e⟩; obtain rfl := e.symm
    refine RL.p T ?_
    refine RL.nil _ _ _ _ ?_
    refine hK5 _ _ _ ?_
    refine SW.cs (fun hc1 => ?_) (fun hc1 => ?_)
    ·skip
     first
      | (exfalso; first | omega | contradiction | (simp at *; done))
      | (
       refine SW.seq_k fun K6 hK6 => ?_
       refine SW.region _ _ _ _ ?_
       refine RL.p T ?_
       refine RL.nil _ _ _ _ ?_
       refine hK6 _ _ _ ?_
       refine SW.ret ?_
       refine retQ.rr (H) ?_
       clear hK6 K6 hK5 K5 hK4 K4 hK2 K2 hK1 K1 hK0 K0
       first
         | exact ⟨rfl, rfl⟩
         | (obtain rfl : j = 3 := by omega
            refine ⟨boolE ?_, rfl⟩
            first
              | exact decide_eq_true (kinds1 (by assumption))
              | exact decide_eq_true (kinds2 (by assumption) (by grind)))
       )
    ·skip
     first
      | (exfalso; first | omega | contradiction | (simp at *; done))
      | (
       refine SW.skip ?_
       refine hK4 _ _ _ ?_
       refine SW.seq_k fun K7 hK7 => ?_
       refine SW.region _ _ _ _ ?_
       refine RL.p T ?_
       refine RL.nil _ _ _ _ ?_
       refine hK7 _ _ _ ?_
       refine SW.seq_k fun K8 hK8 => ?_
       refine SW.seq_k fun K9 hK9 => ?_
       refine SW.region _ _ _ _ ?_
       refine RL.p T ?_
       refine RL.nil _ _ _ _ ?_
       refine hK9 _ _ _ ?_
       refine SW.block ?_
       refine SW.loopM (fun frB mm fr ds HH => ∃ (j : Nat), mm = 3 - j ∧ (j ≤ 3) ∧ FrIs [3, 4, 5, 11, 12, 13, 14, 15, 16, 17, 18, 19, 20, 21, 22] frB fr [(3, .int .i64 (cntK f j)), (4, .int .i64 ((j : Int) + 1))] ∧ ds = [] ∧ HH = (.var b1_0 25 (FC f sa n c) :: H)) (n := 3 - 0) ?_ ?_
       ·exact ⟨0, rfl, by omega, (.consI rfl (by first | omega | rfl) (.consI rfl (by first | omega | rfl) (.nil (by repeat first | exact Mx.refl | exact Mx.mix | refine Mx.put rfl ?_ | refine Mx.upd rfl ?_ | refine Mx.updl rfl ?_ | refine Mx.fin rfl ?_ | refine Mx.inner rfl ?_ | refine Mx.none ?_)))), rfl, rfl⟩
       ·rintro mm fr ds HH ⟨j, rfl, hj3, hFr, rfl, eHH⟩
        obtain rfl := eHH.symm
        obtain ⟨frU, rfl⟩ := hFr.eq
        clear hFr
        have hst1 : chkF (ofKind f ((j : Int) + 1)) = 0 → cntK f (j + 1) = cntK f j + 1 := fun h => by rw [cntK, if_pos h]
        have hst2 : ¬ chkF (ofKind f ((j : Int) + 1)) = 0 → cntK f (j + 1) = cntK f j := fun h => by rw [cntK, if_neg h, Int.add_zero]
        have hcb := cntK_bd f j
        refine SW.seq_k fun K10 hK10 => ?_
        refine SW.seq_k fun K11 hK11 => ?_
        refine SW.region _ _ _ _ ?_
        refine RL.p T ?_
        refine RL.p T ?_
        refine RL.nil _ _ _ _ ?_
        refine hK11 _ _ _ ?_
        refine SW.cs (fun hc2 => ?_) (fun hc2 => ?_)
        ·skip
         first
          | (exfalso; first | omega | contradiction | (simp at *; done))
          | (
           refine SW.skip ?_
           refine hK10 _ _ _ ?_
           refine SW.seq_k fun K12 hK12 => ?_
           refine SW.block ?_
           refine SW.seq_k fun K13 hK13 => ?_
           refine SW.region _ _ _ _ ?_
           refine RL.lvN T rfl rfl rfl rfl rfl (by repeat first | exact At.head _ _ | assumption | exact At.put (by assumption) _ | apply At.tail | apply At.app) (by exact (rfl : _ = [_, _, _, _, _, _, _, _, _, _, _])) ?_
           refine RL.s ?_
           refine NV.alloc T rfl rfl rfl (by exact (rfl : _ = [_, _, _, _, _, _, _, _, _, _, _])) ?_
           intro b5_1
           refine RL.s ?_
           first
             | refine NV.store_var1 T rfl rfl rfl rfl (by conv => lhs; whnf) rfl (by repeat first | exact At.head _ _ | assumption | exact At.put (by assumption) _ | apply At.tail | apply At.app) rfl (by exact (rfl : _ = [_, _, _, _, _, _, _, _, _, _, _])) ?_
             | refine NV.store_var T rfl rfl rfl (by exact (rfl : _ = [_, _, _, _, _, _, _, _, _, _, _])) rfl rfl (by repeat first | exact At.head _ _ | assumption | exact At.put (by assumption) _ | apply At.tail | apply At.app) (Nat.le_of_ble_eq_true rfl) (by exact (rfl : _ = [_, _, _, _, _, _, _, _, _, _, _])) ?_
             | refine NV.store_elem T rfl rfl rfl rfl (by conv => lhs; whnf) rfl (by repeat first | exact At.head _ _ | assumption | exact At.put (by assumption) _ | apply At.tail | apply At.app) (by omega) ?_
           refine RL.nil _ _ _ _ ?_
           refine hK13 _ _ _ ?_
           refine SW.seq_k fun K14 hK14 => ?_
           refine SW.region _ _ _ _ ?_
           refine RL.p T ?_
           refine RL.p T ?_
           refine RL.sv1 T ?_
           refine RL.nil _ _ _ _ ?_
           refine hK14 _ _ _ ?_
           refine SW.seq_k fun K15 hK15 => ?_
           refine SW.region _ _ _ _ ?_
           refine RL.lvN T rfl rfl rfl rfl rfl (by repeat first | exact At.head _ _ | assumption | exact At.put (by assumption) _ | apply At.tail | apply At.app) (by exact (rfl : _ = [_, _, _, _, _, _, _, _, _, _, _])) ?_
           refine RL.c fun10 (fun hs => fcheck (ofKind f ((j : Int) + 1)) sa n c (hR _) hn hm ⟨⟨by dsimp only [ofKind]; omega, by dsimp only [ofKind]; omega⟩, hf.id, hf.sdt, hf.vcid, hf.af, hf.data⟩) ?_
           rintro _ _ ⟨rfl, e⟩; obtain rfl := e.symm
           refine RL.p T ?_
           refine RL.nil _ _ _ _ ?_
           refine hK15 _ _ _ ?_
           refine SW.cs (fun hc3 => ?_) (fun hc3 => ?_)
           ·skip
            first
             | (exfalso; first | omega | contradiction | (simp at *; done))
             | (
              refine SW.region _ _ _ _ ?_
              refine RL.p T ?_
              first | refine RL.ar ?_ | refine RL.p T ?_
              refine RL.p T ?_
              refine RL.nil _ _ _ _ ?_
              refine hK12 _ _ _ ?_
              refine SW.region _ _ _ _ ?_
              refine RL.p T ?_
              first | refine RL.ar ?_ | refine RL.p T ?_
              refine RL.p T ?_
              refine RL.drop ?_
              refine RL.nil _ _ _ _ ?_
              exact ⟨3 - (j + 1), (by omega), j + 1, (by rfl), by omega, (.consI rfl (by first | omega | rfl) (.consI rfl (by first | omega | rfl) (.nil (by repeat first | exact Mx.refl | exact Mx.mix | refine Mx.put rfl ?_ | refine Mx.upd rfl ?_ | refine Mx.updl rfl ?_ | refine Mx.fin rfl ?_ | refine Mx.inner rfl ?_ | refine Mx.none ?_)))), rfl, rfl⟩
              )
           ·skip
            first
             | (exfalso; first | omega | contradiction | (simp at *; done))
             | (
              refine SW.skip ?_
              refine hK12 _ _ _ ?_
              refine SW.region _ _ _ _ ?_
              refine RL.p T ?_
              first | refine RL.ar ?_ | refine RL.p T ?_
              refine RL.p T ?_
              refine RL.drop ?_
              refine RL.nil _ _ _ _ ?_
              exact ⟨3 - (j + 1), (by omega), j + 1, (by rfl), by omega, (.consI rfl (by first | omega | rfl) (.consI rfl (by first | omega | rfl) (.nil (by repeat first | exact Mx.refl | exact Mx.mix | refine Mx.put rfl ?_ | refine Mx.upd rfl ?_ | refine Mx.updl rfl ?_ | refine Mx.fin rfl ?_ | refine Mx.inner rfl ?_ | refine Mx.none ?_)))), rfl, rfl⟩
              )
           )
        ·skip
         first
          | (exfalso; first | omega | contradiction | (simp at *; done))
          | (
           refine SW.exit ?_
           refine hK8 _ _ _ ?_
           refine SW.seq_k fun K16 hK16 => ?_
           refine SW.seq_k fun K17 hK17 => ?_
           refine SW.region _ _ _ _ ?_
           refine RL.p T ?_
           refine RL.lv1 T ?_
           refine RL.p T ?_
           refine RL.join (fr1 := ?_) 2 25 false [26, 27] (fun hs0 hj => ?_) ?_ ?_
           rotate_left
           ·have hs0j := hs0
            try simp only [decide_eq_true_eq, Bool.not_eq_true', decide_eq_false_iff_not, Bool.not_eq_false', Int.not_lt, Int.not_le, Int.toNat_natCast, Bool.and_eq_true, Bool.or_eq_true, Bool.and_eq_false_iff, Bool.or_eq_false_iff] at hs0
            refine RL.p T ?_
            refine RL.lv1 T ?_
            exact hj
           ·repeat first | exact Mx.refl | exact Mx.mix | refine Mx.put rfl ?_ | refine Mx.upd rfl ?_ | refine Mx.updl rfl ?_ | refine Mx.fin rfl ?_ | refine Mx.inner rfl ?_ | refine Mx.none ?_
           refine RL.or ?_
           refine RL.p T ?_
           refine RL.join (fr1 := ?_) 2 29 false [30, 31] (fun hs1 hj => ?_) ?_ ?_
           rotate_left
           ·have hs1j := hs1
            try simp only [decide_eq_true_eq, Bool.not_eq_true', decide_eq_false_iff_not, Bool.not_eq_false', Int.not_lt, Int.not_le, Int.toNat_natCast, Bool.and_eq_true, Bool.or_eq_true, Bool.and_eq_false_iff, Bool.or_eq_false_iff] at hs1
            refine RL.p T ?_
            refine RL.lv1 T ?_
            exact hj
           ·repeat first | exact Mx.refl | exact Mx.mix | refine Mx.put rfl ?_ | refine Mx.upd rfl ?_ | refine Mx.updl rfl ?_ | refine Mx.fin rfl ?_ | refine Mx.inner rfl ?_ | refine Mx.none ?_
           refine RL.or ?_
           refine RL.p T ?_
           refine RL.join (fr1 := ?_) 2 33 false [34, 35] (fun hs2 hj => ?_) ?_ ?_
           rotate_left
           ·have hs2j := hs2
            try simp only [decide_eq_true_eq, Bool.not_eq_true', decide_eq_false_iff_not, Bool.not_eq_false', Int.not_lt, Int.not_le, Int.toNat_natCast, Bool.and_eq_true, Bool.or_eq_true, Bool.and_eq_false_iff, Bool.or_eq_false_iff] at hs2
            refine RL.p T ?_
            refine RL.lv1 T ?_
            exact hj
           ·repeat first | exact Mx.refl | exact Mx.mix | refine Mx.put rfl ?_ | refine Mx.upd rfl ?_ | refine Mx.updl rfl ?_ | refine Mx.fin rfl ?_ | refine Mx.inner rfl ?_ | refine Mx.none ?_
           refine RL.or ?_
           refine RL.p T ?_
           refine RL.join (fr1 := ?_) 2 37 false [38, 39] (fun hs3 hj => ?_) ?_ ?_
           rotate_left
           ·have hs3j := hs3
            try simp only [decide_eq_true_eq, Bool.not_eq_true', decide_eq_false_iff_not, Bool.not_eq_false', Int.not_lt, Int.not_le, Int.toNat_natCast, Bool.and_eq_true, Bool.or_eq_true, Bool.and_eq_false_iff, Bool.or_eq_false_iff] at hs3
            refine RL.p T ?_
            refine RL.lv1 T ?_
            exact hj
           ·repeat first | exact Mx.refl | exact Mx.mix | refine Mx.put rfl ?_ | refine Mx.upd rfl ?_ | refine Mx.updl rfl ?_ | refine Mx.fin rfl ?_ | refine Mx.inner rfl ?_ | refine Mx.none ?_
           refine RL.or ?_
           refine RL.p T ?_
           refine RL.join (fr1 := ?_) 3 41 false [42, 43, 44] (fun hs4 hj => ?_) ?_ ?_
           rotate_left
           ·have hs4j := hs4
            try simp only [decide_eq_true_eq, Bool.not_eq_true', decide_eq_false_iff_not, Bool.not_eq_false', Int.not_lt, Int.not_le, Int.toNat_natCast, Bool.and_eq_true, Bool.or_eq_true, Bool.and_eq_false_iff, Bool.or_eq_false_iff] at hs4
            refine RL.p T ?_
            refine RL.lv1 T ?_
            refine RL.p T ?_
            exact hj
           ·repeat first | exact Mx.refl | exact Mx.mix | refine Mx.put rfl ?_ | refine Mx.upd rfl ?_ | refine Mx.updl rfl ?_ | refine Mx.fin rfl ?_ | refine Mx.inner rfl ?_ | refine Mx.none ?_
           refine RL.or ?_
           refine RL.p T ?_
           refine RL.join (fr1 := ?_) 3 46 false [47, 48, 49] (fun hs5 hj => ?_) ?_ ?_
           rotate_left
           ·have hs5j := hs5
            try simp only [decide_eq_true_eq, Bool.not_eq_true', decide_eq_false_iff_not, Bool.not_eq_false', Int.not_lt, Int.not_le, Int.toNat_natCast, Bool.and_eq_true, Bool.or_eq_true, Bool.and_eq_false_iff, Bool.or_eq_false_iff] at hs5
            refine RL.p T ?_
            refine RL.lv1 T ?_
            refine RL.p T ?_
            exact hj
           ·repeat first | exact Mx.refl | exact Mx.mix | refine Mx.put rfl ?_ | refine Mx.upd rfl ?_ | refine Mx.updl rfl ?_ | refine Mx.fin rfl ?_ | refine Mx.inner rfl ?_ | refine Mx.none ?_
           refine RL.or ?_
           refine RL.p T ?_
           refine RL.join (fr1 := ?_) 3 51 false [52, 53, 54] (fun hs6 hj => ?_) ?_ ?_
           rotate_left
           ·have hs6j := hs6
            try simp only [decide_eq_true_eq, Bool.not_eq_true', decide_eq_false_iff_not, Bool.not_eq_false', Int.not_lt, Int.not_le, Int.toNat_natCast, Bool.and_eq_true, Bool.or_eq_true, Bool.and_eq_false_iff, Bool.or_eq_false_iff] at hs6
            refine RL.p T ?_
            refine RL.lv1 T ?_
            refine RL.p T ?_
            exact hj
           ·repeat first | exact Mx.refl | exact Mx.mix | refine Mx.put rfl ?_ | refine Mx.upd rfl ?_ | refine Mx.updl rfl ?_ | refine Mx.fin rfl ?_ | refine Mx.inner rfl ?_ | refine Mx.none ?_
           refine RL.or ?_
           refine RL.p T ?_
           refine RL.join (fr1 := ?_) 4 56 false [57, 58, 59, 60] (fun hs7 hj => ?_) ?_ ?_
           rotate_left
           ·have hs7j := hs7
            try simp only [decide_eq_true_eq, Bool.not_eq_true', decide_eq_false_iff_not, Bool.not_eq_false', Int.not_lt, Int.not_le, Int.toNat_natCast, Bool.and_eq_true, Bool.or_eq_true, Bool.and_eq_false_iff, Bool.or_eq_false_iff] at hs7
            refine RL.p T ?_
            refine RL.lv1 T ?_
            refine RL.p T ?_
            refine RL.p T ?_
            exact hj
           ·repeat first | exact Mx.refl | exact Mx.mix | refine Mx.put rfl ?_ | refine Mx.upd rfl ?_ | refine Mx.updl rfl ?_ | refine Mx.fin rfl ?_ | refine Mx.inner rfl ?_ | refine Mx.none ?_
           refine RL.or ?_
           refine RL.nil _ _ _ _ ?_
           refine hK17 _ _ _ ?_
           refine SW.cs (fun hc4 => ?_) (fun hc4 => ?_)
           ·skip
            first
             | (exfalso; first | omega | contradiction | (simp at *; done))
             | (
              refine SW.seq_k fun K18 hK18 => ?_
              refine SW.region _ _ _ _ ?_
              refine RL.p T ?_
              refine RL.p T ?_
              refine RL.p T ?_
              refine RL.nil _ _ _ _ ?_
              refine hK18 _ _ _ ?_
              refine SW.ret ?_
              refine retQ.rr (H) ?_
              clear hK18 K18 hK17 K17 hK16 K16 hK11 K11 hK10 K10 hK9 K9 hK8 K8 hK7 K7 hK5 K5 hK4 K4 hK2 K2 hK1 K1 hK0 K0
              first
                | exact ⟨rfl, rfl⟩
                | (obtain rfl : j = 3 := by omega
                   refine ⟨boolE ?_, rfl⟩
                   first
                     | exact decide_eq_true (kinds1 (by assumption))
                     | exact decide_eq_true (kinds2 (by assumption) (by grind)))
              )
           ·skip
            first
             | (exfalso; first | omega | contradiction | (simp at *; done))
             | (
              refine SW.skip ?_
              refine hK16 _ _ _ ?_
              refine SW.seq_k fun K19 hK19 => ?_
              refine SW.region _ _ _ _ ?_
              refine RL.p T ?_
              refine RL.p T ?_
              refine RL.p T ?_
              refine RL.nil _ _ _ _ ?_
              refine hK19 _ _ _ ?_
              refine SW.ret ?_
              refine retQ.rr (H) ?_
              clear hK19 K19 hK17 K17 hK16 K16 hK11 K11 hK10 K10 hK9 K9 hK8 K8 hK7 K7 hK5 K5 hK4 K4 hK2 K2 hK1 K1 hK0 K0
              first
                | exact ⟨rfl, rfl⟩
                | (obtain rfl : j = 3 := by omega
                   refine ⟨boolE ?_, rfl⟩
                   first
                     | exact decide_eq_true (kinds1 (by assumption))
                     | exact decide_eq_true (kinds2 (by assumption) (by grind)))
              )
           )
       )
    )
end Go.Proofs.Ythmbophlgaihoaa.M
