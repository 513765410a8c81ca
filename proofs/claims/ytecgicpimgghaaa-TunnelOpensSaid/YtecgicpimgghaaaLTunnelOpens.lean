import Derived.Test.YtecgicpimgghaaaProg
import Derived.Test.YtecgicpimgghaaaFM18
set_option linter.unusedVariables false
set_option linter.unusedSimpArgs false
namespace Go.Proofs.Ytecgicpimgghaaa.M
open Go Go.Sep Go.Proofs
set_option maxRecDepth 10000
set_option maxHeartbeats 2000000
theorem tunnelOpens {w0 : World} {H : List Chunk} (id vcid sdt : Int) (h0 : 0 ≤ id ∧ id ≤ 4294967295) (h1 : 0 ≤ vcid ∧ vcid ≤ 255) (h2 : 0 ≤ sdt ∧ sdt ≤ 255) (sab : Option Addr) (nb cb : Nat) (esb : List Int) (hRb : ∀ H, Rd w0 H sab nb cb 1 (esb.map (.int .u8))) (hnb : nb = esb.length) (hmb : nb ≤ 140737488351232) (hB : Byte esb) (f : Frm) (sa : Option Addr) (n c : Nat) (hR : ∀ H, Rd w0 H sa n c 1 (f.data.map (.int .u8))) (hn : n = f.data.length) (hm : n ≤ 140737488351232) (hf : FrOk f) : SC Try.prog w0 5 #[.agg #[.int .u32 id, .int .u8 vcid, .int .u8 sdt, .slice sab nb cb, .int .i64 f.kind, .int .u32 f.id, .bool f.ext, .bool f.rtr, .bool f.brs, .bool f.esi, .bool f.sec, .int .u8 f.sdt, .int .u8 f.vcid, .int .u32 f.af, .slice sa n c]] H (fun v H' => v = .bool true ∧ H' = H) := by
 refine SC.enter Try.func5 rfl (Nat.le_of_ble_eq_true rfl) ?_
 refine SW.seq_k fun K0 hK0 => ?_
 refine SW.region _ _ _ _ ?_
 refine RL.s ?_
 refine NV.box rfl (by exact (rfl : _ = [_, _, _, _, _, _, _, _, _, _, _, _, _, _, _])) ?_
 intro b1_0
 refine RL.p T ?_
 refine RL.nil _ _ _ _ ?_
 refine hK0 _ _ _ ?_
 refine SW.seq_k fun K1 hK1 => ?_
 refine SW.seq_k fun K2 hK2 => ?_
 refine SW.region _ _ _ _ ?_
 refine RL.c fun8 (fun hs => alive) ?_
 rintro _ _ ⟨rfl, e⟩; obtain rfl := e.symm
 refine RL.p T ?_
 refine RL.nil _ _ _ _ ?_
 refine hK2 _ _ _ ?_
 refine SW.cs (fun hc0 => ?_) (fun hc0 => ?_)
 ·skip
  first
   | (exfalso; clear hK2 K2; clear hK1 K1; clear hK0 K0; first | omega | contradiction | (simp at *; done) | (simp_all; done))
   | (
    refine SW.seq_k fun K3 hK3 => ?_
    refine SW.region _ _ _ _ ?_
    refine RL.p T ?_
    refine RL.nil _ _ _ _ ?_
    refine hK3 _ _ _ ?_
    refine SW.ret ?_
    refine retQ.rr (H) ?_
    clear hK3 K3 hK2 K2 hK1 K1 hK0 K0
    first
      | exact ⟨rfl, rfl⟩
      | (refine ⟨boolE ?_, rfl⟩; simp [*])
    )
 ·skip
  first
   | (exfalso; clear hK2 K2; clear hK1 K1; clear hK0 K0; first | omega | contradiction | (simp at *; done) | (simp_all; done))
   | (
    refine SW.skip ?_
    refine hK1 _ _ _ ?_
    refine SW.seq_k fun K4 hK4 => ?_
    refine SW.draw [(24, 0), (25, 1), (26, 2), (27, 3), (28, 4), (29, 5), (30, 6), (31, 7), (32, 8), (33, 9), (7, 10), (3, 11), (4, 12), (5, 13), (6, 14)] [[], [0], [], [2], [], [4], [], [6], [], [8], [], [1, 0, 10], [3, 2, 11, 1, 0, 10], [5, 4, 12, 3, 2, 11, 1, 0, 10], [7, 6, 13, 5, 4, 12, 3, 2, 11, 1, 0, 10], [10, 9, 8, 14, 7, 6, 13, 5, 4, 12, 3, 2, 11, 1, 0]] mixed (by kernel_rfl) (by kernel_rfl) ?_
    refine RD.p T ?_
    refine RD.q rfl rfl (Gd.none rfl) (QV.v1 T) ?_
    refine RD.p T ?_
    refine RD.q rfl rfl (Gd.none rfl) (QV.v1 T) ?_
    refine RD.p T ?_
    refine RD.q rfl rfl (Gd.none rfl) (QV.v1 T) ?_
    refine RD.p T ?_
    refine RD.q rfl rfl (Gd.none rfl) (QV.v1 T) ?_
    refine RD.p T ?_
    refine RD.q rfl rfl (Gd.none rfl) (QV.vN T rfl rfl rfl rfl rfl (by exact (rfl : _ = [_, _, _, _, _, _, _, _, _, _, _]))) ?_
    refine RD.nv rfl rfl rfl (Gd.none rfl) ?_
    refine NV.alloc T rfl rfl rfl (by exact (rfl : _ = [_, _, _, _, _, _, _, _, _, _, _])) ?_
    intro b7_1
    refine ⟨(Stab.cons rfl (Gd.none rfl) (QV.vN T rfl rfl rfl rfl rfl rfl) (Stab.cons rfl (Gd.none rfl) (pev_sound T rfl) (Stab.cons rfl (Gd.none rfl) (QV.v1 T) (Stab.cons rfl (Gd.none rfl) (pev_sound T rfl) (Stab.cons rfl (Gd.none rfl) (QV.v1 T) (Stab.cons rfl (Gd.none rfl) (pev_sound T rfl) (Stab.cons rfl (Gd.none rfl) (QV.v1 T) (Stab.cons rfl (Gd.none rfl) (pev_sound T rfl) (Stab.cons rfl (Gd.none rfl) (QV.v1 T) (Stab.cons rfl (Gd.none rfl) (pev_sound T rfl) Stab.nil)))))))))), ?_⟩
    refine RD.p T ?_
    refine RD.p T ?_
    refine RD.p T ?_
    refine RD.p T ?_
    refine RD.nv rfl rfl rfl (Gd.none rfl) ?_
    refine NV.sN T rfl rfl rfl (by exact (rfl : _ = [_, _, _, _, _, _, _, _, _, _, _])) (by exact (rfl : _ = [_, _, _, _, _, _, _, _, _, _, _])) ?_
    refine ⟨Stab.nil, ?_⟩
    refine RD.k rfl rfl ?_
    refine hK4 _ _ _ ?_
    refine SW.seq_k fun K5 hK5 => ?_
    refine SW.seq_k fun K6 hK6 => ?_
    refine SW.region _ _ _ _ ?_
    refine RL.p T ?_
    refine RL.p T ?_
    refine RL.p T ?_
    refine RL.p T ?_
    refine RL.join (fr1 := ?_) 4 37 false [38, 39, 40, 41] (fun hs0 hj => ?_) ?_ ?_
    rotate_left
    ·have hs0j := hs0
     try simp only [decide_eq_true_eq, Bool.not_eq_true', decide_eq_false_iff_not, Bool.not_eq_false', Int.not_lt, Int.not_le, Int.toNat_natCast, Bool.and_eq_true, Bool.or_eq_true, Bool.and_eq_false_iff, Bool.or_eq_false_iff] at hs0
     refine RL.p T ?_
     refine RL.lv1 T ?_
     refine RL.p T ?_
     refine RL.p T ?_
     exact hj
    ·repeat first | exact Mx.refl | exact Mx.mix | refine Mx.put rfl ?_ | refine Mx.upd rfl ?_ | refine Mx.updl rfl ?_ | refine Mx.fin rfl ?_ | refine Mx.inner rfl ?_ | refine Mx.none ?_
    refine RL.or ?_
    refine RL.nil _ _ _ _ ?_
    refine hK6 _ _ _ ?_
    refine SW.cs (fun hc1 => ?_) (fun hc1 => ?_)
    ·skip
     first
      | (exfalso; clear hK6 K6; clear hK5 K5; clear hK4 K4; clear hK2 K2; clear hK1 K1; clear hK0 K0; first | omega | contradiction | (simp at *; done) | (simp_all; done))
      | (
       refine SW.seq_k fun K7 hK7 => ?_
       refine SW.region _ _ _ _ ?_
       refine RL.p T ?_
       refine RL.nil _ _ _ _ ?_
       refine hK7 _ _ _ ?_
       refine SW.ret ?_
       refine retQ.rr (H) ?_
       clear hK7 K7 hK6 K6 hK5 K5 hK4 K4 hK2 K2 hK1 K1 hK0 K0
       first
         | exact ⟨rfl, rfl⟩
         | (refine ⟨boolE ?_, rfl⟩; simp [*])
       )
    ·skip
     first
      | (exfalso; clear hK6 K6; clear hK5 K5; clear hK4 K4; clear hK2 K2; clear hK1 K1; clear hK0 K0; first | omega | contradiction | (simp at *; done) | (simp_all; done))
      | (
       refine SW.skip ?_
       refine hK5 _ _ _ ?_
       refine SW.seq_k fun K8 hK8 => ?_
       refine SW.region _ _ _ _ ?_
       refine RL.p T ?_
       refine RL.p T ?_
       refine RL.p T ?_
       refine RL.p T ?_
       refine RL.c fun20 (fun hs => wrap id vcid sdt h0 h1 h2 sab nb cb esb (hRb _) hnb hmb hB) ?_
       rintro _ _ ⟨a3, n3, c3, G3, rfl, hn3, hr3, e⟩; obtain rfl := e.symm
       refine RL.p T ?_
       refine RL.p T ?_
       refine RL.p T ?_
       refine RL.s ?_
       refine NV.alloc T rfl rfl rfl (by exact (rfl : _ = [_, _, _, _, _, _, _, _, _, _, _])) ?_
       intro b8_2
       refine RL.s ?_
       refine NV.sN T rfl rfl rfl (by exact (rfl : _ = [_, _, _, _, _, _, _, _, _, _, _])) (by exact (rfl : _ = [_, _, _, _, _, _, _, _, _, _, _])) ?_
       refine RL.p T ?_
       refine RL.nil _ _ _ _ ?_
       refine hK8 _ _ _ ?_
       refine SW.seq_k fun K9 hK9 => ?_
       refine SW.region _ _ _ _ ?_
       refine RL.p T ?_
       refine RL.p T ?_
       refine RL.p T ?_
       refine RL.p T ?_
       refine RL.c fun21 (fun hs => rwrap id vcid sdt h0 h1 h2 sab nb cb esb (hRb _) hnb hmb hB) ?_
       rintro _ _ ⟨a4, n4, c4, G4, rfl, hn4, hr4, e⟩; obtain rfl := e.symm
       refine RL.p T ?_
       refine RL.p T ?_
       refine RL.p T ?_
       refine RL.s ?_
       refine NV.alloc T rfl rfl rfl (by exact (rfl : _ = [_, _, _, _, _, _, _, _, _, _, _])) ?_
       intro b10_3
       refine RL.s ?_
       refine NV.sN T rfl rfl rfl (by exact (rfl : _ = [_, _, _, _, _, _, _, _, _, _, _])) (by exact (rfl : _ = [_, _, _, _, _, _, _, _, _, _, _])) ?_
       refine RL.p T ?_
       refine RL.nil _ _ _ _ ?_
       refine hK9 _ _ _ ?_
       refine SW.seq_k fun K10 hK10 => ?_
       refine SW.seq_k fun K11 hK11 => ?_
       have hwl := wrapR_len id vcid sdt esb
       have hsw := sameF_refl (wrapR id vcid sdt esb)
       have hwok := wrapR_ok (es := esb) h0 h1 h2 hB
       refine SW.region _ _ _ _ ?_
       refine RL.q (QV.vN T rfl rfl rfl rfl rfl (by exact (rfl : _ = [_, _, _, _, _, _, _, _, _, _, _]))) ?_
       refine RL.q (QV.vN T rfl rfl rfl rfl rfl (by exact (rfl : _ = [_, _, _, _, _, _, _, _, _, _, _]))) ?_
       refine RL.c fun14 (fun hs => rfsame (wrapR id vcid sdt esb) a3 n3 c3 (by repeat first | exact hr3.appr | apply Rd.cons | apply Rd.app) hn3 (by omega) hwok (wrapR id vcid sdt esb) a4 n4 c4 (by repeat first | exact hr4.appr | apply Rd.cons | apply Rd.app) hn4 (by omega) hwok) ?_
       rintro _ _ ⟨rfl, e⟩; obtain rfl := e.symm
       refine RL.p T ?_
       refine RL.p T ?_
       refine RL.join (fr1 := ?_) 3 63 false [64, 65, 66] (fun hs1 hj => ?_) ?_ ?_
       rotate_left
       ·have hs1j := hs1
        try simp only [decide_eq_true_eq, Bool.not_eq_true', decide_eq_false_iff_not, Bool.not_eq_false', Int.not_lt, Int.not_le, Int.toNat_natCast, Bool.and_eq_true, Bool.or_eq_true, Bool.and_eq_false_iff, Bool.or_eq_false_iff] at hs1
        refine RL.p T ?_
        refine RL.p T ?_
        refine RL.p T ?_
        exact hj
       ·repeat first | exact Mx.refl | exact Mx.mix | refine Mx.put rfl ?_ | refine Mx.upd rfl ?_ | refine Mx.updl rfl ?_ | refine Mx.fin rfl ?_ | refine Mx.inner rfl ?_ | refine Mx.none ?_
       refine RL.or ?_
       refine RL.nil _ _ _ _ ?_
       refine hK11 _ _ _ ?_
       refine SW.cs (fun hc2 => ?_) (fun hc2 => ?_)
       ·skip
        first
         | (exfalso; clear hK11 K11; clear hK10 K10; clear hK9 K9; clear hK8 K8; clear hK6 K6; clear hK5 K5; clear hK4 K4; clear hK2 K2; clear hK1 K1; clear hK0 K0; first | omega | contradiction | (simp at *; done) | (simp_all; done))
         | (
          refine SW.seq_k fun K12 hK12 => ?_
          refine SW.region _ _ _ _ ?_
          refine RL.p T ?_
          refine RL.nil _ _ _ _ ?_
          refine hK12 _ _ _ ?_
          refine SW.ret ?_
          refine retQ.rr (H) ?_
          clear hK12 K12 hK11 K11 hK10 K10 hK9 K9 hK8 K8 hK6 K6 hK5 K5 hK4 K4 hK2 K2 hK1 K1 hK0 K0
          first
            | exact ⟨rfl, rfl⟩
            | (refine ⟨boolE ?_, rfl⟩; simp [*])
          )
       ·skip
        first
         | (exfalso; clear hK11 K11; clear hK10 K10; clear hK9 K9; clear hK8 K8; clear hK6 K6; clear hK5 K5; clear hK4 K4; clear hK2 K2; clear hK1 K1; clear hK0 K0; first | omega | contradiction | (simp at *; done) | (simp_all; done))
         | (
          refine SW.skip ?_
          refine hK10 _ _ _ ?_
          refine SW.seq_k fun K13 hK13 => ?_
          refine SW.seq_k fun K14 hK14 => ?_
          refine SW.region _ _ _ _ ?_
          refine RL.q (QV.vN T rfl rfl rfl rfl rfl (by exact (rfl : _ = [_, _, _, _, _, _, _, _, _, _, _]))) ?_
          refine RL.q (QV.vN T rfl rfl rfl rfl rfl (by exact (rfl : _ = [_, _, _, _, _, _, _, _, _, _, _]))) ?_
          refine RL.s ?_
          first | refine NV.buildc T rfl (rfl : _ = some [_, _, _, _, _, _, _, _, _, _, _, _, _, _, _, _, _, _, _, _, _, _]) ?_ | refine NV.buildz T rfl (rfl : _ = some [_, _, _, _, _, _, _, _, _, _, _, _, _, _, _, _, _, _, _, _, _, _]) ?_ | refine NV.pure T (rfl : _ = some (Value.agg #[_, _, _, _, _, _, _, _, _, _, _, _, _, _, _, _, _, _, _, _, _, _])) ?_
          refine RL.p T ?_
          refine RL.nil _ _ _ _ ?_
          refine hK14 _ _ _ ?_
          refine SW.block ?_
          refine SW.loopM (fun frB mm fr ds HH => ∃ (k : Nat), mm = 2 - k ∧ (k ≤ 2) ∧ FrIs [2, 13, 14, 15, 16, 17, 18, 19, 20, 21, 71, 72, 73, 74, 75, 76, 77, 78, 79, 80, 81, 82, 83, 84, 85, 86, 87, 88, 89, 90, 91, 92, 93, 94, 95, 96, 97, 98, 99, 100, 101, 102, 103, 104, 105, 106, 107, 108, 109] frB fr [(71, .int .i64 k)] ∧ ds = [] ∧ HH = (.var b10_3 25 (FC (wrapR id vcid sdt esb) a4 n4 c4) :: (G4 ++ (.var b8_2 25 (FC (wrapR id vcid sdt esb) a3 n3 c3) :: (G3 ++ (.var b7_1 25 (FC f sa n c) :: .var b1_0 49 [.int .u32 id, .int .u8 vcid, .int .u8 sdt, .slice sab nb cb, .int .i64 f.kind, .int .u32 f.id, .bool f.ext, .bool f.rtr, .bool f.brs, .bool f.esi, .bool f.sec, .int .u8 f.sdt, .int .u8 f.vcid, .int .u32 f.af, .slice sa n c] :: H)))))) (n := 2 - 0) ?_ ?_
          ·exact ⟨0, rfl, by omega, (.consI rfl (by first | omega | rfl) (.nil (by repeat first | exact Mx.refl | exact Mx.mix | refine Mx.put rfl ?_ | refine Mx.upd rfl ?_ | refine Mx.updl rfl ?_ | refine Mx.fin rfl ?_ | refine Mx.inner rfl ?_ | refine Mx.none ?_))), rfl, rfl⟩
          ·rintro mm fr ds HH ⟨k, rfl, hk2, hFr, rfl, eHH⟩
           obtain rfl := eHH.symm
           obtain ⟨frU, rfl⟩ := hFr.eq
           clear hFr
           rcases (by omega : k = 0 ∨ k = 1 ∨ k = 2) with rfl | rfl | rfl
           ·skip
            refine SW.seq_k fun K15 hK15 => ?_
            refine SW.region _ _ _ _ ?_
            refine RL.p T ?_
            refine RL.nil _ _ _ _ ?_
            refine hK15 _ _ _ ?_
            refine SW.seq_k fun K16 hK16 => ?_
            refine SW.cs (fun hc3 => ?_) (fun hc3 => ?_)
            ·skip
             first
              | (exfalso; clear hK16 K16; clear hK15 K15; clear hK14 K14; clear hK13 K13; clear hK11 K11; clear hK10 K10; clear hK9 K9; clear hK8 K8; clear hK6 K6; clear hK5 K5; clear hK4 K4; clear hK2 K2; clear hK1 K1; clear hK0 K0; first | omega | contradiction | (simp at *; done) | (simp_all; done))
              | (
               refine SW.skip ?_
               refine hK16 _ _ _ ?_
               refine SW.seq_k fun K17 hK17 => ?_
               refine SW.block ?_
               refine SW.seq_k fun K18 hK18 => ?_
               have hol := open_len f
               have hse := sameE_refl (openE f)
               have hso := sameF_refl (openO f)
               have hdy : Byte (f).data := hf.data
               refine SW.region _ _ _ _ ?_
               refine RL.p T ?_
               refine RL.s ?_
               refine NV.alloc T rfl rfl rfl (by exact (rfl : _ = [_, _, _, _, _, _, _, _, _, _, _])) ?_
               intro b13_4
               refine RL.s ?_
               refine NV.sN T rfl rfl rfl (by exact (rfl : _ = [_, _, _, _, _, _, _, _, _, _, _])) (by exact (rfl : _ = [_, _, _, _, _, _, _, _, _, _, _])) ?_
               refine RL.nil _ _ _ _ ?_
               refine hK18 _ _ _ ?_
               refine SW.seq_k fun K19 hK19 => ?_
               refine SW.region _ _ _ _ ?_
               refine RL.q (QV.vN T rfl rfl rfl rfl rfl (by exact (rfl : _ = [_, _, _, _, _, _, _, _, _, _, _]))) ?_
               refine RL.c fun22 (fun hs => openC f sa n c (hR _) hn hm hf) ?_
               rintro _ _ ⟨p5, l5, q5, p6, l6, q6, p7, l7, q7, G5, rfl, hl5, hl6, hl7, hq5, hq6, hq7, e⟩; obtain rfl := e.symm
               refine RL.p T ?_
               refine RL.p T ?_
               refine RL.p T ?_
               refine RL.p T ?_
               refine RL.p T ?_
               refine RL.s ?_
               refine NV.alloc T rfl rfl rfl (by exact (rfl : _ = [_, _, _, _, _, _, _, _, _, _, _, _, _, _, _, _])) ?_
               intro b14_5
               refine RL.s ?_
               refine NV.alloc T rfl rfl rfl (by exact (rfl : _ = [_, _, _, _, _, _, _, _, _, _, _])) ?_
               intro b15_6
               refine RL.s ?_
               refine NV.sN T rfl rfl rfl (by exact (rfl : _ = [_, _, _, _, _, _, _, _, _, _, _, _, _, _, _, _])) (by exact (rfl : _ = [_, _, _, _, _, _, _, _, _, _, _, _, _, _, _, _])) ?_
               refine RL.s ?_
               refine NV.sN T rfl rfl rfl (by exact (rfl : _ = [_, _, _, _, _, _, _, _, _, _, _])) (by exact (rfl : _ = [_, _, _, _, _, _, _, _, _, _, _])) ?_
               refine RL.p T ?_
               refine RL.p T ?_
               refine RL.nil _ _ _ _ ?_
               refine hK19 _ _ _ ?_
               refine SW.seq_k fun K20 hK20 => ?_
               refine SW.region _ _ _ _ ?_
               refine RL.q (QV.vN T rfl rfl rfl rfl rfl (by exact (rfl : _ = [_, _, _, _, _, _, _, _, _, _, _]))) ?_
               refine RL.c fun23 (fun hs => ropenC f sa n c (hR _) hn hm hf) ?_
               rintro _ _ ⟨p8, l8, q8, p9, l9, q9, p10, l10, q10, G8, rfl, hl8, hl9, hl10, hq8, hq9, hq10, e⟩; obtain rfl := e.symm
               refine RL.p T ?_
               refine RL.p T ?_
               refine RL.p T ?_
               refine RL.p T ?_
               refine RL.p T ?_
               refine RL.s ?_
               refine NV.alloc T rfl rfl rfl (by exact (rfl : _ = [_, _, _, _, _, _, _, _, _, _, _, _, _, _, _, _])) ?_
               intro b18_7
               refine RL.s ?_
               refine NV.alloc T rfl rfl rfl (by exact (rfl : _ = [_, _, _, _, _, _, _, _, _, _, _])) ?_
               intro b19_8
               refine RL.s ?_
               refine NV.sN T rfl rfl rfl (by exact (rfl : _ = [_, _, _, _, _, _, _, _, _, _, _, _, _, _, _, _])) (by exact (rfl : _ = [_, _, _, _, _, _, _, _, _, _, _, _, _, _, _, _])) ?_
               refine RL.s ?_
               refine NV.sN T rfl rfl rfl (by exact (rfl : _ = [_, _, _, _, _, _, _, _, _, _, _])) (by exact (rfl : _ = [_, _, _, _, _, _, _, _, _, _, _])) ?_
               refine RL.p T ?_
               refine RL.p T ?_
               refine RL.nil _ _ _ _ ?_
               refine hK20 _ _ _ ?_
               refine SW.seq_k fun K21 hK21 => ?_
               refine SW.region _ _ _ _ ?_
               refine RL.q (QV.vN T rfl rfl rfl rfl rfl (by exact (rfl : _ = [_, _, _, _, _, _, _, _, _, _, _, _, _, _, _, _]))) ?_
               refine RL.q (QV.vN T rfl rfl rfl rfl rfl (by exact (rfl : _ = [_, _, _, _, _, _, _, _, _, _, _, _, _, _, _, _]))) ?_
               refine RL.c fun19 (fun hs => esame (openE f) p5 l5 q5 (by repeat first | exact hq5 | apply Rd.cons | apply Rd.app) hl5 (by omega) (openE f) p8 l8 q8 (by repeat first | exact hq8 | apply Rd.cons | apply Rd.app) hl8 (by omega)) ?_
               rintro _ _ ⟨rfl, e⟩; obtain rfl := e.symm
               refine RL.p T ?_
               refine RL.p T ?_
               refine RL.join (fr1 := ?_) 4 92 false [93, 94, 95, 96] (fun hs2 hj => ?_) ?_ ?_
               rotate_left
               ·have hs2j := hs2
                try simp only [decide_eq_true_eq, Bool.not_eq_true', decide_eq_false_iff_not, Bool.not_eq_false', Int.not_lt, Int.not_le, Int.toNat_natCast, Bool.and_eq_true, Bool.or_eq_true, Bool.and_eq_false_iff, Bool.or_eq_false_iff] at hs2
                refine RL.q (QV.vN T rfl rfl rfl rfl rfl (by exact (rfl : _ = [_, _, _, _, _, _, _, _, _, _, _]))) ?_
                refine RL.q (QV.vN T rfl rfl rfl rfl rfl (by exact (rfl : _ = [_, _, _, _, _, _, _, _, _, _, _]))) ?_
                refine RL.c fun14 (fun hs => rfsame (openO f) p6 l6 q6 (by repeat first | exact hq6 | apply Rd.cons | apply Rd.app) hl6 (by omega) (openO_ok hdy) (openO f) p9 l9 q9 (by repeat first | exact hq9 | apply Rd.cons | apply Rd.app) hl9 (by omega) (openO_ok hdy)) ?_
                rintro _ _ ⟨rfl, e⟩; obtain rfl := e.symm
                refine RL.p T ?_
                exact hj
               ·repeat first | exact Mx.refl | exact Mx.mix | refine Mx.put rfl ?_ | refine Mx.upd rfl ?_ | refine Mx.updl rfl ?_ | refine Mx.fin rfl ?_ | refine Mx.inner rfl ?_ | refine Mx.none ?_
               refine RL.or ?_
               refine RL.p T ?_
               refine RL.join (fr1 := ?_) 4 98 false [99, 100, 101, 102] (fun hs3 hj => ?_) ?_ ?_
               rotate_left
               ·have hs3j := hs3
                try simp only [decide_eq_true_eq, Bool.not_eq_true', decide_eq_false_iff_not, Bool.not_eq_false', Int.not_lt, Int.not_le, Int.toNat_natCast, Bool.and_eq_true, Bool.or_eq_true, Bool.and_eq_false_iff, Bool.or_eq_false_iff] at hs3
                refine RL.p T ?_
                refine RL.p T ?_
                refine RL.c fun13 (fun hs => same p7 p10 l7 q7 l10 q10 (openS f) (openS f) (by repeat first | exact hq7 | apply Rd.cons | apply Rd.app) (by repeat first | exact hq10 | apply Rd.cons | apply Rd.app) hl7 hl10 (by omega) (by omega)) ?_
                rintro _ _ ⟨rfl, e⟩; obtain rfl := e.symm
                refine RL.p T ?_
                exact hj
               ·repeat first | exact Mx.refl | exact Mx.mix | refine Mx.put rfl ?_ | refine Mx.upd rfl ?_ | refine Mx.updl rfl ?_ | refine Mx.fin rfl ?_ | refine Mx.inner rfl ?_ | refine Mx.none ?_
               refine RL.or ?_
               refine RL.p T ?_
               refine RL.join (fr1 := ?_) 3 104 false [105, 106, 107] (fun hs4 hj => ?_) ?_ ?_
               rotate_left
               ·have hs4j := hs4
                try simp only [decide_eq_true_eq, Bool.not_eq_true', decide_eq_false_iff_not, Bool.not_eq_false', Int.not_lt, Int.not_le, Int.toNat_natCast, Bool.and_eq_true, Bool.or_eq_true, Bool.and_eq_false_iff, Bool.or_eq_false_iff] at hs4
                refine RL.p T ?_
                refine RL.p T ?_
                refine RL.p T ?_
                exact hj
               ·repeat first | exact Mx.refl | exact Mx.mix | refine Mx.put rfl ?_ | refine Mx.upd rfl ?_ | refine Mx.updl rfl ?_ | refine Mx.fin rfl ?_ | refine Mx.inner rfl ?_ | refine Mx.none ?_
               refine RL.or ?_
               refine RL.nil _ _ _ _ ?_
               refine hK21 _ _ _ ?_
               refine SW.cs (fun hc4 => ?_) (fun hc4 => ?_)
               ·skip
                first
                 | (exfalso; clear hK21 K21; clear hK20 K20; clear hK19 K19; clear hK18 K18; clear hK17 K17; clear hK16 K16; clear hK15 K15; clear hK14 K14; clear hK13 K13; clear hK11 K11; clear hK10 K10; clear hK9 K9; clear hK8 K8; clear hK6 K6; clear hK5 K5; clear hK4 K4; clear hK2 K2; clear hK1 K1; clear hK0 K0; first | omega | contradiction | (simp at *; done) | (simp_all; done))
                 | (
                  refine SW.seq_k fun K22 hK22 => ?_
                  refine SW.region _ _ _ _ ?_
                  refine RL.p T ?_
                  refine RL.nil _ _ _ _ ?_
                  refine hK22 _ _ _ ?_
                  refine SW.ret ?_
                  refine retQ.rr (H) ?_
                  clear hK22 K22 hK21 K21 hK20 K20 hK19 K19 hK18 K18 hK17 K17 hK16 K16 hK15 K15 hK14 K14 hK13 K13 hK11 K11 hK10 K10 hK9 K9 hK8 K8 hK6 K6 hK5 K5 hK4 K4 hK2 K2 hK1 K1 hK0 K0
                  first
                    | exact ⟨rfl, rfl⟩
                    | (refine ⟨boolE ?_, rfl⟩; simp [*])
                  )
               ·skip
                first
                 | (exfalso; clear hK21 K21; clear hK20 K20; clear hK19 K19; clear hK18 K18; clear hK17 K17; clear hK16 K16; clear hK15 K15; clear hK14 K14; clear hK13 K13; clear hK11 K11; clear hK10 K10; clear hK9 K9; clear hK8 K8; clear hK6 K6; clear hK5 K5; clear hK4 K4; clear hK2 K2; clear hK1 K1; clear hK0 K0; first | omega | contradiction | (simp at *; done) | (simp_all; done))
                 | (
                  refine SW.skip ?_
                  refine hK17 _ _ _ ?_
                  refine SW.drop (SW.drop (SW.app (SW.drop (SW.drop (SW.app (SW.drop ?_))))))
                  refine SW.region _ _ _ _ ?_
                  first | refine RL.ar ?_ | refine RL.p T ?_
                  refine RL.p T ?_
                  refine RL.nil _ _ _ _ ?_
                  exact ⟨2 - 1, (by omega), 1, (by rfl), by omega, (.consI rfl (by first | omega | rfl) (.nil (by repeat first | exact Mx.refl | exact Mx.mix | refine Mx.put rfl ?_ | refine Mx.upd rfl ?_ | refine Mx.updl rfl ?_ | refine Mx.fin rfl ?_ | refine Mx.inner rfl ?_ | refine Mx.none ?_))), rfl, rfl⟩
                  )
               )
            ·skip
             first
              | (exfalso; clear hK16 K16; clear hK15 K15; clear hK14 K14; clear hK13 K13; clear hK11 K11; clear hK10 K10; clear hK9 K9; clear hK8 K8; clear hK6 K6; clear hK5 K5; clear hK4 K4; clear hK2 K2; clear hK1 K1; clear hK0 K0; first | omega | contradiction | (simp at *; done) | (simp_all; done))
              | (
               refine SW.exit ?_
               refine hK13 _ _ _ ?_
               refine SW.seq_k fun K23 hK23 => ?_
               refine SW.region _ _ _ _ ?_
               refine RL.p T ?_
               refine RL.nil _ _ _ _ ?_
               refine hK23 _ _ _ ?_
               refine SW.ret ?_
               refine retQ.rr (H) ?_
               clear hK23 K23 hK16 K16 hK15 K15 hK14 K14 hK13 K13 hK11 K11 hK10 K10 hK9 K9 hK8 K8 hK6 K6 hK5 K5 hK4 K4 hK2 K2 hK1 K1 hK0 K0
               first
                 | exact ⟨rfl, rfl⟩
                 | (refine ⟨boolE ?_, rfl⟩; simp [*])
               )
           ·skip
            refine SW.seq_k fun K24 hK24 => ?_
            refine SW.region _ _ _ _ ?_
            refine RL.p T ?_
            refine RL.nil _ _ _ _ ?_
            refine hK24 _ _ _ ?_
            refine SW.seq_k fun K25 hK25 => ?_
            refine SW.cs (fun hc5 => ?_) (fun hc5 => ?_)
            ·skip
             first
              | (exfalso; clear hK25 K25; clear hK24 K24; clear hK14 K14; clear hK13 K13; clear hK11 K11; clear hK10 K10; clear hK9 K9; clear hK8 K8; clear hK6 K6; clear hK5 K5; clear hK4 K4; clear hK2 K2; clear hK1 K1; clear hK0 K0; first | omega | contradiction | (simp at *; done) | (simp_all; done))
              | (
               refine SW.skip ?_
               refine hK25 _ _ _ ?_
               refine SW.seq_k fun K26 hK26 => ?_
               refine SW.block ?_
               refine SW.seq_k fun K27 hK27 => ?_
               have hol := open_len (wrapR id vcid sdt esb)
               have hse := sameE_refl (openE (wrapR id vcid sdt esb))
               have hso := sameF_refl (openO (wrapR id vcid sdt esb))
               have hdy : Byte ((wrapR id vcid sdt esb)).data := (wrapR_ok h0 h1 h2 hB).data
               refine SW.region _ _ _ _ ?_
               refine RL.p T ?_
               refine RL.s ?_
               refine NV.alloc T rfl rfl rfl (by exact (rfl : _ = [_, _, _, _, _, _, _, _, _, _, _])) ?_
               intro b13_9
               refine RL.s ?_
               refine NV.sN T rfl rfl rfl (by exact (rfl : _ = [_, _, _, _, _, _, _, _, _, _, _])) (by exact (rfl : _ = [_, _, _, _, _, _, _, _, _, _, _])) ?_
               refine RL.nil _ _ _ _ ?_
               refine hK27 _ _ _ ?_
               refine SW.seq_k fun K28 hK28 => ?_
               refine SW.region _ _ _ _ ?_
               refine RL.q (QV.vN T rfl rfl rfl rfl rfl (by exact (rfl : _ = [_, _, _, _, _, _, _, _, _, _, _]))) ?_
               refine RL.c fun22 (fun hs => openC (wrapR id vcid sdt esb) a3 n3 c3 (by repeat first | exact hr3.appr | apply Rd.cons | apply Rd.app) hn3 (by omega) (wrapR_ok h0 h1 h2 hB)) ?_
               rintro _ _ ⟨p5, l5, q5, p6, l6, q6, p7, l7, q7, G5, rfl, hl5, hl6, hl7, hq5, hq6, hq7, e⟩; obtain rfl := e.symm
               refine RL.p T ?_
               refine RL.p T ?_
               refine RL.p T ?_
               refine RL.p T ?_
               refine RL.p T ?_
               refine RL.s ?_
               refine NV.alloc T rfl rfl rfl (by exact (rfl : _ = [_, _, _, _, _, _, _, _, _, _, _, _, _, _, _, _])) ?_
               intro b14_10
               refine RL.s ?_
               refine NV.alloc T rfl rfl rfl (by exact (rfl : _ = [_, _, _, _, _, _, _, _, _, _, _])) ?_
               intro b15_11
               refine RL.s ?_
               refine NV.sN T rfl rfl rfl (by exact (rfl : _ = [_, _, _, _, _, _, _, _, _, _, _, _, _, _, _, _])) (by exact (rfl : _ = [_, _, _, _, _, _, _, _, _, _, _, _, _, _, _, _])) ?_
               refine RL.s ?_
               refine NV.sN T rfl rfl rfl (by exact (rfl : _ = [_, _, _, _, _, _, _, _, _, _, _])) (by exact (rfl : _ = [_, _, _, _, _, _, _, _, _, _, _])) ?_
               refine RL.p T ?_
               refine RL.p T ?_
               refine RL.nil _ _ _ _ ?_
               refine hK28 _ _ _ ?_
               refine SW.seq_k fun K29 hK29 => ?_
               refine SW.region _ _ _ _ ?_
               refine RL.q (QV.vN T rfl rfl rfl rfl rfl (by exact (rfl : _ = [_, _, _, _, _, _, _, _, _, _, _]))) ?_
               refine RL.c fun23 (fun hs => ropenC (wrapR id vcid sdt esb) a3 n3 c3 (by repeat first | exact hr3.appr | apply Rd.cons | apply Rd.app) hn3 (by omega) (wrapR_ok h0 h1 h2 hB)) ?_
               rintro _ _ ⟨p8, l8, q8, p9, l9, q9, p10, l10, q10, G8, rfl, hl8, hl9, hl10, hq8, hq9, hq10, e⟩; obtain rfl := e.symm
               refine RL.p T ?_
               refine RL.p T ?_
               refine RL.p T ?_
               refine RL.p T ?_
               refine RL.p T ?_
               refine RL.s ?_
               refine NV.alloc T rfl rfl rfl (by exact (rfl : _ = [_, _, _, _, _, _, _, _, _, _, _, _, _, _, _, _])) ?_
               intro b18_12
               refine RL.s ?_
               refine NV.alloc T rfl rfl rfl (by exact (rfl : _ = [_, _, _, _, _, _, _, _, _, _, _])) ?_
               intro b19_13
               refine RL.s ?_
               refine NV.sN T rfl rfl rfl (by exact (rfl : _ = [_, _, _, _, _, _, _, _, _, _, _, _, _, _, _, _])) (by exact (rfl : _ = [_, _, _, _, _, _, _, _, _, _, _, _, _, _, _, _])) ?_
               refine RL.s ?_
               refine NV.sN T rfl rfl rfl (by exact (rfl : _ = [_, _, _, _, _, _, _, _, _, _, _])) (by exact (rfl : _ = [_, _, _, _, _, _, _, _, _, _, _])) ?_
               refine RL.p T ?_
               refine RL.p T ?_
               refine RL.nil _ _ _ _ ?_
               refine hK29 _ _ _ ?_
               refine SW.seq_k fun K30 hK30 => ?_
               refine SW.region _ _ _ _ ?_
               refine RL.q (QV.vN T rfl rfl rfl rfl rfl (by exact (rfl : _ = [_, _, _, _, _, _, _, _, _, _, _, _, _, _, _, _]))) ?_
               refine RL.q (QV.vN T rfl rfl rfl rfl rfl (by exact (rfl : _ = [_, _, _, _, _, _, _, _, _, _, _, _, _, _, _, _]))) ?_
               refine RL.c fun19 (fun hs => esame (openE (wrapR id vcid sdt esb)) p5 l5 q5 (by repeat first | exact hq5 | apply Rd.cons | apply Rd.app) hl5 (by omega) (openE (wrapR id vcid sdt esb)) p8 l8 q8 (by repeat first | exact hq8 | apply Rd.cons | apply Rd.app) hl8 (by omega)) ?_
               rintro _ _ ⟨rfl, e⟩; obtain rfl := e.symm
               refine RL.p T ?_
               refine RL.p T ?_
               refine RL.join (fr1 := ?_) 4 92 false [93, 94, 95, 96] (fun hs5 hj => ?_) ?_ ?_
               rotate_left
               ·have hs5j := hs5
                try simp only [decide_eq_true_eq, Bool.not_eq_true', decide_eq_false_iff_not, Bool.not_eq_false', Int.not_lt, Int.not_le, Int.toNat_natCast, Bool.and_eq_true, Bool.or_eq_true, Bool.and_eq_false_iff, Bool.or_eq_false_iff] at hs5
                refine RL.q (QV.vN T rfl rfl rfl rfl rfl (by exact (rfl : _ = [_, _, _, _, _, _, _, _, _, _, _]))) ?_
                refine RL.q (QV.vN T rfl rfl rfl rfl rfl (by exact (rfl : _ = [_, _, _, _, _, _, _, _, _, _, _]))) ?_
                refine RL.c fun14 (fun hs => rfsame (openO (wrapR id vcid sdt esb)) p6 l6 q6 (by repeat first | exact hq6 | apply Rd.cons | apply Rd.app) hl6 (by omega) (openO_ok hdy) (openO (wrapR id vcid sdt esb)) p9 l9 q9 (by repeat first | exact hq9 | apply Rd.cons | apply Rd.app) hl9 (by omega) (openO_ok hdy)) ?_
                rintro _ _ ⟨rfl, e⟩; obtain rfl := e.symm
                refine RL.p T ?_
                exact hj
               ·repeat first | exact Mx.refl | exact Mx.mix | refine Mx.put rfl ?_ | refine Mx.upd rfl ?_ | refine Mx.updl rfl ?_ | refine Mx.fin rfl ?_ | refine Mx.inner rfl ?_ | refine Mx.none ?_
               refine RL.or ?_
               refine RL.p T ?_
               refine RL.join (fr1 := ?_) 4 98 false [99, 100, 101, 102] (fun hs6 hj => ?_) ?_ ?_
               rotate_left
               ·have hs6j := hs6
                try simp only [decide_eq_true_eq, Bool.not_eq_true', decide_eq_false_iff_not, Bool.not_eq_false', Int.not_lt, Int.not_le, Int.toNat_natCast, Bool.and_eq_true, Bool.or_eq_true, Bool.and_eq_false_iff, Bool.or_eq_false_iff] at hs6
                refine RL.p T ?_
                refine RL.p T ?_
                refine RL.c fun13 (fun hs => same p7 p10 l7 q7 l10 q10 (openS (wrapR id vcid sdt esb)) (openS (wrapR id vcid sdt esb)) (by repeat first | exact hq7 | apply Rd.cons | apply Rd.app) (by repeat first | exact hq10 | apply Rd.cons | apply Rd.app) hl7 hl10 (by omega) (by omega)) ?_
                rintro _ _ ⟨rfl, e⟩; obtain rfl := e.symm
                refine RL.p T ?_
                exact hj
               ·repeat first | exact Mx.refl | exact Mx.mix | refine Mx.put rfl ?_ | refine Mx.upd rfl ?_ | refine Mx.updl rfl ?_ | refine Mx.fin rfl ?_ | refine Mx.inner rfl ?_ | refine Mx.none ?_
               refine RL.or ?_
               refine RL.p T ?_
               refine RL.join (fr1 := ?_) 3 104 false [105, 106, 107] (fun hs7 hj => ?_) ?_ ?_
               rotate_left
               ·have hs7j := hs7
                try simp only [decide_eq_true_eq, Bool.not_eq_true', decide_eq_false_iff_not, Bool.not_eq_false', Int.not_lt, Int.not_le, Int.toNat_natCast, Bool.and_eq_true, Bool.or_eq_true, Bool.and_eq_false_iff, Bool.or_eq_false_iff] at hs7
                refine RL.p T ?_
                refine RL.p T ?_
                refine RL.p T ?_
                exact hj
               ·repeat first | exact Mx.refl | exact Mx.mix | refine Mx.put rfl ?_ | refine Mx.upd rfl ?_ | refine Mx.updl rfl ?_ | refine Mx.fin rfl ?_ | refine Mx.inner rfl ?_ | refine Mx.none ?_
               refine RL.or ?_
               refine RL.nil _ _ _ _ ?_
               refine hK30 _ _ _ ?_
               refine SW.cs (fun hc6 => ?_) (fun hc6 => ?_)
               ·skip
                first
                 | (exfalso; clear hK30 K30; clear hK29 K29; clear hK28 K28; clear hK27 K27; clear hK26 K26; clear hK25 K25; clear hK24 K24; clear hK14 K14; clear hK13 K13; clear hK11 K11; clear hK10 K10; clear hK9 K9; clear hK8 K8; clear hK6 K6; clear hK5 K5; clear hK4 K4; clear hK2 K2; clear hK1 K1; clear hK0 K0; first | omega | contradiction | (simp at *; done) | (simp_all; done))
                 | (
                  refine SW.seq_k fun K31 hK31 => ?_
                  refine SW.region _ _ _ _ ?_
                  refine RL.p T ?_
                  refine RL.nil _ _ _ _ ?_
                  refine hK31 _ _ _ ?_
                  refine SW.ret ?_
                  refine retQ.rr (H) ?_
                  clear hK31 K31 hK30 K30 hK29 K29 hK28 K28 hK27 K27 hK26 K26 hK25 K25 hK24 K24 hK14 K14 hK13 K13 hK11 K11 hK10 K10 hK9 K9 hK8 K8 hK6 K6 hK5 K5 hK4 K4 hK2 K2 hK1 K1 hK0 K0
                  first
                    | exact ⟨rfl, rfl⟩
                    | (refine ⟨boolE ?_, rfl⟩; simp [*])
                  )
               ·skip
                first
                 | (exfalso; clear hK30 K30; clear hK29 K29; clear hK28 K28; clear hK27 K27; clear hK26 K26; clear hK25 K25; clear hK24 K24; clear hK14 K14; clear hK13 K13; clear hK11 K11; clear hK10 K10; clear hK9 K9; clear hK8 K8; clear hK6 K6; clear hK5 K5; clear hK4 K4; clear hK2 K2; clear hK1 K1; clear hK0 K0; first | omega | contradiction | (simp at *; done) | (simp_all; done))
                 | (
                  refine SW.skip ?_
                  refine hK26 _ _ _ ?_
                  refine SW.drop (SW.drop (SW.app (SW.drop (SW.drop (SW.app (SW.drop ?_))))))
                  refine SW.region _ _ _ _ ?_
                  first | refine RL.ar ?_ | refine RL.p T ?_
                  refine RL.p T ?_
                  refine RL.nil _ _ _ _ ?_
                  exact ⟨2 - 2, (by omega), 2, (by rfl), by omega, (.consI rfl (by first | omega | rfl) (.nil (by repeat first | exact Mx.refl | exact Mx.mix | refine Mx.put rfl ?_ | refine Mx.upd rfl ?_ | refine Mx.updl rfl ?_ | refine Mx.fin rfl ?_ | refine Mx.inner rfl ?_ | refine Mx.none ?_))), rfl, rfl⟩
                  )
               )
            ·skip
             first
              | (exfalso; clear hK25 K25; clear hK24 K24; clear hK14 K14; clear hK13 K13; clear hK11 K11; clear hK10 K10; clear hK9 K9; clear hK8 K8; clear hK6 K6; clear hK5 K5; clear hK4 K4; clear hK2 K2; clear hK1 K1; clear hK0 K0; first | omega | contradiction | (simp at *; done) | (simp_all; done))
              | (
               refine SW.exit ?_
               refine hK13 _ _ _ ?_
               refine SW.seq_k fun K32 hK32 => ?_
               refine SW.region _ _ _ _ ?_
               refine RL.p T ?_
               refine RL.nil _ _ _ _ ?_
               refine hK32 _ _ _ ?_
               refine SW.ret ?_
               refine retQ.rr (H) ?_
               clear hK32 K32 hK25 K25 hK24 K24 hK14 K14 hK13 K13 hK11 K11 hK10 K10 hK9 K9 hK8 K8 hK6 K6 hK5 K5 hK4 K4 hK2 K2 hK1 K1 hK0 K0
               first
                 | exact ⟨rfl, rfl⟩
                 | (refine ⟨boolE ?_, rfl⟩; simp [*])
               )
           ·skip
            refine SW.seq_k fun K33 hK33 => ?_
            refine SW.region _ _ _ _ ?_
            refine RL.p T ?_
            refine RL.nil _ _ _ _ ?_
            refine hK33 _ _ _ ?_
            refine SW.seq_k fun K34 hK34 => ?_
            refine SW.cs (fun hc7 => ?_) (fun hc7 => ?_)
            ·skip
             exfalso; clear hK34 K34; clear hK33 K33; clear hK14 K14; clear hK13 K13; clear hK11 K11; clear hK10 K10; clear hK9 K9; clear hK8 K8; clear hK6 K6; clear hK5 K5; clear hK4 K4; clear hK2 K2; clear hK1 K1; clear hK0 K0; first | omega | contradiction | (simp at *; done) | (simp_all; done)
            ·skip
             first
              | (exfalso; clear hK34 K34; clear hK33 K33; clear hK14 K14; clear hK13 K13; clear hK11 K11; clear hK10 K10; clear hK9 K9; clear hK8 K8; clear hK6 K6; clear hK5 K5; clear hK4 K4; clear hK2 K2; clear hK1 K1; clear hK0 K0; first | omega | contradiction | (simp at *; done) | (simp_all; done))
              | (
               refine SW.exit ?_
               refine hK13 _ _ _ ?_
               refine SW.seq_k fun K35 hK35 => ?_
               refine SW.region _ _ _ _ ?_
               refine RL.p T ?_
               refine RL.nil _ _ _ _ ?_
               refine hK35 _ _ _ ?_
               refine SW.ret ?_
               refine retQ.rr (H) ?_
               clear hK35 K35 hK34 K34 hK33 K33 hK14 K14 hK13 K13 hK11 K11 hK10 K10 hK9 K9 hK8 K8 hK6 K6 hK5 K5 hK4 K4 hK2 K2 hK1 K1 hK0 K0
               first
                 | exact ⟨rfl, rfl⟩
                 | (refine ⟨boolE ?_, rfl⟩; simp [*])
               )
          )
       )
    )
end Go.Proofs.Ytecgicpimgghaaa.M
