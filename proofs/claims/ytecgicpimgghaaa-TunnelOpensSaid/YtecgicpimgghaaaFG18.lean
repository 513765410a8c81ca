import Derived.Test.YtecgicpimgghaaaProg
import Derived.Test.YtecgicpimgghaaaFF18
set_option linter.unusedVariables false
set_option linter.unusedSimpArgs false
namespace Go.Proofs.Ytecgicpimgghaaa.M
open Go Go.Sep Go.Proofs
set_option maxRecDepth 10000
set_option maxHeartbeats 2000000
theorem rgeteth {w0 : World} {H : List Chunk} (sa : Option Addr) (n c : Nat) (es : List Int) (hR : Rd w0 H sa n c 1 (es.map (.int .u8))) (hn : n = es.length) (hm : n ≤ 140737488351232) (hB : Byte es) : SC Try.prog w0 18 #[.slice sa n c] H (fun v H' => EtV w0 H (getEr es) (getEe es) v H') := by
 refine SC.enter Try.func18 rfl (Nat.le_of_ble_eq_true rfl) ?_
 refine SW.seq_k fun K0 hK0 => ?_
 have hb0 := bi_rng hB 0
 have hl12 : (es.drop 12).length = n - 12 := by rw [List.length_drop, hn]
 have hd := bi_rng (hB.drop 12)
 have hd0 := hd 0
 have hd1 := hd 1
 have hd2 := hd 2
 have hd3 := hd 3
 have hw : wN (es.drop 12) = bi (es.drop 12) 0 * 256 + bi (es.drop 12) 1 := rfl
 have hf := bi_rng ((hB.drop 12).drop 4)
 have hf0 := hf 0
 have hf1 := hf 1
 refine SW.region _ _ _ _ ?_
 refine RL.s ?_
 refine NV.alloc T rfl rfl rfl (by exact (rfl : _ = [_, _, _, _, _, _, _, _, _, _, _, _, _, _, _, _])) ?_
 intro b2_0
 refine RL.p T ?_
 refine RL.nil _ _ _ _ ?_
 refine hK0 _ _ _ ?_
 refine SW.seq_k fun K1 hK1 => ?_
 refine SW.seq_k fun K2 hK2 => ?_
 refine SW.region _ _ _ _ ?_
 refine RL.p T ?_
 refine RL.p T ?_
 refine RL.p T ?_
 refine RL.nil _ _ _ _ ?_
 refine hK2 _ _ _ ?_
 refine SW.cs (fun hc0 => ?_) (fun hc0 => ?_)
 ·skip
  first
   | (exfalso; first | omega | contradiction | (simp at *; done))
   | (
    refine SW.seq_k fun K3 hK3 => ?_
    refine SW.region _ _ _ _ ?_
    refine RL.s ?_
    first | refine NV.buildc T rfl (rfl : _ = some [_, _, _, _, _, _, _, _, _, _, _, _, _, _, _, _]) ?_ | refine NV.buildz T rfl (rfl : _ = some [_, _, _, _, _, _, _, _, _, _, _, _, _, _, _, _]) ?_ | refine NV.pure T (rfl : _ = some (Value.agg #[_, _, _, _, _, _, _, _, _, _, _, _, _, _, _, _])) ?_
    refine RL.s ?_
    refine NV.sN T rfl rfl rfl (by exact (rfl : _ = [_, _, _, _, _, _, _, _, _, _, _, _, _, _, _, _])) (by exact (rfl : _ = [_, _, _, _, _, _, _, _, _, _, _, _, _, _, _, _])) ?_
    refine RL.p T ?_
    refine RL.nil _ _ _ _ ?_
    refine hK3 _ _ _ ?_
    refine SW.sat (fun hs => ?_)
    refine SW.ret ?_
    refine retQ.rk (RVs.cN T rfl rfl rfl rfl (by exact (rfl : _ = [_, _, _, _, _, _, _, _, _, _, _, _, _, _, _, _])) (RVs.t RVs.nil)) ?_
    clear hK3 K3 hK2 K2 hK1 K1 hK0 K0
    first
      | (rw [(getE_long (by omega)).1, (getE_long (by omega)).2]
         first
           | exact ⟨none, 0, 0, [_], rfl, rfl, Rd.nilS, rfl⟩
           | exact ⟨none, 0, 0, [_, _], rfl, rfl, Rd.nilS, rfl⟩)
      | (rw [(getE_short (by omega) (by omega)).1, (getE_short (by omega) (by omega)).2]
         first
           | exact ⟨none, 0, 0, [_], rfl, rfl, Rd.nilS, rfl⟩
           | exact ⟨none, 0, 0, [_, _], rfl, rfl, Rd.nilS, rfl⟩)
      | (rw [(getE_tag (by omega) (by omega) (by omega)).1, (getE_tag (by omega) (by omega) (by omega)).2]
         exact ⟨a0_, _, c0_, [_, _, _], rfl, (by first | exact hl42' | exact hl2'), (Rd.rowh (satl (G := [_, _, _]) hs) (by repeat first | exact At.head _ _ | apply At.tail)), rfl⟩)
      | (rw [(getE_bare (by omega) (by omega) (by omega)).1, (getE_bare (by omega) (by omega) (by omega)).2]
         exact ⟨a0_, _, c0_, [_, _, _], rfl, (by first | exact hl42' | exact hl2'), (Rd.rowh (satl (G := [_, _, _]) hs) (by repeat first | exact At.head _ _ | apply At.tail)), rfl⟩)
    )
 ·skip
  first
   | (exfalso; first | omega | contradiction | (simp at *; done))
   | (
    refine SW.skip ?_
    refine hK1 _ _ _ ?_
    refine SW.seq_k fun K4 hK4 => ?_
    refine SW.seq_k fun K5 hK5 => ?_
    refine SW.region _ _ _ _ ?_
    refine RL.p T ?_
    refine RL.p T ?_
    refine RL.p T ?_
    refine RL.nil _ _ _ _ ?_
    refine hK5 _ _ _ ?_
    refine SW.cs (fun hc1 => ?_) (fun hc1 => ?_)
    ·skip
     first
      | (exfalso; first | omega | contradiction | (simp at *; done))
      | (
       refine SW.seq_k fun K6 hK6 => ?_
       refine SW.region _ _ _ _ ?_
       refine RL.s ?_
       first | refine NV.buildc T rfl (rfl : _ = some [_, _, _, _, _, _, _, _, _, _, _, _, _, _, _, _]) ?_ | refine NV.buildz T rfl (rfl : _ = some [_, _, _, _, _, _, _, _, _, _, _, _, _, _, _, _]) ?_ | refine NV.pure T (rfl : _ = some (Value.agg #[_, _, _, _, _, _, _, _, _, _, _, _, _, _, _, _])) ?_
       refine RL.s ?_
       refine NV.sN T rfl rfl rfl (by exact (rfl : _ = [_, _, _, _, _, _, _, _, _, _, _, _, _, _, _, _])) (by exact (rfl : _ = [_, _, _, _, _, _, _, _, _, _, _, _, _, _, _, _])) ?_
       refine RL.p T ?_
       refine RL.nil _ _ _ _ ?_
       refine hK6 _ _ _ ?_
       refine SW.sat (fun hs => ?_)
       refine SW.ret ?_
       refine retQ.rk (RVs.cN T rfl rfl rfl rfl (by exact (rfl : _ = [_, _, _, _, _, _, _, _, _, _, _, _, _, _, _, _])) (RVs.t RVs.nil)) ?_
       clear hK6 K6 hK5 K5 hK4 K4 hK2 K2 hK1 K1 hK0 K0
       first
         | (rw [(getE_long (by omega)).1, (getE_long (by omega)).2]
            first
              | exact ⟨none, 0, 0, [_], rfl, rfl, Rd.nilS, rfl⟩
              | exact ⟨none, 0, 0, [_, _], rfl, rfl, Rd.nilS, rfl⟩)
         | (rw [(getE_short (by omega) (by omega)).1, (getE_short (by omega) (by omega)).2]
            first
              | exact ⟨none, 0, 0, [_], rfl, rfl, Rd.nilS, rfl⟩
              | exact ⟨none, 0, 0, [_, _], rfl, rfl, Rd.nilS, rfl⟩)
         | (rw [(getE_tag (by omega) (by omega) (by omega)).1, (getE_tag (by omega) (by omega) (by omega)).2]
            exact ⟨a0_, _, c0_, [_, _, _], rfl, (by first | exact hl42' | exact hl2'), (Rd.rowh (satl (G := [_, _, _]) hs) (by repeat first | exact At.head _ _ | apply At.tail)), rfl⟩)
         | (rw [(getE_bare (by omega) (by omega) (by omega)).1, (getE_bare (by omega) (by omega) (by omega)).2]
            exact ⟨a0_, _, c0_, [_, _, _], rfl, (by first | exact hl42' | exact hl2'), (Rd.rowh (satl (G := [_, _, _]) hs) (by repeat first | exact At.head _ _ | apply At.tail)), rfl⟩)
       )
    ·skip
     first
      | (exfalso; first | omega | contradiction | (simp at *; done))
      | (
       refine SW.skip ?_
       refine hK4 _ _ _ ?_
       refine SW.seq_k fun K7 hK7 => ?_
       refine SW.region _ _ _ _ ?_
       refine RL.s ?_
       refine NV.alloc T rfl rfl rfl (by exact (rfl : _ = [_, _, _, _, _, _, _, _, _, _, _, _, _, _, _, _])) ?_
       intro b4_1
       refine RL.nil _ _ _ _ ?_
       refine hK7 _ _ _ ?_
       refine SW.seq_k fun K8 hK8 => ?_
       refine SW.seq_k fun K9 hK9 => ?_
       refine SW.region _ _ _ _ ?_
       refine RL.p T ?_
       refine RL.nil _ _ _ _ ?_
       refine hK9 _ _ _ ?_
       refine SW.block ?_
       refine SW.loopM (fun frB mm fr ds HH => ∃ (k : Nat), mm = 6 - k ∧ (k ≤ 6) ∧ FrIs [5, 14, 15, 16, 17, 18, 19, 20, 21, 22, 23, 24, 25, 26, 27, 28, 29, 30, 31, 32] frB fr [(5, .int .i64 k)] ∧ ds = [] ∧ HH = (.var b4_1 38 (EC (⟨tI es k, false, 0, 0, []⟩ : Eth) none 0 0) :: .var b2_0 38 (EC zeroE none 0 0) :: H)) (n := 6 - 0) ?_ ?_
       ·exact ⟨0, rfl, by omega, (.consI rfl (by first | omega | rfl) (.nil (by repeat first | exact Mx.refl | exact Mx.mix | refine Mx.put rfl ?_ | refine Mx.upd rfl ?_ | refine Mx.updl rfl ?_ | refine Mx.fin rfl ?_ | refine Mx.inner rfl ?_ | refine Mx.none ?_))), rfl, rfl⟩
       ·rintro mm fr ds HH ⟨k, rfl, hk6, hFr, rfl, eHH⟩
        obtain rfl := eHH.symm
        obtain ⟨frU, rfl⟩ := hFr.eq
        clear hFr
        rcases (by omega : k = 0 ∨ k = 1 ∨ k = 2 ∨ k = 3 ∨ k = 4 ∨ k = 5 ∨ k = 6) with rfl | rfl | rfl | rfl | rfl | rfl | rfl
        ·skip
         refine SW.seq_k fun K10 hK10 => ?_
         refine SW.seq_k fun K11 hK11 => ?_
         refine SW.region _ _ _ _ ?_
         refine RL.p T ?_
         refine RL.p T ?_
         refine RL.nil _ _ _ _ ?_
         refine hK11 _ _ _ ?_
         refine SW.cs (fun hc2 => ?_) (fun hc2 => ?_)
         ·skip
          first
           | (exfalso; first | omega | contradiction | (simp at *; done))
           | (
            refine SW.skip ?_
            refine hK10 _ _ _ ?_
            refine SW.seq_k fun K12 hK12 => ?_
            refine SW.block ?_
            refine SW.draw [(18, 0), (19, 1), (20, 2), (21, 3), (22, 4), (23, 5), (24, 6), (25, 7), (26, 8), (27, 9), (28, 10), (29, 11), (30, 12), (31, 14), (32, 15)] [[], [], [], [], [2, 3], [4, 2, 3], [], [], [7], [6, 8, 7], [9, 6, 8, 7], [], [11, 0, 2, 3, 4, 5], [12, 11, 0, 2, 3, 4, 5], [], [14, 1, 0, 2, 3, 4, 5, 6, 7, 8, 9, 10, 11, 12, 13], [15, 14, 1, 0, 2, 3, 4, 5, 6, 7, 8, 9, 10, 11, 12, 13]] mixed (by kernel_rfl) (by kernel_rfl) ?_
            refine RD.p T ?_
            refine RD.p T ?_
            refine RD.p T ?_
            refine RD.p T ?_
            refine RD.q rfl rfl (Gd.none rfl) (QV.indexAddr_slice T rfl rfl rfl rfl rfl (hR.some (by omega)) (by omega) (by omega)) ?_
            refine RD.q rfl rfl (Gd.none rfl) (QV.load_elem T rfl rfl rfl rfl (by repeat first | exact hR | apply Rd.cons | apply Rd.app) (map_as (z := bi es 0) (by show 0 < _; omega) rfl)) ?_
            refine RD.p T ?_
            refine RD.p T ?_
            refine RD.q rfl rfl (Gd.none rfl) (by first | exact QV.arith rfl rfl rfl rfl (by omega) (by omega) | exact QV.arith_u8 rfl rfl rfl rfl (by omega) (by omega) | exact QV.arith_u16 rfl rfl rfl rfl (by omega) (by omega) | exact QV.arith_u32 rfl rfl rfl rfl (by omega) (by omega) | exact QV.arith_u64 rfl rfl rfl rfl (by omega) (by omega) | exact pev_sound T rfl) ?_
            refine RD.q rfl rfl (Gd.none rfl) (QV.indexAddr_slice T rfl rfl rfl rfl rfl (hR.some (by omega)) (by omega) (by omega)) ?_
            refine RD.q rfl rfl (Gd.none rfl) (QV.load_elem T rfl rfl rfl rfl (by repeat first | exact hR | apply Rd.cons | apply Rd.app) (map_as (z := bi es 6) (by show 6 < _; omega) rfl)) ?_
            refine RD.p T ?_
            refine RD.q rfl rfl (Gd.none rfl) (by first | exact QV.indexAddr_array T rfl rfl rfl rfl rfl (by omega) (by omega) | exact QV.indexAddr_slice T rfl rfl rfl rfl rfl (Rd.some (by repeat first | exact hS | apply Rd.cons | apply Rd.app) (by omega)) (by omega) (by omega)) ?_
            refine RD.p T ?_
            refine RD.nv rfl rfl rfl (Gd.none rfl) ?_
            refine NV.s1 T ?_
            refine ⟨(Stab.cons rfl (Gd.none rfl) (pev_sound T rfl) (Stab.cons rfl (Gd.none rfl) (QV.load_elem T rfl rfl rfl rfl (by repeat first | exact hR | apply Rd.cons | apply Rd.app) (map_as (z := bi es 6) (by show 6 < _; omega) rfl)) (Stab.cons rfl (Gd.none rfl) (QV.indexAddr_slice T rfl rfl rfl rfl rfl (hR.some (by omega)) (by omega) (by omega)) (Stab.cons rfl (Gd.none rfl) (by first | exact pev_sound T rfl | exact QV.arith rfl rfl rfl rfl (by omega) (by omega) | exact QV.arith_u8 rfl rfl rfl rfl (by omega) (by omega) | exact QV.arith_u16 rfl rfl rfl rfl (by omega) (by omega) | exact QV.arith_u32 rfl rfl rfl rfl (by omega) (by omega) | exact QV.arith_u64 rfl rfl rfl rfl (by omega) (by omega) ) (Stab.cons rfl (Gd.none rfl) (pev_sound T rfl) (Stab.cons rfl (Gd.none rfl) (pev_sound T rfl) (Stab.cons rfl (Gd.none rfl) (pev_sound T rfl) Stab.nil))))))), ?_⟩
            refine RD.q rfl rfl (Gd.none rfl) (by first | exact QV.indexAddr_array T rfl rfl rfl rfl rfl (by omega) (by omega) | exact QV.indexAddr_slice T rfl rfl rfl rfl rfl (Rd.some (by repeat first | exact hS | apply Rd.cons | apply Rd.app) (by omega)) (by omega) (by omega)) ?_
            refine RD.nv rfl rfl rfl (Gd.none rfl) ?_
            refine NV.s1 T ?_
            refine ⟨Stab.nil, ?_⟩
            refine RD.k rfl rfl ?_
            refine hK12 _ _ _ ?_
            refine SW.region _ _ _ _ ?_
            refine RL.p T ?_
            first | refine RL.ar ?_ | refine RL.p T ?_
            refine RL.p T ?_
            refine RL.nil _ _ _ _ ?_
            exact ⟨6 - 1, (by omega), 1, (by rfl), by omega, (.consI rfl (by first | omega | rfl) (.nil (by repeat first | exact Mx.refl | exact Mx.mix | refine Mx.put rfl ?_ | refine Mx.upd rfl ?_ | refine Mx.updl rfl ?_ | refine Mx.fin rfl ?_ | refine Mx.inner rfl ?_ | refine Mx.none ?_))), rfl, rfl⟩
            )
         ·skip
          first
           | (exfalso; first | omega | contradiction | (simp at *; done))
           | (
            refine SW.exit ?_
            refine hK8 _ _ _ ?_
            refine SW.seq_k fun K13 hK13 => ?_
            have hS := hR.suf 12 (by omega : 12 ≤ n)
            have hl2' : 0 + (n - 12 - 2) = ((es.drop 12).drop 2).length := by rw [List.length_drop, hl12]; omega
            refine SW.region _ _ _ _ ?_
            refine RL.p T ?_
            refine RL.sl T ?_ (l1 := 12)
            refine RL.p T ?_
            refine RL.nil _ _ _ _ ?_
            refine hK13 _ _ _ ?_
            refine SW.seq_k fun K14 hK14 => ?_
            refine SW.seq_k fun K15 hK15 => ?_
            refine SW.region _ _ _ _ ?_
            refine RL.p T ?_
            refine RL.ix T ?_ (hR := fun hs => (by repeat first | exact hS | apply Rd.cons | apply Rd.app))
            refine RL.le T ?_ (hR := fun hs => (by repeat first | exact hS | apply Rd.cons | apply Rd.app)) (hv := map_as (z := bi (es.drop 12) 0) (by omega) rfl)
            refine RL.p T ?_
            refine RL.p T ?_
            refine RL.join (fr1 := ?_) 4 39 true [40, 41, 42, 43] (fun hs0 hj => ?_) ?_ ?_
            rotate_left
            ·have hs0j := hs0
             try simp only [decide_eq_true_eq, Bool.not_eq_true', decide_eq_false_iff_not, Bool.not_eq_false', Int.not_lt, Int.not_le, Int.toNat_natCast, Bool.and_eq_true, Bool.or_eq_true, Bool.and_eq_false_iff, Bool.or_eq_false_iff] at hs0
             refine RL.p T ?_
             refine RL.ix T ?_ (hR := fun hs => (by repeat first | exact hS | apply Rd.cons | apply Rd.app))
             refine RL.le T ?_ (hR := fun hs => (by repeat first | exact hS | apply Rd.cons | apply Rd.app)) (hv := map_as (z := bi (es.drop 12) 1) (by omega) rfl)
             refine RL.p T ?_
             exact hj
            ·repeat first | exact Mx.refl | exact Mx.mix | refine Mx.put rfl ?_ | refine Mx.upd rfl ?_ | refine Mx.updl rfl ?_ | refine Mx.fin rfl ?_ | refine Mx.inner rfl ?_ | refine Mx.none ?_
            refine RL.and ?_
            refine RL.nil _ _ _ _ ?_
            refine hK15 _ _ _ ?_
            refine SW.cs (fun hc3 => ?_) (fun hc3 => ?_)
            ·skip
             first
              | (exfalso; first | omega | contradiction | (simp at *; done))
              | (
               refine SW.seq_k fun K16 hK16 => ?_
               refine SW.seq_k fun K17 hK17 => ?_
               refine SW.region _ _ _ _ ?_
               refine RL.p T ?_
               refine RL.p T ?_
               refine RL.p T ?_
               refine RL.nil _ _ _ _ ?_
               refine hK17 _ _ _ ?_
               refine SW.cs (fun hc4 => ?_) (fun hc4 => ?_)
               ·skip
                first
                 | (exfalso; first | omega | contradiction | (simp at *; done))
                 | (
                  refine SW.seq_k fun K18 hK18 => ?_
                  refine SW.region _ _ _ _ ?_
                  refine RL.s ?_
                  first | refine NV.buildc T rfl (rfl : _ = some [_, _, _, _, _, _, _, _, _, _, _, _, _, _, _, _]) ?_ | refine NV.buildz T rfl (rfl : _ = some [_, _, _, _, _, _, _, _, _, _, _, _, _, _, _, _]) ?_ | refine NV.pure T (rfl : _ = some (Value.agg #[_, _, _, _, _, _, _, _, _, _, _, _, _, _, _, _])) ?_
                  refine RL.s ?_
                  refine NV.sN T rfl rfl rfl (by exact (rfl : _ = [_, _, _, _, _, _, _, _, _, _, _, _, _, _, _, _])) (by exact (rfl : _ = [_, _, _, _, _, _, _, _, _, _, _, _, _, _, _, _])) ?_
                  refine RL.p T ?_
                  refine RL.nil _ _ _ _ ?_
                  refine hK18 _ _ _ ?_
                  refine SW.sat (fun hs => ?_)
                  refine SW.ret ?_
                  refine retQ.rk (RVs.cN T rfl rfl rfl rfl (by exact (rfl : _ = [_, _, _, _, _, _, _, _, _, _, _, _, _, _, _, _])) (RVs.t RVs.nil)) ?_
                  clear hK18 K18 hK17 K17 hK16 K16 hK15 K15 hK14 K14 hK13 K13 hK11 K11 hK10 K10 hK9 K9 hK8 K8 hK7 K7 hK5 K5 hK4 K4 hK2 K2 hK1 K1 hK0 K0
                  first
                    | (rw [(getE_long (by omega)).1, (getE_long (by omega)).2]
                       first
                         | exact ⟨none, 0, 0, [_], rfl, rfl, Rd.nilS, rfl⟩
                         | exact ⟨none, 0, 0, [_, _], rfl, rfl, Rd.nilS, rfl⟩)
                    | (rw [(getE_short (by omega) (by omega)).1, (getE_short (by omega) (by omega)).2]
                       first
                         | exact ⟨none, 0, 0, [_], rfl, rfl, Rd.nilS, rfl⟩
                         | exact ⟨none, 0, 0, [_, _], rfl, rfl, Rd.nilS, rfl⟩)
                    | (rw [(getE_tag (by omega) (by omega) (by omega)).1, (getE_tag (by omega) (by omega) (by omega)).2]
                       exact ⟨a0_, _, c0_, [_, _, _], rfl, (by first | exact hl42' | exact hl2'), (Rd.rowh (satl (G := [_, _, _]) hs) (by repeat first | exact At.head _ _ | apply At.tail)), rfl⟩)
                    | (rw [(getE_bare (by omega) (by omega) (by omega)).1, (getE_bare (by omega) (by omega) (by omega)).2]
                       exact ⟨a0_, _, c0_, [_, _, _], rfl, (by first | exact hl42' | exact hl2'), (Rd.rowh (satl (G := [_, _, _]) hs) (by repeat first | exact At.head _ _ | apply At.tail)), rfl⟩)
                  )
               ·skip
                first
                 | (exfalso; first | omega | contradiction | (simp at *; done))
                 | (
                  refine SW.skip ?_
                  refine hK16 _ _ _ ?_
                  refine SW.seq_k fun K19 hK19 => ?_
                  have hS4 := hS.suf 4 (by omega)
                  have hl4 : ((es.drop 12).drop 4).length = n - 12 - 4 := by rw [List.length_drop, hl12]
                  have hl42' : 0 + (n - 12 - 4 - 2) = (((es.drop 12).drop 4).drop 2).length := by rw [List.length_drop, hl4]; omega
                  refine SW.draw [(49, 0), (50, 1), (51, 2), (52, 3), (53, 4), (54, 5), (55, 6), (56, 7), (57, 8), (58, 9), (59, 10), (60, 12)] [[], [0], [1, 0], [2, 1, 0], [3, 2, 1, 0], [], [5], [6, 5], [7, 6, 5], [4, 3, 2, 1, 0, 8, 7, 6, 5], [], [10], [0, 1, 2, 3, 4, 5, 6, 7, 8, 9, 10, 11], [12, 0, 1, 2, 3, 4, 5, 6, 7, 8, 9, 10, 11]] mixed (by kernel_rfl) (by kernel_rfl) ?_
                  refine RD.p T ?_
                  refine RD.q rfl rfl (Gd.none rfl) (QV.indexAddr_slice T rfl rfl rfl rfl rfl (hS.some (by omega)) (by omega) (by omega)) ?_
                  refine RD.q rfl rfl (Gd.none rfl) (QV.load_elem T rfl rfl rfl rfl (by repeat first | exact hS | apply Rd.cons | apply Rd.app) (map_as (z := bi (es.drop 12) 2) (by show 2 < _; omega) rfl)) ?_
                  refine RD.q rfl rfl (Gd.none rfl) (QV.convI T rfl rfl rfl rfl (by simp only [loK]; omega) (by simp only [hiK]; omega)) ?_
                  refine RD.q rfl rfl (Gd.none rfl) (by first | exact QV.arith rfl rfl rfl rfl (by omega) (by omega) | exact QV.arith_u8 rfl rfl rfl rfl (by omega) (by omega) | exact QV.arith_u16 rfl rfl rfl rfl (by omega) (by omega) | exact QV.arith_u32 rfl rfl rfl rfl (by omega) (by omega) | exact QV.arith_u64 rfl rfl rfl rfl (by omega) (by omega) | exact pev_sound T rfl) ?_
                  refine RD.p T ?_
                  refine RD.q rfl rfl (Gd.none rfl) (QV.indexAddr_slice T rfl rfl rfl rfl rfl (hS.some (by omega)) (by omega) (by omega)) ?_
                  refine RD.q rfl rfl (Gd.none rfl) (QV.load_elem T rfl rfl rfl rfl (by repeat first | exact hS | apply Rd.cons | apply Rd.app) (map_as (z := bi (es.drop 12) 3) (by show 3 < _; omega) rfl)) ?_
                  refine RD.q rfl rfl (Gd.none rfl) (QV.convI T rfl rfl rfl rfl (by simp only [loK]; omega) (by simp only [hiK]; omega)) ?_
                  refine RD.q rfl rfl (Gd.none rfl) (QV.as (QV.arith_u16 rfl rfl rfl rfl (by omega) (by omega)) (show Value.int .u16 (bi (es.drop 12) 2 * 256 + bi (es.drop 12) 3) = .int .u16 (wN ((es.drop 12).drop 2)) from by rw [wN_drop])) ?_
                  refine RD.p T ?_
                  refine RD.nv rfl rfl rfl (Gd.none rfl) ?_
                  refine NV.s1 T ?_
                  refine ⟨(Stab.cons rfl (Gd.none rfl) (QV.as (QV.arith_u16 rfl rfl rfl rfl (by omega) (by omega)) (show Value.int .u16 (bi (es.drop 12) 2 * 256 + bi (es.drop 12) 3) = .int .u16 (wN ((es.drop 12).drop 2)) from by rw [wN_drop])) (Stab.cons rfl (Gd.none rfl) (QV.convI T rfl rfl rfl rfl (by simp only [loK]; omega) (by simp only [hiK]; omega)) (Stab.cons rfl (Gd.none rfl) (QV.load_elem T rfl rfl rfl rfl (by repeat first | exact hS | apply Rd.cons | apply Rd.app) (map_as (z := bi (es.drop 12) 3) (by show 3 < _; omega) rfl)) (Stab.cons rfl (Gd.none rfl) (QV.indexAddr_slice T rfl rfl rfl rfl rfl (hS.some (by omega)) (by omega) (by omega)) (Stab.cons rfl (Gd.none rfl) (pev_sound T rfl) (Stab.cons rfl (Gd.none rfl) (by first | exact pev_sound T rfl | exact QV.arith rfl rfl rfl rfl (by omega) (by omega) | exact QV.arith_u8 rfl rfl rfl rfl (by omega) (by omega) | exact QV.arith_u16 rfl rfl rfl rfl (by omega) (by omega) | exact QV.arith_u32 rfl rfl rfl rfl (by omega) (by omega) | exact QV.arith_u64 rfl rfl rfl rfl (by omega) (by omega) ) (Stab.cons rfl (Gd.none rfl) (QV.convI T rfl rfl rfl rfl (by simp only [loK]; omega) (by simp only [hiK]; omega)) (Stab.cons rfl (Gd.none rfl) (QV.load_elem T rfl rfl rfl rfl (by repeat first | exact hS | apply Rd.cons | apply Rd.app) (map_as (z := bi (es.drop 12) 2) (by show 2 < _; omega) rfl)) (Stab.cons rfl (Gd.none rfl) (QV.indexAddr_slice T rfl rfl rfl rfl rfl (hS.some (by omega)) (by omega) (by omega)) (Stab.cons rfl (Gd.none rfl) (pev_sound T rfl) Stab.nil)))))))))), ?_⟩
                  refine RD.p T ?_
                  refine RD.nv rfl rfl rfl (Gd.none rfl) ?_
                  refine NV.s1 T ?_
                  refine ⟨Stab.nil, ?_⟩
                  refine RD.k rfl rfl ?_
                  refine hK19 _ _ _ ?_
                  refine SW.region _ _ _ _ ?_
                  refine RL.p T ?_
                  refine RL.sl T ?_ (l1 := 4)
                  refine RL.p T ?_
                  refine RL.nil _ _ _ _ ?_
                  refine hK14 _ _ _ ?_
                  refine SW.seq_k fun K20 hK20 => ?_
                  refine SW.draw [(63, 0), (64, 1), (65, 2), (66, 3), (67, 4), (68, 5), (69, 6), (70, 7), (71, 8), (72, 9), (73, 10)] [[], [0], [1, 0], [2, 1, 0], [3, 2, 1, 0], [], [5], [6, 5], [7, 6, 5], [4, 3, 2, 1, 0, 8, 7, 6, 5], [0, 1, 2, 3, 4, 5, 6, 7, 8, 9], [10, 0, 1, 2, 3, 4, 5, 6, 7, 8, 9]] mixed (by kernel_rfl) (by kernel_rfl) ?_
                  refine RD.p T ?_
                  refine RD.q rfl rfl (Gd.none rfl) (by first | exact (QV.indexAddr_slice T rfl rfl rfl rfl rfl (hS4.some (by omega)) (by omega) (by omega)) | exact (QV.indexAddr_slice T rfl rfl rfl rfl rfl (hS.some (by omega)) (by omega) (by omega))) ?_
                  refine RD.q rfl rfl (Gd.none rfl) (by first | exact (QV.load_elem T rfl rfl rfl rfl (by repeat first | exact hS4 | apply Rd.cons | apply Rd.app) (map_as (z := bi ((es.drop 12).drop 4) 0) (by show 0 < _; omega) rfl)) | exact (QV.load_elem T rfl rfl rfl rfl (by repeat first | exact hS | apply Rd.cons | apply Rd.app) (map_as (z := bi (es.drop 12) 0) (by show 0 < _; omega) rfl))) ?_
                  refine RD.q rfl rfl (Gd.none rfl) (QV.convI T rfl rfl rfl rfl (by simp only [loK]; omega) (by simp only [hiK]; omega)) ?_
                  refine RD.q rfl rfl (Gd.none rfl) (by first | exact QV.arith rfl rfl rfl rfl (by omega) (by omega) | exact QV.arith_u8 rfl rfl rfl rfl (by omega) (by omega) | exact QV.arith_u16 rfl rfl rfl rfl (by omega) (by omega) | exact QV.arith_u32 rfl rfl rfl rfl (by omega) (by omega) | exact QV.arith_u64 rfl rfl rfl rfl (by omega) (by omega) | exact pev_sound T rfl) ?_
                  refine RD.p T ?_
                  refine RD.q rfl rfl (Gd.none rfl) (by first | exact (QV.indexAddr_slice T rfl rfl rfl rfl rfl (hS4.some (by omega)) (by omega) (by omega)) | exact (QV.indexAddr_slice T rfl rfl rfl rfl rfl (hS.some (by omega)) (by omega) (by omega))) ?_
                  refine RD.q rfl rfl (Gd.none rfl) (by first | exact (QV.load_elem T rfl rfl rfl rfl (by repeat first | exact hS4 | apply Rd.cons | apply Rd.app) (map_as (z := bi ((es.drop 12).drop 4) 1) (by show 1 < _; omega) rfl)) | exact (QV.load_elem T rfl rfl rfl rfl (by repeat first | exact hS | apply Rd.cons | apply Rd.app) (map_as (z := bi (es.drop 12) 1) (by show 1 < _; omega) rfl))) ?_
                  refine RD.q rfl rfl (Gd.none rfl) (QV.convI T rfl rfl rfl rfl (by simp only [loK]; omega) (by simp only [hiK]; omega)) ?_
                  refine RD.q rfl rfl (Gd.none rfl) (by first | exact QV.arith rfl rfl rfl rfl (by omega) (by omega) | exact QV.arith_u8 rfl rfl rfl rfl (by omega) (by omega) | exact QV.arith_u16 rfl rfl rfl rfl (by omega) (by omega) | exact QV.arith_u32 rfl rfl rfl rfl (by omega) (by omega) | exact QV.arith_u64 rfl rfl rfl rfl (by omega) (by omega) | exact pev_sound T rfl) ?_
                  refine RD.p T ?_
                  refine RD.nv rfl rfl rfl (Gd.none rfl) ?_
                  refine NV.s1 T ?_
                  refine ⟨Stab.nil, ?_⟩
                  refine RD.k rfl rfl ?_
                  refine hK20 _ _ _ ?_
                  refine SW.seq_k fun K21 hK21 => ?_
                  refine SW.region _ _ _ _ ?_
                  refine RL.bs T rfl rfl rfl (by exact (rfl : _ = some [])) (fun b74_2 => ?_)
                  refine RL.p T ?_
                  refine RL.sl T ?_ (l1 := 2)
                  first
                    | refine RL.apI (ki := .u8) (xs := []) (ys := ((es.drop 12).drop 4).drop 2) T (fun a0_ c0_ => ?_) (hR := fun hs => Rd.suf 2 hS4.cons.cons.cons (by omega))
                    | refine RL.apI (ki := .u8) (xs := []) (ys := (es.drop 12).drop 2) T (fun a0_ c0_ => ?_) (hR := fun hs => Rd.suf 2 hS.cons.cons.cons (by omega))
                  refine RL.p T ?_
                  refine RL.sv1 T ?_
                  refine RL.nil _ _ _ _ ?_
                  refine hK21 _ _ _ ?_
                  refine SW.seq_k fun K22 hK22 => ?_
                  refine SW.region _ _ _ _ ?_
                  refine RL.q (QV.vN T rfl rfl rfl rfl rfl (by exact (rfl : _ = [_, _, _, _, _, _, _, _, _, _, _, _, _, _, _, _]))) ?_
                  refine RL.s ?_
                  refine NV.sN T rfl rfl rfl (by exact (rfl : _ = [_, _, _, _, _, _, _, _, _, _, _, _, _, _, _, _])) (by exact (rfl : _ = [_, _, _, _, _, _, _, _, _, _, _, _, _, _, _, _])) ?_
                  refine RL.p T ?_
                  refine RL.nil _ _ _ _ ?_
                  refine hK22 _ _ _ ?_
                  refine SW.sat (fun hs => ?_)
                  refine SW.ret ?_
                  refine retQ.rk (RVs.cN T rfl rfl rfl rfl (by exact (rfl : _ = [_, _, _, _, _, _, _, _, _, _, _, _, _, _, _, _])) (RVs.t RVs.nil)) ?_
                  clear hK22 K22 hK21 K21 hK20 K20 hK19 K19 hK17 K17 hK16 K16 hK15 K15 hK14 K14 hK13 K13 hK11 K11 hK10 K10 hK9 K9 hK8 K8 hK7 K7 hK5 K5 hK4 K4 hK2 K2 hK1 K1 hK0 K0
                  first
                    | (rw [(getE_long (by omega)).1, (getE_long (by omega)).2]
                       first
                         | exact ⟨none, 0, 0, [_], rfl, rfl, Rd.nilS, rfl⟩
                         | exact ⟨none, 0, 0, [_, _], rfl, rfl, Rd.nilS, rfl⟩)
                    | (rw [(getE_short (by omega) (by omega)).1, (getE_short (by omega) (by omega)).2]
                       first
                         | exact ⟨none, 0, 0, [_], rfl, rfl, Rd.nilS, rfl⟩
                         | exact ⟨none, 0, 0, [_, _], rfl, rfl, Rd.nilS, rfl⟩)
                    | (rw [(getE_tag (by omega) (by omega) (by omega)).1, (getE_tag (by omega) (by omega) (by omega)).2]
                       exact ⟨a0_, _, c0_, [_, _, _], rfl, (by first | exact hl42' | exact hl2'), (Rd.rowh (satl (G := [_, _, _]) hs) (by repeat first | exact At.head _ _ | apply At.tail)), rfl⟩)
                    | (rw [(getE_bare (by omega) (by omega) (by omega)).1, (getE_bare (by omega) (by omega) (by omega)).2]
                       exact ⟨a0_, _, c0_, [_, _, _], rfl, (by first | exact hl42' | exact hl2'), (Rd.rowh (satl (G := [_, _, _]) hs) (by repeat first | exact At.head _ _ | apply At.tail)), rfl⟩)
                  )
               )
            ·skip
             first
              | (exfalso; first | omega | contradiction | (simp at *; done))
              | (
               refine SW.skip ?_
               refine hK14 _ _ _ ?_
               refine SW.seq_k fun K23 hK23 => ?_
               refine SW.draw [(63, 0), (64, 1), (65, 2), (66, 3), (67, 4), (68, 5), (69, 6), (70, 7), (71, 8), (72, 9), (73, 10)] [[], [0], [1, 0], [2, 1, 0], [3, 2, 1, 0], [], [5], [6, 5], [7, 6, 5], [4, 3, 2, 1, 0, 8, 7, 6, 5], [0, 1, 2, 3, 4, 5, 6, 7, 8, 9], [10, 0, 1, 2, 3, 4, 5, 6, 7, 8, 9]] mixed (by kernel_rfl) (by kernel_rfl) ?_
               refine RD.p T ?_
               refine RD.q rfl rfl (Gd.none rfl) (by first | exact (QV.indexAddr_slice T rfl rfl rfl rfl rfl (hS4.some (by omega)) (by omega) (by omega)) | exact (QV.indexAddr_slice T rfl rfl rfl rfl rfl (hS.some (by omega)) (by omega) (by omega))) ?_
               refine RD.q rfl rfl (Gd.none rfl) (by first | exact (QV.load_elem T rfl rfl rfl rfl (by repeat first | exact hS4 | apply Rd.cons | apply Rd.app) (map_as (z := bi ((es.drop 12).drop 4) 0) (by show 0 < _; omega) rfl)) | exact (QV.load_elem T rfl rfl rfl rfl (by repeat first | exact hS | apply Rd.cons | apply Rd.app) (map_as (z := bi (es.drop 12) 0) (by show 0 < _; omega) rfl))) ?_
               refine RD.q rfl rfl (Gd.none rfl) (QV.convI T rfl rfl rfl rfl (by simp only [loK]; omega) (by simp only [hiK]; omega)) ?_
               refine RD.q rfl rfl (Gd.none rfl) (by first | exact QV.arith rfl rfl rfl rfl (by omega) (by omega) | exact QV.arith_u8 rfl rfl rfl rfl (by omega) (by omega) | exact QV.arith_u16 rfl rfl rfl rfl (by omega) (by omega) | exact QV.arith_u32 rfl rfl rfl rfl (by omega) (by omega) | exact QV.arith_u64 rfl rfl rfl rfl (by omega) (by omega) | exact pev_sound T rfl) ?_
               refine RD.p T ?_
               refine RD.q rfl rfl (Gd.none rfl) (by first | exact (QV.indexAddr_slice T rfl rfl rfl rfl rfl (hS4.some (by omega)) (by omega) (by omega)) | exact (QV.indexAddr_slice T rfl rfl rfl rfl rfl (hS.some (by omega)) (by omega) (by omega))) ?_
               refine RD.q rfl rfl (Gd.none rfl) (by first | exact (QV.load_elem T rfl rfl rfl rfl (by repeat first | exact hS4 | apply Rd.cons | apply Rd.app) (map_as (z := bi ((es.drop 12).drop 4) 1) (by show 1 < _; omega) rfl)) | exact (QV.load_elem T rfl rfl rfl rfl (by repeat first | exact hS | apply Rd.cons | apply Rd.app) (map_as (z := bi (es.drop 12) 1) (by show 1 < _; omega) rfl))) ?_
               refine RD.q rfl rfl (Gd.none rfl) (QV.convI T rfl rfl rfl rfl (by simp only [loK]; omega) (by simp only [hiK]; omega)) ?_
               refine RD.q rfl rfl (Gd.none rfl) (by first | exact QV.arith rfl rfl rfl rfl (by omega) (by omega) | exact QV.arith_u8 rfl rfl rfl rfl (by omega) (by omega) | exact QV.arith_u16 rfl rfl rfl rfl (by omega) (by omega) | exact QV.arith_u32 rfl rfl rfl rfl (by omega) (by omega) | exact QV.arith_u64 rfl rfl rfl rfl (by omega) (by omega) | exact pev_sound T rfl) ?_
               refine RD.p T ?_
               refine RD.nv rfl rfl rfl (Gd.none rfl) ?_
               refine NV.s1 T ?_
               refine ⟨Stab.nil, ?_⟩
               refine RD.k rfl rfl ?_
               refine hK23 _ _ _ ?_
               refine SW.seq_k fun K24 hK24 => ?_
               refine SW.region _ _ _ _ ?_
               refine RL.bs T rfl rfl rfl (by exact (rfl : _ = some [])) (fun b74_3 => ?_)
               refine RL.p T ?_
               refine RL.sl T ?_ (l1 := 2)
               first
                 | refine RL.apI (ki := .u8) (xs := []) (ys := ((es.drop 12).drop 4).drop 2) T (fun a0_ c0_ => ?_) (hR := fun hs => Rd.suf 2 hS4.cons.cons.cons (by omega))
                 | refine RL.apI (ki := .u8) (xs := []) (ys := (es.drop 12).drop 2) T (fun a0_ c0_ => ?_) (hR := fun hs => Rd.suf 2 hS.cons.cons.cons (by omega))
               refine RL.p T ?_
               refine RL.sv1 T ?_
               refine RL.nil _ _ _ _ ?_
               refine hK24 _ _ _ ?_
               refine SW.seq_k fun K25 hK25 => ?_
               refine SW.region _ _ _ _ ?_
               refine RL.q (QV.vN T rfl rfl rfl rfl rfl (by exact (rfl : _ = [_, _, _, _, _, _, _, _, _, _, _, _, _, _, _, _]))) ?_
               refine RL.s ?_
               refine NV.sN T rfl rfl rfl (by exact (rfl : _ = [_, _, _, _, _, _, _, _, _, _, _, _, _, _, _, _])) (by exact (rfl : _ = [_, _, _, _, _, _, _, _, _, _, _, _, _, _, _, _])) ?_
               refine RL.p T ?_
               refine RL.nil _ _ _ _ ?_
               refine hK25 _ _ _ ?_
               refine SW.sat (fun hs => ?_)
               refine SW.ret ?_
               refine retQ.rk (RVs.cN T rfl rfl rfl rfl (by exact (rfl : _ = [_, _, _, _, _, _, _, _, _, _, _, _, _, _, _, _])) (RVs.t RVs.nil)) ?_
               clear hK25 K25 hK24 K24 hK23 K23 hK15 K15 hK14 K14 hK13 K13 hK11 K11 hK10 K10 hK9 K9 hK8 K8 hK7 K7 hK5 K5 hK4 K4 hK2 K2 hK1 K1 hK0 K0
               first
                 | (rw [(getE_long (by omega)).1, (getE_long (by omega)).2]
                    first
                      | exact ⟨none, 0, 0, [_], rfl, rfl, Rd.nilS, rfl⟩
                      | exact ⟨none, 0, 0, [_, _], rfl, rfl, Rd.nilS, rfl⟩)
                 | (rw [(getE_short (by omega) (by omega)).1, (getE_short (by omega) (by omega)).2]
                    first
                      | exact ⟨none, 0, 0, [_], rfl, rfl, Rd.nilS, rfl⟩
                      | exact ⟨none, 0, 0, [_, _], rfl, rfl, Rd.nilS, rfl⟩)
                 | (rw [(getE_tag (by omega) (by omega) (by omega)).1, (getE_tag (by omega) (by omega) (by omega)).2]
                    exact ⟨a0_, _, c0_, [_, _, _], rfl, (by first | exact hl42' | exact hl2'), (Rd.rowh (satl (G := [_, _, _]) hs) (by repeat first | exact At.head _ _ | apply At.tail)), rfl⟩)
                 | (rw [(getE_bare (by omega) (by omega) (by omega)).1, (getE_bare (by omega) (by omega) (by omega)).2]
                    exact ⟨a0_, _, c0_, [_, _, _], rfl, (by first | exact hl42' | exact hl2'), (Rd.rowh (satl (G := [_, _, _]) hs) (by repeat first | exact At.head _ _ | apply At.tail)), rfl⟩)
               )
            )
        ·skip
         refine SW.seq_k fun K26 hK26 => ?_
         refine SW.seq_k fun K27 hK27 => ?_
         refine SW.region _ _ _ _ ?_
         refine RL.p T ?_
         refine RL.p T ?_
         refine RL.nil _ _ _ _ ?_
         refine hK27 _ _ _ ?_
         refine SW.cs (fun hc5 => ?_) (fun hc5 => ?_)
         ·skip
          first
           | (exfalso; first | omega | contradiction | (simp at *; done))
           | (
            refine SW.skip ?_
            refine hK26 _ _ _ ?_
            refine SW.seq_k fun K28 hK28 => ?_
            refine SW.block ?_
            refine SW.draw [(18, 0), (19, 1), (20, 2), (21, 3), (22, 4), (23, 5), (24, 6), (25, 7), (26, 8), (27, 9), (28, 10), (29, 11), (30, 12), (31, 14), (32, 15)] [[], [], [], [], [2, 3], [4, 2, 3], [], [], [7], [6, 8, 7], [9, 6, 8, 7], [], [11, 0, 2, 3, 4, 5], [12, 11, 0, 2, 3, 4, 5], [], [14, 1, 0, 2, 3, 4, 5, 6, 7, 8, 9, 10, 11, 12, 13], [15, 14, 1, 0, 2, 3, 4, 5, 6, 7, 8, 9, 10, 11, 12, 13]] mixed (by kernel_rfl) (by kernel_rfl) ?_
            refine RD.p T ?_
            refine RD.p T ?_
            refine RD.p T ?_
            refine RD.p T ?_
            refine RD.q rfl rfl (Gd.none rfl) (QV.indexAddr_slice T rfl rfl rfl rfl rfl (hR.some (by omega)) (by omega) (by omega)) ?_
            refine RD.q rfl rfl (Gd.none rfl) (QV.load_elem T rfl rfl rfl rfl (by repeat first | exact hR | apply Rd.cons | apply Rd.app) (map_as (z := bi es 1) (by show 1 < _; omega) rfl)) ?_
            refine RD.p T ?_
            refine RD.p T ?_
            refine RD.q rfl rfl (Gd.none rfl) (by first | exact QV.arith rfl rfl rfl rfl (by omega) (by omega) | exact QV.arith_u8 rfl rfl rfl rfl (by omega) (by omega) | exact QV.arith_u16 rfl rfl rfl rfl (by omega) (by omega) | exact QV.arith_u32 rfl rfl rfl rfl (by omega) (by omega) | exact QV.arith_u64 rfl rfl rfl rfl (by omega) (by omega) | exact pev_sound T rfl) ?_
            refine RD.q rfl rfl (Gd.none rfl) (QV.indexAddr_slice T rfl rfl rfl rfl rfl (hR.some (by omega)) (by omega) (by omega)) ?_
            refine RD.q rfl rfl (Gd.none rfl) (QV.load_elem T rfl rfl rfl rfl (by repeat first | exact hR | apply Rd.cons | apply Rd.app) (map_as (z := bi es 7) (by show 7 < _; omega) rfl)) ?_
            refine RD.p T ?_
            refine RD.q rfl rfl (Gd.none rfl) (by first | exact QV.indexAddr_array T rfl rfl rfl rfl rfl (by omega) (by omega) | exact QV.indexAddr_slice T rfl rfl rfl rfl rfl (Rd.some (by repeat first | exact hS | apply Rd.cons | apply Rd.app) (by omega)) (by omega) (by omega)) ?_
            refine RD.p T ?_
            refine RD.nv rfl rfl rfl (Gd.none rfl) ?_
            refine NV.s1 T ?_
            refine ⟨(Stab.cons rfl (Gd.none rfl) (pev_sound T rfl) (Stab.cons rfl (Gd.none rfl) (QV.load_elem T rfl rfl rfl rfl (by repeat first | exact hR | apply Rd.cons | apply Rd.app) (map_as (z := bi es 7) (by show 7 < _; omega) rfl)) (Stab.cons rfl (Gd.none rfl) (QV.indexAddr_slice T rfl rfl rfl rfl rfl (hR.some (by omega)) (by omega) (by omega)) (Stab.cons rfl (Gd.none rfl) (by first | exact pev_sound T rfl | exact QV.arith rfl rfl rfl rfl (by omega) (by omega) | exact QV.arith_u8 rfl rfl rfl rfl (by omega) (by omega) | exact QV.arith_u16 rfl rfl rfl rfl (by omega) (by omega) | exact QV.arith_u32 rfl rfl rfl rfl (by omega) (by omega) | exact QV.arith_u64 rfl rfl rfl rfl (by omega) (by omega) ) (Stab.cons rfl (Gd.none rfl) (pev_sound T rfl) (Stab.cons rfl (Gd.none rfl) (pev_sound T rfl) (Stab.cons rfl (Gd.none rfl) (pev_sound T rfl) Stab.nil))))))), ?_⟩
            refine RD.q rfl rfl (Gd.none rfl) (by first | exact QV.indexAddr_array T rfl rfl rfl rfl rfl (by omega) (by omega) | exact QV.indexAddr_slice T rfl rfl rfl rfl rfl (Rd.some (by repeat first | exact hS | apply Rd.cons | apply Rd.app) (by omega)) (by omega) (by omega)) ?_
            refine RD.nv rfl rfl rfl (Gd.none rfl) ?_
            refine NV.s1 T ?_
            refine ⟨Stab.nil, ?_⟩
            refine RD.k rfl rfl ?_
            refine hK28 _ _ _ ?_
            refine SW.region _ _ _ _ ?_
            refine RL.p T ?_
            first | refine RL.ar ?_ | refine RL.p T ?_
            refine RL.p T ?_
            refine RL.nil _ _ _ _ ?_
            exact ⟨6 - 2, (by omega), 2, (by rfl), by omega, (.consI rfl (by first | omega | rfl) (.nil (by repeat first | exact Mx.refl | exact Mx.mix | refine Mx.put rfl ?_ | refine Mx.upd rfl ?_ | refine Mx.updl rfl ?_ | refine Mx.fin rfl ?_ | refine Mx.inner rfl ?_ | refine Mx.none ?_))), rfl, rfl⟩
            )
         ·skip
          first
           | (exfalso; first | omega | contradiction | (simp at *; done))
           | (
            refine SW.exit ?_
            refine hK8 _ _ _ ?_
            refine SW.seq_k fun K29 hK29 => ?_
            have hS := hR.suf 12 (by omega : 12 ≤ n)
            have hl2' : 0 + (n - 12 - 2) = ((es.drop 12).drop 2).length := by rw [List.length_drop, hl12]; omega
            refine SW.region _ _ _ _ ?_
            refine RL.p T ?_
            refine RL.sl T ?_ (l1 := 12)
            refine RL.p T ?_
            refine RL.nil _ _ _ _ ?_
            refine hK29 _ _ _ ?_
            refine SW.seq_k fun K30 hK30 => ?_
            refine SW.seq_k fun K31 hK31 => ?_
            refine SW.region _ _ _ _ ?_
            refine RL.p T ?_
            refine RL.ix T ?_ (hR := fun hs => (by repeat first | exact hS | apply Rd.cons | apply Rd.app))
            refine RL.le T ?_ (hR := fun hs => (by repeat first | exact hS | apply Rd.cons | apply Rd.app)) (hv := map_as (z := bi (es.drop 12) 0) (by omega) rfl)
            refine RL.p T ?_
            refine RL.p T ?_
            refine RL.join (fr1 := ?_) 4 39 true [40, 41, 42, 43] (fun hs1 hj => ?_) ?_ ?_
            rotate_left
            ·have hs1j := hs1
             try simp only [decide_eq_true_eq, Bool.not_eq_true', decide_eq_false_iff_not, Bool.not_eq_false', Int.not_lt, Int.not_le, Int.toNat_natCast, Bool.and_eq_true, Bool.or_eq_true, Bool.and_eq_false_iff, Bool.or_eq_false_iff] at hs1
             refine RL.p T ?_
             refine RL.ix T ?_ (hR := fun hs => (by repeat first | exact hS | apply Rd.cons | apply Rd.app))
             refine RL.le T ?_ (hR := fun hs => (by repeat first | exact hS | apply Rd.cons | apply Rd.app)) (hv := map_as (z := bi (es.drop 12) 1) (by omega) rfl)
             refine RL.p T ?_
             exact hj
            ·repeat first | exact Mx.refl | exact Mx.mix | refine Mx.put rfl ?_ | refine Mx.upd rfl ?_ | refine Mx.updl rfl ?_ | refine Mx.fin rfl ?_ | refine Mx.inner rfl ?_ | refine Mx.none ?_
            refine RL.and ?_
            refine RL.nil _ _ _ _ ?_
            refine hK31 _ _ _ ?_
            refine SW.cs (fun hc6 => ?_) (fun hc6 => ?_)
            ·skip
             first
              | (exfalso; first | omega | contradiction | (simp at *; done))
              | (
               refine SW.seq_k fun K32 hK32 => ?_
               refine SW.seq_k fun K33 hK33 => ?_
               refine SW.region _ _ _ _ ?_
               refine RL.p T ?_
               refine RL.p T ?_
               refine RL.p T ?_
               refine RL.nil _ _ _ _ ?_
               refine hK33 _ _ _ ?_
               refine SW.cs (fun hc7 => ?_) (fun hc7 => ?_)
               ·skip
                first
                 | (exfalso; first | omega | contradiction | (simp at *; done))
                 | (
                  refine SW.seq_k fun K34 hK34 => ?_
                  refine SW.region _ _ _ _ ?_
                  refine RL.s ?_
                  first | refine NV.buildc T rfl (rfl : _ = some [_, _, _, _, _, _, _, _, _, _, _, _, _, _, _, _]) ?_ | refine NV.buildz T rfl (rfl : _ = some [_, _, _, _, _, _, _, _, _, _, _, _, _, _, _, _]) ?_ | refine NV.pure T (rfl : _ = some (Value.agg #[_, _, _, _, _, _, _, _, _, _, _, _, _, _, _, _])) ?_
                  refine RL.s ?_
                  refine NV.sN T rfl rfl rfl (by exact (rfl : _ = [_, _, _, _, _, _, _, _, _, _, _, _, _, _, _, _])) (by exact (rfl : _ = [_, _, _, _, _, _, _, _, _, _, _, _, _, _, _, _])) ?_
                  refine RL.p T ?_
                  refine RL.nil _ _ _ _ ?_
                  refine hK34 _ _ _ ?_
                  refine SW.sat (fun hs => ?_)
                  refine SW.ret ?_
                  refine retQ.rk (RVs.cN T rfl rfl rfl rfl (by exact (rfl : _ = [_, _, _, _, _, _, _, _, _, _, _, _, _, _, _, _])) (RVs.t RVs.nil)) ?_
                  clear hK34 K34 hK33 K33 hK32 K32 hK31 K31 hK30 K30 hK29 K29 hK27 K27 hK26 K26 hK9 K9 hK8 K8 hK7 K7 hK5 K5 hK4 K4 hK2 K2 hK1 K1 hK0 K0
                  first
                    | (rw [(getE_long (by omega)).1, (getE_long (by omega)).2]
                       first
                         | exact ⟨none, 0, 0, [_], rfl, rfl, Rd.nilS, rfl⟩
                         | exact ⟨none, 0, 0, [_, _], rfl, rfl, Rd.nilS, rfl⟩)
                    | (rw [(getE_short (by omega) (by omega)).1, (getE_short (by omega) (by omega)).2]
                       first
                         | exact ⟨none, 0, 0, [_], rfl, rfl, Rd.nilS, rfl⟩
                         | exact ⟨none, 0, 0, [_, _], rfl, rfl, Rd.nilS, rfl⟩)
                    | (rw [(getE_tag (by omega) (by omega) (by omega)).1, (getE_tag (by omega) (by omega) (by omega)).2]
                       exact ⟨a0_, _, c0_, [_, _, _], rfl, (by first | exact hl42' | exact hl2'), (Rd.rowh (satl (G := [_, _, _]) hs) (by repeat first | exact At.head _ _ | apply At.tail)), rfl⟩)
                    | (rw [(getE_bare (by omega) (by omega) (by omega)).1, (getE_bare (by omega) (by omega) (by omega)).2]
                       exact ⟨a0_, _, c0_, [_, _, _], rfl, (by first | exact hl42' | exact hl2'), (Rd.rowh (satl (G := [_, _, _]) hs) (by repeat first | exact At.head _ _ | apply At.tail)), rfl⟩)
                  )
               ·skip
                first
                 | (exfalso; first | omega | contradiction | (simp at *; done))
                 | (
                  refine SW.skip ?_
                  refine hK32 _ _ _ ?_
                  refine SW.seq_k fun K35 hK35 => ?_
                  have hS4 := hS.suf 4 (by omega)
                  have hl4 : ((es.drop 12).drop 4).length = n - 12 - 4 := by rw [List.length_drop, hl12]
                  have hl42' : 0 + (n - 12 - 4 - 2) = (((es.drop 12).drop 4).drop 2).length := by rw [List.length_drop, hl4]; omega
                  refine SW.draw [(49, 0), (50, 1), (51, 2), (52, 3), (53, 4), (54, 5), (55, 6), (56, 7), (57, 8), (58, 9), (59, 10), (60, 12)] [[], [0], [1, 0], [2, 1, 0], [3, 2, 1, 0], [], [5], [6, 5], [7, 6, 5], [4, 3, 2, 1, 0, 8, 7, 6, 5], [], [10], [0, 1, 2, 3, 4, 5, 6, 7, 8, 9, 10, 11], [12, 0, 1, 2, 3, 4, 5, 6, 7, 8, 9, 10, 11]] mixed (by kernel_rfl) (by kernel_rfl) ?_
                  refine RD.p T ?_
                  refine RD.q rfl rfl (Gd.none rfl) (QV.indexAddr_slice T rfl rfl rfl rfl rfl (hS.some (by omega)) (by omega) (by omega)) ?_
                  refine RD.q rfl rfl (Gd.none rfl) (QV.load_elem T rfl rfl rfl rfl (by repeat first | exact hS | apply Rd.cons | apply Rd.app) (map_as (z := bi (es.drop 12) 2) (by show 2 < _; omega) rfl)) ?_
                  refine RD.q rfl rfl (Gd.none rfl) (QV.convI T rfl rfl rfl rfl (by simp only [loK]; omega) (by simp only [hiK]; omega)) ?_
                  refine RD.q rfl rfl (Gd.none rfl) (by first | exact QV.arith rfl rfl rfl rfl (by omega) (by omega) | exact QV.arith_u8 rfl rfl rfl rfl (by omega) (by omega) | exact QV.arith_u16 rfl rfl rfl rfl (by omega) (by omega) | exact QV.arith_u32 rfl rfl rfl rfl (by omega) (by omega) | exact QV.arith_u64 rfl rfl rfl rfl (by omega) (by omega) | exact pev_sound T rfl) ?_
                  refine RD.p T ?_
                  refine RD.q rfl rfl (Gd.none rfl) (QV.indexAddr_slice T rfl rfl rfl rfl rfl (hS.some (by omega)) (by omega) (by omega)) ?_
                  refine RD.q rfl rfl (Gd.none rfl) (QV.load_elem T rfl rfl rfl rfl (by repeat first | exact hS | apply Rd.cons | apply Rd.app) (map_as (z := bi (es.drop 12) 3) (by show 3 < _; omega) rfl)) ?_
                  refine RD.q rfl rfl (Gd.none rfl) (QV.convI T rfl rfl rfl rfl (by simp only [loK]; omega) (by simp only [hiK]; omega)) ?_
                  refine RD.q rfl rfl (Gd.none rfl) (QV.as (QV.arith_u16 rfl rfl rfl rfl (by omega) (by omega)) (show Value.int .u16 (bi (es.drop 12) 2 * 256 + bi (es.drop 12) 3) = .int .u16 (wN ((es.drop 12).drop 2)) from by rw [wN_drop])) ?_
                  refine RD.p T ?_
                  refine RD.nv rfl rfl rfl (Gd.none rfl) ?_
                  refine NV.s1 T ?_
                  refine ⟨(Stab.cons rfl (Gd.none rfl) (QV.as (QV.arith_u16 rfl rfl rfl rfl (by omega) (by omega)) (show Value.int .u16 (bi (es.drop 12) 2 * 256 + bi (es.drop 12) 3) = .int .u16 (wN ((es.drop 12).drop 2)) from by rw [wN_drop])) (Stab.cons rfl (Gd.none rfl) (QV.convI T rfl rfl rfl rfl (by simp only [loK]; omega) (by simp only [hiK]; omega)) (Stab.cons rfl (Gd.none rfl) (QV.load_elem T rfl rfl rfl rfl (by repeat first | exact hS | apply Rd.cons | apply Rd.app) (map_as (z := bi (es.drop 12) 3) (by show 3 < _; omega) rfl)) (Stab.cons rfl (Gd.none rfl) (QV.indexAddr_slice T rfl rfl rfl rfl rfl (hS.some (by omega)) (by omega) (by omega)) (Stab.cons rfl (Gd.none rfl) (pev_sound T rfl) (Stab.cons rfl (Gd.none rfl) (by first | exact pev_sound T rfl | exact QV.arith rfl rfl rfl rfl (by omega) (by omega) | exact QV.arith_u8 rfl rfl rfl rfl (by omega) (by omega) | exact QV.arith_u16 rfl rfl rfl rfl (by omega) (by omega) | exact QV.arith_u32 rfl rfl rfl rfl (by omega) (by omega) | exact QV.arith_u64 rfl rfl rfl rfl (by omega) (by omega) ) (Stab.cons rfl (Gd.none rfl) (QV.convI T rfl rfl rfl rfl (by simp only [loK]; omega) (by simp only [hiK]; omega)) (Stab.cons rfl (Gd.none rfl) (QV.load_elem T rfl rfl rfl rfl (by repeat first | exact hS | apply Rd.cons | apply Rd.app) (map_as (z := bi (es.drop 12) 2) (by show 2 < _; omega) rfl)) (Stab.cons rfl (Gd.none rfl) (QV.indexAddr_slice T rfl rfl rfl rfl rfl (hS.some (by omega)) (by omega) (by omega)) (Stab.cons rfl (Gd.none rfl) (pev_sound T rfl) Stab.nil)))))))))), ?_⟩
                  refine RD.p T ?_
                  refine RD.nv rfl rfl rfl (Gd.none rfl) ?_
                  refine NV.s1 T ?_
                  refine ⟨Stab.nil, ?_⟩
                  refine RD.k rfl rfl ?_
                  refine hK35 _ _ _ ?_
                  refine SW.region _ _ _ _ ?_
                  refine RL.p T ?_
                  refine RL.sl T ?_ (l1 := 4)
                  refine RL.p T ?_
                  refine RL.nil _ _ _ _ ?_
                  refine hK30 _ _ _ ?_
                  refine SW.seq_k fun K36 hK36 => ?_
                  refine SW.draw [(63, 0), (64, 1), (65, 2), (66, 3), (67, 4), (68, 5), (69, 6), (70, 7), (71, 8), (72, 9), (73, 10)] [[], [0], [1, 0], [2, 1, 0], [3, 2, 1, 0], [], [5], [6, 5], [7, 6, 5], [4, 3, 2, 1, 0, 8, 7, 6, 5], [0, 1, 2, 3, 4, 5, 6, 7, 8, 9], [10, 0, 1, 2, 3, 4, 5, 6, 7, 8, 9]] mixed (by kernel_rfl) (by kernel_rfl) ?_
                  refine RD.p T ?_
                  refine RD.q rfl rfl (Gd.none rfl) (by first | exact (QV.indexAddr_slice T rfl rfl rfl rfl rfl (hS4.some (by omega)) (by omega) (by omega)) | exact (QV.indexAddr_slice T rfl rfl rfl rfl rfl (hS.some (by omega)) (by omega) (by omega))) ?_
                  refine RD.q rfl rfl (Gd.none rfl) (by first | exact (QV.load_elem T rfl rfl rfl rfl (by repeat first | exact hS4 | apply Rd.cons | apply Rd.app) (map_as (z := bi ((es.drop 12).drop 4) 0) (by show 0 < _; omega) rfl)) | exact (QV.load_elem T rfl rfl rfl rfl (by repeat first | exact hS | apply Rd.cons | apply Rd.app) (map_as (z := bi (es.drop 12) 0) (by show 0 < _; omega) rfl))) ?_
                  refine RD.q rfl rfl (Gd.none rfl) (QV.convI T rfl rfl rfl rfl (by simp only [loK]; omega) (by simp only [hiK]; omega)) ?_
                  refine RD.q rfl rfl (Gd.none rfl) (by first | exact QV.arith rfl rfl rfl rfl (by omega) (by omega) | exact QV.arith_u8 rfl rfl rfl rfl (by omega) (by omega) | exact QV.arith_u16 rfl rfl rfl rfl (by omega) (by omega) | exact QV.arith_u32 rfl rfl rfl rfl (by omega) (by omega) | exact QV.arith_u64 rfl rfl rfl rfl (by omega) (by omega) | exact pev_sound T rfl) ?_
                  refine RD.p T ?_
                  refine RD.q rfl rfl (Gd.none rfl) (by first | exact (QV.indexAddr_slice T rfl rfl rfl rfl rfl (hS4.some (by omega)) (by omega) (by omega)) | exact (QV.indexAddr_slice T rfl rfl rfl rfl rfl (hS.some (by omega)) (by omega) (by omega))) ?_
                  refine RD.q rfl rfl (Gd.none rfl) (by first | exact (QV.load_elem T rfl rfl rfl rfl (by repeat first | exact hS4 | apply Rd.cons | apply Rd.app) (map_as (z := bi ((es.drop 12).drop 4) 1) (by show 1 < _; omega) rfl)) | exact (QV.load_elem T rfl rfl rfl rfl (by repeat first | exact hS | apply Rd.cons | apply Rd.app) (map_as (z := bi (es.drop 12) 1) (by show 1 < _; omega) rfl))) ?_
                  refine RD.q rfl rfl (Gd.none rfl) (QV.convI T rfl rfl rfl rfl (by simp only [loK]; omega) (by simp only [hiK]; omega)) ?_
                  refine RD.q rfl rfl (Gd.none rfl) (by first | exact QV.arith rfl rfl rfl rfl (by omega) (by omega) | exact QV.arith_u8 rfl rfl rfl rfl (by omega) (by omega) | exact QV.arith_u16 rfl rfl rfl rfl (by omega) (by omega) | exact QV.arith_u32 rfl rfl rfl rfl (by omega) (by omega) | exact QV.arith_u64 rfl rfl rfl rfl (by omega) (by omega) | exact pev_sound T rfl) ?_
                  refine RD.p T ?_
                  refine RD.nv rfl rfl rfl (Gd.none rfl) ?_
                  refine NV.s1 T ?_
                  refine ⟨Stab.nil, ?_⟩
                  refine RD.k rfl rfl ?_
                  refine hK36 _ _ _ ?_
                  refine SW.seq_k fun K37 hK37 => ?_
                  refine SW.region _ _ _ _ ?_
                  refine RL.bs T rfl rfl rfl (by exact (rfl : _ = some [])) (fun b74_4 => ?_)
                  refine RL.p T ?_
                  refine RL.sl T ?_ (l1 := 2)
                  first
                    | refine RL.apI (ki := .u8) (xs := []) (ys := ((es.drop 12).drop 4).drop 2) T (fun a0_ c0_ => ?_) (hR := fun hs => Rd.suf 2 hS4.cons.cons.cons (by omega))
                    | refine RL.apI (ki := .u8) (xs := []) (ys := (es.drop 12).drop 2) T (fun a0_ c0_ => ?_) (hR := fun hs => Rd.suf 2 hS.cons.cons.cons (by omega))
                  refine RL.p T ?_
                  refine RL.sv1 T ?_
                  refine RL.nil _ _ _ _ ?_
                  refine hK37 _ _ _ ?_
                  refine SW.seq_k fun K38 hK38 => ?_
                  refine SW.region _ _ _ _ ?_
                  refine RL.q (QV.vN T rfl rfl rfl rfl rfl (by exact (rfl : _ = [_, _, _, _, _, _, _, _, _, _, _, _, _, _, _, _]))) ?_
                  refine RL.s ?_
                  refine NV.sN T rfl rfl rfl (by exact (rfl : _ = [_, _, _, _, _, _, _, _, _, _, _, _, _, _, _, _])) (by exact (rfl : _ = [_, _, _, _, _, _, _, _, _, _, _, _, _, _, _, _])) ?_
                  refine RL.p T ?_
                  refine RL.nil _ _ _ _ ?_
                  refine hK38 _ _ _ ?_
                  refine SW.sat (fun hs => ?_)
                  refine SW.ret ?_
                  refine retQ.rk (RVs.cN T rfl rfl rfl rfl (by exact (rfl : _ = [_, _, _, _, _, _, _, _, _, _, _, _, _, _, _, _])) (RVs.t RVs.nil)) ?_
                  clear hK38 K38 hK37 K37 hK36 K36 hK35 K35 hK33 K33 hK32 K32 hK31 K31 hK30 K30 hK29 K29 hK27 K27 hK26 K26 hK9 K9 hK8 K8 hK7 K7 hK5 K5 hK4 K4 hK2 K2 hK1 K1 hK0 K0
                  first
                    | (rw [(getE_long (by omega)).1, (getE_long (by omega)).2]
                       first
                         | exact ⟨none, 0, 0, [_], rfl, rfl, Rd.nilS, rfl⟩
                         | exact ⟨none, 0, 0, [_, _], rfl, rfl, Rd.nilS, rfl⟩)
                    | (rw [(getE_short (by omega) (by omega)).1, (getE_short (by omega) (by omega)).2]
                       first
                         | exact ⟨none, 0, 0, [_], rfl, rfl, Rd.nilS, rfl⟩
                         | exact ⟨none, 0, 0, [_, _], rfl, rfl, Rd.nilS, rfl⟩)
                    | (rw [(getE_tag (by omega) (by omega) (by omega)).1, (getE_tag (by omega) (by omega) (by omega)).2]
                       exact ⟨a0_, _, c0_, [_, _, _], rfl, (by first | exact hl42' | exact hl2'), (Rd.rowh (satl (G := [_, _, _]) hs) (by repeat first | exact At.head _ _ | apply At.tail)), rfl⟩)
                    | (rw [(getE_bare (by omega) (by omega) (by omega)).1, (getE_bare (by omega) (by omega) (by omega)).2]
                       exact ⟨a0_, _, c0_, [_, _, _], rfl, (by first | exact hl42' | exact hl2'), (Rd.rowh (satl (G := [_, _, _]) hs) (by repeat first | exact At.head _ _ | apply At.tail)), rfl⟩)
                  )
               )
            ·skip
             first
              | (exfalso; first | omega | contradiction | (simp at *; done))
              | (
               refine SW.skip ?_
               refine hK30 _ _ _ ?_
               refine SW.seq_k fun K39 hK39 => ?_
               refine SW.draw [(63, 0), (64, 1), (65, 2), (66, 3), (67, 4), (68, 5), (69, 6), (70, 7), (71, 8), (72, 9), (73, 10)] [[], [0], [1, 0], [2, 1, 0], [3, 2, 1, 0], [], [5], [6, 5], [7, 6, 5], [4, 3, 2, 1, 0, 8, 7, 6, 5], [0, 1, 2, 3, 4, 5, 6, 7, 8, 9], [10, 0, 1, 2, 3, 4, 5, 6, 7, 8, 9]] mixed (by kernel_rfl) (by kernel_rfl) ?_
               refine RD.p T ?_
               refine RD.q rfl rfl (Gd.none rfl) (by first | exact (QV.indexAddr_slice T rfl rfl rfl rfl rfl (hS4.some (by omega)) (by omega) (by omega)) | exact (QV.indexAddr_slice T rfl rfl rfl rfl rfl (hS.some (by omega)) (by omega) (by omega))) ?_
               refine RD.q rfl rfl (Gd.none rfl) (by first | exact (QV.load_elem T rfl rfl rfl rfl (by repeat first | exact hS4 | apply Rd.cons | apply Rd.app) (map_as (z := bi ((es.drop 12).drop 4) 0) (by show 0 < _; omega) rfl)) | exact (QV.load_elem T rfl rfl rfl rfl (by repeat first | exact hS | apply Rd.cons | apply Rd.app) (map_as (z := bi (es.drop 12) 0) (by show 0 < _; omega) rfl))) ?_
               refine RD.q rfl rfl (Gd.none rfl) (QV.convI T rfl rfl rfl rfl (by simp only [loK]; omega) (by simp only [hiK]; omega)) ?_
               refine RD.q rfl rfl (Gd.none rfl) (by first | exact QV.arith rfl rfl rfl rfl (by omega) (by omega) | exact QV.arith_u8 rfl rfl rfl rfl (by omega) (by omega) | exact QV.arith_u16 rfl rfl rfl rfl (by omega) (by omega) | exact QV.arith_u32 rfl rfl rfl rfl (by omega) (by omega) | exact QV.arith_u64 rfl rfl rfl rfl (by omega) (by omega) | exact pev_sound T rfl) ?_
               refine RD.p T ?_
               refine RD.q rfl rfl (Gd.none rfl) (by first | exact (QV.indexAddr_slice T rfl rfl rfl rfl rfl (hS4.some (by omega)) (by omega) (by omega)) | exact (QV.indexAddr_slice T rfl rfl rfl rfl rfl (hS.some (by omega)) (by omega) (by omega))) ?_
               refine RD.q rfl rfl (Gd.none rfl) (by first | exact (QV.load_elem T rfl rfl rfl rfl (by repeat first | exact hS4 | apply Rd.cons | apply Rd.app) (map_as (z := bi ((es.drop 12).drop 4) 1) (by show 1 < _; omega) rfl)) | exact (QV.load_elem T rfl rfl rfl rfl (by repeat first | exact hS | apply Rd.cons | apply Rd.app) (map_as (z := bi (es.drop 12) 1) (by show 1 < _; omega) rfl))) ?_
               refine RD.q rfl rfl (Gd.none rfl) (QV.convI T rfl rfl rfl rfl (by simp only [loK]; omega) (by simp only [hiK]; omega)) ?_
               refine RD.q rfl rfl (Gd.none rfl) (by first | exact QV.arith rfl rfl rfl rfl (by omega) (by omega) | exact QV.arith_u8 rfl rfl rfl rfl (by omega) (by omega) | exact QV.arith_u16 rfl rfl rfl rfl (by omega) (by omega) | exact QV.arith_u32 rfl rfl rfl rfl (by omega) (by omega) | exact QV.arith_u64 rfl rfl rfl rfl (by omega) (by omega) | exact pev_sound T rfl) ?_
               refine RD.p T ?_
               refine RD.nv rfl rfl rfl (Gd.none rfl) ?_
               refine NV.s1 T ?_
               refine ⟨Stab.nil, ?_⟩
               refine RD.k rfl rfl ?_
               refine hK39 _ _ _ ?_
               refine SW.seq_k fun K40 hK40 => ?_
               refine SW.region _ _ _ _ ?_
               refine RL.bs T rfl rfl rfl (by exact (rfl : _ = some [])) (fun b74_5 => ?_)
               refine RL.p T ?_
               refine RL.sl T ?_ (l1 := 2)
               first
                 | refine RL.apI (ki := .u8) (xs := []) (ys := ((es.drop 12).drop 4).drop 2) T (fun a0_ c0_ => ?_) (hR := fun hs => Rd.suf 2 hS4.cons.cons.cons (by omega))
                 | refine RL.apI (ki := .u8) (xs := []) (ys := (es.drop 12).drop 2) T (fun a0_ c0_ => ?_) (hR := fun hs => Rd.suf 2 hS.cons.cons.cons (by omega))
               refine RL.p T ?_
               refine RL.sv1 T ?_
               refine RL.nil _ _ _ _ ?_
               refine hK40 _ _ _ ?_
               refine SW.seq_k fun K41 hK41 => ?_
               refine SW.region _ _ _ _ ?_
               refine RL.q (QV.vN T rfl rfl rfl rfl rfl (by exact (rfl : _ = [_, _, _, _, _, _, _, _, _, _, _, _, _, _, _, _]))) ?_
               refine RL.s ?_
               refine NV.sN T rfl rfl rfl (by exact (rfl : _ = [_, _, _, _, _, _, _, _, _, _, _, _, _, _, _, _])) (by exact (rfl : _ = [_, _, _, _, _, _, _, _, _, _, _, _, _, _, _, _])) ?_
               refine RL.p T ?_
               refine RL.nil _ _ _ _ ?_
               refine hK41 _ _ _ ?_
               refine SW.sat (fun hs => ?_)
               refine SW.ret ?_
               refine retQ.rk (RVs.cN T rfl rfl rfl rfl (by exact (rfl : _ = [_, _, _, _, _, _, _, _, _, _, _, _, _, _, _, _])) (RVs.t RVs.nil)) ?_
               clear hK41 K41 hK40 K40 hK39 K39 hK31 K31 hK30 K30 hK29 K29 hK27 K27 hK26 K26 hK9 K9 hK8 K8 hK7 K7 hK5 K5 hK4 K4 hK2 K2 hK1 K1 hK0 K0
               first
                 | (rw [(getE_long (by omega)).1, (getE_long (by omega)).2]
                    first
                      | exact ⟨none, 0, 0, [_], rfl, rfl, Rd.nilS, rfl⟩
                      | exact ⟨none, 0, 0, [_, _], rfl, rfl, Rd.nilS, rfl⟩)
                 | (rw [(getE_short (by omega) (by omega)).1, (getE_short (by omega) (by omega)).2]
                    first
                      | exact ⟨none, 0, 0, [_], rfl, rfl, Rd.nilS, rfl⟩
                      | exact ⟨none, 0, 0, [_, _], rfl, rfl, Rd.nilS, rfl⟩)
                 | (rw [(getE_tag (by omega) (by omega) (by omega)).1, (getE_tag (by omega) (by omega) (by omega)).2]
                    exact ⟨a0_, _, c0_, [_, _, _], rfl, (by first | exact hl42' | exact hl2'), (Rd.rowh (satl (G := [_, _, _]) hs) (by repeat first | exact At.head _ _ | apply At.tail)), rfl⟩)
                 | (rw [(getE_bare (by omega) (by omega) (by omega)).1, (getE_bare (by omega) (by omega) (by omega)).2]
                    exact ⟨a0_, _, c0_, [_, _, _], rfl, (by first | exact hl42' | exact hl2'), (Rd.rowh (satl (G := [_, _, _]) hs) (by repeat first | exact At.head _ _ | apply At.tail)), rfl⟩)
               )
            )
        ·skip
         refine SW.seq_k fun K42 hK42 => ?_
         refine SW.seq_k fun K43 hK43 => ?_
         refine SW.region _ _ _ _ ?_
         refine RL.p T ?_
         refine RL.p T ?_
         refine RL.nil _ _ _ _ ?_
         refine hK43 _ _ _ ?_
         refine SW.cs (fun hc8 => ?_) (fun hc8 => ?_)
         ·skip
          first
           | (exfalso; first | omega | contradiction | (simp at *; done))
           | (
            refine SW.skip ?_
            refine hK42 _ _ _ ?_
            refine SW.seq_k fun K44 hK44 => ?_
            refine SW.block ?_
            refine SW.draw [(18, 0), (19, 1), (20, 2), (21, 3), (22, 4), (23, 5), (24, 6), (25, 7), (26, 8), (27, 9), (28, 10), (29, 11), (30, 12), (31, 14), (32, 15)] [[], [], [], [], [2, 3], [4, 2, 3], [], [], [7], [6, 8, 7], [9, 6, 8, 7], [], [11, 0, 2, 3, 4, 5], [12, 11, 0, 2, 3, 4, 5], [], [14, 1, 0, 2, 3, 4, 5, 6, 7, 8, 9, 10, 11, 12, 13], [15, 14, 1, 0, 2, 3, 4, 5, 6, 7, 8, 9, 10, 11, 12, 13]] mixed (by kernel_rfl) (by kernel_rfl) ?_
            refine RD.p T ?_
            refine RD.p T ?_
            refine RD.p T ?_
            refine RD.p T ?_
            refine RD.q rfl rfl (Gd.none rfl) (QV.indexAddr_slice T rfl rfl rfl rfl rfl (hR.some (by omega)) (by omega) (by omega)) ?_
            refine RD.q rfl rfl (Gd.none rfl) (QV.load_elem T rfl rfl rfl rfl (by repeat first | exact hR | apply Rd.cons | apply Rd.app) (map_as (z := bi es 2) (by show 2 < _; omega) rfl)) ?_
            refine RD.p T ?_
            refine RD.p T ?_
            refine RD.q rfl rfl (Gd.none rfl) (by first | exact QV.arith rfl rfl rfl rfl (by omega) (by omega) | exact QV.arith_u8 rfl rfl rfl rfl (by omega) (by omega) | exact QV.arith_u16 rfl rfl rfl rfl (by omega) (by omega) | exact QV.arith_u32 rfl rfl rfl rfl (by omega) (by omega) | exact QV.arith_u64 rfl rfl rfl rfl (by omega) (by omega) | exact pev_sound T rfl) ?_
            refine RD.q rfl rfl (Gd.none rfl) (QV.indexAddr_slice T rfl rfl rfl rfl rfl (hR.some (by omega)) (by omega) (by omega)) ?_
            refine RD.q rfl rfl (Gd.none rfl) (QV.load_elem T rfl rfl rfl rfl (by repeat first | exact hR | apply Rd.cons | apply Rd.app) (map_as (z := bi es 8) (by show 8 < _; omega) rfl)) ?_
            refine RD.p T ?_
            refine RD.q rfl rfl (Gd.none rfl) (by first | exact QV.indexAddr_array T rfl rfl rfl rfl rfl (by omega) (by omega) | exact QV.indexAddr_slice T rfl rfl rfl rfl rfl (Rd.some (by repeat first | exact hS | apply Rd.cons | apply Rd.app) (by omega)) (by omega) (by omega)) ?_
            refine RD.p T ?_
            refine RD.nv rfl rfl rfl (Gd.none rfl) ?_
            refine NV.s1 T ?_
            refine ⟨(Stab.cons rfl (Gd.none rfl) (pev_sound T rfl) (Stab.cons rfl (Gd.none rfl) (QV.load_elem T rfl rfl rfl rfl (by repeat first | exact hR | apply Rd.cons | apply Rd.app) (map_as (z := bi es 8) (by show 8 < _; omega) rfl)) (Stab.cons rfl (Gd.none rfl) (QV.indexAddr_slice T rfl rfl rfl rfl rfl (hR.some (by omega)) (by omega) (by omega)) (Stab.cons rfl (Gd.none rfl) (by first | exact pev_sound T rfl | exact QV.arith rfl rfl rfl rfl (by omega) (by omega) | exact QV.arith_u8 rfl rfl rfl rfl (by omega) (by omega) | exact QV.arith_u16 rfl rfl rfl rfl (by omega) (by omega) | exact QV.arith_u32 rfl rfl rfl rfl (by omega) (by omega) | exact QV.arith_u64 rfl rfl rfl rfl (by omega) (by omega) ) (Stab.cons rfl (Gd.none rfl) (pev_sound T rfl) (Stab.cons rfl (Gd.none rfl) (pev_sound T rfl) (Stab.cons rfl (Gd.none rfl) (pev_sound T rfl) Stab.nil))))))), ?_⟩
            refine RD.q rfl rfl (Gd.none rfl) (by first | exact QV.indexAddr_array T rfl rfl rfl rfl rfl (by omega) (by omega) | exact QV.indexAddr_slice T rfl rfl rfl rfl rfl (Rd.some (by repeat first | exact hS | apply Rd.cons | apply Rd.app) (by omega)) (by omega) (by omega)) ?_
            refine RD.nv rfl rfl rfl (Gd.none rfl) ?_
            refine NV.s1 T ?_
            refine ⟨Stab.nil, ?_⟩
            refine RD.k rfl rfl ?_
            refine hK44 _ _ _ ?_
            refine SW.region _ _ _ _ ?_
            refine RL.p T ?_
            first | refine RL.ar ?_ | refine RL.p T ?_
            refine RL.p T ?_
            refine RL.nil _ _ _ _ ?_
            exact ⟨6 - 3, (by omega), 3, (by rfl), by omega, (.consI rfl (by first | omega | rfl) (.nil (by repeat first | exact Mx.refl | exact Mx.mix | refine Mx.put rfl ?_ | refine Mx.upd rfl ?_ | refine Mx.updl rfl ?_ | refine Mx.fin rfl ?_ | refine Mx.inner rfl ?_ | refine Mx.none ?_))), rfl, rfl⟩
            )
         ·skip
          first
           | (exfalso; first | omega | contradiction | (simp at *; done))
           | (
            refine SW.exit ?_
            refine hK8 _ _ _ ?_
            refine SW.seq_k fun K45 hK45 => ?_
            have hS := hR.suf 12 (by omega : 12 ≤ n)
            have hl2' : 0 + (n - 12 - 2) = ((es.drop 12).drop 2).length := by rw [List.length_drop, hl12]; omega
            refine SW.region _ _ _ _ ?_
            refine RL.p T ?_
            refine RL.sl T ?_ (l1 := 12)
            refine RL.p T ?_
            refine RL.nil _ _ _ _ ?_
            refine hK45 _ _ _ ?_
            refine SW.seq_k fun K46 hK46 => ?_
            refine SW.seq_k fun K47 hK47 => ?_
            refine SW.region _ _ _ _ ?_
            refine RL.p T ?_
            refine RL.ix T ?_ (hR := fun hs => (by repeat first | exact hS | apply Rd.cons | apply Rd.app))
            refine RL.le T ?_ (hR := fun hs => (by repeat first | exact hS | apply Rd.cons | apply Rd.app)) (hv := map_as (z := bi (es.drop 12) 0) (by omega) rfl)
            refine RL.p T ?_
            refine RL.p T ?_
            refine RL.join (fr1 := ?_) 4 39 true [40, 41, 42, 43] (fun hs2 hj => ?_) ?_ ?_
            rotate_left
            ·have hs2j := hs2
             try simp only [decide_eq_true_eq, Bool.not_eq_true', decide_eq_false_iff_not, Bool.not_eq_false', Int.not_lt, Int.not_le, Int.toNat_natCast, Bool.and_eq_true, Bool.or_eq_true, Bool.and_eq_false_iff, Bool.or_eq_false_iff] at hs2
             refine RL.p T ?_
             refine RL.ix T ?_ (hR := fun hs => (by repeat first | exact hS | apply Rd.cons | apply Rd.app))
             refine RL.le T ?_ (hR := fun hs => (by repeat first | exact hS | apply Rd.cons | apply Rd.app)) (hv := map_as (z := bi (es.drop 12) 1) (by omega) rfl)
             refine RL.p T ?_
             exact hj
            ·repeat first | exact Mx.refl | exact Mx.mix | refine Mx.put rfl ?_ | refine Mx.upd rfl ?_ | refine Mx.updl rfl ?_ | refine Mx.fin rfl ?_ | refine Mx.inner rfl ?_ | refine Mx.none ?_
            refine RL.and ?_
            refine RL.nil _ _ _ _ ?_
            refine hK47 _ _ _ ?_
            refine SW.cs (fun hc9 => ?_) (fun hc9 => ?_)
            ·skip
             first
              | (exfalso; first | omega | contradiction | (simp at *; done))
              | (
               refine SW.seq_k fun K48 hK48 => ?_
               refine SW.seq_k fun K49 hK49 => ?_
               refine SW.region _ _ _ _ ?_
               refine RL.p T ?_
               refine RL.p T ?_
               refine RL.p T ?_
               refine RL.nil _ _ _ _ ?_
               refine hK49 _ _ _ ?_
               refine SW.cs (fun hc10 => ?_) (fun hc10 => ?_)
               ·skip
                first
                 | (exfalso; first | omega | contradiction | (simp at *; done))
                 | (
                  refine SW.seq_k fun K50 hK50 => ?_
                  refine SW.region _ _ _ _ ?_
                  refine RL.s ?_
                  first | refine NV.buildc T rfl (rfl : _ = some [_, _, _, _, _, _, _, _, _, _, _, _, _, _, _, _]) ?_ | refine NV.buildz T rfl (rfl : _ = some [_, _, _, _, _, _, _, _, _, _, _, _, _, _, _, _]) ?_ | refine NV.pure T (rfl : _ = some (Value.agg #[_, _, _, _, _, _, _, _, _, _, _, _, _, _, _, _])) ?_
                  refine RL.s ?_
                  refine NV.sN T rfl rfl rfl (by exact (rfl : _ = [_, _, _, _, _, _, _, _, _, _, _, _, _, _, _, _])) (by exact (rfl : _ = [_, _, _, _, _, _, _, _, _, _, _, _, _, _, _, _])) ?_
                  refine RL.p T ?_
                  refine RL.nil _ _ _ _ ?_
                  refine hK50 _ _ _ ?_
                  refine SW.sat (fun hs => ?_)
                  refine SW.ret ?_
                  refine retQ.rk (RVs.cN T rfl rfl rfl rfl (by exact (rfl : _ = [_, _, _, _, _, _, _, _, _, _, _, _, _, _, _, _])) (RVs.t RVs.nil)) ?_
                  clear hK50 K50 hK49 K49 hK48 K48 hK47 K47 hK46 K46 hK45 K45 hK43 K43 hK42 K42 hK9 K9 hK8 K8 hK7 K7 hK5 K5 hK4 K4 hK2 K2 hK1 K1 hK0 K0
                  first
                    | (rw [(getE_long (by omega)).1, (getE_long (by omega)).2]
                       first
                         | exact ⟨none, 0, 0, [_], rfl, rfl, Rd.nilS, rfl⟩
                         | exact ⟨none, 0, 0, [_, _], rfl, rfl, Rd.nilS, rfl⟩)
                    | (rw [(getE_short (by omega) (by omega)).1, (getE_short (by omega) (by omega)).2]
                       first
                         | exact ⟨none, 0, 0, [_], rfl, rfl, Rd.nilS, rfl⟩
                         | exact ⟨none, 0, 0, [_, _], rfl, rfl, Rd.nilS, rfl⟩)
                    | (rw [(getE_tag (by omega) (by omega) (by omega)).1, (getE_tag (by omega) (by omega) (by omega)).2]
                       exact ⟨a0_, _, c0_, [_, _, _], rfl, (by first | exact hl42' | exact hl2'), (Rd.rowh (satl (G := [_, _, _]) hs) (by repeat first | exact At.head _ _ | apply At.tail)), rfl⟩)
                    | (rw [(getE_bare (by omega) (by omega) (by omega)).1, (getE_bare (by omega) (by omega) (by omega)).2]
                       exact ⟨a0_, _, c0_, [_, _, _], rfl, (by first | exact hl42' | exact hl2'), (Rd.rowh (satl (G := [_, _, _]) hs) (by repeat first | exact At.head _ _ | apply At.tail)), rfl⟩)
                  )
               ·skip
                first
                 | (exfalso; first | omega | contradiction | (simp at *; done))
                 | (
                  refine SW.skip ?_
                  refine hK48 _ _ _ ?_
                  refine SW.seq_k fun K51 hK51 => ?_
                  have hS4 := hS.suf 4 (by omega)
                  have hl4 : ((es.drop 12).drop 4).length = n - 12 - 4 := by rw [List.length_drop, hl12]
                  have hl42' : 0 + (n - 12 - 4 - 2) = (((es.drop 12).drop 4).drop 2).length := by rw [List.length_drop, hl4]; omega
                  refine SW.draw [(49, 0), (50, 1), (51, 2), (52, 3), (53, 4), (54, 5), (55, 6), (56, 7), (57, 8), (58, 9), (59, 10), (60, 12)] [[], [0], [1, 0], [2, 1, 0], [3, 2, 1, 0], [], [5], [6, 5], [7, 6, 5], [4, 3, 2, 1, 0, 8, 7, 6, 5], [], [10], [0, 1, 2, 3, 4, 5, 6, 7, 8, 9, 10, 11], [12, 0, 1, 2, 3, 4, 5, 6, 7, 8, 9, 10, 11]] mixed (by kernel_rfl) (by kernel_rfl) ?_
                  refine RD.p T ?_
                  refine RD.q rfl rfl (Gd.none rfl) (QV.indexAddr_slice T rfl rfl rfl rfl rfl (hS.some (by omega)) (by omega) (by omega)) ?_
                  refine RD.q rfl rfl (Gd.none rfl) (QV.load_elem T rfl rfl rfl rfl (by repeat first | exact hS | apply Rd.cons | apply Rd.app) (map_as (z := bi (es.drop 12) 2) (by show 2 < _; omega) rfl)) ?_
                  refine RD.q rfl rfl (Gd.none rfl) (QV.convI T rfl rfl rfl rfl (by simp only [loK]; omega) (by simp only [hiK]; omega)) ?_
                  refine RD.q rfl rfl (Gd.none rfl) (by first | exact QV.arith rfl rfl rfl rfl (by omega) (by omega) | exact QV.arith_u8 rfl rfl rfl rfl (by omega) (by omega) | exact QV.arith_u16 rfl rfl rfl rfl (by omega) (by omega) | exact QV.arith_u32 rfl rfl rfl rfl (by omega) (by omega) | exact QV.arith_u64 rfl rfl rfl rfl (by omega) (by omega) | exact pev_sound T rfl) ?_
                  refine RD.p T ?_
                  refine RD.q rfl rfl (Gd.none rfl) (QV.indexAddr_slice T rfl rfl rfl rfl rfl (hS.some (by omega)) (by omega) (by omega)) ?_
                  refine RD.q rfl rfl (Gd.none rfl) (QV.load_elem T rfl rfl rfl rfl (by repeat first | exact hS | apply Rd.cons | apply Rd.app) (map_as (z := bi (es.drop 12) 3) (by show 3 < _; omega) rfl)) ?_
                  refine RD.q rfl rfl (Gd.none rfl) (QV.convI T rfl rfl rfl rfl (by simp only [loK]; omega) (by simp only [hiK]; omega)) ?_
                  refine RD.q rfl rfl (Gd.none rfl) (QV.as (QV.arith_u16 rfl rfl rfl rfl (by omega) (by omega)) (show Value.int .u16 (bi (es.drop 12) 2 * 256 + bi (es.drop 12) 3) = .int .u16 (wN ((es.drop 12).drop 2)) from by rw [wN_drop])) ?_
                  refine RD.p T ?_
                  refine RD.nv rfl rfl rfl (Gd.none rfl) ?_
                  refine NV.s1 T ?_
                  refine ⟨(Stab.cons rfl (Gd.none rfl) (QV.as (QV.arith_u16 rfl rfl rfl rfl (by omega) (by omega)) (show Value.int .u16 (bi (es.drop 12) 2 * 256 + bi (es.drop 12) 3) = .int .u16 (wN ((es.drop 12).drop 2)) from by rw [wN_drop])) (Stab.cons rfl (Gd.none rfl) (QV.convI T rfl rfl rfl rfl (by simp only [loK]; omega) (by simp only [hiK]; omega)) (Stab.cons rfl (Gd.none rfl) (QV.load_elem T rfl rfl rfl rfl (by repeat first | exact hS | apply Rd.cons | apply Rd.app) (map_as (z := bi (es.drop 12) 3) (by show 3 < _; omega) rfl)) (Stab.cons rfl (Gd.none rfl) (QV.indexAddr_slice T rfl rfl rfl rfl rfl (hS.some (by omega)) (by omega) (by omega)) (Stab.cons rfl (Gd.none rfl) (pev_sound T rfl) (Stab.cons rfl (Gd.none rfl) (by first | exact pev_sound T rfl | exact QV.arith rfl rfl rfl rfl (by omega) (by omega) | exact QV.arith_u8 rfl rfl rfl rfl (by omega) (by omega) | exact QV.arith_u16 rfl rfl rfl rfl (by omega) (by omega) | exact QV.arith_u32 rfl rfl rfl rfl (by omega) (by omega) | exact QV.arith_u64 rfl rfl rfl rfl (by omega) (by omega) ) (Stab.cons rfl (Gd.none rfl) (QV.convI T rfl rfl rfl rfl (by simp only [loK]; omega) (by simp only [hiK]; omega)) (Stab.cons rfl (Gd.none rfl) (QV.load_elem T rfl rfl rfl rfl (by repeat first | exact hS | apply Rd.cons | apply Rd.app) (map_as (z := bi (es.drop 12) 2) (by show 2 < _; omega) rfl)) (Stab.cons rfl (Gd.none rfl) (QV.indexAddr_slice T rfl rfl rfl rfl rfl (hS.some (by omega)) (by omega) (by omega)) (Stab.cons rfl (Gd.none rfl) (pev_sound T rfl) Stab.nil)))))))))), ?_⟩
                  refine RD.p T ?_
                  refine RD.nv rfl rfl rfl (Gd.none rfl) ?_
                  refine NV.s1 T ?_
                  refine ⟨Stab.nil, ?_⟩
                  refine RD.k rfl rfl ?_
                  refine hK51 _ _ _ ?_
                  refine SW.region _ _ _ _ ?_
                  refine RL.p T ?_
                  refine RL.sl T ?_ (l1 := 4)
                  refine RL.p T ?_
                  refine RL.nil _ _ _ _ ?_
                  refine hK46 _ _ _ ?_
                  refine SW.seq_k fun K52 hK52 => ?_
                  refine SW.draw [(63, 0), (64, 1), (65, 2), (66, 3), (67, 4), (68, 5), (69, 6), (70, 7), (71, 8), (72, 9), (73, 10)] [[], [0], [1, 0], [2, 1, 0], [3, 2, 1, 0], [], [5], [6, 5], [7, 6, 5], [4, 3, 2, 1, 0, 8, 7, 6, 5], [0, 1, 2, 3, 4, 5, 6, 7, 8, 9], [10, 0, 1, 2, 3, 4, 5, 6, 7, 8, 9]] mixed (by kernel_rfl) (by kernel_rfl) ?_
                  refine RD.p T ?_
                  refine RD.q rfl rfl (Gd.none rfl) (by first | exact (QV.indexAddr_slice T rfl rfl rfl rfl rfl (hS4.some (by omega)) (by omega) (by omega)) | exact (QV.indexAddr_slice T rfl rfl rfl rfl rfl (hS.some (by omega)) (by omega) (by omega))) ?_
                  refine RD.q rfl rfl (Gd.none rfl) (by first | exact (QV.load_elem T rfl rfl rfl rfl (by repeat first | exact hS4 | apply Rd.cons | apply Rd.app) (map_as (z := bi ((es.drop 12).drop 4) 0) (by show 0 < _; omega) rfl)) | exact (QV.load_elem T rfl rfl rfl rfl (by repeat first | exact hS | apply Rd.cons | apply Rd.app) (map_as (z := bi (es.drop 12) 0) (by show 0 < _; omega) rfl))) ?_
                  refine RD.q rfl rfl (Gd.none rfl) (QV.convI T rfl rfl rfl rfl (by simp only [loK]; omega) (by simp only [hiK]; omega)) ?_
                  refine RD.q rfl rfl (Gd.none rfl) (by first | exact QV.arith rfl rfl rfl rfl (by omega) (by omega) | exact QV.arith_u8 rfl rfl rfl rfl (by omega) (by omega) | exact QV.arith_u16 rfl rfl rfl rfl (by omega) (by omega) | exact QV.arith_u32 rfl rfl rfl rfl (by omega) (by omega) | exact QV.arith_u64 rfl rfl rfl rfl (by omega) (by omega) | exact pev_sound T rfl) ?_
                  refine RD.p T ?_
                  refine RD.q rfl rfl (Gd.none rfl) (by first | exact (QV.indexAddr_slice T rfl rfl rfl rfl rfl (hS4.some (by omega)) (by omega) (by omega)) | exact (QV.indexAddr_slice T rfl rfl rfl rfl rfl (hS.some (by omega)) (by omega) (by omega))) ?_
                  refine RD.q rfl rfl (Gd.none rfl) (by first | exact (QV.load_elem T rfl rfl rfl rfl (by repeat first | exact hS4 | apply Rd.cons | apply Rd.app) (map_as (z := bi ((es.drop 12).drop 4) 1) (by show 1 < _; omega) rfl)) | exact (QV.load_elem T rfl rfl rfl rfl (by repeat first | exact hS | apply Rd.cons | apply Rd.app) (map_as (z := bi (es.drop 12) 1) (by show 1 < _; omega) rfl))) ?_
                  refine RD.q rfl rfl (Gd.none rfl) (QV.convI T rfl rfl rfl rfl (by simp only [loK]; omega) (by simp only [hiK]; omega)) ?_
                  refine RD.q rfl rfl (Gd.none rfl) (by first | exact QV.arith rfl rfl rfl rfl (by omega) (by omega) | exact QV.arith_u8 rfl rfl rfl rfl (by omega) (by omega) | exact QV.arith_u16 rfl rfl rfl rfl (by omega) (by omega) | exact QV.arith_u32 rfl rfl rfl rfl (by omega) (by omega) | exact QV.arith_u64 rfl rfl rfl rfl (by omega) (by omega) | exact pev_sound T rfl) ?_
                  refine RD.p T ?_
                  refine RD.nv rfl rfl rfl (Gd.none rfl) ?_
                  refine NV.s1 T ?_
                  refine ⟨Stab.nil, ?_⟩
                  refine RD.k rfl rfl ?_
                  refine hK52 _ _ _ ?_
                  refine SW.seq_k fun K53 hK53 => ?_
                  refine SW.region _ _ _ _ ?_
                  refine RL.bs T rfl rfl rfl (by exact (rfl : _ = some [])) (fun b74_6 => ?_)
                  refine RL.p T ?_
                  refine RL.sl T ?_ (l1 := 2)
                  first
                    | refine RL.apI (ki := .u8) (xs := []) (ys := ((es.drop 12).drop 4).drop 2) T (fun a0_ c0_ => ?_) (hR := fun hs => Rd.suf 2 hS4.cons.cons.cons (by omega))
                    | refine RL.apI (ki := .u8) (xs := []) (ys := (es.drop 12).drop 2) T (fun a0_ c0_ => ?_) (hR := fun hs => Rd.suf 2 hS.cons.cons.cons (by omega))
                  refine RL.p T ?_
                  refine RL.sv1 T ?_
                  refine RL.nil _ _ _ _ ?_
                  refine hK53 _ _ _ ?_
                  refine SW.seq_k fun K54 hK54 => ?_
                  refine SW.region _ _ _ _ ?_
                  refine RL.q (QV.vN T rfl rfl rfl rfl rfl (by exact (rfl : _ = [_, _, _, _, _, _, _, _, _, _, _, _, _, _, _, _]))) ?_
                  refine RL.s ?_
                  refine NV.sN T rfl rfl rfl (by exact (rfl : _ = [_, _, _, _, _, _, _, _, _, _, _, _, _, _, _, _])) (by exact (rfl : _ = [_, _, _, _, _, _, _, _, _, _, _, _, _, _, _, _])) ?_
                  refine RL.p T ?_
                  refine RL.nil _ _ _ _ ?_
                  refine hK54 _ _ _ ?_
                  refine SW.sat (fun hs => ?_)
                  refine SW.ret ?_
                  refine retQ.rk (RVs.cN T rfl rfl rfl rfl (by exact (rfl : _ = [_, _, _, _, _, _, _, _, _, _, _, _, _, _, _, _])) (RVs.t RVs.nil)) ?_
                  clear hK54 K54 hK53 K53 hK52 K52 hK51 K51 hK49 K49 hK48 K48 hK47 K47 hK46 K46 hK45 K45 hK43 K43 hK42 K42 hK9 K9 hK8 K8 hK7 K7 hK5 K5 hK4 K4 hK2 K2 hK1 K1 hK0 K0
                  first
                    | (rw [(getE_long (by omega)).1, (getE_long (by omega)).2]
                       first
                         | exact ⟨none, 0, 0, [_], rfl, rfl, Rd.nilS, rfl⟩
                         | exact ⟨none, 0, 0, [_, _], rfl, rfl, Rd.nilS, rfl⟩)
                    | (rw [(getE_short (by omega) (by omega)).1, (getE_short (by omega) (by omega)).2]
                       first
                         | exact ⟨none, 0, 0, [_], rfl, rfl, Rd.nilS, rfl⟩
                         | exact ⟨none, 0, 0, [_, _], rfl, rfl, Rd.nilS, rfl⟩)
                    | (rw [(getE_tag (by omega) (by omega) (by omega)).1, (getE_tag (by omega) (by omega) (by omega)).2]
                       exact ⟨a0_, _, c0_, [_, _, _], rfl, (by first | exact hl42' | exact hl2'), (Rd.rowh (satl (G := [_, _, _]) hs) (by repeat first | exact At.head _ _ | apply At.tail)), rfl⟩)
                    | (rw [(getE_bare (by omega) (by omega) (by omega)).1, (getE_bare (by omega) (by omega) (by omega)).2]
                       exact ⟨a0_, _, c0_, [_, _, _], rfl, (by first | exact hl42' | exact hl2'), (Rd.rowh (satl (G := [_, _, _]) hs) (by repeat first | exact At.head _ _ | apply At.tail)), rfl⟩)
                  )
               )
            ·skip
             first
              | (exfalso; first | omega | contradiction | (simp at *; done))
              | (
               refine SW.skip ?_
               refine hK46 _ _ _ ?_
               refine SW.seq_k fun K55 hK55 => ?_
               refine SW.draw [(63, 0), (64, 1), (65, 2), (66, 3), (67, 4), (68, 5), (69, 6), (70, 7), (71, 8), (72, 9), (73, 10)] [[], [0], [1, 0], [2, 1, 0], [3, 2, 1, 0], [], [5], [6, 5], [7, 6, 5], [4, 3, 2, 1, 0, 8, 7, 6, 5], [0, 1, 2, 3, 4, 5, 6, 7, 8, 9], [10, 0, 1, 2, 3, 4, 5, 6, 7, 8, 9]] mixed (by kernel_rfl) (by kernel_rfl) ?_
               refine RD.p T ?_
               refine RD.q rfl rfl (Gd.none rfl) (by first | exact (QV.indexAddr_slice T rfl rfl rfl rfl rfl (hS4.some (by omega)) (by omega) (by omega)) | exact (QV.indexAddr_slice T rfl rfl rfl rfl rfl (hS.some (by omega)) (by omega) (by omega))) ?_
               refine RD.q rfl rfl (Gd.none rfl) (by first | exact (QV.load_elem T rfl rfl rfl rfl (by repeat first | exact hS4 | apply Rd.cons | apply Rd.app) (map_as (z := bi ((es.drop 12).drop 4) 0) (by show 0 < _; omega) rfl)) | exact (QV.load_elem T rfl rfl rfl rfl (by repeat first | exact hS | apply Rd.cons | apply Rd.app) (map_as (z := bi (es.drop 12) 0) (by show 0 < _; omega) rfl))) ?_
               refine RD.q rfl rfl (Gd.none rfl) (QV.convI T rfl rfl rfl rfl (by simp only [loK]; omega) (by simp only [hiK]; omega)) ?_
               refine RD.q rfl rfl (Gd.none rfl) (by first | exact QV.arith rfl rfl rfl rfl (by omega) (by omega) | exact QV.arith_u8 rfl rfl rfl rfl (by omega) (by omega) | exact QV.arith_u16 rfl rfl rfl rfl (by omega) (by omega) | exact QV.arith_u32 rfl rfl rfl rfl (by omega) (by omega) | exact QV.arith_u64 rfl rfl rfl rfl (by omega) (by omega) | exact pev_sound T rfl) ?_
               refine RD.p T ?_
               refine RD.q rfl rfl (Gd.none rfl) (by first | exact (QV.indexAddr_slice T rfl rfl rfl rfl rfl (hS4.some (by omega)) (by omega) (by omega)) | exact (QV.indexAddr_slice T rfl rfl rfl rfl rfl (hS.some (by omega)) (by omega) (by omega))) ?_
               refine RD.q rfl rfl (Gd.none rfl) (by first | exact (QV.load_elem T rfl rfl rfl rfl (by repeat first | exact hS4 | apply Rd.cons | apply Rd.app) (map_as (z := bi ((es.drop 12).drop 4) 1) (by show 1 < _; omega) rfl)) | exact (QV.load_elem T rfl rfl rfl rfl (by repeat first | exact hS | apply Rd.cons | apply Rd.app) (map_as (z := bi (es.drop 12) 1) (by show 1 < _; omega) rfl))) ?_
               refine RD.q rfl rfl (Gd.none rfl) (QV.convI T rfl rfl rfl rfl (by simp only [loK]; omega) (by simp only [hiK]; omega)) ?_
               refine RD.q rfl rfl (Gd.none rfl) (by first | exact QV.arith rfl rfl rfl rfl (by omega) (by omega) | exact QV.arith_u8 rfl rfl rfl rfl (by omega) (by omega) | exact QV.arith_u16 rfl rfl rfl rfl (by omega) (by omega) | exact QV.arith_u32 rfl rfl rfl rfl (by omega) (by omega) | exact QV.arith_u64 rfl rfl rfl rfl (by omega) (by omega) | exact pev_sound T rfl) ?_
               refine RD.p T ?_
               refine RD.nv rfl rfl rfl (Gd.none rfl) ?_
               refine NV.s1 T ?_
               refine ⟨Stab.nil, ?_⟩
               refine RD.k rfl rfl ?_
               refine hK55 _ _ _ ?_
               refine SW.seq_k fun K56 hK56 => ?_
               refine SW.region _ _ _ _ ?_
               refine RL.bs T rfl rfl rfl (by exact (rfl : _ = some [])) (fun b74_7 => ?_)
               refine RL.p T ?_
               refine RL.sl T ?_ (l1 := 2)
               first
                 | refine RL.apI (ki := .u8) (xs := []) (ys := ((es.drop 12).drop 4).drop 2) T (fun a0_ c0_ => ?_) (hR := fun hs => Rd.suf 2 hS4.cons.cons.cons (by omega))
                 | refine RL.apI (ki := .u8) (xs := []) (ys := (es.drop 12).drop 2) T (fun a0_ c0_ => ?_) (hR := fun hs => Rd.suf 2 hS.cons.cons.cons (by omega))
               refine RL.p T ?_
               refine RL.sv1 T ?_
               refine RL.nil _ _ _ _ ?_
               refine hK56 _ _ _ ?_
               refine SW.seq_k fun K57 hK57 => ?_
               refine SW.region _ _ _ _ ?_
               refine RL.q (QV.vN T rfl rfl rfl rfl rfl (by exact (rfl : _ = [_, _, _, _, _, _, _, _, _, _, _, _, _, _, _, _]))) ?_
               refine RL.s ?_
               refine NV.sN T rfl rfl rfl (by exact (rfl : _ = [_, _, _, _, _, _, _, _, _, _, _, _, _, _, _, _])) (by exact (rfl : _ = [_, _, _, _, _, _, _, _, _, _, _, _, _, _, _, _])) ?_
               refine RL.p T ?_
               refine RL.nil _ _ _ _ ?_
               refine hK57 _ _ _ ?_
               refine SW.sat (fun hs => ?_)
               refine SW.ret ?_
               refine retQ.rk (RVs.cN T rfl rfl rfl rfl (by exact (rfl : _ = [_, _, _, _, _, _, _, _, _, _, _, _, _, _, _, _])) (RVs.t RVs.nil)) ?_
               clear hK57 K57 hK56 K56 hK55 K55 hK47 K47 hK46 K46 hK45 K45 hK43 K43 hK42 K42 hK9 K9 hK8 K8 hK7 K7 hK5 K5 hK4 K4 hK2 K2 hK1 K1 hK0 K0
               first
                 | (rw [(getE_long (by omega)).1, (getE_long (by omega)).2]
                    first
                      | exact ⟨none, 0, 0, [_], rfl, rfl, Rd.nilS, rfl⟩
                      | exact ⟨none, 0, 0, [_, _], rfl, rfl, Rd.nilS, rfl⟩)
                 | (rw [(getE_short (by omega) (by omega)).1, (getE_short (by omega) (by omega)).2]
                    first
                      | exact ⟨none, 0, 0, [_], rfl, rfl, Rd.nilS, rfl⟩
                      | exact ⟨none, 0, 0, [_, _], rfl, rfl, Rd.nilS, rfl⟩)
                 | (rw [(getE_tag (by omega) (by omega) (by omega)).1, (getE_tag (by omega) (by omega) (by omega)).2]
                    exact ⟨a0_, _, c0_, [_, _, _], rfl, (by first | exact hl42' | exact hl2'), (Rd.rowh (satl (G := [_, _, _]) hs) (by repeat first | exact At.head _ _ | apply At.tail)), rfl⟩)
                 | (rw [(getE_bare (by omega) (by omega) (by omega)).1, (getE_bare (by omega) (by omega) (by omega)).2]
                    exact ⟨a0_, _, c0_, [_, _, _], rfl, (by first | exact hl42' | exact hl2'), (Rd.rowh (satl (G := [_, _, _]) hs) (by repeat first | exact At.head _ _ | apply At.tail)), rfl⟩)
               )
            )
        ·skip
         refine SW.seq_k fun K58 hK58 => ?_
         refine SW.seq_k fun K59 hK59 => ?_
         refine SW.region _ _ _ _ ?_
         refine RL.p T ?_
         refine RL.p T ?_
         refine RL.nil _ _ _ _ ?_
         refine hK59 _ _ _ ?_
         refine SW.cs (fun hc11 => ?_) (fun hc11 => ?_)
         ·skip
          first
           | (exfalso; first | omega | contradiction | (simp at *; done))
           | (
            refine SW.skip ?_
            refine hK58 _ _ _ ?_
            refine SW.seq_k fun K60 hK60 => ?_
            refine SW.block ?_
            refine SW.draw [(18, 0), (19, 1), (20, 2), (21, 3), (22, 4), (23, 5), (24, 6), (25, 7), (26, 8), (27, 9), (28, 10), (29, 11), (30, 12), (31, 14), (32, 15)] [[], [], [], [], [2, 3], [4, 2, 3], [], [], [7], [6, 8, 7], [9, 6, 8, 7], [], [11, 0, 2, 3, 4, 5], [12, 11, 0, 2, 3, 4, 5], [], [14, 1, 0, 2, 3, 4, 5, 6, 7, 8, 9, 10, 11, 12, 13], [15, 14, 1, 0, 2, 3, 4, 5, 6, 7, 8, 9, 10, 11, 12, 13]] mixed (by kernel_rfl) (by kernel_rfl) ?_
            refine RD.p T ?_
            refine RD.p T ?_
            refine RD.p T ?_
            refine RD.p T ?_
            refine RD.q rfl rfl (Gd.none rfl) (QV.indexAddr_slice T rfl rfl rfl rfl rfl (hR.some (by omega)) (by omega) (by omega)) ?_
            refine RD.q rfl rfl (Gd.none rfl) (QV.load_elem T rfl rfl rfl rfl (by repeat first | exact hR | apply Rd.cons | apply Rd.app) (map_as (z := bi es 3) (by show 3 < _; omega) rfl)) ?_
            refine RD.p T ?_
            refine RD.p T ?_
            refine RD.q rfl rfl (Gd.none rfl) (by first | exact QV.arith rfl rfl rfl rfl (by omega) (by omega) | exact QV.arith_u8 rfl rfl rfl rfl (by omega) (by omega) | exact QV.arith_u16 rfl rfl rfl rfl (by omega) (by omega) | exact QV.arith_u32 rfl rfl rfl rfl (by omega) (by omega) | exact QV.arith_u64 rfl rfl rfl rfl (by omega) (by omega) | exact pev_sound T rfl) ?_
            refine RD.q rfl rfl (Gd.none rfl) (QV.indexAddr_slice T rfl rfl rfl rfl rfl (hR.some (by omega)) (by omega) (by omega)) ?_
            refine RD.q rfl rfl (Gd.none rfl) (QV.load_elem T rfl rfl rfl rfl (by repeat first | exact hR | apply Rd.cons | apply Rd.app) (map_as (z := bi es 9) (by show 9 < _; omega) rfl)) ?_
            refine RD.p T ?_
            refine RD.q rfl rfl (Gd.none rfl) (by first | exact QV.indexAddr_array T rfl rfl rfl rfl rfl (by omega) (by omega) | exact QV.indexAddr_slice T rfl rfl rfl rfl rfl (Rd.some (by repeat first | exact hS | apply Rd.cons | apply Rd.app) (by omega)) (by omega) (by omega)) ?_
            refine RD.p T ?_
            refine RD.nv rfl rfl rfl (Gd.none rfl) ?_
            refine NV.s1 T ?_
            refine ⟨(Stab.cons rfl (Gd.none rfl) (pev_sound T rfl) (Stab.cons rfl (Gd.none rfl) (QV.load_elem T rfl rfl rfl rfl (by repeat first | exact hR | apply Rd.cons | apply Rd.app) (map_as (z := bi es 9) (by show 9 < _; omega) rfl)) (Stab.cons rfl (Gd.none rfl) (QV.indexAddr_slice T rfl rfl rfl rfl rfl (hR.some (by omega)) (by omega) (by omega)) (Stab.cons rfl (Gd.none rfl) (by first | exact pev_sound T rfl | exact QV.arith rfl rfl rfl rfl (by omega) (by omega) | exact QV.arith_u8 rfl rfl rfl rfl (by omega) (by omega) | exact QV.arith_u16 rfl rfl rfl rfl (by omega) (by omega) | exact QV.arith_u32 rfl rfl rfl rfl (by omega) (by omega) | exact QV.arith_u64 rfl rfl rfl rfl (by omega) (by omega) ) (Stab.cons rfl (Gd.none rfl) (pev_sound T rfl) (Stab.cons rfl (Gd.none rfl) (pev_sound T rfl) (Stab.cons rfl (Gd.none rfl) (pev_sound T rfl) Stab.nil))))))), ?_⟩
            refine RD.q rfl rfl (Gd.none rfl) (by first | exact QV.indexAddr_array T rfl rfl rfl rfl rfl (by omega) (by omega) | exact QV.indexAddr_slice T rfl rfl rfl rfl rfl (Rd.some (by repeat first | exact hS | apply Rd.cons | apply Rd.app) (by omega)) (by omega) (by omega)) ?_
            refine RD.nv rfl rfl rfl (Gd.none rfl) ?_
            refine NV.s1 T ?_
            refine ⟨Stab.nil, ?_⟩
            refine RD.k rfl rfl ?_
            refine hK60 _ _ _ ?_
            refine SW.region _ _ _ _ ?_
            refine RL.p T ?_
            first | refine RL.ar ?_ | refine RL.p T ?_
            refine RL.p T ?_
            refine RL.nil _ _ _ _ ?_
            exact ⟨6 - 4, (by omega), 4, (by rfl), by omega, (.consI rfl (by first | omega | rfl) (.nil (by repeat first | exact Mx.refl | exact Mx.mix | refine Mx.put rfl ?_ | refine Mx.upd rfl ?_ | refine Mx.updl rfl ?_ | refine Mx.fin rfl ?_ | refine Mx.inner rfl ?_ | refine Mx.none ?_))), rfl, rfl⟩
            )
         ·skip
          first
           | (exfalso; first | omega | contradiction | (simp at *; done))
           | (
            refine SW.exit ?_
            refine hK8 _ _ _ ?_
            refine SW.seq_k fun K61 hK61 => ?_
            have hS := hR.suf 12 (by omega : 12 ≤ n)
            have hl2' : 0 + (n - 12 - 2) = ((es.drop 12).drop 2).length := by rw [List.length_drop, hl12]; omega
            refine SW.region _ _ _ _ ?_
            refine RL.p T ?_
            refine RL.sl T ?_ (l1 := 12)
            refine RL.p T ?_
            refine RL.nil _ _ _ _ ?_
            refine hK61 _ _ _ ?_
            refine SW.seq_k fun K62 hK62 => ?_
            refine SW.seq_k fun K63 hK63 => ?_
            refine SW.region _ _ _ _ ?_
            refine RL.p T ?_
            refine RL.ix T ?_ (hR := fun hs => (by repeat first | exact hS | apply Rd.cons | apply Rd.app))
            refine RL.le T ?_ (hR := fun hs => (by repeat first | exact hS | apply Rd.cons | apply Rd.app)) (hv := map_as (z := bi (es.drop 12) 0) (by omega) rfl)
            refine RL.p T ?_
            refine RL.p T ?_
            refine RL.join (fr1 := ?_) 4 39 true [40, 41, 42, 43] (fun hs3 hj => ?_) ?_ ?_
            rotate_left
            ·have hs3j := hs3
             try simp only [decide_eq_true_eq, Bool.not_eq_true', decide_eq_false_iff_not, Bool.not_eq_false', Int.not_lt, Int.not_le, Int.toNat_natCast, Bool.and_eq_true, Bool.or_eq_true, Bool.and_eq_false_iff, Bool.or_eq_false_iff] at hs3
             refine RL.p T ?_
             refine RL.ix T ?_ (hR := fun hs => (by repeat first | exact hS | apply Rd.cons | apply Rd.app))
             refine RL.le T ?_ (hR := fun hs => (by repeat first | exact hS | apply Rd.cons | apply Rd.app)) (hv := map_as (z := bi (es.drop 12) 1) (by omega) rfl)
             refine RL.p T ?_
             exact hj
            ·repeat first | exact Mx.refl | exact Mx.mix | refine Mx.put rfl ?_ | refine Mx.upd rfl ?_ | refine Mx.updl rfl ?_ | refine Mx.fin rfl ?_ | refine Mx.inner rfl ?_ | refine Mx.none ?_
            refine RL.and ?_
            refine RL.nil _ _ _ _ ?_
            refine hK63 _ _ _ ?_
            refine SW.cs (fun hc12 => ?_) (fun hc12 => ?_)
            ·skip
             first
              | (exfalso; first | omega | contradiction | (simp at *; done))
              | (
               refine SW.seq_k fun K64 hK64 => ?_
               refine SW.seq_k fun K65 hK65 => ?_
               refine SW.region _ _ _ _ ?_
               refine RL.p T ?_
               refine RL.p T ?_
               refine RL.p T ?_
               refine RL.nil _ _ _ _ ?_
               refine hK65 _ _ _ ?_
               refine SW.cs (fun hc13 => ?_) (fun hc13 => ?_)
               ·skip
                first
                 | (exfalso; first | omega | contradiction | (simp at *; done))
                 | (
                  refine SW.seq_k fun K66 hK66 => ?_
                  refine SW.region _ _ _ _ ?_
                  refine RL.s ?_
                  first | refine NV.buildc T rfl (rfl : _ = some [_, _, _, _, _, _, _, _, _, _, _, _, _, _, _, _]) ?_ | refine NV.buildz T rfl (rfl : _ = some [_, _, _, _, _, _, _, _, _, _, _, _, _, _, _, _]) ?_ | refine NV.pure T (rfl : _ = some (Value.agg #[_, _, _, _, _, _, _, _, _, _, _, _, _, _, _, _])) ?_
                  refine RL.s ?_
                  refine NV.sN T rfl rfl rfl (by exact (rfl : _ = [_, _, _, _, _, _, _, _, _, _, _, _, _, _, _, _])) (by exact (rfl : _ = [_, _, _, _, _, _, _, _, _, _, _, _, _, _, _, _])) ?_
                  refine RL.p T ?_
                  refine RL.nil _ _ _ _ ?_
                  refine hK66 _ _ _ ?_
                  refine SW.sat (fun hs => ?_)
                  refine SW.ret ?_
                  refine retQ.rk (RVs.cN T rfl rfl rfl rfl (by exact (rfl : _ = [_, _, _, _, _, _, _, _, _, _, _, _, _, _, _, _])) (RVs.t RVs.nil)) ?_
                  clear hK66 K66 hK65 K65 hK64 K64 hK63 K63 hK62 K62 hK61 K61 hK59 K59 hK58 K58 hK9 K9 hK8 K8 hK7 K7 hK5 K5 hK4 K4 hK2 K2 hK1 K1 hK0 K0
                  first
                    | (rw [(getE_long (by omega)).1, (getE_long (by omega)).2]
                       first
                         | exact ⟨none, 0, 0, [_], rfl, rfl, Rd.nilS, rfl⟩
                         | exact ⟨none, 0, 0, [_, _], rfl, rfl, Rd.nilS, rfl⟩)
                    | (rw [(getE_short (by omega) (by omega)).1, (getE_short (by omega) (by omega)).2]
                       first
                         | exact ⟨none, 0, 0, [_], rfl, rfl, Rd.nilS, rfl⟩
                         | exact ⟨none, 0, 0, [_, _], rfl, rfl, Rd.nilS, rfl⟩)
                    | (rw [(getE_tag (by omega) (by omega) (by omega)).1, (getE_tag (by omega) (by omega) (by omega)).2]
                       exact ⟨a0_, _, c0_, [_, _, _], rfl, (by first | exact hl42' | exact hl2'), (Rd.rowh (satl (G := [_, _, _]) hs) (by repeat first | exact At.head _ _ | apply At.tail)), rfl⟩)
                    | (rw [(getE_bare (by omega) (by omega) (by omega)).1, (getE_bare (by omega) (by omega) (by omega)).2]
                       exact ⟨a0_, _, c0_, [_, _, _], rfl, (by first | exact hl42' | exact hl2'), (Rd.rowh (satl (G := [_, _, _]) hs) (by repeat first | exact At.head _ _ | apply At.tail)), rfl⟩)
                  )
               ·skip
                first
                 | (exfalso; first | omega | contradiction | (simp at *; done))
                 | (
                  refine SW.skip ?_
                  refine hK64 _ _ _ ?_
                  refine SW.seq_k fun K67 hK67 => ?_
                  have hS4 := hS.suf 4 (by omega)
                  have hl4 : ((es.drop 12).drop 4).length = n - 12 - 4 := by rw [List.length_drop, hl12]
                  have hl42' : 0 + (n - 12 - 4 - 2) = (((es.drop 12).drop 4).drop 2).length := by rw [List.length_drop, hl4]; omega
                  refine SW.draw [(49, 0), (50, 1), (51, 2), (52, 3), (53, 4), (54, 5), (55, 6), (56, 7), (57, 8), (58, 9), (59, 10), (60, 12)] [[], [0], [1, 0], [2, 1, 0], [3, 2, 1, 0], [], [5], [6, 5], [7, 6, 5], [4, 3, 2, 1, 0, 8, 7, 6, 5], [], [10], [0, 1, 2, 3, 4, 5, 6, 7, 8, 9, 10, 11], [12, 0, 1, 2, 3, 4, 5, 6, 7, 8, 9, 10, 11]] mixed (by kernel_rfl) (by kernel_rfl) ?_
                  refine RD.p T ?_
                  refine RD.q rfl rfl (Gd.none rfl) (QV.indexAddr_slice T rfl rfl rfl rfl rfl (hS.some (by omega)) (by omega) (by omega)) ?_
                  refine RD.q rfl rfl (Gd.none rfl) (QV.load_elem T rfl rfl rfl rfl (by repeat first | exact hS | apply Rd.cons | apply Rd.app) (map_as (z := bi (es.drop 12) 2) (by show 2 < _; omega) rfl)) ?_
                  refine RD.q rfl rfl (Gd.none rfl) (QV.convI T rfl rfl rfl rfl (by simp only [loK]; omega) (by simp only [hiK]; omega)) ?_
                  refine RD.q rfl rfl (Gd.none rfl) (by first | exact QV.arith rfl rfl rfl rfl (by omega) (by omega) | exact QV.arith_u8 rfl rfl rfl rfl (by omega) (by omega) | exact QV.arith_u16 rfl rfl rfl rfl (by omega) (by omega) | exact QV.arith_u32 rfl rfl rfl rfl (by omega) (by omega) | exact QV.arith_u64 rfl rfl rfl rfl (by omega) (by omega) | exact pev_sound T rfl) ?_
                  refine RD.p T ?_
                  refine RD.q rfl rfl (Gd.none rfl) (QV.indexAddr_slice T rfl rfl rfl rfl rfl (hS.some (by omega)) (by omega) (by omega)) ?_
                  refine RD.q rfl rfl (Gd.none rfl) (QV.load_elem T rfl rfl rfl rfl (by repeat first | exact hS | apply Rd.cons | apply Rd.app) (map_as (z := bi (es.drop 12) 3) (by show 3 < _; omega) rfl)) ?_
                  refine RD.q rfl rfl (Gd.none rfl) (QV.convI T rfl rfl rfl rfl (by simp only [loK]; omega) (by simp only [hiK]; omega)) ?_
                  refine RD.q rfl rfl (Gd.none rfl) (QV.as (QV.arith_u16 rfl rfl rfl rfl (by omega) (by omega)) (show Value.int .u16 (bi (es.drop 12) 2 * 256 + bi (es.drop 12) 3) = .int .u16 (wN ((es.drop 12).drop 2)) from by rw [wN_drop])) ?_
                  refine RD.p T ?_
                  refine RD.nv rfl rfl rfl (Gd.none rfl) ?_
                  refine NV.s1 T ?_
                  refine ⟨(Stab.cons rfl (Gd.none rfl) (QV.as (QV.arith_u16 rfl rfl rfl rfl (by omega) (by omega)) (show Value.int .u16 (bi (es.drop 12) 2 * 256 + bi (es.drop 12) 3) = .int .u16 (wN ((es.drop 12).drop 2)) from by rw [wN_drop])) (Stab.cons rfl (Gd.none rfl) (QV.convI T rfl rfl rfl rfl (by simp only [loK]; omega) (by simp only [hiK]; omega)) (Stab.cons rfl (Gd.none rfl) (QV.load_elem T rfl rfl rfl rfl (by repeat first | exact hS | apply Rd.cons | apply Rd.app) (map_as (z := bi (es.drop 12) 3) (by show 3 < _; omega) rfl)) (Stab.cons rfl (Gd.none rfl) (QV.indexAddr_slice T rfl rfl rfl rfl rfl (hS.some (by omega)) (by omega) (by omega)) (Stab.cons rfl (Gd.none rfl) (pev_sound T rfl) (Stab.cons rfl (Gd.none rfl) (by first | exact pev_sound T rfl | exact QV.arith rfl rfl rfl rfl (by omega) (by omega) | exact QV.arith_u8 rfl rfl rfl rfl (by omega) (by omega) | exact QV.arith_u16 rfl rfl rfl rfl (by omega) (by omega) | exact QV.arith_u32 rfl rfl rfl rfl (by omega) (by omega) | exact QV.arith_u64 rfl rfl rfl rfl (by omega) (by omega) ) (Stab.cons rfl (Gd.none rfl) (QV.convI T rfl rfl rfl rfl (by simp only [loK]; omega) (by simp only [hiK]; omega)) (Stab.cons rfl (Gd.none rfl) (QV.load_elem T rfl rfl rfl rfl (by repeat first | exact hS | apply Rd.cons | apply Rd.app) (map_as (z := bi (es.drop 12) 2) (by show 2 < _; omega) rfl)) (Stab.cons rfl (Gd.none rfl) (QV.indexAddr_slice T rfl rfl rfl rfl rfl (hS.some (by omega)) (by omega) (by omega)) (Stab.cons rfl (Gd.none rfl) (pev_sound T rfl) Stab.nil)))))))))), ?_⟩
                  refine RD.p T ?_
                  refine RD.nv rfl rfl rfl (Gd.none rfl) ?_
                  refine NV.s1 T ?_
                  refine ⟨Stab.nil, ?_⟩
                  refine RD.k rfl rfl ?_
                  refine hK67 _ _ _ ?_
                  refine SW.region _ _ _ _ ?_
                  refine RL.p T ?_
                  refine RL.sl T ?_ (l1 := 4)
                  refine RL.p T ?_
                  refine RL.nil _ _ _ _ ?_
                  refine hK62 _ _ _ ?_
                  refine SW.seq_k fun K68 hK68 => ?_
                  refine SW.draw [(63, 0), (64, 1), (65, 2), (66, 3), (67, 4), (68, 5), (69, 6), (70, 7), (71, 8), (72, 9), (73, 10)] [[], [0], [1, 0], [2, 1, 0], [3, 2, 1, 0], [], [5], [6, 5], [7, 6, 5], [4, 3, 2, 1, 0, 8, 7, 6, 5], [0, 1, 2, 3, 4, 5, 6, 7, 8, 9], [10, 0, 1, 2, 3, 4, 5, 6, 7, 8, 9]] mixed (by kernel_rfl) (by kernel_rfl) ?_
                  refine RD.p T ?_
                  refine RD.q rfl rfl (Gd.none rfl) (by first | exact (QV.indexAddr_slice T rfl rfl rfl rfl rfl (hS4.some (by omega)) (by omega) (by omega)) | exact (QV.indexAddr_slice T rfl rfl rfl rfl rfl (hS.some (by omega)) (by omega) (by omega))) ?_
                  refine RD.q rfl rfl (Gd.none rfl) (by first | exact (QV.load_elem T rfl rfl rfl rfl (by repeat first | exact hS4 | apply Rd.cons | apply Rd.app) (map_as (z := bi ((es.drop 12).drop 4) 0) (by show 0 < _; omega) rfl)) | exact (QV.load_elem T rfl rfl rfl rfl (by repeat first | exact hS | apply Rd.cons | apply Rd.app) (map_as (z := bi (es.drop 12) 0) (by show 0 < _; omega) rfl))) ?_
                  refine RD.q rfl rfl (Gd.none rfl) (QV.convI T rfl rfl rfl rfl (by simp only [loK]; omega) (by simp only [hiK]; omega)) ?_
                  refine RD.q rfl rfl (Gd.none rfl) (by first | exact QV.arith rfl rfl rfl rfl (by omega) (by omega) | exact QV.arith_u8 rfl rfl rfl rfl (by omega) (by omega) | exact QV.arith_u16 rfl rfl rfl rfl (by omega) (by omega) | exact QV.arith_u32 rfl rfl rfl rfl (by omega) (by omega) | exact QV.arith_u64 rfl rfl rfl rfl (by omega) (by omega) | exact pev_sound T rfl) ?_
                  refine RD.p T ?_
                  refine RD.q rfl rfl (Gd.none rfl) (by first | exact (QV.indexAddr_slice T rfl rfl rfl rfl rfl (hS4.some (by omega)) (by omega) (by omega)) | exact (QV.indexAddr_slice T rfl rfl rfl rfl rfl (hS.some (by omega)) (by omega) (by omega))) ?_
                  refine RD.q rfl rfl (Gd.none rfl) (by first | exact (QV.load_elem T rfl rfl rfl rfl (by repeat first | exact hS4 | apply Rd.cons | apply Rd.app) (map_as (z := bi ((es.drop 12).drop 4) 1) (by show 1 < _; omega) rfl)) | exact (QV.load_elem T rfl rfl rfl rfl (by repeat first | exact hS | apply Rd.cons | apply Rd.app) (map_as (z := bi (es.drop 12) 1) (by show 1 < _; omega) rfl))) ?_
                  refine RD.q rfl rfl (Gd.none rfl) (QV.convI T rfl rfl rfl rfl (by simp only [loK]; omega) (by simp only [hiK]; omega)) ?_
                  refine RD.q rfl rfl (Gd.none rfl) (by first | exact QV.arith rfl rfl rfl rfl (by omega) (by omega) | exact QV.arith_u8 rfl rfl rfl rfl (by omega) (by omega) | exact QV.arith_u16 rfl rfl rfl rfl (by omega) (by omega) | exact QV.arith_u32 rfl rfl rfl rfl (by omega) (by omega) | exact QV.arith_u64 rfl rfl rfl rfl (by omega) (by omega) | exact pev_sound T rfl) ?_
                  refine RD.p T ?_
                  refine RD.nv rfl rfl rfl (Gd.none rfl) ?_
                  refine NV.s1 T ?_
                  refine ⟨Stab.nil, ?_⟩
                  refine RD.k rfl rfl ?_
                  refine hK68 _ _ _ ?_
                  refine SW.seq_k fun K69 hK69 => ?_
                  refine SW.region _ _ _ _ ?_
                  refine RL.bs T rfl rfl rfl (by exact (rfl : _ = some [])) (fun b74_8 => ?_)
                  refine RL.p T ?_
                  refine RL.sl T ?_ (l1 := 2)
                  first
                    | refine RL.apI (ki := .u8) (xs := []) (ys := ((es.drop 12).drop 4).drop 2) T (fun a0_ c0_ => ?_) (hR := fun hs => Rd.suf 2 hS4.cons.cons.cons (by omega))
                    | refine RL.apI (ki := .u8) (xs := []) (ys := (es.drop 12).drop 2) T (fun a0_ c0_ => ?_) (hR := fun hs => Rd.suf 2 hS.cons.cons.cons (by omega))
                  refine RL.p T ?_
                  refine RL.sv1 T ?_
                  refine RL.nil _ _ _ _ ?_
                  refine hK69 _ _ _ ?_
                  refine SW.seq_k fun K70 hK70 => ?_
                  refine SW.region _ _ _ _ ?_
                  refine RL.q (QV.vN T rfl rfl rfl rfl rfl (by exact (rfl : _ = [_, _, _, _, _, _, _, _, _, _, _, _, _, _, _, _]))) ?_
                  refine RL.s ?_
                  refine NV.sN T rfl rfl rfl (by exact (rfl : _ = [_, _, _, _, _, _, _, _, _, _, _, _, _, _, _, _])) (by exact (rfl : _ = [_, _, _, _, _, _, _, _, _, _, _, _, _, _, _, _])) ?_
                  refine RL.p T ?_
                  refine RL.nil _ _ _ _ ?_
                  refine hK70 _ _ _ ?_
                  refine SW.sat (fun hs => ?_)
                  refine SW.ret ?_
                  refine retQ.rk (RVs.cN T rfl rfl rfl rfl (by exact (rfl : _ = [_, _, _, _, _, _, _, _, _, _, _, _, _, _, _, _])) (RVs.t RVs.nil)) ?_
                  clear hK70 K70 hK69 K69 hK68 K68 hK67 K67 hK65 K65 hK64 K64 hK63 K63 hK62 K62 hK61 K61 hK59 K59 hK58 K58 hK9 K9 hK8 K8 hK7 K7 hK5 K5 hK4 K4 hK2 K2 hK1 K1 hK0 K0
                  first
                    | (rw [(getE_long (by omega)).1, (getE_long (by omega)).2]
                       first
                         | exact ⟨none, 0, 0, [_], rfl, rfl, Rd.nilS, rfl⟩
                         | exact ⟨none, 0, 0, [_, _], rfl, rfl, Rd.nilS, rfl⟩)
                    | (rw [(getE_short (by omega) (by omega)).1, (getE_short (by omega) (by omega)).2]
                       first
                         | exact ⟨none, 0, 0, [_], rfl, rfl, Rd.nilS, rfl⟩
                         | exact ⟨none, 0, 0, [_, _], rfl, rfl, Rd.nilS, rfl⟩)
                    | (rw [(getE_tag (by omega) (by omega) (by omega)).1, (getE_tag (by omega) (by omega) (by omega)).2]
                       exact ⟨a0_, _, c0_, [_, _, _], rfl, (by first | exact hl42' | exact hl2'), (Rd.rowh (satl (G := [_, _, _]) hs) (by repeat first | exact At.head _ _ | apply At.tail)), rfl⟩)
                    | (rw [(getE_bare (by omega) (by omega) (by omega)).1, (getE_bare (by omega) (by omega) (by omega)).2]
                       exact ⟨a0_, _, c0_, [_, _, _], rfl, (by first | exact hl42' | exact hl2'), (Rd.rowh (satl (G := [_, _, _]) hs) (by repeat first | exact At.head _ _ | apply At.tail)), rfl⟩)
                  )
               )
            ·skip
             first
              | (exfalso; first | omega | contradiction | (simp at *; done))
              | (
               refine SW.skip ?_
               refine hK62 _ _ _ ?_
               refine SW.seq_k fun K71 hK71 => ?_
               refine SW.draw [(63, 0), (64, 1), (65, 2), (66, 3), (67, 4), (68, 5), (69, 6), (70, 7), (71, 8), (72, 9), (73, 10)] [[], [0], [1, 0], [2, 1, 0], [3, 2, 1, 0], [], [5], [6, 5], [7, 6, 5], [4, 3, 2, 1, 0, 8, 7, 6, 5], [0, 1, 2, 3, 4, 5, 6, 7, 8, 9], [10, 0, 1, 2, 3, 4, 5, 6, 7, 8, 9]] mixed (by kernel_rfl) (by kernel_rfl) ?_
               refine RD.p T ?_
               refine RD.q rfl rfl (Gd.none rfl) (by first | exact (QV.indexAddr_slice T rfl rfl rfl rfl rfl (hS4.some (by omega)) (by omega) (by omega)) | exact (QV.indexAddr_slice T rfl rfl rfl rfl rfl (hS.some (by omega)) (by omega) (by omega))) ?_
               refine RD.q rfl rfl (Gd.none rfl) (by first | exact (QV.load_elem T rfl rfl rfl rfl (by repeat first | exact hS4 | apply Rd.cons | apply Rd.app) (map_as (z := bi ((es.drop 12).drop 4) 0) (by show 0 < _; omega) rfl)) | exact (QV.load_elem T rfl rfl rfl rfl (by repeat first | exact hS | apply Rd.cons | apply Rd.app) (map_as (z := bi (es.drop 12) 0) (by show 0 < _; omega) rfl))) ?_
               refine RD.q rfl rfl (Gd.none rfl) (QV.convI T rfl rfl rfl rfl (by simp only [loK]; omega) (by simp only [hiK]; omega)) ?_
               refine RD.q rfl rfl (Gd.none rfl) (by first | exact QV.arith rfl rfl rfl rfl (by omega) (by omega) | exact QV.arith_u8 rfl rfl rfl rfl (by omega) (by omega) | exact QV.arith_u16 rfl rfl rfl rfl (by omega) (by omega) | exact QV.arith_u32 rfl rfl rfl rfl (by omega) (by omega) | exact QV.arith_u64 rfl rfl rfl rfl (by omega) (by omega) | exact pev_sound T rfl) ?_
               refine RD.p T ?_
               refine RD.q rfl rfl (Gd.none rfl) (by first | exact (QV.indexAddr_slice T rfl rfl rfl rfl rfl (hS4.some (by omega)) (by omega) (by omega)) | exact (QV.indexAddr_slice T rfl rfl rfl rfl rfl (hS.some (by omega)) (by omega) (by omega))) ?_
               refine RD.q rfl rfl (Gd.none rfl) (by first | exact (QV.load_elem T rfl rfl rfl rfl (by repeat first | exact hS4 | apply Rd.cons | apply Rd.app) (map_as (z := bi ((es.drop 12).drop 4) 1) (by show 1 < _; omega) rfl)) | exact (QV.load_elem T rfl rfl rfl rfl (by repeat first | exact hS | apply Rd.cons | apply Rd.app) (map_as (z := bi (es.drop 12) 1) (by show 1 < _; omega) rfl))) ?_
               refine RD.q rfl rfl (Gd.none rfl) (QV.convI T rfl rfl rfl rfl (by simp only [loK]; omega) (by simp only [hiK]; omega)) ?_
               refine RD.q rfl rfl (Gd.none rfl) (by first | exact QV.arith rfl rfl rfl rfl (by omega) (by omega) | exact QV.arith_u8 rfl rfl rfl rfl (by omega) (by omega) | exact QV.arith_u16 rfl rfl rfl rfl (by omega) (by omega) | exact QV.arith_u32 rfl rfl rfl rfl (by omega) (by omega) | exact QV.arith_u64 rfl rfl rfl rfl (by omega) (by omega) | exact pev_sound T rfl) ?_
               refine RD.p T ?_
               refine RD.nv rfl rfl rfl (Gd.none rfl) ?_
               refine NV.s1 T ?_
               refine ⟨Stab.nil, ?_⟩
               refine RD.k rfl rfl ?_
               refine hK71 _ _ _ ?_
               refine SW.seq_k fun K72 hK72 => ?_
               refine SW.region _ _ _ _ ?_
               refine RL.bs T rfl rfl rfl (by exact (rfl : _ = some [])) (fun b74_9 => ?_)
               refine RL.p T ?_
               refine RL.sl T ?_ (l1 := 2)
               first
                 | refine RL.apI (ki := .u8) (xs := []) (ys := ((es.drop 12).drop 4).drop 2) T (fun a0_ c0_ => ?_) (hR := fun hs => Rd.suf 2 hS4.cons.cons.cons (by omega))
                 | refine RL.apI (ki := .u8) (xs := []) (ys := (es.drop 12).drop 2) T (fun a0_ c0_ => ?_) (hR := fun hs => Rd.suf 2 hS.cons.cons.cons (by omega))
               refine RL.p T ?_
               refine RL.sv1 T ?_
               refine RL.nil _ _ _ _ ?_
               refine hK72 _ _ _ ?_
               refine SW.seq_k fun K73 hK73 => ?_
               refine SW.region _ _ _ _ ?_
               refine RL.q (QV.vN T rfl rfl rfl rfl rfl (by exact (rfl : _ = [_, _, _, _, _, _, _, _, _, _, _, _, _, _, _, _]))) ?_
               refine RL.s ?_
               refine NV.sN T rfl rfl rfl (by exact (rfl : _ = [_, _, _, _, _, _, _, _, _, _, _, _, _, _, _, _])) (by exact (rfl : _ = [_, _, _, _, _, _, _, _, _, _, _, _, _, _, _, _])) ?_
               refine RL.p T ?_
               refine RL.nil _ _ _ _ ?_
               refine hK73 _ _ _ ?_
               refine SW.sat (fun hs => ?_)
               refine SW.ret ?_
               refine retQ.rk (RVs.cN T rfl rfl rfl rfl (by exact (rfl : _ = [_, _, _, _, _, _, _, _, _, _, _, _, _, _, _, _])) (RVs.t RVs.nil)) ?_
               clear hK73 K73 hK72 K72 hK71 K71 hK63 K63 hK62 K62 hK61 K61 hK59 K59 hK58 K58 hK9 K9 hK8 K8 hK7 K7 hK5 K5 hK4 K4 hK2 K2 hK1 K1 hK0 K0
               first
                 | (rw [(getE_long (by omega)).1, (getE_long (by omega)).2]
                    first
                      | exact ⟨none, 0, 0, [_], rfl, rfl, Rd.nilS, rfl⟩
                      | exact ⟨none, 0, 0, [_, _], rfl, rfl, Rd.nilS, rfl⟩)
                 | (rw [(getE_short (by omega) (by omega)).1, (getE_short (by omega) (by omega)).2]
                    first
                      | exact ⟨none, 0, 0, [_], rfl, rfl, Rd.nilS, rfl⟩
                      | exact ⟨none, 0, 0, [_, _], rfl, rfl, Rd.nilS, rfl⟩)
                 | (rw [(getE_tag (by omega) (by omega) (by omega)).1, (getE_tag (by omega) (by omega) (by omega)).2]
                    exact ⟨a0_, _, c0_, [_, _, _], rfl, (by first | exact hl42' | exact hl2'), (Rd.rowh (satl (G := [_, _, _]) hs) (by repeat first | exact At.head _ _ | apply At.tail)), rfl⟩)
                 | (rw [(getE_bare (by omega) (by omega) (by omega)).1, (getE_bare (by omega) (by omega) (by omega)).2]
                    exact ⟨a0_, _, c0_, [_, _, _], rfl, (by first | exact hl42' | exact hl2'), (Rd.rowh (satl (G := [_, _, _]) hs) (by repeat first | exact At.head _ _ | apply At.tail)), rfl⟩)
               )
            )
        ·skip
         refine SW.seq_k fun K74 hK74 => ?_
         refine SW.seq_k fun K75 hK75 => ?_
         refine SW.region _ _ _ _ ?_
         refine RL.p T ?_
         refine RL.p T ?_
         refine RL.nil _ _ _ _ ?_
         refine hK75 _ _ _ ?_
         refine SW.cs (fun hc14 => ?_) (fun hc14 => ?_)
         ·skip
          first
           | (exfalso; first | omega | contradiction | (simp at *; done))
           | (
            refine SW.skip ?_
            refine hK74 _ _ _ ?_
            refine SW.seq_k fun K76 hK76 => ?_
            refine SW.block ?_
            refine SW.draw [(18, 0), (19, 1), (20, 2), (21, 3), (22, 4), (23, 5), (24, 6), (25, 7), (26, 8), (27, 9), (28, 10), (29, 11), (30, 12), (31, 14), (32, 15)] [[], [], [], [], [2, 3], [4, 2, 3], [], [], [7], [6, 8, 7], [9, 6, 8, 7], [], [11, 0, 2, 3, 4, 5], [12, 11, 0, 2, 3, 4, 5], [], [14, 1, 0, 2, 3, 4, 5, 6, 7, 8, 9, 10, 11, 12, 13], [15, 14, 1, 0, 2, 3, 4, 5, 6, 7, 8, 9, 10, 11, 12, 13]] mixed (by kernel_rfl) (by kernel_rfl) ?_
            refine RD.p T ?_
            refine RD.p T ?_
            refine RD.p T ?_
            refine RD.p T ?_
            refine RD.q rfl rfl (Gd.none rfl) (QV.indexAddr_slice T rfl rfl rfl rfl rfl (hR.some (by omega)) (by omega) (by omega)) ?_
            refine RD.q rfl rfl (Gd.none rfl) (QV.load_elem T rfl rfl rfl rfl (by repeat first | exact hR | apply Rd.cons | apply Rd.app) (map_as (z := bi es 4) (by show 4 < _; omega) rfl)) ?_
            refine RD.p T ?_
            refine RD.p T ?_
            refine RD.q rfl rfl (Gd.none rfl) (by first | exact QV.arith rfl rfl rfl rfl (by omega) (by omega) | exact QV.arith_u8 rfl rfl rfl rfl (by omega) (by omega) | exact QV.arith_u16 rfl rfl rfl rfl (by omega) (by omega) | exact QV.arith_u32 rfl rfl rfl rfl (by omega) (by omega) | exact QV.arith_u64 rfl rfl rfl rfl (by omega) (by omega) | exact pev_sound T rfl) ?_
            refine RD.q rfl rfl (Gd.none rfl) (QV.indexAddr_slice T rfl rfl rfl rfl rfl (hR.some (by omega)) (by omega) (by omega)) ?_
            refine RD.q rfl rfl (Gd.none rfl) (QV.load_elem T rfl rfl rfl rfl (by repeat first | exact hR | apply Rd.cons | apply Rd.app) (map_as (z := bi es 10) (by show 10 < _; omega) rfl)) ?_
            refine RD.p T ?_
            refine RD.q rfl rfl (Gd.none rfl) (by first | exact QV.indexAddr_array T rfl rfl rfl rfl rfl (by omega) (by omega) | exact QV.indexAddr_slice T rfl rfl rfl rfl rfl (Rd.some (by repeat first | exact hS | apply Rd.cons | apply Rd.app) (by omega)) (by omega) (by omega)) ?_
            refine RD.p T ?_
            refine RD.nv rfl rfl rfl (Gd.none rfl) ?_
            refine NV.s1 T ?_
            refine ⟨(Stab.cons rfl (Gd.none rfl) (pev_sound T rfl) (Stab.cons rfl (Gd.none rfl) (QV.load_elem T rfl rfl rfl rfl (by repeat first | exact hR | apply Rd.cons | apply Rd.app) (map_as (z := bi es 10) (by show 10 < _; omega) rfl)) (Stab.cons rfl (Gd.none rfl) (QV.indexAddr_slice T rfl rfl rfl rfl rfl (hR.some (by omega)) (by omega) (by omega)) (Stab.cons rfl (Gd.none rfl) (by first | exact pev_sound T rfl | exact QV.arith rfl rfl rfl rfl (by omega) (by omega) | exact QV.arith_u8 rfl rfl rfl rfl (by omega) (by omega) | exact QV.arith_u16 rfl rfl rfl rfl (by omega) (by omega) | exact QV.arith_u32 rfl rfl rfl rfl (by omega) (by omega) | exact QV.arith_u64 rfl rfl rfl rfl (by omega) (by omega) ) (Stab.cons rfl (Gd.none rfl) (pev_sound T rfl) (Stab.cons rfl (Gd.none rfl) (pev_sound T rfl) (Stab.cons rfl (Gd.none rfl) (pev_sound T rfl) Stab.nil))))))), ?_⟩
            refine RD.q rfl rfl (Gd.none rfl) (by first | exact QV.indexAddr_array T rfl rfl rfl rfl rfl (by omega) (by omega) | exact QV.indexAddr_slice T rfl rfl rfl rfl rfl (Rd.some (by repeat first | exact hS | apply Rd.cons | apply Rd.app) (by omega)) (by omega) (by omega)) ?_
            refine RD.nv rfl rfl rfl (Gd.none rfl) ?_
            refine NV.s1 T ?_
            refine ⟨Stab.nil, ?_⟩
            refine RD.k rfl rfl ?_
            refine hK76 _ _ _ ?_
            refine SW.region _ _ _ _ ?_
            refine RL.p T ?_
            first | refine RL.ar ?_ | refine RL.p T ?_
            refine RL.p T ?_
            refine RL.nil _ _ _ _ ?_
            exact ⟨6 - 5, (by omega), 5, (by rfl), by omega, (.consI rfl (by first | omega | rfl) (.nil (by repeat first | exact Mx.refl | exact Mx.mix | refine Mx.put rfl ?_ | refine Mx.upd rfl ?_ | refine Mx.updl rfl ?_ | refine Mx.fin rfl ?_ | refine Mx.inner rfl ?_ | refine Mx.none ?_))), rfl, rfl⟩
            )
         ·skip
          first
           | (exfalso; first | omega | contradiction | (simp at *; done))
           | (
            refine SW.exit ?_
            refine hK8 _ _ _ ?_
            refine SW.seq_k fun K77 hK77 => ?_
            have hS := hR.suf 12 (by omega : 12 ≤ n)
            have hl2' : 0 + (n - 12 - 2) = ((es.drop 12).drop 2).length := by rw [List.length_drop, hl12]; omega
            refine SW.region _ _ _ _ ?_
            refine RL.p T ?_
            refine RL.sl T ?_ (l1 := 12)
            refine RL.p T ?_
            refine RL.nil _ _ _ _ ?_
            refine hK77 _ _ _ ?_
            refine SW.seq_k fun K78 hK78 => ?_
            refine SW.seq_k fun K79 hK79 => ?_
            refine SW.region _ _ _ _ ?_
            refine RL.p T ?_
            refine RL.ix T ?_ (hR := fun hs => (by repeat first | exact hS | apply Rd.cons | apply Rd.app))
            refine RL.le T ?_ (hR := fun hs => (by repeat first | exact hS | apply Rd.cons | apply Rd.app)) (hv := map_as (z := bi (es.drop 12) 0) (by omega) rfl)
            refine RL.p T ?_
            refine RL.p T ?_
            refine RL.join (fr1 := ?_) 4 39 true [40, 41, 42, 43] (fun hs4 hj => ?_) ?_ ?_
            rotate_left
            ·have hs4j := hs4
             try simp only [decide_eq_true_eq, Bool.not_eq_true', decide_eq_false_iff_not, Bool.not_eq_false', Int.not_lt, Int.not_le, Int.toNat_natCast, Bool.and_eq_true, Bool.or_eq_true, Bool.and_eq_false_iff, Bool.or_eq_false_iff] at hs4
             refine RL.p T ?_
             refine RL.ix T ?_ (hR := fun hs => (by repeat first | exact hS | apply Rd.cons | apply Rd.app))
             refine RL.le T ?_ (hR := fun hs => (by repeat first | exact hS | apply Rd.cons | apply Rd.app)) (hv := map_as (z := bi (es.drop 12) 1) (by omega) rfl)
             refine RL.p T ?_
             exact hj
            ·repeat first | exact Mx.refl | exact Mx.mix | refine Mx.put rfl ?_ | refine Mx.upd rfl ?_ | refine Mx.updl rfl ?_ | refine Mx.fin rfl ?_ | refine Mx.inner rfl ?_ | refine Mx.none ?_
            refine RL.and ?_
            refine RL.nil _ _ _ _ ?_
            refine hK79 _ _ _ ?_
            refine SW.cs (fun hc15 => ?_) (fun hc15 => ?_)
            ·skip
             first
              | (exfalso; first | omega | contradiction | (simp at *; done))
              | (
               refine SW.seq_k fun K80 hK80 => ?_
               refine SW.seq_k fun K81 hK81 => ?_
               refine SW.region _ _ _ _ ?_
               refine RL.p T ?_
               refine RL.p T ?_
               refine RL.p T ?_
               refine RL.nil _ _ _ _ ?_
               refine hK81 _ _ _ ?_
               refine SW.cs (fun hc16 => ?_) (fun hc16 => ?_)
               ·skip
                first
                 | (exfalso; first | omega | contradiction | (simp at *; done))
                 | (
                  refine SW.seq_k fun K82 hK82 => ?_
                  refine SW.region _ _ _ _ ?_
                  refine RL.s ?_
                  first | refine NV.buildc T rfl (rfl : _ = some [_, _, _, _, _, _, _, _, _, _, _, _, _, _, _, _]) ?_ | refine NV.buildz T rfl (rfl : _ = some [_, _, _, _, _, _, _, _, _, _, _, _, _, _, _, _]) ?_ | refine NV.pure T (rfl : _ = some (Value.agg #[_, _, _, _, _, _, _, _, _, _, _, _, _, _, _, _])) ?_
                  refine RL.s ?_
                  refine NV.sN T rfl rfl rfl (by exact (rfl : _ = [_, _, _, _, _, _, _, _, _, _, _, _, _, _, _, _])) (by exact (rfl : _ = [_, _, _, _, _, _, _, _, _, _, _, _, _, _, _, _])) ?_
                  refine RL.p T ?_
                  refine RL.nil _ _ _ _ ?_
                  refine hK82 _ _ _ ?_
                  refine SW.sat (fun hs => ?_)
                  refine SW.ret ?_
                  refine retQ.rk (RVs.cN T rfl rfl rfl rfl (by exact (rfl : _ = [_, _, _, _, _, _, _, _, _, _, _, _, _, _, _, _])) (RVs.t RVs.nil)) ?_
                  clear hK82 K82 hK81 K81 hK80 K80 hK79 K79 hK78 K78 hK77 K77 hK75 K75 hK74 K74 hK9 K9 hK8 K8 hK7 K7 hK5 K5 hK4 K4 hK2 K2 hK1 K1 hK0 K0
                  first
                    | (rw [(getE_long (by omega)).1, (getE_long (by omega)).2]
                       first
                         | exact ⟨none, 0, 0, [_], rfl, rfl, Rd.nilS, rfl⟩
                         | exact ⟨none, 0, 0, [_, _], rfl, rfl, Rd.nilS, rfl⟩)
                    | (rw [(getE_short (by omega) (by omega)).1, (getE_short (by omega) (by omega)).2]
                       first
                         | exact ⟨none, 0, 0, [_], rfl, rfl, Rd.nilS, rfl⟩
                         | exact ⟨none, 0, 0, [_, _], rfl, rfl, Rd.nilS, rfl⟩)
                    | (rw [(getE_tag (by omega) (by omega) (by omega)).1, (getE_tag (by omega) (by omega) (by omega)).2]
                       exact ⟨a0_, _, c0_, [_, _, _], rfl, (by first | exact hl42' | exact hl2'), (Rd.rowh (satl (G := [_, _, _]) hs) (by repeat first | exact At.head _ _ | apply At.tail)), rfl⟩)
                    | (rw [(getE_bare (by omega) (by omega) (by omega)).1, (getE_bare (by omega) (by omega) (by omega)).2]
                       exact ⟨a0_, _, c0_, [_, _, _], rfl, (by first | exact hl42' | exact hl2'), (Rd.rowh (satl (G := [_, _, _]) hs) (by repeat first | exact At.head _ _ | apply At.tail)), rfl⟩)
                  )
               ·skip
                first
                 | (exfalso; first | omega | contradiction | (simp at *; done))
                 | (
                  refine SW.skip ?_
                  refine hK80 _ _ _ ?_
                  refine SW.seq_k fun K83 hK83 => ?_
                  have hS4 := hS.suf 4 (by omega)
                  have hl4 : ((es.drop 12).drop 4).length = n - 12 - 4 := by rw [List.length_drop, hl12]
                  have hl42' : 0 + (n - 12 - 4 - 2) = (((es.drop 12).drop 4).drop 2).length := by rw [List.length_drop, hl4]; omega
                  refine SW.draw [(49, 0), (50, 1), (51, 2), (52, 3), (53, 4), (54, 5), (55, 6), (56, 7), (57, 8), (58, 9), (59, 10), (60, 12)] [[], [0], [1, 0], [2, 1, 0], [3, 2, 1, 0], [], [5], [6, 5], [7, 6, 5], [4, 3, 2, 1, 0, 8, 7, 6, 5], [], [10], [0, 1, 2, 3, 4, 5, 6, 7, 8, 9, 10, 11], [12, 0, 1, 2, 3, 4, 5, 6, 7, 8, 9, 10, 11]] mixed (by kernel_rfl) (by kernel_rfl) ?_
                  refine RD.p T ?_
                  refine RD.q rfl rfl (Gd.none rfl) (QV.indexAddr_slice T rfl rfl rfl rfl rfl (hS.some (by omega)) (by omega) (by omega)) ?_
                  refine RD.q rfl rfl (Gd.none rfl) (QV.load_elem T rfl rfl rfl rfl (by repeat first | exact hS | apply Rd.cons | apply Rd.app) (map_as (z := bi (es.drop 12) 2) (by show 2 < _; omega) rfl)) ?_
                  refine RD.q rfl rfl (Gd.none rfl) (QV.convI T rfl rfl rfl rfl (by simp only [loK]; omega) (by simp only [hiK]; omega)) ?_
                  refine RD.q rfl rfl (Gd.none rfl) (by first | exact QV.arith rfl rfl rfl rfl (by omega) (by omega) | exact QV.arith_u8 rfl rfl rfl rfl (by omega) (by omega) | exact QV.arith_u16 rfl rfl rfl rfl (by omega) (by omega) | exact QV.arith_u32 rfl rfl rfl rfl (by omega) (by omega) | exact QV.arith_u64 rfl rfl rfl rfl (by omega) (by omega) | exact pev_sound T rfl) ?_
                  refine RD.p T ?_
                  refine RD.q rfl rfl (Gd.none rfl) (QV.indexAddr_slice T rfl rfl rfl rfl rfl (hS.some (by omega)) (by omega) (by omega)) ?_
                  refine RD.q rfl rfl (Gd.none rfl) (QV.load_elem T rfl rfl rfl rfl (by repeat first | exact hS | apply Rd.cons | apply Rd.app) (map_as (z := bi (es.drop 12) 3) (by show 3 < _; omega) rfl)) ?_
                  refine RD.q rfl rfl (Gd.none rfl) (QV.convI T rfl rfl rfl rfl (by simp only [loK]; omega) (by simp only [hiK]; omega)) ?_
                  refine RD.q rfl rfl (Gd.none rfl) (QV.as (QV.arith_u16 rfl rfl rfl rfl (by omega) (by omega)) (show Value.int .u16 (bi (es.drop 12) 2 * 256 + bi (es.drop 12) 3) = .int .u16 (wN ((es.drop 12).drop 2)) from by rw [wN_drop])) ?_
                  refine RD.p T ?_
                  refine RD.nv rfl rfl rfl (Gd.none rfl) ?_
                  refine NV.s1 T ?_
                  refine ⟨(Stab.cons rfl (Gd.none rfl) (QV.as (QV.arith_u16 rfl rfl rfl rfl (by omega) (by omega)) (show Value.int .u16 (bi (es.drop 12) 2 * 256 + bi (es.drop 12) 3) = .int .u16 (wN ((es.drop 12).drop 2)) from by rw [wN_drop])) (Stab.cons rfl (Gd.none rfl) (QV.convI T rfl rfl rfl rfl (by simp only [loK]; omega) (by simp only [hiK]; omega)) (Stab.cons rfl (Gd.none rfl) (QV.load_elem T rfl rfl rfl rfl (by repeat first | exact hS | apply Rd.cons | apply Rd.app) (map_as (z := bi (es.drop 12) 3) (by show 3 < _; omega) rfl)) (Stab.cons rfl (Gd.none rfl) (QV.indexAddr_slice T rfl rfl rfl rfl rfl (hS.some (by omega)) (by omega) (by omega)) (Stab.cons rfl (Gd.none rfl) (pev_sound T rfl) (Stab.cons rfl (Gd.none rfl) (by first | exact pev_sound T rfl | exact QV.arith rfl rfl rfl rfl (by omega) (by omega) | exact QV.arith_u8 rfl rfl rfl rfl (by omega) (by omega) | exact QV.arith_u16 rfl rfl rfl rfl (by omega) (by omega) | exact QV.arith_u32 rfl rfl rfl rfl (by omega) (by omega) | exact QV.arith_u64 rfl rfl rfl rfl (by omega) (by omega) ) (Stab.cons rfl (Gd.none rfl) (QV.convI T rfl rfl rfl rfl (by simp only [loK]; omega) (by simp only [hiK]; omega)) (Stab.cons rfl (Gd.none rfl) (QV.load_elem T rfl rfl rfl rfl (by repeat first | exact hS | apply Rd.cons | apply Rd.app) (map_as (z := bi (es.drop 12) 2) (by show 2 < _; omega) rfl)) (Stab.cons rfl (Gd.none rfl) (QV.indexAddr_slice T rfl rfl rfl rfl rfl (hS.some (by omega)) (by omega) (by omega)) (Stab.cons rfl (Gd.none rfl) (pev_sound T rfl) Stab.nil)))))))))), ?_⟩
                  refine RD.p T ?_
                  refine RD.nv rfl rfl rfl (Gd.none rfl) ?_
                  refine NV.s1 T ?_
                  refine ⟨Stab.nil, ?_⟩
                  refine RD.k rfl rfl ?_
                  refine hK83 _ _ _ ?_
                  refine SW.region _ _ _ _ ?_
                  refine RL.p T ?_
                  refine RL.sl T ?_ (l1 := 4)
                  refine RL.p T ?_
                  refine RL.nil _ _ _ _ ?_
                  refine hK78 _ _ _ ?_
                  refine SW.seq_k fun K84 hK84 => ?_
                  refine SW.draw [(63, 0), (64, 1), (65, 2), (66, 3), (67, 4), (68, 5), (69, 6), (70, 7), (71, 8), (72, 9), (73, 10)] [[], [0], [1, 0], [2, 1, 0], [3, 2, 1, 0], [], [5], [6, 5], [7, 6, 5], [4, 3, 2, 1, 0, 8, 7, 6, 5], [0, 1, 2, 3, 4, 5, 6, 7, 8, 9], [10, 0, 1, 2, 3, 4, 5, 6, 7, 8, 9]] mixed (by kernel_rfl) (by kernel_rfl) ?_
                  refine RD.p T ?_
                  refine RD.q rfl rfl (Gd.none rfl) (by first | exact (QV.indexAddr_slice T rfl rfl rfl rfl rfl (hS4.some (by omega)) (by omega) (by omega)) | exact (QV.indexAddr_slice T rfl rfl rfl rfl rfl (hS.some (by omega)) (by omega) (by omega))) ?_
                  refine RD.q rfl rfl (Gd.none rfl) (by first | exact (QV.load_elem T rfl rfl rfl rfl (by repeat first | exact hS4 | apply Rd.cons | apply Rd.app) (map_as (z := bi ((es.drop 12).drop 4) 0) (by show 0 < _; omega) rfl)) | exact (QV.load_elem T rfl rfl rfl rfl (by repeat first | exact hS | apply Rd.cons | apply Rd.app) (map_as (z := bi (es.drop 12) 0) (by show 0 < _; omega) rfl))) ?_
                  refine RD.q rfl rfl (Gd.none rfl) (QV.convI T rfl rfl rfl rfl (by simp only [loK]; omega) (by simp only [hiK]; omega)) ?_
                  refine RD.q rfl rfl (Gd.none rfl) (by first | exact QV.arith rfl rfl rfl rfl (by omega) (by omega) | exact QV.arith_u8 rfl rfl rfl rfl (by omega) (by omega) | exact QV.arith_u16 rfl rfl rfl rfl (by omega) (by omega) | exact QV.arith_u32 rfl rfl rfl rfl (by omega) (by omega) | exact QV.arith_u64 rfl rfl rfl rfl (by omega) (by omega) | exact pev_sound T rfl) ?_
                  refine RD.p T ?_
                  refine RD.q rfl rfl (Gd.none rfl) (by first | exact (QV.indexAddr_slice T rfl rfl rfl rfl rfl (hS4.some (by omega)) (by omega) (by omega)) | exact (QV.indexAddr_slice T rfl rfl rfl rfl rfl (hS.some (by omega)) (by omega) (by omega))) ?_
                  refine RD.q rfl rfl (Gd.none rfl) (by first | exact (QV.load_elem T rfl rfl rfl rfl (by repeat first | exact hS4 | apply Rd.cons | apply Rd.app) (map_as (z := bi ((es.drop 12).drop 4) 1) (by show 1 < _; omega) rfl)) | exact (QV.load_elem T rfl rfl rfl rfl (by repeat first | exact hS | apply Rd.cons | apply Rd.app) (map_as (z := bi (es.drop 12) 1) (by show 1 < _; omega) rfl))) ?_
                  refine RD.q rfl rfl (Gd.none rfl) (QV.convI T rfl rfl rfl rfl (by simp only [loK]; omega) (by simp only [hiK]; omega)) ?_
                  refine RD.q rfl rfl (Gd.none rfl) (by first | exact QV.arith rfl rfl rfl rfl (by omega) (by omega) | exact QV.arith_u8 rfl rfl rfl rfl (by omega) (by omega) | exact QV.arith_u16 rfl rfl rfl rfl (by omega) (by omega) | exact QV.arith_u32 rfl rfl rfl rfl (by omega) (by omega) | exact QV.arith_u64 rfl rfl rfl rfl (by omega) (by omega) | exact pev_sound T rfl) ?_
                  refine RD.p T ?_
                  refine RD.nv rfl rfl rfl (Gd.none rfl) ?_
                  refine NV.s1 T ?_
                  refine ⟨Stab.nil, ?_⟩
                  refine RD.k rfl rfl ?_
                  refine hK84 _ _ _ ?_
                  refine SW.seq_k fun K85 hK85 => ?_
                  refine SW.region _ _ _ _ ?_
                  refine RL.bs T rfl rfl rfl (by exact (rfl : _ = some [])) (fun b74_10 => ?_)
                  refine RL.p T ?_
                  refine RL.sl T ?_ (l1 := 2)
                  first
                    | refine RL.apI (ki := .u8) (xs := []) (ys := ((es.drop 12).drop 4).drop 2) T (fun a0_ c0_ => ?_) (hR := fun hs => Rd.suf 2 hS4.cons.cons.cons (by omega))
                    | refine RL.apI (ki := .u8) (xs := []) (ys := (es.drop 12).drop 2) T (fun a0_ c0_ => ?_) (hR := fun hs => Rd.suf 2 hS.cons.cons.cons (by omega))
                  refine RL.p T ?_
                  refine RL.sv1 T ?_
                  refine RL.nil _ _ _ _ ?_
                  refine hK85 _ _ _ ?_
                  refine SW.seq_k fun K86 hK86 => ?_
                  refine SW.region _ _ _ _ ?_
                  refine RL.q (QV.vN T rfl rfl rfl rfl rfl (by exact (rfl : _ = [_, _, _, _, _, _, _, _, _, _, _, _, _, _, _, _]))) ?_
                  refine RL.s ?_
                  refine NV.sN T rfl rfl rfl (by exact (rfl : _ = [_, _, _, _, _, _, _, _, _, _, _, _, _, _, _, _])) (by exact (rfl : _ = [_, _, _, _, _, _, _, _, _, _, _, _, _, _, _, _])) ?_
                  refine RL.p T ?_
                  refine RL.nil _ _ _ _ ?_
                  refine hK86 _ _ _ ?_
                  refine SW.sat (fun hs => ?_)
                  refine SW.ret ?_
                  refine retQ.rk (RVs.cN T rfl rfl rfl rfl (by exact (rfl : _ = [_, _, _, _, _, _, _, _, _, _, _, _, _, _, _, _])) (RVs.t RVs.nil)) ?_
                  clear hK86 K86 hK85 K85 hK84 K84 hK83 K83 hK81 K81 hK80 K80 hK79 K79 hK78 K78 hK77 K77 hK75 K75 hK74 K74 hK9 K9 hK8 K8 hK7 K7 hK5 K5 hK4 K4 hK2 K2 hK1 K1 hK0 K0
                  first
                    | (rw [(getE_long (by omega)).1, (getE_long (by omega)).2]
                       first
                         | exact ⟨none, 0, 0, [_], rfl, rfl, Rd.nilS, rfl⟩
                         | exact ⟨none, 0, 0, [_, _], rfl, rfl, Rd.nilS, rfl⟩)
                    | (rw [(getE_short (by omega) (by omega)).1, (getE_short (by omega) (by omega)).2]
                       first
                         | exact ⟨none, 0, 0, [_], rfl, rfl, Rd.nilS, rfl⟩
                         | exact ⟨none, 0, 0, [_, _], rfl, rfl, Rd.nilS, rfl⟩)
                    | (rw [(getE_tag (by omega) (by omega) (by omega)).1, (getE_tag (by omega) (by omega) (by omega)).2]
                       exact ⟨a0_, _, c0_, [_, _, _], rfl, (by first | exact hl42' | exact hl2'), (Rd.rowh (satl (G := [_, _, _]) hs) (by repeat first | exact At.head _ _ | apply At.tail)), rfl⟩)
                    | (rw [(getE_bare (by omega) (by omega) (by omega)).1, (getE_bare (by omega) (by omega) (by omega)).2]
                       exact ⟨a0_, _, c0_, [_, _, _], rfl, (by first | exact hl42' | exact hl2'), (Rd.rowh (satl (G := [_, _, _]) hs) (by repeat first | exact At.head _ _ | apply At.tail)), rfl⟩)
                  )
               )
            ·skip
             first
              | (exfalso; first | omega | contradiction | (simp at *; done))
              | (
               refine SW.skip ?_
               refine hK78 _ _ _ ?_
               refine SW.seq_k fun K87 hK87 => ?_
               refine SW.draw [(63, 0), (64, 1), (65, 2), (66, 3), (67, 4), (68, 5), (69, 6), (70, 7), (71, 8), (72, 9), (73, 10)] [[], [0], [1, 0], [2, 1, 0], [3, 2, 1, 0], [], [5], [6, 5], [7, 6, 5], [4, 3, 2, 1, 0, 8, 7, 6, 5], [0, 1, 2, 3, 4, 5, 6, 7, 8, 9], [10, 0, 1, 2, 3, 4, 5, 6, 7, 8, 9]] mixed (by kernel_rfl) (by kernel_rfl) ?_
               refine RD.p T ?_
               refine RD.q rfl rfl (Gd.none rfl) (by first | exact (QV.indexAddr_slice T rfl rfl rfl rfl rfl (hS4.some (by omega)) (by omega) (by omega)) | exact (QV.indexAddr_slice T rfl rfl rfl rfl rfl (hS.some (by omega)) (by omega) (by omega))) ?_
               refine RD.q rfl rfl (Gd.none rfl) (by first | exact (QV.load_elem T rfl rfl rfl rfl (by repeat first | exact hS4 | apply Rd.cons | apply Rd.app) (map_as (z := bi ((es.drop 12).drop 4) 0) (by show 0 < _; omega) rfl)) | exact (QV.load_elem T rfl rfl rfl rfl (by repeat first | exact hS | apply Rd.cons | apply Rd.app) (map_as (z := bi (es.drop 12) 0) (by show 0 < _; omega) rfl))) ?_
               refine RD.q rfl rfl (Gd.none rfl) (QV.convI T rfl rfl rfl rfl (by simp only [loK]; omega) (by simp only [hiK]; omega)) ?_
               refine RD.q rfl rfl (Gd.none rfl) (by first | exact QV.arith rfl rfl rfl rfl (by omega) (by omega) | exact QV.arith_u8 rfl rfl rfl rfl (by omega) (by omega) | exact QV.arith_u16 rfl rfl rfl rfl (by omega) (by omega) | exact QV.arith_u32 rfl rfl rfl rfl (by omega) (by omega) | exact QV.arith_u64 rfl rfl rfl rfl (by omega) (by omega) | exact pev_sound T rfl) ?_
               refine RD.p T ?_
               refine RD.q rfl rfl (Gd.none rfl) (by first | exact (QV.indexAddr_slice T rfl rfl rfl rfl rfl (hS4.some (by omega)) (by omega) (by omega)) | exact (QV.indexAddr_slice T rfl rfl rfl rfl rfl (hS.some (by omega)) (by omega) (by omega))) ?_
               refine RD.q rfl rfl (Gd.none rfl) (by first | exact (QV.load_elem T rfl rfl rfl rfl (by repeat first | exact hS4 | apply Rd.cons | apply Rd.app) (map_as (z := bi ((es.drop 12).drop 4) 1) (by show 1 < _; omega) rfl)) | exact (QV.load_elem T rfl rfl rfl rfl (by repeat first | exact hS | apply Rd.cons | apply Rd.app) (map_as (z := bi (es.drop 12) 1) (by show 1 < _; omega) rfl))) ?_
               refine RD.q rfl rfl (Gd.none rfl) (QV.convI T rfl rfl rfl rfl (by simp only [loK]; omega) (by simp only [hiK]; omega)) ?_
               refine RD.q rfl rfl (Gd.none rfl) (by first | exact QV.arith rfl rfl rfl rfl (by omega) (by omega) | exact QV.arith_u8 rfl rfl rfl rfl (by omega) (by omega) | exact QV.arith_u16 rfl rfl rfl rfl (by omega) (by omega) | exact QV.arith_u32 rfl rfl rfl rfl (by omega) (by omega) | exact QV.arith_u64 rfl rfl rfl rfl (by omega) (by omega) | exact pev_sound T rfl) ?_
               refine RD.p T ?_
               refine RD.nv rfl rfl rfl (Gd.none rfl) ?_
               refine NV.s1 T ?_
               refine ⟨Stab.nil, ?_⟩
               refine RD.k rfl rfl ?_
               refine hK87 _ _ _ ?_
               refine SW.seq_k fun K88 hK88 => ?_
               refine SW.region _ _ _ _ ?_
               refine RL.bs T rfl rfl rfl (by exact (rfl : _ = some [])) (fun b74_11 => ?_)
               refine RL.p T ?_
               refine RL.sl T ?_ (l1 := 2)
               first
                 | refine RL.apI (ki := .u8) (xs := []) (ys := ((es.drop 12).drop 4).drop 2) T (fun a0_ c0_ => ?_) (hR := fun hs => Rd.suf 2 hS4.cons.cons.cons (by omega))
                 | refine RL.apI (ki := .u8) (xs := []) (ys := (es.drop 12).drop 2) T (fun a0_ c0_ => ?_) (hR := fun hs => Rd.suf 2 hS.cons.cons.cons (by omega))
               refine RL.p T ?_
               refine RL.sv1 T ?_
               refine RL.nil _ _ _ _ ?_
               refine hK88 _ _ _ ?_
               refine SW.seq_k fun K89 hK89 => ?_
               refine SW.region _ _ _ _ ?_
               refine RL.q (QV.vN T rfl rfl rfl rfl rfl (by exact (rfl : _ = [_, _, _, _, _, _, _, _, _, _, _, _, _, _, _, _]))) ?_
               refine RL.s ?_
               refine NV.sN T rfl rfl rfl (by exact (rfl : _ = [_, _, _, _, _, _, _, _, _, _, _, _, _, _, _, _])) (by exact (rfl : _ = [_, _, _, _, _, _, _, _, _, _, _, _, _, _, _, _])) ?_
               refine RL.p T ?_
               refine RL.nil _ _ _ _ ?_
               refine hK89 _ _ _ ?_
               refine SW.sat (fun hs => ?_)
               refine SW.ret ?_
               refine retQ.rk (RVs.cN T rfl rfl rfl rfl (by exact (rfl : _ = [_, _, _, _, _, _, _, _, _, _, _, _, _, _, _, _])) (RVs.t RVs.nil)) ?_
               clear hK89 K89 hK88 K88 hK87 K87 hK79 K79 hK78 K78 hK77 K77 hK75 K75 hK74 K74 hK9 K9 hK8 K8 hK7 K7 hK5 K5 hK4 K4 hK2 K2 hK1 K1 hK0 K0
               first
                 | (rw [(getE_long (by omega)).1, (getE_long (by omega)).2]
                    first
                      | exact ⟨none, 0, 0, [_], rfl, rfl, Rd.nilS, rfl⟩
                      | exact ⟨none, 0, 0, [_, _], rfl, rfl, Rd.nilS, rfl⟩)
                 | (rw [(getE_short (by omega) (by omega)).1, (getE_short (by omega) (by omega)).2]
                    first
                      | exact ⟨none, 0, 0, [_], rfl, rfl, Rd.nilS, rfl⟩
                      | exact ⟨none, 0, 0, [_, _], rfl, rfl, Rd.nilS, rfl⟩)
                 | (rw [(getE_tag (by omega) (by omega) (by omega)).1, (getE_tag (by omega) (by omega) (by omega)).2]
                    exact ⟨a0_, _, c0_, [_, _, _], rfl, (by first | exact hl42' | exact hl2'), (Rd.rowh (satl (G := [_, _, _]) hs) (by repeat first | exact At.head _ _ | apply At.tail)), rfl⟩)
                 | (rw [(getE_bare (by omega) (by omega) (by omega)).1, (getE_bare (by omega) (by omega) (by omega)).2]
                    exact ⟨a0_, _, c0_, [_, _, _], rfl, (by first | exact hl42' | exact hl2'), (Rd.rowh (satl (G := [_, _, _]) hs) (by repeat first | exact At.head _ _ | apply At.tail)), rfl⟩)
               )
            )
        ·skip
         refine SW.seq_k fun K90 hK90 => ?_
         refine SW.seq_k fun K91 hK91 => ?_
         refine SW.region _ _ _ _ ?_
         refine RL.p T ?_
         refine RL.p T ?_
         refine RL.nil _ _ _ _ ?_
         refine hK91 _ _ _ ?_
         refine SW.cs (fun hc17 => ?_) (fun hc17 => ?_)
         ·skip
          first
           | (exfalso; first | omega | contradiction | (simp at *; done))
           | (
            refine SW.skip ?_
            refine hK90 _ _ _ ?_
            refine SW.seq_k fun K92 hK92 => ?_
            refine SW.block ?_
            refine SW.draw [(18, 0), (19, 1), (20, 2), (21, 3), (22, 4), (23, 5), (24, 6), (25, 7), (26, 8), (27, 9), (28, 10), (29, 11), (30, 12), (31, 14), (32, 15)] [[], [], [], [], [2, 3], [4, 2, 3], [], [], [7], [6, 8, 7], [9, 6, 8, 7], [], [11, 0, 2, 3, 4, 5], [12, 11, 0, 2, 3, 4, 5], [], [14, 1, 0, 2, 3, 4, 5, 6, 7, 8, 9, 10, 11, 12, 13], [15, 14, 1, 0, 2, 3, 4, 5, 6, 7, 8, 9, 10, 11, 12, 13]] mixed (by kernel_rfl) (by kernel_rfl) ?_
            refine RD.p T ?_
            refine RD.p T ?_
            refine RD.p T ?_
            refine RD.p T ?_
            refine RD.q rfl rfl (Gd.none rfl) (QV.indexAddr_slice T rfl rfl rfl rfl rfl (hR.some (by omega)) (by omega) (by omega)) ?_
            refine RD.q rfl rfl (Gd.none rfl) (QV.load_elem T rfl rfl rfl rfl (by repeat first | exact hR | apply Rd.cons | apply Rd.app) (map_as (z := bi es 5) (by show 5 < _; omega) rfl)) ?_
            refine RD.p T ?_
            refine RD.p T ?_
            refine RD.q rfl rfl (Gd.none rfl) (by first | exact QV.arith rfl rfl rfl rfl (by omega) (by omega) | exact QV.arith_u8 rfl rfl rfl rfl (by omega) (by omega) | exact QV.arith_u16 rfl rfl rfl rfl (by omega) (by omega) | exact QV.arith_u32 rfl rfl rfl rfl (by omega) (by omega) | exact QV.arith_u64 rfl rfl rfl rfl (by omega) (by omega) | exact pev_sound T rfl) ?_
            refine RD.q rfl rfl (Gd.none rfl) (QV.indexAddr_slice T rfl rfl rfl rfl rfl (hR.some (by omega)) (by omega) (by omega)) ?_
            refine RD.q rfl rfl (Gd.none rfl) (QV.load_elem T rfl rfl rfl rfl (by repeat first | exact hR | apply Rd.cons | apply Rd.app) (map_as (z := bi es 11) (by show 11 < _; omega) rfl)) ?_
            refine RD.p T ?_
            refine RD.q rfl rfl (Gd.none rfl) (by first | exact QV.indexAddr_array T rfl rfl rfl rfl rfl (by omega) (by omega) | exact QV.indexAddr_slice T rfl rfl rfl rfl rfl (Rd.some (by repeat first | exact hS | apply Rd.cons | apply Rd.app) (by omega)) (by omega) (by omega)) ?_
            refine RD.p T ?_
            refine RD.nv rfl rfl rfl (Gd.none rfl) ?_
            refine NV.s1 T ?_
            refine ⟨(Stab.cons rfl (Gd.none rfl) (pev_sound T rfl) (Stab.cons rfl (Gd.none rfl) (QV.load_elem T rfl rfl rfl rfl (by repeat first | exact hR | apply Rd.cons | apply Rd.app) (map_as (z := bi es 11) (by show 11 < _; omega) rfl)) (Stab.cons rfl (Gd.none rfl) (QV.indexAddr_slice T rfl rfl rfl rfl rfl (hR.some (by omega)) (by omega) (by omega)) (Stab.cons rfl (Gd.none rfl) (by first | exact pev_sound T rfl | exact QV.arith rfl rfl rfl rfl (by omega) (by omega) | exact QV.arith_u8 rfl rfl rfl rfl (by omega) (by omega) | exact QV.arith_u16 rfl rfl rfl rfl (by omega) (by omega) | exact QV.arith_u32 rfl rfl rfl rfl (by omega) (by omega) | exact QV.arith_u64 rfl rfl rfl rfl (by omega) (by omega) ) (Stab.cons rfl (Gd.none rfl) (pev_sound T rfl) (Stab.cons rfl (Gd.none rfl) (pev_sound T rfl) (Stab.cons rfl (Gd.none rfl) (pev_sound T rfl) Stab.nil))))))), ?_⟩
            refine RD.q rfl rfl (Gd.none rfl) (by first | exact QV.indexAddr_array T rfl rfl rfl rfl rfl (by omega) (by omega) | exact QV.indexAddr_slice T rfl rfl rfl rfl rfl (Rd.some (by repeat first | exact hS | apply Rd.cons | apply Rd.app) (by omega)) (by omega) (by omega)) ?_
            refine RD.nv rfl rfl rfl (Gd.none rfl) ?_
            refine NV.s1 T ?_
            refine ⟨Stab.nil, ?_⟩
            refine RD.k rfl rfl ?_
            refine hK92 _ _ _ ?_
            refine SW.region _ _ _ _ ?_
            refine RL.p T ?_
            first | refine RL.ar ?_ | refine RL.p T ?_
            refine RL.p T ?_
            refine RL.nil _ _ _ _ ?_
            exact ⟨6 - 6, (by omega), 6, (by rfl), by omega, (.consI rfl (by first | omega | rfl) (.nil (by repeat first | exact Mx.refl | exact Mx.mix | refine Mx.put rfl ?_ | refine Mx.upd rfl ?_ | refine Mx.updl rfl ?_ | refine Mx.fin rfl ?_ | refine Mx.inner rfl ?_ | refine Mx.none ?_))), rfl, rfl⟩
            )
         ·skip
          first
           | (exfalso; first | omega | contradiction | (simp at *; done))
           | (
            refine SW.exit ?_
            refine hK8 _ _ _ ?_
            refine SW.seq_k fun K93 hK93 => ?_
            have hS := hR.suf 12 (by omega : 12 ≤ n)
            have hl2' : 0 + (n - 12 - 2) = ((es.drop 12).drop 2).length := by rw [List.length_drop, hl12]; omega
            refine SW.region _ _ _ _ ?_
            refine RL.p T ?_
            refine RL.sl T ?_ (l1 := 12)
            refine RL.p T ?_
            refine RL.nil _ _ _ _ ?_
            refine hK93 _ _ _ ?_
            refine SW.seq_k fun K94 hK94 => ?_
            refine SW.seq_k fun K95 hK95 => ?_
            refine SW.region _ _ _ _ ?_
            refine RL.p T ?_
            refine RL.ix T ?_ (hR := fun hs => (by repeat first | exact hS | apply Rd.cons | apply Rd.app))
            refine RL.le T ?_ (hR := fun hs => (by repeat first | exact hS | apply Rd.cons | apply Rd.app)) (hv := map_as (z := bi (es.drop 12) 0) (by omega) rfl)
            refine RL.p T ?_
            refine RL.p T ?_
            refine RL.join (fr1 := ?_) 4 39 true [40, 41, 42, 43] (fun hs5 hj => ?_) ?_ ?_
            rotate_left
            ·have hs5j := hs5
             try simp only [decide_eq_true_eq, Bool.not_eq_true', decide_eq_false_iff_not, Bool.not_eq_false', Int.not_lt, Int.not_le, Int.toNat_natCast, Bool.and_eq_true, Bool.or_eq_true, Bool.and_eq_false_iff, Bool.or_eq_false_iff] at hs5
             refine RL.p T ?_
             refine RL.ix T ?_ (hR := fun hs => (by repeat first | exact hS | apply Rd.cons | apply Rd.app))
             refine RL.le T ?_ (hR := fun hs => (by repeat first | exact hS | apply Rd.cons | apply Rd.app)) (hv := map_as (z := bi (es.drop 12) 1) (by omega) rfl)
             refine RL.p T ?_
             exact hj
            ·repeat first | exact Mx.refl | exact Mx.mix | refine Mx.put rfl ?_ | refine Mx.upd rfl ?_ | refine Mx.updl rfl ?_ | refine Mx.fin rfl ?_ | refine Mx.inner rfl ?_ | refine Mx.none ?_
            refine RL.and ?_
            refine RL.nil _ _ _ _ ?_
            refine hK95 _ _ _ ?_
            refine SW.cs (fun hc18 => ?_) (fun hc18 => ?_)
            ·skip
             first
              | (exfalso; first | omega | contradiction | (simp at *; done))
              | (
               refine SW.seq_k fun K96 hK96 => ?_
               refine SW.seq_k fun K97 hK97 => ?_
               refine SW.region _ _ _ _ ?_
               refine RL.p T ?_
               refine RL.p T ?_
               refine RL.p T ?_
               refine RL.nil _ _ _ _ ?_
               refine hK97 _ _ _ ?_
               refine SW.cs (fun hc19 => ?_) (fun hc19 => ?_)
               ·skip
                first
                 | (exfalso; first | omega | contradiction | (simp at *; done))
                 | (
                  refine SW.seq_k fun K98 hK98 => ?_
                  refine SW.region _ _ _ _ ?_
                  refine RL.s ?_
                  first | refine NV.buildc T rfl (rfl : _ = some [_, _, _, _, _, _, _, _, _, _, _, _, _, _, _, _]) ?_ | refine NV.buildz T rfl (rfl : _ = some [_, _, _, _, _, _, _, _, _, _, _, _, _, _, _, _]) ?_ | refine NV.pure T (rfl : _ = some (Value.agg #[_, _, _, _, _, _, _, _, _, _, _, _, _, _, _, _])) ?_
                  refine RL.s ?_
                  refine NV.sN T rfl rfl rfl (by exact (rfl : _ = [_, _, _, _, _, _, _, _, _, _, _, _, _, _, _, _])) (by exact (rfl : _ = [_, _, _, _, _, _, _, _, _, _, _, _, _, _, _, _])) ?_
                  refine RL.p T ?_
                  refine RL.nil _ _ _ _ ?_
                  refine hK98 _ _ _ ?_
                  refine SW.sat (fun hs => ?_)
                  refine SW.ret ?_
                  refine retQ.rk (RVs.cN T rfl rfl rfl rfl (by exact (rfl : _ = [_, _, _, _, _, _, _, _, _, _, _, _, _, _, _, _])) (RVs.t RVs.nil)) ?_
                  clear hK98 K98 hK97 K97 hK96 K96 hK95 K95 hK94 K94 hK93 K93 hK91 K91 hK90 K90 hK9 K9 hK8 K8 hK7 K7 hK5 K5 hK4 K4 hK2 K2 hK1 K1 hK0 K0
                  first
                    | (rw [(getE_long (by omega)).1, (getE_long (by omega)).2]
                       first
                         | exact ⟨none, 0, 0, [_], rfl, rfl, Rd.nilS, rfl⟩
                         | exact ⟨none, 0, 0, [_, _], rfl, rfl, Rd.nilS, rfl⟩)
                    | (rw [(getE_short (by omega) (by omega)).1, (getE_short (by omega) (by omega)).2]
                       first
                         | exact ⟨none, 0, 0, [_], rfl, rfl, Rd.nilS, rfl⟩
                         | exact ⟨none, 0, 0, [_, _], rfl, rfl, Rd.nilS, rfl⟩)
                    | (rw [(getE_tag (by omega) (by omega) (by omega)).1, (getE_tag (by omega) (by omega) (by omega)).2]
                       exact ⟨a0_, _, c0_, [_, _, _], rfl, (by first | exact hl42' | exact hl2'), (Rd.rowh (satl (G := [_, _, _]) hs) (by repeat first | exact At.head _ _ | apply At.tail)), rfl⟩)
                    | (rw [(getE_bare (by omega) (by omega) (by omega)).1, (getE_bare (by omega) (by omega) (by omega)).2]
                       exact ⟨a0_, _, c0_, [_, _, _], rfl, (by first | exact hl42' | exact hl2'), (Rd.rowh (satl (G := [_, _, _]) hs) (by repeat first | exact At.head _ _ | apply At.tail)), rfl⟩)
                  )
               ·skip
                first
                 | (exfalso; first | omega | contradiction | (simp at *; done))
                 | (
                  refine SW.skip ?_
                  refine hK96 _ _ _ ?_
                  refine SW.seq_k fun K99 hK99 => ?_
                  have hS4 := hS.suf 4 (by omega)
                  have hl4 : ((es.drop 12).drop 4).length = n - 12 - 4 := by rw [List.length_drop, hl12]
                  have hl42' : 0 + (n - 12 - 4 - 2) = (((es.drop 12).drop 4).drop 2).length := by rw [List.length_drop, hl4]; omega
                  refine SW.draw [(49, 0), (50, 1), (51, 2), (52, 3), (53, 4), (54, 5), (55, 6), (56, 7), (57, 8), (58, 9), (59, 10), (60, 12)] [[], [0], [1, 0], [2, 1, 0], [3, 2, 1, 0], [], [5], [6, 5], [7, 6, 5], [4, 3, 2, 1, 0, 8, 7, 6, 5], [], [10], [0, 1, 2, 3, 4, 5, 6, 7, 8, 9, 10, 11], [12, 0, 1, 2, 3, 4, 5, 6, 7, 8, 9, 10, 11]] mixed (by kernel_rfl) (by kernel_rfl) ?_
                  refine RD.p T ?_
                  refine RD.q rfl rfl (Gd.none rfl) (QV.indexAddr_slice T rfl rfl rfl rfl rfl (hS.some (by omega)) (by omega) (by omega)) ?_
                  refine RD.q rfl rfl (Gd.none rfl) (QV.load_elem T rfl rfl rfl rfl (by repeat first | exact hS | apply Rd.cons | apply Rd.app) (map_as (z := bi (es.drop 12) 2) (by show 2 < _; omega) rfl)) ?_
                  refine RD.q rfl rfl (Gd.none rfl) (QV.convI T rfl rfl rfl rfl (by simp only [loK]; omega) (by simp only [hiK]; omega)) ?_
                  refine RD.q rfl rfl (Gd.none rfl) (by first | exact QV.arith rfl rfl rfl rfl (by omega) (by omega) | exact QV.arith_u8 rfl rfl rfl rfl (by omega) (by omega) | exact QV.arith_u16 rfl rfl rfl rfl (by omega) (by omega) | exact QV.arith_u32 rfl rfl rfl rfl (by omega) (by omega) | exact QV.arith_u64 rfl rfl rfl rfl (by omega) (by omega) | exact pev_sound T rfl) ?_
                  refine RD.p T ?_
                  refine RD.q rfl rfl (Gd.none rfl) (QV.indexAddr_slice T rfl rfl rfl rfl rfl (hS.some (by omega)) (by omega) (by omega)) ?_
                  refine RD.q rfl rfl (Gd.none rfl) (QV.load_elem T rfl rfl rfl rfl (by repeat first | exact hS | apply Rd.cons | apply Rd.app) (map_as (z := bi (es.drop 12) 3) (by show 3 < _; omega) rfl)) ?_
                  refine RD.q rfl rfl (Gd.none rfl) (QV.convI T rfl rfl rfl rfl (by simp only [loK]; omega) (by simp only [hiK]; omega)) ?_
                  refine RD.q rfl rfl (Gd.none rfl) (QV.as (QV.arith_u16 rfl rfl rfl rfl (by omega) (by omega)) (show Value.int .u16 (bi (es.drop 12) 2 * 256 + bi (es.drop 12) 3) = .int .u16 (wN ((es.drop 12).drop 2)) from by rw [wN_drop])) ?_
                  refine RD.p T ?_
                  refine RD.nv rfl rfl rfl (Gd.none rfl) ?_
                  refine NV.s1 T ?_
                  refine ⟨(Stab.cons rfl (Gd.none rfl) (QV.as (QV.arith_u16 rfl rfl rfl rfl (by omega) (by omega)) (show Value.int .u16 (bi (es.drop 12) 2 * 256 + bi (es.drop 12) 3) = .int .u16 (wN ((es.drop 12).drop 2)) from by rw [wN_drop])) (Stab.cons rfl (Gd.none rfl) (QV.convI T rfl rfl rfl rfl (by simp only [loK]; omega) (by simp only [hiK]; omega)) (Stab.cons rfl (Gd.none rfl) (QV.load_elem T rfl rfl rfl rfl (by repeat first | exact hS | apply Rd.cons | apply Rd.app) (map_as (z := bi (es.drop 12) 3) (by show 3 < _; omega) rfl)) (Stab.cons rfl (Gd.none rfl) (QV.indexAddr_slice T rfl rfl rfl rfl rfl (hS.some (by omega)) (by omega) (by omega)) (Stab.cons rfl (Gd.none rfl) (pev_sound T rfl) (Stab.cons rfl (Gd.none rfl) (by first | exact pev_sound T rfl | exact QV.arith rfl rfl rfl rfl (by omega) (by omega) | exact QV.arith_u8 rfl rfl rfl rfl (by omega) (by omega) | exact QV.arith_u16 rfl rfl rfl rfl (by omega) (by omega) | exact QV.arith_u32 rfl rfl rfl rfl (by omega) (by omega) | exact QV.arith_u64 rfl rfl rfl rfl (by omega) (by omega) ) (Stab.cons rfl (Gd.none rfl) (QV.convI T rfl rfl rfl rfl (by simp only [loK]; omega) (by simp only [hiK]; omega)) (Stab.cons rfl (Gd.none rfl) (QV.load_elem T rfl rfl rfl rfl (by repeat first | exact hS | apply Rd.cons | apply Rd.app) (map_as (z := bi (es.drop 12) 2) (by show 2 < _; omega) rfl)) (Stab.cons rfl (Gd.none rfl) (QV.indexAddr_slice T rfl rfl rfl rfl rfl (hS.some (by omega)) (by omega) (by omega)) (Stab.cons rfl (Gd.none rfl) (pev_sound T rfl) Stab.nil)))))))))), ?_⟩
                  refine RD.p T ?_
                  refine RD.nv rfl rfl rfl (Gd.none rfl) ?_
                  refine NV.s1 T ?_
                  refine ⟨Stab.nil, ?_⟩
                  refine RD.k rfl rfl ?_
                  refine hK99 _ _ _ ?_
                  refine SW.region _ _ _ _ ?_
                  refine RL.p T ?_
                  refine RL.sl T ?_ (l1 := 4)
                  refine RL.p T ?_
                  refine RL.nil _ _ _ _ ?_
                  refine hK94 _ _ _ ?_
                  refine SW.seq_k fun K100 hK100 => ?_
                  refine SW.draw [(63, 0), (64, 1), (65, 2), (66, 3), (67, 4), (68, 5), (69, 6), (70, 7), (71, 8), (72, 9), (73, 10)] [[], [0], [1, 0], [2, 1, 0], [3, 2, 1, 0], [], [5], [6, 5], [7, 6, 5], [4, 3, 2, 1, 0, 8, 7, 6, 5], [0, 1, 2, 3, 4, 5, 6, 7, 8, 9], [10, 0, 1, 2, 3, 4, 5, 6, 7, 8, 9]] mixed (by kernel_rfl) (by kernel_rfl) ?_
                  refine RD.p T ?_
                  refine RD.q rfl rfl (Gd.none rfl) (by first | exact (QV.indexAddr_slice T rfl rfl rfl rfl rfl (hS4.some (by omega)) (by omega) (by omega)) | exact (QV.indexAddr_slice T rfl rfl rfl rfl rfl (hS.some (by omega)) (by omega) (by omega))) ?_
                  refine RD.q rfl rfl (Gd.none rfl) (by first | exact (QV.load_elem T rfl rfl rfl rfl (by repeat first | exact hS4 | apply Rd.cons | apply Rd.app) (map_as (z := bi ((es.drop 12).drop 4) 0) (by show 0 < _; omega) rfl)) | exact (QV.load_elem T rfl rfl rfl rfl (by repeat first | exact hS | apply Rd.cons | apply Rd.app) (map_as (z := bi (es.drop 12) 0) (by show 0 < _; omega) rfl))) ?_
                  refine RD.q rfl rfl (Gd.none rfl) (QV.convI T rfl rfl rfl rfl (by simp only [loK]; omega) (by simp only [hiK]; omega)) ?_
                  refine RD.q rfl rfl (Gd.none rfl) (by first | exact QV.arith rfl rfl rfl rfl (by omega) (by omega) | exact QV.arith_u8 rfl rfl rfl rfl (by omega) (by omega) | exact QV.arith_u16 rfl rfl rfl rfl (by omega) (by omega) | exact QV.arith_u32 rfl rfl rfl rfl (by omega) (by omega) | exact QV.arith_u64 rfl rfl rfl rfl (by omega) (by omega) | exact pev_sound T rfl) ?_
                  refine RD.p T ?_
                  refine RD.q rfl rfl (Gd.none rfl) (by first | exact (QV.indexAddr_slice T rfl rfl rfl rfl rfl (hS4.some (by omega)) (by omega) (by omega)) | exact (QV.indexAddr_slice T rfl rfl rfl rfl rfl (hS.some (by omega)) (by omega) (by omega))) ?_
                  refine RD.q rfl rfl (Gd.none rfl) (by first | exact (QV.load_elem T rfl rfl rfl rfl (by repeat first | exact hS4 | apply Rd.cons | apply Rd.app) (map_as (z := bi ((es.drop 12).drop 4) 1) (by show 1 < _; omega) rfl)) | exact (QV.load_elem T rfl rfl rfl rfl (by repeat first | exact hS | apply Rd.cons | apply Rd.app) (map_as (z := bi (es.drop 12) 1) (by show 1 < _; omega) rfl))) ?_
                  refine RD.q rfl rfl (Gd.none rfl) (QV.convI T rfl rfl rfl rfl (by simp only [loK]; omega) (by simp only [hiK]; omega)) ?_
                  refine RD.q rfl rfl (Gd.none rfl) (by first | exact QV.arith rfl rfl rfl rfl (by omega) (by omega) | exact QV.arith_u8 rfl rfl rfl rfl (by omega) (by omega) | exact QV.arith_u16 rfl rfl rfl rfl (by omega) (by omega) | exact QV.arith_u32 rfl rfl rfl rfl (by omega) (by omega) | exact QV.arith_u64 rfl rfl rfl rfl (by omega) (by omega) | exact pev_sound T rfl) ?_
                  refine RD.p T ?_
                  refine RD.nv rfl rfl rfl (Gd.none rfl) ?_
                  refine NV.s1 T ?_
                  refine ⟨Stab.nil, ?_⟩
                  refine RD.k rfl rfl ?_
                  refine hK100 _ _ _ ?_
                  refine SW.seq_k fun K101 hK101 => ?_
                  refine SW.region _ _ _ _ ?_
                  refine RL.bs T rfl rfl rfl (by exact (rfl : _ = some [])) (fun b74_12 => ?_)
                  refine RL.p T ?_
                  refine RL.sl T ?_ (l1 := 2)
                  first
                    | refine RL.apI (ki := .u8) (xs := []) (ys := ((es.drop 12).drop 4).drop 2) T (fun a0_ c0_ => ?_) (hR := fun hs => Rd.suf 2 hS4.cons.cons.cons (by omega))
                    | refine RL.apI (ki := .u8) (xs := []) (ys := (es.drop 12).drop 2) T (fun a0_ c0_ => ?_) (hR := fun hs => Rd.suf 2 hS.cons.cons.cons (by omega))
                  refine RL.p T ?_
                  refine RL.sv1 T ?_
                  refine RL.nil _ _ _ _ ?_
                  refine hK101 _ _ _ ?_
                  refine SW.seq_k fun K102 hK102 => ?_
                  refine SW.region _ _ _ _ ?_
                  refine RL.q (QV.vN T rfl rfl rfl rfl rfl (by exact (rfl : _ = [_, _, _, _, _, _, _, _, _, _, _, _, _, _, _, _]))) ?_
                  refine RL.s ?_
                  refine NV.sN T rfl rfl rfl (by exact (rfl : _ = [_, _, _, _, _, _, _, _, _, _, _, _, _, _, _, _])) (by exact (rfl : _ = [_, _, _, _, _, _, _, _, _, _, _, _, _, _, _, _])) ?_
                  refine RL.p T ?_
                  refine RL.nil _ _ _ _ ?_
                  refine hK102 _ _ _ ?_
                  refine SW.sat (fun hs => ?_)
                  refine SW.ret ?_
                  refine retQ.rk (RVs.cN T rfl rfl rfl rfl (by exact (rfl : _ = [_, _, _, _, _, _, _, _, _, _, _, _, _, _, _, _])) (RVs.t RVs.nil)) ?_
                  clear hK102 K102 hK101 K101 hK100 K100 hK99 K99 hK97 K97 hK96 K96 hK95 K95 hK94 K94 hK93 K93 hK91 K91 hK90 K90 hK9 K9 hK8 K8 hK7 K7 hK5 K5 hK4 K4 hK2 K2 hK1 K1 hK0 K0
                  first
                    | (rw [(getE_long (by omega)).1, (getE_long (by omega)).2]
                       first
                         | exact ⟨none, 0, 0, [_], rfl, rfl, Rd.nilS, rfl⟩
                         | exact ⟨none, 0, 0, [_, _], rfl, rfl, Rd.nilS, rfl⟩)
                    | (rw [(getE_short (by omega) (by omega)).1, (getE_short (by omega) (by omega)).2]
                       first
                         | exact ⟨none, 0, 0, [_], rfl, rfl, Rd.nilS, rfl⟩
                         | exact ⟨none, 0, 0, [_, _], rfl, rfl, Rd.nilS, rfl⟩)
                    | (rw [(getE_tag (by omega) (by omega) (by omega)).1, (getE_tag (by omega) (by omega) (by omega)).2]
                       exact ⟨a0_, _, c0_, [_, _, _], rfl, (by first | exact hl42' | exact hl2'), (Rd.rowh (satl (G := [_, _, _]) hs) (by repeat first | exact At.head _ _ | apply At.tail)), rfl⟩)
                    | (rw [(getE_bare (by omega) (by omega) (by omega)).1, (getE_bare (by omega) (by omega) (by omega)).2]
                       exact ⟨a0_, _, c0_, [_, _, _], rfl, (by first | exact hl42' | exact hl2'), (Rd.rowh (satl (G := [_, _, _]) hs) (by repeat first | exact At.head _ _ | apply At.tail)), rfl⟩)
                  )
               )
            ·skip
             first
              | (exfalso; first | omega | contradiction | (simp at *; done))
              | (
               refine SW.skip ?_
               refine hK94 _ _ _ ?_
               refine SW.seq_k fun K103 hK103 => ?_
               refine SW.draw [(63, 0), (64, 1), (65, 2), (66, 3), (67, 4), (68, 5), (69, 6), (70, 7), (71, 8), (72, 9), (73, 10)] [[], [0], [1, 0], [2, 1, 0], [3, 2, 1, 0], [], [5], [6, 5], [7, 6, 5], [4, 3, 2, 1, 0, 8, 7, 6, 5], [0, 1, 2, 3, 4, 5, 6, 7, 8, 9], [10, 0, 1, 2, 3, 4, 5, 6, 7, 8, 9]] mixed (by kernel_rfl) (by kernel_rfl) ?_
               refine RD.p T ?_
               refine RD.q rfl rfl (Gd.none rfl) (by first | exact (QV.indexAddr_slice T rfl rfl rfl rfl rfl (hS4.some (by omega)) (by omega) (by omega)) | exact (QV.indexAddr_slice T rfl rfl rfl rfl rfl (hS.some (by omega)) (by omega) (by omega))) ?_
               refine RD.q rfl rfl (Gd.none rfl) (by first | exact (QV.load_elem T rfl rfl rfl rfl (by repeat first | exact hS4 | apply Rd.cons | apply Rd.app) (map_as (z := bi ((es.drop 12).drop 4) 0) (by show 0 < _; omega) rfl)) | exact (QV.load_elem T rfl rfl rfl rfl (by repeat first | exact hS | apply Rd.cons | apply Rd.app) (map_as (z := bi (es.drop 12) 0) (by show 0 < _; omega) rfl))) ?_
               refine RD.q rfl rfl (Gd.none rfl) (QV.convI T rfl rfl rfl rfl (by simp only [loK]; omega) (by simp only [hiK]; omega)) ?_
               refine RD.q rfl rfl (Gd.none rfl) (by first | exact QV.arith rfl rfl rfl rfl (by omega) (by omega) | exact QV.arith_u8 rfl rfl rfl rfl (by omega) (by omega) | exact QV.arith_u16 rfl rfl rfl rfl (by omega) (by omega) | exact QV.arith_u32 rfl rfl rfl rfl (by omega) (by omega) | exact QV.arith_u64 rfl rfl rfl rfl (by omega) (by omega) | exact pev_sound T rfl) ?_
               refine RD.p T ?_
               refine RD.q rfl rfl (Gd.none rfl) (by first | exact (QV.indexAddr_slice T rfl rfl rfl rfl rfl (hS4.some (by omega)) (by omega) (by omega)) | exact (QV.indexAddr_slice T rfl rfl rfl rfl rfl (hS.some (by omega)) (by omega) (by omega))) ?_
               refine RD.q rfl rfl (Gd.none rfl) (by first | exact (QV.load_elem T rfl rfl rfl rfl (by repeat first | exact hS4 | apply Rd.cons | apply Rd.app) (map_as (z := bi ((es.drop 12).drop 4) 1) (by show 1 < _; omega) rfl)) | exact (QV.load_elem T rfl rfl rfl rfl (by repeat first | exact hS | apply Rd.cons | apply Rd.app) (map_as (z := bi (es.drop 12) 1) (by show 1 < _; omega) rfl))) ?_
               refine RD.q rfl rfl (Gd.none rfl) (QV.convI T rfl rfl rfl rfl (by simp only [loK]; omega) (by simp only [hiK]; omega)) ?_
               refine RD.q rfl rfl (Gd.none rfl) (by first | exact QV.arith rfl rfl rfl rfl (by omega) (by omega) | exact QV.arith_u8 rfl rfl rfl rfl (by omega) (by omega) | exact QV.arith_u16 rfl rfl rfl rfl (by omega) (by omega) | exact QV.arith_u32 rfl rfl rfl rfl (by omega) (by omega) | exact QV.arith_u64 rfl rfl rfl rfl (by omega) (by omega) | exact pev_sound T rfl) ?_
               refine RD.p T ?_
               refine RD.nv rfl rfl rfl (Gd.none rfl) ?_
               refine NV.s1 T ?_
               refine ⟨Stab.nil, ?_⟩
               refine RD.k rfl rfl ?_
               refine hK103 _ _ _ ?_
               refine SW.seq_k fun K104 hK104 => ?_
               refine SW.region _ _ _ _ ?_
               refine RL.bs T rfl rfl rfl (by exact (rfl : _ = some [])) (fun b74_13 => ?_)
               refine RL.p T ?_
               refine RL.sl T ?_ (l1 := 2)
               first
                 | refine RL.apI (ki := .u8) (xs := []) (ys := ((es.drop 12).drop 4).drop 2) T (fun a0_ c0_ => ?_) (hR := fun hs => Rd.suf 2 hS4.cons.cons.cons (by omega))
                 | refine RL.apI (ki := .u8) (xs := []) (ys := (es.drop 12).drop 2) T (fun a0_ c0_ => ?_) (hR := fun hs => Rd.suf 2 hS.cons.cons.cons (by omega))
               refine RL.p T ?_
               refine RL.sv1 T ?_
               refine RL.nil _ _ _ _ ?_
               refine hK104 _ _ _ ?_
               refine SW.seq_k fun K105 hK105 => ?_
               refine SW.region _ _ _ _ ?_
               refine RL.q (QV.vN T rfl rfl rfl rfl rfl (by exact (rfl : _ = [_, _, _, _, _, _, _, _, _, _, _, _, _, _, _, _]))) ?_
               refine RL.s ?_
               refine NV.sN T rfl rfl rfl (by exact (rfl : _ = [_, _, _, _, _, _, _, _, _, _, _, _, _, _, _, _])) (by exact (rfl : _ = [_, _, _, _, _, _, _, _, _, _, _, _, _, _, _, _])) ?_
               refine RL.p T ?_
               refine RL.nil _ _ _ _ ?_
               refine hK105 _ _ _ ?_
               refine SW.sat (fun hs => ?_)
               refine SW.ret ?_
               refine retQ.rk (RVs.cN T rfl rfl rfl rfl (by exact (rfl : _ = [_, _, _, _, _, _, _, _, _, _, _, _, _, _, _, _])) (RVs.t RVs.nil)) ?_
               clear hK105 K105 hK104 K104 hK103 K103 hK95 K95 hK94 K94 hK93 K93 hK91 K91 hK90 K90 hK9 K9 hK8 K8 hK7 K7 hK5 K5 hK4 K4 hK2 K2 hK1 K1 hK0 K0
               first
                 | (rw [(getE_long (by omega)).1, (getE_long (by omega)).2]
                    first
                      | exact ⟨none, 0, 0, [_], rfl, rfl, Rd.nilS, rfl⟩
                      | exact ⟨none, 0, 0, [_, _], rfl, rfl, Rd.nilS, rfl⟩)
                 | (rw [(getE_short (by omega) (by omega)).1, (getE_short (by omega) (by omega)).2]
                    first
                      | exact ⟨none, 0, 0, [_], rfl, rfl, Rd.nilS, rfl⟩
                      | exact ⟨none, 0, 0, [_, _], rfl, rfl, Rd.nilS, rfl⟩)
                 | (rw [(getE_tag (by omega) (by omega) (by omega)).1, (getE_tag (by omega) (by omega) (by omega)).2]
                    exact ⟨a0_, _, c0_, [_, _, _], rfl, (by first | exact hl42' | exact hl2'), (Rd.rowh (satl (G := [_, _, _]) hs) (by repeat first | exact At.head _ _ | apply At.tail)), rfl⟩)
                 | (rw [(getE_bare (by omega) (by omega) (by omega)).1, (getE_bare (by omega) (by omega) (by omega)).2]
                    exact ⟨a0_, _, c0_, [_, _, _], rfl, (by first | exact hl42' | exact hl2'), (Rd.rowh (satl (G := [_, _, _]) hs) (by repeat first | exact At.head _ _ | apply At.tail)), rfl⟩)
               )
            )
        ·skip
         refine SW.seq_k fun K106 hK106 => ?_
         refine SW.seq_k fun K107 hK107 => ?_
         refine SW.region _ _ _ _ ?_
         refine RL.p T ?_
         refine RL.p T ?_
         refine RL.nil _ _ _ _ ?_
         refine hK107 _ _ _ ?_
         refine SW.cs (fun hc20 => ?_) (fun hc20 => ?_)
         ·skip
          first
           | (exfalso; first | omega | contradiction | (simp at *; done))
           | (
            refine SW.skip ?_
            refine hK106 _ _ _ ?_
            refine SW.seq_k fun K108 hK108 => ?_
            refine SW.block ?_
            refine SW.draw [(18, 0), (19, 1), (20, 2), (21, 3), (22, 4), (23, 5), (24, 6), (25, 7), (26, 8), (27, 9), (28, 10), (29, 11), (30, 12), (31, 14), (32, 15)] [[], [], [], [], [2, 3], [4, 2, 3], [], [], [7], [6, 8, 7], [9, 6, 8, 7], [], [11, 0, 2, 3, 4, 5], [12, 11, 0, 2, 3, 4, 5], [], [14, 1, 0, 2, 3, 4, 5, 6, 7, 8, 9, 10, 11, 12, 13], [15, 14, 1, 0, 2, 3, 4, 5, 6, 7, 8, 9, 10, 11, 12, 13]] mixed (by kernel_rfl) (by kernel_rfl) ?_
            refine RD.p T ?_
            refine RD.p T ?_
            refine RD.p T ?_
            refine RD.p T ?_
            refine RD.q rfl rfl (Gd.none rfl) (QV.indexAddr_slice T rfl rfl rfl rfl rfl (hR.some (by omega)) (by omega) (by omega)) ?_
            refine RD.q rfl rfl (Gd.none rfl) (by first | exact QV.load_var1 T rfl rfl rfl rfl (by repeat first | exact At.head _ _ | assumption | exact At.put (by assumption) _ | apply At.tail | apply At.app) rfl | exact QV.load_varN T rfl rfl rfl rfl rfl (by repeat first | exact At.head _ _ | assumption | exact At.put (by assumption) _ | apply At.tail | apply At.app) (by exact (rfl : _ = [_])) rfl | exact QV.load_elem T rfl rfl rfl rfl (by repeat first | exact hS | apply Rd.cons | apply Rd.app) (by first | exact map_get _ _ (by omega) | assumption)) ?_
            refine RD.p T ?_
            refine RD.p T ?_
            refine RD.q rfl rfl (Gd.none rfl) (by first | exact QV.arith rfl rfl rfl rfl (by omega) (by omega) | exact QV.arith_u8 rfl rfl rfl rfl (by omega) (by omega) | exact QV.arith_u16 rfl rfl rfl rfl (by omega) (by omega) | exact QV.arith_u32 rfl rfl rfl rfl (by omega) (by omega) | exact QV.arith_u64 rfl rfl rfl rfl (by omega) (by omega) | exact pev_sound T rfl) ?_
            refine RD.q rfl rfl (Gd.none rfl) (QV.indexAddr_slice T rfl rfl rfl rfl rfl (hR.some (by omega)) (by omega) (by omega)) ?_
            refine RD.q rfl rfl (Gd.none rfl) (by first | exact QV.load_var1 T rfl rfl rfl rfl (by repeat first | exact At.head _ _ | assumption | exact At.put (by assumption) _ | apply At.tail | apply At.app) rfl | exact QV.load_varN T rfl rfl rfl rfl rfl (by repeat first | exact At.head _ _ | assumption | exact At.put (by assumption) _ | apply At.tail | apply At.app) (by exact (rfl : _ = [_])) rfl | exact QV.load_elem T rfl rfl rfl rfl (by repeat first | exact hS | apply Rd.cons | apply Rd.app) (by first | exact map_get _ _ (by omega) | assumption)) ?_
            refine RD.p T ?_
            refine RD.q rfl rfl (Gd.none rfl) (by first | exact QV.indexAddr_array T rfl rfl rfl rfl rfl (by omega) (by omega) | exact QV.indexAddr_slice T rfl rfl rfl rfl rfl (Rd.some (by repeat first | exact hS | apply Rd.cons | apply Rd.app) (by omega)) (by omega) (by omega)) ?_
            refine RD.p T ?_
            refine RD.nv rfl rfl rfl (Gd.none rfl) ?_
            refine NV.s1 T ?_
            refine ⟨(Stab.cons rfl (Gd.none rfl) (pev_sound T rfl) (Stab.cons rfl (Gd.none rfl) (by first | exact QV.load_var1 T rfl rfl rfl rfl (by repeat first | exact At.head _ _ | assumption | exact At.put (by assumption) _ | apply At.tail | apply At.app) rfl | exact QV.load_varN T rfl rfl rfl rfl rfl (by repeat first | exact At.head _ _ | assumption | exact At.put (by assumption) _ | apply At.tail | apply At.app) rfl rfl | exact QV.load_elem T rfl rfl rfl rfl (by repeat first | exact hS | apply Rd.cons | apply Rd.app) (by first | exact map_get _ _ (by omega) | assumption)) (Stab.cons rfl (Gd.none rfl) (QV.indexAddr_slice T rfl rfl rfl rfl rfl (hR.some (by omega)) (by omega) (by omega)) (Stab.cons rfl (Gd.none rfl) (by first | exact pev_sound T rfl | exact QV.arith rfl rfl rfl rfl (by omega) (by omega) | exact QV.arith_u8 rfl rfl rfl rfl (by omega) (by omega) | exact QV.arith_u16 rfl rfl rfl rfl (by omega) (by omega) | exact QV.arith_u32 rfl rfl rfl rfl (by omega) (by omega) | exact QV.arith_u64 rfl rfl rfl rfl (by omega) (by omega) ) (Stab.cons rfl (Gd.none rfl) (pev_sound T rfl) (Stab.cons rfl (Gd.none rfl) (pev_sound T rfl) (Stab.cons rfl (Gd.none rfl) (pev_sound T rfl) Stab.nil))))))), ?_⟩
            refine RD.q rfl rfl (Gd.none rfl) (by first | exact QV.indexAddr_array T rfl rfl rfl rfl rfl (by omega) (by omega) | exact QV.indexAddr_slice T rfl rfl rfl rfl rfl (Rd.some (by repeat first | exact hS | apply Rd.cons | apply Rd.app) (by omega)) (by omega) (by omega)) ?_
            refine RD.nv rfl rfl rfl (Gd.none rfl) ?_
            refine NV.s1 T ?_
            refine ⟨Stab.nil, ?_⟩
            refine RD.k rfl rfl ?_
            refine hK108 _ _ _ ?_
            refine SW.region _ _ _ _ ?_
            refine RL.p T ?_
            first | refine RL.ar ?_ | refine RL.p T ?_
            refine RL.p T ?_
            refine RL.nil _ _ _ _ ?_
            exact ⟨None, (by omega), (), (by rfl), trivial, (.consI rfl (by first | omega | rfl) (.nil (by repeat first | exact Mx.refl | exact Mx.mix | refine Mx.put rfl ?_ | refine Mx.upd rfl ?_ | refine Mx.updl rfl ?_ | refine Mx.fin rfl ?_ | refine Mx.inner rfl ?_ | refine Mx.none ?_))), rfl, rfl⟩
            )
         ·skip
          first
           | (exfalso; first | omega | contradiction | (simp at *; done))
           | (
            refine SW.exit ?_
            refine hK8 _ _ _ ?_
            refine SW.seq_k fun K109 hK109 => ?_
            have hS := hR.suf 12 (by omega : 12 ≤ n)
            have hl2' : 0 + (n - 12 - 2) = ((es.drop 12).drop 2).length := by rw [List.length_drop, hl12]; omega
            refine SW.region _ _ _ _ ?_
            refine RL.p T ?_
            refine RL.sl T ?_ (l1 := 12)
            refine RL.p T ?_
            refine RL.nil _ _ _ _ ?_
            refine hK109 _ _ _ ?_
            refine SW.seq_k fun K110 hK110 => ?_
            refine SW.seq_k fun K111 hK111 => ?_
            refine SW.region _ _ _ _ ?_
            refine RL.p T ?_
            refine RL.ix T ?_ (hR := fun hs => (by repeat first | exact hS | apply Rd.cons | apply Rd.app))
            refine RL.le T ?_ (hR := fun hs => (by repeat first | exact hS | apply Rd.cons | apply Rd.app)) (hv := map_as (z := bi (es.drop 12) 0) (by omega) rfl)
            refine RL.p T ?_
            refine RL.p T ?_
            refine RL.join (fr1 := ?_) 4 39 true [40, 41, 42, 43] (fun hs6 hj => ?_) ?_ ?_
            rotate_left
            ·have hs6j := hs6
             try simp only [decide_eq_true_eq, Bool.not_eq_true', decide_eq_false_iff_not, Bool.not_eq_false', Int.not_lt, Int.not_le, Int.toNat_natCast, Bool.and_eq_true, Bool.or_eq_true, Bool.and_eq_false_iff, Bool.or_eq_false_iff] at hs6
             refine RL.p T ?_
             refine RL.ix T ?_ (hR := fun hs => (by repeat first | exact hS | apply Rd.cons | apply Rd.app))
             refine RL.le T ?_ (hR := fun hs => (by repeat first | exact hS | apply Rd.cons | apply Rd.app)) (hv := map_as (z := bi (es.drop 12) 1) (by omega) rfl)
             refine RL.p T ?_
             exact hj
            ·repeat first | exact Mx.refl | exact Mx.mix | refine Mx.put rfl ?_ | refine Mx.upd rfl ?_ | refine Mx.updl rfl ?_ | refine Mx.fin rfl ?_ | refine Mx.inner rfl ?_ | refine Mx.none ?_
            refine RL.and ?_
            refine RL.nil _ _ _ _ ?_
            refine hK111 _ _ _ ?_
            refine SW.cs (fun hc21 => ?_) (fun hc21 => ?_)
            ·skip
             first
              | (exfalso; first | omega | contradiction | (simp at *; done))
              | (
               refine SW.seq_k fun K112 hK112 => ?_
               refine SW.seq_k fun K113 hK113 => ?_
               refine SW.region _ _ _ _ ?_
               refine RL.p T ?_
               refine RL.p T ?_
               refine RL.p T ?_
               refine RL.nil _ _ _ _ ?_
               refine hK113 _ _ _ ?_
               refine SW.cs (fun hc22 => ?_) (fun hc22 => ?_)
               ·skip
                first
                 | (exfalso; first | omega | contradiction | (simp at *; done))
                 | (
                  refine SW.seq_k fun K114 hK114 => ?_
                  refine SW.region _ _ _ _ ?_
                  refine RL.s ?_
                  first | refine NV.buildc T rfl (rfl : _ = some [_, _, _, _, _, _, _, _, _, _, _, _, _, _, _, _]) ?_ | refine NV.buildz T rfl (rfl : _ = some [_, _, _, _, _, _, _, _, _, _, _, _, _, _, _, _]) ?_ | refine NV.pure T (rfl : _ = some (Value.agg #[_, _, _, _, _, _, _, _, _, _, _, _, _, _, _, _])) ?_
                  refine RL.s ?_
                  refine NV.sN T rfl rfl rfl (by exact (rfl : _ = [_, _, _, _, _, _, _, _, _, _, _, _, _, _, _, _])) (by exact (rfl : _ = [_, _, _, _, _, _, _, _, _, _, _, _, _, _, _, _])) ?_
                  refine RL.p T ?_
                  refine RL.nil _ _ _ _ ?_
                  refine hK114 _ _ _ ?_
                  refine SW.sat (fun hs => ?_)
                  refine SW.ret ?_
                  refine retQ.rk (RVs.cN T rfl rfl rfl rfl (by exact (rfl : _ = [_, _, _, _, _, _, _, _, _, _, _, _, _, _, _, _])) (RVs.t RVs.nil)) ?_
                  clear hK114 K114 hK113 K113 hK112 K112 hK111 K111 hK110 K110 hK109 K109 hK107 K107 hK106 K106 hK9 K9 hK8 K8 hK7 K7 hK5 K5 hK4 K4 hK2 K2 hK1 K1 hK0 K0
                  first
                    | (rw [(getE_long (by omega)).1, (getE_long (by omega)).2]
                       first
                         | exact ⟨none, 0, 0, [_], rfl, rfl, Rd.nilS, rfl⟩
                         | exact ⟨none, 0, 0, [_, _], rfl, rfl, Rd.nilS, rfl⟩)
                    | (rw [(getE_short (by omega) (by omega)).1, (getE_short (by omega) (by omega)).2]
                       first
                         | exact ⟨none, 0, 0, [_], rfl, rfl, Rd.nilS, rfl⟩
                         | exact ⟨none, 0, 0, [_, _], rfl, rfl, Rd.nilS, rfl⟩)
                    | (rw [(getE_tag (by omega) (by omega) (by omega)).1, (getE_tag (by omega) (by omega) (by omega)).2]
                       exact ⟨a0_, _, c0_, [_, _, _], rfl, (by first | exact hl42' | exact hl2'), (Rd.rowh (satl (G := [_, _, _]) hs) (by repeat first | exact At.head _ _ | apply At.tail)), rfl⟩)
                    | (rw [(getE_bare (by omega) (by omega) (by omega)).1, (getE_bare (by omega) (by omega) (by omega)).2]
                       exact ⟨a0_, _, c0_, [_, _, _], rfl, (by first | exact hl42' | exact hl2'), (Rd.rowh (satl (G := [_, _, _]) hs) (by repeat first | exact At.head _ _ | apply At.tail)), rfl⟩)
                  )
               ·skip
                first
                 | (exfalso; first | omega | contradiction | (simp at *; done))
                 | (
                  refine SW.skip ?_
                  refine hK112 _ _ _ ?_
                  refine SW.seq_k fun K115 hK115 => ?_
                  have hS4 := hS.suf 4 (by omega)
                  have hl4 : ((es.drop 12).drop 4).length = n - 12 - 4 := by rw [List.length_drop, hl12]
                  have hl42' : 0 + (n - 12 - 4 - 2) = (((es.drop 12).drop 4).drop 2).length := by rw [List.length_drop, hl4]; omega
                  refine SW.draw [(49, 0), (50, 1), (51, 2), (52, 3), (53, 4), (54, 5), (55, 6), (56, 7), (57, 8), (58, 9), (59, 10), (60, 12)] [[], [0], [1, 0], [2, 1, 0], [3, 2, 1, 0], [], [5], [6, 5], [7, 6, 5], [4, 3, 2, 1, 0, 8, 7, 6, 5], [], [10], [0, 1, 2, 3, 4, 5, 6, 7, 8, 9, 10, 11], [12, 0, 1, 2, 3, 4, 5, 6, 7, 8, 9, 10, 11]] mixed (by kernel_rfl) (by kernel_rfl) ?_
                  refine RD.p T ?_
                  refine RD.q rfl rfl (Gd.none rfl) (QV.indexAddr_slice T rfl rfl rfl rfl rfl (hS.some (by omega)) (by omega) (by omega)) ?_
                  refine RD.q rfl rfl (Gd.none rfl) (QV.load_elem T rfl rfl rfl rfl (by repeat first | exact hS | apply Rd.cons | apply Rd.app) (map_as (z := bi (es.drop 12) 2) (by show 2 < _; omega) rfl)) ?_
                  refine RD.q rfl rfl (Gd.none rfl) (QV.convI T rfl rfl rfl rfl (by simp only [loK]; omega) (by simp only [hiK]; omega)) ?_
                  refine RD.q rfl rfl (Gd.none rfl) (by first | exact QV.arith rfl rfl rfl rfl (by omega) (by omega) | exact QV.arith_u8 rfl rfl rfl rfl (by omega) (by omega) | exact QV.arith_u16 rfl rfl rfl rfl (by omega) (by omega) | exact QV.arith_u32 rfl rfl rfl rfl (by omega) (by omega) | exact QV.arith_u64 rfl rfl rfl rfl (by omega) (by omega) | exact pev_sound T rfl) ?_
                  refine RD.p T ?_
                  refine RD.q rfl rfl (Gd.none rfl) (QV.indexAddr_slice T rfl rfl rfl rfl rfl (hS.some (by omega)) (by omega) (by omega)) ?_
                  refine RD.q rfl rfl (Gd.none rfl) (QV.load_elem T rfl rfl rfl rfl (by repeat first | exact hS | apply Rd.cons | apply Rd.app) (map_as (z := bi (es.drop 12) 3) (by show 3 < _; omega) rfl)) ?_
                  refine RD.q rfl rfl (Gd.none rfl) (QV.convI T rfl rfl rfl rfl (by simp only [loK]; omega) (by simp only [hiK]; omega)) ?_
                  refine RD.q rfl rfl (Gd.none rfl) (QV.as (QV.arith_u16 rfl rfl rfl rfl (by omega) (by omega)) (show Value.int .u16 (bi (es.drop 12) 2 * 256 + bi (es.drop 12) 3) = .int .u16 (wN ((es.drop 12).drop 2)) from by rw [wN_drop])) ?_
                  refine RD.p T ?_
                  refine RD.nv rfl rfl rfl (Gd.none rfl) ?_
                  refine NV.s1 T ?_
                  refine ⟨(Stab.cons rfl (Gd.none rfl) (QV.as (QV.arith_u16 rfl rfl rfl rfl (by omega) (by omega)) (show Value.int .u16 (bi (es.drop 12) 2 * 256 + bi (es.drop 12) 3) = .int .u16 (wN ((es.drop 12).drop 2)) from by rw [wN_drop])) (Stab.cons rfl (Gd.none rfl) (QV.convI T rfl rfl rfl rfl (by simp only [loK]; omega) (by simp only [hiK]; omega)) (Stab.cons rfl (Gd.none rfl) (QV.load_elem T rfl rfl rfl rfl (by repeat first | exact hS | apply Rd.cons | apply Rd.app) (map_as (z := bi (es.drop 12) 3) (by show 3 < _; omega) rfl)) (Stab.cons rfl (Gd.none rfl) (QV.indexAddr_slice T rfl rfl rfl rfl rfl (hS.some (by omega)) (by omega) (by omega)) (Stab.cons rfl (Gd.none rfl) (pev_sound T rfl) (Stab.cons rfl (Gd.none rfl) (by first | exact pev_sound T rfl | exact QV.arith rfl rfl rfl rfl (by omega) (by omega) | exact QV.arith_u8 rfl rfl rfl rfl (by omega) (by omega) | exact QV.arith_u16 rfl rfl rfl rfl (by omega) (by omega) | exact QV.arith_u32 rfl rfl rfl rfl (by omega) (by omega) | exact QV.arith_u64 rfl rfl rfl rfl (by omega) (by omega) ) (Stab.cons rfl (Gd.none rfl) (QV.convI T rfl rfl rfl rfl (by simp only [loK]; omega) (by simp only [hiK]; omega)) (Stab.cons rfl (Gd.none rfl) (QV.load_elem T rfl rfl rfl rfl (by repeat first | exact hS | apply Rd.cons | apply Rd.app) (map_as (z := bi (es.drop 12) 2) (by show 2 < _; omega) rfl)) (Stab.cons rfl (Gd.none rfl) (QV.indexAddr_slice T rfl rfl rfl rfl rfl (hS.some (by omega)) (by omega) (by omega)) (Stab.cons rfl (Gd.none rfl) (pev_sound T rfl) Stab.nil)))))))))), ?_⟩
                  refine RD.p T ?_
                  refine RD.nv rfl rfl rfl (Gd.none rfl) ?_
                  refine NV.s1 T ?_
                  refine ⟨Stab.nil, ?_⟩
                  refine RD.k rfl rfl ?_
                  refine hK115 _ _ _ ?_
                  refine SW.region _ _ _ _ ?_
                  refine RL.p T ?_
                  refine RL.sl T ?_ (l1 := 4)
                  refine RL.p T ?_
                  refine RL.nil _ _ _ _ ?_
                  refine hK110 _ _ _ ?_
                  refine SW.seq_k fun K116 hK116 => ?_
                  refine SW.draw [(63, 0), (64, 1), (65, 2), (66, 3), (67, 4), (68, 5), (69, 6), (70, 7), (71, 8), (72, 9), (73, 10)] [[], [0], [1, 0], [2, 1, 0], [3, 2, 1, 0], [], [5], [6, 5], [7, 6, 5], [4, 3, 2, 1, 0, 8, 7, 6, 5], [0, 1, 2, 3, 4, 5, 6, 7, 8, 9], [10, 0, 1, 2, 3, 4, 5, 6, 7, 8, 9]] mixed (by kernel_rfl) (by kernel_rfl) ?_
                  refine RD.p T ?_
                  refine RD.q rfl rfl (Gd.none rfl) (by first | exact (QV.indexAddr_slice T rfl rfl rfl rfl rfl (hS4.some (by omega)) (by omega) (by omega)) | exact (QV.indexAddr_slice T rfl rfl rfl rfl rfl (hS.some (by omega)) (by omega) (by omega))) ?_
                  refine RD.q rfl rfl (Gd.none rfl) (by first | exact (QV.load_elem T rfl rfl rfl rfl (by repeat first | exact hS4 | apply Rd.cons | apply Rd.app) (map_as (z := bi ((es.drop 12).drop 4) 0) (by show 0 < _; omega) rfl)) | exact (QV.load_elem T rfl rfl rfl rfl (by repeat first | exact hS | apply Rd.cons | apply Rd.app) (map_as (z := bi (es.drop 12) 0) (by show 0 < _; omega) rfl))) ?_
                  refine RD.q rfl rfl (Gd.none rfl) (QV.convI T rfl rfl rfl rfl (by simp only [loK]; omega) (by simp only [hiK]; omega)) ?_
                  refine RD.q rfl rfl (Gd.none rfl) (by first | exact QV.arith rfl rfl rfl rfl (by omega) (by omega) | exact QV.arith_u8 rfl rfl rfl rfl (by omega) (by omega) | exact QV.arith_u16 rfl rfl rfl rfl (by omega) (by omega) | exact QV.arith_u32 rfl rfl rfl rfl (by omega) (by omega) | exact QV.arith_u64 rfl rfl rfl rfl (by omega) (by omega) | exact pev_sound T rfl) ?_
                  refine RD.p T ?_
                  refine RD.q rfl rfl (Gd.none rfl) (by first | exact (QV.indexAddr_slice T rfl rfl rfl rfl rfl (hS4.some (by omega)) (by omega) (by omega)) | exact (QV.indexAddr_slice T rfl rfl rfl rfl rfl (hS.some (by omega)) (by omega) (by omega))) ?_
                  refine RD.q rfl rfl (Gd.none rfl) (by first | exact (QV.load_elem T rfl rfl rfl rfl (by repeat first | exact hS4 | apply Rd.cons | apply Rd.app) (map_as (z := bi ((es.drop 12).drop 4) 1) (by show 1 < _; omega) rfl)) | exact (QV.load_elem T rfl rfl rfl rfl (by repeat first | exact hS | apply Rd.cons | apply Rd.app) (map_as (z := bi (es.drop 12) 1) (by show 1 < _; omega) rfl))) ?_
                  refine RD.q rfl rfl (Gd.none rfl) (QV.convI T rfl rfl rfl rfl (by simp only [loK]; omega) (by simp only [hiK]; omega)) ?_
                  refine RD.q rfl rfl (Gd.none rfl) (by first | exact QV.arith rfl rfl rfl rfl (by omega) (by omega) | exact QV.arith_u8 rfl rfl rfl rfl (by omega) (by omega) | exact QV.arith_u16 rfl rfl rfl rfl (by omega) (by omega) | exact QV.arith_u32 rfl rfl rfl rfl (by omega) (by omega) | exact QV.arith_u64 rfl rfl rfl rfl (by omega) (by omega) | exact pev_sound T rfl) ?_
                  refine RD.p T ?_
                  refine RD.nv rfl rfl rfl (Gd.none rfl) ?_
                  refine NV.s1 T ?_
                  refine ⟨Stab.nil, ?_⟩
                  refine RD.k rfl rfl ?_
                  refine hK116 _ _ _ ?_
                  refine SW.seq_k fun K117 hK117 => ?_
                  refine SW.region _ _ _ _ ?_
                  refine RL.bs T rfl rfl rfl (by exact (rfl : _ = some [])) (fun b74_14 => ?_)
                  refine RL.p T ?_
                  refine RL.sl T ?_ (l1 := 2)
                  first
                    | refine RL.apI (ki := .u8) (xs := []) (ys := ((es.drop 12).drop 4).drop 2) T (fun a0_ c0_ => ?_) (hR := fun hs => Rd.suf 2 hS4.cons.cons.cons (by omega))
                    | refine RL.apI (ki := .u8) (xs := []) (ys := (es.drop 12).drop 2) T (fun a0_ c0_ => ?_) (hR := fun hs => Rd.suf 2 hS.cons.cons.cons (by omega))
                  refine RL.p T ?_
                  refine RL.sv1 T ?_
                  refine RL.nil _ _ _ _ ?_
                  refine hK117 _ _ _ ?_
                  refine SW.seq_k fun K118 hK118 => ?_
                  refine SW.region _ _ _ _ ?_
                  refine RL.q (QV.vN T rfl rfl rfl rfl rfl (by exact (rfl : _ = [_, _, _, _, _, _, _, _, _, _, _, _, _, _, _, _]))) ?_
                  refine RL.s ?_
                  refine NV.sN T rfl rfl rfl (by exact (rfl : _ = [_, _, _, _, _, _, _, _, _, _, _, _, _, _, _, _])) (by exact (rfl : _ = [_, _, _, _, _, _, _, _, _, _, _, _, _, _, _, _])) ?_
                  refine RL.p T ?_
                  refine RL.nil _ _ _ _ ?_
                  refine hK118 _ _ _ ?_
                  refine SW.sat (fun hs => ?_)
                  refine SW.ret ?_
                  refine retQ.rk (RVs.cN T rfl rfl rfl rfl (by exact (rfl : _ = [_, _, _, _, _, _, _, _, _, _, _, _, _, _, _, _])) (RVs.t RVs.nil)) ?_
                  clear hK118 K118 hK117 K117 hK116 K116 hK115 K115 hK113 K113 hK112 K112 hK111 K111 hK110 K110 hK109 K109 hK107 K107 hK106 K106 hK9 K9 hK8 K8 hK7 K7 hK5 K5 hK4 K4 hK2 K2 hK1 K1 hK0 K0
                  first
                    | (rw [(getE_long (by omega)).1, (getE_long (by omega)).2]
                       first
                         | exact ⟨none, 0, 0, [_], rfl, rfl, Rd.nilS, rfl⟩
                         | exact ⟨none, 0, 0, [_, _], rfl, rfl, Rd.nilS, rfl⟩)
                    | (rw [(getE_short (by omega) (by omega)).1, (getE_short (by omega) (by omega)).2]
                       first
                         | exact ⟨none, 0, 0, [_], rfl, rfl, Rd.nilS, rfl⟩
                         | exact ⟨none, 0, 0, [_, _], rfl, rfl, Rd.nilS, rfl⟩)
                    | (rw [(getE_tag (by omega) (by omega) (by omega)).1, (getE_tag (by omega) (by omega) (by omega)).2]
                       exact ⟨a0_, _, c0_, [_, _, _], rfl, (by first | exact hl42' | exact hl2'), (Rd.rowh (satl (G := [_, _, _]) hs) (by repeat first | exact At.head _ _ | apply At.tail)), rfl⟩)
                    | (rw [(getE_bare (by omega) (by omega) (by omega)).1, (getE_bare (by omega) (by omega) (by omega)).2]
                       exact ⟨a0_, _, c0_, [_, _, _], rfl, (by first | exact hl42' | exact hl2'), (Rd.rowh (satl (G := [_, _, _]) hs) (by repeat first | exact At.head _ _ | apply At.tail)), rfl⟩)
                  )
               )
            ·skip
             first
              | (exfalso; first | omega | contradiction | (simp at *; done))
              | (
               refine SW.skip ?_
               refine hK110 _ _ _ ?_
               refine SW.seq_k fun K119 hK119 => ?_
               refine SW.draw [(63, 0), (64, 1), (65, 2), (66, 3), (67, 4), (68, 5), (69, 6), (70, 7), (71, 8), (72, 9), (73, 10)] [[], [0], [1, 0], [2, 1, 0], [3, 2, 1, 0], [], [5], [6, 5], [7, 6, 5], [4, 3, 2, 1, 0, 8, 7, 6, 5], [0, 1, 2, 3, 4, 5, 6, 7, 8, 9], [10, 0, 1, 2, 3, 4, 5, 6, 7, 8, 9]] mixed (by kernel_rfl) (by kernel_rfl) ?_
               refine RD.p T ?_
               refine RD.q rfl rfl (Gd.none rfl) (by first | exact (QV.indexAddr_slice T rfl rfl rfl rfl rfl (hS4.some (by omega)) (by omega) (by omega)) | exact (QV.indexAddr_slice T rfl rfl rfl rfl rfl (hS.some (by omega)) (by omega) (by omega))) ?_
               refine RD.q rfl rfl (Gd.none rfl) (by first | exact (QV.load_elem T rfl rfl rfl rfl (by repeat first | exact hS4 | apply Rd.cons | apply Rd.app) (map_as (z := bi ((es.drop 12).drop 4) 0) (by show 0 < _; omega) rfl)) | exact (QV.load_elem T rfl rfl rfl rfl (by repeat first | exact hS | apply Rd.cons | apply Rd.app) (map_as (z := bi (es.drop 12) 0) (by show 0 < _; omega) rfl))) ?_
               refine RD.q rfl rfl (Gd.none rfl) (QV.convI T rfl rfl rfl rfl (by simp only [loK]; omega) (by simp only [hiK]; omega)) ?_
               refine RD.q rfl rfl (Gd.none rfl) (by first | exact QV.arith rfl rfl rfl rfl (by omega) (by omega) | exact QV.arith_u8 rfl rfl rfl rfl (by omega) (by omega) | exact QV.arith_u16 rfl rfl rfl rfl (by omega) (by omega) | exact QV.arith_u32 rfl rfl rfl rfl (by omega) (by omega) | exact QV.arith_u64 rfl rfl rfl rfl (by omega) (by omega) | exact pev_sound T rfl) ?_
               refine RD.p T ?_
               refine RD.q rfl rfl (Gd.none rfl) (by first | exact (QV.indexAddr_slice T rfl rfl rfl rfl rfl (hS4.some (by omega)) (by omega) (by omega)) | exact (QV.indexAddr_slice T rfl rfl rfl rfl rfl (hS.some (by omega)) (by omega) (by omega))) ?_
               refine RD.q rfl rfl (Gd.none rfl) (by first | exact (QV.load_elem T rfl rfl rfl rfl (by repeat first | exact hS4 | apply Rd.cons | apply Rd.app) (map_as (z := bi ((es.drop 12).drop 4) 1) (by show 1 < _; omega) rfl)) | exact (QV.load_elem T rfl rfl rfl rfl (by repeat first | exact hS | apply Rd.cons | apply Rd.app) (map_as (z := bi (es.drop 12) 1) (by show 1 < _; omega) rfl))) ?_
               refine RD.q rfl rfl (Gd.none rfl) (QV.convI T rfl rfl rfl rfl (by simp only [loK]; omega) (by simp only [hiK]; omega)) ?_
               refine RD.q rfl rfl (Gd.none rfl) (by first | exact QV.arith rfl rfl rfl rfl (by omega) (by omega) | exact QV.arith_u8 rfl rfl rfl rfl (by omega) (by omega) | exact QV.arith_u16 rfl rfl rfl rfl (by omega) (by omega) | exact QV.arith_u32 rfl rfl rfl rfl (by omega) (by omega) | exact QV.arith_u64 rfl rfl rfl rfl (by omega) (by omega) | exact pev_sound T rfl) ?_
               refine RD.p T ?_
               refine RD.nv rfl rfl rfl (Gd.none rfl) ?_
               refine NV.s1 T ?_
               refine ⟨Stab.nil, ?_⟩
               refine RD.k rfl rfl ?_
               refine hK119 _ _ _ ?_
               refine SW.seq_k fun K120 hK120 => ?_
               refine SW.region _ _ _ _ ?_
               refine RL.bs T rfl rfl rfl (by exact (rfl : _ = some [])) (fun b74_15 => ?_)
               refine RL.p T ?_
               refine RL.sl T ?_ (l1 := 2)
               first
                 | refine RL.apI (ki := .u8) (xs := []) (ys := ((es.drop 12).drop 4).drop 2) T (fun a0_ c0_ => ?_) (hR := fun hs => Rd.suf 2 hS4.cons.cons.cons (by omega))
                 | refine RL.apI (ki := .u8) (xs := []) (ys := (es.drop 12).drop 2) T (fun a0_ c0_ => ?_) (hR := fun hs => Rd.suf 2 hS.cons.cons.cons (by omega))
               refine RL.p T ?_
               refine RL.sv1 T ?_
               refine RL.nil _ _ _ _ ?_
               refine hK120 _ _ _ ?_
               refine SW.seq_k fun K121 hK121 => ?_
               refine SW.region _ _ _ _ ?_
               refine RL.q (QV.vN T rfl rfl rfl rfl rfl (by exact (rfl : _ = [_, _, _, _, _, _, _, _, _, _, _, _, _, _, _, _]))) ?_
               refine RL.s ?_
               refine NV.sN T rfl rfl rfl (by exact (rfl : _ = [_, _, _, _, _, _, _, _, _, _, _, _, _, _, _, _])) (by exact (rfl : _ = [_, _, _, _, _, _, _, _, _, _, _, _, _, _, _, _])) ?_
               refine RL.p T ?_
               refine RL.nil _ _ _ _ ?_
               refine hK121 _ _ _ ?_
               refine SW.sat (fun hs => ?_)
               refine SW.ret ?_
               refine retQ.rk (RVs.cN T rfl rfl rfl rfl (by exact (rfl : _ = [_, _, _, _, _, _, _, _, _, _, _, _, _, _, _, _])) (RVs.t RVs.nil)) ?_
               clear hK121 K121 hK120 K120 hK119 K119 hK111 K111 hK110 K110 hK109 K109 hK107 K107 hK106 K106 hK9 K9 hK8 K8 hK7 K7 hK5 K5 hK4 K4 hK2 K2 hK1 K1 hK0 K0
               first
                 | (rw [(getE_long (by omega)).1, (getE_long (by omega)).2]
                    first
                      | exact ⟨none, 0, 0, [_], rfl, rfl, Rd.nilS, rfl⟩
                      | exact ⟨none, 0, 0, [_, _], rfl, rfl, Rd.nilS, rfl⟩)
                 | (rw [(getE_short (by omega) (by omega)).1, (getE_short (by omega) (by omega)).2]
                    first
                      | exact ⟨none, 0, 0, [_], rfl, rfl, Rd.nilS, rfl⟩
                      | exact ⟨none, 0, 0, [_, _], rfl, rfl, Rd.nilS, rfl⟩)
                 | (rw [(getE_tag (by omega) (by omega) (by omega)).1, (getE_tag (by omega) (by omega) (by omega)).2]
                    exact ⟨a0_, _, c0_, [_, _, _], rfl, (by first | exact hl42' | exact hl2'), (Rd.rowh (satl (G := [_, _, _]) hs) (by repeat first | exact At.head _ _ | apply At.tail)), rfl⟩)
                 | (rw [(getE_bare (by omega) (by omega) (by omega)).1, (getE_bare (by omega) (by omega) (by omega)).2]
                    exact ⟨a0_, _, c0_, [_, _, _], rfl, (by first | exact hl42' | exact hl2'), (Rd.rowh (satl (G := [_, _, _]) hs) (by repeat first | exact At.head _ _ | apply At.tail)), rfl⟩)
               )
            )
       )
    )
end Go.Proofs.Ytecgicpimgghaaa.M
