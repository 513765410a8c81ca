import Derived.Test.YtojghialjpianaaProg
import Derived.Test.YtojghialjpianaaFD16
import Derived.Test.YtojghialjpianaaP16b
set_option linter.unusedVariables false
set_option linter.unusedSimpArgs false
namespace Go.Proofs.Ytojghialjpianaa.M
open Go Go.Sep Go.Proofs
set_option maxRecDepth 10000
set_option maxHeartbeats 2000000
theorem fifoOrders {w0 : World} {H : List Chunk} (room : Nat) (hr : room ≤ 64) (ls : List Fs) (sr : Option Addr) (nr cr : Nat) (hB : ∀ H, Rd w0 H sr nr cr 11 (ls.flatMap FsC)) (hnr : nr = ls.length) (hmr : nr ≤ 4398046511000) (hls : ∀ H, ∀ x ∈ ls, FsOk w0 H x) : SC Try.prog w0 3 #[.int .i64 (room : Nat), .slice sr nr cr] H (fun v H' => v = .bool true ∧ H' = H) := by
 refine SC.enter Try.func3 rfl (Nat.le_of_ble_eq_true rfl) ?_
 refine SW.seq_k fun K0 hK0 => ?_
 refine SW.region _ _ _ _ ?_
 refine RL.p T ?_
 refine RL.nil _ _ _ _ ?_
 refine hK0 _ _ _ ?_
 refine SW.seq_k fun K1 hK1 => ?_
 refine SW.seq_k fun K2 hK2 => ?_
 refine SW.region _ _ _ _ ?_
 refine RL.c fun9 (fun hs => alive) ?_
 rintro _ _ ⟨rfl, e⟩; obtain rfl := e.symm
 refine RL.p T ?_
 refine RL.nil _ _ _ _ ?_
 refine hK2 _ _ _ ?_
 refine SW.cs (fun hc0 => ?_) (fun hc0 => ?_)
 ·skip
  first
   | (exfalso; clear hK2 K2; clear hK1 K1; clear hK0 K0; first | omega | contradiction | (simp at *; done) | (simp_all; done))
   | (
    refine SW.seq_k fun K3 hK3 => ?_
    refine SW.region _ _ _ _ ?_
    refine RL.p T ?_
    refine RL.nil _ _ _ _ ?_
    refine hK3 _ _ _ ?_
    refine SW.ret ?_
    refine retQ.rr (H) ?_
    clear hK3 K3 hK2 K2 hK1 K1 hK0 K0
    first
      | exact ⟨rfl, rfl⟩
      | (exfalso; rcases hpc with ⟨e1, e2, e3⟩ | ⟨e1, e2⟩ <;> rw [e1] at hc3 <;> simp [-List.getD_eq_getElem?_getD] at hc3 <;> omega)
      | (refine ⟨boolE ?_, rfl⟩; simp; omega)
    )
 ·skip
  first
   | (exfalso; clear hK2 K2; clear hK1 K1; clear hK0 K0; first | omega | contradiction | (simp at *; done) | (simp_all; done))
   | (
    refine SW.skip ?_
    refine hK1 _ _ _ ?_
    refine SW.seq_k fun K4 hK4 => ?_
    refine SW.region _ _ _ _ ?_
    refine RL.p T ?_
    refine RL.c fun10 (fun hs => fnew room hr) ?_
    rintro _ _ ⟨bq, rfl, e⟩; obtain rfl := e.symm
    refine RL.p T ?_
    refine RL.p T ?_
    refine RL.p T ?_
    refine RL.p T ?_
    refine RL.p T ?_
    refine RL.nil _ _ _ _ ?_
    refine hK4 _ _ _ ?_
    refine SW.seq_k fun K5 hK5 => ?_
    refine SW.seq_k fun K6 hK6 => ?_
    refine SW.region _ _ _ _ ?_
    refine RL.p T ?_
    refine RL.p T ?_
    refine RL.p T ?_
    refine RL.join (fr1 := ?_) 3 28 false [29, 30, 31] (fun hs0 hj => ?_) ?_ ?_
    rotate_left
    ·have hs0j := hs0
     try simp only [decide_eq_true_eq, Bool.not_eq_true', decide_eq_false_iff_not, Bool.not_eq_false', Int.not_lt, Int.not_le, Int.toNat_natCast, Bool.and_eq_true, Bool.or_eq_true, Bool.and_eq_false_iff, Bool.or_eq_false_iff] at hs0
     refine RL.p T ?_
     refine RL.p T ?_
     refine RL.p T ?_
     exact hj
    ·repeat first | exact Mx.refl | exact Mx.mix | refine Mx.put rfl ?_ | refine Mx.upd rfl ?_ | refine Mx.updl rfl ?_ | refine Mx.fin rfl ?_ | refine Mx.inner rfl ?_ | refine Mx.none ?_
    refine RL.or ?_
    refine RL.nil _ _ _ _ ?_
    refine hK6 _ _ _ ?_
    refine SW.cs (fun hc1 => ?_) (fun hc1 => ?_)
    ·skip
     first
      | (exfalso; clear hK6 K6; clear hK5 K5; clear hK4 K4; clear hK2 K2; clear hK1 K1; clear hK0 K0; first | omega | contradiction | (simp at *; done) | (simp_all; done))
      | (
       refine SW.seq_k fun K7 hK7 => ?_
       refine SW.region _ _ _ _ ?_
       refine RL.p T ?_
       refine RL.nil _ _ _ _ ?_
       refine hK7 _ _ _ ?_
       refine SW.ret ?_
       refine retQ.rr (H) ?_
       clear hK7 K7 hK6 K6 hK5 K5 hK4 K4 hK2 K2 hK1 K1 hK0 K0
       first
         | exact ⟨rfl, rfl⟩
         | (exfalso; rcases hpc with ⟨e1, e2, e3⟩ | ⟨e1, e2⟩ <;> rw [e1] at hc3 <;> simp [-List.getD_eq_getElem?_getD] at hc3 <;> omega)
         | (refine ⟨boolE ?_, rfl⟩; simp; omega)
       )
    ·skip
     first
      | (exfalso; clear hK6 K6; clear hK5 K5; clear hK4 K4; clear hK2 K2; clear hK1 K1; clear hK0 K0; first | omega | contradiction | (simp at *; done) | (simp_all; done))
      | (
       refine SW.skip ?_
       refine hK5 _ _ _ ?_
       refine SW.seq_k fun K8 hK8 => ?_
       refine SW.region _ _ _ _ ?_
       refine RL.p T ?_
       refine RL.nil _ _ _ _ ?_
       refine hK8 _ _ _ ?_
       refine SW.seq_k fun K9 hK9 => ?_
       refine SW.seq_k fun K10 hK10 => ?_
       refine SW.nilrow 31 11 (SW.perm (.swap _ _ _) ?_)
       refine SW.region _ _ _ _ ?_
       refine RL.p T ?_
       refine RL.p T ?_
       refine RL.p T ?_
       refine RL.nil _ _ _ _ ?_
       refine hK10 _ _ _ ?_
       refine SW.block ?_
       refine SW.loopM (fun frB mm fr ds HH => ∃ (k : Nat) (R : Nat → Fs) (over q : Nat) (G : List Chunk) (L gs : List Fs) (am : Option Addr) (m cm : Nat), mm = nr - k ∧ (k ≤ nr ∧ RingIs R 0 L ∧ q = L.length ∧ (∀ x ∈ L, FsOk w0 G x) ∧ m = gs.length ∧ OrdI room ls k gs L over) ∧ FrIs [4, 7, 9, 10, 11, 35, 36, 37, 38, 39, 40, 41, 42, 43, 44, 45, 46, 47, 48, 49, 50, 51, 52, 53, 54, 55, 56, 57, 58, 59, 60, 61, 62, 63, 64, 65, 66, 67, 68, 69, 70, 71, 72, 73, 74, 75, 76, 77, 78, 79, 80] frB fr [(7, .slice am m cm), (35, .int .i64 k)] ∧ ds = [] ∧ HH = (.var bq 57 (FifoC R room ((0 : Nat) : Int) ((q : Nat) : Int) ((over : Nat) : Int)) :: (G ++ (.row am m cm 31 11 (gs.flatMap FsC) :: H)))) (n := nr - 0) ?_ ?_
       ·exact ⟨0, _, 0, 0, [], [], [], none, 0, 0, rfl, ⟨Nat.zero_le _, RingIs.nil _, rfl, (fun _ h => by cases h), rfl, OrdI.start room ls⟩, (.cons rfl (.consI rfl (by first | omega | rfl) (.nil (by repeat first | exact Mx.refl | exact Mx.mix | refine Mx.put rfl ?_ | refine Mx.upd rfl ?_ | refine Mx.updl rfl ?_ | refine Mx.fin rfl ?_ | refine Mx.inner rfl ?_ | refine Mx.none ?_)))), rfl, rfl⟩
       ·rintro mm fr ds HH ⟨k, R, over, q, G, L, gs, am, m, cm, rfl, ⟨hk, hL, hq, hLo, hm, hO⟩, hFr, rfl, eHH⟩
        obtain rfl := eHH.symm
        obtain ⟨frU, rfl⟩ := hFr.eq
        clear hFr
        have hx : ∀ {H : List Chunk}, FsOk w0 H (ls.getD k default) := fun {H} => getD_mem FsOk.dflt (hls H) k
        have hx0 := @hx []
        have hgl := goodL_len ls k
        have hol := hO.len
        have hov := hO.ov
        have hgsl : gs.length ≤ ls.length := by rw [hO.gd]; exact hgl
        refine SW.seq_k fun K11 hK11 => ?_
        refine SW.region _ _ _ _ ?_
        refine RL.p T ?_
        refine RL.nil _ _ _ _ ?_
        refine hK11 _ _ _ ?_
        refine SW.seq_k fun K12 hK12 => ?_
        refine SW.cs (fun hc2 => ?_) (fun hc2 => ?_)
        ·skip
         first
          | (exfalso; clear hK12 K12; clear hK11 K11; clear hK10 K10; clear hK9 K9; clear hK8 K8; clear hK6 K6; clear hK5 K5; clear hK4 K4; clear hK2 K2; clear hK1 K1; clear hK0 K0; first | omega | contradiction | (simp at *; done) | (simp_all; done))
          | (
           refine SW.skip ?_
           refine hK12 _ _ _ ?_
           refine SW.seq_k fun K13 hK13 => ?_
           refine SW.block ?_
           refine SW.seq_k fun K14 hK14 => ?_
           refine SW.region _ _ _ _ ?_
           refine RL.ix T ?_ (hR := fun hs => (by first | exact hB _ | exact Rd.preF nn (Rd.rowh hs (by repeat first | exact At.head _ _ | apply At.tail | apply At.app)) (by omega)))
           refine RL.leN T ?_ (hR := fun hs => (by first | exact hB _ | exact Rd.preF nn (Rd.rowh hs (by repeat first | exact At.head _ _ | apply At.tail | apply At.app)) (by omega))) (hvs := (by exact (rfl : _ = [_, _, _, _, _, _, _, _, _, _, _])))
           refine RL.s ?_
           refine NV.alloc T rfl rfl rfl (by exact (rfl : _ = [_, _, _, _, _, _, _, _, _, _, _])) ?_
           intro b9_0
           refine RL.s ?_
           refine NV.sN T rfl rfl rfl (by exact (rfl : _ = [_, _, _, _, _, _, _, _, _, _, _])) (by exact (rfl : _ = [_, _, _, _, _, _, _, _, _, _, _])) ?_
           refine RL.nil _ _ _ _ ?_
           refine hK14 _ _ _ ?_
           refine SW.seq_k fun K15 hK15 => ?_
           refine SW.region _ _ _ _ ?_
           refine RL.p T ?_
           refine RL.q (QV.vN T rfl rfl rfl rfl rfl (by exact (rfl : _ = [_, _, _, _, _, _, _, _, _, _, _]))) ?_
           refine RL.c fun11 (fun hs => pushU bq R room 0 q over _ (by repeat first | exact At.head _ _ | assumption | apply At.tail | apply At.app) L hL hq hr (by omega) (ls.getD k default) hx) ?_
           rintro _ _ ⟨D1, R1, n1, o1, L1, rfl, e, hL1, hn1, hf1, ho1, hg1⟩; obtain rfl := e.symm
           have hpc := pushI_or room q (ls.getD k default).f
           refine RL.p T ?_
           refine RL.p T ?_
           refine RL.p T ?_
           refine RL.p T ?_
           refine RL.p T ?_
           refine RL.nil _ _ _ _ ?_
           refine hK15 _ _ _ ?_
           refine SW.seq_k fun K16 hK16 => ?_
           refine SW.seq_k fun K17 hK17 => ?_
           refine SW.region _ _ _ _ ?_
           refine RL.p T ?_
           refine RL.p T ?_
           refine RL.q (QV.vN T rfl rfl rfl rfl rfl (by exact (rfl : _ = [_, _, _, _, _, _, _, _, _, _, _]))) ?_
           refine RL.c fun12 (fun hs => fcheck (ls.getD k default).f (ls.getD k default).a (ls.getD k default).n (ls.getD k default).c hx.rd hx0.len hx0.max hx0.ok) ?_
           rintro _ _ ⟨rfl, e⟩; obtain rfl := e.symm
           refine RL.p T ?_
           refine RL.p T ?_
           refine RL.p T ?_
           refine RL.join (fr1 := ?_) 7 51 false [52, 53, 54, 55, 56, 57, 58] (fun hs1 hj => ?_) ?_ ?_
           rotate_left
           ·have hs1j := hs1
            try simp only [decide_eq_true_eq, Bool.not_eq_true', decide_eq_false_iff_not, Bool.not_eq_false', Int.not_lt, Int.not_le, Int.toNat_natCast, Bool.and_eq_true, Bool.or_eq_true, Bool.and_eq_false_iff, Bool.or_eq_false_iff] at hs1
            refine RL.p T ?_
            refine RL.p T ?_
            refine RL.join (fr1 := ?_) 4 53 true [54, 55, 56, 57] (fun hs2 hj => ?_) ?_ ?_
            rotate_left
            ·have hs2j := hs2
             try simp only [decide_eq_true_eq, Bool.not_eq_true', decide_eq_false_iff_not, Bool.not_eq_false', Int.not_lt, Int.not_le, Int.toNat_natCast, Bool.and_eq_true, Bool.or_eq_true, Bool.and_eq_false_iff, Bool.or_eq_false_iff] at hs2
             refine RL.p T ?_
             refine RL.p T ?_
             refine RL.p T ?_
             refine RL.p T ?_
             exact hj
            ·repeat first | exact Mx.refl | exact Mx.mix | refine Mx.put rfl ?_ | refine Mx.upd rfl ?_ | refine Mx.updl rfl ?_ | refine Mx.fin rfl ?_ | refine Mx.inner rfl ?_ | refine Mx.none ?_
            refine RL.and ?_
            exact hj
           ·repeat first | exact Mx.refl | exact Mx.mix | refine Mx.put rfl ?_ | refine Mx.upd rfl ?_ | refine Mx.updl rfl ?_ | refine Mx.fin rfl ?_ | refine Mx.inner rfl ?_ | refine Mx.none ?_
           refine RL.or ?_
           refine RL.p T ?_
           refine RL.join (fr1 := ?_) 12 60 false [61, 62, 63, 64, 65, 66, 67, 68, 69, 70, 71, 72] (fun hs3 hj => ?_) ?_ ?_
           rotate_left
           ·have hs3j := hs3
            try simp only [decide_eq_true_eq, Bool.not_eq_true', decide_eq_false_iff_not, Bool.not_eq_false', Int.not_lt, Int.not_le, Int.toNat_natCast, Bool.and_eq_true, Bool.or_eq_true, Bool.and_eq_false_iff, Bool.or_eq_false_iff] at hs3
            refine RL.p T ?_
            refine RL.p T ?_
            refine RL.p T ?_
            refine RL.join (fr1 := ?_) 2 63 true [64, 65] (fun hs4 hj => ?_) ?_ ?_
            rotate_left
            ·have hs4j := hs4
             try simp only [decide_eq_true_eq, Bool.not_eq_true', decide_eq_false_iff_not, Bool.not_eq_false', Int.not_lt, Int.not_le, Int.toNat_natCast, Bool.and_eq_true, Bool.or_eq_true, Bool.and_eq_false_iff, Bool.or_eq_false_iff] at hs4
             refine RL.p T ?_
             refine RL.p T ?_
             exact hj
            ·repeat first | exact Mx.refl | exact Mx.mix | refine Mx.put rfl ?_ | refine Mx.upd rfl ?_ | refine Mx.updl rfl ?_ | refine Mx.fin rfl ?_ | refine Mx.inner rfl ?_ | refine Mx.none ?_
            refine RL.and ?_
            refine RL.p T ?_
            refine RL.join (fr1 := ?_) 4 67 true [68, 69, 70, 71] (fun hs5 hj => ?_) ?_ ?_
            rotate_left
            ·have hs5j := hs5
             try simp only [decide_eq_true_eq, Bool.not_eq_true', decide_eq_false_iff_not, Bool.not_eq_false', Int.not_lt, Int.not_le, Int.toNat_natCast, Bool.and_eq_true, Bool.or_eq_true, Bool.and_eq_false_iff, Bool.or_eq_false_iff] at hs5
             refine RL.p T ?_
             refine RL.p T ?_
             refine RL.p T ?_
             refine RL.p T ?_
             exact hj
            ·repeat first | exact Mx.refl | exact Mx.mix | refine Mx.put rfl ?_ | refine Mx.upd rfl ?_ | refine Mx.updl rfl ?_ | refine Mx.fin rfl ?_ | refine Mx.inner rfl ?_ | refine Mx.none ?_
            refine RL.and ?_
            exact hj
           ·repeat first | exact Mx.refl | exact Mx.mix | refine Mx.put rfl ?_ | refine Mx.upd rfl ?_ | refine Mx.updl rfl ?_ | refine Mx.fin rfl ?_ | refine Mx.inner rfl ?_ | refine Mx.none ?_
           refine RL.or ?_
           refine RL.nil _ _ _ _ ?_
           refine hK17 _ _ _ ?_
           refine SW.cs (fun hc3 => ?_) (fun hc3 => ?_)
           ·skip
            first
             | (exfalso; clear hK17 K17; clear hK16 K16; clear hK15 K15; clear hK14 K14; clear hK13 K13; clear hK12 K12; clear hK11 K11; clear hK10 K10; clear hK9 K9; clear hK8 K8; clear hK6 K6; clear hK5 K5; clear hK4 K4; clear hK2 K2; clear hK1 K1; clear hK0 K0; first | omega | contradiction | (simp at *; done) | (simp_all; done))
             | (
              refine SW.seq_k fun K18 hK18 => ?_
              refine SW.region _ _ _ _ ?_
              refine RL.p T ?_
              refine RL.nil _ _ _ _ ?_
              refine hK18 _ _ _ ?_
              refine SW.ret ?_
              refine retQ.rr (H) ?_
              clear hK18 K18 hK17 K17 hK16 K16 hK15 K15 hK14 K14 hK13 K13 hK12 K12 hK11 K11 hK10 K10 hK9 K9 hK8 K8 hK6 K6 hK5 K5 hK4 K4 hK2 K2 hK1 K1 hK0 K0
              first
                | exact ⟨rfl, rfl⟩
                | (exfalso; rcases hpc with ⟨e1, e2, e3⟩ | ⟨e1, e2⟩ <;> rw [e1] at hc3 <;> simp [-List.getD_eq_getElem?_getD] at hc3 <;> omega)
                | (refine ⟨boolE ?_, rfl⟩; simp; omega)
              )
           ·skip
            first
             | (exfalso; clear hK17 K17; clear hK16 K16; clear hK15 K15; clear hK14 K14; clear hK13 K13; clear hK12 K12; clear hK11 K11; clear hK10 K10; clear hK9 K9; clear hK8 K8; clear hK6 K6; clear hK5 K5; clear hK4 K4; clear hK2 K2; clear hK1 K1; clear hK0 K0; first | omega | contradiction | (simp at *; done) | (simp_all; done))
             | (
              refine SW.skip ?_
              refine hK16 _ _ _ ?_
              refine SW.seq_k fun K19 hK19 => ?_
              refine SW.region _ _ _ _ ?_
              refine RL.p T ?_
              refine RL.p T ?_
              refine RL.nil _ _ _ _ ?_
              refine hK19 _ _ _ ?_
              refine SW.cs (fun hc4 => ?_) (fun hc4 => ?_)
              ·skip
               first
                | (exfalso; clear hK19 K19; clear hK17 K17; clear hK16 K16; clear hK15 K15; clear hK14 K14; clear hK13 K13; clear hK12 K12; clear hK11 K11; clear hK10 K10; clear hK9 K9; clear hK8 K8; clear hK6 K6; clear hK5 K5; clear hK4 K4; clear hK2 K2; clear hK1 K1; clear hK0 K0; first | omega | contradiction | (simp at *; done) | (simp_all; done))
                | (
                 refine SW.region _ _ _ _ ?_
                 refine RL.p T ?_
                 refine RL.q (QV.vN T rfl rfl rfl rfl rfl (by exact (rfl : _ = [_, _, _, _, _, _, _, _, _, _, _]))) ?_
                 refine RL.bs T rfl rfl rfl (by exact (rfl : _ = some [_, _, _, _, _, _, _, _, _, _, _])) (fun b78_1 => ?_)
                 refine RL.apS T ([(ls.getD k default)]) (fun a0_ c0_ => ?_)
                 refine RL.p T ?_
                 refine RL.nil _ _ _ _ ?_
                 refine hK13 _ _ _ ?_
                 refine SW.weaken (fun _ h => satmv h) ?_
                 refine SW.region _ _ _ _ ?_
                 first | refine RL.ar ?_ | refine RL.p T ?_
                 refine RL.p T ?_
                 refine RL.nil _ _ _ _ ?_
                 first
                   | exact ⟨nr - (k + 1), (by omega), k + 1, R1, o1, n1, D1 ++ G, L1, gs ++ [(ls.getD k default)], a0_, m + 1, c0_, (by rfl), ⟨by omega, hL1, hn1, okmix hLo hg1, by rw [List.length_append, hm]; rfl, hO.good (by omega) (by omega) hf1 ho1 hq⟩, (.cons rfl (.consI rfl (by first | omega | rfl) (.nil (by repeat first | exact Mx.refl | exact Mx.mix | refine Mx.put rfl ?_ | refine Mx.upd rfl ?_ | refine Mx.updl rfl ?_ | refine Mx.fin rfl ?_ | refine Mx.inner rfl ?_ | refine Mx.none ?_)))), rfl, rfl⟩
                   | exact ⟨nr - (k + 1), (by omega), k + 1, R1, o1, n1, D1 ++ G, L1, gs, am, m, cm, (by rfl), ⟨by omega, hL1, hn1, okmix hLo hg1, hm, hO.bad (by omega) (by omega) hf1 ho1⟩, (.cons rfl (.consI rfl (by first | omega | rfl) (.nil (by repeat first | exact Mx.refl | exact Mx.mix | refine Mx.put rfl ?_ | refine Mx.upd rfl ?_ | refine Mx.updl rfl ?_ | refine Mx.fin rfl ?_ | refine Mx.inner rfl ?_ | refine Mx.none ?_)))), rfl, rfl⟩
                 )
              ·skip
               first
                | (exfalso; clear hK19 K19; clear hK17 K17; clear hK16 K16; clear hK15 K15; clear hK14 K14; clear hK13 K13; clear hK12 K12; clear hK11 K11; clear hK10 K10; clear hK9 K9; clear hK8 K8; clear hK6 K6; clear hK5 K5; clear hK4 K4; clear hK2 K2; clear hK1 K1; clear hK0 K0; first | omega | contradiction | (simp at *; done) | (simp_all; done))
                | (
                 refine SW.skip ?_
                 refine hK13 _ _ _ ?_
                 refine SW.weaken (fun _ h => satmv h) ?_
                 refine SW.region _ _ _ _ ?_
                 first | refine RL.ar ?_ | refine RL.p T ?_
                 refine RL.p T ?_
                 refine RL.nil _ _ _ _ ?_
                 first
                   | exact ⟨nr - (k + 1), (by omega), k + 1, R1, o1, n1, D1 ++ G, L1, gs ++ [(ls.getD k default)], a0_, m + 1, c0_, (by rfl), ⟨by omega, hL1, hn1, okmix hLo hg1, by rw [List.length_append, hm]; rfl, hO.good (by omega) (by omega) hf1 ho1 hq⟩, (.cons rfl (.consI rfl (by first | omega | rfl) (.nil (by repeat first | exact Mx.refl | exact Mx.mix | refine Mx.put rfl ?_ | refine Mx.upd rfl ?_ | refine Mx.updl rfl ?_ | refine Mx.fin rfl ?_ | refine Mx.inner rfl ?_ | refine Mx.none ?_)))), rfl, rfl⟩
                   | exact ⟨nr - (k + 1), (by omega), k + 1, R1, o1, n1, D1 ++ G, L1, gs, am, m, cm, (by rfl), ⟨by omega, hL1, hn1, okmix hLo hg1, hm, hO.bad (by omega) (by omega) hf1 ho1⟩, (.cons rfl (.consI rfl (by first | omega | rfl) (.nil (by repeat first | exact Mx.refl | exact Mx.mix | refine Mx.put rfl ?_ | refine Mx.upd rfl ?_ | refine Mx.updl rfl ?_ | refine Mx.fin rfl ?_ | refine Mx.inner rfl ?_ | refine Mx.none ?_)))), rfl, rfl⟩
                 )
              )
           )
        ·skip
         first
          | (exfalso; clear hK12 K12; clear hK11 K11; clear hK10 K10; clear hK9 K9; clear hK8 K8; clear hK6 K6; clear hK5 K5; clear hK4 K4; clear hK2 K2; clear hK1 K1; clear hK0 K0; first | omega | contradiction | (simp at *; done) | (simp_all; done))
          | (
           refine SW.exit ?_
           refine hK9 _ _ _ ?_
           refine SW.seq_k fun K20 hK20 => ?_
           obtain rfl : nr = k := by omega
           refine SW.region _ _ _ _ ?_
           refine RL.p T ?_
           refine RL.p T ?_
           refine RL.p T ?_
           refine RL.p T ?_
           obtain ⟨nn, hnn, hnm⟩ : ∃ nn : Nat, min (room : Int) (m : Int) = nn ∧ nn = min room m := ⟨min room m, by omega, rfl⟩
           rw [hnn]
           refine RL.p T ?_
           refine RL.nil _ _ _ _ ?_
           refine hK20 _ _ _ ?_
           refine SW.seq_k fun K21 hK21 => ?_
           refine SW.seq_k fun K22 hK22 => ?_
           refine SW.region _ _ _ _ ?_
           refine RL.p T ?_
           refine RL.c fun13 (fun hs => flen bq R room 0 q over _ (by repeat first | exact At.head _ _ | assumption | apply At.tail | apply At.app)) ?_
           rintro _ _ ⟨rfl, e⟩; obtain rfl := e.symm
           refine RL.p T ?_
           refine RL.p T ?_
           refine RL.p T ?_
           refine RL.join (fr1 := ?_) 7 89 false [90, 91, 92, 93, 94, 95, 96] (fun hs6 hj => ?_) ?_ ?_
           rotate_left
           ·have hs6j := hs6
            try simp only [decide_eq_true_eq, Bool.not_eq_true', decide_eq_false_iff_not, Bool.not_eq_false', Int.not_lt, Int.not_le, Int.toNat_natCast, Bool.and_eq_true, Bool.or_eq_true, Bool.and_eq_false_iff, Bool.or_eq_false_iff] at hs6
            refine RL.p T ?_
            refine RL.c fun14 (fun hs => fover bq R room 0 q over _ (by repeat first | exact At.head _ _ | assumption | apply At.tail | apply At.app)) ?_
            rintro _ _ ⟨rfl, e⟩; obtain rfl := e.symm
            refine RL.p T ?_
            refine RL.p T ?_
            refine RL.p T ?_
            first | refine RL.ar ?_ | refine RL.p T ?_
            refine RL.p T ?_
            exact hj
           ·repeat first | exact Mx.refl | exact Mx.mix | refine Mx.put rfl ?_ | refine Mx.upd rfl ?_ | refine Mx.updl rfl ?_ | refine Mx.fin rfl ?_ | refine Mx.inner rfl ?_ | refine Mx.none ?_
           refine RL.or ?_
           refine RL.nil _ _ _ _ ?_
           refine hK22 _ _ _ ?_
           refine SW.cs (fun hc5 => ?_) (fun hc5 => ?_)
           ·skip
            first
             | (exfalso; clear hK22 K22; clear hK21 K21; clear hK20 K20; clear hK12 K12; clear hK11 K11; clear hK10 K10; clear hK9 K9; clear hK8 K8; clear hK6 K6; clear hK5 K5; clear hK4 K4; clear hK2 K2; clear hK1 K1; clear hK0 K0; first | omega | contradiction | (simp at *; done) | (simp_all; done))
             | (
              refine SW.seq_k fun K23 hK23 => ?_
              refine SW.region _ _ _ _ ?_
              refine RL.p T ?_
              refine RL.nil _ _ _ _ ?_
              refine hK23 _ _ _ ?_
              refine SW.ret ?_
              refine retQ.rr (H) ?_
              clear hK23 K23 hK22 K22 hK21 K21 hK20 K20 hK12 K12 hK11 K11 hK10 K10 hK9 K9 hK8 K8 hK6 K6 hK5 K5 hK4 K4 hK2 K2 hK1 K1 hK0 K0
              first
                | exact ⟨rfl, rfl⟩
                | (exfalso; rcases hpc with ⟨e1, e2, e3⟩ | ⟨e1, e2⟩ <;> rw [e1] at hc3 <;> simp [-List.getD_eq_getElem?_getD] at hc3 <;> omega)
                | (refine ⟨boolE ?_, rfl⟩; simp; omega)
              )
           ·skip
            first
             | (exfalso; clear hK22 K22; clear hK21 K21; clear hK20 K20; clear hK12 K12; clear hK11 K11; clear hK10 K10; clear hK9 K9; clear hK8 K8; clear hK6 K6; clear hK5 K5; clear hK4 K4; clear hK2 K2; clear hK1 K1; clear hK0 K0; first | omega | contradiction | (simp at *; done) | (simp_all; done))
             | (
              refine SW.skip ?_
              refine hK21 _ _ _ ?_
              refine SW.seq_k fun K24 hK24 => ?_
              refine SW.seq_k fun K25 hK25 => ?_
              have hgm : ∀ x ∈ gs, ∀ H, FsOk w0 H x := fun x hx H => hls H x (goodL_mem x (by rw [← hO.gd]; exact hx)).1
              have hl0 := hO.fr
              refine SW.region _ _ _ _ ?_
              refine RL.p T ?_
              refine RL.p T ?_
              refine RL.sl T ?_ (h1 := nn)
              refine RL.p T ?_
              refine RL.p T ?_
              refine RL.nil _ _ _ _ ?_
              refine hK25 _ _ _ ?_
              refine SW.block ?_
              refine SW.loopM (fun frB mm fr ds HH => ∃ (k : Nat) (R : Nat → Fs) (first q : Nat) (L : List Fs), mm = nn - k ∧ (k ≤ nn ∧ RingIs R first L ∧ q = L.length ∧ (∀ x ∈ L, FsOk w0 G x) ∧ frs L = ((frs gs).take room).drop k) ∧ FrIs [4, 14, 15, 16, 102, 103, 104, 105, 106, 107, 108, 109, 110, 111, 112, 113, 114, 115, 116, 117, 118, 119] frB fr [(102, .int .i64 k)] ∧ ds = [] ∧ HH = (.var bq 57 (FifoC R room ((first : Nat) : Int) ((q : Nat) : Int) ((over : Nat) : Int)) :: (G ++ (.row am m cm 31 11 (gs.flatMap FsC) :: H)))) (n := nn - 0) ?_ ?_
              ·exact ⟨0, R, 0, q, L, rfl, ⟨Nat.zero_le _, hL, hq, hLo, by rw [List.drop_zero]; exact hl0⟩, (.consI rfl (by first | omega | rfl) (.nil (by repeat first | exact Mx.refl | exact Mx.mix | refine Mx.put rfl ?_ | refine Mx.upd rfl ?_ | refine Mx.updl rfl ?_ | refine Mx.fin rfl ?_ | refine Mx.inner rfl ?_ | refine Mx.none ?_))), rfl, rfl⟩
              ·rintro mm fr ds HH ⟨k, R, first, q, L, rfl, ⟨hk2, hL2, hq2, hLo2, hf2⟩, hFr, rfl, eHH⟩
               obtain rfl := eHH.symm
               obtain ⟨frU, rfl⟩ := hFr.eq
               clear hFr
               have hgl2 : (gs.take nn).length = nn := by rw [List.length_take]; omega
               have hhd := fun h => ord_head hf2 (k := k) (n := nn) h (by omega)
               have hx : ∀ {H : List Chunk}, FsOk w0 H ((gs.take nn).getD k default) := fun {H} => getD_mem FsOk.dflt (fun x hx => hgm x (List.mem_of_mem_take hx) H) k
               have hx0 := @hx []
               have hy0 : FsOk w0 G (L.getD 0 default) := getD_mem FsOk.dflt hLo2 0
               refine SW.seq_k fun K26 hK26 => ?_
               refine SW.region _ _ _ _ ?_
               refine RL.p T ?_
               refine RL.nil _ _ _ _ ?_
               refine hK26 _ _ _ ?_
               refine SW.seq_k fun K27 hK27 => ?_
               refine SW.cs (fun hc6 => ?_) (fun hc6 => ?_)
               ·skip
                first
                 | (exfalso; clear hK27 K27; clear hK26 K26; clear hK25 K25; clear hK24 K24; clear hK22 K22; clear hK21 K21; clear hK20 K20; clear hK12 K12; clear hK11 K11; clear hK10 K10; clear hK9 K9; clear hK8 K8; clear hK6 K6; clear hK5 K5; clear hK4 K4; clear hK2 K2; clear hK1 K1; clear hK0 K0; first | omega | contradiction | (simp at *; done) | (simp_all; done))
                 | (
                  refine SW.skip ?_
                  refine hK27 _ _ _ ?_
                  refine SW.seq_k fun K28 hK28 => ?_
                  refine SW.block ?_
                  refine SW.seq_k fun K29 hK29 => ?_
                  refine SW.region _ _ _ _ ?_
                  refine RL.ix T ?_ (hR := fun hs => (by first | exact hB _ | exact Rd.preF nn (Rd.rowh hs (by repeat first | exact At.head _ _ | apply At.tail | apply At.app)) (by omega)))
                  refine RL.leN T ?_ (hR := fun hs => (by first | exact hB _ | exact Rd.preF nn (Rd.rowh hs (by repeat first | exact At.head _ _ | apply At.tail | apply At.app)) (by omega))) (hvs := (by exact (rfl : _ = [_, _, _, _, _, _, _, _, _, _, _])))
                  refine RL.s ?_
                  refine NV.alloc T rfl rfl rfl (by exact (rfl : _ = [_, _, _, _, _, _, _, _, _, _, _])) ?_
                  intro b14_2
                  refine RL.s ?_
                  refine NV.sN T rfl rfl rfl (by exact (rfl : _ = [_, _, _, _, _, _, _, _, _, _, _])) (by exact (rfl : _ = [_, _, _, _, _, _, _, _, _, _, _])) ?_
                  refine RL.nil _ _ _ _ ?_
                  refine hK29 _ _ _ ?_
                  refine SW.seq_k fun K30 hK30 => ?_
                  refine SW.region _ _ _ _ ?_
                  refine RL.p T ?_
                  refine RL.c fun15 (fun hs => popU bq R room first q over _ (by repeat first | exact At.head _ _ | assumption | apply At.tail | apply At.app) L hL2 hq2 (by have := (hhd (by omega)).2; omega)) ?_
                  rintro _ _ ⟨R2, first2, rfl, e, hL3⟩; obtain rfl := e.symm
                  refine RL.p T ?_
                  refine RL.p T ?_
                  refine RL.p T ?_
                  refine RL.s ?_
                  refine NV.alloc T rfl rfl rfl (by exact (rfl : _ = [_, _, _, _, _, _, _, _, _, _, _])) ?_
                  intro b15_3
                  refine RL.s ?_
                  refine NV.sN T rfl rfl rfl (by exact (rfl : _ = [_, _, _, _, _, _, _, _, _, _, _])) (by exact (rfl : _ = [_, _, _, _, _, _, _, _, _, _, _])) ?_
                  refine RL.p T ?_
                  refine RL.nil _ _ _ _ ?_
                  refine hK30 _ _ _ ?_
                  refine SW.seq_k fun K31 hK31 => ?_
                  refine SW.region _ _ _ _ ?_
                  refine RL.p T ?_
                  refine RL.p T ?_
                  refine RL.p T ?_
                  refine RL.join (fr1 := ?_) 4 113 false [114, 115, 116, 117] (fun hs7 hj => ?_) ?_ ?_
                  rotate_left
                  ·have hs7j := hs7
                   try simp only [decide_eq_true_eq, Bool.not_eq_true', decide_eq_false_iff_not, Bool.not_eq_false', Int.not_lt, Int.not_le, Int.toNat_natCast, Bool.and_eq_true, Bool.or_eq_true, Bool.and_eq_false_iff, Bool.or_eq_false_iff] at hs7
                   refine RL.q (QV.vN T rfl rfl rfl rfl rfl (by exact (rfl : _ = [_, _, _, _, _, _, _, _, _, _, _]))) ?_
                   refine RL.q (QV.vN T rfl rfl rfl rfl rfl (by exact (rfl : _ = [_, _, _, _, _, _, _, _, _, _, _]))) ?_
                   refine RL.c fun16 (fun hs => fsameT (L.getD 0 default).f (L.getD 0 default).a (L.getD 0 default).n (L.getD 0 default).c (by repeat first | exact hy0.rd.appr | apply Rd.cons | apply Rd.app) hy0.len hy0.max hy0.ok ((gs.take nn).getD k default).f ((gs.take nn).getD k default).a ((gs.take nn).getD k default).n ((gs.take nn).getD k default).c hx.rd hx0.len hx0.max hx0.ok (hhd (by omega)).1) ?_
                   rintro _ _ ⟨rfl, e⟩; obtain rfl := e.symm
                   refine RL.p T ?_
                   exact hj
                  ·repeat first | exact Mx.refl | exact Mx.mix | refine Mx.put rfl ?_ | refine Mx.upd rfl ?_ | refine Mx.updl rfl ?_ | refine Mx.fin rfl ?_ | refine Mx.inner rfl ?_ | refine Mx.none ?_
                  refine RL.or ?_
                  refine RL.nil _ _ _ _ ?_
                  refine hK31 _ _ _ ?_
                  refine SW.cs (fun hc7 => ?_) (fun hc7 => ?_)
                  ·skip
                   first
                    | (exfalso; clear hK31 K31; clear hK30 K30; clear hK29 K29; clear hK28 K28; clear hK27 K27; clear hK26 K26; clear hK25 K25; clear hK24 K24; clear hK22 K22; clear hK21 K21; clear hK20 K20; clear hK12 K12; clear hK11 K11; clear hK10 K10; clear hK9 K9; clear hK8 K8; clear hK6 K6; clear hK5 K5; clear hK4 K4; clear hK2 K2; clear hK1 K1; clear hK0 K0; first | omega | contradiction | (simp at *; done) | (simp_all; done))
                    | (
                     refine SW.seq_k fun K32 hK32 => ?_
                     refine SW.region _ _ _ _ ?_
                     refine RL.p T ?_
                     refine RL.nil _ _ _ _ ?_
                     refine hK32 _ _ _ ?_
                     refine SW.ret ?_
                     refine retQ.rr (H) ?_
                     clear hK32 K32 hK31 K31 hK30 K30 hK29 K29 hK28 K28 hK27 K27 hK26 K26 hK25 K25 hK24 K24 hK22 K22 hK21 K21 hK20 K20 hK12 K12 hK11 K11 hK10 K10 hK9 K9 hK8 K8 hK6 K6 hK5 K5 hK4 K4 hK2 K2 hK1 K1 hK0 K0
                     first
                       | exact ⟨rfl, rfl⟩
                       | (exfalso; rcases hpc with ⟨e1, e2, e3⟩ | ⟨e1, e2⟩ <;> rw [e1] at hc3 <;> simp [-List.getD_eq_getElem?_getD] at hc3 <;> omega)
                       | (refine ⟨boolE ?_, rfl⟩; simp; omega)
                     )
                  ·skip
                   first
                    | (exfalso; clear hK31 K31; clear hK30 K30; clear hK29 K29; clear hK28 K28; clear hK27 K27; clear hK26 K26; clear hK25 K25; clear hK24 K24; clear hK22 K22; clear hK21 K21; clear hK20 K20; clear hK12 K12; clear hK11 K11; clear hK10 K10; clear hK9 K9; clear hK8 K8; clear hK6 K6; clear hK5 K5; clear hK4 K4; clear hK2 K2; clear hK1 K1; clear hK0 K0; first | omega | contradiction | (simp at *; done) | (simp_all; done))
                    | (
                     refine SW.skip ?_
                     refine hK28 _ _ _ ?_
                     refine SW.drop (SW.drop ?_)
                     refine SW.region _ _ _ _ ?_
                     first | refine RL.ar ?_ | refine RL.p T ?_
                     refine RL.p T ?_
                     refine RL.nil _ _ _ _ ?_
                     exact ⟨nn - (k + 1), (by omega), k + 1, R2, first2, q - 1, L.tail, (by rfl), ⟨by omega, hL3, by rw [List.length_tail]; omega, tail_ok hLo2, ord_tail hf2⟩, (.consI rfl (by first | omega | rfl) (.nil (by repeat first | exact Mx.refl | exact Mx.mix | refine Mx.put rfl ?_ | refine Mx.upd rfl ?_ | refine Mx.updl rfl ?_ | refine Mx.fin rfl ?_ | refine Mx.inner rfl ?_ | refine Mx.none ?_))), rfl, rfl⟩
                     )
                  )
               ·skip
                first
                 | (exfalso; clear hK27 K27; clear hK26 K26; clear hK25 K25; clear hK24 K24; clear hK22 K22; clear hK21 K21; clear hK20 K20; clear hK12 K12; clear hK11 K11; clear hK10 K10; clear hK9 K9; clear hK8 K8; clear hK6 K6; clear hK5 K5; clear hK4 K4; clear hK2 K2; clear hK1 K1; clear hK0 K0; first | omega | contradiction | (simp at *; done) | (simp_all; done))
                 | (
                  refine SW.exit ?_
                  refine hK24 _ _ _ ?_
                  refine SW.seq_k fun K33 hK33 => ?_
                  obtain rfl : nn = k := by omega
                  obtain rfl : L = [] := ord_end hf2 (by omega)
                  obtain rfl : q = 0 := hq2
                  refine SW.region _ _ _ _ ?_
                  refine RL.p T ?_
                  refine RL.c fun15 (fun hs => pop_none bq R room first 0 over _ (by repeat first | exact At.head _ _ | assumption | apply At.tail | apply At.app) rfl) ?_
                  rintro _ _ ⟨rfl, e⟩; obtain rfl := e.symm
                  refine RL.p T ?_
                  refine RL.p T ?_
                  refine RL.p T ?_
                  refine RL.s ?_
                  refine NV.alloc T rfl rfl rfl (by exact (rfl : _ = [_, _, _, _, _, _, _, _, _, _, _])) ?_
                  intro b17_4
                  refine RL.s ?_
                  refine NV.sN T rfl rfl rfl (by exact (rfl : _ = [_, _, _, _, _, _, _, _, _, _, _])) (by exact (rfl : _ = [_, _, _, _, _, _, _, _, _, _, _])) ?_
                  refine RL.p T ?_
                  refine RL.nil _ _ _ _ ?_
                  refine hK33 _ _ _ ?_
                  refine SW.seq_k fun K34 hK34 => ?_
                  refine SW.region _ _ _ _ ?_
                  refine RL.p T ?_
                  refine RL.p T ?_
                  refine RL.p T ?_
                  refine RL.join (fr1 := ?_) 7 127 true [128, 129, 130, 131, 132, 133, 134] (fun hs8 hj => ?_) ?_ ?_
                  rotate_left
                  ·have hs8j := hs8
                   try simp only [decide_eq_true_eq, Bool.not_eq_true', decide_eq_false_iff_not, Bool.not_eq_false', Int.not_lt, Int.not_le, Int.toNat_natCast, Bool.and_eq_true, Bool.or_eq_true, Bool.and_eq_false_iff, Bool.or_eq_false_iff] at hs8
                   refine RL.p T ?_
                   refine RL.c fun14 (fun hs => fover bq R room first 0 over _ (by repeat first | exact At.head _ _ | assumption | apply At.tail | apply At.app)) ?_
                   rintro _ _ ⟨rfl, e⟩; obtain rfl := e.symm
                   refine RL.p T ?_
                   refine RL.p T ?_
                   refine RL.p T ?_
                   first | refine RL.ar ?_ | refine RL.p T ?_
                   refine RL.p T ?_
                   exact hj
                  ·repeat first | exact Mx.refl | exact Mx.mix | refine Mx.put rfl ?_ | refine Mx.upd rfl ?_ | refine Mx.updl rfl ?_ | refine Mx.fin rfl ?_ | refine Mx.inner rfl ?_ | refine Mx.none ?_
                  refine RL.and ?_
                  refine RL.p T ?_
                  refine RL.nil _ _ _ _ ?_
                  refine hK34 _ _ _ ?_
                  refine SW.ret ?_
                  refine retQ.rr (H) ?_
                  clear hK34 K34 hK33 K33 hK27 K27 hK26 K26 hK25 K25 hK24 K24 hK22 K22 hK21 K21 hK20 K20 hK12 K12 hK11 K11 hK10 K10 hK9 K9 hK8 K8 hK6 K6 hK5 K5 hK4 K4 hK2 K2 hK1 K1 hK0 K0
                  first
                    | exact ⟨rfl, rfl⟩
                    | (exfalso; rcases hpc with ⟨e1, e2, e3⟩ | ⟨e1, e2⟩ <;> rw [e1] at hc3 <;> simp [-List.getD_eq_getElem?_getD] at hc3 <;> omega)
                    | (refine ⟨boolE ?_, rfl⟩; simp; omega)
                  )
              )
           )
       )
    )
theorem fifoOrders_bad {w0 : World} {H : List Chunk} (room : Int) (hr : room < 0 ∨ 64 < room) (sr : Option Addr) (nr cr : Nat) : SC Try.prog w0 3 #[.int .i64 room, .slice sr nr cr] H (fun v H' => v = .bool true ∧ H' = H) := by
 refine SC.enter Try.func3 rfl (Nat.le_of_ble_eq_true rfl) ?_
 refine SW.seq_k fun K0 hK0 => ?_
 refine SW.region _ _ _ _ ?_
 refine RL.p T ?_
 refine RL.nil _ _ _ _ ?_
 refine hK0 _ _ _ ?_
 refine SW.seq_k fun K1 hK1 => ?_
 refine SW.seq_k fun K2 hK2 => ?_
 refine SW.region _ _ _ _ ?_
 refine RL.c fun9 (fun hs => alive) ?_
 rintro _ _ ⟨rfl, e⟩; obtain rfl := e.symm
 refine RL.p T ?_
 refine RL.nil _ _ _ _ ?_
 refine hK2 _ _ _ ?_
 refine SW.cs (fun hc0 => ?_) (fun hc0 => ?_)
 ·skip
  first
   | (exfalso; first | omega | contradiction | (simp at *; done))
   | (
    refine SW.seq_k fun K3 hK3 => ?_
    refine SW.region _ _ _ _ ?_
    refine RL.p T ?_
    refine RL.nil _ _ _ _ ?_
    refine hK3 _ _ _ ?_
    refine SW.ret ?_
    refine retQ.rr (H) ?_
    clear hK3 K3 hK2 K2 hK1 K1 hK0 K0
    exact ⟨rfl, rfl⟩
    )
 ·skip
  first
   | (exfalso; first | omega | contradiction | (simp at *; done))
   | (
    refine SW.skip ?_
    refine hK1 _ _ _ ?_
    refine SW.seq_k fun K4 hK4 => ?_
    refine SW.region _ _ _ _ ?_
    refine RL.p T ?_
    refine RL.c fun10 (fun hs => fnew_bad room hr) ?_
    rintro _ _ ⟨rfl, e⟩; obtain rfl := e.symm
    refine RL.p T ?_
    refine RL.p T ?_
    refine RL.p T ?_
    refine RL.p T ?_
    refine RL.p T ?_
    refine RL.nil _ _ _ _ ?_
    refine hK4 _ _ _ ?_
    refine SW.seq_k fun K5 hK5 => ?_
    refine SW.seq_k fun K6 hK6 => ?_
    refine SW.region _ _ _ _ ?_
    refine RL.p T ?_
    refine RL.p T ?_
    refine RL.p T ?_
    refine RL.sp 28 (fun hs0 => ?_) (fun hs0 => ?_)
    ·skip
     first
      | (exfalso; first | omega | contradiction | (simp at *; done))
      | (
       refine RL.guard_no rfl rfl rfl ?_
       refine RL.guard_no rfl rfl rfl ?_
       refine RL.guard_no rfl rfl rfl ?_
       refine RL.p T ?_
       refine RL.nil _ _ _ _ ?_
       refine hK6 _ _ _ ?_
       refine SW.cond_t rfl ?_
       refine SW.seq_k fun K7 hK7 => ?_
       refine SW.region _ _ _ _ ?_
       refine RL.p T ?_
       refine RL.nil _ _ _ _ ?_
       refine hK7 _ _ _ ?_
       refine SW.ret ?_
       refine retQ.rr (H) ?_
       clear hK7 K7 hK6 K6 hK5 K5 hK4 K4 hK2 K2 hK1 K1 hK0 K0
       exact ⟨rfl, rfl⟩
       )
    ·skip
     first
      | (exfalso; first | omega | contradiction | (simp at *; done))
      | (
       refine RL.p T ?_
       refine RL.p T ?_
       refine RL.p T ?_
       refine RL.p T ?_
       refine RL.nil _ _ _ _ ?_
       refine hK6 _ _ _ ?_
       refine SW.cs (fun hc1 => ?_) (fun hc1 => ?_)
       ·skip
        first
         | (exfalso; first | omega | contradiction | (simp at *; done))
         | (
          refine SW.seq_k fun K8 hK8 => ?_
          refine SW.region _ _ _ _ ?_
          refine RL.p T ?_
          refine RL.nil _ _ _ _ ?_
          refine hK8 _ _ _ ?_
          refine SW.ret ?_
          refine retQ.rr (H) ?_
          clear hK8 K8 hK6 K6 hK5 K5 hK4 K4 hK2 K2 hK1 K1 hK0 K0
          exact ⟨rfl, rfl⟩
          )
       ·skip
        exfalso; first | omega | contradiction | (simp at *; done)
       )
    )
theorem fifoOrdersI {w0 : World} {H : List Chunk} (room : Int) (ls : List Fs) (sr : Option Addr) (nr cr : Nat) (hB : ∀ H, Rd w0 H sr nr cr 11 (ls.flatMap FsC)) (hnr : nr = ls.length) (hmr : nr ≤ 4398046511000) (hls : ∀ H, ∀ x ∈ ls, FsOk w0 H x) : SC Try.prog w0 3 #[.int .i64 room, .slice sr nr cr] H (fun v H' => v = .bool true ∧ H' = H) := by
  by_cases h : room < 0 ∨ 64 < room
  · exact fifoOrders_bad room h sr nr cr
  · obtain ⟨q, rfl⟩ := Int.eq_ofNat_of_zero_le (by omega : 0 ≤ room)
    exact fifoOrders q (by omega) ls sr nr cr hB hnr hmr hls
end Go.Proofs.Ytojghialjpianaa.M
