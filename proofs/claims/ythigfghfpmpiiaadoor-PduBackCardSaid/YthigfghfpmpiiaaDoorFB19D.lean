import Derived.Test.YthigfghfpmpiiaaDoorProg
import Derived.Test.YthigfghfpmpiiaaDoorFA19D
import Derived.Test.YthigfghfpmpiiaaDoorS26
set_option linter.unusedVariables false
set_option linter.unusedSimpArgs false
namespace Go.Proofs.YthigfghfpmpiiaaDoor.M
open Go Go.Sep Go.Proofs
set_option maxRecDepth 10000
set_option maxHeartbeats 20000000
theorem pduBack {w0 : World} {H : List Chunk} (ls : List Pd) (sr : Option Addr) (nr cr : Nat) (hB : ∀ H, Rd w0 H sr nr cr 2 (ls.flatMap PdC)) (hnr : nr = ls.length) (hmr : nr ≤ 4398046511000) (hls : ∀ H, ∀ y ∈ ls, PdOk w0 H y) (ba : Option Addr) (bn bc : Nat) (es : List Int) (hbR : ∀ H, Rd w0 H ba bn bc 1 (es.map (.int .u8))) (hbn : bn = es.length) (hbm : bn ≤ 140737488351232) (hBy : Byte es) : SC Tryd.prog w0 3 #[.slice sr nr cr, .slice ba bn bc] H (fun v H' => v = .bool true ∧ H' = H) := by
 refine SC.enter Tryd.func3 rfl (Nat.le_of_ble_eq_true rfl) ?_
 refine SW.seq_k fun K0 hK0 => ?_
 refine SW.region _ _ _ _ ?_
 refine RL.p T ?_
 refine RL.nil _ _ _ _ ?_
 refine hK0 _ _ _ ?_
 refine SW.seq_k fun K1 hK1 => ?_
 refine SW.seq_k fun K2 hK2 => ?_
 refine SW.region _ _ _ _ ?_
 refine RL.c fun8 (fun hs => alive) ?_
 rintro _ _ ⟨rfl, e⟩; obtain rfl := e.symm
 refine RL.p T ?_
 refine RL.nil _ _ _ _ ?_
 refine hK2 _ _ _ ?_
 refine SW.cs (fun hc0 => ?_) (fun hc0 => ?_)
 ·skip
  first
   | (exfalso; first | omega | contradiction | (clear hK2 K2; clear hK1 K1; clear hK0 K0; simp at *; done))
   | (
    refine SW.seq_k fun K3 hK3 => ?_
    refine SW.region _ _ _ _ ?_
    refine RL.p T ?_
    refine RL.nil _ _ _ _ ?_
    refine hK3 _ _ _ ?_
    refine SW.ret ?_
    refine retQ.rr (H) ?_
    clear hK3 K3 hK2 K2 hK1 K1 hK0 K0
    first
      | exact ⟨rfl, rfl⟩
      | exact ⟨boolE (decide_eq_true (by omega)), rfl⟩
      | exact ⟨boolE (decide_eq_true rfl), rfl⟩
    )
 ·skip
  first
   | (exfalso; first | omega | contradiction | (clear hK2 K2; clear hK1 K1; clear hK0 K0; simp at *; done))
   | (
    refine SW.skip ?_
    refine hK1 _ _ _ ?_
    refine SW.seq_k fun K4 hK4 => ?_
    refine SW.seq_k fun K5 hK5 => ?_
    refine SW.region _ _ _ _ ?_
    refine RL.p T ?_
    refine RL.c fun9 (fun hs => great ls sr nr cr (hB _) hnr hmr (fun k => pd_mem (hls _) k)) ?_
    rintro _ _ ⟨gt, rfl, e, hgt⟩; obtain rfl := e.symm
    refine RL.p T ?_
    refine RL.sp 22 (fun hs0 => ?_) (fun hs0 => ?_)
    ·skip
     first
      | (exfalso; first | omega | contradiction | (clear hK5 K5; clear hK4 K4; clear hK2 K2; clear hK1 K1; clear hK0 K0; simp at *; done))
      | (
       refine RL.guard_no rfl rfl rfl ?_
       refine RL.guard_no rfl rfl rfl ?_
       refine RL.guard_no rfl rfl rfl ?_
       refine RL.p T ?_
       refine RL.nil _ _ _ _ ?_
       refine hK5 _ _ _ ?_
       refine SW.cond_t rfl ?_
       refine SW.seq_k fun K6 hK6 => ?_
       refine SW.region _ _ _ _ ?_
       refine RL.p T ?_
       refine RL.nil _ _ _ _ ?_
       refine hK6 _ _ _ ?_
       refine SW.ret ?_
       refine retQ.rr (H) ?_
       clear hK6 K6 hK5 K5 hK4 K4 hK2 K2 hK1 K1 hK0 K0
       first
         | exact ⟨rfl, rfl⟩
         | exact ⟨boolE (decide_eq_true (by omega)), rfl⟩
         | exact ⟨boolE (decide_eq_true rfl), rfl⟩
       )
    ·skip
     first
      | (exfalso; first | omega | contradiction | (clear hK5 K5; clear hK4 K4; clear hK2 K2; clear hK1 K1; clear hK0 K0; simp at *; done))
      | (
       refine RL.p T ?_
       refine RL.p T ?_
       refine RL.p T ?_
       refine RL.p T ?_
       refine RL.nil _ _ _ _ ?_
       refine hK5 _ _ _ ?_
       refine SW.cs (fun hc1 => ?_) (fun hc1 => ?_)
       ·skip
        first
         | (exfalso; first | omega | contradiction | (clear hK5 K5; clear hK4 K4; clear hK2 K2; clear hK1 K1; clear hK0 K0; simp at *; done))
         | (
          refine SW.seq_k fun K7 hK7 => ?_
          refine SW.region _ _ _ _ ?_
          refine RL.p T ?_
          refine RL.nil _ _ _ _ ?_
          refine hK7 _ _ _ ?_
          refine SW.ret ?_
          refine retQ.rr (H) ?_
          clear hK7 K7 hK5 K5 hK4 K4 hK2 K2 hK1 K1 hK0 K0
          first
            | exact ⟨rfl, rfl⟩
            | exact ⟨boolE (decide_eq_true (by omega)), rfl⟩
            | exact ⟨boolE (decide_eq_true rfl), rfl⟩
          )
       ·skip
        first
         | (exfalso; first | omega | contradiction | (clear hK5 K5; clear hK4 K4; clear hK2 K2; clear hK1 K1; clear hK0 K0; simp at *; done))
         | (
          refine SW.skip ?_
          refine hK4 _ _ _ ?_
          refine SW.seq_k fun K8 hK8 => ?_
          refine SW.seq_k fun K9 hK9 => ?_
          refine SW.region _ _ _ _ ?_
          refine RL.p T ?_
          refine RL.c fun11 (fun hs => pto ls sr nr cr (hB _) hnr hmr (fun k => pd_mem (hls _) k)) ?_
          rintro _ _ ⟨aT, cT, rfl, e⟩; obtain rfl := e.symm
          refine RL.c fun10 (fun hs => pjoin ls aT nr cT (Rd.rowh hs (by repeat first | exact At.head _ _ | apply At.tail | apply At.app)) hnr hmr (fun k => pd_mem (hls _) k)) ?_
          rintro _ _ ⟨aJ, cJ, rfl, e⟩; obtain rfl := e.symm
          refine RL.p T ?_
          refine RL.p T ?_
          refine RL.p T ?_
          refine RL.p T ?_
          refine RL.p T ?_
          refine RL.nil _ _ _ _ ?_
          refine hK9 _ _ _ ?_
          refine SW.seq_k fun K10 hK10 => ?_
          refine SW.region _ _ _ _ ?_
          refine RL.p T ?_
          refine RL.p T ?_
          refine RL.nil _ _ _ _ ?_
          refine hK10 _ _ _ ?_
          refine SW.cs (fun hc2 => ?_) (fun hc2 => ?_)
          ·skip
           first
            | (exfalso; first | omega | contradiction | (clear hK10 K10; clear hK9 K9; clear hK8 K8; clear hK5 K5; clear hK4 K4; clear hK2 K2; clear hK1 K1; clear hK0 K0; simp at *; done))
            | (
             refine SW.seq_k fun K11 hK11 => ?_
             have hje : (joinV ls).2 = 0 := by first | assumption | omega
             obtain ⟨hl0, hu, hJ⟩ := join_ok hje
             have hjl : (joinV ls).1.length = usedM (mg ls) := by rw [hJ]; exact joinB_len _
             have hmod := usedM_mod (mg ls)
             refine SW.region _ _ _ _ ?_
             refine RL.p T ?_
             refine RL.c fun12 (fun hs => splitT ⟨aJ, (joinV ls).1.length, cJ, (joinV ls).1⟩ ⟨rfl, by show (joinV ls).1.length ≤ _; omega, by show Byte (joinV ls).1; rw [hJ]; exact joinB_byte (hls H) hu, Rd.rowh hs (by repeat first | exact At.head _ _ | apply At.tail | apply At.app)⟩ (mg ls) (by rw [hJ]) (by intro e; rw [mg_nil] at e; rw [e] at hl0; simp at hl0) (mok_all (hls H) hu) hu) ?_
             rintro _ _ ⟨D6, a7, c7, ps, rfl, e, hps, hpo⟩; obtain rfl := e.symm
             have hpn : ps.length = nr := by rw [← mg_len, hps, mg_len, hnr]
             refine RL.p T ?_
             refine RL.p T ?_
             refine RL.p T ?_
             refine RL.p T ?_
             refine RL.p T ?_
             refine RL.nil _ _ _ _ ?_
             refine hK11 _ _ _ ?_
             refine SW.seq_k fun K12 hK12 => ?_
             refine SW.region _ _ _ _ ?_
             refine RL.p T ?_
             refine RL.nil _ _ _ _ ?_
             refine hK12 _ _ _ ?_
             refine SW.seq_k fun K13 hK13 => ?_
             refine SW.seq_k fun K14 hK14 => ?_
             refine SW.region _ _ _ _ ?_
             refine RL.p T ?_
             refine RL.p T ?_
             refine RL.p T ?_
             refine RL.wk (.row a7 ps.length c7 38 2 (List.flatMap PdC ps) :: (D6 ++ H)) ?_
             refine RL.nil _ _ _ _ ?_
             refine hK14 _ _ _ ?_
             refine SW.block ?_
             refine SW.loopM (fun frB mm fr ds HH => ∃ (k : Nat) , mm = nr - k ∧ (k ≤ nr ∧ (True)) ∧ FrIs [9, 11, 12, 13, 42, 43, 44, 45, 46, 47, 48, 49, 50, 51, 52, 53, 54] frB fr [(42, .int .i64 k), (9, .int .i64 ((usedM (mg (ls.take k)) : Nat) : Int))] ∧ ds = [] ∧ HH = (.row a7 ps.length c7 38 2 (List.flatMap PdC ps) :: (D6 ++ H))) (n := nr - 0) ?_ ?_
             ·exact ⟨0, rfl, ⟨Nat.zero_le _, trivial⟩, (.cons rfl (.consI rfl (by first | omega | rfl) (.nil (by repeat first | with_reducible exact Mx.refl | with_reducible exact Mx.mix | refine Mx.put rfl ?_ | refine Mx.upd rfl ?_ | refine Mx.updl rfl ?_ | refine Mx.fin rfl ?_ | refine Mx.inner rfl ?_ | refine Mx.none ?_ | exact Mx.refl | exact Mx.mix)))), rfl, rfl⟩
             ·rintro mm fr ds HH ⟨k, rfl, ⟨hk, _⟩, hFr, rfl, eHH⟩
              obtain rfl := eHH.symm
              obtain ⟨frU, rfl⟩ := hFr.eq
              clear hFr
              have hst : k < ls.length → _ := fun h => usedM_take h
              have hwk : k < ls.length → _ := fun h => wk_getD h
              have hlt := usedM_take_le ls k
              refine SW.seq_k fun K15 hK15 => ?_
              refine SW.region _ _ _ _ ?_
              refine RL.p T ?_
              refine RL.nil _ _ _ _ ?_
              refine hK15 _ _ _ ?_
              refine SW.seq_k fun K16 hK16 => ?_
              refine SW.cs (fun hc3 => ?_) (fun hc3 => ?_)
              ·skip
               first
                | (exfalso; first | omega | contradiction | (clear hK16 K16; clear hK15 K15; clear hK14 K14; clear hK13 K13; clear hK12 K12; clear hK11 K11; clear hK10 K10; clear hK9 K9; clear hK8 K8; clear hK5 K5; clear hK4 K4; clear hK2 K2; clear hK1 K1; clear hK0 K0; simp at *; done))
                | (
                 refine SW.skip ?_
                 refine hK16 _ _ _ ?_
                 refine SW.seq_k fun K17 hK17 => ?_
                 refine SW.block ?_
                 refine SW.seq_k fun K18 hK18 => ?_
                 refine SW.region _ _ _ _ ?_
                 refine RL.ix T ?_ (hR := fun hs => (hB _))
                 refine RL.leN T ?_ (hR := fun hs => (hB _)) (hvs := (by exact (rfl : _ = [_, _])))
                 refine RL.s ?_
                 refine NV.alloc T rfl rfl rfl (by exact (rfl : _ = [_, _])) ?_
                 intro b11_0
                 refine RL.s ?_
                 refine NV.sN T rfl rfl rfl (by exact (rfl : _ = [_, _])) (by exact (rfl : _ = [_, _])) ?_
                 refine RL.nil _ _ _ _ ?_
                 refine hK18 _ _ _ ?_
                 refine SW.seq_k fun K19 hK19 => ?_
                 refine SW.region _ _ _ _ ?_
                 refine RL.q (QV.vN T rfl rfl rfl rfl rfl (by exact (rfl : _ = [_, _]))) ?_
                 refine RL.c fun13 (fun hs => psizeO (ls.getD k default) (pd_mem (hls _) k) (by omega)) ?_
                 rintro _ _ ⟨rfl, e⟩; obtain rfl := e.symm
                 refine RL.p T ?_
                 refine RL.p T ?_
                 refine RL.p T ?_
                 refine RL.p T ?_
                 refine RL.p T ?_
                 refine RL.nil _ _ _ _ ?_
                 refine hK19 _ _ _ ?_
                 refine SW.region _ _ _ _ ?_
                 refine RL.p T ?_
                 refine RL.p T ?_
                 first | refine RL.ar ?_ | refine RL.p T ?_
                 refine RL.p T ?_
                 refine RL.nil _ _ _ _ ?_
                 refine hK17 _ _ _ ?_
                 refine SW.region _ _ _ _ ?_
                 first | refine RL.ar ?_ | refine RL.p T ?_
                 refine RL.p T ?_
                 refine RL.drop ?_
                 refine RL.nil _ _ _ _ ?_
                 exact ⟨nr - (k + 1), (by omega), k + 1, (by rfl), ⟨by omega, trivial⟩, (.cons rfl (.consI rfl (by first | omega | rfl) (.nil (by repeat first | with_reducible exact Mx.refl | with_reducible exact Mx.mix | refine Mx.put rfl ?_ | refine Mx.upd rfl ?_ | refine Mx.updl rfl ?_ | refine Mx.fin rfl ?_ | refine Mx.inner rfl ?_ | refine Mx.none ?_ | exact Mx.refl | exact Mx.mix)))), rfl, rfl⟩
                 )
              ·skip
               first
                | (exfalso; first | omega | contradiction | (clear hK16 K16; clear hK15 K15; clear hK14 K14; clear hK13 K13; clear hK12 K12; clear hK11 K11; clear hK10 K10; clear hK9 K9; clear hK8 K8; clear hK5 K5; clear hK4 K4; clear hK2 K2; clear hK1 K1; clear hK0 K0; simp at *; done))
                | (
                 refine SW.exit ?_
                 refine hK13 _ _ _ ?_
                 refine SW.seq_k fun K20 hK20 => ?_
                 rw [List.take_of_length_le (by omega : ls.length ≤ k)]
                 refine SW.region _ _ _ _ ?_
                 refine RL.p T ?_
                 refine RL.p T ?_
                 refine RL.p T ?_
                 refine RL.sp 57 (fun hs1 => ?_) (fun hs1 => ?_)
                 ·skip
                  first
                   | (exfalso; first | omega | contradiction | (clear hK20 K20; clear hK16 K16; clear hK15 K15; clear hK14 K14; clear hK13 K13; clear hK12 K12; clear hK11 K11; clear hK10 K10; clear hK9 K9; clear hK8 K8; clear hK5 K5; clear hK4 K4; clear hK2 K2; clear hK1 K1; clear hK0 K0; simp at *; done))
                   | (
                    refine RL.guard_no rfl rfl rfl ?_
                    refine RL.guard_no rfl rfl rfl ?_
                    refine RL.guard_no rfl rfl rfl ?_
                    refine RL.guard_no rfl rfl rfl ?_
                    refine RL.guard_no rfl rfl rfl ?_
                    refine RL.p T ?_
                    refine RL.p T ?_
                    refine RL.guard_no rfl rfl rfl ?_
                    refine RL.guard_no rfl rfl rfl ?_
                    refine RL.guard_no rfl rfl rfl ?_
                    refine RL.guard_no rfl rfl rfl ?_
                    refine RL.p T ?_
                    refine RL.p T ?_
                    refine RL.guard_no rfl rfl rfl ?_
                    refine RL.guard_no rfl rfl rfl ?_
                    refine RL.guard_no rfl rfl rfl ?_
                    refine RL.guard_no rfl rfl rfl ?_
                    refine RL.p T ?_
                    refine RL.p T ?_
                    refine RL.guard_no rfl rfl rfl ?_
                    refine RL.guard_no rfl rfl rfl ?_
                    refine RL.guard_no rfl rfl rfl ?_
                    refine RL.p T ?_
                    refine RL.nil _ _ _ _ ?_
                    refine hK20 _ _ _ ?_
                    refine SW.cond_t rfl ?_
                    refine SW.seq_k fun K21 hK21 => ?_
                    refine SW.region _ _ _ _ ?_
                    refine RL.p T ?_
                    refine RL.nil _ _ _ _ ?_
                    refine hK21 _ _ _ ?_
                    refine SW.ret ?_
                    refine retQ.rr (H) ?_
                    clear hK21 K21 hK20 K20 hK16 K16 hK15 K15 hK14 K14 hK13 K13 hK12 K12 hK11 K11 hK10 K10 hK9 K9 hK8 K8 hK5 K5 hK4 K4 hK2 K2 hK1 K1 hK0 K0
                    first
                      | exact ⟨rfl, rfl⟩
                      | exact ⟨boolE (decide_eq_true (by omega)), rfl⟩
                      | exact ⟨boolE (decide_eq_true rfl), rfl⟩
                    )
                 ·skip
                  first
                   | (exfalso; first | omega | contradiction | (clear hK20 K20; clear hK16 K16; clear hK15 K15; clear hK14 K14; clear hK13 K13; clear hK12 K12; clear hK11 K11; clear hK10 K10; clear hK9 K9; clear hK8 K8; clear hK5 K5; clear hK4 K4; clear hK2 K2; clear hK1 K1; clear hK0 K0; simp at *; done))
                   | (
                    refine RL.p T ?_
                    refine RL.c fun15 (fun hs => pfrom ps a7 ps.length c7 (Rd.rowh hs (by repeat first | exact At.head _ _ | apply At.tail | apply At.app)) rfl (by omega) (fun k => (pd_mem hpo k).sub SubL.by)) ?_
                    rintro _ _ ⟨a8, c8, rfl, e⟩; obtain rfl := e.symm
                    refine RL.p T ?_
                    refine RL.c fun14 (fun hs => samePT ps a8 ps.length c8 (Rd.rowh hs (by repeat first | exact At.head _ _ | apply At.tail | apply At.app)) rfl (fun y hy => (hpo y hy).sub SubL.by) ls sr nr cr (hB _) hnr (hls _) (by omega) hps) ?_
                    rintro _ _ ⟨rfl, e⟩; obtain rfl := e.symm
                    refine RL.p T ?_
                    refine RL.p T ?_
                    refine RL.p T ?_
                    refine RL.sp 64 (fun hs2 => ?_) (fun hs2 => ?_)
                    ·skip
                     first
                      | (exfalso; first | omega | contradiction | (clear hK20 K20; clear hK16 K16; clear hK15 K15; clear hK14 K14; clear hK13 K13; clear hK12 K12; clear hK11 K11; clear hK10 K10; clear hK9 K9; clear hK8 K8; clear hK5 K5; clear hK4 K4; clear hK2 K2; clear hK1 K1; clear hK0 K0; simp at *; done))
                      | (
                       refine RL.guard_no rfl rfl rfl ?_
                       refine RL.guard_no rfl rfl rfl ?_
                       refine RL.guard_no rfl rfl rfl ?_
                       refine RL.guard_no rfl rfl rfl ?_
                       refine RL.p T ?_
                       refine RL.p T ?_
                       refine RL.guard_no rfl rfl rfl ?_
                       refine RL.guard_no rfl rfl rfl ?_
                       refine RL.guard_no rfl rfl rfl ?_
                       refine RL.guard_no rfl rfl rfl ?_
                       refine RL.p T ?_
                       refine RL.p T ?_
                       refine RL.guard_no rfl rfl rfl ?_
                       refine RL.guard_no rfl rfl rfl ?_
                       refine RL.guard_no rfl rfl rfl ?_
                       refine RL.p T ?_
                       refine RL.nil _ _ _ _ ?_
                       refine hK20 _ _ _ ?_
                       refine SW.cond_t rfl ?_
                       refine SW.seq_k fun K22 hK22 => ?_
                       refine SW.region _ _ _ _ ?_
                       refine RL.p T ?_
                       refine RL.nil _ _ _ _ ?_
                       refine hK22 _ _ _ ?_
                       refine SW.ret ?_
                       refine retQ.rr (H) ?_
                       clear hK22 K22 hK20 K20 hK16 K16 hK15 K15 hK14 K14 hK13 K13 hK12 K12 hK11 K11 hK10 K10 hK9 K9 hK8 K8 hK5 K5 hK4 K4 hK2 K2 hK1 K1 hK0 K0
                       first
                         | exact ⟨rfl, rfl⟩
                         | exact ⟨boolE (decide_eq_true (by omega)), rfl⟩
                         | exact ⟨boolE (decide_eq_true rfl), rfl⟩
                       )
                    ·skip
                     first
                      | (exfalso; first | omega | contradiction | (clear hK20 K20; clear hK16 K16; clear hK15 K15; clear hK14 K14; clear hK13 K13; clear hK12 K12; clear hK11 K11; clear hK10 K10; clear hK9 K9; clear hK8 K8; clear hK5 K5; clear hK4 K4; clear hK2 K2; clear hK1 K1; clear hK0 K0; simp at *; done))
                      | (
                       refine RL.p T ?_
                       refine RL.p T ?_
                       refine RL.p T ?_
                       refine RL.p T ?_
                       refine RL.p T ?_
                       refine RL.p T ?_
                       refine RL.sp 70 (fun hs3 => ?_) (fun hs3 => ?_)
                       ·skip
                        first
                         | (exfalso; first | omega | contradiction | (clear hK20 K20; clear hK16 K16; clear hK15 K15; clear hK14 K14; clear hK13 K13; clear hK12 K12; clear hK11 K11; clear hK10 K10; clear hK9 K9; clear hK8 K8; clear hK5 K5; clear hK4 K4; clear hK2 K2; clear hK1 K1; clear hK0 K0; simp at *; done))
                         | (
                          refine RL.guard_no rfl rfl rfl ?_
                          refine RL.guard_no rfl rfl rfl ?_
                          refine RL.guard_no rfl rfl rfl ?_
                          refine RL.guard_no rfl rfl rfl ?_
                          refine RL.p T ?_
                          refine RL.p T ?_
                          refine RL.guard_no rfl rfl rfl ?_
                          refine RL.guard_no rfl rfl rfl ?_
                          refine RL.guard_no rfl rfl rfl ?_
                          refine RL.p T ?_
                          refine RL.nil _ _ _ _ ?_
                          refine hK20 _ _ _ ?_
                          refine SW.cond_t rfl ?_
                          refine SW.seq_k fun K23 hK23 => ?_
                          refine SW.region _ _ _ _ ?_
                          refine RL.p T ?_
                          refine RL.nil _ _ _ _ ?_
                          refine hK23 _ _ _ ?_
                          refine SW.ret ?_
                          refine retQ.rr (H) ?_
                          clear hK23 K23 hK20 K20 hK16 K16 hK15 K15 hK14 K14 hK13 K13 hK12 K12 hK11 K11 hK10 K10 hK9 K9 hK8 K8 hK5 K5 hK4 K4 hK2 K2 hK1 K1 hK0 K0
                          first
                            | exact ⟨rfl, rfl⟩
                            | exact ⟨boolE (decide_eq_true (by omega)), rfl⟩
                            | exact ⟨boolE (decide_eq_true rfl), rfl⟩
                          )
                       ·skip
                        first
                         | (exfalso; first | omega | contradiction | (clear hK20 K20; clear hK16 K16; clear hK15 K15; clear hK14 K14; clear hK13 K13; clear hK12 K12; clear hK11 K11; clear hK10 K10; clear hK9 K9; clear hK8 K8; clear hK5 K5; clear hK4 K4; clear hK2 K2; clear hK1 K1; clear hK0 K0; simp at *; done))
                         | (
                          refine RL.p T ?_
                          refine RL.p T ?_
                          first | refine RL.q (QV.remP rfl rfl rfl (by omega) (by omega)) ?_ | refine RL.q (QV.rem rfl rfl rfl (by omega) rfl) ?_
                          refine RL.p T ?_
                          refine RL.p T ?_
                          refine RL.p T ?_
                          refine RL.sp 76 (fun hs4 => ?_) (fun hs4 => ?_)
                          ·skip
                           first
                            | (exfalso; first | omega | contradiction | (clear hK20 K20; clear hK16 K16; clear hK15 K15; clear hK14 K14; clear hK13 K13; clear hK12 K12; clear hK11 K11; clear hK10 K10; clear hK9 K9; clear hK8 K8; clear hK5 K5; clear hK4 K4; clear hK2 K2; clear hK1 K1; clear hK0 K0; simp at *; done))
                            | (
                             refine RL.guard_no rfl rfl rfl ?_
                             refine RL.guard_no rfl rfl rfl ?_
                             refine RL.guard_no rfl rfl rfl ?_
                             refine RL.p T ?_
                             refine RL.nil _ _ _ _ ?_
                             refine hK20 _ _ _ ?_
                             refine SW.cond_t rfl ?_
                             refine SW.seq_k fun K24 hK24 => ?_
                             refine SW.region _ _ _ _ ?_
                             refine RL.p T ?_
                             refine RL.nil _ _ _ _ ?_
                             refine hK24 _ _ _ ?_
                             refine SW.ret ?_
                             refine retQ.rr (H) ?_
                             clear hK24 K24 hK20 K20 hK16 K16 hK15 K15 hK14 K14 hK13 K13 hK12 K12 hK11 K11 hK10 K10 hK9 K9 hK8 K8 hK5 K5 hK4 K4 hK2 K2 hK1 K1 hK0 K0
                             first
                               | exact ⟨rfl, rfl⟩
                               | exact ⟨boolE (decide_eq_true (by omega)), rfl⟩
                               | exact ⟨boolE (decide_eq_true rfl), rfl⟩
                             )
                          ·skip
                           first
                            | (exfalso; first | omega | contradiction | (clear hK20 K20; clear hK16 K16; clear hK15 K15; clear hK14 K14; clear hK13 K13; clear hK12 K12; clear hK11 K11; clear hK10 K10; clear hK9 K9; clear hK8 K8; clear hK5 K5; clear hK4 K4; clear hK2 K2; clear hK1 K1; clear hK0 K0; simp at *; done))
                            | (
                             refine RL.p T ?_
                             refine RL.p T ?_
                             refine RL.p T ?_
                             refine RL.p T ?_
                             refine RL.nil _ _ _ _ ?_
                             refine hK20 _ _ _ ?_
                             refine SW.cs (fun hc4 => ?_) (fun hc4 => ?_)
                             ·skip
                              first
                               | (exfalso; first | omega | contradiction | (clear hK20 K20; clear hK16 K16; clear hK15 K15; clear hK14 K14; clear hK13 K13; clear hK12 K12; clear hK11 K11; clear hK10 K10; clear hK9 K9; clear hK8 K8; clear hK5 K5; clear hK4 K4; clear hK2 K2; clear hK1 K1; clear hK0 K0; simp at *; done))
                               | (
                                refine SW.seq_k fun K25 hK25 => ?_
                                refine SW.region _ _ _ _ ?_
                                refine RL.p T ?_
                                refine RL.nil _ _ _ _ ?_
                                refine hK25 _ _ _ ?_
                                refine SW.ret ?_
                                refine retQ.rr (H) ?_
                                clear hK25 K25 hK20 K20 hK16 K16 hK15 K15 hK14 K14 hK13 K13 hK12 K12 hK11 K11 hK10 K10 hK9 K9 hK8 K8 hK5 K5 hK4 K4 hK2 K2 hK1 K1 hK0 K0
                                first
                                  | exact ⟨rfl, rfl⟩
                                  | exact ⟨boolE (decide_eq_true (by omega)), rfl⟩
                                  | exact ⟨boolE (decide_eq_true rfl), rfl⟩
                                )
                             ·skip
                              first
                               | (exfalso; first | omega | contradiction | (clear hK20 K20; clear hK16 K16; clear hK15 K15; clear hK14 K14; clear hK13 K13; clear hK12 K12; clear hK11 K11; clear hK10 K10; clear hK9 K9; clear hK8 K8; clear hK5 K5; clear hK4 K4; clear hK2 K2; clear hK1 K1; clear hK0 K0; simp at *; done))
                               | (
                                refine SW.skip ?_
                                refine hK8 _ _ _ ?_
                                refine SW.seq_k fun K26 hK26 => ?_
                                refine SW.region _ _ _ _ ?_
                                refine RL.p T ?_
                                refine RL.c fun12 (fun hs => split ba bn bc es (hbR _) hbn hbm hBy) ?_
                                rintro _ _ ⟨D5, a5, c5, qs, rfl, e, hqs, hqo⟩; obtain rfl := e.symm
                                refine RL.p T ?_
                                refine RL.p T ?_
                                refine RL.p T ?_
                                refine RL.p T ?_
                                refine RL.p T ?_
                                refine RL.nil _ _ _ _ ?_
                                refine hK26 _ _ _ ?_
                                refine SW.seq_k fun K27 hK27 => ?_
                                refine SW.seq_k fun K28 hK28 => ?_
                                refine SW.region _ _ _ _ ?_
                                refine RL.p T ?_
                                refine RL.p T ?_
                                refine RL.nil _ _ _ _ ?_
                                refine hK28 _ _ _ ?_
                                refine SW.cs (fun hc5 => ?_) (fun hc5 => ?_)
                                ·skip
                                 first
                                  | (exfalso; first | omega | contradiction | (clear hK28 K28; clear hK27 K27; clear hK26 K26; clear hK20 K20; clear hK16 K16; clear hK15 K15; clear hK14 K14; clear hK13 K13; clear hK12 K12; clear hK11 K11; clear hK10 K10; clear hK9 K9; clear hK8 K8; clear hK5 K5; clear hK4 K4; clear hK2 K2; clear hK1 K1; clear hK0 K0; simp at *; done))
                                  | (
                                   refine SW.seq_k fun K29 hK29 => ?_
                                   have hz : qs.length = 0 := by rw [← mg_len, hqs, split_err (by first | assumption | omega)]; rfl
                                   refine SW.region _ _ _ _ ?_
                                   refine RL.p T ?_
                                   refine RL.p T ?_
                                   refine RL.p T ?_
                                   refine RL.p T ?_
                                   refine RL.nil _ _ _ _ ?_
                                   refine hK29 _ _ _ ?_
                                   refine SW.ret ?_
                                   refine retQ.rr (H) ?_
                                   clear hK29 K29 hK28 K28 hK27 K27 hK26 K26 hK20 K20 hK16 K16 hK15 K15 hK14 K14 hK13 K13 hK12 K12 hK11 K11 hK10 K10 hK9 K9 hK8 K8 hK5 K5 hK4 K4 hK2 K2 hK1 K1 hK0 K0
                                   first
                                     | exact ⟨rfl, rfl⟩
                                     | exact ⟨boolE (decide_eq_true (by omega)), rfl⟩
                                     | exact ⟨boolE (decide_eq_true rfl), rfl⟩
                                   )
                                ·skip
                                 first
                                  | (exfalso; first | omega | contradiction | (clear hK28 K28; clear hK27 K27; clear hK26 K26; clear hK20 K20; clear hK16 K16; clear hK15 K15; clear hK14 K14; clear hK13 K13; clear hK12 K12; clear hK11 K11; clear hK10 K10; clear hK9 K9; clear hK8 K8; clear hK5 K5; clear hK4 K4; clear hK2 K2; clear hK1 K1; clear hK0 K0; simp at *; done))
                                  | (
                                   refine SW.skip ?_
                                   refine hK27 _ _ _ ?_
                                   refine SW.seq_k fun K30 hK30 => ?_
                                   have hse : (splitV es).2 = 0 := by omega
                                   obtain ⟨hj1, hj2, hj3, hj4⟩ := split_joined hBy hse
                                   rw [← hqs] at hj1 hj2 hj3
                                   have hq0 : 0 < qs.length := List.length_pos_iff.2 (fun e => hj2 (by rw [e]; rfl))
                                   have hqn := usedM_len (mg qs)
                                   rw [mg_len] at hqn
                                   have hJ2 := joinV_mg hq0 hj3
                                   refine SW.region _ _ _ _ ?_
                                   refine RL.p T ?_
                                   refine RL.c fun10 (fun hs => pjoin qs a5 qs.length c5 (Rd.rowh hs (by repeat first | exact At.head _ _ | apply At.tail | apply At.app)) rfl (by omega) (fun k => (pd_mem hqo k).sub SubL.by)) ?_
                                   rintro _ _ ⟨a6, c6, rfl, e⟩; obtain rfl := e.symm
                                   rw [hJ2, hj1]
                                   refine RL.p T ?_
                                   refine RL.p T ?_
                                   refine RL.p T ?_
                                   refine RL.p T ?_
                                   refine RL.p T ?_
                                   refine RL.nil _ _ _ _ ?_
                                   refine hK30 _ _ _ ?_
                                   refine SW.seq_k fun K31 hK31 => ?_
                                   refine SW.region _ _ _ _ ?_
                                   refine RL.p T ?_
                                   refine RL.p T ?_
                                   refine RL.p T ?_
                                   refine RL.sp 98 (fun hs5 => ?_) (fun hs5 => ?_)
                                   ·skip
                                    first
                                     | (exfalso; first | omega | contradiction | (clear hK31 K31; clear hK30 K30; clear hK28 K28; clear hK27 K27; clear hK26 K26; clear hK20 K20; clear hK16 K16; clear hK15 K15; clear hK14 K14; clear hK13 K13; clear hK12 K12; clear hK11 K11; clear hK10 K10; clear hK9 K9; clear hK8 K8; clear hK5 K5; clear hK4 K4; clear hK2 K2; clear hK1 K1; clear hK0 K0; simp at *; done))
                                     | (
                                      refine RL.p T ?_
                                      refine RL.p T ?_
                                      refine RL.c fun16 (fun hs => same a6 ba _ c6 bn bc es es (Rd.rowh hs (by repeat first | exact At.head _ _ | apply At.tail | apply At.app)) (hbR _) rfl hbn (by omega) hbm) ?_
                                      rintro _ _ ⟨rfl, e⟩; obtain rfl := e.symm
                                      refine RL.p T ?_
                                      refine RL.p T ?_
                                      refine RL.nil _ _ _ _ ?_
                                      refine hK31 _ _ _ ?_
                                      refine SW.ret ?_
                                      refine retQ.rr (H) ?_
                                      clear hK31 K31 hK30 K30 hK28 K28 hK27 K27 hK26 K26 hK20 K20 hK16 K16 hK15 K15 hK14 K14 hK13 K13 hK12 K12 hK11 K11 hK10 K10 hK9 K9 hK8 K8 hK5 K5 hK4 K4 hK2 K2 hK1 K1 hK0 K0
                                      first
                                        | exact ⟨rfl, rfl⟩
                                        | exact ⟨boolE (decide_eq_true (by omega)), rfl⟩
                                        | exact ⟨boolE (decide_eq_true rfl), rfl⟩
                                      )
                                   ·skip
                                    first
                                     | (exfalso; first | omega | contradiction | (clear hK31 K31; clear hK30 K30; clear hK28 K28; clear hK27 K27; clear hK26 K26; clear hK20 K20; clear hK16 K16; clear hK15 K15; clear hK14 K14; clear hK13 K13; clear hK12 K12; clear hK11 K11; clear hK10 K10; clear hK9 K9; clear hK8 K8; clear hK5 K5; clear hK4 K4; clear hK2 K2; clear hK1 K1; clear hK0 K0; simp at *; done))
                                     | (
                                      refine RL.guard_no rfl rfl rfl ?_
                                      refine RL.guard_no rfl rfl rfl ?_
                                      refine RL.guard_no rfl rfl rfl ?_
                                      refine RL.p T ?_
                                      refine RL.p T ?_
                                      refine RL.nil _ _ _ _ ?_
                                      refine hK31 _ _ _ ?_
                                      refine SW.ret ?_
                                      refine retQ.rr (H) ?_
                                      clear hK31 K31 hK30 K30 hK28 K28 hK27 K27 hK26 K26 hK20 K20 hK16 K16 hK15 K15 hK14 K14 hK13 K13 hK12 K12 hK11 K11 hK10 K10 hK9 K9 hK8 K8 hK5 K5 hK4 K4 hK2 K2 hK1 K1 hK0 K0
                                      first
                                        | exact ⟨rfl, rfl⟩
                                        | exact ⟨boolE (decide_eq_true (by omega)), rfl⟩
                                        | exact ⟨boolE (decide_eq_true rfl), rfl⟩
                                      )
                                   )
                                )
                             )
                          )
                       )
                    )
                 )
             )
          ·skip
           first
            | (exfalso; first | omega | contradiction | (clear hK10 K10; clear hK9 K9; clear hK8 K8; clear hK5 K5; clear hK4 K4; clear hK2 K2; clear hK1 K1; clear hK0 K0; simp at *; done))
            | (
             refine SW.skip ?_
             refine hK8 _ _ _ ?_
             refine SW.seq_k fun K32 hK32 => ?_
             refine SW.region _ _ _ _ ?_
             refine RL.p T ?_
             refine RL.c fun12 (fun hs => split ba bn bc es (hbR _) hbn hbm hBy) ?_
             rintro _ _ ⟨D5, a5, c5, qs, rfl, e, hqs, hqo⟩; obtain rfl := e.symm
             refine RL.p T ?_
             refine RL.p T ?_
             refine RL.p T ?_
             refine RL.p T ?_
             refine RL.p T ?_
             refine RL.nil _ _ _ _ ?_
             refine hK32 _ _ _ ?_
             refine SW.seq_k fun K33 hK33 => ?_
             refine SW.seq_k fun K34 hK34 => ?_
             refine SW.region _ _ _ _ ?_
             refine RL.p T ?_
             refine RL.p T ?_
             refine RL.nil _ _ _ _ ?_
             refine hK34 _ _ _ ?_
             refine SW.cs (fun hc6 => ?_) (fun hc6 => ?_)
             ·skip
              first
               | (exfalso; first | omega | contradiction | (clear hK34 K34; clear hK33 K33; clear hK32 K32; clear hK10 K10; clear hK9 K9; clear hK8 K8; clear hK5 K5; clear hK4 K4; clear hK2 K2; clear hK1 K1; clear hK0 K0; simp at *; done))
               | (
                refine SW.seq_k fun K35 hK35 => ?_
                have hz : qs.length = 0 := by rw [← mg_len, hqs, split_err (by first | assumption | omega)]; rfl
                refine SW.region _ _ _ _ ?_
                refine RL.p T ?_
                refine RL.p T ?_
                refine RL.p T ?_
                refine RL.p T ?_
                refine RL.nil _ _ _ _ ?_
                refine hK35 _ _ _ ?_
                refine SW.ret ?_
                refine retQ.rr (H) ?_
                clear hK35 K35 hK34 K34 hK33 K33 hK32 K32 hK10 K10 hK9 K9 hK8 K8 hK5 K5 hK4 K4 hK2 K2 hK1 K1 hK0 K0
                first
                  | exact ⟨rfl, rfl⟩
                  | exact ⟨boolE (decide_eq_true (by omega)), rfl⟩
                  | exact ⟨boolE (decide_eq_true rfl), rfl⟩
                )
             ·skip
              first
               | (exfalso; first | omega | contradiction | (clear hK34 K34; clear hK33 K33; clear hK32 K32; clear hK10 K10; clear hK9 K9; clear hK8 K8; clear hK5 K5; clear hK4 K4; clear hK2 K2; clear hK1 K1; clear hK0 K0; simp at *; done))
               | (
                refine SW.skip ?_
                refine hK33 _ _ _ ?_
                refine SW.seq_k fun K36 hK36 => ?_
                have hse : (splitV es).2 = 0 := by omega
                obtain ⟨hj1, hj2, hj3, hj4⟩ := split_joined hBy hse
                rw [← hqs] at hj1 hj2 hj3
                have hq0 : 0 < qs.length := List.length_pos_iff.2 (fun e => hj2 (by rw [e]; rfl))
                have hqn := usedM_len (mg qs)
                rw [mg_len] at hqn
                have hJ2 := joinV_mg hq0 hj3
                refine SW.region _ _ _ _ ?_
                refine RL.p T ?_
                refine RL.c fun10 (fun hs => pjoin qs a5 qs.length c5 (Rd.rowh hs (by repeat first | exact At.head _ _ | apply At.tail | apply At.app)) rfl (by omega) (fun k => (pd_mem hqo k).sub SubL.by)) ?_
                rintro _ _ ⟨a6, c6, rfl, e⟩; obtain rfl := e.symm
                rw [hJ2, hj1]
                refine RL.p T ?_
                refine RL.p T ?_
                refine RL.p T ?_
                refine RL.p T ?_
                refine RL.p T ?_
                refine RL.nil _ _ _ _ ?_
                refine hK36 _ _ _ ?_
                refine SW.seq_k fun K37 hK37 => ?_
                refine SW.region _ _ _ _ ?_
                refine RL.p T ?_
                refine RL.p T ?_
                refine RL.p T ?_
                refine RL.sp 98 (fun hs6 => ?_) (fun hs6 => ?_)
                ·skip
                 first
                  | (exfalso; first | omega | contradiction | (clear hK37 K37; clear hK36 K36; clear hK34 K34; clear hK33 K33; clear hK32 K32; clear hK10 K10; clear hK9 K9; clear hK8 K8; clear hK5 K5; clear hK4 K4; clear hK2 K2; clear hK1 K1; clear hK0 K0; simp at *; done))
                  | (
                   refine RL.p T ?_
                   refine RL.p T ?_
                   refine RL.c fun16 (fun hs => same a6 ba _ c6 bn bc es es (Rd.rowh hs (by repeat first | exact At.head _ _ | apply At.tail | apply At.app)) (hbR _) rfl hbn (by omega) hbm) ?_
                   rintro _ _ ⟨rfl, e⟩; obtain rfl := e.symm
                   refine RL.p T ?_
                   refine RL.p T ?_
                   refine RL.nil _ _ _ _ ?_
                   refine hK37 _ _ _ ?_
                   refine SW.ret ?_
                   refine retQ.rr (H) ?_
                   clear hK37 K37 hK36 K36 hK34 K34 hK33 K33 hK32 K32 hK10 K10 hK9 K9 hK8 K8 hK5 K5 hK4 K4 hK2 K2 hK1 K1 hK0 K0
                   first
                     | exact ⟨rfl, rfl⟩
                     | exact ⟨boolE (decide_eq_true (by omega)), rfl⟩
                     | exact ⟨boolE (decide_eq_true rfl), rfl⟩
                   )
                ·skip
                 first
                  | (exfalso; first | omega | contradiction | (clear hK37 K37; clear hK36 K36; clear hK34 K34; clear hK33 K33; clear hK32 K32; clear hK10 K10; clear hK9 K9; clear hK8 K8; clear hK5 K5; clear hK4 K4; clear hK2 K2; clear hK1 K1; clear hK0 K0; simp at *; done))
                  | (
                   refine RL.guard_no rfl rfl rfl ?_
                   refine RL.guard_no rfl rfl rfl ?_
                   refine RL.guard_no rfl rfl rfl ?_
                   refine RL.p T ?_
                   refine RL.p T ?_
                   refine RL.nil _ _ _ _ ?_
                   refine hK37 _ _ _ ?_
                   refine SW.ret ?_
                   refine retQ.rr (H) ?_
                   clear hK37 K37 hK36 K36 hK34 K34 hK33 K33 hK32 K32 hK10 K10 hK9 K9 hK8 K8 hK5 K5 hK4 K4 hK2 K2 hK1 K1 hK0 K0
                   first
                     | exact ⟨rfl, rfl⟩
                     | exact ⟨boolE (decide_eq_true (by omega)), rfl⟩
                     | exact ⟨boolE (decide_eq_true rfl), rfl⟩
                   )
                )
             )
          )
       )
    )
end Go.Proofs.YthigfghfpmpiiaaDoor.M
