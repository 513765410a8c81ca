import Derived.Test.YthigfghfpmpiiaaDoorProg
import Derived.Test.YthigfghfpmpiiaaDoorFH19D
import Derived.Test.YthigfghfpmpiiaaDoorS26
import Derived.Test.YthigfghfpmpiiaaDoorP19g
set_option linter.unusedVariables false
set_option linter.unusedSimpArgs false
namespace Go.Proofs.YthigfghfpmpiiaaDoor.M
open Go Go.Sep Go.Proofs
set_option maxRecDepth 10000
set_option maxHeartbeats 20000000
theorem sl_get2 (os : List Sl) (j : Nat) (h : j < os.length) : (os.flatMap SlC)[j]? = some (SlV (os.getD j default)) := by
  rw [sl_map, List.getElem?_map, List.getD_eq_getElem?_getD, List.getElem?_eq_getElem h]; rfl
theorem pduSplits {w0 : World} {H : List Chunk} (ba : Option Addr) (n bc : Nat) (es : List Int) (hbR : ∀ H, Rd w0 H ba n bc 1 (es.map (.int .u8))) (hbn : n = es.length) (hbm : n ≤ 140737488351232) (hBy : Byte es) (id : Int) : SC Tryd.prog w0 6 #[.slice ba n bc, .int .u32 id] H (fun v H' => v = .bool true ∧ H' = H) := by
 refine SC.enter Tryd.func6 rfl (Nat.le_of_ble_eq_true rfl) ?_
 refine SW.seq_k fun K0 hK0 => ?_
 refine SW.region _ _ _ _ ?_
 refine RL.p T ?_
 refine RL.nil _ _ _ _ ?_
 refine hK0 _ _ _ ?_
 refine SW.seq_k fun K1 hK1 => ?_
 refine SW.seq_k fun K2 hK2 => ?_
 refine SW.region _ _ _ _ ?_
 refine RL.c fun8 (fun hs => alive) ?_
 rintro _ _ ⟨rfl, e⟩; obtain rfl := e.symm
 refine RL.p T ?_
 refine RL.nil _ _ _ _ ?_
 refine hK2 _ _ _ ?_
 refine SW.cs (fun hc0 => ?_) (fun hc0 => ?_)
 ·skip
  first
   | (exfalso; first | omega | contradiction | (clear hK2 K2; clear hK1 K1; clear hK0 K0; simp at *; done))
   | (
    refine SW.seq_k fun K3 hK3 => ?_
    refine SW.region _ _ _ _ ?_
    refine RL.p T ?_
    refine RL.nil _ _ _ _ ?_
    refine hK3 _ _ _ ?_
    refine SW.ret ?_
    refine retQ.rr (H) ?_
    clear hK3 K3 hK2 K2 hK1 K1 hK0 K0
    first
      | exact ⟨rfl, rfl⟩
      | exact ⟨boolE (decide_eq_true (by omega)), rfl⟩
    )
 ·skip
  first
   | (exfalso; first | omega | contradiction | (clear hK2 K2; clear hK1 K1; clear hK0 K0; simp at *; done))
   | (
    refine SW.skip ?_
    refine hK1 _ _ _ ?_
    refine SW.seq_k fun K4 hK4 => ?_
    refine SW.seq_k fun K5 hK5 => ?_
    refine SW.region _ _ _ _ ?_
    refine RL.p T ?_
    refine RL.p T ?_
    refine RL.p T ?_
    refine RL.nil _ _ _ _ ?_
    refine hK5 _ _ _ ?_
    refine SW.cs (fun hc1 => ?_) (fun hc1 => ?_)
    ·skip
     first
      | (exfalso; first | omega | contradiction | (clear hK5 K5; clear hK4 K4; clear hK2 K2; clear hK1 K1; clear hK0 K0; simp at *; done))
      | (
       refine SW.seq_k fun K6 hK6 => ?_
       refine SW.region _ _ _ _ ?_
       refine RL.p T ?_
       refine RL.nil _ _ _ _ ?_
       refine hK6 _ _ _ ?_
       refine SW.ret ?_
       refine retQ.rr (H) ?_
       clear hK6 K6 hK5 K5 hK4 K4 hK2 K2 hK1 K1 hK0 K0
       first
         | exact ⟨rfl, rfl⟩
         | exact ⟨boolE (decide_eq_true (by omega)), rfl⟩
       )
    ·skip
     first
      | (exfalso; first | omega | contradiction | (clear hK5 K5; clear hK4 K4; clear hK2 K2; clear hK1 K1; clear hK0 K0; simp at *; done))
      | (
       refine SW.skip ?_
       refine hK4 _ _ _ ?_
       refine SW.seq_k fun K7 hK7 => ?_
       refine SW.region _ _ _ _ ?_
       refine RL.bs T rfl rfl rfl (by exact (rfl : _ = some [])) (fun b21_0 => ?_)
       refine RL.p T ?_
       refine RL.apI (ki := .u8) (xs := []) (ys := es) T (fun aI cI => ?_) (hR := fun hs => (hbR _))
       refine RL.p T ?_
       rw [Nat.zero_add, List.nil_append]
       refine RL.nil _ _ _ _ ?_
       refine hK7 _ _ _ ?_
       refine SW.seq_k fun K8 hK8 => ?_
       refine SW.region _ _ _ _ ?_
       refine RL.p T ?_
       refine RL.c fun12 (fun hs => split aI n cI es (Rd.rowh hs (by repeat first | exact At.head _ _ | apply At.tail | apply At.app)) hbn hbm hBy) ?_
       rintro _ _ ⟨D1, a1, c1, ps1, rfl, e, hps1, hpo1⟩; obtain rfl := e.symm
       have hpl1 : ps1.length ≤ 256 := by
         by_cases he0 : (splitV es).2 = 0
         · exact mg_le2 hps1 (split_joined hBy he0).2.2.1
         · have := split_err he0; rw [← hps1, mg_nil] at this; rw [this]; simp
       refine RL.p T ?_
       refine RL.p T ?_
       refine RL.p T ?_
       refine RL.p T ?_
       refine RL.p T ?_
       refine RL.nil _ _ _ _ ?_
       refine hK8 _ _ _ ?_
       refine SW.seq_k fun K9 hK9 => ?_
       refine SW.region _ _ _ _ ?_
       refine RL.p T ?_
       refine RL.c fun17 (fun hs => rsplit ba n bc es (hbR _) hbn hbm hBy) ?_
       rintro _ _ ⟨D2, a2, c2, ps2, rfl, e, hps2, hpo2⟩; obtain rfl := e.symm
       have hpl2 : ps2.length ≤ 256 := by
         by_cases he0 : (splitV es).2 = 0
         · exact mg_le2 hps2 (split_joined hBy he0).2.2.1
         · have := split_err he0; rw [← hps2, mg_nil] at this; rw [this]; simp
       refine RL.p T ?_
       refine RL.p T ?_
       refine RL.p T ?_
       refine RL.p T ?_
       refine RL.p T ?_
       refine RL.nil _ _ _ _ ?_
       refine hK9 _ _ _ ?_
       refine SW.seq_k fun K10 hK10 => ?_
       refine SW.region _ _ _ _ ?_
       refine RL.p T ?_
       refine RL.p T ?_
       refine RL.c fun18 (fun hs => find aI n cI es (Rd.rowh hs (by repeat first | exact At.head _ _ | apply At.tail | apply At.app)) hbn hbm hBy id) ?_
       rintro _ _ ⟨D3, a3, on3, c3, os3, rfl, e, hon3, hox3, hos3, hoq3⟩; obtain rfl := e.symm
       refine RL.p T ?_
       refine RL.p T ?_
       refine RL.p T ?_
       refine RL.p T ?_
       refine RL.p T ?_
       refine RL.nil _ _ _ _ ?_
       refine hK10 _ _ _ ?_
       refine SW.seq_k fun K11 hK11 => ?_
       refine SW.region _ _ _ _ ?_
       refine RL.p T ?_
       refine RL.p T ?_
       refine RL.c fun19 (fun hs => rfind ba n bc es (hbR _) hbn hbm hBy id) ?_
       rintro _ _ ⟨D4, a4, on4, c4, os4, rfl, e, hon4, hox4, hos4, hoq4⟩; obtain rfl := e.symm
       have hl34 : on3 = on4 := by rw [hon3, hon4, ← outD_len, ← outD_len (os := os4), hos3, hos4]
       refine RL.p T ?_
       refine RL.p T ?_
       refine RL.p T ?_
       refine RL.p T ?_
       refine RL.p T ?_
       refine RL.nil _ _ _ _ ?_
       refine hK11 _ _ _ ?_
       refine SW.seq_k fun K12 hK12 => ?_
       refine SW.seq_k fun K13 hK13 => ?_
       refine SW.region _ _ _ _ ?_
       refine RL.p T ?_
       refine RL.p T ?_
       refine RL.p T ?_
       refine RL.nil _ _ _ _ ?_
       refine hK13 _ _ _ ?_
       refine SW.block ?_
       refine SW.loopM (fun frB mm fr ds HH => ∃ (k : Nat) (xs : List Int), mm = n - k ∧ (k ≤ n ∧ (xs.length = n)) ∧ FrIs [14, 48, 49, 50, 51, 52, 53, 54, 55, 56, 57] frB fr [(48, .int .i64 k)] ∧ ds = [] ∧ HH = (.row a4 on4 c4 23 1 (List.flatMap SlC os4) :: (D4 ++ (.row a3 on3 c3 23 1 (List.flatMap SlC os3) :: (D3 ++ (.row a2 ps2.length c2 35 2 (List.flatMap PdC ps2) :: (D2 ++ (.row a1 ps1.length c1 38 2 (List.flatMap PdC ps1) :: (D1 ++ (.row aI n cI 5 1 (List.map (Value.int .u8) (xs)) :: H)))))))))) (n := n - 0) ?_ ?_
       ·exact ⟨0, es, rfl, ⟨Nat.zero_le _, hbn.symm⟩, (.cons rfl (.nil (by repeat first | with_reducible exact Mx.refl | with_reducible exact Mx.mix | refine Mx.put rfl ?_ | refine Mx.upd rfl ?_ | refine Mx.updl rfl ?_ | refine Mx.fin rfl ?_ | refine Mx.inner rfl ?_ | refine Mx.none ?_ | exact Mx.refl | exact Mx.mix))), rfl, rfl⟩
       ·rintro mm fr ds HH ⟨k, xs, rfl, ⟨hk, hxl⟩, hFr, rfl, eHH⟩
        obtain rfl := eHH.symm
        obtain ⟨frU, rfl⟩ := hFr.eq
        clear hFr
        refine SW.seq_k fun K14 hK14 => ?_
        refine SW.region _ _ _ _ ?_
        refine RL.p T ?_
        refine RL.nil _ _ _ _ ?_
        refine hK14 _ _ _ ?_
        refine SW.seq_k fun K15 hK15 => ?_
        refine SW.cs (fun hc2 => ?_) (fun hc2 => ?_)
        ·skip
         first
          | (exfalso; first | omega | contradiction | (clear hK15 K15; clear hK14 K14; clear hK13 K13; clear hK12 K12; clear hK11 K11; clear hK10 K10; clear hK9 K9; clear hK8 K8; clear hK7 K7; clear hK5 K5; clear hK4 K4; clear hK2 K2; clear hK1 K1; clear hK0 K0; simp at *; done))
          | (
           refine SW.skip ?_
           refine hK15 _ _ _ ?_
           refine SW.seq_k fun K16 hK16 => ?_
           refine SW.block ?_
           refine SW.seq_k fun K17 hK17 => ?_
           refine SW.region _ _ _ _ ?_
           refine RL.p T ?_
           refine RL.p T ?_
           refine RL.nil _ _ _ _ ?_
           refine hK17 _ _ _ ?_
           refine SW.region _ _ _ _ ?_
           refine RL.p T ?_
           refine RL.p T ?_
           refine RL.ix T ?_ (hR := fun hs => (by first | exact hbR _ | exact Rd.rowh hs (by repeat first | exact At.head _ _ | apply At.tail | apply At.app)))
           refine RL.le T ?_ (hR := fun hs => (by first | exact hbR _ | exact Rd.rowh hs (by repeat first | exact At.head _ _ | apply At.tail | apply At.app))) (hv := (map_as (by omega) rfl))
           first | refine RL.arK ?_ | refine RL.p T ?_
           refine RL.ix T ?_ (hR := fun hs => (by first | exact hbR _ | exact Rd.rowh hs (by repeat first | exact At.head _ _ | apply At.tail | apply At.app)))
           refine RL.sei T ?_
           refine RL.nil _ _ _ _ ?_
           refine hK16 _ _ _ ?_
           refine SW.region _ _ _ _ ?_
           first | refine RL.ar ?_ | refine RL.p T ?_
           refine RL.p T ?_
           refine RL.nil _ _ _ _ ?_
           exact ⟨n - (k + 1), (by omega), k + 1, xs.set k _, (by rfl), ⟨by omega, (by rw [List.length_set]; exact hxl)⟩, (.cons rfl (.nil (by repeat first | with_reducible exact Mx.refl | with_reducible exact Mx.mix | refine Mx.put rfl ?_ | refine Mx.upd rfl ?_ | refine Mx.updl rfl ?_ | refine Mx.fin rfl ?_ | refine Mx.inner rfl ?_ | refine Mx.none ?_ | exact Mx.refl | exact Mx.mix))), rfl, rfl⟩
           )
        ·skip
         first
          | (exfalso; first | omega | contradiction | (clear hK15 K15; clear hK14 K14; clear hK13 K13; clear hK12 K12; clear hK11 K11; clear hK10 K10; clear hK9 K9; clear hK8 K8; clear hK7 K7; clear hK5 K5; clear hK4 K4; clear hK2 K2; clear hK1 K1; clear hK0 K0; simp at *; done))
          | (
           refine SW.exit ?_
           refine hK12 _ _ _ ?_
           refine SW.seq_k fun K18 hK18 => ?_
           refine SW.seq_k fun K19 hK19 => ?_
           refine SW.region _ _ _ _ ?_
           refine RL.p T ?_
           refine RL.c fun15 (fun hs => pfrom ps1 a1 ps1.length c1 (Rd.rowh hs (by repeat first | exact At.head _ _ | apply At.tail | apply At.app)) rfl (by omega) (fun k => (pd_mem hpo1 k).sub SubL.by)) ?_
           rintro _ _ ⟨a9, c9, rfl, e⟩; obtain rfl := e.symm
           refine RL.p T ?_
           refine RL.c fun14 (fun hs => samePT ps1 a9 ps1.length c9 (Rd.rowh hs (by repeat first | exact At.head _ _ | apply At.tail | apply At.app)) rfl (fun q hq => (hpo1 q hq).sub SubL.by) ps2 a2 ps2.length c2 (Rd.rowh hs (by repeat first | exact At.head _ _ | apply At.tail | apply At.app)) rfl (fun q hq => (hpo2 q hq).sub SubL.by) (by omega) (hps1.trans hps2.symm)) ?_
           rintro _ _ ⟨rfl, e⟩; obtain rfl := e.symm
           refine RL.p T ?_
           refine RL.p T ?_
           refine RL.sp 63 (fun hs0 => ?_) (fun hs0 => ?_)
           ·skip
            first
             | (exfalso; first | omega | contradiction | (clear hK19 K19; clear hK18 K18; clear hK15 K15; clear hK14 K14; clear hK13 K13; clear hK12 K12; clear hK11 K11; clear hK10 K10; clear hK9 K9; clear hK8 K8; clear hK7 K7; clear hK5 K5; clear hK4 K4; clear hK2 K2; clear hK1 K1; clear hK0 K0; simp at *; done))
             | (
              refine RL.guard_no rfl rfl rfl ?_
              refine RL.guard_no rfl rfl rfl ?_
              refine RL.guard_no rfl rfl rfl ?_
              refine RL.p T ?_
              refine RL.p T ?_
              refine RL.guard_no rfl rfl rfl ?_
              refine RL.guard_no rfl rfl rfl ?_
              refine RL.guard_no rfl rfl rfl ?_
              refine RL.p T ?_
              refine RL.p T ?_
              refine RL.guard_no rfl rfl rfl ?_
              refine RL.guard_no rfl rfl rfl ?_
              refine RL.guard_no rfl rfl rfl ?_
              refine RL.guard_no rfl rfl rfl ?_
              refine RL.guard_no rfl rfl rfl ?_
              refine RL.p T ?_
              refine RL.nil _ _ _ _ ?_
              refine hK19 _ _ _ ?_
              refine SW.cond_t rfl ?_
              refine SW.seq_k fun K20 hK20 => ?_
              refine SW.region _ _ _ _ ?_
              refine RL.p T ?_
              refine RL.nil _ _ _ _ ?_
              refine hK20 _ _ _ ?_
              refine SW.ret ?_
              refine retQ.rr (H) ?_
              clear hK20 K20 hK19 K19 hK18 K18 hK15 K15 hK14 K14 hK13 K13 hK12 K12 hK11 K11 hK10 K10 hK9 K9 hK8 K8 hK7 K7 hK5 K5 hK4 K4 hK2 K2 hK1 K1 hK0 K0
              first
                | exact ⟨rfl, rfl⟩
                | exact ⟨boolE (decide_eq_true (by omega)), rfl⟩
              )
           ·skip
            first
             | (exfalso; first | omega | contradiction | (clear hK19 K19; clear hK18 K18; clear hK15 K15; clear hK14 K14; clear hK13 K13; clear hK12 K12; clear hK11 K11; clear hK10 K10; clear hK9 K9; clear hK8 K8; clear hK7 K7; clear hK5 K5; clear hK4 K4; clear hK2 K2; clear hK1 K1; clear hK0 K0; simp at *; done))
             | (
              refine RL.p T ?_
              refine RL.p T ?_
              refine RL.p T ?_
              refine RL.p T ?_
              refine RL.p T ?_
              refine RL.sp 68 (fun hs1 => ?_) (fun hs1 => ?_)
              ·skip
               first
                | (exfalso; first | omega | contradiction | (clear hK19 K19; clear hK18 K18; clear hK15 K15; clear hK14 K14; clear hK13 K13; clear hK12 K12; clear hK11 K11; clear hK10 K10; clear hK9 K9; clear hK8 K8; clear hK7 K7; clear hK5 K5; clear hK4 K4; clear hK2 K2; clear hK1 K1; clear hK0 K0; simp at *; done))
                | (
                 refine RL.guard_no rfl rfl rfl ?_
                 refine RL.guard_no rfl rfl rfl ?_
                 refine RL.guard_no rfl rfl rfl ?_
                 refine RL.p T ?_
                 refine RL.p T ?_
                 refine RL.guard_no rfl rfl rfl ?_
                 refine RL.guard_no rfl rfl rfl ?_
                 refine RL.guard_no rfl rfl rfl ?_
                 refine RL.guard_no rfl rfl rfl ?_
                 refine RL.guard_no rfl rfl rfl ?_
                 refine RL.p T ?_
                 refine RL.nil _ _ _ _ ?_
                 refine hK19 _ _ _ ?_
                 refine SW.cond_t rfl ?_
                 refine SW.seq_k fun K21 hK21 => ?_
                 refine SW.region _ _ _ _ ?_
                 refine RL.p T ?_
                 refine RL.nil _ _ _ _ ?_
                 refine hK21 _ _ _ ?_
                 refine SW.ret ?_
                 refine retQ.rr (H) ?_
                 clear hK21 K21 hK19 K19 hK18 K18 hK15 K15 hK14 K14 hK13 K13 hK12 K12 hK11 K11 hK10 K10 hK9 K9 hK8 K8 hK7 K7 hK5 K5 hK4 K4 hK2 K2 hK1 K1 hK0 K0
                 first
                   | exact ⟨rfl, rfl⟩
                   | exact ⟨boolE (decide_eq_true (by omega)), rfl⟩
                 )
              ·skip
               first
                | (exfalso; first | omega | contradiction | (clear hK19 K19; clear hK18 K18; clear hK15 K15; clear hK14 K14; clear hK13 K13; clear hK12 K12; clear hK11 K11; clear hK10 K10; clear hK9 K9; clear hK8 K8; clear hK7 K7; clear hK5 K5; clear hK4 K4; clear hK2 K2; clear hK1 K1; clear hK0 K0; simp at *; done))
                | (
                 refine RL.p T ?_
                 refine RL.p T ?_
                 refine RL.p T ?_
                 refine RL.p T ?_
                 refine RL.p T ?_
                 refine RL.sp 73 (fun hs2 => ?_) (fun hs2 => ?_)
                 ·skip
                  first
                   | (exfalso; first | omega | contradiction | (clear hK19 K19; clear hK18 K18; clear hK15 K15; clear hK14 K14; clear hK13 K13; clear hK12 K12; clear hK11 K11; clear hK10 K10; clear hK9 K9; clear hK8 K8; clear hK7 K7; clear hK5 K5; clear hK4 K4; clear hK2 K2; clear hK1 K1; clear hK0 K0; simp at *; done))
                   | (
                    refine RL.guard_no rfl rfl rfl ?_
                    refine RL.guard_no rfl rfl rfl ?_
                    refine RL.guard_no rfl rfl rfl ?_
                    refine RL.guard_no rfl rfl rfl ?_
                    refine RL.guard_no rfl rfl rfl ?_
                    refine RL.p T ?_
                    refine RL.nil _ _ _ _ ?_
                    refine hK19 _ _ _ ?_
                    refine SW.cond_t rfl ?_
                    refine SW.seq_k fun K22 hK22 => ?_
                    refine SW.region _ _ _ _ ?_
                    refine RL.p T ?_
                    refine RL.nil _ _ _ _ ?_
                    refine hK22 _ _ _ ?_
                    refine SW.ret ?_
                    refine retQ.rr (H) ?_
                    clear hK22 K22 hK19 K19 hK18 K18 hK15 K15 hK14 K14 hK13 K13 hK12 K12 hK11 K11 hK10 K10 hK9 K9 hK8 K8 hK7 K7 hK5 K5 hK4 K4 hK2 K2 hK1 K1 hK0 K0
                    first
                      | exact ⟨rfl, rfl⟩
                      | exact ⟨boolE (decide_eq_true (by omega)), rfl⟩
                    )
                 ·skip
                  first
                   | (exfalso; first | omega | contradiction | (clear hK19 K19; clear hK18 K18; clear hK15 K15; clear hK14 K14; clear hK13 K13; clear hK12 K12; clear hK11 K11; clear hK10 K10; clear hK9 K9; clear hK8 K8; clear hK7 K7; clear hK5 K5; clear hK4 K4; clear hK2 K2; clear hK1 K1; clear hK0 K0; simp at *; done))
                   | (
                    refine RL.p T ?_
                    refine RL.p T ?_
                    refine RL.p T ?_
                    refine RL.p T ?_
                    refine RL.p T ?_
                    refine RL.p T ?_
                    refine RL.nil _ _ _ _ ?_
                    refine hK19 _ _ _ ?_
                    refine SW.cs (fun hc3 => ?_) (fun hc3 => ?_)
                    ·skip
                     first
                      | (exfalso; first | omega | contradiction | (clear hK19 K19; clear hK18 K18; clear hK15 K15; clear hK14 K14; clear hK13 K13; clear hK12 K12; clear hK11 K11; clear hK10 K10; clear hK9 K9; clear hK8 K8; clear hK7 K7; clear hK5 K5; clear hK4 K4; clear hK2 K2; clear hK1 K1; clear hK0 K0; simp at *; done))
                      | (
                       refine SW.seq_k fun K23 hK23 => ?_
                       refine SW.region _ _ _ _ ?_
                       refine RL.p T ?_
                       refine RL.nil _ _ _ _ ?_
                       refine hK23 _ _ _ ?_
                       refine SW.ret ?_
                       refine retQ.rr (H) ?_
                       clear hK23 K23 hK19 K19 hK18 K18 hK15 K15 hK14 K14 hK13 K13 hK12 K12 hK11 K11 hK10 K10 hK9 K9 hK8 K8 hK7 K7 hK5 K5 hK4 K4 hK2 K2 hK1 K1 hK0 K0
                       first
                         | exact ⟨rfl, rfl⟩
                         | exact ⟨boolE (decide_eq_true (by omega)), rfl⟩
                       )
                    ·skip
                     first
                      | (exfalso; first | omega | contradiction | (clear hK19 K19; clear hK18 K18; clear hK15 K15; clear hK14 K14; clear hK13 K13; clear hK12 K12; clear hK11 K11; clear hK10 K10; clear hK9 K9; clear hK8 K8; clear hK7 K7; clear hK5 K5; clear hK4 K4; clear hK2 K2; clear hK1 K1; clear hK0 K0; simp at *; done))
                      | (
                       refine SW.skip ?_
                       refine hK18 _ _ _ ?_
                       refine SW.seq_k fun K24 hK24 => ?_
                       refine SW.seq_k fun K25 hK25 => ?_
                       refine SW.region _ _ _ _ ?_
                       refine RL.p T ?_
                       refine RL.p T ?_
                       refine RL.p T ?_
                       refine RL.nil _ _ _ _ ?_
                       refine hK25 _ _ _ ?_
                       refine SW.block ?_
                       refine SW.loopM (fun frB mm fr ds HH => ∃ (k : Nat) , mm = on3 - k ∧ (k ≤ on3 ∧ (True)) ∧ FrIs [4, 15, 82, 83, 84, 85, 86, 87, 88, 89, 90, 91, 92, 93, 94, 95] frB fr [(82, .int .i64 k)] ∧ ds = [] ∧ HH = (.row a9 ps1.length c9 35 2 (List.flatMap PdC ps1) :: .row a4 on4 c4 23 1 (List.flatMap SlC os4) :: (D4 ++ (.row a3 on3 c3 23 1 (List.flatMap SlC os3) :: (D3 ++ (.row a2 ps2.length c2 35 2 (List.flatMap PdC ps2) :: (D2 ++ (.row a1 ps1.length c1 38 2 (List.flatMap PdC ps1) :: (D1 ++ (.row aI n cI 5 1 (List.map (Value.int .u8) (xs)) :: H)))))))))) (n := on3 - 0) ?_ ?_
                       ·exact ⟨0, rfl, ⟨Nat.zero_le _, trivial⟩, (.cons rfl (.nil (by repeat first | with_reducible exact Mx.refl | with_reducible exact Mx.mix | refine Mx.put rfl ?_ | refine Mx.upd rfl ?_ | refine Mx.updl rfl ?_ | refine Mx.fin rfl ?_ | refine Mx.inner rfl ?_ | refine Mx.none ?_ | exact Mx.refl | exact Mx.mix))), rfl, rfl⟩
                       ·rintro mm fr ds HH ⟨k, rfl, ⟨hk, _⟩, hFr, rfl, eHH⟩
                        obtain rfl := eHH.symm
                        obtain ⟨frU, rfl⟩ := hFr.eq
                        clear hFr
                        refine SW.seq_k fun K26 hK26 => ?_
                        refine SW.region _ _ _ _ ?_
                        refine RL.p T ?_
                        refine RL.nil _ _ _ _ ?_
                        refine hK26 _ _ _ ?_
                        refine SW.seq_k fun K27 hK27 => ?_
                        refine SW.cs (fun hc4 => ?_) (fun hc4 => ?_)
                        ·skip
                         first
                          | (exfalso; first | omega | contradiction | (clear hK27 K27; clear hK26 K26; clear hK25 K25; clear hK24 K24; clear hK19 K19; clear hK18 K18; clear hK15 K15; clear hK14 K14; clear hK13 K13; clear hK12 K12; clear hK11 K11; clear hK10 K10; clear hK9 K9; clear hK8 K8; clear hK7 K7; clear hK5 K5; clear hK4 K4; clear hK2 K2; clear hK1 K1; clear hK0 K0; simp at *; done))
                          | (
                           refine SW.skip ?_
                           refine hK27 _ _ _ ?_
                           refine SW.seq_k fun K28 hK28 => ?_
                           refine SW.block ?_
                           refine SW.seq_k fun K29 hK29 => ?_
                           refine SW.region _ _ _ _ ?_
                           refine RL.p T ?_
                           refine RL.p T ?_
                           refine RL.nil _ _ _ _ ?_
                           refine hK29 _ _ _ ?_
                           refine SW.seq_k fun K30 hK30 => ?_
                           refine SW.drawQ [(85, 0), (86, 1), (87, 2), (88, 3), (89, 4), (90, 5), (91, 6), (92, 7), (93, 8), (94, 9)] [[], [], [0, 1], [2, 0, 1], [], [], [4, 5], [6, 4, 5], [3, 2, 0, 1, 7, 6, 4, 5], [8, 3, 2, 0, 1, 7, 6, 4, 5]] mixed (by kernel_rfl) (by kernel_rfl) ?_
                           refine QL.p T ?_
                           refine QL.p T ?_
                           refine QL.ix T ?_ (hR := fun hs => (by first | exact hbR _ | exact Rd.rowh hs (by repeat first | exact At.head _ _ | apply At.tail | apply At.app)))
                           refine QL.le T ?_ (hR := fun hs => (Rd.rowh hs (by repeat first | exact At.head _ _ | apply At.tail | apply At.app))) (hv := sl_get2 os3 k (by omega))
                           refine QL.p T ?_
                           refine QL.p T ?_
                           refine QL.ix T ?_ (hR := fun hs => (by first | exact hbR _ | exact Rd.rowh hs (by repeat first | exact At.head _ _ | apply At.tail | apply At.app)))
                           refine QL.le T ?_ (hR := fun hs => (Rd.rowh hs (by repeat first | exact At.head _ _ | apply At.tail | apply At.app))) (hv := sl_get2 os4 k (by omega))
                           refine QL.c fun16 (fun hs => sameB ((os3.getD k default)).a ((os4.getD k default)).a ((os3.getD k default)).n ((os3.getD k default)).c ((os4.getD k default)).n ((os4.getD k default)).c (os3.getD k default).d (os4.getD k default).d ((hoq3 _ (getD_memS (by omega))).sub SubL.by).rd ((hoq4 _ (getD_memS (by omega))).sub SubL.by).rd (hoq3 _ (getD_memS (by omega))).len (hoq4 _ (getD_memS (by omega))).len (hoq3 _ (getD_memS (by omega))).max (hoq4 _ (getD_memS (by omega))).max (by rw [outD_getD (by omega), outD_getD (by omega), hos3, hos4])) ?_
                           refine QL.p T ?_
                           refine QL.nil ?_
                           refine hK30 _ _ _ ?_
                           refine SW.cs (fun hc5 => ?_) (fun hc5 => ?_)
                           ·skip
                            first
                             | (exfalso; first | omega | contradiction | (clear hK30 K30; clear hK29 K29; clear hK28 K28; clear hK27 K27; clear hK26 K26; clear hK25 K25; clear hK24 K24; clear hK19 K19; clear hK18 K18; clear hK15 K15; clear hK14 K14; clear hK13 K13; clear hK12 K12; clear hK11 K11; clear hK10 K10; clear hK9 K9; clear hK8 K8; clear hK7 K7; clear hK5 K5; clear hK4 K4; clear hK2 K2; clear hK1 K1; clear hK0 K0; simp at *; done))
                             | (
                              refine SW.seq_k fun K31 hK31 => ?_
                              refine SW.region _ _ _ _ ?_
                              refine RL.p T ?_
                              refine RL.nil _ _ _ _ ?_
                              refine hK31 _ _ _ ?_
                              refine SW.ret ?_
                              refine retQ.rr (H) ?_
                              clear hK31 K31 hK30 K30 hK29 K29 hK28 K28 hK27 K27 hK26 K26 hK25 K25 hK24 K24 hK19 K19 hK18 K18 hK15 K15 hK14 K14 hK13 K13 hK12 K12 hK11 K11 hK10 K10 hK9 K9 hK8 K8 hK7 K7 hK5 K5 hK4 K4 hK2 K2 hK1 K1 hK0 K0
                              first
                                | exact ⟨rfl, rfl⟩
                                | exact ⟨boolE (decide_eq_true (by omega)), rfl⟩
                              )
                           ·skip
                            first
                             | (exfalso; first | omega | contradiction | (clear hK30 K30; clear hK29 K29; clear hK28 K28; clear hK27 K27; clear hK26 K26; clear hK25 K25; clear hK24 K24; clear hK19 K19; clear hK18 K18; clear hK15 K15; clear hK14 K14; clear hK13 K13; clear hK12 K12; clear hK11 K11; clear hK10 K10; clear hK9 K9; clear hK8 K8; clear hK7 K7; clear hK5 K5; clear hK4 K4; clear hK2 K2; clear hK1 K1; clear hK0 K0; simp at *; done))
                             | (
                              refine SW.skip ?_
                              refine hK28 _ _ _ ?_
                              refine SW.region _ _ _ _ ?_
                              first | refine RL.ar ?_ | refine RL.p T ?_
                              refine RL.p T ?_
                              refine RL.nil _ _ _ _ ?_
                              exact ⟨on3 - (k + 1), (by omega), k + 1, (by rfl), ⟨by omega, trivial⟩, (.cons rfl (.nil (by repeat first | with_reducible exact Mx.refl | with_reducible exact Mx.mix | refine Mx.put rfl ?_ | refine Mx.upd rfl ?_ | refine Mx.updl rfl ?_ | refine Mx.fin rfl ?_ | refine Mx.inner rfl ?_ | refine Mx.none ?_ | exact Mx.refl | exact Mx.mix))), rfl, rfl⟩
                              )
                           )
                        ·skip
                         first
                          | (exfalso; first | omega | contradiction | (clear hK27 K27; clear hK26 K26; clear hK25 K25; clear hK24 K24; clear hK19 K19; clear hK18 K18; clear hK15 K15; clear hK14 K14; clear hK13 K13; clear hK12 K12; clear hK11 K11; clear hK10 K10; clear hK9 K9; clear hK8 K8; clear hK7 K7; clear hK5 K5; clear hK4 K4; clear hK2 K2; clear hK1 K1; clear hK0 K0; simp at *; done))
                          | (
                           refine SW.exit ?_
                           refine hK24 _ _ _ ?_
                           refine SW.seq_k fun K32 hK32 => ?_
                           refine SW.region _ _ _ _ ?_
                           refine RL.p T ?_
                           refine RL.nil _ _ _ _ ?_
                           refine hK32 _ _ _ ?_
                           refine SW.ret ?_
                           refine retQ.rr (H) ?_
                           clear hK32 K32 hK27 K27 hK26 K26 hK25 K25 hK24 K24 hK19 K19 hK18 K18 hK15 K15 hK14 K14 hK13 K13 hK12 K12 hK11 K11 hK10 K10 hK9 K9 hK8 K8 hK7 K7 hK5 K5 hK4 K4 hK2 K2 hK1 K1 hK0 K0
                           first
                             | exact ⟨rfl, rfl⟩
                             | exact ⟨boolE (decide_eq_true (by omega)), rfl⟩
                           )
                       )
                    )
                 )
              )
           )
       )
    )
end Go.Proofs.YthigfghfpmpiiaaDoor.M
