import Derived.Test.YthigfghfpmpiiaaDoorProg
import Derived.Test.YthigfghfpmpiiaaDoorFE19D
import Derived.Test.YthigfghfpmpiiaaDoorS30
import Derived.Test.YthigfghfpmpiiaaDoorP19g
set_option linter.unusedVariables false
set_option linter.unusedSimpArgs false
namespace Go.Proofs.YthigfghfpmpiiaaDoor.M
open Go Go.Sep Go.Proofs
set_option maxRecDepth 10000
set_option maxHeartbeats 20000000
theorem sameB {w0 : World} {H : List Chunk} (sa sb : Option Addr) (n c nb cb : Nat) (es fs : List Int) (hR : Rd w0 H sa n c 1 (es.map (.int .u8))) (hS : Rd w0 H sb nb cb 1 (fs.map (.int .u8))) (hn : n = es.length) (hm : nb = fs.length) (hm1 : n ≤ 140737488351232) (hm2 : nb ≤ 140737488351232) (he : es = fs) : SC Tryd.prog w0 16 #[.slice sa n c, .slice sb nb cb] H (fun v H' => v = .bool true ∧ H' = H) := by
  have h := same sa sb n c nb cb es fs hR hS hn hm hm1 hm2
  rw [decide_eq_true he] at h
  exact h
theorem sl_get (os : List Sl) (j : Nat) (h : j < os.length) : (os.flatMap SlC)[j]? = some (SlV (os.getD j default)) := by
  rw [sl_map, List.getElem?_map, List.getD_eq_getElem?_getD, List.getElem?_eq_getElem h]; rfl
theorem pduFinds {w0 : World} {H : List Chunk} (ls : List Pd) (sr : Option Addr) (nr cr : Nat) (hB : ∀ H, Rd w0 H sr nr cr 2 (ls.flatMap PdC)) (hnr : nr = ls.length) (hmr : nr ≤ 4398046511000) (hls : ∀ H, ∀ y ∈ ls, PdOk w0 H y) : SC Tryd.prog w0 7 #[.slice sr nr cr] H (fun v H' => v = .bool true ∧ H' = H) := by
 refine SC.enter Tryd.func7 rfl (Nat.le_of_ble_eq_true rfl) ?_
 refine SW.seq_k fun K0 hK0 => ?_
 refine SW.region _ _ _ _ ?_
 refine RL.p T ?_
 refine RL.nil _ _ _ _ ?_
 refine hK0 _ _ _ ?_
 refine SW.seq_k fun K1 hK1 => ?_
 refine SW.seq_k fun K2 hK2 => ?_
 refine SW.region _ _ _ _ ?_
 refine RL.c fun8 (fun hs => alive) ?_
 rintro _ _ ⟨rfl, e⟩; obtain rfl := e.symm
 refine RL.p T ?_
 refine RL.nil _ _ _ _ ?_
 refine hK2 _ _ _ ?_
 refine SW.cs (fun hc0 => ?_) (fun hc0 => ?_)
 ·skip
  first
   | (exfalso; first | omega | contradiction | (clear hK2 K2; clear hK1 K1; clear hK0 K0; simp at *; done))
   | (
    refine SW.seq_k fun K3 hK3 => ?_
    refine SW.region _ _ _ _ ?_
    refine RL.p T ?_
    refine RL.nil _ _ _ _ ?_
    refine hK3 _ _ _ ?_
    refine SW.ret ?_
    refine retQ.rr (H) ?_
    clear hK3 K3 hK2 K2 hK1 K1 hK0 K0
    first
      | exact ⟨rfl, rfl⟩
      | exact ⟨boolE (decide_eq_true (by omega)), rfl⟩
    )
 ·skip
  first
   | (exfalso; first | omega | contradiction | (clear hK2 K2; clear hK1 K1; clear hK0 K0; simp at *; done))
   | (
    refine SW.skip ?_
    refine hK1 _ _ _ ?_
    refine SW.seq_k fun K4 hK4 => ?_
    refine SW.seq_k fun K5 hK5 => ?_
    refine SW.region _ _ _ _ ?_
    refine RL.p T ?_
    refine RL.c fun9 (fun hs => great ls sr nr cr (hB _) hnr hmr (fun k => pd_mem (hls _) k)) ?_
    rintro _ _ ⟨gt, rfl, e, hgt⟩; obtain rfl := e.symm
    refine RL.p T ?_
    refine RL.sp 18 (fun hs0 => ?_) (fun hs0 => ?_)
    ·skip
     first
      | (exfalso; first | omega | contradiction | (clear hK5 K5; clear hK4 K4; clear hK2 K2; clear hK1 K1; clear hK0 K0; simp at *; done))
      | (
       refine RL.guard_no rfl rfl rfl ?_
       refine RL.guard_no rfl rfl rfl ?_
       refine RL.guard_no rfl rfl rfl ?_
       refine RL.p T ?_
       refine RL.nil _ _ _ _ ?_
       refine hK5 _ _ _ ?_
       refine SW.cond_t rfl ?_
       refine SW.seq_k fun K6 hK6 => ?_
       refine SW.region _ _ _ _ ?_
       refine RL.p T ?_
       refine RL.nil _ _ _ _ ?_
       refine hK6 _ _ _ ?_
       refine SW.ret ?_
       refine retQ.rr (H) ?_
       clear hK6 K6 hK5 K5 hK4 K4 hK2 K2 hK1 K1 hK0 K0
       first
         | exact ⟨rfl, rfl⟩
         | exact ⟨boolE (decide_eq_true (by omega)), rfl⟩
       )
    ·skip
     first
      | (exfalso; first | omega | contradiction | (clear hK5 K5; clear hK4 K4; clear hK2 K2; clear hK1 K1; clear hK0 K0; simp at *; done))
      | (
       refine RL.p T ?_
       refine RL.p T ?_
       refine RL.p T ?_
       refine RL.p T ?_
       refine RL.nil _ _ _ _ ?_
       refine hK5 _ _ _ ?_
       refine SW.cs (fun hc1 => ?_) (fun hc1 => ?_)
       ·skip
        first
         | (exfalso; first | omega | contradiction | (clear hK5 K5; clear hK4 K4; clear hK2 K2; clear hK1 K1; clear hK0 K0; simp at *; done))
         | (
          refine SW.seq_k fun K7 hK7 => ?_
          refine SW.region _ _ _ _ ?_
          refine RL.p T ?_
          refine RL.nil _ _ _ _ ?_
          refine hK7 _ _ _ ?_
          refine SW.ret ?_
          refine retQ.rr (H) ?_
          clear hK7 K7 hK5 K5 hK4 K4 hK2 K2 hK1 K1 hK0 K0
          first
            | exact ⟨rfl, rfl⟩
            | exact ⟨boolE (decide_eq_true (by omega)), rfl⟩
          )
       ·skip
        first
         | (exfalso; first | omega | contradiction | (clear hK5 K5; clear hK4 K4; clear hK2 K2; clear hK1 K1; clear hK0 K0; simp at *; done))
         | (
          refine SW.skip ?_
          refine hK4 _ _ _ ?_
          refine SW.seq_k fun K8 hK8 => ?_
          refine SW.region _ _ _ _ ?_
          refine RL.p T ?_
          refine RL.c fun11 (fun hs => pto ls sr nr cr (hB _) hnr hmr (fun k => pd_mem (hls _) k)) ?_
          rintro _ _ ⟨aT, cT, rfl, e⟩; obtain rfl := e.symm
          refine RL.c fun10 (fun hs => pjoin ls aT nr _ (Rd.rowh hs (by repeat first | exact At.head _ _ | apply At.tail | apply At.app)) hnr hmr (fun k => pd_mem (hls _) k)) ?_
          rintro _ _ ⟨aJ, cJ, rfl, e⟩; obtain rfl := e.symm
          refine RL.p T ?_
          refine RL.p T ?_
          refine RL.p T ?_
          refine RL.p T ?_
          refine RL.p T ?_
          refine RL.nil _ _ _ _ ?_
          refine hK8 _ _ _ ?_
          refine SW.seq_k fun K9 hK9 => ?_
          refine SW.seq_k fun K10 hK10 => ?_
          refine SW.region _ _ _ _ ?_
          refine RL.p T ?_
          refine RL.p T ?_
          refine RL.nil _ _ _ _ ?_
          refine hK10 _ _ _ ?_
          refine SW.cs (fun hc2 => ?_) (fun hc2 => ?_)
          ·skip
           first
            | (exfalso; first | omega | contradiction | (clear hK10 K10; clear hK9 K9; clear hK8 K8; clear hK5 K5; clear hK4 K4; clear hK2 K2; clear hK1 K1; clear hK0 K0; simp at *; done))
            | (
             refine SW.seq_k fun K11 hK11 => ?_
             refine SW.region _ _ _ _ ?_
             refine RL.p T ?_
             refine RL.nil _ _ _ _ ?_
             refine hK11 _ _ _ ?_
             refine SW.ret ?_
             refine retQ.rr (H) ?_
             clear hK11 K11 hK10 K10 hK9 K9 hK8 K8 hK5 K5 hK4 K4 hK2 K2 hK1 K1 hK0 K0
             first
               | exact ⟨rfl, rfl⟩
               | exact ⟨boolE (decide_eq_true (by omega)), rfl⟩
             )
          ·skip
           first
            | (exfalso; first | omega | contradiction | (clear hK10 K10; clear hK9 K9; clear hK8 K8; clear hK5 K5; clear hK4 K4; clear hK2 K2; clear hK1 K1; clear hK0 K0; simp at *; done))
            | (
             refine SW.skip ?_
             refine hK9 _ _ _ ?_
             refine SW.seq_k fun K12 hK12 => ?_
             have hje : (joinV ls).2 = 0 := by first | assumption | omega
             obtain ⟨hl0, hu, hJ⟩ := join_ok hje
             have hmk := mok_all (hls H) hu
             have hjl : (joinV ls).1.length = usedM (mg ls) := by rw [hJ]; exact joinB_len _
             have hJb : Byte (joinV ls).1 := by rw [hJ]; exact joinB_byte (hls H) hu
             have hne : mg ls ≠ [] := fun h0 => by have := mg_len ls; rw [h0] at this; simp at this; omega
             have hsv : splitV (joinV ls).1 = (mg ls, 0) := by rw [hJ]; exact splitV_join hne hmk hu
             refine SW.region _ _ _ _ ?_
             refine RL.s ?_
             refine NV.mkSetI .u32 rfl (fun bm => ?_)
             refine RL.p T ?_
             refine RL.nil _ _ _ _ ?_
             refine hK12 _ _ _ ?_
             refine SW.seq_k fun K13 hK13 => ?_
             refine SW.region _ _ _ _ ?_
             refine RL.p T ?_
             refine RL.nil _ _ _ _ ?_
             refine hK13 _ _ _ ?_
             refine SW.seq_k fun K14 hK14 => ?_
             refine SW.seq_k fun K15 hK15 => ?_
             refine SW.wk (.obj bm (setI .u32 []) :: .row aJ (joinV ls).1.length cJ 5 1 (List.map (Value.int .u8) (joinV ls).1) :: H) ?_
             have hc0 := cnt_none (mg ls)
             refine SW.region _ _ _ _ ?_
             refine RL.p T ?_
             refine RL.p T ?_
             refine RL.p T ?_
             refine RL.nil _ _ _ _ ?_
             refine hK15 _ _ _ ?_
             refine SW.block ?_
             refine SW.loopM (fun frB mm fr ds HH => ∃ (k : Nat) (ids : List Int), mm = nr - k ∧ (k ≤ nr ∧ (∀ i, i < k → (ls.getD i default).id ∈ ids)) ∧ FrIs [2, 6, 8, 9, 10, 11, 13, 34, 35, 36, 37, 38, 39, 40, 41, 42, 43, 44, 45, 46, 47, 48, 49, 50, 51, 52, 53, 54, 55, 56, 57, 58, 59, 60, 61, 62, 63, 64, 65, 66, 67, 68, 69, 70, 71, 72, 73, 74, 75, 76, 77, 78, 79, 80, 81, 82, 83, 84, 85, 86, 87, 88, 89, 90, 91, 92] frB fr [(34, .int .i64 k), (6, .int .i64 ((cntI ids (mg ls) : Nat) : Int))] ∧ ds = [] ∧ HH = (.obj bm (setI .u32 ids) :: .row aJ (joinV ls).1.length cJ 5 1 (List.map (Value.int .u8) (joinV ls).1) :: H)) (n := nr - 0) ?_ ?_
             ·exact ⟨0, [], rfl, ⟨Nat.zero_le _, (fun i h => by omega)⟩, (.cons rfl (.consI rfl (by first | omega | rfl) (.nil (by repeat first | with_reducible exact Mx.refl | with_reducible exact Mx.mix | refine Mx.put rfl ?_ | refine Mx.upd rfl ?_ | refine Mx.updl rfl ?_ | refine Mx.fin rfl ?_ | refine Mx.inner rfl ?_ | refine Mx.none ?_ | exact Mx.refl | exact Mx.mix)))), rfl, rfl⟩
             ·rintro mm fr ds HH ⟨k, ids, rfl, ⟨hk, hmet⟩, hFr, rfl, eHH⟩
              obtain rfl := eHH.symm
              obtain ⟨frU, rfl⟩ := hFr.eq
              clear hFr
              have hcl := cnt_le ids (mg ls)
              rw [mg_len] at hcl
              have hx := pd_mem (hls H) k
              refine SW.seq_k fun K16 hK16 => ?_
              refine SW.region _ _ _ _ ?_
              refine RL.p T ?_
              refine RL.nil _ _ _ _ ?_
              refine hK16 _ _ _ ?_
              refine SW.seq_k fun K17 hK17 => ?_
              refine SW.cs (fun hc3 => ?_) (fun hc3 => ?_)
              ·skip
               first
                | (exfalso; first | omega | contradiction | (clear hK17 K17; clear hK16 K16; clear hK15 K15; clear hK14 K14; clear hK13 K13; clear hK12 K12; clear hK10 K10; clear hK9 K9; clear hK8 K8; clear hK5 K5; clear hK4 K4; clear hK2 K2; clear hK1 K1; clear hK0 K0; simp at *; done))
                | (
                 refine SW.skip ?_
                 refine hK17 _ _ _ ?_
                 refine SW.seq_k fun K18 hK18 => ?_
                 refine SW.block ?_
                 refine SW.seq_k fun K19 hK19 => ?_
                 refine SW.region _ _ _ _ ?_
                 refine RL.ix T ?_ (hR := fun hs => (by first | exact hB _ | exact Rd.rowh hs (by repeat first | exact At.head _ _ | apply At.tail | apply At.app)))
                 refine RL.leN T ?_ (hR := fun hs => (by first | exact hB _ | exact Rd.rowh hs (by repeat first | exact At.head _ _ | apply At.tail | apply At.app))) (hvs := (by exact (rfl : _ = [_, _])))
                 refine RL.s ?_
                 refine NV.alloc T rfl rfl rfl (by exact (rfl : _ = [_, _])) ?_
                 intro b8_0
                 refine RL.s ?_
                 refine NV.sN T rfl rfl rfl (by exact (rfl : _ = [_, _])) (by exact (rfl : _ = [_, _])) ?_
                 refine RL.nil _ _ _ _ ?_
                 refine hK19 _ _ _ ?_
                 refine SW.seq_k fun K20 hK20 => ?_
                 refine SW.seq_k fun K21 hK21 => ?_
                 refine SW.region _ _ _ _ ?_
                 refine RL.p T ?_
                 refine RL.p T ?_
                 refine RL.lv1 T ?_
                 refine RL.s ?_
                 refine QV.nv _ _ _ (fun c hc => by cases hc) (QV.inSetI (q := (ls.getD k default).id) (ids := ids) T rfl rfl rfl rfl rfl rfl rfl (by repeat first | exact At.head _ _ | apply At.tail)) ?_
                 refine RL.nil _ _ _ _ ?_
                 refine hK21 _ _ _ ?_
                 refine SW.cs (fun hc4 => ?_) (fun hc4 => ?_)
                 ·skip
                  first
                   | (exfalso; first | omega | contradiction | (clear hK21 K21; clear hK20 K20; clear hK19 K19; clear hK18 K18; clear hK17 K17; clear hK16 K16; clear hK15 K15; clear hK14 K14; clear hK13 K13; clear hK12 K12; clear hK10 K10; clear hK9 K9; clear hK8 K8; clear hK5 K5; clear hK4 K4; clear hK2 K2; clear hK1 K1; clear hK0 K0; simp at *; done))
                   | (
                    refine SW.exit ?_
                    refine hK18 _ _ _ ?_
                    refine SW.region _ _ _ _ ?_
                    first | refine RL.ar ?_ | refine RL.p T ?_
                    refine RL.p T ?_
                    first
                      | refine RL.wk (hs := SubI.out) (.obj bm (setI .u32 (ids ++ [(ls.getD k default).id])) :: .row aJ (joinV ls).1.length cJ 5 1 (List.map (Value.int .u8) (joinV ls).1) :: H) ?_
                      | refine RL.wk (hs := SubI.out) (.obj bm (setI .u32 ids) :: .row aJ (joinV ls).1.length cJ 5 1 (List.map (Value.int .u8) (joinV ls).1) :: H) ?_
                    refine RL.nil _ _ _ _ ?_
                    first
                      | exact ⟨nr - (k + 1), (by omega), k + 1, ids, (by rfl), ⟨by omega, met_old hmet (by assumption)⟩, (.cons rfl (.consI rfl (by first | omega | rfl) (.nil (by repeat first | with_reducible exact Mx.refl | with_reducible exact Mx.mix | refine Mx.put rfl ?_ | refine Mx.upd rfl ?_ | refine Mx.updl rfl ?_ | refine Mx.fin rfl ?_ | refine Mx.inner rfl ?_ | refine Mx.none ?_ | exact Mx.refl | exact Mx.mix)))), rfl, rfl⟩
                      | exact ⟨nr - (k + 1), (by omega), k + 1, ids ++ [(ls.getD k default).id], (by rfl), ⟨by omega, met_new (by omega) hmet⟩, (.cons rfl (.consI rfl (by first | omega | rfl) (.nil (by repeat first | with_reducible exact Mx.refl | with_reducible exact Mx.mix | refine Mx.put rfl ?_ | refine Mx.upd rfl ?_ | refine Mx.updl rfl ?_ | refine Mx.fin rfl ?_ | refine Mx.inner rfl ?_ | refine Mx.none ?_ | exact Mx.refl | exact Mx.mix)))), rfl, rfl⟩
                    )
                 ·skip
                  first
                   | (exfalso; first | omega | contradiction | (clear hK21 K21; clear hK20 K20; clear hK19 K19; clear hK18 K18; clear hK17 K17; clear hK16 K16; clear hK15 K15; clear hK14 K14; clear hK13 K13; clear hK12 K12; clear hK10 K10; clear hK9 K9; clear hK8 K8; clear hK5 K5; clear hK4 K4; clear hK2 K2; clear hK1 K1; clear hK0 K0; simp at *; done))
                   | (
                    refine SW.skip ?_
                    refine hK20 _ _ _ ?_
                    refine SW.seq_k fun K22 hK22 => ?_
                    refine SW.region _ _ _ _ ?_
                    refine RL.p T ?_
                    refine RL.p T ?_
                    refine RL.lv1 T ?_
                    refine RL.s ?_
                    refine NV.addSetI (q := (ls.getD k default).id) (ids := ids) T rfl rfl rfl rfl rfl rfl (by repeat first | exact At.head _ _ | apply At.tail) (by assumption) ?_
                    refine RL.nil _ _ _ _ ?_
                    refine hK22 _ _ _ ?_
                    refine SW.seq_k fun K23 hK23 => ?_
                    refine SW.region _ _ _ _ ?_
                    refine RL.p T ?_
                    refine RL.p T ?_
                    refine RL.lv1 T ?_
                    refine RL.c fun18 (fun hs => SC.wk (find aJ (joinV ls).1.length cJ (joinV ls).1 (Rd.rowh (satT hs) (by repeat first | exact At.head _ _ | apply At.tail | apply At.app)) rfl (by omega) hJb (ls.getD k default).id (H := .var b8_0 35 [.int .u32 (ls.getD k default).id, .slice (ls.getD k default).a (ls.getD k default).n (ls.getD k default).c] :: .obj bm (setI .u32 (ids ++ [(ls.getD k default).id])) :: .row aJ (joinV ls).1.length cJ 5 1 (List.map (Value.int .u8) (joinV ls).1) :: H))) ?_
                    rintro _ _ ⟨DF, aF, onF, ocF, osF, rfl, e, hon, ho4, hos, hoq⟩; obtain rfl := e.symm
                    rw [hsv] at hos ⊢
                    have hol : onF = (findM (mg ls) (ls.getD k default).id).length := by rw [hon, ← outD_len, hos]
                    have hca := cnt_add (id := (ls.getD k default).id) (by assumption) (mg ls)
                    have hcl2 := cnt_le (ids ++ [(ls.getD k default).id]) (mg ls)
                    rw [mg_len] at hcl2
                    refine RL.p T ?_
                    refine RL.p T ?_
                    refine RL.p T ?_
                    refine RL.p T ?_
                    refine RL.p T ?_
                    refine RL.nil _ _ _ _ ?_
                    refine hK23 _ _ _ ?_
                    refine SW.seq_k fun K24 hK24 => ?_
                    refine SW.region _ _ _ _ ?_
                    refine RL.p T ?_
                    refine RL.p T ?_
                    refine RL.p T ?_
                    first | refine RL.ar ?_ | refine RL.p T ?_
                    refine RL.p T ?_
                    refine RL.nil _ _ _ _ ?_
                    refine hK24 _ _ _ ?_
                    refine SW.seq_k fun K25 hK25 => ?_
                    refine SW.region _ _ _ _ ?_
                    refine RL.p T ?_
                    refine RL.nil _ _ _ _ ?_
                    refine hK25 _ _ _ ?_
                    refine SW.seq_k fun K26 hK26 => ?_
                    refine SW.seq_k fun K27 hK27 => ?_
                    refine SW.wk (.row aF onF ocF 23 1 (List.flatMap SlC osF) :: (DF ++ .var b8_0 35 [.int .u32 (ls.getD k default).id, .slice (ls.getD k default).a (ls.getD k default).n (ls.getD k default).c] :: .obj bm (setI .u32 (ids ++ [(ls.getD k default).id])) :: .row aJ (joinV ls).1.length cJ 5 1 (List.map (Value.int .u8) (joinV ls).1) :: H)) ?_
                    refine SW.region _ _ _ _ ?_
                    refine RL.p T ?_
                    refine RL.p T ?_
                    refine RL.p T ?_
                    refine RL.nil _ _ _ _ ?_
                    refine hK27 _ _ _ ?_
                    refine SW.block ?_
                    refine SW.loopM (fun frB mm fr ds HH => ∃ (j : Nat), mm = nr - j ∧ (j ≤ nr) ∧ FrIs [2, 11, 13, 58, 59, 60, 61, 62, 63, 64, 65, 66, 67, 68, 69, 70, 71, 72, 73, 74, 75, 76, 77, 78, 79, 80, 81, 82, 83, 84, 85, 86, 87] frB fr [(11, .int .i64 (((findM (mg (ls.take j)) (ls.getD k default).id).length : Nat) : Int)), (58, .int .i64 j)] ∧ ds = [] ∧ HH = (.row aF onF ocF 23 1 (List.flatMap SlC osF) :: (DF ++ .var b8_0 35 [.int .u32 (ls.getD k default).id, .slice (ls.getD k default).a (ls.getD k default).n (ls.getD k default).c] :: .obj bm (setI .u32 (ids ++ [(ls.getD k default).id])) :: .row aJ (joinV ls).1.length cJ 5 1 (List.map (Value.int .u8) (joinV ls).1) :: H))) (n := nr - 0) ?_ ?_
                    ·exact ⟨0, rfl, Nat.zero_le _, (.consI rfl (by first | omega | rfl) (.consI rfl (by first | omega | rfl) (.nil (by repeat first | with_reducible exact Mx.refl | with_reducible exact Mx.mix | refine Mx.put rfl ?_ | refine Mx.upd rfl ?_ | refine Mx.updl rfl ?_ | refine Mx.fin rfl ?_ | refine Mx.inner rfl ?_ | refine Mx.none ?_ | exact Mx.refl | exact Mx.mix)))), rfl, rfl⟩
                    ·rintro mm fr ds HH ⟨j, rfl, hj, hFr, rfl, eHH⟩
                     obtain rfl := eHH.symm
                     obtain ⟨frU, rfl⟩ := hFr.eq
                     clear hFr
                     have hfl := find_le (l := ls) (k := j) (id := (ls.getD k default).id)
                     have hfa := fun h => find_at (l := ls) (k := j) (id := (ls.getD k default).id) h
                     have hfy := fun h => find_yes (l := ls) (k := j) (id := (ls.getD k default).id) h
                     have hfn : j < ls.length → (ls.getD j default).id ≠ (ls.getD k default).id → (findM (mg (ls.take (j + 1))) (ls.getD k default).id).length = (findM (mg (ls.take j)) (ls.getD k default).id).length := fun h h2 => by rw [find_no h h2]
                     have hxj := pd_mem (hls H) j
                     refine SW.seq_k fun K28 hK28 => ?_
                     refine SW.region _ _ _ _ ?_
                     refine RL.p T ?_
                     refine RL.nil _ _ _ _ ?_
                     refine hK28 _ _ _ ?_
                     refine SW.seq_k fun K29 hK29 => ?_
                     refine SW.cs (fun hc5 => ?_) (fun hc5 => ?_)
                     ·skip
                      first
                       | (exfalso; first | omega | contradiction | (clear hK29 K29; clear hK28 K28; clear hK27 K27; clear hK26 K26; clear hK25 K25; clear hK24 K24; clear hK23 K23; clear hK22 K22; clear hK21 K21; clear hK20 K20; clear hK19 K19; clear hK18 K18; clear hK17 K17; clear hK16 K16; clear hK15 K15; clear hK14 K14; clear hK13 K13; clear hK12 K12; clear hK10 K10; clear hK9 K9; clear hK8 K8; clear hK5 K5; clear hK4 K4; clear hK2 K2; clear hK1 K1; clear hK0 K0; simp at *; done))
                       | (
                        refine SW.skip ?_
                        refine hK29 _ _ _ ?_
                        refine SW.seq_k fun K30 hK30 => ?_
                        refine SW.block ?_
                        refine SW.seq_k fun K31 hK31 => ?_
                        refine SW.region _ _ _ _ ?_
                        refine RL.ix T ?_ (hR := fun hs => (by first | exact hB _ | exact Rd.rowh hs (by repeat first | exact At.head _ _ | apply At.tail | apply At.app)))
                        refine RL.leN T ?_ (hR := fun hs => (by first | exact hB _ | exact Rd.rowh hs (by repeat first | exact At.head _ _ | apply At.tail | apply At.app))) (hvs := (by exact (rfl : _ = [_, _])))
                        refine RL.s ?_
                        refine NV.alloc T rfl rfl rfl (by exact (rfl : _ = [_, _])) ?_
                        intro b13_1
                        refine RL.s ?_
                        refine NV.sN T rfl rfl rfl (by exact (rfl : _ = [_, _])) (by exact (rfl : _ = [_, _])) ?_
                        refine RL.nil _ _ _ _ ?_
                        refine hK31 _ _ _ ?_
                        refine SW.seq_k fun K32 hK32 => ?_
                        refine SW.seq_k fun K33 hK33 => ?_
                        refine SW.region _ _ _ _ ?_
                        refine RL.p T ?_
                        refine RL.lv1 T ?_
                        refine RL.p T ?_
                        refine RL.lv1 T ?_
                        refine RL.p T ?_
                        refine RL.nil _ _ _ _ ?_
                        refine hK33 _ _ _ ?_
                        refine SW.cs (fun hc6 => ?_) (fun hc6 => ?_)
                        ·skip
                         first
                          | (exfalso; first | omega | contradiction | (clear hK33 K33; clear hK32 K32; clear hK31 K31; clear hK30 K30; clear hK29 K29; clear hK28 K28; clear hK27 K27; clear hK26 K26; clear hK25 K25; clear hK24 K24; clear hK23 K23; clear hK22 K22; clear hK21 K21; clear hK20 K20; clear hK19 K19; clear hK18 K18; clear hK17 K17; clear hK16 K16; clear hK15 K15; clear hK14 K14; clear hK13 K13; clear hK12 K12; clear hK10 K10; clear hK9 K9; clear hK8 K8; clear hK5 K5; clear hK4 K4; clear hK2 K2; clear hK1 K1; clear hK0 K0; simp at *; done))
                          | (
                           refine SW.exit ?_
                           refine hK30 _ _ _ ?_
                           refine SW.region _ _ _ _ ?_
                           first | refine RL.ar ?_ | refine RL.p T ?_
                           refine RL.p T ?_
                           refine RL.drop ?_
                           refine RL.nil _ _ _ _ ?_
                           exact ⟨nr - (j + 1), (by omega), j + 1, (by rfl), by omega, (.consI rfl (by first | omega | rfl) (.consI rfl (by first | omega | rfl) (.nil (by repeat first | with_reducible exact Mx.refl | with_reducible exact Mx.mix | refine Mx.put rfl ?_ | refine Mx.upd rfl ?_ | refine Mx.updl rfl ?_ | refine Mx.fin rfl ?_ | refine Mx.inner rfl ?_ | refine Mx.none ?_ | exact Mx.refl | exact Mx.mix)))), rfl, rfl⟩
                           )
                        ·skip
                         first
                          | (exfalso; first | omega | contradiction | (clear hK33 K33; clear hK32 K32; clear hK31 K31; clear hK30 K30; clear hK29 K29; clear hK28 K28; clear hK27 K27; clear hK26 K26; clear hK25 K25; clear hK24 K24; clear hK23 K23; clear hK22 K22; clear hK21 K21; clear hK20 K20; clear hK19 K19; clear hK18 K18; clear hK17 K17; clear hK16 K16; clear hK15 K15; clear hK14 K14; clear hK13 K13; clear hK12 K12; clear hK10 K10; clear hK9 K9; clear hK8 K8; clear hK5 K5; clear hK4 K4; clear hK2 K2; clear hK1 K1; clear hK0 K0; simp at *; done))
                          | (
                           refine SW.skip ?_
                           refine hK32 _ _ _ ?_
                           refine SW.seq_k fun K34 hK34 => ?_
                           refine SW.seq_k fun K35 hK35 => ?_
                           obtain ⟨ha, hg⟩ := hfa (by omega) (by omega)
                           refine SW.drawQ [(67, 0), (68, 1), (69, 2), (70, 3), (71, 4), (72, 5), (73, 6), (74, 7), (75, 8), (76, 9), (77, 10), (78, 11), (79, 12), (80, 13), (81, 14), (82, 15), (83, 16), (84, 17)] [[], [0], [1, 0], [2, 1, 0], [2, 1, 0], [4, 2, 1, 0], [3, 2, 1, 0, 5, 4], [2, 1, 0, 6, 3, 5, 4], [7, 2, 1, 0, 6, 3, 5, 4], [8, 7, 2, 1, 0, 6, 3, 5, 4], [8, 7, 2, 1, 0, 6, 3, 5, 4], [9, 8, 7, 2, 1, 0, 6, 3, 5, 4, 10], [11, 9, 8, 7, 2, 1, 0, 6, 3, 5, 4, 10], [8, 7, 2, 1, 0, 6, 3, 5, 4], [13, 8, 7, 2, 1, 0, 6, 3, 5, 4], [12, 11, 9, 8, 7, 2, 1, 0, 6, 3, 5, 4, 10, 14, 13], [15, 12, 11, 9, 8, 7, 2, 1, 0, 6, 3, 5, 4, 10, 14, 13], [8, 7, 2, 1, 0, 6, 3, 5, 4, 16, 15, 12, 11, 9, 10, 14, 13]] mixed (by kernel_rfl) (by kernel_rfl) ?_
                           refine QL.p T ?_
                           refine QL.p T ?_
                           refine QL.p T ?_
                           refine QL.sp 69 (fun hs1 => ?_) (fun hs1 => ?_)
                           ·skip
                            first
                             | (exfalso; first | omega | contradiction | (clear hK35 K35; clear hK34 K34; clear hK33 K33; clear hK32 K32; clear hK31 K31; clear hK30 K30; clear hK29 K29; clear hK28 K28; clear hK27 K27; clear hK26 K26; clear hK25 K25; clear hK24 K24; clear hK23 K23; clear hK22 K22; clear hK21 K21; clear hK20 K20; clear hK19 K19; clear hK18 K18; clear hK17 K17; clear hK16 K16; clear hK15 K15; clear hK14 K14; clear hK13 K13; clear hK12 K12; clear hK10 K10; clear hK9 K9; clear hK8 K8; clear hK5 K5; clear hK4 K4; clear hK2 K2; clear hK1 K1; clear hK0 K0; simp at *; done))
                             | (
                              refine QL.skip rfl rfl ?_
                              refine QL.skip rfl rfl ?_
                              refine QL.skip rfl rfl ?_
                              refine QL.skip rfl rfl ?_
                              refine QL.p T ?_
                              refine QL.p T ?_
                              refine QL.skip rfl rfl ?_
                              refine QL.skip rfl rfl ?_
                              refine QL.skip rfl rfl ?_
                              refine QL.skip rfl rfl ?_
                              refine QL.skip rfl rfl ?_
                              refine QL.skip rfl rfl ?_
                              refine QL.skip rfl rfl ?_
                              refine QL.skip rfl rfl ?_
                              refine QL.p T ?_
                              refine QL.nil ?_
                              refine hK35 _ _ _ ?_
                              refine SW.cond_t rfl ?_
                              refine SW.seq_k fun K36 hK36 => ?_
                              refine SW.region _ _ _ _ ?_
                              refine RL.p T ?_
                              refine RL.nil _ _ _ _ ?_
                              refine hK36 _ _ _ ?_
                              refine SW.ret ?_
                              refine retQ.rr (H) ?_
                              clear hK36 K36 hK35 K35 hK34 K34 hK33 K33 hK32 K32 hK31 K31 hK30 K30 hK29 K29 hK28 K28 hK27 K27 hK26 K26 hK25 K25 hK24 K24 hK23 K23 hK22 K22 hK21 K21 hK20 K20 hK19 K19 hK18 K18 hK17 K17 hK16 K16 hK15 K15 hK14 K14 hK13 K13 hK12 K12 hK10 K10 hK9 K9 hK8 K8 hK5 K5 hK4 K4 hK2 K2 hK1 K1 hK0 K0
                              first
                                | exact ⟨rfl, rfl⟩
                                | exact ⟨boolE (decide_eq_true (by omega)), rfl⟩
                              )
                           ·skip
                            first
                             | (exfalso; first | omega | contradiction | (clear hK35 K35; clear hK34 K34; clear hK33 K33; clear hK32 K32; clear hK31 K31; clear hK30 K30; clear hK29 K29; clear hK28 K28; clear hK27 K27; clear hK26 K26; clear hK25 K25; clear hK24 K24; clear hK23 K23; clear hK22 K22; clear hK21 K21; clear hK20 K20; clear hK19 K19; clear hK18 K18; clear hK17 K17; clear hK16 K16; clear hK15 K15; clear hK14 K14; clear hK13 K13; clear hK12 K12; clear hK10 K10; clear hK9 K9; clear hK8 K8; clear hK5 K5; clear hK4 K4; clear hK2 K2; clear hK1 K1; clear hK0 K0; simp at *; done))
                             | (
                              refine QL.p T ?_
                              refine QL.p T ?_
                              refine QL.p T ?_
                              refine QL.p T ?_
                              refine QL.p T ?_
                              refine QL.p T ?_
                              refine QL.sp 75 (fun hs2 => ?_) (fun hs2 => ?_)
                              ·skip
                               first
                                | (exfalso; first | omega | contradiction | (clear hK35 K35; clear hK34 K34; clear hK33 K33; clear hK32 K32; clear hK31 K31; clear hK30 K30; clear hK29 K29; clear hK28 K28; clear hK27 K27; clear hK26 K26; clear hK25 K25; clear hK24 K24; clear hK23 K23; clear hK22 K22; clear hK21 K21; clear hK20 K20; clear hK19 K19; clear hK18 K18; clear hK17 K17; clear hK16 K16; clear hK15 K15; clear hK14 K14; clear hK13 K13; clear hK12 K12; clear hK10 K10; clear hK9 K9; clear hK8 K8; clear hK5 K5; clear hK4 K4; clear hK2 K2; clear hK1 K1; clear hK0 K0; simp at *; done))
                                | (
                                 refine QL.skip rfl rfl ?_
                                 refine QL.skip rfl rfl ?_
                                 refine QL.skip rfl rfl ?_
                                 refine QL.skip rfl rfl ?_
                                 refine QL.skip rfl rfl ?_
                                 refine QL.skip rfl rfl ?_
                                 refine QL.skip rfl rfl ?_
                                 refine QL.skip rfl rfl ?_
                                 refine QL.p T ?_
                                 refine QL.nil ?_
                                 refine hK35 _ _ _ ?_
                                 refine SW.cond_t rfl ?_
                                 refine SW.seq_k fun K37 hK37 => ?_
                                 refine SW.region _ _ _ _ ?_
                                 refine RL.p T ?_
                                 refine RL.nil _ _ _ _ ?_
                                 refine hK37 _ _ _ ?_
                                 refine SW.ret ?_
                                 refine retQ.rr (H) ?_
                                 clear hK37 K37 hK35 K35 hK34 K34 hK33 K33 hK32 K32 hK31 K31 hK30 K30 hK29 K29 hK28 K28 hK27 K27 hK26 K26 hK25 K25 hK24 K24 hK23 K23 hK22 K22 hK21 K21 hK20 K20 hK19 K19 hK18 K18 hK17 K17 hK16 K16 hK15 K15 hK14 K14 hK13 K13 hK12 K12 hK10 K10 hK9 K9 hK8 K8 hK5 K5 hK4 K4 hK2 K2 hK1 K1 hK0 K0
                                 first
                                   | exact ⟨rfl, rfl⟩
                                   | exact ⟨boolE (decide_eq_true (by omega)), rfl⟩
                                 )
                              ·skip
                               first
                                | (exfalso; first | omega | contradiction | (clear hK35 K35; clear hK34 K34; clear hK33 K33; clear hK32 K32; clear hK31 K31; clear hK30 K30; clear hK29 K29; clear hK28 K28; clear hK27 K27; clear hK26 K26; clear hK25 K25; clear hK24 K24; clear hK23 K23; clear hK22 K22; clear hK21 K21; clear hK20 K20; clear hK19 K19; clear hK18 K18; clear hK17 K17; clear hK16 K16; clear hK15 K15; clear hK14 K14; clear hK13 K13; clear hK12 K12; clear hK10 K10; clear hK9 K9; clear hK8 K8; clear hK5 K5; clear hK4 K4; clear hK2 K2; clear hK1 K1; clear hK0 K0; simp at *; done))
                                | (
                                 refine QL.p T ?_
                                 refine QL.p T ?_
                                 refine QL.ix T ?_ (hR := fun hs => (by first | exact hB _ | exact Rd.rowh hs (by repeat first | exact At.head _ _ | apply At.tail | apply At.app)))
                                 refine QL.le T ?_ (hR := fun hs => (by first | exact hB _ | exact Rd.rowh hs (by repeat first | exact At.head _ _ | apply At.tail | apply At.app))) (hv := (sl_get osF (findM (mg (ls.take j)) (ls.getD k default).id).length (by omega)))
                                 refine QL.p T ?_
                                 refine QL.lv1 T ?_
                                 refine QL.c fun16 (fun hs => sameB ((osF.getD (findM (mg (ls.take j)) (ls.getD k default).id).length default)).a ((ls.getD j default)).a ((osF.getD (findM (mg (ls.take j)) (ls.getD k default).id).length default)).n ((osF.getD (findM (mg (ls.take j)) (ls.getD k default).id).length default)).c ((ls.getD j default)).n ((ls.getD j default)).c (osF.getD (findM (mg (ls.take j)) (ls.getD k default).id).length default).d (ls.getD j default).data ((hoq _ (getD_memS (by omega))).sub SubL.by).rd (pd_mem (hls _) j).rd (hoq _ (getD_memS (by omega))).len (pd_mem (hls H) j).len (hoq _ (getD_memS (by omega))).max (pd_mem (hls H) j).max (by rw [outD_getD (by omega), hos, hg])) ?_
                                 refine QL.p T ?_
                                 refine QL.p T ?_
                                 refine QL.nil ?_
                                 refine hK35 _ _ _ ?_
                                 refine SW.cs (fun hc7 => ?_) (fun hc7 => ?_)
                                 ·skip
                                  first
                                   | (exfalso; first | omega | contradiction | (clear hK35 K35; clear hK34 K34; clear hK33 K33; clear hK32 K32; clear hK31 K31; clear hK30 K30; clear hK29 K29; clear hK28 K28; clear hK27 K27; clear hK26 K26; clear hK25 K25; clear hK24 K24; clear hK23 K23; clear hK22 K22; clear hK21 K21; clear hK20 K20; clear hK19 K19; clear hK18 K18; clear hK17 K17; clear hK16 K16; clear hK15 K15; clear hK14 K14; clear hK13 K13; clear hK12 K12; clear hK10 K10; clear hK9 K9; clear hK8 K8; clear hK5 K5; clear hK4 K4; clear hK2 K2; clear hK1 K1; clear hK0 K0; simp at *; done))
                                   | (
                                    refine SW.seq_k fun K38 hK38 => ?_
                                    refine SW.region _ _ _ _ ?_
                                    refine RL.p T ?_
                                    refine RL.nil _ _ _ _ ?_
                                    refine hK38 _ _ _ ?_
                                    refine SW.ret ?_
                                    refine retQ.rr (H) ?_
                                    clear hK38 K38 hK35 K35 hK34 K34 hK33 K33 hK32 K32 hK31 K31 hK30 K30 hK29 K29 hK28 K28 hK27 K27 hK26 K26 hK25 K25 hK24 K24 hK23 K23 hK22 K22 hK21 K21 hK20 K20 hK19 K19 hK18 K18 hK17 K17 hK16 K16 hK15 K15 hK14 K14 hK13 K13 hK12 K12 hK10 K10 hK9 K9 hK8 K8 hK5 K5 hK4 K4 hK2 K2 hK1 K1 hK0 K0
                                    first
                                      | exact ⟨rfl, rfl⟩
                                      | exact ⟨boolE (decide_eq_true (by omega)), rfl⟩
                                    )
                                 ·skip
                                  first
                                   | (exfalso; first | omega | contradiction | (clear hK35 K35; clear hK34 K34; clear hK33 K33; clear hK32 K32; clear hK31 K31; clear hK30 K30; clear hK29 K29; clear hK28 K28; clear hK27 K27; clear hK26 K26; clear hK25 K25; clear hK24 K24; clear hK23 K23; clear hK22 K22; clear hK21 K21; clear hK20 K20; clear hK19 K19; clear hK18 K18; clear hK17 K17; clear hK16 K16; clear hK15 K15; clear hK14 K14; clear hK13 K13; clear hK12 K12; clear hK10 K10; clear hK9 K9; clear hK8 K8; clear hK5 K5; clear hK4 K4; clear hK2 K2; clear hK1 K1; clear hK0 K0; simp at *; done))
                                   | (
                                    refine SW.skip ?_
                                    refine hK34 _ _ _ ?_
                                    have hy := congrArg List.length (hfy (by omega) (by omega))
                                    rw [List.length_append, List.length_singleton] at hy
                                    refine SW.region _ _ _ _ ?_
                                    refine RL.p T ?_
                                    first | refine RL.ar ?_ | refine RL.p T ?_
                                    refine RL.p T ?_
                                    refine RL.nil _ _ _ _ ?_
                                    refine hK30 _ _ _ ?_
                                    refine SW.region _ _ _ _ ?_
                                    first | refine RL.ar ?_ | refine RL.p T ?_
                                    refine RL.p T ?_
                                    refine RL.drop ?_
                                    refine RL.nil _ _ _ _ ?_
                                    exact ⟨nr - (j + 1), (by omega), j + 1, (by rfl), by omega, (.consI rfl (by first | omega | rfl) (.consI rfl (by first | omega | rfl) (.nil (by repeat first | with_reducible exact Mx.refl | with_reducible exact Mx.mix | refine Mx.put rfl ?_ | refine Mx.upd rfl ?_ | refine Mx.updl rfl ?_ | refine Mx.fin rfl ?_ | refine Mx.inner rfl ?_ | refine Mx.none ?_ | exact Mx.refl | exact Mx.mix)))), rfl, rfl⟩
                                    )
                                 )
                              )
                           )
                        )
                     ·skip
                      first
                       | (exfalso; first | omega | contradiction | (clear hK29 K29; clear hK28 K28; clear hK27 K27; clear hK26 K26; clear hK25 K25; clear hK24 K24; clear hK23 K23; clear hK22 K22; clear hK21 K21; clear hK20 K20; clear hK19 K19; clear hK18 K18; clear hK17 K17; clear hK16 K16; clear hK15 K15; clear hK14 K14; clear hK13 K13; clear hK12 K12; clear hK10 K10; clear hK9 K9; clear hK8 K8; clear hK5 K5; clear hK4 K4; clear hK2 K2; clear hK1 K1; clear hK0 K0; simp at *; done))
                       | (
                        refine SW.exit ?_
                        refine hK26 _ _ _ ?_
                        refine SW.seq_k fun K39 hK39 => ?_
                        have hfe := congrArg List.length (find_len (l := ls) (k := j) (id := (ls.getD k default).id) (by omega))
                        refine SW.region _ _ _ _ ?_
                        refine RL.p T ?_
                        refine RL.p T ?_
                        refine RL.p T ?_
                        refine RL.p T ?_
                        refine RL.nil _ _ _ _ ?_
                        refine hK39 _ _ _ ?_
                        refine SW.cs (fun hc8 => ?_) (fun hc8 => ?_)
                        ·skip
                         first
                          | (exfalso; first | omega | contradiction | (clear hK39 K39; clear hK29 K29; clear hK28 K28; clear hK27 K27; clear hK26 K26; clear hK25 K25; clear hK24 K24; clear hK23 K23; clear hK22 K22; clear hK21 K21; clear hK20 K20; clear hK19 K19; clear hK18 K18; clear hK17 K17; clear hK16 K16; clear hK15 K15; clear hK14 K14; clear hK13 K13; clear hK12 K12; clear hK10 K10; clear hK9 K9; clear hK8 K8; clear hK5 K5; clear hK4 K4; clear hK2 K2; clear hK1 K1; clear hK0 K0; simp at *; done))
                          | (
                           refine SW.seq_k fun K40 hK40 => ?_
                           refine SW.region _ _ _ _ ?_
                           refine RL.p T ?_
                           refine RL.nil _ _ _ _ ?_
                           refine hK40 _ _ _ ?_
                           refine SW.ret ?_
                           refine retQ.rr (H) ?_
                           clear hK40 K40 hK39 K39 hK29 K29 hK28 K28 hK27 K27 hK26 K26 hK25 K25 hK24 K24 hK23 K23 hK22 K22 hK21 K21 hK20 K20 hK19 K19 hK18 K18 hK17 K17 hK16 K16 hK15 K15 hK14 K14 hK13 K13 hK12 K12 hK10 K10 hK9 K9 hK8 K8 hK5 K5 hK4 K4 hK2 K2 hK1 K1 hK0 K0
                           first
                             | exact ⟨rfl, rfl⟩
                             | exact ⟨boolE (decide_eq_true (by omega)), rfl⟩
                           )
                        ·skip
                         first
                          | (exfalso; first | omega | contradiction | (clear hK39 K39; clear hK29 K29; clear hK28 K28; clear hK27 K27; clear hK26 K26; clear hK25 K25; clear hK24 K24; clear hK23 K23; clear hK22 K22; clear hK21 K21; clear hK20 K20; clear hK19 K19; clear hK18 K18; clear hK17 K17; clear hK16 K16; clear hK15 K15; clear hK14 K14; clear hK13 K13; clear hK12 K12; clear hK10 K10; clear hK9 K9; clear hK8 K8; clear hK5 K5; clear hK4 K4; clear hK2 K2; clear hK1 K1; clear hK0 K0; simp at *; done))
                          | (
                           refine SW.skip ?_
                           refine hK18 _ _ _ ?_
                           refine SW.region _ _ _ _ ?_
                           first | refine RL.ar ?_ | refine RL.p T ?_
                           refine RL.p T ?_
                           first
                             | refine RL.wk (hs := SubI.out) (.obj bm (setI .u32 (ids ++ [(ls.getD k default).id])) :: .row aJ (joinV ls).1.length cJ 5 1 (List.map (Value.int .u8) (joinV ls).1) :: H) ?_
                             | refine RL.wk (hs := SubI.out) (.obj bm (setI .u32 ids) :: .row aJ (joinV ls).1.length cJ 5 1 (List.map (Value.int .u8) (joinV ls).1) :: H) ?_
                           refine RL.nil _ _ _ _ ?_
                           first
                             | exact ⟨nr - (k + 1), (by omega), k + 1, ids, (by rfl), ⟨by omega, met_old hmet (by assumption)⟩, (.cons rfl (.consI rfl (by first | omega | rfl) (.nil (by repeat first | with_reducible exact Mx.refl | with_reducible exact Mx.mix | refine Mx.put rfl ?_ | refine Mx.upd rfl ?_ | refine Mx.updl rfl ?_ | refine Mx.fin rfl ?_ | refine Mx.inner rfl ?_ | refine Mx.none ?_ | exact Mx.refl | exact Mx.mix)))), rfl, rfl⟩
                             | exact ⟨nr - (k + 1), (by omega), k + 1, ids ++ [(ls.getD k default).id], (by rfl), ⟨by omega, met_new (by omega) hmet⟩, (.cons rfl (.consI rfl (by first | omega | rfl) (.nil (by repeat first | with_reducible exact Mx.refl | with_reducible exact Mx.mix | refine Mx.put rfl ?_ | refine Mx.upd rfl ?_ | refine Mx.updl rfl ?_ | refine Mx.fin rfl ?_ | refine Mx.inner rfl ?_ | refine Mx.none ?_ | exact Mx.refl | exact Mx.mix)))), rfl, rfl⟩
                           )
                        )
                    )
                 )
              ·skip
               first
                | (exfalso; first | omega | contradiction | (clear hK17 K17; clear hK16 K16; clear hK15 K15; clear hK14 K14; clear hK13 K13; clear hK12 K12; clear hK10 K10; clear hK9 K9; clear hK8 K8; clear hK5 K5; clear hK4 K4; clear hK2 K2; clear hK1 K1; clear hK0 K0; simp at *; done))
                | (
                 refine SW.exit ?_
                 refine hK14 _ _ _ ?_
                 refine SW.seq_k fun K41 hK41 => ?_
                 have hma := met_all (l := ls) (ids := ids) (fun i hi => hmet i (by omega))
                 refine SW.region _ _ _ _ ?_
                 refine RL.p T ?_
                 refine RL.p T ?_
                 refine RL.p T ?_
                 refine RL.p T ?_
                 refine RL.p T ?_
                 refine RL.nil _ _ _ _ ?_
                 refine hK41 _ _ _ ?_
                 refine SW.ret ?_
                 refine retQ.rr (H) ?_
                 clear hK41 K41 hK17 K17 hK16 K16 hK15 K15 hK14 K14 hK13 K13 hK12 K12 hK10 K10 hK9 K9 hK8 K8 hK5 K5 hK4 K4 hK2 K2 hK1 K1 hK0 K0
                 first
                   | exact ⟨rfl, rfl⟩
                   | exact ⟨boolE (decide_eq_true (by omega)), rfl⟩
                 )
             )
          )
       )
    )
end Go.Proofs.YthigfghfpmpiiaaDoor.M
