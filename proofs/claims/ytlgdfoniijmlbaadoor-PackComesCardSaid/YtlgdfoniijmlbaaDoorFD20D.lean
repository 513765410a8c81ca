import Derived.Test.YtlgdfoniijmlbaaDoorProg
import Derived.Test.YtlgdfoniijmlbaaDoorFC20D
set_option linter.unusedVariables false
set_option linter.unusedSimpArgs false
namespace Go.Proofs.YtlgdfoniijmlbaaDoor.M
open Go Go.Sep Go.Proofs
set_option maxRecDepth 10000
set_option maxHeartbeats 2000000
theorem add_ok {w0 : World} {H : List Chunk} (p : Pd) (hp : PdOk w0 H p) (b room wait age : Nat) (used : Int) (la : Option Addr) (ln lc : Nat) (l : List Pd) (hn : ln = l.length) (hu : used = (usedM (mg l) : Nat)) (hu2 : usedM (mg l) ≤ 2048) (hok : ∀ y ∈ l, PdOk w0 H y) (h8 : 8 ≤ room) (hr2 : room ≤ 2048) (hu3 : usedM (mg l) ≤ room) (h : wk (mgP p) ≤ room) : SC Tryd.prog w0 9 #[.pointer (some ⟨b, 0, none⟩), PdA p] (.var b 55 [.int .i64 ((room : Nat) : Int), .int .i64 ((wait : Nat) : Int), .slice la ln lc, .int .i64 used, .int .i64 ((age : Nat) : Int)] :: .row la ln lc 35 2 (List.flatMap PdC l) :: H) (fun v H' => ∃ D oa' on' oc' os' la' ln' lc' l' age' used', v = .tuple #[.slice oa' on' oc', .int .i64 0] ∧ H' = .row oa' on' oc' 30 1 (List.flatMap SlC os') :: .var b 55 [.int .i64 ((room : Nat) : Int), .int .i64 ((wait : Nat) : Int), .slice la' ln' lc', .int .i64 used', .int .i64 ((age' : Nat) : Int)] :: .row la' ln' lc' 35 2 (List.flatMap PdC l') :: (D ++ H) ∧ on' = os'.length ∧ ln' = l'.length ∧ used' = (usedM (mg l') : Nat) ∧ outD os' = addO room (mg l) (mgP p) ∧ mg l' = addL room (mg l) (mgP p) ∧ age' = ageO (outD os') age ∧ (∀ q ∈ os', SlOk w0 D q) ∧ (∀ y ∈ l', y ∈ l ∨ PdOk w0 D y)) := by
 refine SC.enter Tryd.func9 rfl (Nat.le_of_ble_eq_true rfl) ?_
 refine SW.seq_k fun K0 hK0 => ?_
 have hll := usedM_len (mg l)
 rw [mg_len] at hll
 have hpl := hp.len
 refine SW.region _ _ _ _ ?_
 refine RL.s ?_
 refine NV.box rfl (by exact (rfl : _ = [_, _])) ?_
 intro b3_0
 refine RL.nilrow 30 1 ?_
 refine RL.p T ?_
 refine RL.p T ?_
 refine RL.nil _ _ _ _ ?_
 refine hK0 _ _ _ ?_
 refine SW.seq_k fun K1 hK1 => ?_
 refine SW.seq_k fun K2 hK2 => ?_
 refine SW.region _ _ _ _ ?_
 refine RL.p T ?_
 refine RL.p T ?_
 refine RL.nil _ _ _ _ ?_
 refine hK2 _ _ _ ?_
 refine SW.cs (fun hc0 => ?_) (fun hc0 => ?_)
 ·skip
  first
   | (exfalso; first | omega | contradiction | (clear hK2 K2; clear hK1 K1; clear hK0 K0; simp at *; done))
   | (
    refine SW.seq_k fun K3 hK3 => ?_
    refine SW.region _ _ _ _ ?_
    refine RL.nilrow 30 1 ?_
    refine RL.p T ?_
    refine RL.p T ?_
    refine RL.nil _ _ _ _ ?_
    refine hK3 _ _ _ ?_
    refine SW.sat (fun hs => ?_)
    refine SW.ret ?_
    refine retQ.wk ([]) ?_
    refine retQ.rr _ ?_ (hH := fun w hw => hw)
    clear hK3 K3 hK2 K2 hK1 K1 hK0 K0
    exact ⟨rfl, rfl⟩
    )
 ·skip
  first
   | (exfalso; first | omega | contradiction | (clear hK2 K2; clear hK1 K1; clear hK0 K0; simp at *; done))
   | (
    refine SW.skip ?_
    refine hK1 _ _ _ ?_
    refine SW.seq_k fun K4 hK4 => ?_
    refine SW.region _ _ _ _ ?_
    refine RL.q (QV.vN T rfl rfl rfl rfl rfl (by exact (rfl : _ = [_, _]))) ?_
    refine RL.c fun12 (fun hs => psizeO p hp.cons.cons.cons.cons (by omega)) ?_
    rintro _ _ ⟨rfl, e⟩; obtain rfl := e.symm
    refine RL.p T ?_
    refine RL.p T ?_
    refine RL.p T ?_
    refine RL.p T ?_
    refine RL.p T ?_
    refine RL.nil _ _ _ _ ?_
    refine hK4 _ _ _ ?_
    refine SW.seq_k fun K5 hK5 => ?_
    refine SW.seq_k fun K6 hK6 => ?_
    refine SW.region _ _ _ _ ?_
    refine RL.p T ?_
    refine RL.p T ?_
    refine RL.p T ?_
    refine RL.p T ?_
    refine RL.p T ?_
    refine RL.p T ?_
    refine RL.p T ?_
    first | refine RL.lv1 T ?_ | refine RL.le T ?_
    refine RL.p T ?_
    refine RL.p T ?_
    refine RL.nil _ _ _ _ ?_
    refine hK6 _ _ _ ?_
    refine SW.cs (fun hc1 => ?_) (fun hc1 => ?_)
    ·skip
     first
      | (exfalso; first | omega | contradiction | (clear hK6 K6; clear hK5 K5; clear hK4 K4; clear hK2 K2; clear hK1 K1; clear hK0 K0; simp at *; done))
      | (
       refine SW.seq_k fun K7 hK7 => ?_
       refine SW.region _ _ _ _ ?_
       refine RL.nilrow 30 1 ?_
       refine RL.p T ?_
       refine RL.p T ?_
       refine RL.nil _ _ _ _ ?_
       refine hK7 _ _ _ ?_
       refine SW.sat (fun hs => ?_)
       refine SW.ret ?_
       refine retQ.wk ([]) ?_
       refine retQ.rr _ ?_ (hH := fun w hw => hw)
       clear hK7 K7 hK6 K6 hK5 K5 hK4 K4 hK2 K2 hK1 K1 hK0 K0
       exact ⟨rfl, rfl⟩
       )
    ·skip
     first
      | (exfalso; first | omega | contradiction | (clear hK6 K6; clear hK5 K5; clear hK4 K4; clear hK2 K2; clear hK1 K1; clear hK0 K0; simp at *; done))
      | (
       refine SW.skip ?_
       refine hK5 _ _ _ ?_
       refine SW.seq_k fun K8 hK8 => ?_
       refine SW.seq_k fun K9 hK9 => ?_
       refine SW.drawQ [(24, 0), (25, 1), (26, 2), (27, 3), (28, 4), (29, 5), (30, 6), (31, 7), (32, 8), (33, 9), (34, 10)] [[], [0], [1, 0], [2, 1, 0], [], [3, 2, 1, 0, 4], [], [6], [7, 6], [8, 7, 6], [5, 3, 2, 1, 0, 4, 9, 8, 7, 6]] mixed (by kernel_rfl) (by kernel_rfl) ?_
       refine QL.p T ?_
       refine QL.p T ?_
       refine QL.p T ?_
       first | refine QL.lv1 T ?_ | refine QL.le T ?_
       refine QL.p T ?_
       first | refine QL.ar ?_ | refine QL.p T ?_
       refine QL.p T ?_
       refine QL.p T ?_
       refine QL.p T ?_
       first | refine QL.lv1 T ?_ | refine QL.le T ?_
       refine QL.p T ?_
       refine QL.nil ?_
       refine hK9 _ _ _ ?_
       refine SW.cs (fun hc2 => ?_) (fun hc2 => ?_)
       ·skip
        first
         | (exfalso; first | omega | contradiction | (clear hK9 K9; clear hK8 K8; clear hK6 K6; clear hK5 K5; clear hK4 K4; clear hK2 K2; clear hK1 K1; clear hK0 K0; simp at *; done))
         | (
          refine SW.region _ _ _ _ ?_
          refine RL.p T ?_
          refine RL.p T ?_
          refine RL.c fun20 (fun hs => SC.wk (awayV b room wait age used la ln lc l hn hu hu2 (fun y hy => (hok y hy).cons) none 0 0 [] (by omega) rfl (H := .var b3_0 35 (PdC p) :: H))) ?_
          rintro _ _ ⟨D1, oa1, on1, oc1, os1, la1, ln1, lc1, l1, age1, us1, rfl, e, hon1, hln1, hus1, hos1, hl1, hag1, hoq1, hly1⟩; obtain rfl := e.symm
          obtain rfl : l1 = [] := mg_nil.1 hl1
          obtain rfl : us1 = 0 := hus1
          obtain rfl : ln1 = 0 := hln1
          refine RL.p T ?_
          refine RL.nil _ _ _ _ ?_
          refine hK8 _ _ _ ?_
          refine SW.seq_k fun K10 hK10 => ?_
          refine SW.region _ _ _ _ ?_
          refine RL.p T ?_
          refine RL.lv1 T ?_
          refine RL.c fun21 (fun hs => clone p.a p.n p.c p.data (hp.rd.cons.app.cons.cons.cons) hp.len hp.max) ?_
          rintro _ _ ⟨aC, cC, rfl, e⟩; obtain rfl := e.symm
          refine RL.p T ?_
          refine RL.sv1 T ?_
          refine RL.nil _ _ _ _ ?_
          refine hK10 _ _ _ ?_
          refine SW.seq_k fun K11 hK11 => ?_
          refine SW.draw [(42, 0), (43, 1), (44, 2), (45, 3), (46, 4), (47, 5), (48, 6), (49, 7), (50, 8), (51, 9)] [[], [], [1], [2, 1], [3, 2, 1], [], [5], [4, 3, 2, 1, 6, 5], [0, 1, 2, 3, 4, 5, 6, 7], [8, 0, 1, 2, 3, 4, 5, 6, 7], [9, 8, 0, 1, 2, 3, 4, 5, 6, 7]] mixed (by kernel_rfl) (by kernel_rfl) ?_
          refine RD.p T ?_
          refine RD.p T ?_
          refine RD.p T ?_
          refine RD.p T ?_
          refine RD.q rfl rfl (Gd.none rfl) (by first | exact QV.load_var1 T rfl rfl rfl rfl (by repeat first | exact At.head _ _ | assumption | exact At.put (by assumption) _ | apply At.tail | apply At.app) rfl | exact QV.load_varN T rfl rfl rfl rfl rfl (by repeat first | exact At.head _ _ | assumption | exact At.put (by assumption) _ | apply At.tail | apply At.app) (by exact (rfl : _ = [_])) rfl | exact QV.load_elem T rfl rfl rfl rfl (by assumption) (by first | exact map_get _ _ (by omega) | assumption)) ?_
          refine RD.q rfl rfl (Gd.none rfl) (QV.vN T rfl rfl rfl rfl rfl (by exact (rfl : _ = [_, _]))) ?_
          refine RD.nv rfl rfl rfl (Gd.none rfl) ?_
          refine NV.build1 T rfl (by conv => lhs; whnf) rfl rfl (by conv => lhs; whnf) (by exact (rfl : _ = some [_, _])) ?_
          intro b48_1
          refine ⟨(Stab.cons rfl (Gd.none rfl) (by first | exact QV.load_var1 T rfl rfl rfl rfl (by repeat first | exact At.head _ _ | assumption | exact At.put (by assumption) _ | apply At.tail | apply At.app) rfl | exact QV.load_varN T rfl rfl rfl rfl rfl (by repeat first | exact At.head _ _ | assumption | exact At.put (by assumption) _ | apply At.tail | apply At.app) rfl rfl | exact QV.load_elem T rfl rfl rfl rfl (by assumption) (by first | exact map_get _ _ (by omega) | assumption)) (Stab.cons rfl (Gd.none rfl) (pev_sound T rfl) (Stab.cons rfl (Gd.none rfl) (pev_sound T rfl) (Stab.cons rfl (Gd.none rfl) (pev_sound T rfl) (Stab.cons rfl (Gd.none rfl) (pev_sound T rfl) Stab.nil))))), ?_⟩
          refine RD.nv rfl rfl rfl (Gd.none rfl) ?_
          refine NV.apR (enc := PdC) T _ (ys := [(⟨p.id, p.data, aC, p.n, cC⟩ : Pd)]) (fun a4 c4 => ?_)
          refine ⟨(Stab.cons rfl (Gd.none rfl) (pev_sound T rfl) Stab.nil), ?_⟩
          refine RD.p T ?_
          refine RD.p T ?_
          refine RD.nv rfl rfl rfl (Gd.none rfl) ?_
          first
            | refine NV.store_var1 T rfl rfl rfl rfl (by conv => lhs; whnf) rfl (by repeat first | exact At.head _ _ | assumption | exact At.put (by assumption) _ | apply At.tail | apply At.app) rfl rfl ?_
            | refine NV.store_var T rfl rfl rfl (by exact (rfl : _ = [_])) rfl rfl (by repeat first | exact At.head _ _ | assumption | exact At.put (by assumption) _ | apply At.tail | apply At.app) (Nat.le_of_ble_eq_true rfl) rfl ?_
            | refine NV.store_elem T rfl rfl rfl rfl (by conv => lhs; whnf) rfl (by repeat first | exact At.head _ _ | assumption | exact At.put (by assumption) _ | apply At.tail | apply At.app) (by omega) ?_
          refine ⟨Stab.nil, ?_⟩
          refine RD.k rfl rfl ?_
          refine hK11 _ _ _ ?_
          refine SW.seq_k fun K12 hK12 => ?_
          refine SW.region _ _ _ _ ?_
          refine RL.p T ?_
          refine RL.p T ?_
          refine RL.p T ?_
          first | refine RL.lv1 T ?_ | refine RL.le T ?_
          refine RL.p T ?_
          first | refine RL.ar ?_ | refine RL.p T ?_
          refine RL.p T ?_
          refine RL.p T ?_
          refine RL.s ?_
          first
            | refine NV.store_var1 T rfl rfl rfl rfl (by conv => lhs; whnf) rfl (by repeat first | exact At.head _ _ | assumption | exact At.put (by assumption) _ | apply At.tail | apply At.app) rfl rfl ?_
            | refine NV.store_var T rfl rfl rfl (by exact (rfl : _ = [_])) rfl rfl (by repeat first | exact At.head _ _ | assumption | exact At.put (by assumption) _ | apply At.tail | apply At.app) (Nat.le_of_ble_eq_true rfl) rfl ?_
            | refine NV.store_elem T rfl rfl rfl rfl (by conv => lhs; whnf) rfl (by repeat first | exact At.head _ _ | assumption | exact At.put (by assumption) _ | apply At.tail | apply At.app) (by omega) ?_
          refine RL.nil _ _ _ _ ?_
          refine hK12 _ _ _ ?_
          refine SW.seq_k fun K13 hK13 => ?_
          refine SW.seq_k fun K14 hK14 => ?_
          refine SW.drawQ [(60, 0), (61, 1), (62, 2), (63, 3), (64, 4), (65, 5), (66, 6), (67, 7), (68, 8), (69, 9)] [[], [0], [1, 0], [2, 1, 0], [], [4], [5, 4], [6, 5, 4], [3, 2, 1, 0, 7, 6, 5, 4], [8, 3, 2, 1, 0, 7, 6, 5, 4]] mixed (by kernel_rfl) (by kernel_rfl) ?_
          refine QL.p T ?_
          refine QL.p T ?_
          refine QL.p T ?_
          first | refine QL.lv1 T ?_ | refine QL.le T ?_
          refine QL.p T ?_
          refine QL.p T ?_
          refine QL.p T ?_
          first | refine QL.lv1 T ?_ | refine QL.le T ?_
          first | refine QL.ar ?_ | refine QL.p T ?_
          refine QL.p T ?_
          refine QL.nil ?_
          refine hK14 _ _ _ ?_
          refine SW.cs (fun hc3 => ?_) (fun hc3 => ?_)
          ·skip
           first
            | (exfalso; first | omega | contradiction | (clear hK14 K14; clear hK13 K13; clear hK12 K12; clear hK11 K11; clear hK10 K10; clear hK9 K9; clear hK8 K8; clear hK6 K6; clear hK5 K5; clear hK4 K4; clear hK2 K2; clear hK1 K1; clear hK0 K0; simp at *; done))
            | (
             refine SW.region _ _ _ _ ?_
             refine RL.p T ?_
             refine RL.p T ?_
             refine RL.c fun20 (fun hs => SC.wk (awayV b room wait age1 (0 + ((wk (mgP p) : Nat) : Int)) a4 (0 + 1) c4 ([] ++ [(⟨p.id, p.data, aC, p.n, cC⟩ : Pd)]) rfl (by rw [mg_app, usedM_app]; simp [mg, usedM, mgP]) (by rw [mg_app, usedM_app]; have : usedM (mg [(⟨p.id, p.data, aC, p.n, cC⟩ : Pd)]) = wk (mgP p) := usedM_one _; have : usedM (mg []) = 0 := rfl; omega) (fun y hy => by rw [List.mem_singleton.1 hy]; exact ⟨hp.id, hp.len, hp.max, hp.byte, Rd.rowh (satT (H0 := .row aC p.n cC 5 1 (List.map (Value.int .u8) (p.data)) :: (D1 ++ H)) hs) (At.head _ _)⟩) oa1 on1 oc1 os1 (by have := outD_len os1; rw [hos1] at this; have h3 : (flushO (mg l)).length ≤ 1 := flushO_len _; simp [outD] at this; omega) hon1 (H := .row aC p.n cC 5 1 (List.map (Value.int .u8) (p.data)) :: (D1 ++ H)))) ?_
             rintro _ _ ⟨D2, oa2, on2, oc2, os2, la2, ln2, lc2, l2, age2, us2, rfl, e, hon2, hln2, hus2, hos2, hl2, hag2, hoq2, hly2⟩; obtain rfl := e.symm
             refine RL.p T ?_
             refine RL.nil _ _ _ _ ?_
             refine hK13 _ _ _ ?_
             refine SW.seq_k fun K15 hK15 => ?_
             refine SW.region _ _ _ _ ?_
             refine RL.p T ?_
             refine RL.p T ?_
             refine RL.p T ?_
             refine RL.nil _ _ _ _ ?_
             refine hK15 _ _ _ ?_
             refine SW.sat (fun hs => ?_)
             refine SW.ret ?_
             refine retQ.wk (.row oa2 on2 oc2 30 1 (List.flatMap SlC os2) :: .var b 55 [.int .i64 ((room : Nat) : Int), .int .i64 ((wait : Nat) : Int), .slice la2 ln2 lc2, .int .i64 us2, .int .i64 ((age2 : Nat) : Int)] :: .row la2 ln2 lc2 35 2 (List.flatMap PdC l2) :: (D2 ++ (.row aC p.n cC 5 1 (List.map (Value.int .u8) (p.data)) :: (D1 ++ H)))) ?_
             refine retQ.rr _ ?_ (hH := fun w hw => hw)
             clear hK15 K15 hK14 K14 hK13 K13 hK12 K12 hK11 K11 hK10 K10 hK9 K9 hK8 K8 hK6 K6 hK5 K5 hK4 K4 hK2 K2 hK1 K1 hK0 K0
             have hA := addAB (room := room) (ms := mg l) (m := mgP p) (by omega) h (by omega)
             have hO : outD os2 = addO room (mg l) (mgP p) := by rw [hA.1, hos2, hos1]; rfl
             refine ⟨D2 ++ (.row aC p.n cC 5 1 (List.map (Value.int .u8) (p.data)) :: D1), oa2, on2, oc2, os2, la2, ln2, lc2, l2, age2, us2, rfl, by simp only [List.append_assoc, List.cons_append], hon2, hln2, hus2, hO, by rw [hA.2, hl2], ?_, fun q hq => (hoq2 q hq).elim (fun g => ((hoq1 q g).resolve_left (by simp)).sub SubL.by) (fun g => g.sub SubL.by), fun y hy => by rw [mg_nil.1 hl2] at hy; cases hy⟩
             rw [hO, ageO_ne (by rw [hA.1]; simp [flushO])]
             rw [hag2, if_neg (by simp)]
             )
          ·skip
           first
            | (exfalso; first | omega | contradiction | (clear hK14 K14; clear hK13 K13; clear hK12 K12; clear hK11 K11; clear hK10 K10; clear hK9 K9; clear hK8 K8; clear hK6 K6; clear hK5 K5; clear hK4 K4; clear hK2 K2; clear hK1 K1; clear hK0 K0; simp at *; done))
            | (
             refine SW.skip ?_
             refine hK13 _ _ _ ?_
             refine SW.seq_k fun K16 hK16 => ?_
             refine SW.region _ _ _ _ ?_
             refine RL.p T ?_
             refine RL.p T ?_
             refine RL.p T ?_
             refine RL.nil _ _ _ _ ?_
             refine hK16 _ _ _ ?_
             refine SW.sat (fun hs => ?_)
             refine SW.ret ?_
             refine retQ.wk (.row oa1 on1 oc1 30 1 (List.flatMap SlC os1) :: .var b 55 [.int .i64 ((room : Nat) : Int), .int .i64 ((wait : Nat) : Int), .slice a4 (0 + 1) c4, .int .i64 (0 + ((wk (mgP p) : Nat) : Int)), .int .i64 ((age1 : Nat) : Int)] :: .row a4 (0 + 1) c4 35 2 (List.flatMap PdC ([] ++ [(⟨p.id, p.data, aC, p.n, cC⟩ : Pd)])) :: (.row aC p.n cC 5 1 (List.map (Value.int .u8) (p.data)) :: (D1 ++ H))) ?_
             refine retQ.rr _ ?_ (hH := fun w hw => hw)
             clear hK16 K16 hK14 K14 hK13 K13 hK12 K12 hK11 K11 hK10 K10 hK9 K9 hK8 K8 hK6 K6 hK5 K5 hK4 K4 hK2 K2 hK1 K1 hK0 K0
             have hA := addAn (room := room) (ms := mg l) (m := mgP p) (by omega) h (by omega)
             have hO : outD os1 = addO room (mg l) (mgP p) := by rw [hA.1, hos1]; rfl
             have hne := add_ne (room := room) (ms := mg l) (m := mgP p) (by omega) h
             refine ⟨.row aC p.n cC 5 1 (List.map (Value.int .u8) (p.data)) :: D1, oa1, on1, oc1, os1, a4, 0 + 1, c4, [] ++ [(⟨p.id, p.data, aC, p.n, cC⟩ : Pd)], age1, (0 + ((wk (mgP p) : Nat) : Int)), rfl, rfl, hon1, rfl, by simp [mg, usedM, mgP], hO, by rw [hA.2]; rfl, ?_, fun q hq => ((hoq1 q hq).resolve_left (by simp)).sub SubL.by, fun y hy => .inr ?_⟩
             · rw [hO, ageO_ne (by rw [hA.1, flushO_ne hne]; simp), hag1, if_neg (fun e => hne (by rw [e]; rfl))]
             · rw [List.mem_singleton.1 hy]
               exact ⟨hp.id, hp.len, hp.max, hp.byte, Rd.rowh (satT (H0 := .row aC p.n cC 5 1 (List.map (Value.int .u8) (p.data)) :: D1) hs) (At.head _ _)⟩
             )
          )
       ·skip
        first
         | (exfalso; first | omega | contradiction | (clear hK9 K9; clear hK8 K8; clear hK6 K6; clear hK5 K5; clear hK4 K4; clear hK2 K2; clear hK1 K1; clear hK0 K0; simp at *; done))
         | (
          refine SW.skip ?_
          refine hK8 _ _ _ ?_
          refine SW.seq_k fun K17 hK17 => ?_
          refine SW.region _ _ _ _ ?_
          refine RL.p T ?_
          refine RL.lv1 T ?_
          refine RL.c fun21 (fun hs => clone p.a p.n p.c p.data (hp.rd.cons.cons.cons.cons) hp.len hp.max) ?_
          rintro _ _ ⟨aC, cC, rfl, e⟩; obtain rfl := e.symm
          refine RL.p T ?_
          refine RL.sv1 T ?_
          refine RL.nil _ _ _ _ ?_
          refine hK17 _ _ _ ?_
          refine SW.seq_k fun K18 hK18 => ?_
          refine SW.draw [(42, 0), (43, 1), (44, 2), (45, 3), (46, 4), (47, 5), (48, 6), (49, 7), (50, 8), (51, 9)] [[], [], [1], [2, 1], [3, 2, 1], [], [5], [4, 3, 2, 1, 6, 5], [0, 1, 2, 3, 4, 5, 6, 7], [8, 0, 1, 2, 3, 4, 5, 6, 7], [9, 8, 0, 1, 2, 3, 4, 5, 6, 7]] mixed (by kernel_rfl) (by kernel_rfl) ?_
          refine RD.p T ?_
          refine RD.p T ?_
          refine RD.p T ?_
          refine RD.p T ?_
          refine RD.q rfl rfl (Gd.none rfl) (by first | exact QV.load_var1 T rfl rfl rfl rfl (by repeat first | exact At.head _ _ | assumption | exact At.put (by assumption) _ | apply At.tail | apply At.app) rfl | exact QV.load_varN T rfl rfl rfl rfl rfl (by repeat first | exact At.head _ _ | assumption | exact At.put (by assumption) _ | apply At.tail | apply At.app) (by exact (rfl : _ = [_])) rfl | exact QV.load_elem T rfl rfl rfl rfl (by assumption) (by first | exact map_get _ _ (by omega) | assumption)) ?_
          refine RD.q rfl rfl (Gd.none rfl) (QV.vN T rfl rfl rfl rfl rfl (by exact (rfl : _ = [_, _]))) ?_
          refine RD.nv rfl rfl rfl (Gd.none rfl) ?_
          refine NV.build1 T rfl (by conv => lhs; whnf) rfl rfl (by conv => lhs; whnf) (by exact (rfl : _ = some [_, _])) ?_
          intro b48_2
          refine ⟨(Stab.cons rfl (Gd.none rfl) (by first | exact QV.load_var1 T rfl rfl rfl rfl (by repeat first | exact At.head _ _ | assumption | exact At.put (by assumption) _ | apply At.tail | apply At.app) rfl | exact QV.load_varN T rfl rfl rfl rfl rfl (by repeat first | exact At.head _ _ | assumption | exact At.put (by assumption) _ | apply At.tail | apply At.app) rfl rfl | exact QV.load_elem T rfl rfl rfl rfl (by assumption) (by first | exact map_get _ _ (by omega) | assumption)) (Stab.cons rfl (Gd.none rfl) (pev_sound T rfl) (Stab.cons rfl (Gd.none rfl) (pev_sound T rfl) (Stab.cons rfl (Gd.none rfl) (pev_sound T rfl) (Stab.cons rfl (Gd.none rfl) (pev_sound T rfl) Stab.nil))))), ?_⟩
          refine RD.nv rfl rfl rfl (Gd.none rfl) ?_
          refine NV.apR (enc := PdC) T _ (ys := [(⟨p.id, p.data, aC, p.n, cC⟩ : Pd)]) (fun a4 c4 => ?_)
          refine ⟨(Stab.cons rfl (Gd.none rfl) (pev_sound T rfl) Stab.nil), ?_⟩
          refine RD.p T ?_
          refine RD.p T ?_
          refine RD.nv rfl rfl rfl (Gd.none rfl) ?_
          first
            | refine NV.store_var1 T rfl rfl rfl rfl (by conv => lhs; whnf) rfl (by repeat first | exact At.head _ _ | assumption | exact At.put (by assumption) _ | apply At.tail | apply At.app) rfl rfl ?_
            | refine NV.store_var T rfl rfl rfl (by exact (rfl : _ = [_])) rfl rfl (by repeat first | exact At.head _ _ | assumption | exact At.put (by assumption) _ | apply At.tail | apply At.app) (Nat.le_of_ble_eq_true rfl) rfl ?_
            | refine NV.store_elem T rfl rfl rfl rfl (by conv => lhs; whnf) rfl (by repeat first | exact At.head _ _ | assumption | exact At.put (by assumption) _ | apply At.tail | apply At.app) (by omega) ?_
          refine ⟨Stab.nil, ?_⟩
          refine RD.k rfl rfl ?_
          refine hK18 _ _ _ ?_
          refine SW.seq_k fun K19 hK19 => ?_
          refine SW.region _ _ _ _ ?_
          refine RL.p T ?_
          refine RL.p T ?_
          refine RL.p T ?_
          first | refine RL.lv1 T ?_ | refine RL.le T ?_
          refine RL.p T ?_
          first | refine RL.ar ?_ | refine RL.p T ?_
          refine RL.p T ?_
          refine RL.p T ?_
          refine RL.s ?_
          first
            | refine NV.store_var1 T rfl rfl rfl rfl (by conv => lhs; whnf) rfl (by repeat first | exact At.head _ _ | assumption | exact At.put (by assumption) _ | apply At.tail | apply At.app) rfl rfl ?_
            | refine NV.store_var T rfl rfl rfl (by exact (rfl : _ = [_])) rfl rfl (by repeat first | exact At.head _ _ | assumption | exact At.put (by assumption) _ | apply At.tail | apply At.app) (Nat.le_of_ble_eq_true rfl) rfl ?_
            | refine NV.store_elem T rfl rfl rfl rfl (by conv => lhs; whnf) rfl (by repeat first | exact At.head _ _ | assumption | exact At.put (by assumption) _ | apply At.tail | apply At.app) (by omega) ?_
          refine RL.nil _ _ _ _ ?_
          refine hK19 _ _ _ ?_
          refine SW.seq_k fun K20 hK20 => ?_
          refine SW.seq_k fun K21 hK21 => ?_
          refine SW.drawQ [(60, 0), (61, 1), (62, 2), (63, 3), (64, 4), (65, 5), (66, 6), (67, 7), (68, 8), (69, 9)] [[], [0], [1, 0], [2, 1, 0], [], [4], [5, 4], [6, 5, 4], [3, 2, 1, 0, 7, 6, 5, 4], [8, 3, 2, 1, 0, 7, 6, 5, 4]] mixed (by kernel_rfl) (by kernel_rfl) ?_
          refine QL.p T ?_
          refine QL.p T ?_
          refine QL.p T ?_
          first | refine QL.lv1 T ?_ | refine QL.le T ?_
          refine QL.p T ?_
          refine QL.p T ?_
          refine QL.p T ?_
          first | refine QL.lv1 T ?_ | refine QL.le T ?_
          first | refine QL.ar ?_ | refine QL.p T ?_
          refine QL.p T ?_
          refine QL.nil ?_
          refine hK21 _ _ _ ?_
          refine SW.cs (fun hc4 => ?_) (fun hc4 => ?_)
          ·skip
           first
            | (exfalso; first | omega | contradiction | (clear hK21 K21; clear hK20 K20; clear hK19 K19; clear hK18 K18; clear hK17 K17; clear hK9 K9; clear hK8 K8; clear hK6 K6; clear hK5 K5; clear hK4 K4; clear hK2 K2; clear hK1 K1; clear hK0 K0; simp at *; done))
            | (
             refine SW.region _ _ _ _ ?_
             refine RL.p T ?_
             refine RL.p T ?_
             refine RL.c fun20 (fun hs => SC.wk (awayV b room wait age (used + ((wk (mgP p) : Nat) : Int)) a4 (ln + 1) c4 (l ++ [(⟨p.id, p.data, aC, p.n, cC⟩ : Pd)]) (by simp [hn]) (by rw [mg_app, usedM_app]; simp [mg, usedM, mgP, hu]) (by rw [mg_app, usedM_app]; have : usedM (mg [(⟨p.id, p.data, aC, p.n, cC⟩ : Pd)]) = wk (mgP p) := usedM_one _; omega) (fun y hy => (List.mem_append.1 hy).elim (fun hy => (hok y hy).cons) (fun hy => by rw [List.mem_singleton.1 hy]; exact ⟨hp.id, hp.len, hp.max, hp.byte, Rd.rowh (satT (H0 := .row aC p.n cC 5 1 (List.map (Value.int .u8) (p.data)) :: H) hs) (At.head _ _)⟩)) none 0 0 [] (by omega) rfl (H := .row aC p.n cC 5 1 (List.map (Value.int .u8) (p.data)) :: H))) ?_
             rintro _ _ ⟨D2, oa2, on2, oc2, os2, la2, ln2, lc2, l2, age2, us2, rfl, e, hon2, hln2, hus2, hos2, hl2, hag2, hoq2, hly2⟩; obtain rfl := e.symm
             refine RL.p T ?_
             refine RL.nil _ _ _ _ ?_
             refine hK20 _ _ _ ?_
             refine SW.seq_k fun K22 hK22 => ?_
             refine SW.region _ _ _ _ ?_
             refine RL.p T ?_
             refine RL.p T ?_
             refine RL.p T ?_
             refine RL.nil _ _ _ _ ?_
             refine hK22 _ _ _ ?_
             refine SW.sat (fun hs => ?_)
             refine SW.ret ?_
             refine retQ.wk (.row oa2 on2 oc2 30 1 (List.flatMap SlC os2) :: .var b 55 [.int .i64 ((room : Nat) : Int), .int .i64 ((wait : Nat) : Int), .slice la2 ln2 lc2, .int .i64 us2, .int .i64 ((age2 : Nat) : Int)] :: .row la2 ln2 lc2 35 2 (List.flatMap PdC l2) :: (D2 ++ (.row aC p.n cC 5 1 (List.map (Value.int .u8) (p.data)) :: H))) ?_
             refine retQ.rr _ ?_ (hH := fun w hw => hw)
             clear hK22 K22 hK21 K21 hK20 K20 hK19 K19 hK18 K18 hK17 K17 hK9 K9 hK8 K8 hK6 K6 hK5 K5 hK4 K4 hK2 K2 hK1 K1 hK0 K0
             have hA := addNB (room := room) (ms := mg l) (m := mgP p) (by omega) (by omega)
             have hO : outD os2 = addO room (mg l) (mgP p) := by rw [hA.1, hos2, mg_app]; rfl
             refine ⟨D2 ++ [.row aC p.n cC 5 1 (List.map (Value.int .u8) (p.data))], oa2, on2, oc2, os2, la2, ln2, lc2, l2, age2, us2, rfl, by simp only [List.append_assoc, List.cons_append, List.nil_append], hon2, hln2, hus2, hO, by rw [hA.2, hl2], ?_, fun q hq => ((hoq2 q hq).resolve_left (by simp)).sub SubL.by, fun y hy => by rw [mg_nil.1 hl2] at hy; cases hy⟩
             rw [hO, ageO_ne (by rw [hA.1]; simp [flushO])]
             rw [hag2, if_neg (by simp)]
             )
          ·skip
           first
            | (exfalso; first | omega | contradiction | (clear hK21 K21; clear hK20 K20; clear hK19 K19; clear hK18 K18; clear hK17 K17; clear hK9 K9; clear hK8 K8; clear hK6 K6; clear hK5 K5; clear hK4 K4; clear hK2 K2; clear hK1 K1; clear hK0 K0; simp at *; done))
            | (
             refine SW.skip ?_
             refine hK20 _ _ _ ?_
             refine SW.seq_k fun K23 hK23 => ?_
             refine SW.region _ _ _ _ ?_
             refine RL.p T ?_
             refine RL.p T ?_
             refine RL.p T ?_
             refine RL.nil _ _ _ _ ?_
             refine hK23 _ _ _ ?_
             refine SW.sat (fun hs => ?_)
             refine SW.ret ?_
             refine retQ.wk (.row none 0 0 30 1 (List.flatMap SlC []) :: .var b 55 [.int .i64 ((room : Nat) : Int), .int .i64 ((wait : Nat) : Int), .slice a4 (ln + 1) c4, .int .i64 (used + ((wk (mgP p) : Nat) : Int)), .int .i64 ((age : Nat) : Int)] :: .row a4 (ln + 1) c4 35 2 (List.flatMap PdC (l ++ [(⟨p.id, p.data, aC, p.n, cC⟩ : Pd)])) :: (.row aC p.n cC 5 1 (List.map (Value.int .u8) (p.data)) :: H)) ?_
             refine retQ.rr _ ?_ (hH := fun w hw => hw)
             clear hK23 K23 hK21 K21 hK20 K20 hK19 K19 hK18 K18 hK17 K17 hK9 K9 hK8 K8 hK6 K6 hK5 K5 hK4 K4 hK2 K2 hK1 K1 hK0 K0
             have hA := addNn (room := room) (ms := mg l) (m := mgP p) (by omega)
             have hO : outD [] = addO room (mg l) (mgP p) := by rw [hA.1]; rfl
             refine ⟨[.row aC p.n cC 5 1 (List.map (Value.int .u8) (p.data))], none, 0, 0, [], a4, ln + 1, c4, l ++ [(⟨p.id, p.data, aC, p.n, cC⟩ : Pd)], age, (used + ((wk (mgP p) : Nat) : Int)), rfl, rfl, rfl, by simp [hn], by rw [mg_app, usedM_app]; simp [mg, usedM, mgP, hu], hO, by rw [hA.2, mg_app]; rfl, by rw [hO, hA.1]; rfl, by simp, fun y hy => (List.mem_append.1 hy).imp id fun hy => ?_⟩
             rw [List.mem_singleton.1 hy]
             exact ⟨hp.id, hp.len, hp.max, hp.byte, Rd.rowh (satT (H0 := [.row aC p.n cC 5 1 (List.map (Value.int .u8) (p.data))]) hs) (At.head _ _)⟩
             )
          )
       )
    )
end Go.Proofs.YtlgdfoniijmlbaaDoor.M
