import Derived.Test.YthigfghfpmpiiaaDoorProg
import Derived.Test.YthigfghfpmpiiaaDoorFA19D
import Derived.Test.YthigfghfpmpiiaaDoorS26
import Derived.Test.YthigfghfpmpiiaaDoorP19d
set_option linter.unusedVariables false
set_option linter.unusedSimpArgs false
namespace Go.Proofs.YthigfghfpmpiiaaDoor.M
open Go Go.Sep Go.Proofs
set_option maxRecDepth 10000
set_option maxHeartbeats 20000000
theorem pduNoughts {w0 : World} {H : List Chunk} (p : Pd) (hp : ∀ H, PdOk w0 H p) (z b : Int) (hz0 : 0 ≤ z) (hz1 : z ≤ 255) (hb0 : 0 ≤ b) (hb1 : b ≤ 255) : SC Tryd.prog w0 5 #[PdA p, .int .u8 z, .int .u8 b] H (fun v H' => v = .bool true ∧ H' = H) := by
 refine SC.enter Tryd.func5 rfl (Nat.le_of_ble_eq_true rfl) ?_
 refine SW.seq_k fun K0 hK0 => ?_
 refine SW.region _ _ _ _ ?_
 refine RL.s ?_
 refine NV.box rfl (by exact (rfl : _ = [_, _])) ?_
 intro b3_0
 refine RL.p T ?_
 refine RL.nil _ _ _ _ ?_
 refine hK0 _ _ _ ?_
 refine SW.seq_k fun K1 hK1 => ?_
 refine SW.seq_k fun K2 hK2 => ?_
 refine SW.region _ _ _ _ ?_
 refine RL.c fun8 (fun hs => alive) ?_
 rintro _ _ ⟨rfl, e⟩; obtain rfl := e.symm
 refine RL.p T ?_
 refine RL.nil _ _ _ _ ?_
 refine hK2 _ _ _ ?_
 refine SW.cs (fun hc0 => ?_) (fun hc0 => ?_)
 ·skip
  first
   | (exfalso; first | omega | contradiction | (clear hK2 K2; clear hK1 K1; clear hK0 K0; simp at *; done))
   | (
    refine SW.seq_k fun K3 hK3 => ?_
    refine SW.region _ _ _ _ ?_
    refine RL.p T ?_
    refine RL.nil _ _ _ _ ?_
    refine hK3 _ _ _ ?_
    refine SW.ret ?_
    refine retQ.rr (H) ?_
    clear hK3 K3 hK2 K2 hK1 K1 hK0 K0
    first
      | exact ⟨rfl, rfl⟩
      | exact ⟨boolE (decide_eq_true (by omega)), rfl⟩
    )
 ·skip
  first
   | (exfalso; first | omega | contradiction | (clear hK2 K2; clear hK1 K1; clear hK0 K0; simp at *; done))
   | (
    refine SW.skip ?_
    refine hK1 _ _ _ ?_
    refine SW.seq_k fun K4 hK4 => ?_
    have hpl := (hp H).len
    have hpm := (hp H).max
    refine SW.region _ _ _ _ ?_
    refine RL.q (QV.vN T rfl rfl rfl rfl rfl (by exact (rfl : _ = [_, _]))) ?_
    refine RL.bs T rfl rfl rfl (by exact (rfl : _ = some [_, _])) (fun b17_1 => ?_)
    refine RL.c fun10 (fun hs => pjoin [p] _ 1 1 (Rd.rowh hs (by repeat first | exact At.head _ _ | apply At.tail | apply At.app)) rfl (by omega) (one_ok (hp _))) ?_
    rintro _ _ ⟨a1, c1, rfl, e⟩; obtain rfl := e.symm
    refine RL.p T ?_
    refine RL.p T ?_
    refine RL.p T ?_
    refine RL.p T ?_
    refine RL.p T ?_
    refine RL.nil _ _ _ _ ?_
    refine hK4 _ _ _ ?_
    refine SW.seq_k fun K5 hK5 => ?_
    refine SW.seq_k fun K6 hK6 => ?_
    refine SW.region _ _ _ _ ?_
    refine RL.p T ?_
    refine RL.lv1 T ?_
    refine RL.p T ?_
    refine RL.p T ?_
    refine RL.p T ?_
    refine RL.sp 25 (fun hs0 => ?_) (fun hs0 => ?_)
    ·skip
     first
      | (exfalso; first | omega | contradiction | (clear hK6 K6; clear hK5 K5; clear hK4 K4; clear hK2 K2; clear hK1 K1; clear hK0 K0; simp at *; done))
      | (
       refine RL.guard_no rfl rfl rfl ?_
       refine RL.guard_no rfl rfl rfl ?_
       refine RL.p T ?_
       refine RL.p T ?_
       refine RL.guard_no rfl rfl rfl ?_
       refine RL.guard_no rfl rfl rfl ?_
       refine RL.p T ?_
       refine RL.nil _ _ _ _ ?_
       refine hK6 _ _ _ ?_
       refine SW.cond_t rfl ?_
       refine SW.seq_k fun K7 hK7 => ?_
       refine SW.region _ _ _ _ ?_
       refine RL.p T ?_
       refine RL.nil _ _ _ _ ?_
       refine hK7 _ _ _ ?_
       refine SW.ret ?_
       refine retQ.rr (H) ?_
       clear hK7 K7 hK6 K6 hK5 K5 hK4 K4 hK2 K2 hK1 K1 hK0 K0
       first
         | exact ⟨rfl, rfl⟩
         | exact ⟨boolE (decide_eq_true (by omega)), rfl⟩
       )
    ·skip
     first
      | (exfalso; first | omega | contradiction | (clear hK6 K6; clear hK5 K5; clear hK4 K4; clear hK2 K2; clear hK1 K1; clear hK0 K0; simp at *; done))
      | (
       refine RL.p T ?_
       refine RL.p T ?_
       refine RL.p T ?_
       refine RL.p T ?_
       refine RL.sp 29 (fun hs1 => ?_) (fun hs1 => ?_)
       ·skip
        first
         | (exfalso; first | omega | contradiction | (clear hK6 K6; clear hK5 K5; clear hK4 K4; clear hK2 K2; clear hK1 K1; clear hK0 K0; simp at *; done))
         | (
          refine RL.guard_no rfl rfl rfl ?_
          refine RL.guard_no rfl rfl rfl ?_
          refine RL.p T ?_
          refine RL.nil _ _ _ _ ?_
          refine hK6 _ _ _ ?_
          refine SW.cond_t rfl ?_
          refine SW.seq_k fun K8 hK8 => ?_
          refine SW.region _ _ _ _ ?_
          refine RL.p T ?_
          refine RL.nil _ _ _ _ ?_
          refine hK8 _ _ _ ?_
          refine SW.ret ?_
          refine retQ.rr (H) ?_
          clear hK8 K8 hK6 K6 hK5 K5 hK4 K4 hK2 K2 hK1 K1 hK0 K0
          first
            | exact ⟨rfl, rfl⟩
            | exact ⟨boolE (decide_eq_true (by omega)), rfl⟩
          )
       ·skip
        first
         | (exfalso; first | omega | contradiction | (clear hK6 K6; clear hK5 K5; clear hK4 K4; clear hK2 K2; clear hK1 K1; clear hK0 K0; simp at *; done))
         | (
          refine RL.p T ?_
          refine RL.p T ?_
          refine RL.p T ?_
          refine RL.nil _ _ _ _ ?_
          refine hK6 _ _ _ ?_
          refine SW.cs (fun hc1 => ?_) (fun hc1 => ?_)
          ·skip
           first
            | (exfalso; first | omega | contradiction | (clear hK6 K6; clear hK5 K5; clear hK4 K4; clear hK2 K2; clear hK1 K1; clear hK0 K0; simp at *; done))
            | (
             refine SW.seq_k fun K9 hK9 => ?_
             refine SW.region _ _ _ _ ?_
             refine RL.p T ?_
             refine RL.nil _ _ _ _ ?_
             refine hK9 _ _ _ ?_
             refine SW.ret ?_
             refine retQ.rr (H) ?_
             clear hK9 K9 hK6 K6 hK5 K5 hK4 K4 hK2 K2 hK1 K1 hK0 K0
             first
               | exact ⟨rfl, rfl⟩
               | exact ⟨boolE (decide_eq_true (by omega)), rfl⟩
             )
          ·skip
           first
            | (exfalso; first | omega | contradiction | (clear hK6 K6; clear hK5 K5; clear hK4 K4; clear hK2 K2; clear hK1 K1; clear hK0 K0; simp at *; done))
            | (
             refine SW.skip ?_
             refine hK5 _ _ _ ?_
             refine SW.seq_k fun K10 hK10 => ?_
             have hje : (joinV [p]).2 = 0 := by first | assumption | omega
             obtain ⟨hl0, hu, hJ⟩ := join_ok hje
             have hu1 : wk (mgP p) ≤ 2048 := by have : usedM (mg [p]) = wk (mgP p) := usedM_one _; omega
             have hmk := mok_pd (hp H) hu1
             have hjb : (joinV [p]).1 = bytesM (mgP p) := by rw [hJ]; show joinB [mgP p] = _; simp [joinB]
             have hjl : (joinV [p]).1.length = wk (mgP p) := by rw [hjb]; exact bytesM_len _
             have hwg := wk_ge (mgP p)
             have hdl : (mgP p).2.length = p.data.length := rfl
             have hwz := whole_ge p.data.length
             have hwe : wholeN p.data.length = wk (mgP p) := rfl
             refine SW.region _ _ _ _ ?_
             refine RL.bs T rfl rfl rfl (by exact (rfl : _ = some [_, _])) (fun b33_2 => ?_)
             refine RL.p T ?_
             refine RL.nil _ _ _ _ ?_
             refine hK10 _ _ _ ?_
             refine SW.seq_k fun K11 hK11 => ?_
             refine SW.seq_k fun K12 hK12 => ?_
             refine SW.region _ _ _ _ ?_
             refine RL.p T ?_
             refine RL.lv1 T ?_
             refine RL.p T ?_
             first | refine RL.ar ?_ | refine RL.p T ?_
             refine RL.p T ?_
             refine RL.wk (.row (some ⟨b33_2, 0, none⟩) (0 + 2) 2 3 1 (List.map (Value.int .i64) (plc p.data.length 0)) :: .row a1 (joinV [p]).1.length c1 5 1 (List.map (Value.int .u8) (joinV [p]).1) :: H) ?_
             refine RL.nil _ _ _ _ ?_
             refine hK12 _ _ _ ?_
             refine SW.block ?_
             refine SW.loopM (fun frB mm fr ds HH => ∃ (k : Nat) (pa : Option Addr) (pc : Nat), mm = wk (mgP p) - (8 + p.data.length + k) ∧ (8 + p.data.length + k ≤ wk (mgP p)) ∧ FrIs [9, 10, 38, 39, 40, 41, 42, 43, 44, 45, 46, 47] frB fr [(9, .slice pa (k + 2) pc), (10, .int .i64 ((8 + p.data.length + k : Nat) : Int))] ∧ ds = [] ∧ HH = (.row pa (k + 2) pc 3 1 (List.map (Value.int .i64) (plc p.data.length (k))) :: .row a1 (joinV [p]).1.length c1 5 1 (List.map (Value.int .u8) (joinV [p]).1) :: H)) (n := wk (mgP p) - (8 + p.data.length + 0)) ?_ ?_
             ·exact ⟨0, some ⟨b33_2, 0, none⟩, 2, rfl, (by omega), (.cons rfl (.consI rfl (by first | omega | rfl) (.nil (by repeat first | with_reducible exact Mx.refl | with_reducible exact Mx.mix | refine Mx.put rfl ?_ | refine Mx.upd rfl ?_ | refine Mx.updl rfl ?_ | refine Mx.fin rfl ?_ | refine Mx.inner rfl ?_ | refine Mx.none ?_ | exact Mx.refl | exact Mx.mix)))), rfl, rfl⟩
             ·rintro mm fr ds HH ⟨k, pa, pc, rfl, hk, hFr, rfl, eHH⟩
              obtain rfl := eHH.symm
              obtain ⟨frU, rfl⟩ := hFr.eq
              clear hFr
              refine SW.seq_k fun K13 hK13 => ?_
              refine SW.seq_k fun K14 hK14 => ?_
              refine SW.region _ _ _ _ ?_
              refine RL.p T ?_
              refine RL.p T ?_
              refine RL.p T ?_
              refine RL.p T ?_
              refine RL.nil _ _ _ _ ?_
              refine hK14 _ _ _ ?_
              refine SW.cs (fun hc2 => ?_) (fun hc2 => ?_)
              ·skip
               first
                | (exfalso; first | omega | contradiction | (clear hK14 K14; clear hK13 K13; clear hK12 K12; clear hK11 K11; clear hK10 K10; clear hK6 K6; clear hK5 K5; clear hK4 K4; clear hK2 K2; clear hK1 K1; clear hK0 K0; simp at *; done))
                | (
                 refine SW.skip ?_
                 refine hK13 _ _ _ ?_
                 refine SW.seq_k fun K15 hK15 => ?_
                 refine SW.block ?_
                 refine SW.region _ _ _ _ ?_
                 refine RL.p T ?_
                 refine RL.p T ?_
                 refine RL.bs T rfl rfl rfl (by exact (rfl : _ = some [_])) (fun b46_3 => ?_)
                 first | refine RL.apI1 (ki := .i64) T (fun a0_ c0_ => ?_) | refine RL.apI (ki := .i64) T (fun a0_ c0_ => ?_) | refine RL.apI (ki := .i64) (xs := []) T (fun a0_ c0_ => ?_)
                 refine RL.p T ?_
                 refine RL.nil _ _ _ _ ?_
                 refine hK15 _ _ _ ?_
                 refine SW.region _ _ _ _ ?_
                 refine RL.p T ?_
                 first | refine RL.ar ?_ | refine RL.p T ?_
                 refine RL.p T ?_
                 refine RL.nil _ _ _ _ ?_
                 exact ⟨wk (mgP p) - (8 + p.data.length + (k + 1)), (by omega), k + 1, a0_, c0_, (by rfl), (by omega), (.cons rfl (.consI rfl (by first | omega | rfl) (.nil (by repeat first | with_reducible exact Mx.refl | with_reducible exact Mx.mix | refine Mx.put rfl ?_ | refine Mx.upd rfl ?_ | refine Mx.updl rfl ?_ | refine Mx.fin rfl ?_ | refine Mx.inner rfl ?_ | refine Mx.none ?_ | exact Mx.refl | exact Mx.mix)))), rfl, (by rw [plc_snoc])⟩
                 )
              ·skip
               first
                | (exfalso; first | omega | contradiction | (clear hK14 K14; clear hK13 K13; clear hK12 K12; clear hK11 K11; clear hK10 K10; clear hK6 K6; clear hK5 K5; clear hK4 K4; clear hK2 K2; clear hK1 K1; clear hK0 K0; simp at *; done))
                | (
                 refine SW.exit ?_
                 refine hK11 _ _ _ ?_
                 refine SW.seq_k fun K16 hK16 => ?_
                 have hm0 : 0 ≤ z % ((k + 2 : Nat) : Int) := Int.emod_nonneg _ (by omega)
                 have hm1 : z % ((k + 2 : Nat) : Int) < ((k + 2 : Nat) : Int) := Int.emod_lt_of_pos _ (by omega)
                 have hpg := plc_get p.data.length k (z % ((k + 2 : Nat) : Int)).toNat (by omega)
                 have hns : splitV ((joinV [p]).1.set ((plc p.data.length k).getD (z % ((k + 2 : Nat) : Int)).toNat 0).toNat b) = ([], 5) := by
                   rw [hjb]
                   exact noughts hmk hu1 (by omega) (by omega) (by omega) (by omega)
                 have hbs : Byte ((joinV [p]).1.set ((plc p.data.length k).getD (z % ((k + 2 : Nat) : Int)).toNat 0).toNat b) := fun x hx => by
                   rcases List.mem_or_eq_of_mem_set hx with hx | rfl
                   · rw [hJ] at hx; exact joinB_byte (fun y hy => by rw [List.mem_singleton.1 hy]; exact hp H) hu x hx
                   · omega
                 refine SW.region _ _ _ _ ?_
                 refine RL.p T ?_
                 refine RL.p T ?_
                 refine RL.p T ?_
                 first | refine RL.cv T ?_ | refine RL.p T ?_ | refine RL.ts T ?_
                 refine RL.p T ?_
                 refine RL.p T ?_
                 first | refine RL.q (QV.remP rfl rfl rfl (by omega) (by omega)) ?_ | refine RL.q (QV.rem rfl rfl rfl (by omega) rfl) ?_
                 refine RL.ix T ?_
                 refine RL.le T ?_ (hv := (map_get _ _ (by rw [plc_len]; omega)))
                 refine RL.p T ?_
                 refine RL.ix T ?_
                 refine RL.sei T ?_
                 refine RL.nil _ _ _ _ ?_
                 refine hK16 _ _ _ ?_
                 refine SW.seq_k fun K17 hK17 => ?_
                 refine SW.region _ _ _ _ ?_
                 refine RL.p T ?_
                 refine RL.c fun12 (fun hs => split a1 _ c1 ((joinV [p]).1.set ((plc p.data.length k).getD (z % ((k + 2 : Nat) : Int)).toNat 0).toNat b) (Rd.rowh hs (by repeat first | exact At.head _ _ | apply At.tail | apply At.app)) (by rw [List.length_set]) (by omega) hbs) ?_
                 rintro _ _ ⟨D5, a5, c5, qs, rfl, e, hqs, hqo⟩; obtain rfl := e.symm
                 rw [hns] at hqs
                 rw [hns]
                 have hq0 : qs.length = 0 := by rw [← mg_len, hqs]; rfl
                 refine RL.p T ?_
                 refine RL.p T ?_
                 refine RL.p T ?_
                 refine RL.p T ?_
                 refine RL.p T ?_
                 refine RL.nil _ _ _ _ ?_
                 refine hK17 _ _ _ ?_
                 refine SW.seq_k fun K18 hK18 => ?_
                 refine SW.region _ _ _ _ ?_
                 refine RL.p T ?_
                 refine RL.p T ?_
                 refine RL.p T ?_
                 refine RL.sp 66 (fun hs2 => ?_) (fun hs2 => ?_)
                 ·skip
                  first
                   | (exfalso; first | omega | contradiction | (clear hK18 K18; clear hK17 K17; clear hK16 K16; clear hK14 K14; clear hK13 K13; clear hK12 K12; clear hK11 K11; clear hK10 K10; clear hK6 K6; clear hK5 K5; clear hK4 K4; clear hK2 K2; clear hK1 K1; clear hK0 K0; simp at *; done))
                   | (
                    refine RL.p T ?_
                    refine RL.p T ?_
                    refine RL.p T ?_
                    refine RL.p T ?_
                    refine RL.p T ?_
                    refine RL.nil _ _ _ _ ?_
                    refine hK18 _ _ _ ?_
                    refine SW.ret ?_
                    refine retQ.rr (H) ?_
                    clear hK18 K18 hK17 K17 hK16 K16 hK14 K14 hK13 K13 hK12 K12 hK11 K11 hK10 K10 hK6 K6 hK5 K5 hK4 K4 hK2 K2 hK1 K1 hK0 K0
                    first
                      | exact ⟨rfl, rfl⟩
                      | exact ⟨boolE (decide_eq_true (by omega)), rfl⟩
                    )
                 ·skip
                  first
                   | (exfalso; first | omega | contradiction | (clear hK18 K18; clear hK17 K17; clear hK16 K16; clear hK14 K14; clear hK13 K13; clear hK12 K12; clear hK11 K11; clear hK10 K10; clear hK6 K6; clear hK5 K5; clear hK4 K4; clear hK2 K2; clear hK1 K1; clear hK0 K0; simp at *; done))
                   | (
                    refine RL.guard_no rfl rfl rfl ?_
                    refine RL.guard_no rfl rfl rfl ?_
                    refine RL.guard_no rfl rfl rfl ?_
                    refine RL.p T ?_
                    refine RL.p T ?_
                    refine RL.nil _ _ _ _ ?_
                    refine hK18 _ _ _ ?_
                    refine SW.ret ?_
                    refine retQ.rr (H) ?_
                    clear hK18 K18 hK17 K17 hK16 K16 hK14 K14 hK13 K13 hK12 K12 hK11 K11 hK10 K10 hK6 K6 hK5 K5 hK4 K4 hK2 K2 hK1 K1 hK0 K0
                    first
                      | exact ⟨rfl, rfl⟩
                      | exact ⟨boolE (decide_eq_true (by omega)), rfl⟩
                    )
                 )
             )
          )
       )
    )
end Go.Proofs.YthigfghfpmpiiaaDoor.M
