import Derived.Test.YtlgdfoniijmlbaaDoorProg
import Derived.Test.YtlgdfoniijmlbaaDoorFL20D
set_option linter.unusedVariables false
set_option linter.unusedSimpArgs false
namespace Go.Proofs.YtlgdfoniijmlbaaDoor.M
open Go Go.Sep Go.Proofs
set_option maxRecDepth 10000
set_option maxHeartbeats 2000000
theorem packFlushes {w0 : World} {H : List Chunk} (room : Nat) (hrw : 8 ≤ room ∧ room ≤ 2048) (ls : List Pd) (sr : Option Addr) (nr cr : Nat) (hB : ∀ H, Rd w0 H sr nr cr 2 (ls.flatMap PdC)) (hnr : nr = ls.length) (hmr : nr ≤ 4398046511000) (hls : ∀ H, ∀ y ∈ ls, PdOk w0 H y) : SC Tryd.prog w0 5 #[.int .i64 ((room : Nat) : Int), .slice sr nr cr] H (fun v H' => v = .bool true ∧ H' = H) := by
 refine SC.enter Tryd.func5 rfl (Nat.le_of_ble_eq_true rfl) ?_
 refine SW.seq_k fun K0 hK0 => ?_
 refine SW.region _ _ _ _ ?_
 refine RL.p T ?_
 refine RL.nil _ _ _ _ ?_
 refine hK0 _ _ _ ?_
 refine SW.seq_k fun K1 hK1 => ?_
 refine SW.seq_k fun K2 hK2 => ?_
 refine SW.region _ _ _ _ ?_
 refine RL.c fun7 (fun hs => alive) ?_
 rintro _ _ ⟨rfl, e⟩; obtain rfl := e.symm
 refine RL.p T ?_
 refine RL.nil _ _ _ _ ?_
 refine hK2 _ _ _ ?_
 refine SW.cs (fun hc0 => ?_) (fun hc0 => ?_)
 ·skip
  first
   | (exfalso; first | omega | contradiction | (clear hK2 K2; clear hK1 K1; clear hK0 K0; simp at *; done))
   | (
    refine SW.seq_k fun K3 hK3 => ?_
    refine SW.region _ _ _ _ ?_
    refine RL.p T ?_
    refine RL.nil _ _ _ _ ?_
    refine hK3 _ _ _ ?_
    refine SW.ret ?_
    refine retQ.rr (H) ?_
    clear hK3 K3 hK2 K2 hK1 K1 hK0 K0
    first
      | exact ⟨rfl, rfl⟩
      | exact ⟨boolE (decide_eq_true (by omega)), rfl⟩
    )
 ·skip
  first
   | (exfalso; first | omega | contradiction | (clear hK2 K2; clear hK1 K1; clear hK0 K0; simp at *; done))
   | (
    refine SW.skip ?_
    refine hK1 _ _ _ ?_
    refine SW.seq_k fun K4 hK4 => ?_
    refine SW.region _ _ _ _ ?_
    refine RL.p T ?_
    refine RL.c fun8 (fun hs => new_ok room 9 (by omega)) ?_
    rintro _ _ ⟨b, rfl, e⟩; obtain rfl := e.symm
    refine RL.p T ?_
    refine RL.p T ?_
    refine RL.p T ?_
    refine RL.p T ?_
    refine RL.p T ?_
    refine RL.nil _ _ _ _ ?_
    refine hK4 _ _ _ ?_
    refine SW.seq_k fun K5 hK5 => ?_
    refine SW.seq_k fun K6 hK6 => ?_
    refine SW.region _ _ _ _ ?_
    refine RL.p T ?_
    refine RL.p T ?_
    refine RL.p T ?_
    refine RL.sp 24 (fun hs0 => ?_) (fun hs0 => ?_)
    ·skip
     first
      | (exfalso; first | omega | contradiction | (clear hK6 K6; clear hK5 K5; clear hK4 K4; clear hK2 K2; clear hK1 K1; clear hK0 K0; simp at *; done))
      | (
       refine RL.guard_no rfl rfl rfl ?_
       refine RL.guard_no rfl rfl rfl ?_
       refine RL.guard_no rfl rfl rfl ?_
       refine RL.p T ?_
       refine RL.nil _ _ _ _ ?_
       refine hK6 _ _ _ ?_
       refine SW.cond_t rfl ?_
       refine SW.seq_k fun K7 hK7 => ?_
       refine SW.region _ _ _ _ ?_
       refine RL.p T ?_
       refine RL.nil _ _ _ _ ?_
       refine hK7 _ _ _ ?_
       refine SW.ret ?_
       refine retQ.rr (H) ?_
       clear hK7 K7 hK6 K6 hK5 K5 hK4 K4 hK2 K2 hK1 K1 hK0 K0
       first
         | exact ⟨rfl, rfl⟩
         | exact ⟨boolE (decide_eq_true (by omega)), rfl⟩
       )
    ·skip
     first
      | (exfalso; first | omega | contradiction | (clear hK6 K6; clear hK5 K5; clear hK4 K4; clear hK2 K2; clear hK1 K1; clear hK0 K0; simp at *; done))
      | (
       refine RL.p T ?_
       refine RL.p T ?_
       refine RL.p T ?_
       refine RL.p T ?_
       refine RL.nil _ _ _ _ ?_
       refine hK6 _ _ _ ?_
       refine SW.cs (fun hc1 => ?_) (fun hc1 => ?_)
       ·skip
        first
         | (exfalso; first | omega | contradiction | (clear hK6 K6; clear hK5 K5; clear hK4 K4; clear hK2 K2; clear hK1 K1; clear hK0 K0; simp at *; done))
         | (
          refine SW.seq_k fun K8 hK8 => ?_
          refine SW.region _ _ _ _ ?_
          refine RL.p T ?_
          refine RL.nil _ _ _ _ ?_
          refine hK8 _ _ _ ?_
          refine SW.ret ?_
          refine retQ.rr (H) ?_
          clear hK8 K8 hK6 K6 hK5 K5 hK4 K4 hK2 K2 hK1 K1 hK0 K0
          first
            | exact ⟨rfl, rfl⟩
            | exact ⟨boolE (decide_eq_true (by omega)), rfl⟩
          )
       ·skip
        first
         | (exfalso; first | omega | contradiction | (clear hK6 K6; clear hK5 K5; clear hK4 K4; clear hK2 K2; clear hK1 K1; clear hK0 K0; simp at *; done))
         | (
          refine SW.skip ?_
          refine hK5 _ _ _ ?_
          refine SW.seq_k fun K9 hK9 => ?_
          refine SW.seq_k fun K10 hK10 => ?_
          refine SW.nilrow 35 2 ?_
          refine SW.wk (.var b 55 [.int .i64 ((room : Nat) : Int), .int .i64 ((9 : Nat) : Int), .slice none 0 0, .int .i64 0, .int .i64 ((0 : Nat) : Int)] :: .row none 0 0 35 2 (List.flatMap PdC []) :: H) ?_
          refine SW.region _ _ _ _ ?_
          refine RL.p T ?_
          refine RL.p T ?_
          refine RL.p T ?_
          refine RL.nil _ _ _ _ ?_
          refine hK10 _ _ _ ?_
          refine SW.block ?_
          refine SW.loopM (fun frB mm fr ds HH => ∃ (k : Nat) (la : Option Addr) (lc : Nat), mm = nr - k ∧ (k ≤ nr ∧ (True)) ∧ FrIs [4, 8, 9, 10, 11, 12, 13, 14, 31, 32, 33, 34, 35, 36, 37, 38, 39, 40, 41, 42, 43, 44, 45, 46, 47, 48, 49, 50, 51, 52, 53, 54, 55, 56, 57, 58, 59, 60, 61, 62, 63, 64, 65, 66, 67, 68, 69, 70, 71, 72, 73, 74, 75, 76, 77, 78, 79, 80, 81, 82, 83, 84, 85, 86, 87, 88, 89, 90, 91, 92, 93, 94, 95, 96] frB fr [(31, .int .i64 k)] ∧ ds = [] ∧ HH = (.var b 55 [.int .i64 ((room : Nat) : Int), .int .i64 ((9 : Nat) : Int), .slice la 0 lc, .int .i64 0, .int .i64 ((0 : Nat) : Int)] :: .row la 0 lc 35 2 (List.flatMap PdC []) :: H)) (n := nr - 0) ?_ ?_
          ·exact ⟨0, none, 0, rfl, ⟨Nat.zero_le _, trivial⟩, (.cons rfl (.nil (by repeat first | with_reducible exact Mx.refl | with_reducible exact Mx.mix | refine Mx.put rfl ?_ | refine Mx.upd rfl ?_ | refine Mx.updl rfl ?_ | refine Mx.fin rfl ?_ | refine Mx.inner rfl ?_ | refine Mx.none ?_ | exact Mx.refl | exact Mx.mix))), rfl, rfl⟩
          ·rintro mm fr ds HH ⟨k, la, lc, rfl, ⟨hk, _⟩, hFr, rfl, eHH⟩
           obtain rfl := eHH.symm
           obtain ⟨frU, rfl⟩ := hFr.eq
           clear hFr
           have hx := fun H => pd_mem (hls H) k
           have hxm := (hx []).max
           have hz0 : usedM (mg []) = 0 := rfl
           refine SW.seq_k fun K11 hK11 => ?_
           refine SW.region _ _ _ _ ?_
           refine RL.p T ?_
           refine RL.nil _ _ _ _ ?_
           refine hK11 _ _ _ ?_
           refine SW.seq_k fun K12 hK12 => ?_
           refine SW.cs (fun hc2 => ?_) (fun hc2 => ?_)
           ·skip
            first
             | (exfalso; first | omega | contradiction | (clear hK12 K12; clear hK11 K11; clear hK10 K10; clear hK9 K9; clear hK6 K6; clear hK5 K5; clear hK4 K4; clear hK2 K2; clear hK1 K1; clear hK0 K0; simp at *; done))
             | (
              refine SW.skip ?_
              refine hK12 _ _ _ ?_
              refine SW.seq_k fun K13 hK13 => ?_
              refine SW.block ?_
              refine SW.seq_k fun K14 hK14 => ?_
              refine SW.region _ _ _ _ ?_
              refine RL.ix T ?_ (hR := fun hs => (by first | exact hB _ | exact Rd.rowh hs (by repeat first | exact At.head _ _ | apply At.tail | apply At.app)))
              refine RL.leN T ?_ (hR := fun hs => (by first | exact hB _ | exact Rd.rowh hs (by repeat first | exact At.head _ _ | apply At.tail | apply At.app))) (hvs := (by exact (rfl : _ = [_, _])))
              refine RL.s ?_
              refine NV.alloc T rfl rfl rfl (by exact (rfl : _ = [_, _])) ?_
              intro b8_0
              refine RL.s ?_
              refine NV.sN T rfl rfl rfl (by exact (rfl : _ = [_, _])) (by exact (rfl : _ = [_, _])) ?_
              refine RL.nil _ _ _ _ ?_
              refine hK14 _ _ _ ?_
              refine SW.seq_k fun K15 hK15 => ?_
              refine SW.seq_k fun K16 hK16 => ?_
              refine SW.region _ _ _ _ ?_
              refine RL.p T ?_
              refine RL.lv1 T ?_
              refine RL.p T ?_
              refine RL.p T ?_
              refine RL.nil _ _ _ _ ?_
              refine hK16 _ _ _ ?_
              refine SW.cs (fun hc3 => ?_) (fun hc3 => ?_)
              ·skip
               first
                | (exfalso; first | omega | contradiction | (clear hK16 K16; clear hK15 K15; clear hK14 K14; clear hK13 K13; clear hK12 K12; clear hK11 K11; clear hK10 K10; clear hK9 K9; clear hK6 K6; clear hK5 K5; clear hK4 K4; clear hK2 K2; clear hK1 K1; clear hK0 K0; simp at *; done))
                | (
                 refine SW.seq_k fun K17 hK17 => ?_
                 refine SW.region _ _ _ _ ?_
                 refine RL.p T ?_
                 refine RL.nil _ _ _ _ ?_
                 refine hK17 _ _ _ ?_
                 refine SW.ret ?_
                 refine retQ.rr (H) ?_
                 clear hK17 K17 hK16 K16 hK15 K15 hK14 K14 hK13 K13 hK12 K12 hK11 K11 hK10 K10 hK9 K9 hK6 K6 hK5 K5 hK4 K4 hK2 K2 hK1 K1 hK0 K0
                 first
                   | exact ⟨rfl, rfl⟩
                   | exact ⟨boolE (decide_eq_true (by omega)), rfl⟩
                 )
              ·skip
               first
                | (exfalso; first | omega | contradiction | (clear hK16 K16; clear hK15 K15; clear hK14 K14; clear hK13 K13; clear hK12 K12; clear hK11 K11; clear hK10 K10; clear hK9 K9; clear hK6 K6; clear hK5 K5; clear hK4 K4; clear hK2 K2; clear hK1 K1; clear hK0 K0; simp at *; done))
                | (
                 refine SW.skip ?_
                 refine hK15 _ _ _ ?_
                 refine SW.seq_k fun K18 hK18 => ?_
                 refine SW.region _ _ _ _ ?_
                 refine RL.p T ?_
                 refine RL.q (QV.vN T rfl rfl rfl rfl rfl (by exact (rfl : _ = [_, _]))) ?_
                 refine RL.c fun9 (fun hs => SC.wk (addU (ls.getD k default) (hx _) b room 9 0 0 la 0 lc [] rfl rfl (by omega) (by simp) (by omega) (by omega) (H := .var b8_0 32 (PdC (ls.getD k default)) :: H))) ?_
                 rintro _ _ ⟨D1, oa1, on1, oc1, os1, la1, ln1, lc1, l1, age1, us1, rfl, e, hon1, hln1, hus1, hos1, hl1, hag1, hoq1, hly1⟩; obtain rfl := e.symm
                 have hE := addE_or room (mgP (ls.getD k default))
                 refine RL.p T ?_
                 refine RL.p T ?_
                 refine RL.p T ?_
                 refine RL.p T ?_
                 refine RL.p T ?_
                 refine RL.nil _ _ _ _ ?_
                 refine hK18 _ _ _ ?_
                 refine SW.seq_k fun K19 hK19 => ?_
                 refine SW.seq_k fun K20 hK20 => ?_
                 refine SW.region _ _ _ _ ?_
                 refine RL.p T ?_
                 refine RL.p T ?_
                 refine RL.nil _ _ _ _ ?_
                 refine hK20 _ _ _ ?_
                 refine SW.cs (fun hc4 => ?_) (fun hc4 => ?_)
                 ·skip
                  first
                   | (exfalso; first | omega | contradiction | (clear hK20 K20; clear hK19 K19; clear hK18 K18; clear hK16 K16; clear hK15 K15; clear hK14 K14; clear hK13 K13; clear hK12 K12; clear hK11 K11; clear hK10 K10; clear hK9 K9; clear hK6 K6; clear hK5 K5; clear hK4 K4; clear hK2 K2; clear hK1 K1; clear hK0 K0; simp at *; done))
                   | (
                    refine SW.seq_k fun K21 hK21 => ?_
                    refine SW.seq_k fun K22 hK22 => ?_
                    obtain ⟨hb1, hb2⟩ := addOu_bad (room := room) (ms := mg []) (m := mgP (ls.getD k default)) (by omega)
                    obtain rfl : l1 = [] := mg_nil.1 (hl1.trans hb2)
                    obtain rfl : ln1 = 0 := hln1
                    obtain rfl : us1 = 0 := hus1
                    obtain rfl : age1 = 0 := by rw [hag1, hos1, hb1]; rfl
                    have hz1 : on1 = 0 := by rw [hon1, ← outD_len, hos1, hb1]; rfl
                    refine SW.region _ _ _ _ ?_
                    refine RL.p T ?_
                    refine RL.p T ?_
                    refine RL.p T ?_
                    refine RL.sp 49 (fun hs1 => ?_) (fun hs1 => ?_)
                    ·skip
                     first
                      | (exfalso; first | omega | contradiction | (clear hK22 K22; clear hK21 K21; clear hK20 K20; clear hK19 K19; clear hK18 K18; clear hK16 K16; clear hK15 K15; clear hK14 K14; clear hK13 K13; clear hK12 K12; clear hK11 K11; clear hK10 K10; clear hK9 K9; clear hK6 K6; clear hK5 K5; clear hK4 K4; clear hK2 K2; clear hK1 K1; clear hK0 K0; simp at *; done))
                      | (
                       refine RL.guard_no rfl rfl rfl ?_
                       refine RL.guard_no rfl rfl rfl ?_
                       refine RL.guard_no rfl rfl rfl ?_
                       refine RL.p T ?_
                       refine RL.nil _ _ _ _ ?_
                       refine hK22 _ _ _ ?_
                       refine SW.cond_t rfl ?_
                       refine SW.seq_k fun K23 hK23 => ?_
                       refine SW.region _ _ _ _ ?_
                       refine RL.p T ?_
                       refine RL.nil _ _ _ _ ?_
                       refine hK23 _ _ _ ?_
                       refine SW.ret ?_
                       refine retQ.rr (H) ?_
                       clear hK23 K23 hK22 K22 hK21 K21 hK20 K20 hK19 K19 hK18 K18 hK16 K16 hK15 K15 hK14 K14 hK13 K13 hK12 K12 hK11 K11 hK10 K10 hK9 K9 hK6 K6 hK5 K5 hK4 K4 hK2 K2 hK1 K1 hK0 K0
                       first
                         | exact ⟨rfl, rfl⟩
                         | exact ⟨boolE (decide_eq_true (by omega)), rfl⟩
                       )
                    ·skip
                     first
                      | (exfalso; first | omega | contradiction | (clear hK22 K22; clear hK21 K21; clear hK20 K20; clear hK19 K19; clear hK18 K18; clear hK16 K16; clear hK15 K15; clear hK14 K14; clear hK13 K13; clear hK12 K12; clear hK11 K11; clear hK10 K10; clear hK9 K9; clear hK6 K6; clear hK5 K5; clear hK4 K4; clear hK2 K2; clear hK1 K1; clear hK0 K0; simp at *; done))
                      | (
                       refine RL.p T ?_
                       refine RL.p T ?_
                       refine RL.p T ?_
                       refine RL.p T ?_
                       refine RL.nil _ _ _ _ ?_
                       refine hK22 _ _ _ ?_
                       refine SW.cs (fun hc5 => ?_) (fun hc5 => ?_)
                       ·skip
                        first
                         | (exfalso; first | omega | contradiction | (clear hK22 K22; clear hK21 K21; clear hK20 K20; clear hK19 K19; clear hK18 K18; clear hK16 K16; clear hK15 K15; clear hK14 K14; clear hK13 K13; clear hK12 K12; clear hK11 K11; clear hK10 K10; clear hK9 K9; clear hK6 K6; clear hK5 K5; clear hK4 K4; clear hK2 K2; clear hK1 K1; clear hK0 K0; simp at *; done))
                         | (
                          refine SW.seq_k fun K24 hK24 => ?_
                          refine SW.region _ _ _ _ ?_
                          refine RL.p T ?_
                          refine RL.nil _ _ _ _ ?_
                          refine hK24 _ _ _ ?_
                          refine SW.ret ?_
                          refine retQ.rr (H) ?_
                          clear hK24 K24 hK22 K22 hK21 K21 hK20 K20 hK19 K19 hK18 K18 hK16 K16 hK15 K15 hK14 K14 hK13 K13 hK12 K12 hK11 K11 hK10 K10 hK9 K9 hK6 K6 hK5 K5 hK4 K4 hK2 K2 hK1 K1 hK0 K0
                          first
                            | exact ⟨rfl, rfl⟩
                            | exact ⟨boolE (decide_eq_true (by omega)), rfl⟩
                          )
                       ·skip
                        first
                         | (exfalso; first | omega | contradiction | (clear hK22 K22; clear hK21 K21; clear hK20 K20; clear hK19 K19; clear hK18 K18; clear hK16 K16; clear hK15 K15; clear hK14 K14; clear hK13 K13; clear hK12 K12; clear hK11 K11; clear hK10 K10; clear hK9 K9; clear hK6 K6; clear hK5 K5; clear hK4 K4; clear hK2 K2; clear hK1 K1; clear hK0 K0; simp at *; done))
                         | (
                          refine SW.skip ?_
                          refine hK21 _ _ _ ?_
                          refine SW.exit ?_
                          refine hK13 _ _ _ ?_
                          first | refine SW.wk (.var b 55 [.int .i64 ((room : Nat) : Int), .int .i64 ((9 : Nat) : Int), .slice la2 0 lc2, .int .i64 0, .int .i64 ((0 : Nat) : Int)] :: .row la2 0 lc2 35 2 (List.flatMap PdC []) :: H) ?_ | refine SW.wk (.var b 55 [.int .i64 ((room : Nat) : Int), .int .i64 ((9 : Nat) : Int), .slice la1 0 lc1, .int .i64 0, .int .i64 ((0 : Nat) : Int)] :: .row la1 0 lc1 35 2 (List.flatMap PdC []) :: H) ?_
                          refine SW.region _ _ _ _ ?_
                          first | refine RL.ar ?_ | refine RL.p T ?_
                          refine RL.p T ?_
                          refine RL.nil _ _ _ _ ?_
                          first
                            | exact ⟨nr - (k + 1), (by omega), k + 1, la2, lc2, (by rfl), ⟨by omega, trivial⟩, (.cons rfl (.nil (by repeat first | with_reducible exact Mx.refl | with_reducible exact Mx.mix | refine Mx.put rfl ?_ | refine Mx.upd rfl ?_ | refine Mx.updl rfl ?_ | refine Mx.fin rfl ?_ | refine Mx.inner rfl ?_ | refine Mx.none ?_ | exact Mx.refl | exact Mx.mix))), rfl, rfl⟩
                            | exact ⟨nr - (k + 1), (by omega), k + 1, la1, lc1, (by rfl), ⟨by omega, trivial⟩, (.cons rfl (.nil (by repeat first | with_reducible exact Mx.refl | with_reducible exact Mx.mix | refine Mx.put rfl ?_ | refine Mx.upd rfl ?_ | refine Mx.updl rfl ?_ | refine Mx.fin rfl ?_ | refine Mx.inner rfl ?_ | refine Mx.none ?_ | exact Mx.refl | exact Mx.mix))), rfl, rfl⟩
                          )
                       )
                    )
                 ·skip
                  first
                   | (exfalso; first | omega | contradiction | (clear hK20 K20; clear hK19 K19; clear hK18 K18; clear hK16 K16; clear hK15 K15; clear hK14 K14; clear hK13 K13; clear hK12 K12; clear hK11 K11; clear hK10 K10; clear hK9 K9; clear hK6 K6; clear hK5 K5; clear hK4 K4; clear hK2 K2; clear hK1 K1; clear hK0 K0; simp at *; done))
                   | (
                    refine SW.skip ?_
                    refine hK19 _ _ _ ?_
                    refine SW.seq_k fun K25 hK25 => ?_
                    have hwk : wk (mgP (ls.getD k default)) ≤ room := by omega
                    have hmk := mok_pd (hx []) (by omega : wk (mgP (ls.getD k default)) ≤ 2048)
                    have hw1 := one_way hwk
                    have hu1 : usedM (mg l1) + 8 ≤ room := by rw [hl1]; exact addLu_used (by omega) (by omega)
                    have hll := usedM_len (mg l1)
                    rw [mg_len] at hll
                    have hlo1 : ∀ y ∈ l1, PdOk w0 D1 y := fun y hy => (hly1 y hy).resolve_left (by simp)
                    refine SW.region _ _ _ _ ?_
                    refine RL.p T ?_
                    refine RL.c fun13 (fun hs => waits b room 9 age1 us1 la1 ln1 lc1 (by repeat first | exact At.head _ _ | apply At.tail | apply At.app) l1 (Rd.rowh hs (by repeat first | exact At.head _ _ | apply At.tail | apply At.app)) hln1 (by omega) (fun y hy => (hlo1 y hy).sub SubL.by)) ?_
                    rintro _ _ ⟨D4, a4, c4, ws, rfl, e, hws, hwo⟩; obtain rfl := e.symm
                    refine RL.p T ?_
                    refine RL.nil _ _ _ _ ?_
                    refine hK25 _ _ _ ?_
                    refine SW.seq_k fun K26 hK26 => ?_
                    refine SW.region _ _ _ _ ?_
                    refine RL.p T ?_
                    refine RL.c fun10 (fun hs => SC.wk (flushV b room 9 age1 us1 la1 ln1 lc1 l1 hln1 hus1 (by omega) (fun y hy => (hlo1 y hy).sub SubL.by) (H := .row oa1 on1 oc1 30 1 (List.flatMap SlC os1) :: .var b8_0 32 (PdC (ls.getD k default)) :: (D1 ++ H)))) ?_
                    rintro _ _ ⟨D2, oa2, on2, oc2, os2, la2, ln2, lc2, l2, age2, us2, rfl, e, hon2, hln2, hus2, hos2, hl2, hag2, hoq2, hly2⟩; obtain rfl := e.symm
                    have hj : outD (os1 ++ os2) = [joinB [mgP (ls.getD k default)]] := by
                      rw [outD_app, hos1, hos2, hl1]
                      rcases hw1 with ⟨e1, e2⟩ | ⟨e1, e2⟩
                      · rw [show addOu room (mg []) (mgP (ls.getD k default)) = _ from e1, show addLu room (mg []) (mgP (ls.getD k default)) = _ from e2]; rfl
                      · rw [show addOu room (mg []) (mgP (ls.getD k default)) = _ from e1, show addLu room (mg []) (mgP (ls.getD k default)) = _ from e2]; rfl
                    have hj2 := getD_out hj
                    have hsum : on1 + on2 = 1 := by rw [hon1, hon2, ← List.length_append]; exact hj2.1
                    have hlb : ln1 = on2 := by
                      rw [hon2, ← outD_len, hos2, hln1, ← mg_len, hl1]
                      rcases hw1 with ⟨e1, e2⟩ | ⟨e1, e2⟩
                      · rw [show addLu room (mg []) (mgP (ls.getD k default)) = _ from e2]; rfl
                      · rw [show addLu room (mg []) (mgP (ls.getD k default)) = _ from e2]; rfl
                    obtain rfl : l2 = [] := mg_nil.1 hl2
                    obtain rfl : ln2 = 0 := hln2
                    obtain rfl : us2 = 0 := hus2
                    obtain rfl : age2 = 0 := by
                      rw [hag2]; split
                      · rename_i e0; rw [hag1, hos1]; subst e0; rcases hw1 with ⟨e1, e2⟩ | ⟨e1, e2⟩
                        · rw [show addOu room (mg []) (mgP (ls.getD k default)) = _ from e1]; rfl
                        · rw [show addLu room (mg []) (mgP (ls.getD k default)) = _ from e2] at hl1; cases hl1
                      · rfl
                    refine RL.p T ?_
                    refine RL.nil _ _ _ _ ?_
                    refine hK26 _ _ _ ?_
                    refine SW.seq_k fun K27 hK27 => ?_
                    refine SW.seq_k fun K28 hK28 => ?_
                    refine SW.region _ _ _ _ ?_
                    refine RL.p T ?_
                    refine RL.p T ?_
                    refine RL.p T ?_
                    refine RL.p T ?_
                    first | refine RL.ar ?_ | refine RL.p T ?_
                    refine RL.p T ?_
                    refine RL.p T ?_
                    refine RL.sp 64 (fun hs2 => ?_) (fun hs2 => ?_)
                    ·skip
                     first
                      | (exfalso; first | omega | contradiction | (clear hK28 K28; clear hK27 K27; clear hK26 K26; clear hK25 K25; clear hK20 K20; clear hK19 K19; clear hK18 K18; clear hK16 K16; clear hK15 K15; clear hK14 K14; clear hK13 K13; clear hK12 K12; clear hK11 K11; clear hK10 K10; clear hK9 K9; clear hK6 K6; clear hK5 K5; clear hK4 K4; clear hK2 K2; clear hK1 K1; clear hK0 K0; simp at *; done))
                      | (
                       refine RL.guard_no rfl rfl rfl ?_
                       refine RL.guard_no rfl rfl rfl ?_
                       refine RL.guard_no rfl rfl rfl ?_
                       refine RL.guard_no rfl rfl rfl ?_
                       refine RL.guard_no rfl rfl rfl ?_
                       refine RL.p T ?_
                       refine RL.p T ?_
                       refine RL.guard_no rfl rfl rfl ?_
                       refine RL.guard_no rfl rfl rfl ?_
                       refine RL.guard_no rfl rfl rfl ?_
                       refine RL.guard_no rfl rfl rfl ?_
                       refine RL.p T ?_
                       refine RL.nil _ _ _ _ ?_
                       refine hK28 _ _ _ ?_
                       refine SW.cond_t rfl ?_
                       refine SW.seq_k fun K29 hK29 => ?_
                       refine SW.region _ _ _ _ ?_
                       refine RL.p T ?_
                       refine RL.nil _ _ _ _ ?_
                       refine hK29 _ _ _ ?_
                       refine SW.ret ?_
                       refine retQ.rr (H) ?_
                       clear hK29 K29 hK28 K28 hK27 K27 hK26 K26 hK25 K25 hK20 K20 hK19 K19 hK18 K18 hK16 K16 hK15 K15 hK14 K14 hK13 K13 hK12 K12 hK11 K11 hK10 K10 hK9 K9 hK6 K6 hK5 K5 hK4 K4 hK2 K2 hK1 K1 hK0 K0
                       first
                         | exact ⟨rfl, rfl⟩
                         | exact ⟨boolE (decide_eq_true (by omega)), rfl⟩
                       )
                    ·skip
                     first
                      | (exfalso; first | omega | contradiction | (clear hK28 K28; clear hK27 K27; clear hK26 K26; clear hK25 K25; clear hK20 K20; clear hK19 K19; clear hK18 K18; clear hK16 K16; clear hK15 K15; clear hK14 K14; clear hK13 K13; clear hK12 K12; clear hK11 K11; clear hK10 K10; clear hK9 K9; clear hK6 K6; clear hK5 K5; clear hK4 K4; clear hK2 K2; clear hK1 K1; clear hK0 K0; simp at *; done))
                      | (
                       refine RL.p T ?_
                       refine RL.p T ?_
                       refine RL.p T ?_
                       refine RL.p T ?_
                       refine RL.p T ?_
                       refine RL.p T ?_
                       refine RL.p T ?_
                       refine RL.sp 71 (fun hs3 => ?_) (fun hs3 => ?_)
                       ·skip
                        first
                         | (exfalso; first | omega | contradiction | (clear hK28 K28; clear hK27 K27; clear hK26 K26; clear hK25 K25; clear hK20 K20; clear hK19 K19; clear hK18 K18; clear hK16 K16; clear hK15 K15; clear hK14 K14; clear hK13 K13; clear hK12 K12; clear hK11 K11; clear hK10 K10; clear hK9 K9; clear hK6 K6; clear hK5 K5; clear hK4 K4; clear hK2 K2; clear hK1 K1; clear hK0 K0; simp at *; done))
                         | (
                          refine RL.guard_no rfl rfl rfl ?_
                          refine RL.guard_no rfl rfl rfl ?_
                          refine RL.guard_no rfl rfl rfl ?_
                          refine RL.guard_no rfl rfl rfl ?_
                          refine RL.p T ?_
                          refine RL.nil _ _ _ _ ?_
                          refine hK28 _ _ _ ?_
                          refine SW.cond_t rfl ?_
                          refine SW.seq_k fun K30 hK30 => ?_
                          refine SW.region _ _ _ _ ?_
                          refine RL.p T ?_
                          refine RL.nil _ _ _ _ ?_
                          refine hK30 _ _ _ ?_
                          refine SW.ret ?_
                          refine retQ.rr (H) ?_
                          clear hK30 K30 hK28 K28 hK27 K27 hK26 K26 hK25 K25 hK20 K20 hK19 K19 hK18 K18 hK16 K16 hK15 K15 hK14 K14 hK13 K13 hK12 K12 hK11 K11 hK10 K10 hK9 K9 hK6 K6 hK5 K5 hK4 K4 hK2 K2 hK1 K1 hK0 K0
                          first
                            | exact ⟨rfl, rfl⟩
                            | exact ⟨boolE (decide_eq_true (by omega)), rfl⟩
                          )
                       ·skip
                        first
                         | (exfalso; first | omega | contradiction | (clear hK28 K28; clear hK27 K27; clear hK26 K26; clear hK25 K25; clear hK20 K20; clear hK19 K19; clear hK18 K18; clear hK16 K16; clear hK15 K15; clear hK14 K14; clear hK13 K13; clear hK12 K12; clear hK11 K11; clear hK10 K10; clear hK9 K9; clear hK6 K6; clear hK5 K5; clear hK4 K4; clear hK2 K2; clear hK1 K1; clear hK0 K0; simp at *; done))
                         | (
                          refine RL.p T ?_
                          refine RL.c fun13 (fun hs => waits b room 9 0 0 la2 0 lc2 (by repeat first | exact At.head _ _ | apply At.tail | apply At.app) [] (Rd.rowh hs (by repeat first | exact At.head _ _ | apply At.tail | apply At.app)) rfl (by omega) (by simp)) ?_
                          rintro _ _ ⟨D5, a5, c5, ws5, rfl, e, hws5, hwo5⟩; obtain rfl := e.symm
                          refine RL.p T ?_
                          refine RL.p T ?_
                          refine RL.p T ?_
                          refine RL.nil _ _ _ _ ?_
                          refine hK28 _ _ _ ?_
                          refine SW.cs (fun hc6 => ?_) (fun hc6 => ?_)
                          ·skip
                           first
                            | (exfalso; first | omega | contradiction | (clear hK28 K28; clear hK27 K27; clear hK26 K26; clear hK25 K25; clear hK20 K20; clear hK19 K19; clear hK18 K18; clear hK16 K16; clear hK15 K15; clear hK14 K14; clear hK13 K13; clear hK12 K12; clear hK11 K11; clear hK10 K10; clear hK9 K9; clear hK6 K6; clear hK5 K5; clear hK4 K4; clear hK2 K2; clear hK1 K1; clear hK0 K0; simp at *; done))
                            | (
                             refine SW.seq_k fun K31 hK31 => ?_
                             refine SW.region _ _ _ _ ?_
                             refine RL.p T ?_
                             refine RL.nil _ _ _ _ ?_
                             refine hK31 _ _ _ ?_
                             refine SW.ret ?_
                             refine retQ.rr (H) ?_
                             clear hK31 K31 hK28 K28 hK27 K27 hK26 K26 hK25 K25 hK20 K20 hK19 K19 hK18 K18 hK16 K16 hK15 K15 hK14 K14 hK13 K13 hK12 K12 hK11 K11 hK10 K10 hK9 K9 hK6 K6 hK5 K5 hK4 K4 hK2 K2 hK1 K1 hK0 K0
                             first
                               | exact ⟨rfl, rfl⟩
                               | exact ⟨boolE (decide_eq_true (by omega)), rfl⟩
                             )
                          ·skip
                           first
                            | (exfalso; first | omega | contradiction | (clear hK28 K28; clear hK27 K27; clear hK26 K26; clear hK25 K25; clear hK20 K20; clear hK19 K19; clear hK18 K18; clear hK16 K16; clear hK15 K15; clear hK14 K14; clear hK13 K13; clear hK12 K12; clear hK11 K11; clear hK10 K10; clear hK9 K9; clear hK6 K6; clear hK5 K5; clear hK4 K4; clear hK2 K2; clear hK1 K1; clear hK0 K0; simp at *; done))
                            | (
                             refine SW.skip ?_
                             refine hK27 _ _ _ ?_
                             refine SW.seq_k fun K32 hK32 => ?_
                             refine SW.region _ _ _ _ ?_
                             refine RL.p T ?_
                             refine RL.p T ?_
                             refine RL.apR (enc := SlC) T _ (ys := os2) (fun a6_ c6_ => ?_)
                             refine RL.ix T ?_ (hR := fun hs => (by first | exact hB _ | exact Rd.rowh hs (by repeat first | exact At.head _ _ | apply At.tail | apply At.app)))
                             refine RL.le T ?_ (hR := fun hs => (by first | exact hB _ | exact Rd.rowh hs (by repeat first | exact At.head _ _ | apply At.tail | apply At.app))) (hv := (by first | exact slc_get (by rw [List.length_append]; omega) | assumption))
                             refine RL.c fun11 (fun hs => splitT ((os1 ++ os2).getD 0 default) (sl_mem (fun q hq => (List.mem_append.1 hq).elim (fun m => (hoq1 q m).sub SubL.by) (fun m => (hoq2 q m).sub SubL.by)) 0) [mgP (ls.getD k default)] hj2.2 (by simp) (fun m hm => by rw [List.mem_singleton.1 hm]; exact hmk) (by rw [usedM_one]; omega)) ?_
                             rintro _ _ ⟨D6, a7, c7, ps, rfl, e, hps, hpo⟩; obtain rfl := e.symm
                             refine RL.p T ?_
                             refine RL.p T ?_
                             refine RL.p T ?_
                             refine RL.p T ?_
                             refine RL.p T ?_
                             refine RL.nil _ _ _ _ ?_
                             refine hK32 _ _ _ ?_
                             refine SW.seq_k fun K33 hK33 => ?_
                             refine SW.draw [(86, 0), (87, 1), (88, 2), (89, 3), (90, 4), (91, 5), (92, 6), (93, 7), (94, 8), (95, 9)] [[], [0], [1, 0], [2, 1, 0], [3, 2, 1, 0], [2, 1, 0], [5, 2, 1, 0], [4, 3, 2, 1, 0, 6, 5], [7, 4, 3, 2, 1, 0, 6, 5], [2, 1, 0, 8, 7, 4, 3, 6, 5]] mixed (by kernel_rfl) (by kernel_rfl) ?_
                             refine RD.p T ?_
                             refine RD.p T ?_
                             refine RD.p T ?_
                             refine RD.split 2 rfl (fun hs4 => ?_) (fun hs4 => ?_)
                             ·try simp only [decide_eq_true_eq, decide_eq_false_iff_not, Bool.not_eq_true', Bool.not_eq_false', Int.not_lt, Int.not_le, Int.toNat_natCast] at hs4
                              first
                               | (exfalso; first | omega | contradiction | (clear hK33 K33; clear hK32 K32; clear hK28 K28; clear hK27 K27; clear hK26 K26; clear hK25 K25; clear hK20 K20; clear hK19 K19; clear hK18 K18; clear hK16 K16; clear hK15 K15; clear hK14 K14; clear hK13 K13; clear hK12 K12; clear hK11 K11; clear hK10 K10; clear hK9 K9; clear hK6 K6; clear hK5 K5; clear hK4 K4; clear hK2 K2; clear hK1 K1; clear hK0 K0; simp at *; done))
                               | (
                                refine RD.skip rfl rfl rfl rfl ?_
                                refine RD.skip rfl rfl rfl rfl ?_
                                refine RD.many rfl rfl (.cons ?_ (.cons ?_ .nil))
                                ·skip
                                 refine RD1.skip rfl rfl rfl (Stab.skip rfl rfl rfl rfl Stab.nil) ?_
                                 refine RD.skipN rfl rfl rfl rfl rfl (Stab.skip rfl rfl rfl rfl Stab.nil) ?_
                                 refine RD.skipN rfl rfl rfl rfl rfl Stab.nil ?_
                                 refine RD.skip rfl rfl rfl rfl ?_
                                 refine RD.p T ?_
                                 refine RD.k rfl rfl ?_
                                 refine hK33 _ _ _ ?_
                                 refine SW.cond_t rfl ?_
                                 refine SW.seq_k fun K34 hK34 => ?_
                                 refine SW.region _ _ _ _ ?_
                                 refine RL.p T ?_
                                 refine RL.nil _ _ _ _ ?_
                                 refine hK34 _ _ _ ?_
                                 refine SW.ret ?_
                                 refine retQ.rr (H) ?_
                                 clear hK34 K34 hK33 K33 hK32 K32 hK28 K28 hK27 K27 hK26 K26 hK25 K25 hK20 K20 hK19 K19 hK18 K18 hK16 K16 hK15 K15 hK14 K14 hK13 K13 hK12 K12 hK11 K11 hK10 K10 hK9 K9 hK6 K6 hK5 K5 hK4 K4 hK2 K2 hK1 K1 hK0 K0
                                 first
                                   | exact ⟨rfl, rfl⟩
                                   | exact ⟨boolE (decide_eq_true (by omega)), rfl⟩
                                ·skip
                                 refine RD1.skip rfl rfl rfl (Stab.skip rfl rfl rfl rfl Stab.nil) ?_
                                 refine RD.skipN rfl rfl rfl rfl rfl (Stab.skip rfl rfl rfl rfl Stab.nil) ?_
                                 refine RD.skipN rfl rfl rfl rfl rfl Stab.nil ?_
                                 refine RD.skip rfl rfl rfl rfl ?_
                                 refine RD.p T ?_
                                 refine RD.k rfl rfl ?_
                                 refine hK33 _ _ _ ?_
                                 refine SW.cond_t rfl ?_
                                 refine SW.seq_k fun K34 hK34 => ?_
                                 refine SW.region _ _ _ _ ?_
                                 refine RL.p T ?_
                                 refine RL.nil _ _ _ _ ?_
                                 refine hK34 _ _ _ ?_
                                 refine SW.ret ?_
                                 refine retQ.rr (H) ?_
                                 clear hK34 K34 hK33 K33 hK32 K32 hK28 K28 hK27 K27 hK26 K26 hK25 K25 hK20 K20 hK19 K19 hK18 K18 hK16 K16 hK15 K15 hK14 K14 hK13 K13 hK12 K12 hK11 K11 hK10 K10 hK9 K9 hK6 K6 hK5 K5 hK4 K4 hK2 K2 hK1 K1 hK0 K0
                                 first
                                   | exact ⟨rfl, rfl⟩
                                   | exact ⟨boolE (decide_eq_true (by omega)), rfl⟩
                                )
                             ·try simp only [decide_eq_true_eq, decide_eq_false_iff_not, Bool.not_eq_true', Bool.not_eq_false', Int.not_lt, Int.not_le, Int.toNat_natCast] at hs4
                              first
                               | (exfalso; first | omega | contradiction | (clear hK33 K33; clear hK32 K32; clear hK28 K28; clear hK27 K27; clear hK26 K26; clear hK25 K25; clear hK20 K20; clear hK19 K19; clear hK18 K18; clear hK16 K16; clear hK15 K15; clear hK14 K14; clear hK13 K13; clear hK12 K12; clear hK11 K11; clear hK10 K10; clear hK9 K9; clear hK6 K6; clear hK5 K5; clear hK4 K4; clear hK2 K2; clear hK1 K1; clear hK0 K0; simp at *; done))
                               | (
                                refine RD.p T ?_
                                refine RD.q rfl rfl (Gd.yes rfl rfl) (QV.vN T rfl rfl rfl rfl rfl (by exact (rfl : _ = [_, _]))) ?_
                                refine RD.many rfl rfl (.cons ?_ (.cons ?_ .nil))
                                ·skip
                                 refine RD1.nv rfl (Gd.yes rfl rfl) ?_
                                 refine NV.sat (fun hs => ?_) (fun c hc => by cases hc)
                                 refine NV.call rfl rfl rfl fun15 rfl rfl (pfrom ps a7 ps.length c7 (Rd.rowh hs (by repeat first | exact At.head _ _ | apply At.tail | apply At.app)) rfl (by have := mg_len ps; rw [hps] at this; simp at this; omega) (fun k => (pd_mem hpo k).sub SubL.by)) ?_
                                 rintro _ _ ⟨a8, c8, rfl, e⟩; obtain rfl := e.symm
                                 refine ⟨(Stab.cons rfl (Gd.yes rfl rfl) (QV.vN T rfl rfl rfl rfl rfl rfl) Stab.nil), ?_⟩
                                 refine RD.nv rfl rfl rfl (Gd.yes rfl rfl) ?_
                                 refine NV.build1 T rfl (by conv => lhs; whnf) rfl rfl (by conv => lhs; whnf) (by exact (rfl : _ = some [_, _])) ?_
                                 intro b92_1
                                 refine ⟨(Stab.cons rfl (Gd.yes rfl rfl) (pev_sound T rfl) Stab.nil), ?_⟩
                                 refine RD.nv rfl rfl rfl (Gd.yes rfl rfl) ?_
                                 refine NV.sat (fun hs => ?_) (fun c hc => by cases hc)
                                 refine NV.call rfl rfl rfl fun14 rfl rfl (samePT ps a8 ps.length c8 (Rd.rowh hs (by repeat first | exact At.head _ _ | apply At.tail | apply At.app)) rfl (fun y hy => (hpo y hy).sub SubL.by) [(ls.getD k default)] _ 1 1 (Rd.rowh hs (by repeat first | exact At.head _ _ | apply At.tail | apply At.app)) rfl (fun y hy => by rw [List.mem_singleton.1 hy]; exact hx _) (by have := mg_len ps; rw [hps] at this; simp at this; omega) hps) ?_
                                 rintro _ _ ⟨rfl, e⟩; obtain rfl := e.symm
                                 refine ⟨Stab.nil, ?_⟩
                                 refine RD.p T ?_
                                 refine RD.p T ?_
                                 refine RD.k rfl rfl ?_
                                 refine hK33 _ _ _ ?_
                                 refine SW.cs (fun hc7 => ?_) (fun hc7 => ?_)
                                 ·skip
                                  first
                                   | (exfalso; first | omega | contradiction | (clear hK33 K33; clear hK32 K32; clear hK28 K28; clear hK27 K27; clear hK26 K26; clear hK25 K25; clear hK20 K20; clear hK19 K19; clear hK18 K18; clear hK16 K16; clear hK15 K15; clear hK14 K14; clear hK13 K13; clear hK12 K12; clear hK11 K11; clear hK10 K10; clear hK9 K9; clear hK6 K6; clear hK5 K5; clear hK4 K4; clear hK2 K2; clear hK1 K1; clear hK0 K0; simp at *; done))
                                   | (
                                    refine SW.seq_k fun K35 hK35 => ?_
                                    refine SW.region _ _ _ _ ?_
                                    refine RL.p T ?_
                                    refine RL.nil _ _ _ _ ?_
                                    refine hK35 _ _ _ ?_
                                    refine SW.ret ?_
                                    refine retQ.rr (H) ?_
                                    clear hK35 K35 hK33 K33 hK32 K32 hK28 K28 hK27 K27 hK26 K26 hK25 K25 hK20 K20 hK19 K19 hK18 K18 hK16 K16 hK15 K15 hK14 K14 hK13 K13 hK12 K12 hK11 K11 hK10 K10 hK9 K9 hK6 K6 hK5 K5 hK4 K4 hK2 K2 hK1 K1 hK0 K0
                                    first
                                      | exact ⟨rfl, rfl⟩
                                      | exact ⟨boolE (decide_eq_true (by omega)), rfl⟩
                                    )
                                 ·skip
                                  first
                                   | (exfalso; first | omega | contradiction | (clear hK33 K33; clear hK32 K32; clear hK28 K28; clear hK27 K27; clear hK26 K26; clear hK25 K25; clear hK20 K20; clear hK19 K19; clear hK18 K18; clear hK16 K16; clear hK15 K15; clear hK14 K14; clear hK13 K13; clear hK12 K12; clear hK11 K11; clear hK10 K10; clear hK9 K9; clear hK6 K6; clear hK5 K5; clear hK4 K4; clear hK2 K2; clear hK1 K1; clear hK0 K0; simp at *; done))
                                   | (
                                    refine SW.skip ?_
                                    refine hK13 _ _ _ ?_
                                    first | refine SW.wk (.var b 55 [.int .i64 ((room : Nat) : Int), .int .i64 ((9 : Nat) : Int), .slice la2 0 lc2, .int .i64 0, .int .i64 ((0 : Nat) : Int)] :: .row la2 0 lc2 35 2 (List.flatMap PdC []) :: H) ?_ | refine SW.wk (.var b 55 [.int .i64 ((room : Nat) : Int), .int .i64 ((9 : Nat) : Int), .slice la1 0 lc1, .int .i64 0, .int .i64 ((0 : Nat) : Int)] :: .row la1 0 lc1 35 2 (List.flatMap PdC []) :: H) ?_
                                    refine SW.region _ _ _ _ ?_
                                    first | refine RL.ar ?_ | refine RL.p T ?_
                                    refine RL.p T ?_
                                    refine RL.nil _ _ _ _ ?_
                                    first
                                      | exact ⟨nr - (k + 1), (by omega), k + 1, la2, lc2, (by rfl), ⟨by omega, trivial⟩, (.cons rfl (.nil (by repeat first | with_reducible exact Mx.refl | with_reducible exact Mx.mix | refine Mx.put rfl ?_ | refine Mx.upd rfl ?_ | refine Mx.updl rfl ?_ | refine Mx.fin rfl ?_ | refine Mx.inner rfl ?_ | refine Mx.none ?_ | exact Mx.refl | exact Mx.mix))), rfl, rfl⟩
                                      | exact ⟨nr - (k + 1), (by omega), k + 1, la1, lc1, (by rfl), ⟨by omega, trivial⟩, (.cons rfl (.nil (by repeat first | with_reducible exact Mx.refl | with_reducible exact Mx.mix | refine Mx.put rfl ?_ | refine Mx.upd rfl ?_ | refine Mx.updl rfl ?_ | refine Mx.fin rfl ?_ | refine Mx.inner rfl ?_ | refine Mx.none ?_ | exact Mx.refl | exact Mx.mix))), rfl, rfl⟩
                                    )
                                ·skip
                                 refine RD1.nv rfl (Gd.yes rfl rfl) ?_
                                 refine NV.build1 T rfl (by conv => lhs; whnf) rfl rfl (by conv => lhs; whnf) (by exact (rfl : _ = some [_, _])) ?_
                                 intro b92_1
                                 refine ⟨(Stab.cons rfl (Gd.yes rfl rfl) (pev_sound T rfl) Stab.nil), ?_⟩
                                 refine RD.nv rfl rfl rfl (Gd.yes rfl rfl) ?_
                                 refine NV.sat (fun hs => ?_) (fun c hc => by cases hc)
                                 refine NV.call rfl rfl rfl fun15 rfl rfl (pfrom ps a7 ps.length c7 (Rd.rowh hs (by repeat first | exact At.head _ _ | apply At.tail | apply At.app)) rfl (by have := mg_len ps; rw [hps] at this; simp at this; omega) (fun k => (pd_mem hpo k).sub SubL.by)) ?_
                                 rintro _ _ ⟨a8, c8, rfl, e⟩; obtain rfl := e.symm
                                 refine ⟨(Stab.cons rfl (Gd.yes rfl rfl) (QV.vN T rfl rfl rfl rfl rfl rfl) Stab.nil), ?_⟩
                                 refine RD.nv rfl rfl rfl (Gd.yes rfl rfl) ?_
                                 refine NV.sat (fun hs => ?_) (fun c hc => by cases hc)
                                 refine NV.call rfl rfl rfl fun14 rfl rfl (samePT ps a8 ps.length c8 (Rd.rowh hs (by repeat first | exact At.head _ _ | apply At.tail | apply At.app)) rfl (fun y hy => (hpo y hy).sub SubL.by) [(ls.getD k default)] _ 1 1 (Rd.rowh hs (by repeat first | exact At.head _ _ | apply At.tail | apply At.app)) rfl (fun y hy => by rw [List.mem_singleton.1 hy]; exact hx _) (by have := mg_len ps; rw [hps] at this; simp at this; omega) hps) ?_
                                 rintro _ _ ⟨rfl, e⟩; obtain rfl := e.symm
                                 refine ⟨Stab.nil, ?_⟩
                                 refine RD.p T ?_
                                 refine RD.p T ?_
                                 refine RD.k rfl rfl ?_
                                 refine hK33 _ _ _ ?_
                                 refine SW.cs (fun hc7 => ?_) (fun hc7 => ?_)
                                 ·skip
                                  first
                                   | (exfalso; first | omega | contradiction | (clear hK33 K33; clear hK32 K32; clear hK28 K28; clear hK27 K27; clear hK26 K26; clear hK25 K25; clear hK20 K20; clear hK19 K19; clear hK18 K18; clear hK16 K16; clear hK15 K15; clear hK14 K14; clear hK13 K13; clear hK12 K12; clear hK11 K11; clear hK10 K10; clear hK9 K9; clear hK6 K6; clear hK5 K5; clear hK4 K4; clear hK2 K2; clear hK1 K1; clear hK0 K0; simp at *; done))
                                   | (
                                    refine SW.seq_k fun K35 hK35 => ?_
                                    refine SW.region _ _ _ _ ?_
                                    refine RL.p T ?_
                                    refine RL.nil _ _ _ _ ?_
                                    refine hK35 _ _ _ ?_
                                    refine SW.ret ?_
                                    refine retQ.rr (H) ?_
                                    clear hK35 K35 hK33 K33 hK32 K32 hK28 K28 hK27 K27 hK26 K26 hK25 K25 hK20 K20 hK19 K19 hK18 K18 hK16 K16 hK15 K15 hK14 K14 hK13 K13 hK12 K12 hK11 K11 hK10 K10 hK9 K9 hK6 K6 hK5 K5 hK4 K4 hK2 K2 hK1 K1 hK0 K0
                                    first
                                      | exact ⟨rfl, rfl⟩
                                      | exact ⟨boolE (decide_eq_true (by omega)), rfl⟩
                                    )
                                 ·skip
                                  first
                                   | (exfalso; first | omega | contradiction | (clear hK33 K33; clear hK32 K32; clear hK28 K28; clear hK27 K27; clear hK26 K26; clear hK25 K25; clear hK20 K20; clear hK19 K19; clear hK18 K18; clear hK16 K16; clear hK15 K15; clear hK14 K14; clear hK13 K13; clear hK12 K12; clear hK11 K11; clear hK10 K10; clear hK9 K9; clear hK6 K6; clear hK5 K5; clear hK4 K4; clear hK2 K2; clear hK1 K1; clear hK0 K0; simp at *; done))
                                   | (
                                    refine SW.skip ?_
                                    refine hK13 _ _ _ ?_
                                    first | refine SW.wk (.var b 55 [.int .i64 ((room : Nat) : Int), .int .i64 ((9 : Nat) : Int), .slice la2 0 lc2, .int .i64 0, .int .i64 ((0 : Nat) : Int)] :: .row la2 0 lc2 35 2 (List.flatMap PdC []) :: H) ?_ | refine SW.wk (.var b 55 [.int .i64 ((room : Nat) : Int), .int .i64 ((9 : Nat) : Int), .slice la1 0 lc1, .int .i64 0, .int .i64 ((0 : Nat) : Int)] :: .row la1 0 lc1 35 2 (List.flatMap PdC []) :: H) ?_
                                    refine SW.region _ _ _ _ ?_
                                    first | refine RL.ar ?_ | refine RL.p T ?_
                                    refine RL.p T ?_
                                    refine RL.nil _ _ _ _ ?_
                                    first
                                      | exact ⟨nr - (k + 1), (by omega), k + 1, la2, lc2, (by rfl), ⟨by omega, trivial⟩, (.cons rfl (.nil (by repeat first | with_reducible exact Mx.refl | with_reducible exact Mx.mix | refine Mx.put rfl ?_ | refine Mx.upd rfl ?_ | refine Mx.updl rfl ?_ | refine Mx.fin rfl ?_ | refine Mx.inner rfl ?_ | refine Mx.none ?_ | exact Mx.refl | exact Mx.mix))), rfl, rfl⟩
                                      | exact ⟨nr - (k + 1), (by omega), k + 1, la1, lc1, (by rfl), ⟨by omega, trivial⟩, (.cons rfl (.nil (by repeat first | with_reducible exact Mx.refl | with_reducible exact Mx.mix | refine Mx.put rfl ?_ | refine Mx.upd rfl ?_ | refine Mx.updl rfl ?_ | refine Mx.fin rfl ?_ | refine Mx.inner rfl ?_ | refine Mx.none ?_ | exact Mx.refl | exact Mx.mix))), rfl, rfl⟩
                                    )
                                )
                             )
                          )
                       )
                    )
                 )
              )
           ·skip
            first
             | (exfalso; first | omega | contradiction | (clear hK12 K12; clear hK11 K11; clear hK10 K10; clear hK9 K9; clear hK6 K6; clear hK5 K5; clear hK4 K4; clear hK2 K2; clear hK1 K1; clear hK0 K0; simp at *; done))
             | (
              refine SW.exit ?_
              refine hK9 _ _ _ ?_
              refine SW.seq_k fun K36 hK36 => ?_
              refine SW.region _ _ _ _ ?_
              refine RL.p T ?_
              refine RL.c fun10 (fun hs => SC.wk (flushV b room 9 0 0 la 0 lc [] rfl rfl (by decide) (by simp) (H := H))) ?_
              rintro _ _ ⟨D8, oa8, on8, oc8, os8, la8, ln8, lc8, l8, age8, us8, rfl, e, hon8, hln8, hus8, hos8, hl8, hag8, hoq8, hly8⟩; obtain rfl := e.symm
              obtain rfl : l8 = [] := mg_nil.1 hl8
              obtain rfl : ln8 = 0 := hln8
              obtain rfl : us8 = 0 := hus8
              obtain rfl : age8 = 0 := by rw [hag8]; rfl
              have hz8 : on8 = 0 := by rw [hon8, ← outD_len, hos8]; rfl
              refine RL.p T ?_
              refine RL.p T ?_
              refine RL.p T ?_
              refine RL.sp 101 (fun hs5 => ?_) (fun hs5 => ?_)
              ·skip
               first
                | (exfalso; first | omega | contradiction | (clear hK36 K36; clear hK12 K12; clear hK11 K11; clear hK10 K10; clear hK9 K9; clear hK6 K6; clear hK5 K5; clear hK4 K4; clear hK2 K2; clear hK1 K1; clear hK0 K0; simp at *; done))
                | (
                 refine RL.p T ?_
                 refine RL.c fun16 (fun hs => SC.wk (tickV b room 9 0 0 la8 0 lc8 [] rfl rfl (by decide) (by simp) (by omega) (by omega) (by omega) (by omega) (H := H))) ?_
                 rintro _ _ ⟨D9, oa9, on9, oc9, os9, la9, ln9, lc9, l9, age9, us9, rfl, e, hon9, hln9, hus9, hos9, hl9, hag9, hoq9, hly9⟩; obtain rfl := e.symm
                 have hz9 : on9 = 0 := by rw [hon9, ← outD_len, hos9]; rfl
                 refine RL.p T ?_
                 refine RL.p T ?_
                 refine RL.p T ?_
                 refine RL.p T ?_
                 refine RL.nil _ _ _ _ ?_
                 refine hK36 _ _ _ ?_
                 refine SW.ret ?_
                 refine retQ.rr (H) ?_
                 clear hK36 K36 hK12 K12 hK11 K11 hK10 K10 hK9 K9 hK6 K6 hK5 K5 hK4 K4 hK2 K2 hK1 K1 hK0 K0
                 first
                   | exact ⟨rfl, rfl⟩
                   | exact ⟨boolE (decide_eq_true (by omega)), rfl⟩
                 )
              ·skip
               first
                | (exfalso; first | omega | contradiction | (clear hK36 K36; clear hK12 K12; clear hK11 K11; clear hK10 K10; clear hK9 K9; clear hK6 K6; clear hK5 K5; clear hK4 K4; clear hK2 K2; clear hK1 K1; clear hK0 K0; simp at *; done))
                | (
                 refine RL.guard_no rfl rfl rfl ?_
                 refine RL.guard_no rfl rfl rfl ?_
                 refine RL.guard_no rfl rfl rfl ?_
                 refine RL.guard_no rfl rfl rfl ?_
                 refine RL.p T ?_
                 refine RL.p T ?_
                 refine RL.nil _ _ _ _ ?_
                 refine hK36 _ _ _ ?_
                 refine SW.ret ?_
                 refine retQ.rr (H) ?_
                 clear hK36 K36 hK12 K12 hK11 K11 hK10 K10 hK9 K9 hK6 K6 hK5 K5 hK4 K4 hK2 K2 hK1 K1 hK0 K0
                 first
                   | exact ⟨rfl, rfl⟩
                   | exact ⟨boolE (decide_eq_true (by omega)), rfl⟩
                 )
              )
          )
       )
    )
theorem packFlushes_bad {w0 : World} {H : List Chunk} (room : Int) (h : room < 8 ∨ 2048 < room) (ls : List Pd) (sr : Option Addr) (nr cr : Nat) (hB : ∀ H, Rd w0 H sr nr cr 2 (ls.flatMap PdC)) (hnr : nr = ls.length) (hmr : nr ≤ 4398046511000) (hls : ∀ H, ∀ y ∈ ls, PdOk w0 H y) : SC Tryd.prog w0 5 #[.int .i64 room, .slice sr nr cr] H (fun v H' => v = .bool true ∧ H' = H) := by
 refine SC.enter Tryd.func5 rfl (Nat.le_of_ble_eq_true rfl) ?_
 refine SW.seq_k fun K0 hK0 => ?_
 refine SW.region _ _ _ _ ?_
 refine RL.p T ?_
 refine RL.nil _ _ _ _ ?_
 refine hK0 _ _ _ ?_
 refine SW.seq_k fun K1 hK1 => ?_
 refine SW.seq_k fun K2 hK2 => ?_
 refine SW.region _ _ _ _ ?_
 refine RL.c fun7 (fun hs => alive) ?_
 rintro _ _ ⟨rfl, e⟩; obtain rfl := e.symm
 refine RL.p T ?_
 refine RL.nil _ _ _ _ ?_
 refine hK2 _ _ _ ?_
 refine SW.cs (fun hc0 => ?_) (fun hc0 => ?_)
 ·skip
  first
   | (exfalso; first | omega | contradiction | (clear hK2 K2; clear hK1 K1; clear hK0 K0; simp at *; done))
   | (
    refine SW.seq_k fun K3 hK3 => ?_
    refine SW.region _ _ _ _ ?_
    refine RL.p T ?_
    refine RL.nil _ _ _ _ ?_
    refine hK3 _ _ _ ?_
    refine SW.ret ?_
    refine retQ.rr (H) ?_
    clear hK3 K3 hK2 K2 hK1 K1 hK0 K0
    exact ⟨rfl, rfl⟩
    )
 ·skip
  first
   | (exfalso; first | omega | contradiction | (clear hK2 K2; clear hK1 K1; clear hK0 K0; simp at *; done))
   | (
    refine SW.skip ?_
    refine hK1 _ _ _ ?_
    refine SW.seq_k fun K4 hK4 => ?_
    refine SW.region _ _ _ _ ?_
    refine RL.p T ?_
    refine RL.c fun8 (fun hs => new_bad room 9 (by omega)) ?_
    rintro _ _ ⟨rfl, e⟩; obtain rfl := e.symm
    refine RL.p T ?_
    refine RL.p T ?_
    refine RL.p T ?_
    refine RL.p T ?_
    refine RL.p T ?_
    refine RL.nil _ _ _ _ ?_
    refine hK4 _ _ _ ?_
    refine SW.seq_k fun K5 hK5 => ?_
    refine SW.seq_k fun K6 hK6 => ?_
    refine SW.region _ _ _ _ ?_
    refine RL.p T ?_
    refine RL.p T ?_
    refine RL.p T ?_
    refine RL.sp 24 (fun hs0 => ?_) (fun hs0 => ?_)
    ·skip
     first
      | (exfalso; first | omega | contradiction | (clear hK6 K6; clear hK5 K5; clear hK4 K4; clear hK2 K2; clear hK1 K1; clear hK0 K0; simp at *; done))
      | (
       refine RL.guard_no rfl rfl rfl ?_
       refine RL.guard_no rfl rfl rfl ?_
       refine RL.guard_no rfl rfl rfl ?_
       refine RL.p T ?_
       refine RL.nil _ _ _ _ ?_
       refine hK6 _ _ _ ?_
       refine SW.cond_t rfl ?_
       refine SW.seq_k fun K7 hK7 => ?_
       refine SW.region _ _ _ _ ?_
       refine RL.p T ?_
       refine RL.nil _ _ _ _ ?_
       refine hK7 _ _ _ ?_
       refine SW.ret ?_
       refine retQ.rr (H) ?_
       clear hK7 K7 hK6 K6 hK5 K5 hK4 K4 hK2 K2 hK1 K1 hK0 K0
       exact ⟨rfl, rfl⟩
       )
    ·skip
     first
      | (exfalso; first | omega | contradiction | (clear hK6 K6; clear hK5 K5; clear hK4 K4; clear hK2 K2; clear hK1 K1; clear hK0 K0; simp at *; done))
      | (
       refine RL.p T ?_
       refine RL.p T ?_
       refine RL.p T ?_
       refine RL.p T ?_
       refine RL.nil _ _ _ _ ?_
       refine hK6 _ _ _ ?_
       refine SW.cs (fun hc1 => ?_) (fun hc1 => ?_)
       ·skip
        first
         | (exfalso; first | omega | contradiction | (clear hK6 K6; clear hK5 K5; clear hK4 K4; clear hK2 K2; clear hK1 K1; clear hK0 K0; simp at *; done))
         | (
          refine SW.seq_k fun K8 hK8 => ?_
          refine SW.region _ _ _ _ ?_
          refine RL.p T ?_
          refine RL.nil _ _ _ _ ?_
          refine hK8 _ _ _ ?_
          refine SW.ret ?_
          refine retQ.rr (H) ?_
          clear hK8 K8 hK6 K6 hK5 K5 hK4 K4 hK2 K2 hK1 K1 hK0 K0
          exact ⟨rfl, rfl⟩
          )
       ·skip
        exfalso; first | omega | contradiction | (clear hK6 K6; clear hK5 K5; clear hK4 K4; clear hK2 K2; clear hK1 K1; clear hK0 K0; simp at *; done)
       )
    )
theorem packFlushesI {w0 : World} {H : List Chunk} (room : Int) (ls : List Pd) (sr : Option Addr) (nr cr : Nat) (hB : ∀ H, Rd w0 H sr nr cr 2 (ls.flatMap PdC)) (hnr : nr = ls.length) (hmr : nr ≤ 4398046511000) (hls : ∀ H, ∀ y ∈ ls, PdOk w0 H y) : SC Tryd.prog w0 5 #[.int .i64 room, .slice sr nr cr] H (fun v H' => v = .bool true ∧ H' = H) := by
  by_cases h : room < 8 ∨ 2048 < room
  · exact packFlushes_bad room h ls sr nr cr hB hnr hmr hls
  · obtain ⟨q, rfl⟩ := Int.eq_ofNat_of_zero_le (by omega : 0 ≤ room)
    exact packFlushes q (by omega) ls sr nr cr hB hnr hmr hls
end Go.Proofs.YtlgdfoniijmlbaaDoor.M
