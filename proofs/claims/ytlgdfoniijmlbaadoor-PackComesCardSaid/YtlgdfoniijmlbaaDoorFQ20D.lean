import Derived.Test.YtlgdfoniijmlbaaDoorProg
import Derived.Test.YtlgdfoniijmlbaaDoorFP20D
set_option linter.unusedVariables false
set_option linter.unusedSimpArgs false
namespace Go.Proofs.YtlgdfoniijmlbaaDoor.M
open Go Go.Sep Go.Proofs
set_option maxRecDepth 10000
set_option maxHeartbeats 20000000
theorem packComes {w0 : World} {H : List Chunk} (room wait : Nat) (hrw : 8 ≤ room ∧ room ≤ 2048 ∧ 1 ≤ wait ∧ wait ≤ 1000) (ls : List Ac) (sr : Option Addr) (nr cr : Nat) (hB : ∀ H, Rd w0 H sr nr cr 4 (ls.flatMap AcQ)) (hnr : nr = ls.length) (hmr : nr ≤ 4398046511000) (hls : ∀ H, ∀ y ∈ ls, AcOk w0 H y) : SC Tryd.prog w0 6 #[.int .i64 ((room : Nat) : Int), .int .i64 ((wait : Nat) : Int), .slice sr nr cr] H (fun v H' => v = .bool true ∧ H' = H) := by
 refine SC.enter Tryd.func6 rfl (Nat.le_of_ble_eq_true rfl) ?_
 refine SW.seq_k fun K0 hK0 => ?_
 refine SW.region _ _ _ _ ?_
 refine RL.s ?_
 refine NV.box rfl (by exact (rfl : _ = [_])) ?_
 intro b3_0
 refine RL.p T ?_
 refine RL.nil _ _ _ _ ?_
 refine hK0 _ _ _ ?_
 refine SW.seq_k fun K1 hK1 => ?_
 refine SW.seq_k fun K2 hK2 => ?_
 refine SW.region _ _ _ _ ?_
 refine RL.c fun7 (fun hs => alive) ?_
 rintro _ _ ⟨rfl, e⟩; obtain rfl := e.symm
 refine RL.p T ?_
 refine RL.nil _ _ _ _ ?_
 refine hK2 _ _ _ ?_
 refine SW.cs (fun hc0 => ?_) (fun hc0 => ?_)
 ·skip
  first
   | (exfalso; first | omega | contradiction | (clear hK2 K2; clear hK1 K1; clear hK0 K0; simp at *; done))
   | (
    refine SW.seq_k fun K3 hK3 => ?_
    refine SW.region _ _ _ _ ?_
    refine RL.p T ?_
    refine RL.nil _ _ _ _ ?_
    refine hK3 _ _ _ ?_
    refine SW.ret ?_
    refine retQ.rr (H) ?_
    clear hK3 K3 hK2 K2 hK1 K1 hK0 K0
    first
      | exact ⟨rfl, rfl⟩
      | exact ⟨boolE (decide_eq_true (by omega)), rfl⟩
    )
 ·skip
  first
   | (exfalso; first | omega | contradiction | (clear hK2 K2; clear hK1 K1; clear hK0 K0; simp at *; done))
   | (
    refine SW.skip ?_
    refine hK1 _ _ _ ?_
    refine SW.seq_k fun K4 hK4 => ?_
    refine SW.region _ _ _ _ ?_
    refine RL.lv1 T ?_
    refine RL.p T ?_
    refine RL.c fun8 (fun hs => new_ok room wait (by omega)) ?_
    rintro _ _ ⟨b, rfl, e⟩; obtain rfl := e.symm
    refine RL.p T ?_
    refine RL.p T ?_
    refine RL.p T ?_
    refine RL.p T ?_
    refine RL.p T ?_
    refine RL.nil _ _ _ _ ?_
    refine hK4 _ _ _ ?_
    refine SW.seq_k fun K5 hK5 => ?_
    refine SW.seq_k fun K6 hK6 => ?_
    refine SW.region _ _ _ _ ?_
    refine RL.p T ?_
    refine RL.c fun17 (fun hs => great ls sr nr cr hB hnr hmr hls) ?_
    rintro _ _ ⟨gt, rfl, hgt, e⟩; obtain rfl := e.symm
    refine RL.p T ?_
    refine RL.sp 27 (fun hs0 => ?_) (fun hs0 => ?_)
    ·skip
     first
      | (exfalso; first | omega | contradiction | (clear hK6 K6; clear hK5 K5; clear hK4 K4; clear hK2 K2; clear hK1 K1; clear hK0 K0; simp at *; done))
      | (
       refine RL.guard_no rfl rfl rfl ?_
       refine RL.guard_no rfl rfl rfl ?_
       refine RL.p T ?_
       refine RL.nil _ _ _ _ ?_
       refine hK6 _ _ _ ?_
       refine SW.cond_t rfl ?_
       refine SW.seq_k fun K7 hK7 => ?_
       refine SW.region _ _ _ _ ?_
       refine RL.p T ?_
       refine RL.nil _ _ _ _ ?_
       refine hK7 _ _ _ ?_
       refine SW.ret ?_
       refine retQ.rr (H) ?_
       clear hK7 K7 hK6 K6 hK5 K5 hK4 K4 hK2 K2 hK1 K1 hK0 K0
       first
         | exact ⟨rfl, rfl⟩
         | exact ⟨boolE (decide_eq_true (by omega)), rfl⟩
       )
    ·skip
     first
      | (exfalso; first | omega | contradiction | (clear hK6 K6; clear hK5 K5; clear hK4 K4; clear hK2 K2; clear hK1 K1; clear hK0 K0; simp at *; done))
      | (
       refine RL.p T ?_
       refine RL.p T ?_
       refine RL.p T ?_
       refine RL.nil _ _ _ _ ?_
       refine hK6 _ _ _ ?_
       refine SW.cs (fun hc1 => ?_) (fun hc1 => ?_)
       ·skip
        first
         | (exfalso; first | omega | contradiction | (clear hK6 K6; clear hK5 K5; clear hK4 K4; clear hK2 K2; clear hK1 K1; clear hK0 K0; simp at *; done))
         | (
          refine SW.seq_k fun K8 hK8 => ?_
          refine SW.region _ _ _ _ ?_
          refine RL.p T ?_
          refine RL.nil _ _ _ _ ?_
          refine hK8 _ _ _ ?_
          refine SW.ret ?_
          refine retQ.rr (H) ?_
          clear hK8 K8 hK6 K6 hK5 K5 hK4 K4 hK2 K2 hK1 K1 hK0 K0
          first
            | exact ⟨rfl, rfl⟩
            | exact ⟨boolE (decide_eq_true (by omega)), rfl⟩
          )
       ·skip
        first
         | (exfalso; first | omega | contradiction | (clear hK6 K6; clear hK5 K5; clear hK4 K4; clear hK2 K2; clear hK1 K1; clear hK0 K0; simp at *; done))
         | (
          refine SW.skip ?_
          refine hK5 _ _ _ ?_
          refine SW.seq_k fun K9 hK9 => ?_
          refine SW.region _ _ _ _ ?_
          refine RL.p T ?_
          refine RL.s ?_
          refine NV.alloc T rfl rfl rfl (by exact (rfl : _ = [_])) ?_
          intro b10_1
          refine RL.nil _ _ _ _ ?_
          refine hK9 _ _ _ ?_
          refine SW.seq_k fun K10 hK10 => ?_
          refine SW.region _ _ _ _ ?_
          refine RL.s ?_
          refine NV.alloc T rfl rfl rfl (by exact (rfl : _ = [_])) ?_
          intro b11_2
          refine RL.sv1 T ?_
          refine RL.nil _ _ _ _ ?_
          refine hK10 _ _ _ ?_
          refine SW.seq_k fun K11 hK11 => ?_
          refine SW.region _ _ _ _ ?_
          refine RL.p T ?_
          refine RL.p T ?_
          refine RL.nil _ _ _ _ ?_
          refine hK11 _ _ _ ?_
          refine SW.seq_k fun K12 hK12 => ?_
          refine SW.seq_k fun K13 hK13 => ?_
          have h200 : nr ≤ 200 := by first | exact hgt (by assumption) | (apply hgt; simp_all; done)
          refine SW.nilrow 32 2 (SW.nilrow 32 2 (SW.nilrow 35 2 ?_))
          refine SW.wk (.var b 55 [.int .i64 ((room : Nat) : Int), .int .i64 ((wait : Nat) : Int), .slice none 0 0, .int .i64 0, .int .i64 ((0 : Nat) : Int)] :: .row none 0 0 35 2 (List.flatMap PdC []) :: .var b11_2 4 [.bool true] :: .var b3_0 3 [.int .i64 ((room : Nat) : Int)] :: .var b10_1 22 [.slice none 0 0] :: .row none 0 0 32 2 (List.flatMap PdC ([])) :: .row none 0 0 32 2 (List.flatMap PdC ([])) :: (([]) ++ H)) ?_
          refine SW.region _ _ _ _ ?_
          refine RL.p T ?_
          refine RL.p T ?_
          refine RL.p T ?_
          refine RL.nil _ _ _ _ ?_
          refine hK13 _ _ _ ?_
          refine SW.block ?_
          refine SW.loopM (fun frB mm fr ds HH => ∃ (k : Nat) (la : Option Addr) (ln lc : Nat) (l : List Pd) (age : Nat) (used : Int) (ua : Option Addr) (un uc : Nat) (uu : List Pd) (ia : Option Addr) (inn ic : Nat) (ins : List Pd) (G : List Chunk), mm = nr - k ∧ (k ≤ nr ∧ inn = ins.length ∧ inn ≤ k ∧ (∀ H, ∀ y ∈ ins, PdOk w0 H y) ∧ ln = l.length ∧ used = (usedM (mg l) : Nat) ∧ usedM (mg l) + 8 ≤ room ∧ (∀ y ∈ l, PdOk w0 G y) ∧ age < wait ∧ (mg l = [] → age = 0) ∧ un = uu.length ∧ (∀ y ∈ uu, PdOk w0 G y) ∧ mg uu ++ mg l = mg ins) ∧ FrIs [9, 14, 15, 16, 34, 35, 36, 37, 38, 39, 40, 41, 42, 43, 44, 45, 46, 47, 48, 49, 50, 51, 52, 53, 54, 55, 56, 57, 58, 59, 60, 61, 62, 63, 64, 65, 66, 67, 68, 69, 70, 71, 72, 73, 74] frB fr [(9, .slice ia inn ic), (34, .int .i64 k)] ∧ ds = [] ∧ HH = (.var b 55 [.int .i64 ((room : Nat) : Int), .int .i64 ((wait : Nat) : Int), .slice la ln lc, .int .i64 used, .int .i64 ((age : Nat) : Int)] :: .row la ln lc 35 2 (List.flatMap PdC l) :: .var b11_2 4 [.bool true] :: .var b3_0 3 [.int .i64 ((room : Nat) : Int)] :: .var b10_1 22 [.slice ua un uc] :: .row ua un uc 32 2 (List.flatMap PdC (uu)) :: .row ia inn ic 32 2 (List.flatMap PdC (ins)) :: ((G) ++ H))) (n := nr - 0) ?_ ?_
          ·exact ⟨0, none, 0, 0, [], 0, 0, none, 0, 0, [], none, 0, 0, [], [], rfl, ⟨Nat.zero_le _, rfl, Nat.le_refl _, (fun H => by simp), rfl, rfl, (by show 0 + 8 ≤ room; omega), (by simp), by omega, (fun _ => rfl), rfl, (by simp), rfl⟩, (.cons rfl (.consI rfl (by first | omega | rfl) (.nil (by repeat first | with_reducible exact Mx.refl | with_reducible exact Mx.mix | refine Mx.put rfl ?_ | refine Mx.upd rfl ?_ | refine Mx.updl rfl ?_ | refine Mx.fin rfl ?_ | refine Mx.inner rfl ?_ | refine Mx.none ?_ | exact Mx.refl | exact Mx.mix)))), rfl, rfl⟩
          ·rintro mm fr ds HH ⟨k, la, ln, lc, l, age, used, ua, un, uc, uu, ia, inn, ic, ins, G, rfl, ⟨hk, hin, hik, hio, hln, hus, hur, hlo, hag, hag0, hun, huo, hmg⟩, hFr, rfl, eHH⟩
           obtain rfl := eHH.symm
           obtain ⟨frU, rfl⟩ := hFr.eq
           clear hFr
           have hx := fun H => ac_mem (hls H) k
           have hxn0 := (hx []).n0
           have hxn1 := (hx []).n1
           have hlen : un + ln = inn := by have := congrArg List.length hmg; rw [List.length_append, mg_len, mg_len, mg_len] at this; omega
           have hokl := mok_all hlo (by omega)
           refine SW.seq_k fun K14 hK14 => ?_
           refine SW.region _ _ _ _ ?_
           refine RL.p T ?_
           refine RL.nil _ _ _ _ ?_
           refine hK14 _ _ _ ?_
           refine SW.seq_k fun K15 hK15 => ?_
           refine SW.cs (fun hc2 => ?_) (fun hc2 => ?_)
           ·skip
            first
             | (exfalso; first | omega | contradiction | (clear hK15 K15; clear hK14 K14; clear hK13 K13; clear hK12 K12; clear hK11 K11; clear hK10 K10; clear hK9 K9; clear hK6 K6; clear hK5 K5; clear hK4 K4; clear hK2 K2; clear hK1 K1; clear hK0 K0; simp at *; done))
             | (
              refine SW.skip ?_
              refine hK15 _ _ _ ?_
              refine SW.seq_k fun K16 hK16 => ?_
              refine SW.block ?_
              refine SW.seq_k fun K17 hK17 => ?_
              refine SW.region _ _ _ _ ?_
              refine RL.ix T ?_ (hR := fun hs => (hB _))
              refine RL.leN T ?_ (hR := fun hs => (hB _)) (hvs := (by exact (rfl : _ = [_, _, _, _])))
              refine RL.s ?_
              refine NV.alloc T rfl rfl rfl (by exact (rfl : _ = [_, _, _, _])) ?_
              intro b14_3
              refine RL.s ?_
              refine NV.sN T rfl rfl rfl (by exact (rfl : _ = [_, _, _, _])) (by exact (rfl : _ = [_, _, _, _])) ?_
              refine RL.nil _ _ _ _ ?_
              refine hK17 _ _ _ ?_
              refine SW.seq_k fun K18 hK18 => ?_
              refine SW.region _ _ _ _ ?_
              refine RL.p T ?_
              refine RL.lv1 T ?_
              refine RL.nil _ _ _ _ ?_
              refine hK18 _ _ _ ?_
              refine SW.block ?_
              refine SW.seq_k fun K19 hK19 => ?_
              refine SW.region _ _ _ _ ?_
              refine RL.p T ?_
              refine RL.p T ?_
              refine RL.nil _ _ _ _ ?_
              refine hK19 _ _ _ ?_
              refine SW.cs (fun hc3 => ?_) (fun hc3 => ?_)
              ·skip
               first
                | (exfalso; first | omega | contradiction | (clear hK19 K19; clear hK18 K18; clear hK17 K17; clear hK16 K16; clear hK15 K15; clear hK14 K14; clear hK13 K13; clear hK12 K12; clear hK11 K11; clear hK10 K10; clear hK9 K9; clear hK6 K6; clear hK5 K5; clear hK4 K4; clear hK2 K2; clear hK1 K1; clear hK0 K0; simp at *; done))
                | (
                 refine SW.seq_k fun K20 hK20 => ?_
                 refine SW.region _ _ _ _ ?_
                 refine RL.p T ?_
                 refine RL.lv1 T ?_
                 refine RL.p T ?_
                 refine RL.wk (.var b 55 [.int .i64 ((room : Nat) : Int), .int .i64 ((wait : Nat) : Int), .slice la ln lc, .int .i64 used, .int .i64 ((age : Nat) : Int)] :: .row la ln lc 35 2 (List.flatMap PdC l) :: .var b11_2 4 [.bool true] :: .var b3_0 3 [.int .i64 ((room : Nat) : Int)] :: .var b10_1 22 [.slice ua un uc] :: .row ua un uc 32 2 (List.flatMap PdC (uu)) :: .row ia inn ic 32 2 (List.flatMap PdC (ins)) :: ((G) ++ H)) ?_
                 refine RL.nil _ _ _ _ ?_
                 refine hK20 _ _ _ ?_
                 refine SW.block ?_
                 refine SW.loopM (fun frB mm fr ds HH => ∃ (j : Nat) (la : Option Addr) (ln lc : Nat) (l : List Pd) (age : Nat) (used : Int) (ua : Option Addr) (un uc : Nat) (uu : List Pd) (G : List Chunk), mm = (ls.getD k default).n.toNat - j ∧ ((j : Int) ≤ (ls.getD k default).n ∧ ln = l.length ∧ used = (usedM (mg l) : Nat) ∧ usedM (mg l) + 8 ≤ room ∧ (∀ y ∈ l, PdOk w0 G y) ∧ age < wait ∧ (mg l = [] → age = 0) ∧ un = uu.length ∧ (∀ y ∈ uu, PdOk w0 G y) ∧ mg uu ++ mg l = mg ins) ∧ FrIs [61, 62, 63, 64, 65, 66, 67] frB fr [(61, .int .u8 (j : Int))] ∧ ds = [] ∧ HH = (.var b 55 [.int .i64 ((room : Nat) : Int), .int .i64 ((wait : Nat) : Int), .slice la ln lc, .int .i64 used, .int .i64 ((age : Nat) : Int)] :: .row la ln lc 35 2 (List.flatMap PdC l) :: .var b11_2 4 [.bool true] :: .var b3_0 3 [.int .i64 ((room : Nat) : Int)] :: .var b10_1 22 [.slice ua un uc] :: .row ua un uc 32 2 (List.flatMap PdC (uu)) :: .row ia inn ic 32 2 (List.flatMap PdC (ins)) :: ((G) ++ H))) (n := (ls.getD k default).n.toNat - 0) ?_ ?_
                 ·exact ⟨0, la, ln, lc, l, age, used, ua, un, uc, uu, G, rfl, ⟨by omega, hln, hus, hur, hlo, hag, hag0, hun, huo, hmg⟩, (.consI rfl (by first | omega | rfl) (.nil (by repeat first | with_reducible exact Mx.refl | with_reducible exact Mx.mix | refine Mx.put rfl ?_ | refine Mx.upd rfl ?_ | refine Mx.updl rfl ?_ | refine Mx.fin rfl ?_ | refine Mx.inner rfl ?_ | refine Mx.none ?_ | exact Mx.refl | exact Mx.mix))), rfl, rfl⟩
                 ·rintro mm fr ds HH ⟨j, la, ln, lc, l, age, used, ua, un, uc, uu, G, rfl, ⟨hj, hln, hus, hur, hlo, hag, hag0, hun, huo, hmg⟩, hFr, rfl, eHH⟩
                  obtain rfl := eHH.symm
                  obtain ⟨frU, rfl⟩ := hFr.eq
                  clear hFr
                  have hlen : un + ln = inn := by have := congrArg List.length hmg; rw [List.length_append, mg_len, mg_len, mg_len] at this; omega
                  have hokl := mok_all hlo (by omega)
                  refine SW.seq_k fun K21 hK21 => ?_
                  refine SW.region _ _ _ _ ?_
                  refine RL.p T ?_
                  refine RL.nil _ _ _ _ ?_
                  refine hK21 _ _ _ ?_
                  refine SW.seq_k fun K22 hK22 => ?_
                  refine SW.cs (fun hc4 => ?_) (fun hc4 => ?_)
                  ·skip
                   first
                    | (exfalso; first | omega | contradiction | (clear hK22 K22; clear hK21 K21; clear hK20 K20; clear hK19 K19; clear hK18 K18; clear hK17 K17; clear hK16 K16; clear hK15 K15; clear hK14 K14; clear hK13 K13; clear hK12 K12; clear hK11 K11; clear hK10 K10; clear hK9 K9; clear hK6 K6; clear hK5 K5; clear hK4 K4; clear hK2 K2; clear hK1 K1; clear hK0 K0; simp at *; done))
                    | (
                     refine SW.skip ?_
                     refine hK22 _ _ _ ?_
                     refine SW.seq_k fun K23 hK23 => ?_
                     refine SW.block ?_
                     refine SW.region _ _ _ _ ?_
                     refine RL.p T ?_
                     refine RL.p T ?_
                     refine RL.c fun16 (fun hs => SC.wk (tickV b room wait age used la ln lc l hln hus (by omega) (fun y hy => (hlo y hy).sub SubL.by) (by omega) (by omega) hag (by omega) (H := .var b11_2 4 [.bool true] :: .var b3_0 3 [.int .i64 ((room : Nat) : Int)] :: .var b10_1 22 [.slice ua un uc] :: .row ua un uc 32 2 (List.flatMap PdC (uu)) :: .row ia inn ic 32 2 (List.flatMap PdC (ins)) :: (G ++ H)))) ?_
                     rintro _ _ ⟨D1, oa1, on1, oc1, os1, la1, ln1, lc1, l1, age1, us1, rfl, e, hon1, hln1, hus1, hos1, hl1, hag1, hoq1, hly1⟩; obtain rfl := e.symm
                     have hlo1 : ∀ y ∈ l1, PdOk w0 (D1 ++ G) y := pdmix hlo hly1
                     have hO1 : outD os1 = (tickG wait (mg l) age).map joinB := by rw [hos1, tickO_G]
                     have hA1 : AllOk room (tickG wait (mg l) age) := AllOk.tick hokl (by omega)
                     have hol1 : on1 ≤ 2 := by have := congrArg List.length hO1; rw [outD_len, List.length_map] at this; have h5 := tickG_len wait (mg l) age; omega
                     refine RL.c fun18 (fun hs => SC.wk (takeC b11_2 b3_0 b10_1 room oa1 on1 oc1 os1 (Rd.rowh (satT (H0 := .row oa1 on1 oc1 30 1 (List.flatMap SlC os1) :: .var b 55 [.int .i64 ((room : Nat) : Int), .int .i64 ((wait : Nat) : Int), .slice la1 ln1 lc1, .int .i64 us1, .int .i64 ((age1 : Nat) : Int)] :: .row la1 ln1 lc1 35 2 (List.flatMap PdC l1) :: .row ia inn ic 32 2 (List.flatMap PdC (ins)) :: (D1 ++ (G ++ H))) hs) (At.head _ _)) hon1 (fun q hq => (hoq1 q hq).sub SubL.by) (tickG wait (mg l) age) hO1 hA1 (by omega) ua un uc uu hun (by omega) (H := .row oa1 on1 oc1 30 1 (List.flatMap SlC os1) :: .var b 55 [.int .i64 ((room : Nat) : Int), .int .i64 ((wait : Nat) : Int), .slice la1 ln1 lc1, .int .i64 us1, .int .i64 ((age1 : Nat) : Int)] :: .row la1 ln1 lc1 35 2 (List.flatMap PdC l1) :: .row ia inn ic 32 2 (List.flatMap PdC (ins)) :: (D1 ++ (G ++ H))))) ?_
                     rintro _ _ ⟨D9, ua9, un9, uc9, uu9, e, hun9, hmg9, huo9⟩; obtain rfl := e.symm
                     have hur1 : usedM (mg l1) + 8 ≤ room := by rw [hl1]; exact tickL_used (by omega) hur
                     have hag1' : age1 < wait := by rw [hag1]; exact tickA_lt hag
                     have hag01 : mg l1 = [] → age1 = 0 := fun h => by rw [hag1]; rw [hl1] at h; exact tick_age0 hag0 h
                     have hlo9 : ∀ y ∈ l1, PdOk w0 (D9 ++ (D1 ++ G)) y := fun y hy => (hlo1 y hy).app
                     have huo9' : ∀ y ∈ uu9, PdOk w0 (D9 ++ (D1 ++ G)) y := fun y hy => (huo9 y hy).elim (fun m => (huo y m).sub SubL.by) (fun m => m.sub SubL.by)
                     have hmg9' := (by rw [hmg9, List.append_assoc, hl1, tick_flat]; exact hmg : mg uu9 ++ mg l1 = mg ins)
                     refine RL.nil _ _ _ _ ?_
                     refine hK23 _ _ _ ?_
                     refine SW.wk (.var b 55 [.int .i64 ((room : Nat) : Int), .int .i64 ((wait : Nat) : Int), .slice la1 ln1 lc1, .int .i64 us1, .int .i64 ((age1 : Nat) : Int)] :: .row la1 ln1 lc1 35 2 (List.flatMap PdC l1) :: .var b11_2 4 [.bool true] :: .var b3_0 3 [.int .i64 ((room : Nat) : Int)] :: .var b10_1 22 [.slice ua9 un9 uc9] :: .row ua9 un9 uc9 32 2 (List.flatMap PdC (uu9)) :: .row ia inn ic 32 2 (List.flatMap PdC (ins)) :: ((D9 ++ (D1 ++ G)) ++ H)) ?_
                     refine SW.region _ _ _ _ ?_
                     first | refine RL.arK ?_ | refine RL.p T ?_
                     refine RL.p T ?_
                     refine RL.nil _ _ _ _ ?_
                     exact ⟨(ls.getD k default).n.toNat - (j + 1), (by omega), j + 1, la1, ln1, lc1, l1, age1, us1, ua9, un9, uc9, uu9, D9 ++ (D1 ++ G), (by rfl), ⟨by omega, hln1, hus1, hur1, hlo9, hag1', hag01, hun9, huo9', hmg9'⟩, (.consI rfl (by first | omega | rfl) (.nil (by repeat first | with_reducible exact Mx.refl | with_reducible exact Mx.mix | refine Mx.put rfl ?_ | refine Mx.upd rfl ?_ | refine Mx.updl rfl ?_ | refine Mx.fin rfl ?_ | refine Mx.inner rfl ?_ | refine Mx.none ?_ | exact Mx.refl | exact Mx.mix))), rfl, rfl⟩
                     )
                  ·skip
                   first
                    | (exfalso; first | omega | contradiction | (clear hK22 K22; clear hK21 K21; clear hK20 K20; clear hK19 K19; clear hK18 K18; clear hK17 K17; clear hK16 K16; clear hK15 K15; clear hK14 K14; clear hK13 K13; clear hK12 K12; clear hK11 K11; clear hK10 K10; clear hK9 K9; clear hK6 K6; clear hK5 K5; clear hK4 K4; clear hK2 K2; clear hK1 K1; clear hK0 K0; simp at *; done))
                    | (
                     refine SW.exit ?_
                     refine hK16 _ _ _ ?_
                     first
                       | (refine SW.wk (.var b 55 [.int .i64 ((room : Nat) : Int), .int .i64 ((wait : Nat) : Int), .slice la1 ln1 lc1, .int .i64 us1, .int .i64 ((age1 : Nat) : Int)] :: .row la1 ln1 lc1 35 2 (List.flatMap PdC l1) :: .var b11_2 4 [.bool true] :: .var b3_0 3 [.int .i64 ((room : Nat) : Int)] :: .var b10_1 22 [.slice ua9 un9 uc9] :: .row ua9 un9 uc9 32 2 (List.flatMap PdC (uu9)) :: .row a0_ (inn + 1) c0_ 32 2 (List.flatMap PdC (ins ++ [(ls.getD k default).p])) :: ((D9 ++ (D1 ++ G)) ++ H)) ?_)
                       | (have hmgB := hmgB (by omega); refine SW.wk (.var b 55 [.int .i64 ((room : Nat) : Int), .int .i64 ((wait : Nat) : Int), .slice la1 ln1 lc1, .int .i64 us1, .int .i64 ((age1 : Nat) : Int)] :: .row la1 ln1 lc1 35 2 (List.flatMap PdC l1) :: .var b11_2 4 [.bool true] :: .var b3_0 3 [.int .i64 ((room : Nat) : Int)] :: .var b10_1 22 [.slice ua9 un9 uc9] :: .row ua9 un9 uc9 32 2 (List.flatMap PdC (uu9)) :: .row ia inn ic 32 2 (List.flatMap PdC (ins)) :: ((D9 ++ (D1 ++ G)) ++ H)) ?_)
                       | refine SW.wk (.var b 55 [.int .i64 ((room : Nat) : Int), .int .i64 ((wait : Nat) : Int), .slice la1 ln1 lc1, .int .i64 us1, .int .i64 ((age1 : Nat) : Int)] :: .row la1 ln1 lc1 35 2 (List.flatMap PdC l1) :: .var b11_2 4 [.bool true] :: .var b3_0 3 [.int .i64 ((room : Nat) : Int)] :: .var b10_1 22 [.slice ua9 un9 uc9] :: .row ua9 un9 uc9 32 2 (List.flatMap PdC (uu9)) :: .row ia inn ic 32 2 (List.flatMap PdC (ins)) :: ((D9 ++ (D1 ++ G)) ++ H)) ?_
                       | skip
                     refine SW.region _ _ _ _ ?_
                     first | refine RL.ar ?_ | refine RL.p T ?_
                     refine RL.p T ?_
                     refine RL.nil _ _ _ _ ?_
                     first
                       | exact ⟨nr - (k + 1), (by omega), k + 1, la1, ln1, lc1, l1, age1, us1, ua9, un9, uc9, uu9, a0_, inn + 1, c0_, _, D9 ++ (D1 ++ G), (by rfl), ⟨by omega, (by rw [List.length_append, hin]; rfl), by omega, (fun H y hy => (List.mem_append.1 hy).elim (hio H y) (fun m => by rw [List.mem_singleton.1 m]; exact (hx H).p)), hln1, hus1, hur1, hlo9, hag1', hag01, hun9, huo9', hmgA⟩, (.cons rfl (.consI rfl (by first | omega | rfl) (.nil (by repeat first | with_reducible exact Mx.refl | with_reducible exact Mx.mix | refine Mx.put rfl ?_ | refine Mx.upd rfl ?_ | refine Mx.updl rfl ?_ | refine Mx.fin rfl ?_ | refine Mx.inner rfl ?_ | refine Mx.none ?_ | exact Mx.refl | exact Mx.mix)))), rfl, rfl⟩
                       | exact ⟨nr - (k + 1), (by omega), k + 1, la1, ln1, lc1, l1, age1, us1, ua9, un9, uc9, uu9, ia, inn, ic, ins, D9 ++ (D1 ++ G), (by rfl), ⟨by omega, hin, by omega, hio, hln1, hus1, hur1, hlo9, hag1', hag01, hun9, huo9', hmg9'⟩, (.cons rfl (.consI rfl (by first | omega | rfl) (.nil (by repeat first | with_reducible exact Mx.refl | with_reducible exact Mx.mix | refine Mx.put rfl ?_ | refine Mx.upd rfl ?_ | refine Mx.updl rfl ?_ | refine Mx.fin rfl ?_ | refine Mx.inner rfl ?_ | refine Mx.none ?_ | exact Mx.refl | exact Mx.mix)))), rfl, rfl⟩
                       | exact ⟨nr - (k + 1), (by omega), k + 1, la1, ln1, lc1, l1, age1, us1, ua9, un9, uc9, uu9, ia, inn, ic, ins, D9 ++ (D1 ++ G), (by rfl), ⟨by omega, hin, by omega, hio, hln1, hus1, hur1, hlo9, hag1', hag01, hun9, huo9', hmgB⟩, (.cons rfl (.consI rfl (by first | omega | rfl) (.nil (by repeat first | with_reducible exact Mx.refl | with_reducible exact Mx.mix | refine Mx.put rfl ?_ | refine Mx.upd rfl ?_ | refine Mx.updl rfl ?_ | refine Mx.fin rfl ?_ | refine Mx.inner rfl ?_ | refine Mx.none ?_ | exact Mx.refl | exact Mx.mix)))), rfl, rfl⟩
                       | exact ⟨nr - (k + 1), (by omega), k + 1, la, ln, lc, l, age, used, ua, un, uc, uu, ia, inn, ic, ins, G, (by rfl), ⟨by omega, hin, by omega, hio, hln, hus, hur, hlo, hag, hag0, hun, huo, hmg⟩, (.cons rfl (.consI rfl (by first | omega | rfl) (.nil (by repeat first | with_reducible exact Mx.refl | with_reducible exact Mx.mix | refine Mx.put rfl ?_ | refine Mx.upd rfl ?_ | refine Mx.updl rfl ?_ | refine Mx.fin rfl ?_ | refine Mx.inner rfl ?_ | refine Mx.none ?_ | exact Mx.refl | exact Mx.mix)))), rfl, rfl⟩
                     )
                 )
              ·skip
               first
                | (exfalso; first | omega | contradiction | (clear hK19 K19; clear hK18 K18; clear hK17 K17; clear hK16 K16; clear hK15 K15; clear hK14 K14; clear hK13 K13; clear hK12 K12; clear hK11 K11; clear hK10 K10; clear hK9 K9; clear hK6 K6; clear hK5 K5; clear hK4 K4; clear hK2 K2; clear hK1 K1; clear hK0 K0; simp at *; done))
                | (
                 refine SW.seq_k fun K24 hK24 => ?_
                 refine SW.region _ _ _ _ ?_
                 refine RL.p T ?_
                 refine RL.p T ?_
                 refine RL.nil _ _ _ _ ?_
                 refine hK24 _ _ _ ?_
                 refine SW.cs (fun hc5 => ?_) (fun hc5 => ?_)
                 ·skip
                  first
                   | (exfalso; first | omega | contradiction | (clear hK24 K24; clear hK19 K19; clear hK18 K18; clear hK17 K17; clear hK16 K16; clear hK15 K15; clear hK14 K14; clear hK13 K13; clear hK12 K12; clear hK11 K11; clear hK10 K10; clear hK9 K9; clear hK6 K6; clear hK5 K5; clear hK4 K4; clear hK2 K2; clear hK1 K1; clear hK0 K0; simp at *; done))
                   | (
                    refine SW.region _ _ _ _ ?_
                    refine RL.p T ?_
                    refine RL.p T ?_
                    refine RL.c fun10 (fun hs => SC.wk (flushV b room wait age used la ln lc l hln hus (by omega) (fun y hy => (hlo y hy).sub SubL.by) (H := .var b11_2 4 [.bool true] :: .var b3_0 3 [.int .i64 ((room : Nat) : Int)] :: .var b10_1 22 [.slice ua un uc] :: .row ua un uc 32 2 (List.flatMap PdC (uu)) :: .row ia inn ic 32 2 (List.flatMap PdC (ins)) :: (G ++ H)))) ?_
                    rintro _ _ ⟨D1, oa1, on1, oc1, os1, la1, ln1, lc1, l1, age1, us1, rfl, e, hon1, hln1, hus1, hos1, hl1, hag1, hoq1, hly1⟩; obtain rfl := e.symm
                    have hlo1 : ∀ y ∈ l1, PdOk w0 (D1 ++ G) y := pdmix hlo hly1
                    have hO1 : outD os1 = (flushG (mg l)).map joinB := by rw [hos1, flushO_G]
                    have hA1 : AllOk room (flushG (mg l)) := AllOk.flush hokl (by omega)
                    have hol1 : on1 ≤ 2 := by have := congrArg List.length hO1; rw [outD_len, List.length_map] at this; have h5 := flushG_len (mg l); omega
                    refine RL.c fun18 (fun hs => SC.wk (takeC b11_2 b3_0 b10_1 room oa1 on1 oc1 os1 (Rd.rowh (satT (H0 := .row oa1 on1 oc1 30 1 (List.flatMap SlC os1) :: .var b 55 [.int .i64 ((room : Nat) : Int), .int .i64 ((wait : Nat) : Int), .slice la1 ln1 lc1, .int .i64 us1, .int .i64 ((age1 : Nat) : Int)] :: .row la1 ln1 lc1 35 2 (List.flatMap PdC l1) :: .row ia inn ic 32 2 (List.flatMap PdC (ins)) :: (D1 ++ (G ++ H))) hs) (At.head _ _)) hon1 (fun q hq => (hoq1 q hq).sub SubL.by) (flushG (mg l)) hO1 hA1 (by omega) ua un uc uu hun (by omega) (H := .row oa1 on1 oc1 30 1 (List.flatMap SlC os1) :: .var b 55 [.int .i64 ((room : Nat) : Int), .int .i64 ((wait : Nat) : Int), .slice la1 ln1 lc1, .int .i64 us1, .int .i64 ((age1 : Nat) : Int)] :: .row la1 ln1 lc1 35 2 (List.flatMap PdC l1) :: .row ia inn ic 32 2 (List.flatMap PdC (ins)) :: (D1 ++ (G ++ H))))) ?_
                    rintro _ _ ⟨D9, ua9, un9, uc9, uu9, e, hun9, hmg9, huo9⟩; obtain rfl := e.symm
                    have hur1 : usedM (mg l1) + 8 ≤ room := by rw [hl1]; show 0 + 8 ≤ room; omega
                    have hag1' : age1 < wait := flush_aget hag hag1
                    have hag01 : mg l1 = [] → age1 = 0 := fun _ => flush_age0 hag0 hag1
                    have hlo9 : ∀ y ∈ l1, PdOk w0 (D9 ++ (D1 ++ G)) y := fun y hy => (hlo1 y hy).app
                    have huo9' : ∀ y ∈ uu9, PdOk w0 (D9 ++ (D1 ++ G)) y := fun y hy => (huo9 y hy).elim (fun m => (huo y m).sub SubL.by) (fun m => m.sub SubL.by)
                    have hmg9' := (by rw [hmg9, List.append_assoc, hl1, List.append_nil, flush_flat]; exact hmg : mg uu9 ++ mg l1 = mg ins)
                    refine RL.nil _ _ _ _ ?_
                    refine hK16 _ _ _ ?_
                    first
                      | (refine SW.wk (.var b 55 [.int .i64 ((room : Nat) : Int), .int .i64 ((wait : Nat) : Int), .slice la1 ln1 lc1, .int .i64 us1, .int .i64 ((age1 : Nat) : Int)] :: .row la1 ln1 lc1 35 2 (List.flatMap PdC l1) :: .var b11_2 4 [.bool true] :: .var b3_0 3 [.int .i64 ((room : Nat) : Int)] :: .var b10_1 22 [.slice ua9 un9 uc9] :: .row ua9 un9 uc9 32 2 (List.flatMap PdC (uu9)) :: .row a0_ (inn + 1) c0_ 32 2 (List.flatMap PdC (ins ++ [(ls.getD k default).p])) :: ((D9 ++ (D1 ++ G)) ++ H)) ?_)
                      | (have hmgB := hmgB (by omega); refine SW.wk (.var b 55 [.int .i64 ((room : Nat) : Int), .int .i64 ((wait : Nat) : Int), .slice la1 ln1 lc1, .int .i64 us1, .int .i64 ((age1 : Nat) : Int)] :: .row la1 ln1 lc1 35 2 (List.flatMap PdC l1) :: .var b11_2 4 [.bool true] :: .var b3_0 3 [.int .i64 ((room : Nat) : Int)] :: .var b10_1 22 [.slice ua9 un9 uc9] :: .row ua9 un9 uc9 32 2 (List.flatMap PdC (uu9)) :: .row ia inn ic 32 2 (List.flatMap PdC (ins)) :: ((D9 ++ (D1 ++ G)) ++ H)) ?_)
                      | refine SW.wk (.var b 55 [.int .i64 ((room : Nat) : Int), .int .i64 ((wait : Nat) : Int), .slice la1 ln1 lc1, .int .i64 us1, .int .i64 ((age1 : Nat) : Int)] :: .row la1 ln1 lc1 35 2 (List.flatMap PdC l1) :: .var b11_2 4 [.bool true] :: .var b3_0 3 [.int .i64 ((room : Nat) : Int)] :: .var b10_1 22 [.slice ua9 un9 uc9] :: .row ua9 un9 uc9 32 2 (List.flatMap PdC (uu9)) :: .row ia inn ic 32 2 (List.flatMap PdC (ins)) :: ((D9 ++ (D1 ++ G)) ++ H)) ?_
                      | skip
                    refine SW.region _ _ _ _ ?_
                    first | refine RL.ar ?_ | refine RL.p T ?_
                    refine RL.p T ?_
                    refine RL.nil _ _ _ _ ?_
                    first
                      | exact ⟨nr - (k + 1), (by omega), k + 1, la1, ln1, lc1, l1, age1, us1, ua9, un9, uc9, uu9, a0_, inn + 1, c0_, _, D9 ++ (D1 ++ G), (by rfl), ⟨by omega, (by rw [List.length_append, hin]; rfl), by omega, (fun H y hy => (List.mem_append.1 hy).elim (hio H y) (fun m => by rw [List.mem_singleton.1 m]; exact (hx H).p)), hln1, hus1, hur1, hlo9, hag1', hag01, hun9, huo9', hmgA⟩, (.cons rfl (.consI rfl (by first | omega | rfl) (.nil (by repeat first | with_reducible exact Mx.refl | with_reducible exact Mx.mix | refine Mx.put rfl ?_ | refine Mx.upd rfl ?_ | refine Mx.updl rfl ?_ | refine Mx.fin rfl ?_ | refine Mx.inner rfl ?_ | refine Mx.none ?_ | exact Mx.refl | exact Mx.mix)))), rfl, rfl⟩
                      | exact ⟨nr - (k + 1), (by omega), k + 1, la1, ln1, lc1, l1, age1, us1, ua9, un9, uc9, uu9, ia, inn, ic, ins, D9 ++ (D1 ++ G), (by rfl), ⟨by omega, hin, by omega, hio, hln1, hus1, hur1, hlo9, hag1', hag01, hun9, huo9', hmg9'⟩, (.cons rfl (.consI rfl (by first | omega | rfl) (.nil (by repeat first | with_reducible exact Mx.refl | with_reducible exact Mx.mix | refine Mx.put rfl ?_ | refine Mx.upd rfl ?_ | refine Mx.updl rfl ?_ | refine Mx.fin rfl ?_ | refine Mx.inner rfl ?_ | refine Mx.none ?_ | exact Mx.refl | exact Mx.mix)))), rfl, rfl⟩
                      | exact ⟨nr - (k + 1), (by omega), k + 1, la1, ln1, lc1, l1, age1, us1, ua9, un9, uc9, uu9, ia, inn, ic, ins, D9 ++ (D1 ++ G), (by rfl), ⟨by omega, hin, by omega, hio, hln1, hus1, hur1, hlo9, hag1', hag01, hun9, huo9', hmgB⟩, (.cons rfl (.consI rfl (by first | omega | rfl) (.nil (by repeat first | with_reducible exact Mx.refl | with_reducible exact Mx.mix | refine Mx.put rfl ?_ | refine Mx.upd rfl ?_ | refine Mx.updl rfl ?_ | refine Mx.fin rfl ?_ | refine Mx.inner rfl ?_ | refine Mx.none ?_ | exact Mx.refl | exact Mx.mix)))), rfl, rfl⟩
                      | exact ⟨nr - (k + 1), (by omega), k + 1, la, ln, lc, l, age, used, ua, un, uc, uu, ia, inn, ic, ins, G, (by rfl), ⟨by omega, hin, by omega, hio, hln, hus, hur, hlo, hag, hag0, hun, huo, hmg⟩, (.cons rfl (.consI rfl (by first | omega | rfl) (.nil (by repeat first | with_reducible exact Mx.refl | with_reducible exact Mx.mix | refine Mx.put rfl ?_ | refine Mx.upd rfl ?_ | refine Mx.updl rfl ?_ | refine Mx.fin rfl ?_ | refine Mx.inner rfl ?_ | refine Mx.none ?_ | exact Mx.refl | exact Mx.mix)))), rfl, rfl⟩
                    )
                 ·skip
                  first
                   | (exfalso; first | omega | contradiction | (clear hK24 K24; clear hK19 K19; clear hK18 K18; clear hK17 K17; clear hK16 K16; clear hK15 K15; clear hK14 K14; clear hK13 K13; clear hK12 K12; clear hK11 K11; clear hK10 K10; clear hK9 K9; clear hK6 K6; clear hK5 K5; clear hK4 K4; clear hK2 K2; clear hK1 K1; clear hK0 K0; simp at *; done))
                   | (
                    refine SW.seq_k fun K25 hK25 => ?_
                    refine SW.region _ _ _ _ ?_
                    refine RL.p T ?_
                    refine RL.p T ?_
                    refine RL.q (QV.vN T rfl rfl rfl rfl rfl (by exact (rfl : _ = [_, _]))) ?_
                    refine RL.c fun9 (fun hs => SC.wk (addU (ls.getD k default).p (hx _).p b room wait age used la ln lc l hln hus (by omega) (fun y hy => (hlo y hy).sub SubL.by) (by omega) hur (H := .var b11_2 4 [.bool true] :: .var b3_0 3 [.int .i64 ((room : Nat) : Int)] :: .var b10_1 22 [.slice ua un uc] :: .row ua un uc 32 2 (List.flatMap PdC (uu)) :: .row ia inn ic 32 2 (List.flatMap PdC (ins)) :: .var b14_3 51 (AcQ (ls.getD k default)) :: (G ++ H)))) ?_
                    rintro _ _ ⟨D1, oa1, on1, oc1, os1, la1, ln1, lc1, l1, age1, us1, rfl, e, hon1, hln1, hus1, hos1, hl1, hag1, hoq1, hly1⟩; obtain rfl := e.symm
                    have hlo1 : ∀ y ∈ l1, PdOk w0 (D1 ++ G) y := pdmix hlo hly1
                    have hO1 : outD os1 = (addG room (mg l) (mgP (ls.getD k default).p)).map joinB := by rw [hos1, addOu_G]
                    have hA1 : AllOk room (addG room (mg l) (mgP (ls.getD k default).p)) := AllOk.add hokl (by omega) (fun h => mok_pd (hx []).p (by omega))
                    have hol1 : on1 ≤ 2 := by have := congrArg List.length hO1; rw [outD_len, List.length_map] at this; have h5 := addG_len room (mg l) (mgP (ls.getD k default).p); omega
                    refine RL.p T ?_
                    refine RL.p T ?_
                    refine RL.p T ?_
                    refine RL.p T ?_
                    refine RL.p T ?_
                    refine RL.nil _ _ _ _ ?_
                    refine hK25 _ _ _ ?_
                    refine SW.seq_k fun K26 hK26 => ?_
                    refine SW.region _ _ _ _ ?_
                    refine RL.p T ?_
                    refine RL.p T ?_
                    refine RL.c fun18 (fun hs => SC.wk (takeC b11_2 b3_0 b10_1 room oa1 on1 oc1 os1 (Rd.rowh (satT (H0 := .row oa1 on1 oc1 30 1 (List.flatMap SlC os1) :: .var b 55 [.int .i64 ((room : Nat) : Int), .int .i64 ((wait : Nat) : Int), .slice la1 ln1 lc1, .int .i64 us1, .int .i64 ((age1 : Nat) : Int)] :: .row la1 ln1 lc1 35 2 (List.flatMap PdC l1) :: .row ia inn ic 32 2 (List.flatMap PdC (ins)) :: (D1 ++ (.var b14_3 51 (AcQ (ls.getD k default)) :: (G ++ H)))) hs) (At.head _ _)) hon1 (fun q hq => (hoq1 q hq).sub SubL.by) (addG room (mg l) (mgP (ls.getD k default).p)) hO1 hA1 (by omega) ua un uc uu hun (by omega) (H := .row oa1 on1 oc1 30 1 (List.flatMap SlC os1) :: .var b 55 [.int .i64 ((room : Nat) : Int), .int .i64 ((wait : Nat) : Int), .slice la1 ln1 lc1, .int .i64 us1, .int .i64 ((age1 : Nat) : Int)] :: .row la1 ln1 lc1 35 2 (List.flatMap PdC l1) :: .row ia inn ic 32 2 (List.flatMap PdC (ins)) :: (D1 ++ (.var b14_3 51 (AcQ (ls.getD k default)) :: (G ++ H)))))) ?_
                    rintro _ _ ⟨D9, ua9, un9, uc9, uu9, e, hun9, hmg9, huo9⟩; obtain rfl := e.symm
                    have hur1 : usedM (mg l1) + 8 ≤ room := by rw [hl1]; exact addLu_used (by omega) hur
                    have hag1' : age1 < wait := by rw [hag1]; exact ageO_lt hag
                    have hag01 : mg l1 = [] → age1 = 0 := fun h => by rw [hag1, hos1]; rw [hl1] at h; exact add_age0 hur hag0 h
                    have hlo9 : ∀ y ∈ l1, PdOk w0 (D9 ++ (D1 ++ G)) y := fun y hy => (hlo1 y hy).app
                    have huo9' : ∀ y ∈ uu9, PdOk w0 (D9 ++ (D1 ++ G)) y := fun y hy => (huo9 y hy).elim (fun m => (huo y m).sub SubL.by) (fun m => m.sub SubL.by)
                    have hmg9' := (by rw [hmg9, List.append_assoc, hl1, add_flat, ← List.append_assoc, hmg] : mg uu9 ++ mg l1 = mg ins ++ (if wk (mgP (ls.getD k default).p) ≤ room then [(mgP (ls.getD k default).p)] else []))
                    have hE := addE_or room (mgP (ls.getD k default).p)
                    have hmgA : wk (mgP (ls.getD k default).p) ≤ room → mg uu9 ++ mg l1 = mg (ins ++ [(ls.getD k default).p]) := fun h => by rw [hmg9', if_pos h, mg_app]; rfl
                    have hmgB : ¬ wk (mgP (ls.getD k default).p) ≤ room → mg uu9 ++ mg l1 = mg ins := fun h => by rw [hmg9', if_neg h, List.append_nil]
                    refine RL.nil _ _ _ _ ?_
                    refine hK26 _ _ _ ?_
                    refine SW.seq_k fun K27 hK27 => ?_
                    refine SW.region _ _ _ _ ?_
                    refine RL.p T ?_
                    refine RL.p T ?_
                    refine RL.nil _ _ _ _ ?_
                    refine hK27 _ _ _ ?_
                    refine SW.cs (fun hc6 => ?_) (fun hc6 => ?_)
                    ·skip
                     first
                      | (exfalso; first | omega | contradiction | (clear hK27 K27; clear hK26 K26; clear hK25 K25; clear hK24 K24; clear hK19 K19; clear hK18 K18; clear hK17 K17; clear hK16 K16; clear hK15 K15; clear hK14 K14; clear hK13 K13; clear hK12 K12; clear hK11 K11; clear hK10 K10; clear hK9 K9; clear hK6 K6; clear hK5 K5; clear hK4 K4; clear hK2 K2; clear hK1 K1; clear hK0 K0; simp at *; done))
                      | (
                       have hmgA := hmgA (by omega)
                       refine SW.region _ _ _ _ ?_
                       refine RL.p T ?_
                       refine RL.p T ?_
                       refine RL.q (QV.vN T rfl rfl rfl rfl rfl (by exact (rfl : _ = [_, _]))) ?_
                       refine RL.bs T rfl rfl rfl (by exact (rfl : _ = some [_, _])) (fun b55_4 => ?_)
                       refine RL.apS T ([(ls.getD k default).p]) (fun a0_ c0_ => ?_)
                       refine RL.p T ?_
                       refine RL.nil _ _ _ _ ?_
                       refine hK16 _ _ _ ?_
                       first
                         | (refine SW.wk (.var b 55 [.int .i64 ((room : Nat) : Int), .int .i64 ((wait : Nat) : Int), .slice la1 ln1 lc1, .int .i64 us1, .int .i64 ((age1 : Nat) : Int)] :: .row la1 ln1 lc1 35 2 (List.flatMap PdC l1) :: .var b11_2 4 [.bool true] :: .var b3_0 3 [.int .i64 ((room : Nat) : Int)] :: .var b10_1 22 [.slice ua9 un9 uc9] :: .row ua9 un9 uc9 32 2 (List.flatMap PdC (uu9)) :: .row a0_ (inn + 1) c0_ 32 2 (List.flatMap PdC (ins ++ [(ls.getD k default).p])) :: ((D9 ++ (D1 ++ G)) ++ H)) ?_)
                         | (have hmgB := hmgB (by omega); refine SW.wk (.var b 55 [.int .i64 ((room : Nat) : Int), .int .i64 ((wait : Nat) : Int), .slice la1 ln1 lc1, .int .i64 us1, .int .i64 ((age1 : Nat) : Int)] :: .row la1 ln1 lc1 35 2 (List.flatMap PdC l1) :: .var b11_2 4 [.bool true] :: .var b3_0 3 [.int .i64 ((room : Nat) : Int)] :: .var b10_1 22 [.slice ua9 un9 uc9] :: .row ua9 un9 uc9 32 2 (List.flatMap PdC (uu9)) :: .row ia inn ic 32 2 (List.flatMap PdC (ins)) :: ((D9 ++ (D1 ++ G)) ++ H)) ?_)
                         | refine SW.wk (.var b 55 [.int .i64 ((room : Nat) : Int), .int .i64 ((wait : Nat) : Int), .slice la1 ln1 lc1, .int .i64 us1, .int .i64 ((age1 : Nat) : Int)] :: .row la1 ln1 lc1 35 2 (List.flatMap PdC l1) :: .var b11_2 4 [.bool true] :: .var b3_0 3 [.int .i64 ((room : Nat) : Int)] :: .var b10_1 22 [.slice ua9 un9 uc9] :: .row ua9 un9 uc9 32 2 (List.flatMap PdC (uu9)) :: .row ia inn ic 32 2 (List.flatMap PdC (ins)) :: ((D9 ++ (D1 ++ G)) ++ H)) ?_
                         | skip
                       refine SW.region _ _ _ _ ?_
                       first | refine RL.ar ?_ | refine RL.p T ?_
                       refine RL.p T ?_
                       refine RL.nil _ _ _ _ ?_
                       first
                         | exact ⟨nr - (k + 1), (by omega), k + 1, la1, ln1, lc1, l1, age1, us1, ua9, un9, uc9, uu9, a0_, inn + 1, c0_, _, D9 ++ (D1 ++ G), (by rfl), ⟨by omega, (by rw [List.length_append, hin]; rfl), by omega, (fun H y hy => (List.mem_append.1 hy).elim (hio H y) (fun m => by rw [List.mem_singleton.1 m]; exact (hx H).p)), hln1, hus1, hur1, hlo9, hag1', hag01, hun9, huo9', hmgA⟩, (.cons rfl (.consI rfl (by first | omega | rfl) (.nil (by repeat first | with_reducible exact Mx.refl | with_reducible exact Mx.mix | refine Mx.put rfl ?_ | refine Mx.upd rfl ?_ | refine Mx.updl rfl ?_ | refine Mx.fin rfl ?_ | refine Mx.inner rfl ?_ | refine Mx.none ?_ | exact Mx.refl | exact Mx.mix)))), rfl, rfl⟩
                         | exact ⟨nr - (k + 1), (by omega), k + 1, la1, ln1, lc1, l1, age1, us1, ua9, un9, uc9, uu9, ia, inn, ic, ins, D9 ++ (D1 ++ G), (by rfl), ⟨by omega, hin, by omega, hio, hln1, hus1, hur1, hlo9, hag1', hag01, hun9, huo9', hmg9'⟩, (.cons rfl (.consI rfl (by first | omega | rfl) (.nil (by repeat first | with_reducible exact Mx.refl | with_reducible exact Mx.mix | refine Mx.put rfl ?_ | refine Mx.upd rfl ?_ | refine Mx.updl rfl ?_ | refine Mx.fin rfl ?_ | refine Mx.inner rfl ?_ | refine Mx.none ?_ | exact Mx.refl | exact Mx.mix)))), rfl, rfl⟩
                         | exact ⟨nr - (k + 1), (by omega), k + 1, la1, ln1, lc1, l1, age1, us1, ua9, un9, uc9, uu9, ia, inn, ic, ins, D9 ++ (D1 ++ G), (by rfl), ⟨by omega, hin, by omega, hio, hln1, hus1, hur1, hlo9, hag1', hag01, hun9, huo9', hmgB⟩, (.cons rfl (.consI rfl (by first | omega | rfl) (.nil (by repeat first | with_reducible exact Mx.refl | with_reducible exact Mx.mix | refine Mx.put rfl ?_ | refine Mx.upd rfl ?_ | refine Mx.updl rfl ?_ | refine Mx.fin rfl ?_ | refine Mx.inner rfl ?_ | refine Mx.none ?_ | exact Mx.refl | exact Mx.mix)))), rfl, rfl⟩
                         | exact ⟨nr - (k + 1), (by omega), k + 1, la, ln, lc, l, age, used, ua, un, uc, uu, ia, inn, ic, ins, G, (by rfl), ⟨by omega, hin, by omega, hio, hln, hus, hur, hlo, hag, hag0, hun, huo, hmg⟩, (.cons rfl (.consI rfl (by first | omega | rfl) (.nil (by repeat first | with_reducible exact Mx.refl | with_reducible exact Mx.mix | refine Mx.put rfl ?_ | refine Mx.upd rfl ?_ | refine Mx.updl rfl ?_ | refine Mx.fin rfl ?_ | refine Mx.inner rfl ?_ | refine Mx.none ?_ | exact Mx.refl | exact Mx.mix)))), rfl, rfl⟩
                       )
                    ·skip
                     first
                      | (exfalso; first | omega | contradiction | (clear hK27 K27; clear hK26 K26; clear hK25 K25; clear hK24 K24; clear hK19 K19; clear hK18 K18; clear hK17 K17; clear hK16 K16; clear hK15 K15; clear hK14 K14; clear hK13 K13; clear hK12 K12; clear hK11 K11; clear hK10 K10; clear hK9 K9; clear hK6 K6; clear hK5 K5; clear hK4 K4; clear hK2 K2; clear hK1 K1; clear hK0 K0; simp at *; done))
                      | (
                       refine SW.skip ?_
                       refine hK16 _ _ _ ?_
                       first
                         | (refine SW.wk (.var b 55 [.int .i64 ((room : Nat) : Int), .int .i64 ((wait : Nat) : Int), .slice la1 ln1 lc1, .int .i64 us1, .int .i64 ((age1 : Nat) : Int)] :: .row la1 ln1 lc1 35 2 (List.flatMap PdC l1) :: .var b11_2 4 [.bool true] :: .var b3_0 3 [.int .i64 ((room : Nat) : Int)] :: .var b10_1 22 [.slice ua9 un9 uc9] :: .row ua9 un9 uc9 32 2 (List.flatMap PdC (uu9)) :: .row a0_ (inn + 1) c0_ 32 2 (List.flatMap PdC (ins ++ [(ls.getD k default).p])) :: ((D9 ++ (D1 ++ G)) ++ H)) ?_)
                         | (have hmgB := hmgB (by omega); refine SW.wk (.var b 55 [.int .i64 ((room : Nat) : Int), .int .i64 ((wait : Nat) : Int), .slice la1 ln1 lc1, .int .i64 us1, .int .i64 ((age1 : Nat) : Int)] :: .row la1 ln1 lc1 35 2 (List.flatMap PdC l1) :: .var b11_2 4 [.bool true] :: .var b3_0 3 [.int .i64 ((room : Nat) : Int)] :: .var b10_1 22 [.slice ua9 un9 uc9] :: .row ua9 un9 uc9 32 2 (List.flatMap PdC (uu9)) :: .row ia inn ic 32 2 (List.flatMap PdC (ins)) :: ((D9 ++ (D1 ++ G)) ++ H)) ?_)
                         | refine SW.wk (.var b 55 [.int .i64 ((room : Nat) : Int), .int .i64 ((wait : Nat) : Int), .slice la1 ln1 lc1, .int .i64 us1, .int .i64 ((age1 : Nat) : Int)] :: .row la1 ln1 lc1 35 2 (List.flatMap PdC l1) :: .var b11_2 4 [.bool true] :: .var b3_0 3 [.int .i64 ((room : Nat) : Int)] :: .var b10_1 22 [.slice ua9 un9 uc9] :: .row ua9 un9 uc9 32 2 (List.flatMap PdC (uu9)) :: .row ia inn ic 32 2 (List.flatMap PdC (ins)) :: ((D9 ++ (D1 ++ G)) ++ H)) ?_
                         | skip
                       refine SW.region _ _ _ _ ?_
                       first | refine RL.ar ?_ | refine RL.p T ?_
                       refine RL.p T ?_
                       refine RL.nil _ _ _ _ ?_
                       first
                         | exact ⟨nr - (k + 1), (by omega), k + 1, la1, ln1, lc1, l1, age1, us1, ua9, un9, uc9, uu9, a0_, inn + 1, c0_, _, D9 ++ (D1 ++ G), (by rfl), ⟨by omega, (by rw [List.length_append, hin]; rfl), by omega, (fun H y hy => (List.mem_append.1 hy).elim (hio H y) (fun m => by rw [List.mem_singleton.1 m]; exact (hx H).p)), hln1, hus1, hur1, hlo9, hag1', hag01, hun9, huo9', hmgA⟩, (.cons rfl (.consI rfl (by first | omega | rfl) (.nil (by repeat first | with_reducible exact Mx.refl | with_reducible exact Mx.mix | refine Mx.put rfl ?_ | refine Mx.upd rfl ?_ | refine Mx.updl rfl ?_ | refine Mx.fin rfl ?_ | refine Mx.inner rfl ?_ | refine Mx.none ?_ | exact Mx.refl | exact Mx.mix)))), rfl, rfl⟩
                         | exact ⟨nr - (k + 1), (by omega), k + 1, la1, ln1, lc1, l1, age1, us1, ua9, un9, uc9, uu9, ia, inn, ic, ins, D9 ++ (D1 ++ G), (by rfl), ⟨by omega, hin, by omega, hio, hln1, hus1, hur1, hlo9, hag1', hag01, hun9, huo9', hmg9'⟩, (.cons rfl (.consI rfl (by first | omega | rfl) (.nil (by repeat first | with_reducible exact Mx.refl | with_reducible exact Mx.mix | refine Mx.put rfl ?_ | refine Mx.upd rfl ?_ | refine Mx.updl rfl ?_ | refine Mx.fin rfl ?_ | refine Mx.inner rfl ?_ | refine Mx.none ?_ | exact Mx.refl | exact Mx.mix)))), rfl, rfl⟩
                         | exact ⟨nr - (k + 1), (by omega), k + 1, la1, ln1, lc1, l1, age1, us1, ua9, un9, uc9, uu9, ia, inn, ic, ins, D9 ++ (D1 ++ G), (by rfl), ⟨by omega, hin, by omega, hio, hln1, hus1, hur1, hlo9, hag1', hag01, hun9, huo9', hmgB⟩, (.cons rfl (.consI rfl (by first | omega | rfl) (.nil (by repeat first | with_reducible exact Mx.refl | with_reducible exact Mx.mix | refine Mx.put rfl ?_ | refine Mx.upd rfl ?_ | refine Mx.updl rfl ?_ | refine Mx.fin rfl ?_ | refine Mx.inner rfl ?_ | refine Mx.none ?_ | exact Mx.refl | exact Mx.mix)))), rfl, rfl⟩
                         | exact ⟨nr - (k + 1), (by omega), k + 1, la, ln, lc, l, age, used, ua, un, uc, uu, ia, inn, ic, ins, G, (by rfl), ⟨by omega, hin, by omega, hio, hln, hus, hur, hlo, hag, hag0, hun, huo, hmg⟩, (.cons rfl (.consI rfl (by first | omega | rfl) (.nil (by repeat first | with_reducible exact Mx.refl | with_reducible exact Mx.mix | refine Mx.put rfl ?_ | refine Mx.upd rfl ?_ | refine Mx.updl rfl ?_ | refine Mx.fin rfl ?_ | refine Mx.inner rfl ?_ | refine Mx.none ?_ | exact Mx.refl | exact Mx.mix)))), rfl, rfl⟩
                       )
                    )
                 )
              )
           ·skip
            first
             | (exfalso; first | omega | contradiction | (clear hK15 K15; clear hK14 K14; clear hK13 K13; clear hK12 K12; clear hK11 K11; clear hK10 K10; clear hK9 K9; clear hK6 K6; clear hK5 K5; clear hK4 K4; clear hK2 K2; clear hK1 K1; clear hK0 K0; simp at *; done))
             | (
              refine SW.exit ?_
              refine hK12 _ _ _ ?_
              refine SW.seq_k fun K28 hK28 => ?_
              have hlen : un + ln = inn := by have := congrArg List.length hmg; rw [List.length_append, mg_len, mg_len, mg_len] at this; omega
              have hokl := mok_all hlo (by omega)
              refine SW.region _ _ _ _ ?_
              refine RL.p T ?_
              refine RL.p T ?_
              refine RL.c fun10 (fun hs => SC.wk (flushV b room wait age used la ln lc l hln hus (by omega) (fun y hy => (hlo y hy).sub SubL.by) (H := .var b11_2 4 [.bool true] :: .var b3_0 3 [.int .i64 ((room : Nat) : Int)] :: .var b10_1 22 [.slice ua un uc] :: .row ua un uc 32 2 (List.flatMap PdC (uu)) :: .row ia inn ic 32 2 (List.flatMap PdC (ins)) :: (G ++ H)))) ?_
              rintro _ _ ⟨D1, oa1, on1, oc1, os1, la1, ln1, lc1, l1, age1, us1, rfl, e, hon1, hln1, hus1, hos1, hl1, hag1, hoq1, hly1⟩; obtain rfl := e.symm
              have hlo1 : ∀ y ∈ l1, PdOk w0 (D1 ++ G) y := pdmix hlo hly1
              have hO1 : outD os1 = (flushG (mg l)).map joinB := by rw [hos1, flushO_G]
              have hA1 : AllOk room (flushG (mg l)) := AllOk.flush hokl (by omega)
              have hol1 : on1 ≤ 2 := by have := congrArg List.length hO1; rw [outD_len, List.length_map] at this; have h5 := flushG_len (mg l); omega
              refine RL.c fun18 (fun hs => SC.wk (takeC b11_2 b3_0 b10_1 room oa1 on1 oc1 os1 (Rd.rowh (satT (H0 := .row oa1 on1 oc1 30 1 (List.flatMap SlC os1) :: .var b 55 [.int .i64 ((room : Nat) : Int), .int .i64 ((wait : Nat) : Int), .slice la1 ln1 lc1, .int .i64 us1, .int .i64 ((age1 : Nat) : Int)] :: .row la1 ln1 lc1 35 2 (List.flatMap PdC l1) :: .row ia inn ic 32 2 (List.flatMap PdC (ins)) :: (D1 ++ (G ++ H))) hs) (At.head _ _)) hon1 (fun q hq => (hoq1 q hq).sub SubL.by) (flushG (mg l)) hO1 hA1 (by omega) ua un uc uu hun (by omega) (H := .row oa1 on1 oc1 30 1 (List.flatMap SlC os1) :: .var b 55 [.int .i64 ((room : Nat) : Int), .int .i64 ((wait : Nat) : Int), .slice la1 ln1 lc1, .int .i64 us1, .int .i64 ((age1 : Nat) : Int)] :: .row la1 ln1 lc1 35 2 (List.flatMap PdC l1) :: .row ia inn ic 32 2 (List.flatMap PdC (ins)) :: (D1 ++ (G ++ H))))) ?_
              rintro _ _ ⟨D9, ua9, un9, uc9, uu9, e, hun9, hmg9, huo9⟩; obtain rfl := e.symm
              have hur1 : usedM (mg l1) + 8 ≤ room := by rw [hl1]; show 0 + 8 ≤ room; omega
              have hag1' : age1 < wait := flush_aget hag hag1
              have hag01 : mg l1 = [] → age1 = 0 := fun _ => flush_age0 hag0 hag1
              have hlo9 : ∀ y ∈ l1, PdOk w0 (D9 ++ (D1 ++ G)) y := fun y hy => (hlo1 y hy).app
              have huo9' : ∀ y ∈ uu9, PdOk w0 (D9 ++ (D1 ++ G)) y := fun y hy => (huo9 y hy).elim (fun m => (huo y m).sub SubL.by) (fun m => m.sub SubL.by)
              have hmg9' := (by rw [hmg9, List.append_assoc, hl1, List.append_nil, flush_flat]; exact hmg : mg uu9 ++ mg l1 = mg ins)
              have hlz : ln1 = 0 := by rw [hln1, ← mg_len, hl1]; rfl
              have haz : age1 = 0 := hag01 hl1
              refine RL.nil _ _ _ _ ?_
              refine hK28 _ _ _ ?_
              refine SW.seq_k fun K29 hK29 => ?_
              refine SW.region _ _ _ _ ?_
              refine RL.lv1 T ?_
              refine RL.p T ?_
              refine RL.sp 80 (fun hs1 => ?_) (fun hs1 => ?_)
              ·skip
               first
                | (exfalso; first | omega | contradiction | (clear hK29 K29; clear hK28 K28; clear hK15 K15; clear hK14 K14; clear hK13 K13; clear hK12 K12; clear hK11 K11; clear hK10 K10; clear hK9 K9; clear hK6 K6; clear hK5 K5; clear hK4 K4; clear hK2 K2; clear hK1 K1; clear hK0 K0; simp at *; done))
                | (
                 refine RL.p T ?_
                 refine RL.lv1 T ?_
                 refine RL.c fun14 (fun hs => samePT ins ia inn ic (Rd.rowh hs (by repeat first | exact At.head _ _ | apply At.tail | apply At.app)) hin (hio _) uu9 ua9 un9 uc9 (Rd.rowh hs (by repeat first | exact At.head _ _ | apply At.tail | apply At.app)) hun9 (fun y hy => (huo9' y hy).sub SubL.by) (by omega) (by rw [← hmg9', hl1, List.append_nil])) ?_
                 rintro _ _ ⟨rfl, e⟩; obtain rfl := e.symm
                 refine RL.p T ?_
                 refine RL.p T ?_
                 refine RL.sp 85 (fun hs2 => ?_) (fun hs2 => ?_)
                 ·skip
                  first
                   | (exfalso; first | omega | contradiction | (clear hK29 K29; clear hK28 K28; clear hK15 K15; clear hK14 K14; clear hK13 K13; clear hK12 K12; clear hK11 K11; clear hK10 K10; clear hK9 K9; clear hK6 K6; clear hK5 K5; clear hK4 K4; clear hK2 K2; clear hK1 K1; clear hK0 K0; simp at *; done))
                   | (
                    refine RL.p T ?_
                    refine RL.c fun13 (fun hs => waits b room wait age1 us1 la1 ln1 lc1 (by repeat first | exact At.head _ _ | apply At.tail | apply At.app) l1 (Rd.rowh hs (by repeat first | exact At.head _ _ | apply At.tail | apply At.app)) hln1 (by omega) (fun y hy => (hlo9 y hy).sub SubL.by)) ?_
                    rintro _ _ ⟨D4, a4, c4, ws, rfl, e, hws, hwo⟩; obtain rfl := e.symm
                    refine RL.p T ?_
                    refine RL.p T ?_
                    refine RL.p T ?_
                    refine RL.p T ?_
                    refine RL.sp 91 (fun hs3 => ?_) (fun hs3 => ?_)
                    ·skip
                     first
                      | (exfalso; first | omega | contradiction | (clear hK29 K29; clear hK28 K28; clear hK15 K15; clear hK14 K14; clear hK13 K13; clear hK12 K12; clear hK11 K11; clear hK10 K10; clear hK9 K9; clear hK6 K6; clear hK5 K5; clear hK4 K4; clear hK2 K2; clear hK1 K1; clear hK0 K0; simp at *; done))
                      | (
                       refine RL.p T ?_
                       refine RL.c fun19 (fun hs => ageC b room wait age1 us1 la1 ln1 lc1 (by repeat first | exact At.head _ _ | apply At.tail | apply At.app)) ?_
                       rintro _ _ ⟨rfl, e⟩; obtain rfl := e.symm
                       refine RL.p T ?_
                       refine RL.p T ?_
                       refine RL.p T ?_
                       refine RL.nil _ _ _ _ ?_
                       refine hK29 _ _ _ ?_
                       refine SW.ret ?_
                       refine retQ.rr (H) ?_
                       clear hK29 K29 hK28 K28 hK15 K15 hK14 K14 hK13 K13 hK12 K12 hK11 K11 hK10 K10 hK9 K9 hK6 K6 hK5 K5 hK4 K4 hK2 K2 hK1 K1 hK0 K0
                       first
                         | exact ⟨rfl, rfl⟩
                         | exact ⟨boolE (decide_eq_true (by omega)), rfl⟩
                       )
                    ·skip
                     first
                      | (exfalso; first | omega | contradiction | (clear hK29 K29; clear hK28 K28; clear hK15 K15; clear hK14 K14; clear hK13 K13; clear hK12 K12; clear hK11 K11; clear hK10 K10; clear hK9 K9; clear hK6 K6; clear hK5 K5; clear hK4 K4; clear hK2 K2; clear hK1 K1; clear hK0 K0; simp at *; done))
                      | (
                       refine RL.guard_no rfl rfl rfl ?_
                       refine RL.guard_no rfl rfl rfl ?_
                       refine RL.guard_no rfl rfl rfl ?_
                       refine RL.p T ?_
                       refine RL.p T ?_
                       refine RL.nil _ _ _ _ ?_
                       refine hK29 _ _ _ ?_
                       refine SW.ret ?_
                       refine retQ.rr (H) ?_
                       clear hK29 K29 hK28 K28 hK15 K15 hK14 K14 hK13 K13 hK12 K12 hK11 K11 hK10 K10 hK9 K9 hK6 K6 hK5 K5 hK4 K4 hK2 K2 hK1 K1 hK0 K0
                       first
                         | exact ⟨rfl, rfl⟩
                         | exact ⟨boolE (decide_eq_true (by omega)), rfl⟩
                       )
                    )
                 ·skip
                  first
                   | (exfalso; first | omega | contradiction | (clear hK29 K29; clear hK28 K28; clear hK15 K15; clear hK14 K14; clear hK13 K13; clear hK12 K12; clear hK11 K11; clear hK10 K10; clear hK9 K9; clear hK6 K6; clear hK5 K5; clear hK4 K4; clear hK2 K2; clear hK1 K1; clear hK0 K0; simp at *; done))
                   | (
                    refine RL.guard_no rfl rfl rfl ?_
                    refine RL.guard_no rfl rfl rfl ?_
                    refine RL.guard_no rfl rfl rfl ?_
                    refine RL.guard_no rfl rfl rfl ?_
                    refine RL.p T ?_
                    refine RL.p T ?_
                    refine RL.guard_no rfl rfl rfl ?_
                    refine RL.guard_no rfl rfl rfl ?_
                    refine RL.guard_no rfl rfl rfl ?_
                    refine RL.p T ?_
                    refine RL.p T ?_
                    refine RL.nil _ _ _ _ ?_
                    refine hK29 _ _ _ ?_
                    refine SW.ret ?_
                    refine retQ.rr (H) ?_
                    clear hK29 K29 hK28 K28 hK15 K15 hK14 K14 hK13 K13 hK12 K12 hK11 K11 hK10 K10 hK9 K9 hK6 K6 hK5 K5 hK4 K4 hK2 K2 hK1 K1 hK0 K0
                    first
                      | exact ⟨rfl, rfl⟩
                      | exact ⟨boolE (decide_eq_true (by omega)), rfl⟩
                    )
                 )
              ·skip
               first
                | (exfalso; first | omega | contradiction | (clear hK29 K29; clear hK28 K28; clear hK15 K15; clear hK14 K14; clear hK13 K13; clear hK12 K12; clear hK11 K11; clear hK10 K10; clear hK9 K9; clear hK6 K6; clear hK5 K5; clear hK4 K4; clear hK2 K2; clear hK1 K1; clear hK0 K0; simp at *; done))
                | (
                 refine RL.guard_no rfl rfl rfl ?_
                 refine RL.guard_no rfl rfl rfl ?_
                 refine RL.guard_no rfl rfl rfl ?_
                 refine RL.p T ?_
                 refine RL.p T ?_
                 refine RL.guard_no rfl rfl rfl ?_
                 refine RL.guard_no rfl rfl rfl ?_
                 refine RL.guard_no rfl rfl rfl ?_
                 refine RL.guard_no rfl rfl rfl ?_
                 refine RL.p T ?_
                 refine RL.p T ?_
                 refine RL.guard_no rfl rfl rfl ?_
                 refine RL.guard_no rfl rfl rfl ?_
                 refine RL.guard_no rfl rfl rfl ?_
                 refine RL.p T ?_
                 refine RL.p T ?_
                 refine RL.nil _ _ _ _ ?_
                 refine hK29 _ _ _ ?_
                 refine SW.ret ?_
                 refine retQ.rr (H) ?_
                 clear hK29 K29 hK28 K28 hK15 K15 hK14 K14 hK13 K13 hK12 K12 hK11 K11 hK10 K10 hK9 K9 hK6 K6 hK5 K5 hK4 K4 hK2 K2 hK1 K1 hK0 K0
                 first
                   | exact ⟨rfl, rfl⟩
                   | exact ⟨boolE (decide_eq_true (by omega)), rfl⟩
                 )
              )
          )
       )
    )
theorem packComes_bad {w0 : World} {H : List Chunk} (room wait : Int) (h : room < 8 ∨ 2048 < room ∨ wait < 1 ∨ 1000 < wait) (ls : List Ac) (sr : Option Addr) (nr cr : Nat) (hB : ∀ H, Rd w0 H sr nr cr 4 (ls.flatMap AcQ)) (hnr : nr = ls.length) (hmr : nr ≤ 4398046511000) (hls : ∀ H, ∀ y ∈ ls, AcOk w0 H y) : SC Tryd.prog w0 6 #[.int .i64 room, .int .i64 wait, .slice sr nr cr] H (fun v H' => v = .bool true ∧ H' = H) := by
 refine SC.enter Tryd.func6 rfl (Nat.le_of_ble_eq_true rfl) ?_
 refine SW.seq_k fun K0 hK0 => ?_
 refine SW.region _ _ _ _ ?_
 refine RL.s ?_
 refine NV.box rfl (by exact (rfl : _ = [_])) ?_
 intro b3_0
 refine RL.p T ?_
 refine RL.nil _ _ _ _ ?_
 refine hK0 _ _ _ ?_
 refine SW.seq_k fun K1 hK1 => ?_
 refine SW.seq_k fun K2 hK2 => ?_
 refine SW.region _ _ _ _ ?_
 refine RL.c fun7 (fun hs => alive) ?_
 rintro _ _ ⟨rfl, e⟩; obtain rfl := e.symm
 refine RL.p T ?_
 refine RL.nil _ _ _ _ ?_
 refine hK2 _ _ _ ?_
 refine SW.cs (fun hc0 => ?_) (fun hc0 => ?_)
 ·skip
  first
   | (exfalso; first | omega | contradiction | (clear hK2 K2; clear hK1 K1; clear hK0 K0; simp at *; done))
   | (
    refine SW.seq_k fun K3 hK3 => ?_
    refine SW.region _ _ _ _ ?_
    refine RL.p T ?_
    refine RL.nil _ _ _ _ ?_
    refine hK3 _ _ _ ?_
    refine SW.ret ?_
    refine retQ.rr (H) ?_
    clear hK3 K3 hK2 K2 hK1 K1 hK0 K0
    exact ⟨rfl, rfl⟩
    )
 ·skip
  first
   | (exfalso; first | omega | contradiction | (clear hK2 K2; clear hK1 K1; clear hK0 K0; simp at *; done))
   | (
    refine SW.skip ?_
    refine hK1 _ _ _ ?_
    refine SW.seq_k fun K4 hK4 => ?_
    refine SW.region _ _ _ _ ?_
    refine RL.lv1 T ?_
    refine RL.p T ?_
    refine RL.c fun8 (fun hs => new_bad room wait h) ?_
    rintro _ _ ⟨rfl, e⟩; obtain rfl := e.symm
    refine RL.p T ?_
    refine RL.p T ?_
    refine RL.p T ?_
    refine RL.p T ?_
    refine RL.p T ?_
    refine RL.nil _ _ _ _ ?_
    refine hK4 _ _ _ ?_
    refine SW.seq_k fun K5 hK5 => ?_
    refine SW.seq_k fun K6 hK6 => ?_
    refine SW.region _ _ _ _ ?_
    refine RL.p T ?_
    refine RL.c fun17 (fun hs => great ls sr nr cr hB hnr hmr hls) ?_
    rintro _ _ ⟨gt, rfl, hgt, e⟩; obtain rfl := e.symm
    refine RL.p T ?_
    refine RL.sp 27 (fun hs0 => ?_) (fun hs0 => ?_)
    ·skip
     first
      | (exfalso; first | omega | contradiction | (clear hK6 K6; clear hK5 K5; clear hK4 K4; clear hK2 K2; clear hK1 K1; clear hK0 K0; simp at *; done))
      | (
       refine RL.guard_no rfl rfl rfl ?_
       refine RL.guard_no rfl rfl rfl ?_
       refine RL.p T ?_
       refine RL.nil _ _ _ _ ?_
       refine hK6 _ _ _ ?_
       refine SW.cond_t rfl ?_
       refine SW.seq_k fun K7 hK7 => ?_
       refine SW.region _ _ _ _ ?_
       refine RL.p T ?_
       refine RL.nil _ _ _ _ ?_
       refine hK7 _ _ _ ?_
       refine SW.ret ?_
       refine retQ.rr (H) ?_
       clear hK7 K7 hK6 K6 hK5 K5 hK4 K4 hK2 K2 hK1 K1 hK0 K0
       exact ⟨rfl, rfl⟩
       )
    ·skip
     first
      | (exfalso; first | omega | contradiction | (clear hK6 K6; clear hK5 K5; clear hK4 K4; clear hK2 K2; clear hK1 K1; clear hK0 K0; simp at *; done))
      | (
       refine RL.p T ?_
       refine RL.p T ?_
       refine RL.p T ?_
       refine RL.nil _ _ _ _ ?_
       refine hK6 _ _ _ ?_
       refine SW.cs (fun hc1 => ?_) (fun hc1 => ?_)
       ·skip
        first
         | (exfalso; first | omega | contradiction | (clear hK6 K6; clear hK5 K5; clear hK4 K4; clear hK2 K2; clear hK1 K1; clear hK0 K0; simp at *; done))
         | (
          refine SW.seq_k fun K8 hK8 => ?_
          refine SW.region _ _ _ _ ?_
          refine RL.p T ?_
          refine RL.nil _ _ _ _ ?_
          refine hK8 _ _ _ ?_
          refine SW.ret ?_
          refine retQ.rr (H) ?_
          clear hK8 K8 hK6 K6 hK5 K5 hK4 K4 hK2 K2 hK1 K1 hK0 K0
          exact ⟨rfl, rfl⟩
          )
       ·skip
        exfalso; first | omega | contradiction | (clear hK6 K6; clear hK5 K5; clear hK4 K4; clear hK2 K2; clear hK1 K1; clear hK0 K0; simp at *; done)
       )
    )
theorem packComesI {w0 : World} {H : List Chunk} (room wait : Int) (ls : List Ac) (sr : Option Addr) (nr cr : Nat) (hB : ∀ H, Rd w0 H sr nr cr 4 (ls.flatMap AcQ)) (hnr : nr = ls.length) (hmr : nr ≤ 4398046511000) (hls : ∀ H, ∀ y ∈ ls, AcOk w0 H y) : SC Tryd.prog w0 6 #[.int .i64 room, .int .i64 wait, .slice sr nr cr] H (fun v H' => v = .bool true ∧ H' = H) := by
  by_cases h : room < 8 ∨ 2048 < room ∨ wait < 1 ∨ 1000 < wait
  · exact packComes_bad room wait h ls sr nr cr hB hnr hmr hls
  · obtain ⟨q, rfl⟩ := Int.eq_ofNat_of_zero_le (by omega : 0 ≤ room)
    obtain ⟨u, rfl⟩ := Int.eq_ofNat_of_zero_le (by omega : 0 ≤ wait)
    exact packComes q u (by omega) ls sr nr cr hB hnr hmr hls
end Go.Proofs.YtlgdfoniijmlbaaDoor.M
