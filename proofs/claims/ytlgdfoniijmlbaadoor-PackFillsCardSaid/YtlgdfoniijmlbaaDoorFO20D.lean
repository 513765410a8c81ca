import Derived.Test.YtlgdfoniijmlbaaDoorProg
import Derived.Test.YtlgdfoniijmlbaaDoorFL20D
set_option linter.unusedVariables false
set_option linter.unusedSimpArgs false
namespace Go.Proofs.YtlgdfoniijmlbaaDoor.M
open Go Go.Sep Go.Proofs
set_option maxRecDepth 10000
set_option maxHeartbeats 2000000
theorem packFills {w0 : World} {H : List Chunk} (room : Nat) (hrw : 8 ≤ room ∧ room ≤ 2048) (ls : List Pd) (sr : Option Addr) (nr cr : Nat) (hB : ∀ H, Rd w0 H sr nr cr 2 (ls.flatMap PdC)) (hnr : nr = ls.length) (hmr : nr ≤ 4398046511000) (hls : ∀ H, ∀ y ∈ ls, PdOk w0 H y) : SC Tryd.prog w0 3 #[.int .i64 ((room : Nat) : Int), .slice sr nr cr] H (fun v H' => v = .bool true ∧ H' = H) := by
 refine SC.enter Tryd.func3 rfl (Nat.le_of_ble_eq_true rfl) ?_
 refine SW.seq_k fun K0 hK0 => ?_
 refine SW.region _ _ _ _ ?_
 refine RL.p T ?_
 refine RL.nil _ _ _ _ ?_
 refine hK0 _ _ _ ?_
 refine SW.seq_k fun K1 hK1 => ?_
 refine SW.seq_k fun K2 hK2 => ?_
 refine SW.region _ _ _ _ ?_
 refine RL.c fun7 (fun hs => alive) ?_
 rintro _ _ ⟨rfl, e⟩; obtain rfl := e.symm
 refine RL.p T ?_
 refine RL.nil _ _ _ _ ?_
 refine hK2 _ _ _ ?_
 refine SW.cs (fun hc0 => ?_) (fun hc0 => ?_)
 ·skip
  first
   | (exfalso; first | omega | contradiction | (clear hK2 K2; clear hK1 K1; clear hK0 K0; simp at *; done))
   | (
    refine SW.seq_k fun K3 hK3 => ?_
    refine SW.region _ _ _ _ ?_
    refine RL.p T ?_
    refine RL.nil _ _ _ _ ?_
    refine hK3 _ _ _ ?_
    refine SW.ret ?_
    refine retQ.rr (H) ?_
    clear hK3 K3 hK2 K2 hK1 K1 hK0 K0
    exact ⟨rfl, rfl⟩
    )
 ·skip
  first
   | (exfalso; first | omega | contradiction | (clear hK2 K2; clear hK1 K1; clear hK0 K0; simp at *; done))
   | (
    refine SW.skip ?_
    refine hK1 _ _ _ ?_
    refine SW.seq_k fun K4 hK4 => ?_
    refine SW.region _ _ _ _ ?_
    refine RL.p T ?_
    refine RL.c fun8 (fun hs => new_ok room 1000 (by omega)) ?_
    rintro _ _ ⟨b, rfl, e⟩; obtain rfl := e.symm
    refine RL.p T ?_
    refine RL.p T ?_
    refine RL.p T ?_
    refine RL.p T ?_
    refine RL.p T ?_
    refine RL.nil _ _ _ _ ?_
    refine hK4 _ _ _ ?_
    refine SW.seq_k fun K5 hK5 => ?_
    refine SW.seq_k fun K6 hK6 => ?_
    refine SW.region _ _ _ _ ?_
    refine RL.p T ?_
    refine RL.p T ?_
    refine RL.p T ?_
    refine RL.sp 26 (fun hs0 => ?_) (fun hs0 => ?_)
    ·skip
     first
      | (exfalso; first | omega | contradiction | (clear hK6 K6; clear hK5 K5; clear hK4 K4; clear hK2 K2; clear hK1 K1; clear hK0 K0; simp at *; done))
      | (
       refine RL.guard_no rfl rfl rfl ?_
       refine RL.guard_no rfl rfl rfl ?_
       refine RL.guard_no rfl rfl rfl ?_
       refine RL.p T ?_
       refine RL.nil _ _ _ _ ?_
       refine hK6 _ _ _ ?_
       refine SW.cond_t rfl ?_
       refine SW.seq_k fun K7 hK7 => ?_
       refine SW.region _ _ _ _ ?_
       refine RL.p T ?_
       refine RL.nil _ _ _ _ ?_
       refine hK7 _ _ _ ?_
       refine SW.ret ?_
       refine retQ.rr (H) ?_
       clear hK7 K7 hK6 K6 hK5 K5 hK4 K4 hK2 K2 hK1 K1 hK0 K0
       exact ⟨rfl, rfl⟩
       )
    ·skip
     first
      | (exfalso; first | omega | contradiction | (clear hK6 K6; clear hK5 K5; clear hK4 K4; clear hK2 K2; clear hK1 K1; clear hK0 K0; simp at *; done))
      | (
       refine RL.p T ?_
       refine RL.p T ?_
       refine RL.p T ?_
       refine RL.p T ?_
       refine RL.nil _ _ _ _ ?_
       refine hK6 _ _ _ ?_
       refine SW.cs (fun hc1 => ?_) (fun hc1 => ?_)
       ·skip
        first
         | (exfalso; first | omega | contradiction | (clear hK6 K6; clear hK5 K5; clear hK4 K4; clear hK2 K2; clear hK1 K1; clear hK0 K0; simp at *; done))
         | (
          refine SW.seq_k fun K8 hK8 => ?_
          refine SW.region _ _ _ _ ?_
          refine RL.p T ?_
          refine RL.nil _ _ _ _ ?_
          refine hK8 _ _ _ ?_
          refine SW.ret ?_
          refine retQ.rr (H) ?_
          clear hK8 K8 hK6 K6 hK5 K5 hK4 K4 hK2 K2 hK1 K1 hK0 K0
          exact ⟨rfl, rfl⟩
          )
       ·skip
        first
         | (exfalso; first | omega | contradiction | (clear hK6 K6; clear hK5 K5; clear hK4 K4; clear hK2 K2; clear hK1 K1; clear hK0 K0; simp at *; done))
         | (
          refine SW.skip ?_
          refine hK5 _ _ _ ?_
          refine SW.seq_k fun K9 hK9 => ?_
          refine SW.region _ _ _ _ ?_
          refine RL.p T ?_
          refine RL.nil _ _ _ _ ?_
          refine hK9 _ _ _ ?_
          refine SW.seq_k fun K10 hK10 => ?_
          refine SW.seq_k fun K11 hK11 => ?_
          refine SW.nilrow 30 1 ?_
          refine SW.nilrow 35 2 ?_
          refine SW.wk (.var b 55 [.int .i64 ((room : Nat) : Int), .int .i64 ((1000 : Nat) : Int), .slice none 0 0, .int .i64 0, .int .i64 ((0 : Nat) : Int)] :: .row none 0 0 35 2 (List.flatMap PdC []) :: .row none 0 0 30 1 (List.flatMap SlC ([])) :: ([] ++ H)) ?_
          refine SW.region _ _ _ _ ?_
          refine RL.p T ?_
          refine RL.p T ?_
          refine RL.p T ?_
          refine RL.nil _ _ _ _ ?_
          refine hK11 _ _ _ ?_
          refine SW.block ?_
          refine SW.loopM (fun frB mm fr ds HH => ∃ (k : Nat) (la : Option Addr) (ln lc : Nat) (l : List Pd) (age : Nat) (us : Int) (aa : Option Addr) (an ac : Nat) (os : List Sl) (Cs : List (List Mg)) (G : List Chunk), mm = nr - k ∧ (k ≤ nr ∧ (ln = l.length ∧ us = (usedM (mg l) : Nat) ∧ usedM (mg l) + 8 ≤ room ∧ (∀ y ∈ l, PdOk w0 G y) ∧ an = os.length ∧ an ≤ 2 * k ∧ outD os = Cs.map joinB ∧ Chain room Cs (mg l) ∧ AllOk room Cs ∧ (∀ q ∈ os, SlOk w0 G q))) ∧ FrIs [4, 7, 9, 10, 11, 33, 34, 35, 36, 37, 38, 39, 40, 41, 42, 43, 44, 45, 46, 47, 48, 49, 50] frB fr [(33, .int .i64 k), (7, .slice aa an ac)] ∧ ds = [] ∧ HH = (.var b 55 [.int .i64 ((room : Nat) : Int), .int .i64 ((1000 : Nat) : Int), .slice la ln lc, .int .i64 us, .int .i64 ((age : Nat) : Int)] :: .row la ln lc 35 2 (List.flatMap PdC l) :: .row aa an ac 30 1 (List.flatMap SlC (os)) :: (G ++ H))) (n := nr - 0) ?_ ?_
          ·exact ⟨0, none, 0, 0, [], 0, 0, none, 0, 0, [], [], [], rfl, ⟨Nat.zero_le _, ⟨rfl, rfl, (by show 0 + 8 ≤ room; omega), (by simp), rfl, Nat.le_refl _, rfl, Chain.nil, (fun _ h => by cases h), by simp⟩⟩, (.cons rfl (.cons rfl (.nil (by repeat first | with_reducible exact Mx.refl | with_reducible exact Mx.mix | refine Mx.put rfl ?_ | refine Mx.upd rfl ?_ | refine Mx.updl rfl ?_ | refine Mx.fin rfl ?_ | refine Mx.inner rfl ?_ | refine Mx.none ?_ | exact Mx.refl | exact Mx.mix)))), rfl, rfl⟩
          ·rintro mm fr ds HH ⟨k, la, ln, lc, l, age, us, aa, an, ac, os, Cs, G, rfl, ⟨hk, ⟨hln, hus, hur, hlo, han, hak, hos, hch, hao, hoq⟩⟩, hFr, rfl, eHH⟩
           obtain rfl := eHH.symm
           obtain ⟨frU, rfl⟩ := hFr.eq
           clear hFr
           have hx := fun H => pd_mem (hls H) k
           have hxm := (hx []).max
           have hll := usedM_len (mg l)
           rw [mg_len] at hll
           refine SW.seq_k fun K12 hK12 => ?_
           refine SW.region _ _ _ _ ?_
           refine RL.p T ?_
           refine RL.nil _ _ _ _ ?_
           refine hK12 _ _ _ ?_
           refine SW.seq_k fun K13 hK13 => ?_
           refine SW.cs (fun hc2 => ?_) (fun hc2 => ?_)
           ·skip
            first
             | (exfalso; first | omega | contradiction | (clear hK13 K13; clear hK12 K12; clear hK11 K11; clear hK10 K10; clear hK9 K9; clear hK6 K6; clear hK5 K5; clear hK4 K4; clear hK2 K2; clear hK1 K1; clear hK0 K0; simp at *; done))
             | (
              refine SW.skip ?_
              refine hK13 _ _ _ ?_
              refine SW.seq_k fun K14 hK14 => ?_
              refine SW.block ?_
              refine SW.seq_k fun K15 hK15 => ?_
              refine SW.region _ _ _ _ ?_
              refine RL.ix T ?_ (hR := fun hs => (by first | exact hB _ | exact Rd.rowh hs (by repeat first | exact At.head _ _ | apply At.tail | apply At.app)))
              refine RL.leN T ?_ (hR := fun hs => (by first | exact hB _ | exact Rd.rowh hs (by repeat first | exact At.head _ _ | apply At.tail | apply At.app))) (hvs := (by exact (rfl : _ = [_, _])))
              refine RL.s ?_
              refine NV.alloc T rfl rfl rfl (by exact (rfl : _ = [_, _])) ?_
              intro b9_0
              refine RL.s ?_
              refine NV.sN T rfl rfl rfl (by exact (rfl : _ = [_, _])) (by exact (rfl : _ = [_, _])) ?_
              refine RL.nil _ _ _ _ ?_
              refine hK15 _ _ _ ?_
              refine SW.seq_k fun K16 hK16 => ?_
              refine SW.seq_k fun K17 hK17 => ?_
              refine SW.region _ _ _ _ ?_
              refine RL.p T ?_
              refine RL.lv1 T ?_
              refine RL.p T ?_
              refine RL.p T ?_
              refine RL.nil _ _ _ _ ?_
              refine hK17 _ _ _ ?_
              refine SW.cs (fun hc3 => ?_) (fun hc3 => ?_)
              ·skip
               first
                | (exfalso; first | omega | contradiction | (clear hK17 K17; clear hK16 K16; clear hK15 K15; clear hK14 K14; clear hK13 K13; clear hK12 K12; clear hK11 K11; clear hK10 K10; clear hK9 K9; clear hK6 K6; clear hK5 K5; clear hK4 K4; clear hK2 K2; clear hK1 K1; clear hK0 K0; simp at *; done))
                | (
                 refine SW.seq_k fun K18 hK18 => ?_
                 refine SW.region _ _ _ _ ?_
                 refine RL.p T ?_
                 refine RL.nil _ _ _ _ ?_
                 refine hK18 _ _ _ ?_
                 refine SW.ret ?_
                 refine retQ.rr (H) ?_
                 clear hK18 K18 hK17 K17 hK16 K16 hK15 K15 hK14 K14 hK13 K13 hK12 K12 hK11 K11 hK10 K10 hK9 K9 hK6 K6 hK5 K5 hK4 K4 hK2 K2 hK1 K1 hK0 K0
                 exact ⟨rfl, rfl⟩
                 )
              ·skip
               first
                | (exfalso; first | omega | contradiction | (clear hK17 K17; clear hK16 K16; clear hK15 K15; clear hK14 K14; clear hK13 K13; clear hK12 K12; clear hK11 K11; clear hK10 K10; clear hK9 K9; clear hK6 K6; clear hK5 K5; clear hK4 K4; clear hK2 K2; clear hK1 K1; clear hK0 K0; simp at *; done))
                | (
                 refine SW.skip ?_
                 refine hK16 _ _ _ ?_
                 refine SW.seq_k fun K19 hK19 => ?_
                 refine SW.region _ _ _ _ ?_
                 refine RL.p T ?_
                 refine RL.q (QV.vN T rfl rfl rfl rfl rfl (by exact (rfl : _ = [_, _]))) ?_
                 refine RL.c fun9 (fun hs => SC.wk (addU (ls.getD k default) (hx _) b room 1000 age us la ln lc l hln hus (by omega) (fun y hy => (hlo y hy).sub SubL.by) (by omega) hur (H := .var b9_0 32 (PdC (ls.getD k default)) :: .row aa an ac 30 1 (List.flatMap SlC (os)) :: (G ++ H)))) ?_
                 rintro _ _ ⟨D1, oa1, on1, oc1, os1, la1, ln1, lc1, l1, age1, us1, rfl, e, hon1, hln1, hus1, hos1, hl1, hag1, hoq1, hly1⟩; obtain rfl := e.symm
                 have ho1 : on1 ≤ 2 := by have h5 := addOu_len room (mg l) (mgP (ls.getD k default)); rw [← hos1, outD_len] at h5; omega
                 refine RL.p T ?_
                 refine RL.p T ?_
                 refine RL.p T ?_
                 refine RL.p T ?_
                 refine RL.p T ?_
                 refine RL.nil _ _ _ _ ?_
                 refine hK19 _ _ _ ?_
                 refine SW.region _ _ _ _ ?_
                 refine RL.p T ?_
                 refine RL.p T ?_
                 refine RL.apR (enc := SlC) T os (ys := os1) (fun a5_ c5_ => ?_)
                 refine RL.p T ?_
                 refine RL.nil _ _ _ _ ?_
                 refine hK14 _ _ _ ?_
                 refine SW.wk (.var b 55 [.int .i64 ((room : Nat) : Int), .int .i64 ((1000 : Nat) : Int), .slice la1 ln1 lc1, .int .i64 us1, .int .i64 ((age1 : Nat) : Int)] :: .row la1 ln1 lc1 35 2 (List.flatMap PdC l1) :: .row a5_ (an + on1) c5_ 30 1 (List.flatMap SlC (os ++ os1)) :: ((D1 ++ G) ++ H)) ?_
                 refine SW.region _ _ _ _ ?_
                 first | refine RL.ar ?_ | refine RL.p T ?_
                 refine RL.p T ?_
                 refine RL.nil _ _ _ _ ?_
                 exact ⟨nr - (k + 1), (by omega), k + 1, la1, ln1, lc1, l1, age1, us1, a5_, an + on1, c5_, os ++ os1, Cs ++ addG room (mg l) (mgP (ls.getD k default)), D1 ++ G, (by rfl), ⟨by omega, ⟨hln1, hus1, (by rw [hl1]; exact addLu_used (by omega) hur), pdmix hlo hly1, (by simp [han, hon1]), (by have h5 := addOu_len room (mg l) (mgP (ls.getD k default)); rw [← hos1, outD_len] at h5; omega), (by rw [outD_app, hos, hos1, addOu_G, List.map_append]), (by rw [hl1]; exact hch.add _), hao.app (AllOk.add (mok_all hlo (by omega)) (by omega) (fun h => mok_pd (hx []) (by omega))), (fun q hq => (List.mem_append.1 hq).elim (fun m => (hoq q m).app) (fun m => (hoq1 q m).sub SubL.by))⟩⟩, (.cons rfl (.cons rfl (.nil (by repeat first | with_reducible exact Mx.refl | with_reducible exact Mx.mix | refine Mx.put rfl ?_ | refine Mx.upd rfl ?_ | refine Mx.updl rfl ?_ | refine Mx.fin rfl ?_ | refine Mx.inner rfl ?_ | refine Mx.none ?_ | exact Mx.refl | exact Mx.mix)))), rfl, rfl⟩
                 )
              )
           ·skip
            first
             | (exfalso; first | omega | contradiction | (clear hK13 K13; clear hK12 K12; clear hK11 K11; clear hK10 K10; clear hK9 K9; clear hK6 K6; clear hK5 K5; clear hK4 K4; clear hK2 K2; clear hK1 K1; clear hK0 K0; simp at *; done))
             | (
              refine SW.exit ?_
              refine hK10 _ _ _ ?_
              refine SW.seq_k fun K20 hK20 => ?_
              refine SW.region _ _ _ _ ?_
              refine RL.p T ?_
              refine RL.p T ?_
              refine RL.c fun10 (fun hs => SC.wk (flushV b room 1000 age us la ln lc l hln hus (by omega) (fun y hy => (hlo y hy).sub SubL.by) (H := .row aa an ac 30 1 (List.flatMap SlC (os)) :: (G ++ H)))) ?_
              rintro _ _ ⟨D2, oa2, on2, oc2, os2, la2, ln2, lc2, l2, age2, us2, rfl, e, hon2, hln2, hus2, hos2, hl2, hag2, hoq2, hly2⟩; obtain rfl := e.symm
              have ho2 : on2 ≤ 1 := by have h5 := flushO_len (mg l); rw [← hos2, outD_len] at h5; omega
              refine RL.apR (enc := SlC) T os (ys := os2) (fun a6_ c6_ => ?_)
              refine RL.p T ?_
              refine RL.nil _ _ _ _ ?_
              refine hK20 _ _ _ ?_
              refine SW.seq_k fun K21 hK21 => ?_
              refine SW.seq_k fun K22 hK22 => ?_
              refine SW.wk (.row a6_ (an + on2) c6_ 30 1 (List.flatMap SlC (os ++ os2)) :: (D2 ++ (G ++ H))) ?_
              have hO : outD (os ++ os2) = (Cs ++ flushG (mg l)).map joinB := by rw [outD_app, hos, hos2, flushO_G, List.map_append]
              have hA2 : AllOk room (Cs ++ flushG (mg l)) := hao.app (AllOk.flush (mok_all hlo (by omega)) (by omega))
              have hgd := hch.good
              have hQ : ∀ q ∈ os ++ os2, SlOk w0 (D2 ++ G) q := fun q hq => (List.mem_append.1 hq).elim (fun m => (hoq q m).app) (fun m => (hoq2 q m).sub SubL.by)
              have hL : (os ++ os2).length = an + on2 := by rw [List.length_append, ← han, ← hon2]
              refine SW.region _ _ _ _ ?_
              refine RL.p T ?_
              refine RL.nil _ _ _ _ ?_
              refine hK22 _ _ _ ?_
              refine SW.block ?_
              refine SW.loopM (fun frB mm fr ds HH => ∃ (i : Nat), mm = an + on2 - i ∧ (i ≤ an + on2) ∧ FrIs [4, 12, 13, 14, 15, 16, 55, 56, 57, 58, 59, 60, 61, 62, 63, 64, 65, 66, 67, 68, 69, 70, 71, 72, 73, 74, 75, 76, 77, 78, 79, 80, 81, 82, 83, 84, 85, 86, 87, 88, 89, 90, 91, 92, 93, 94, 95, 96, 97, 98, 99, 100, 101, 102, 103] frB fr [(12, .int .i64 i)] ∧ ds = [] ∧ HH = (.row a6_ (an + on2) c6_ 30 1 (List.flatMap SlC (os ++ os2)) :: (D2 ++ (G ++ H)))) (n := an + on2 - 0) ?_ ?_
              ·exact ⟨0, rfl, Nat.zero_le _, (.consI rfl (by first | omega | rfl) (.nil (by repeat first | with_reducible exact Mx.refl | with_reducible exact Mx.mix | refine Mx.put rfl ?_ | refine Mx.upd rfl ?_ | refine Mx.updl rfl ?_ | refine Mx.fin rfl ?_ | refine Mx.inner rfl ?_ | refine Mx.none ?_ | exact Mx.refl | exact Mx.mix))), rfl, rfl⟩
              ·rintro mm fr ds HH ⟨i, rfl, hi, hFr, rfl, eHH⟩
               obtain rfl := eHH.symm
               obtain ⟨frU, rfl⟩ := hFr.eq
               clear hFr
               refine SW.seq_k fun K23 hK23 => ?_
               refine SW.seq_k fun K24 hK24 => ?_
               refine SW.region _ _ _ _ ?_
               refine RL.p T ?_
               first | refine RL.ar ?_ | refine RL.p T ?_
               refine RL.p T ?_
               refine RL.p T ?_
               refine RL.p T ?_
               refine RL.nil _ _ _ _ ?_
               refine hK24 _ _ _ ?_
               refine SW.cs (fun hc4 => ?_) (fun hc4 => ?_)
               ·skip
                first
                 | (exfalso; first | omega | contradiction | (clear hK24 K24; clear hK23 K23; clear hK22 K22; clear hK21 K21; clear hK20 K20; clear hK13 K13; clear hK12 K12; clear hK11 K11; clear hK10 K10; clear hK9 K9; clear hK6 K6; clear hK5 K5; clear hK4 K4; clear hK2 K2; clear hK1 K1; clear hK0 K0; simp at *; done))
                 | (
                  refine SW.skip ?_
                  refine hK23 _ _ _ ?_
                  refine SW.seq_k fun K25 hK25 => ?_
                  refine SW.block ?_
                  refine SW.seq_k fun K26 hK26 => ?_
                  have hg1 := out_get hO (k := i + 1) (by omega)
                  have hg0 := out_get hO (k := i) (by omega)
                  have hok1 := hA2.get hg1.1
                  have hok0 := hA2.get hg0.1
                  have hnx := hgd i hg1.1
                  have hs1 := sl_mem hQ (i + 1)
                  have hs0 := sl_mem hQ i
                  have hjl := joinB_len ((Cs ++ flushG (mg l)).getD i [])
                  have hd0 := hs0.len
                  rw [hg0.2, hjl] at hd0
                  refine SW.region _ _ _ _ ?_
                  refine RL.p T ?_
                  refine RL.p T ?_
                  first | refine RL.ar ?_ | refine RL.p T ?_
                  refine RL.ix T ?_ (hR := fun hs => (by first | exact hB _ | exact Rd.rowh hs (by repeat first | exact At.head _ _ | apply At.tail | apply At.app)))
                  refine RL.le T ?_ (hR := fun hs => (by first | exact hB _ | exact Rd.rowh hs (by repeat first | exact At.head _ _ | apply At.tail | apply At.app))) (hv := (by first | exact slc_get (by omega) | assumption))
                  refine RL.c fun11 (fun hs => splitT ((os ++ os2).getD (i + 1) default) (hs1.sub SubL.by) ((Cs ++ flushG (mg l)).getD (i + 1) []) hg1.2 hok1.1 hok1.2.1 (by omega)) ?_
                  rintro _ _ ⟨D6, a7, c7, ps, rfl, e, hps, hpo⟩; obtain rfl := e.symm
                  have hpl : 0 < ps.length := by rw [← mg_len, hps]; exact List.length_pos_iff.2 hok1.1
                  have hp0 := pd_mem hpo 0
                  obtain ⟨y, ps, rfl⟩ : ∃ y ys, ps = y :: ys := by cases ps with
                    | nil => simp at hpl
                    | cons y ys => exact ⟨y, ys, rfl⟩
                  have hm1 : wk (mgP y) ≤ usedM ((Cs ++ flushG (mg l)).getD (i + 1) []) := by rw [← hps]; exact usedM_mem _ _ (by simp [mg])
                  have hnx2 : room < usedM ((Cs ++ flushG (mg l)).getD i []) + wk (mgP y) ∨ room < usedM ((Cs ++ flushG (mg l)).getD i []) + 8 := by rw [← hps] at hnx; exact hnx
                  refine RL.p T ?_
                  refine RL.p T ?_
                  refine RL.p T ?_
                  refine RL.p T ?_
                  refine RL.p T ?_
                  refine RL.nil _ _ _ _ ?_
                  refine hK26 _ _ _ ?_
                  refine SW.seq_k fun K27 hK27 => ?_
                  refine SW.seq_k fun K28 hK28 => ?_
                  refine SW.region _ _ _ _ ?_
                  refine RL.p T ?_
                  refine RL.p T ?_
                  refine RL.p T ?_
                  refine RL.sp 73 (fun hs1 => ?_) (fun hs1 => ?_)
                  ·skip
                   first
                    | (exfalso; first | omega | contradiction | (clear hK28 K28; clear hK27 K27; clear hK26 K26; clear hK25 K25; clear hK24 K24; clear hK23 K23; clear hK22 K22; clear hK21 K21; clear hK20 K20; clear hK13 K13; clear hK12 K12; clear hK11 K11; clear hK10 K10; clear hK9 K9; clear hK6 K6; clear hK5 K5; clear hK4 K4; clear hK2 K2; clear hK1 K1; clear hK0 K0; simp at *; done))
                    | (
                     refine RL.guard_no rfl rfl rfl ?_
                     refine RL.guard_no rfl rfl rfl ?_
                     refine RL.guard_no rfl rfl rfl ?_
                     refine RL.p T ?_
                     refine RL.nil _ _ _ _ ?_
                     refine hK28 _ _ _ ?_
                     refine SW.cond_t rfl ?_
                     refine SW.seq_k fun K29 hK29 => ?_
                     refine SW.region _ _ _ _ ?_
                     refine RL.p T ?_
                     refine RL.nil _ _ _ _ ?_
                     refine hK29 _ _ _ ?_
                     refine SW.ret ?_
                     refine retQ.rr (H) ?_
                     clear hK29 K29 hK28 K28 hK27 K27 hK26 K26 hK25 K25 hK24 K24 hK23 K23 hK22 K22 hK21 K21 hK20 K20 hK13 K13 hK12 K12 hK11 K11 hK10 K10 hK9 K9 hK6 K6 hK5 K5 hK4 K4 hK2 K2 hK1 K1 hK0 K0
                     exact ⟨rfl, rfl⟩
                     )
                  ·skip
                   first
                    | (exfalso; first | omega | contradiction | (clear hK28 K28; clear hK27 K27; clear hK26 K26; clear hK25 K25; clear hK24 K24; clear hK23 K23; clear hK22 K22; clear hK21 K21; clear hK20 K20; clear hK13 K13; clear hK12 K12; clear hK11 K11; clear hK10 K10; clear hK9 K9; clear hK6 K6; clear hK5 K5; clear hK4 K4; clear hK2 K2; clear hK1 K1; clear hK0 K0; simp at *; done))
                    | (
                     refine RL.p T ?_
                     refine RL.p T ?_
                     refine RL.p T ?_
                     refine RL.p T ?_
                     refine RL.nil _ _ _ _ ?_
                     refine hK28 _ _ _ ?_
                     refine SW.cs (fun hc5 => ?_) (fun hc5 => ?_)
                     ·skip
                      first
                       | (exfalso; first | omega | contradiction | (clear hK28 K28; clear hK27 K27; clear hK26 K26; clear hK25 K25; clear hK24 K24; clear hK23 K23; clear hK22 K22; clear hK21 K21; clear hK20 K20; clear hK13 K13; clear hK12 K12; clear hK11 K11; clear hK10 K10; clear hK9 K9; clear hK6 K6; clear hK5 K5; clear hK4 K4; clear hK2 K2; clear hK1 K1; clear hK0 K0; simp at *; done))
                       | (
                        refine SW.seq_k fun K30 hK30 => ?_
                        refine SW.region _ _ _ _ ?_
                        refine RL.p T ?_
                        refine RL.nil _ _ _ _ ?_
                        refine hK30 _ _ _ ?_
                        refine SW.ret ?_
                        refine retQ.rr (H) ?_
                        clear hK30 K30 hK28 K28 hK27 K27 hK26 K26 hK25 K25 hK24 K24 hK23 K23 hK22 K22 hK21 K21 hK20 K20 hK13 K13 hK12 K12 hK11 K11 hK10 K10 hK9 K9 hK6 K6 hK5 K5 hK4 K4 hK2 K2 hK1 K1 hK0 K0
                        exact ⟨rfl, rfl⟩
                        )
                     ·skip
                      first
                       | (exfalso; first | omega | contradiction | (clear hK28 K28; clear hK27 K27; clear hK26 K26; clear hK25 K25; clear hK24 K24; clear hK23 K23; clear hK22 K22; clear hK21 K21; clear hK20 K20; clear hK13 K13; clear hK12 K12; clear hK11 K11; clear hK10 K10; clear hK9 K9; clear hK6 K6; clear hK5 K5; clear hK4 K4; clear hK2 K2; clear hK1 K1; clear hK0 K0; simp at *; done))
                       | (
                        refine SW.skip ?_
                        refine hK27 _ _ _ ?_
                        refine SW.seq_k fun K31 hK31 => ?_
                        refine SW.region _ _ _ _ ?_
                        refine RL.p T ?_
                        refine RL.ix T ?_ (hR := fun hs => (by first | exact hB _ | exact Rd.rowh hs (by repeat first | exact At.head _ _ | apply At.tail | apply At.app)))
                        refine RL.leN T ?_ (hR := fun hs => Rd.rowh hs (by repeat first | exact At.head _ _ | apply At.tail | apply At.app)) (hq := (rfl : _ = some y)) (hvs := (by exact (rfl : _ = [_, _])))
                        refine RL.c fun12 (fun hs => psizeO y (by repeat first | exact hp0.sub SubL.by) (by omega)) ?_
                        rintro _ _ ⟨rfl, e⟩; obtain rfl := e.symm
                        refine RL.p T ?_
                        refine RL.p T ?_
                        refine RL.p T ?_
                        refine RL.p T ?_
                        refine RL.p T ?_
                        refine RL.nil _ _ _ _ ?_
                        refine hK31 _ _ _ ?_
                        refine SW.seq_k fun K32 hK32 => ?_
                        refine SW.region _ _ _ _ ?_
                        refine RL.p T ?_
                        refine RL.p T ?_
                        refine RL.ix T ?_ (hR := fun hs => (by first | exact hB _ | exact Rd.rowh hs (by repeat first | exact At.head _ _ | apply At.tail | apply At.app)))
                        refine RL.le T ?_ (hR := fun hs => (by first | exact hB _ | exact Rd.rowh hs (by repeat first | exact At.head _ _ | apply At.tail | apply At.app))) (hv := (by first | exact slc_get (by omega) | assumption))
                        refine RL.p T ?_
                        refine RL.p T ?_
                        first | refine RL.ar ?_ | refine RL.p T ?_
                        refine RL.p T ?_
                        refine RL.p T ?_
                        refine RL.p T ?_
                        refine RL.sp 94 (fun hs2 => ?_) (fun hs2 => ?_)
                        ·skip
                         first
                          | (exfalso; first | omega | contradiction | (clear hK32 K32; clear hK31 K31; clear hK28 K28; clear hK27 K27; clear hK26 K26; clear hK25 K25; clear hK24 K24; clear hK23 K23; clear hK22 K22; clear hK21 K21; clear hK20 K20; clear hK13 K13; clear hK12 K12; clear hK11 K11; clear hK10 K10; clear hK9 K9; clear hK6 K6; clear hK5 K5; clear hK4 K4; clear hK2 K2; clear hK1 K1; clear hK0 K0; simp at *; done))
                          | (
                           refine RL.p T ?_
                           refine RL.p T ?_
                           refine RL.p T ?_
                           refine RL.ix T ?_ (hR := fun hs => (by first | exact hB _ | exact Rd.rowh hs (by repeat first | exact At.head _ _ | apply At.tail | apply At.app)))
                           refine RL.le T ?_ (hR := fun hs => (by first | exact hB _ | exact Rd.rowh hs (by repeat first | exact At.head _ _ | apply At.tail | apply At.app))) (hv := (by first | exact slc_get (by omega) | assumption))
                           refine RL.p T ?_
                           first | refine RL.ar ?_ | refine RL.p T ?_
                           refine RL.p T ?_
                           refine RL.p T ?_
                           refine RL.nil _ _ _ _ ?_
                           refine hK32 _ _ _ ?_
                           refine SW.cs (fun hc6 => ?_) (fun hc6 => ?_)
                           ·skip
                            first
                             | (exfalso; first | omega | contradiction | (clear hK32 K32; clear hK31 K31; clear hK28 K28; clear hK27 K27; clear hK26 K26; clear hK25 K25; clear hK24 K24; clear hK23 K23; clear hK22 K22; clear hK21 K21; clear hK20 K20; clear hK13 K13; clear hK12 K12; clear hK11 K11; clear hK10 K10; clear hK9 K9; clear hK6 K6; clear hK5 K5; clear hK4 K4; clear hK2 K2; clear hK1 K1; clear hK0 K0; simp at *; done))
                             | (
                              refine SW.seq_k fun K33 hK33 => ?_
                              refine SW.region _ _ _ _ ?_
                              refine RL.p T ?_
                              refine RL.nil _ _ _ _ ?_
                              refine hK33 _ _ _ ?_
                              refine SW.ret ?_
                              refine retQ.rr (H) ?_
                              clear hK33 K33 hK32 K32 hK31 K31 hK28 K28 hK27 K27 hK26 K26 hK25 K25 hK24 K24 hK23 K23 hK22 K22 hK21 K21 hK20 K20 hK13 K13 hK12 K12 hK11 K11 hK10 K10 hK9 K9 hK6 K6 hK5 K5 hK4 K4 hK2 K2 hK1 K1 hK0 K0
                              exact ⟨rfl, rfl⟩
                              )
                           ·skip
                            first
                             | (exfalso; first | omega | contradiction | (clear hK32 K32; clear hK31 K31; clear hK28 K28; clear hK27 K27; clear hK26 K26; clear hK25 K25; clear hK24 K24; clear hK23 K23; clear hK22 K22; clear hK21 K21; clear hK20 K20; clear hK13 K13; clear hK12 K12; clear hK11 K11; clear hK10 K10; clear hK9 K9; clear hK6 K6; clear hK5 K5; clear hK4 K4; clear hK2 K2; clear hK1 K1; clear hK0 K0; simp at *; done))
                             | (
                              refine SW.skip ?_
                              refine hK25 _ _ _ ?_
                              refine SW.wk (.row a6_ (an + on2) c6_ 30 1 (List.flatMap SlC (os ++ os2)) :: (D2 ++ (G ++ H))) ?_
                              refine SW.region _ _ _ _ ?_
                              refine RL.p T ?_
                              first | refine RL.ar ?_ | refine RL.p T ?_
                              refine RL.p T ?_
                              refine RL.nil _ _ _ _ ?_
                              exact ⟨an + on2 - (i + 1), (by omega), i + 1, (by rfl), (by omega), (.consI rfl (by first | omega | rfl) (.nil (by repeat first | with_reducible exact Mx.refl | with_reducible exact Mx.mix | refine Mx.put rfl ?_ | refine Mx.upd rfl ?_ | refine Mx.updl rfl ?_ | refine Mx.fin rfl ?_ | refine Mx.inner rfl ?_ | refine Mx.none ?_ | exact Mx.refl | exact Mx.mix))), rfl, rfl⟩
                              )
                           )
                        ·skip
                         first
                          | (exfalso; first | omega | contradiction | (clear hK32 K32; clear hK31 K31; clear hK28 K28; clear hK27 K27; clear hK26 K26; clear hK25 K25; clear hK24 K24; clear hK23 K23; clear hK22 K22; clear hK21 K21; clear hK20 K20; clear hK13 K13; clear hK12 K12; clear hK11 K11; clear hK10 K10; clear hK9 K9; clear hK6 K6; clear hK5 K5; clear hK4 K4; clear hK2 K2; clear hK1 K1; clear hK0 K0; simp at *; done))
                          | (
                           refine RL.guard_no rfl rfl rfl ?_
                           refine RL.guard_no rfl rfl rfl ?_
                           refine RL.guard_no rfl rfl rfl ?_
                           refine RL.guard_no rfl rfl rfl ?_
                           refine RL.guard_no rfl rfl rfl ?_
                           refine RL.guard_no rfl rfl rfl ?_
                           refine RL.guard_no rfl rfl rfl ?_
                           refine RL.guard_no rfl rfl rfl ?_
                           refine RL.p T ?_
                           refine RL.nil _ _ _ _ ?_
                           refine hK32 _ _ _ ?_
                           refine SW.cond_f rfl ?_
                           refine SW.skip ?_
                           refine hK25 _ _ _ ?_
                           refine SW.wk (.row a6_ (an + on2) c6_ 30 1 (List.flatMap SlC (os ++ os2)) :: (D2 ++ (G ++ H))) ?_
                           refine SW.region _ _ _ _ ?_
                           refine RL.p T ?_
                           first | refine RL.ar ?_ | refine RL.p T ?_
                           refine RL.p T ?_
                           refine RL.nil _ _ _ _ ?_
                           exact ⟨an + on2 - (i + 1), (by omega), i + 1, (by rfl), (by omega), (.consI rfl (by first | omega | rfl) (.nil (by repeat first | with_reducible exact Mx.refl | with_reducible exact Mx.mix | refine Mx.put rfl ?_ | refine Mx.upd rfl ?_ | refine Mx.updl rfl ?_ | refine Mx.fin rfl ?_ | refine Mx.inner rfl ?_ | refine Mx.none ?_ | exact Mx.refl | exact Mx.mix))), rfl, rfl⟩
                           )
                        )
                     )
                  )
               ·skip
                first
                 | (exfalso; first | omega | contradiction | (clear hK24 K24; clear hK23 K23; clear hK22 K22; clear hK21 K21; clear hK20 K20; clear hK13 K13; clear hK12 K12; clear hK11 K11; clear hK10 K10; clear hK9 K9; clear hK6 K6; clear hK5 K5; clear hK4 K4; clear hK2 K2; clear hK1 K1; clear hK0 K0; simp at *; done))
                 | (
                  refine SW.exit ?_
                  refine hK21 _ _ _ ?_
                  refine SW.seq_k fun K34 hK34 => ?_
                  refine SW.region _ _ _ _ ?_
                  refine RL.p T ?_
                  refine RL.nil _ _ _ _ ?_
                  refine hK34 _ _ _ ?_
                  refine SW.ret ?_
                  refine retQ.rr (H) ?_
                  clear hK34 K34 hK24 K24 hK23 K23 hK22 K22 hK21 K21 hK20 K20 hK13 K13 hK12 K12 hK11 K11 hK10 K10 hK9 K9 hK6 K6 hK5 K5 hK4 K4 hK2 K2 hK1 K1 hK0 K0
                  exact ⟨rfl, rfl⟩
                  )
              )
          )
       )
    )
theorem packFills_bad {w0 : World} {H : List Chunk} (room : Int) (h : room < 8 ∨ 2048 < room) (ls : List Pd) (sr : Option Addr) (nr cr : Nat) (hB : ∀ H, Rd w0 H sr nr cr 2 (ls.flatMap PdC)) (hnr : nr = ls.length) (hmr : nr ≤ 4398046511000) (hls : ∀ H, ∀ y ∈ ls, PdOk w0 H y) : SC Tryd.prog w0 3 #[.int .i64 room, .slice sr nr cr] H (fun v H' => v = .bool true ∧ H' = H) := by
 refine SC.enter Tryd.func3 rfl (Nat.le_of_ble_eq_true rfl) ?_
 refine SW.seq_k fun K0 hK0 => ?_
 refine SW.region _ _ _ _ ?_
 refine RL.p T ?_
 refine RL.nil _ _ _ _ ?_
 refine hK0 _ _ _ ?_
 refine SW.seq_k fun K1 hK1 => ?_
 refine SW.seq_k fun K2 hK2 => ?_
 refine SW.region _ _ _ _ ?_
 refine RL.c fun7 (fun hs => alive) ?_
 rintro _ _ ⟨rfl, e⟩; obtain rfl := e.symm
 refine RL.p T ?_
 refine RL.nil _ _ _ _ ?_
 refine hK2 _ _ _ ?_
 refine SW.cs (fun hc0 => ?_) (fun hc0 => ?_)
 ·skip
  first
   | (exfalso; first | omega | contradiction | (clear hK2 K2; clear hK1 K1; clear hK0 K0; simp at *; done))
   | (
    refine SW.seq_k fun K3 hK3 => ?_
    refine SW.region _ _ _ _ ?_
    refine RL.p T ?_
    refine RL.nil _ _ _ _ ?_
    refine hK3 _ _ _ ?_
    refine SW.ret ?_
    refine retQ.rr (H) ?_
    clear hK3 K3 hK2 K2 hK1 K1 hK0 K0
    exact ⟨rfl, rfl⟩
    )
 ·skip
  first
   | (exfalso; first | omega | contradiction | (clear hK2 K2; clear hK1 K1; clear hK0 K0; simp at *; done))
   | (
    refine SW.skip ?_
    refine hK1 _ _ _ ?_
    refine SW.seq_k fun K4 hK4 => ?_
    refine SW.region _ _ _ _ ?_
    refine RL.p T ?_
    refine RL.c fun8 (fun hs => new_bad room 1000 (by omega)) ?_
    rintro _ _ ⟨rfl, e⟩; obtain rfl := e.symm
    refine RL.p T ?_
    refine RL.p T ?_
    refine RL.p T ?_
    refine RL.p T ?_
    refine RL.p T ?_
    refine RL.nil _ _ _ _ ?_
    refine hK4 _ _ _ ?_
    refine SW.seq_k fun K5 hK5 => ?_
    refine SW.seq_k fun K6 hK6 => ?_
    refine SW.region _ _ _ _ ?_
    refine RL.p T ?_
    refine RL.p T ?_
    refine RL.p T ?_
    refine RL.sp 26 (fun hs0 => ?_) (fun hs0 => ?_)
    ·skip
     first
      | (exfalso; first | omega | contradiction | (clear hK6 K6; clear hK5 K5; clear hK4 K4; clear hK2 K2; clear hK1 K1; clear hK0 K0; simp at *; done))
      | (
       refine RL.guard_no rfl rfl rfl ?_
       refine RL.guard_no rfl rfl rfl ?_
       refine RL.guard_no rfl rfl rfl ?_
       refine RL.p T ?_
       refine RL.nil _ _ _ _ ?_
       refine hK6 _ _ _ ?_
       refine SW.cond_t rfl ?_
       refine SW.seq_k fun K7 hK7 => ?_
       refine SW.region _ _ _ _ ?_
       refine RL.p T ?_
       refine RL.nil _ _ _ _ ?_
       refine hK7 _ _ _ ?_
       refine SW.ret ?_
       refine retQ.rr (H) ?_
       clear hK7 K7 hK6 K6 hK5 K5 hK4 K4 hK2 K2 hK1 K1 hK0 K0
       exact ⟨rfl, rfl⟩
       )
    ·skip
     first
      | (exfalso; first | omega | contradiction | (clear hK6 K6; clear hK5 K5; clear hK4 K4; clear hK2 K2; clear hK1 K1; clear hK0 K0; simp at *; done))
      | (
       refine RL.p T ?_
       refine RL.p T ?_
       refine RL.p T ?_
       refine RL.p T ?_
       refine RL.nil _ _ _ _ ?_
       refine hK6 _ _ _ ?_
       refine SW.cs (fun hc1 => ?_) (fun hc1 => ?_)
       ·skip
        first
         | (exfalso; first | omega | contradiction | (clear hK6 K6; clear hK5 K5; clear hK4 K4; clear hK2 K2; clear hK1 K1; clear hK0 K0; simp at *; done))
         | (
          refine SW.seq_k fun K8 hK8 => ?_
          refine SW.region _ _ _ _ ?_
          refine RL.p T ?_
          refine RL.nil _ _ _ _ ?_
          refine hK8 _ _ _ ?_
          refine SW.ret ?_
          refine retQ.rr (H) ?_
          clear hK8 K8 hK6 K6 hK5 K5 hK4 K4 hK2 K2 hK1 K1 hK0 K0
          exact ⟨rfl, rfl⟩
          )
       ·skip
        exfalso; first | omega | contradiction | (clear hK6 K6; clear hK5 K5; clear hK4 K4; clear hK2 K2; clear hK1 K1; clear hK0 K0; simp at *; done)
       )
    )
theorem packFillsI {w0 : World} {H : List Chunk} (room : Int) (ls : List Pd) (sr : Option Addr) (nr cr : Nat) (hB : ∀ H, Rd w0 H sr nr cr 2 (ls.flatMap PdC)) (hnr : nr = ls.length) (hmr : nr ≤ 4398046511000) (hls : ∀ H, ∀ y ∈ ls, PdOk w0 H y) : SC Tryd.prog w0 3 #[.int .i64 room, .slice sr nr cr] H (fun v H' => v = .bool true ∧ H' = H) := by
  by_cases h : room < 8 ∨ 2048 < room
  · exact packFills_bad room h ls sr nr cr hB hnr hmr hls
  · obtain ⟨q, rfl⟩ := Int.eq_ofNat_of_zero_le (by omega : 0 ≤ room)
    exact packFills q (by omega) ls sr nr cr hB hnr hmr hls
end Go.Proofs.YtlgdfoniijmlbaaDoor.M
