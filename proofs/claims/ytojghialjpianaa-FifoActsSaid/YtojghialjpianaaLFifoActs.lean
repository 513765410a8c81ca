import Derived.Test.YtojghialjpianaaProg
import Derived.Test.YtojghialjpianaaFI16
set_option linter.unusedVariables false
set_option linter.unusedSimpArgs false
namespace Go.Proofs.Ytojghialjpianaa.M
open Go Go.Sep Go.Proofs
set_option maxRecDepth 10000
set_option maxHeartbeats 2000000
theorem fifoActs {w0 : World} {H : List Chunk} (room : Nat) (hr : room ≤ 64) (ls : List As) (sr : Option Addr) (nr cr : Nat) (hB : ∀ H, Rd w0 H sr nr cr 12 (ls.flatMap AcC)) (hnr : nr = ls.length) (hmr : nr ≤ 4398046511000) (hls : ∀ H, ∀ y ∈ ls, FsOk w0 H y.x) : SC Try.prog w0 6 #[.int .i64 (room : Nat), .slice sr nr cr] H (fun v H' => v = .bool true ∧ H' = H) := by
 refine SC.enter Try.func6 rfl (Nat.le_of_ble_eq_true rfl) ?_
 refine SW.seq_k fun K0 hK0 => ?_
 refine SW.region _ _ _ _ ?_
 refine RL.p T ?_
 refine RL.nil _ _ _ _ ?_
 refine hK0 _ _ _ ?_
 refine SW.seq_k fun K1 hK1 => ?_
 refine SW.seq_k fun K2 hK2 => ?_
 refine SW.region _ _ _ _ ?_
 refine RL.c fun9 (fun hs => alive) ?_
 rintro _ _ ⟨rfl, e⟩; obtain rfl := e.symm
 refine RL.p T ?_
 refine RL.nil _ _ _ _ ?_
 refine hK2 _ _ _ ?_
 refine SW.cs (fun hc0 => ?_) (fun hc0 => ?_)
 ·skip
  first
   | (exfalso; first | omega | contradiction | (simp at *; done))
   | (
    refine SW.seq_k fun K3 hK3 => ?_
    refine SW.region _ _ _ _ ?_
    refine RL.p T ?_
    refine RL.nil _ _ _ _ ?_
    refine hK3 _ _ _ ?_
    refine SW.ret ?_
    refine retQ.rr (H) ?_
    clear hK3 K3 hK2 K2 hK1 K1 hK0 K0
    first
      | exact ⟨rfl, rfl⟩
    )
 ·skip
  first
   | (exfalso; first | omega | contradiction | (simp at *; done))
   | (
    refine SW.skip ?_
    refine hK1 _ _ _ ?_
    refine SW.seq_k fun K4 hK4 => ?_
    refine SW.seq_k fun K5 hK5 => ?_
    refine SW.region _ _ _ _ ?_
    refine RL.p T ?_
    refine RL.c fun19 (fun hs => great ls sr nr cr hB hnr hmr) ?_
    rintro _ _ ⟨gt, rfl, hgt, e⟩; obtain rfl := e.symm
    refine RL.nil _ _ _ _ ?_
    refine hK5 _ _ _ ?_
    refine SW.cs (fun hc1 => ?_) (fun hc1 => ?_)
    ·skip
     first
      | (exfalso; first | omega | contradiction | (simp at *; done))
      | (
       refine SW.seq_k fun K6 hK6 => ?_
       refine SW.region _ _ _ _ ?_
       refine RL.p T ?_
       refine RL.nil _ _ _ _ ?_
       refine hK6 _ _ _ ?_
       refine SW.ret ?_
       refine retQ.rr (H) ?_
       clear hK6 K6 hK5 K5 hK4 K4 hK2 K2 hK1 K1 hK0 K0
       first
         | exact ⟨rfl, rfl⟩
       )
    ·skip
     first
      | (exfalso; first | omega | contradiction | (simp at *; done))
      | (
       refine SW.skip ?_
       refine hK4 _ _ _ ?_
       refine SW.seq_k fun K7 hK7 => ?_
       refine SW.region _ _ _ _ ?_
       refine RL.p T ?_
       refine RL.c fun10 (fun hs => fnew room hr) ?_
       rintro _ _ ⟨bq, rfl, e⟩; obtain rfl := e.symm
       refine RL.p T ?_
       refine RL.p T ?_
       refine RL.p T ?_
       refine RL.p T ?_
       refine RL.p T ?_
       refine RL.nil _ _ _ _ ?_
       refine hK7 _ _ _ ?_
       refine SW.seq_k fun K8 hK8 => ?_
       refine SW.seq_k fun K9 hK9 => ?_
       refine SW.region _ _ _ _ ?_
       refine RL.p T ?_
       refine RL.p T ?_
       refine RL.p T ?_
       refine RL.sp 29 (fun hs0 => ?_) (fun hs0 => ?_)
       ·skip
        first
         | (exfalso; first | omega | contradiction | (simp at *; done))
         | (
          refine RL.guard_no rfl rfl rfl ?_
          refine RL.guard_no rfl rfl rfl ?_
          refine RL.p T ?_
          refine RL.nil _ _ _ _ ?_
          refine hK9 _ _ _ ?_
          refine SW.cond_t rfl ?_
          refine SW.seq_k fun K10 hK10 => ?_
          refine SW.region _ _ _ _ ?_
          refine RL.p T ?_
          refine RL.p T ?_
          refine RL.p T ?_
          refine RL.sp 35 (fun hs1 => ?_) (fun hs1 => ?_)
          ·skip
           first
            | (exfalso; first | omega | contradiction | (simp at *; done))
            | (
             refine RL.p T ?_
             refine RL.p T ?_
             refine RL.p T ?_
             refine RL.p T ?_
             refine RL.nil _ _ _ _ ?_
             refine hK10 _ _ _ ?_
             refine SW.ret ?_
             refine retQ.rr (H) ?_
             clear hK10 K10 hK9 K9 hK8 K8 hK7 K7 hK5 K5 hK4 K4 hK2 K2 hK1 K1 hK0 K0
             first
               | exact ⟨rfl, rfl⟩
             )
          ·skip
           first
            | (exfalso; first | omega | contradiction | (simp at *; done))
            | (
             refine RL.guard_no rfl rfl rfl ?_
             refine RL.guard_no rfl rfl rfl ?_
             refine RL.p T ?_
             refine RL.p T ?_
             refine RL.nil _ _ _ _ ?_
             refine hK10 _ _ _ ?_
             refine SW.ret ?_
             refine retQ.rr (H) ?_
             clear hK10 K10 hK9 K9 hK8 K8 hK7 K7 hK5 K5 hK4 K4 hK2 K2 hK1 K1 hK0 K0
             first
               | exact ⟨rfl, rfl⟩
             )
          )
       ·skip
        first
         | (exfalso; first | omega | contradiction | (simp at *; done))
         | (
          refine RL.p T ?_
          refine RL.p T ?_
          refine RL.p T ?_
          refine RL.nil _ _ _ _ ?_
          refine hK9 _ _ _ ?_
          refine SW.cs (fun hc2 => ?_) (fun hc2 => ?_)
          ·skip
           first
            | (exfalso; first | omega | contradiction | (simp at *; done))
            | (
             refine SW.seq_k fun K11 hK11 => ?_
             refine SW.region _ _ _ _ ?_
             refine RL.p T ?_
             refine RL.p T ?_
             refine RL.p T ?_
             refine RL.sp 35 (fun hs2 => ?_) (fun hs2 => ?_)
             ·skip
              first
               | (exfalso; first | omega | contradiction | (simp at *; done))
               | (
                refine RL.p T ?_
                refine RL.p T ?_
                refine RL.p T ?_
                refine RL.p T ?_
                refine RL.nil _ _ _ _ ?_
                refine hK11 _ _ _ ?_
                refine SW.ret ?_
                refine retQ.rr (H) ?_
                clear hK11 K11 hK9 K9 hK8 K8 hK7 K7 hK5 K5 hK4 K4 hK2 K2 hK1 K1 hK0 K0
                first
                  | exact ⟨rfl, rfl⟩
                )
             ·skip
              first
               | (exfalso; first | omega | contradiction | (simp at *; done))
               | (
                refine RL.guard_no rfl rfl rfl ?_
                refine RL.guard_no rfl rfl rfl ?_
                refine RL.p T ?_
                refine RL.p T ?_
                refine RL.nil _ _ _ _ ?_
                refine hK11 _ _ _ ?_
                refine SW.ret ?_
                refine retQ.rr (H) ?_
                clear hK11 K11 hK9 K9 hK8 K8 hK7 K7 hK5 K5 hK4 K4 hK2 K2 hK1 K1 hK0 K0
                first
                  | exact ⟨rfl, rfl⟩
                )
             )
          ·skip
           first
            | (exfalso; first | omega | contradiction | (simp at *; done))
            | (
             refine SW.skip ?_
             refine hK8 _ _ _ ?_
             refine SW.seq_k fun K12 hK12 => ?_
             refine SW.seq_k fun K13 hK13 => ?_
             refine SW.region _ _ _ _ ?_
             refine RL.p T ?_
             refine RL.p T ?_
             refine RL.p T ?_
             refine RL.sp 41 (fun hs3 => ?_) (fun hs3 => ?_)
             ·skip
              first
               | (exfalso; first | omega | contradiction | (simp at *; done))
               | (
                refine RL.guard_no rfl rfl rfl ?_
                refine RL.guard_no rfl rfl rfl ?_
                refine RL.p T ?_
                refine RL.nil _ _ _ _ ?_
                refine hK13 _ _ _ ?_
                refine SW.cond_t rfl ?_
                refine SW.seq_k fun K14 hK14 => ?_
                refine SW.region _ _ _ _ ?_
                refine RL.p T ?_
                refine RL.nil _ _ _ _ ?_
                refine hK14 _ _ _ ?_
                refine SW.ret ?_
                refine retQ.rr (H) ?_
                clear hK14 K14 hK13 K13 hK12 K12 hK9 K9 hK8 K8 hK7 K7 hK5 K5 hK4 K4 hK2 K2 hK1 K1 hK0 K0
                first
                  | exact ⟨rfl, rfl⟩
                )
             ·skip
              first
               | (exfalso; first | omega | contradiction | (simp at *; done))
               | (
                refine RL.p T ?_
                refine RL.p T ?_
                refine RL.p T ?_
                refine RL.nil _ _ _ _ ?_
                refine hK13 _ _ _ ?_
                refine SW.cs (fun hc3 => ?_) (fun hc3 => ?_)
                ·skip
                 first
                  | (exfalso; first | omega | contradiction | (simp at *; done))
                  | (
                   refine SW.seq_k fun K15 hK15 => ?_
                   refine SW.region _ _ _ _ ?_
                   refine RL.p T ?_
                   refine RL.nil _ _ _ _ ?_
                   refine hK15 _ _ _ ?_
                   refine SW.ret ?_
                   refine retQ.rr (H) ?_
                   clear hK15 K15 hK13 K13 hK12 K12 hK9 K9 hK8 K8 hK7 K7 hK5 K5 hK4 K4 hK2 K2 hK1 K1 hK0 K0
                   first
                     | exact ⟨rfl, rfl⟩
                   )
                ·skip
                 first
                  | (exfalso; first | omega | contradiction | (simp at *; done))
                  | (
                   refine SW.skip ?_
                   refine hK12 _ _ _ ?_
                   refine SW.seq_k fun K16 hK16 => ?_
                   refine SW.region _ _ _ _ ?_
                   refine RL.p T ?_
                   refine RL.s ?_
                   first | refine NV.buildc T rfl (rfl : _ = some [_, _, _]) ?_ | refine NV.buildz T rfl (rfl : _ = some [_, _, _]) ?_ | refine NV.pure T (rfl : _ = some (Value.agg #[_, _, _])) ?_
                   refine RL.s ?_
                   refine NV.box rfl (by exact (rfl : _ = [_, _, _])) ?_
                   intro b47_0
                   refine RL.p T ?_
                   refine RL.nil _ _ _ _ ?_
                   refine hK16 _ _ _ ?_
                   refine SW.seq_k fun K17 hK17 => ?_
                   refine SW.seq_k fun K18 hK18 => ?_
                   refine SW.perm (.swap _ _ _) ?_
                   have h300 : nr ≤ 300 := by first | exact hgt (by assumption) | (apply hgt; simp_all; done)
                   refine SW.region _ _ _ _ ?_
                   refine RL.p T ?_
                   refine RL.p T ?_
                   refine RL.p T ?_
                   refine RL.nil _ _ _ _ ?_
                   refine hK18 _ _ _ ?_
                   refine SW.block ?_
                   refine SW.loopM (fun frB mm fr ds HH => ∃ (k : Nat) (R : Nat → Fs) (F q over : Nat) (G : List Chunk) (L M : List Fs) (bM : Nat) (aM : Option Addr) (cM : Nat), mm = nr - k ∧ (k ≤ nr ∧ RingIs R F L ∧ q = L.length ∧ q = M.length ∧ (∀ x ∈ L, FsOk w0 G x) ∧ (∀ x ∈ M, FsOk w0 G x) ∧ Rd w0 G aM q cM 11 (M.flatMap FsC) ∧ frs M = frs L ∧ over ≤ k) ∧ FrIs [4, 7, 9, 10, 11, 12, 13, 14, 15, 16, 17, 50, 51, 52, 53, 54, 55, 56, 57, 58, 59, 60, 61, 62, 63, 64, 65, 66, 67, 68, 69, 70, 71, 72, 73, 74, 75, 76, 77, 78, 79, 80, 81, 82, 83, 84, 85, 86, 87, 88, 89, 90, 91, 92, 93, 94, 95, 96, 97, 98, 99, 100, 101, 102, 103, 104, 105, 106, 107, 108, 109, 110, 111, 112, 113, 114, 115, 116, 117, 118, 119, 120, 121, 122, 123, 124, 125, 126, 127, 128, 129, 130, 131, 132, 133, 134, 135, 136, 137, 138, 139] frB fr [(7, .pointer (some ⟨bM, 0, none⟩)), (50, .int .i64 k)] ∧ ds = [] ∧ HH = (.var bq 57 (FifoC R room ((F : Nat) : Int) ((q : Nat) : Int) ((over : Nat) : Int)) :: .var bM 48 [.int .i64 room, .int .i64 ((over : Nat) : Int), .slice aM q cM] :: (G ++ H))) (n := nr - 0) ?_ ?_
                   ·exact ⟨0, _, 0, 0, 0, [], [], [], b47_0, none, 0, rfl, ⟨Nat.zero_le _, RingIs.nil _, rfl, rfl, (fun _ h => by cases h), (fun _ h => by cases h), Rd.nilF, rfl, Nat.le_refl _⟩, (.cons rfl (.consI rfl (by first | omega | rfl) (.nil (by repeat first | exact Mx.refl | exact Mx.mix | refine Mx.put rfl ?_ | refine Mx.upd rfl ?_ | refine Mx.updl rfl ?_ | refine Mx.fin rfl ?_ | refine Mx.inner rfl ?_ | refine Mx.none ?_)))), rfl, rfl⟩
                   ·rintro mm fr ds HH ⟨k, R, F, q, over, G, L, M, bM, aM, cM, rfl, ⟨hk, hL, hq, hqM, hLo, hMo, hRd, hfr, hov⟩, hFr, rfl, eHH⟩
                    obtain rfl := eHH.symm
                    obtain ⟨frU, rfl⟩ := hFr.eq
                    clear hFr
                    have hx : ∀ {H : List Chunk}, FsOk w0 H (ls.getD k default).x := fun {H} => getD_mem2 (hls H) k
                    have hx0 := @hx []
                    have hl64 := hL.len
                    refine SW.seq_k fun K19 hK19 => ?_
                    refine SW.region _ _ _ _ ?_
                    refine RL.p T ?_
                    refine RL.nil _ _ _ _ ?_
                    refine hK19 _ _ _ ?_
                    refine SW.seq_k fun K20 hK20 => ?_
                    refine SW.cs (fun hc4 => ?_) (fun hc4 => ?_)
                    ·skip
                     first
                      | (exfalso; first | omega | contradiction | (simp at *; done))
                      | (
                       refine SW.skip ?_
                       refine hK20 _ _ _ ?_
                       refine SW.seq_k fun K21 hK21 => ?_
                       refine SW.block ?_
                       refine SW.seq_k fun K22 hK22 => ?_
                       refine SW.region _ _ _ _ ?_
                       refine RL.ix T ?_ (hR := fun hs => (by first | exact hB _ | exact Rd.row0))
                       refine RL.leN T ?_ (hR := fun hs => (by first | exact hB _ | exact Rd.row0)) (hvs := (by exact (rfl : _ = [_, _, _, _, _, _, _, _, _, _, _, _])))
                       refine RL.s ?_
                       refine NV.alloc T rfl rfl rfl (by exact (rfl : _ = [_, _, _, _, _, _, _, _, _, _, _, _])) ?_
                       intro b9_1
                       refine RL.s ?_
                       refine NV.sN T rfl rfl rfl (by exact (rfl : _ = [_, _, _, _, _, _, _, _, _, _, _, _])) (by exact (rfl : _ = [_, _, _, _, _, _, _, _, _, _, _, _])) ?_
                       refine RL.nil _ _ _ _ ?_
                       refine hK22 _ _ _ ?_
                       refine SW.seq_k fun K23 hK23 => ?_
                       refine SW.seq_k fun K24 hK24 => ?_
                       refine SW.region _ _ _ _ ?_
                       refine RL.p T ?_
                       refine RL.lv1 T ?_
                       refine RL.nil _ _ _ _ ?_
                       refine hK24 _ _ _ ?_
                       refine SW.block ?_
                       refine SW.seq_k fun K25 hK25 => ?_
                       refine SW.region _ _ _ _ ?_
                       refine RL.p T ?_
                       refine RL.p T ?_
                       refine RL.nil _ _ _ _ ?_
                       refine hK25 _ _ _ ?_
                       refine SW.cs (fun hc5 => ?_) (fun hc5 => ?_)
                       ·skip
                        first
                         | (exfalso; first | omega | contradiction | (simp at *; done))
                         | (
                          refine SW.seq_k fun K26 hK26 => ?_
                          refine SW.region _ _ _ _ ?_
                          refine RL.p T ?_
                          refine RL.c fun15 (fun hs => popV bq R room F q over _ (by repeat first | exact At.head _ _ | assumption | apply At.tail | apply At.app) L hL hq) ?_
                          rintro _ _ ⟨R1, F1, n1, L1, rfl, e, hL1, hn1, hLt⟩; obtain rfl := e.symm
                          refine RL.p T ?_
                          refine RL.p T ?_
                          refine RL.p T ?_
                          refine RL.s ?_
                          refine NV.alloc T rfl rfl rfl (by exact (rfl : _ = [_, _, _, _, _, _, _, _, _, _, _])) ?_
                          intro b10_2
                          refine RL.s ?_
                          refine NV.sN T rfl rfl rfl (by exact (rfl : _ = [_, _, _, _, _, _, _, _, _, _, _])) (by exact (rfl : _ = [_, _, _, _, _, _, _, _, _, _, _])) ?_
                          refine RL.p T ?_
                          refine RL.nil _ _ _ _ ?_
                          refine hK26 _ _ _ ?_
                          refine SW.seq_k fun K27 hK27 => ?_
                          refine SW.region _ _ _ _ ?_
                          refine RL.p T ?_
                          refine RL.c fun20 (fun hs => rpopV bM room over aM q cM _ (by repeat first | exact At.head _ _ | assumption | apply At.tail | apply At.app) M (by repeat first | exact hRd.appr | apply Rd.cons) hqM (by omega)) ?_
                          rintro _ _ ⟨aM1, nM1, cM1, M1, rfl, e, hnM1, hMt, hRf⟩; obtain rfl := e.symm
                          obtain rfl : n1 = nM1 := by rw [hnM1, hn1, hMt, hLt, List.length_tail, List.length_tail]; omega
                          refine RL.p T ?_
                          refine RL.p T ?_
                          refine RL.p T ?_
                          refine RL.s ?_
                          refine NV.alloc T rfl rfl rfl (by exact (rfl : _ = [_, _, _, _, _, _, _, _, _, _, _])) ?_
                          intro b12_3
                          refine RL.s ?_
                          refine NV.sN T rfl rfl rfl (by exact (rfl : _ = [_, _, _, _, _, _, _, _, _, _, _])) (by exact (rfl : _ = [_, _, _, _, _, _, _, _, _, _, _])) ?_
                          refine RL.p T ?_
                          refine RL.nil _ _ _ _ ?_
                          refine hK27 _ _ _ ?_
                          refine SW.seq_k fun K28 hK28 => ?_
                          have hy0 : FsOk w0 G (L.getD 0 default) := getD_mem FsOk.dflt hLo 0
                          have hz0 : FsOk w0 G (M.getD 0 default) := getD_mem FsOk.dflt hMo 0
                          have hLo1 : ∀ x ∈ L1, FsOk w0 G x := fun x hx => hLo x (by rw [hLt] at hx; exact List.mem_of_mem_tail hx)
                          have hMo1 : ∀ x ∈ M1, FsOk w0 G x := fun x hx => hMo x (by rw [hMt] at hx; exact List.mem_of_mem_tail hx)
                          have hRd1 := hRf G hRd
                          have hfr1 : frs M1 = frs L1 := by rw [hMt, hLt, frs_tail, frs_tail, hfr]
                          obtain ⟨o1, ho1⟩ : ∃ o1, o1 = over := ⟨_, rfl⟩
                          have hov1 : o1 ≤ k + 1 := by omega
                          rw [← ho1]
                          refine SW.region _ _ _ _ ?_
                          refine RL.q (QV.vN T rfl rfl rfl rfl rfl (by exact (rfl : _ = [_, _, _, _, _, _, _, _, _, _, _]))) ?_
                          refine RL.q (QV.vN T rfl rfl rfl rfl rfl (by exact (rfl : _ = [_, _, _, _, _, _, _, _, _, _, _]))) ?_
                          refine RL.c fun21 (fun hs => rfsameT _ _ _ _ (by repeat first | exact hy0.rd.appr | apply Rd.cons) hy0.len hy0.max hy0.ok _ _ _ _ (by repeat first | exact hz0.rd.appr | apply Rd.cons) hz0.len hz0.max hz0.ok (frs_same hfr 0)) ?_
                          rintro _ _ ⟨rfl, e⟩; obtain rfl := e.symm
                          refine RL.p T ?_
                          refine RL.p T ?_
                          refine RL.sp 94 (fun hs4 => ?_) (fun hs4 => ?_)
                          ·skip
                           first
                            | (exfalso; first | omega | contradiction | (simp at *; done))
                            | (
                             refine RL.guard_no rfl rfl rfl ?_
                             refine RL.guard_no rfl rfl rfl ?_
                             refine RL.guard_no rfl rfl rfl ?_
                             refine RL.p T ?_
                             refine RL.nil _ _ _ _ ?_
                             refine hK28 _ _ _ ?_
                             refine SW.cond_t rfl ?_
                             refine SW.seq_k fun K29 hK29 => ?_
                             refine SW.region _ _ _ _ ?_
                             refine RL.p T ?_
                             refine RL.nil _ _ _ _ ?_
                             refine hK29 _ _ _ ?_
                             refine SW.ret ?_
                             refine retQ.rr (H) ?_
                             clear hK29 K29 hK28 K28 hK27 K27 hK26 K26 hK25 K25 hK24 K24 hK23 K23 hK22 K22 hK21 K21 hK20 K20 hK19 K19 hK18 K18 hK17 K17 hK16 K16 hK13 K13 hK12 K12 hK9 K9 hK8 K8 hK7 K7 hK5 K5 hK4 K4 hK2 K2 hK1 K1 hK0 K0
                             first
                               | exact ⟨rfl, rfl⟩
                             )
                          ·skip
                           first
                            | (exfalso; first | omega | contradiction | (simp at *; done))
                            | (
                             refine RL.p T ?_
                             refine RL.p T ?_
                             refine RL.p T ?_
                             refine RL.p T ?_
                             refine RL.nil _ _ _ _ ?_
                             refine hK28 _ _ _ ?_
                             refine SW.cs (fun hc6 => ?_) (fun hc6 => ?_)
                             ·skip
                              first
                               | (exfalso; first | omega | contradiction | (simp at *; done))
                               | (
                                refine SW.seq_k fun K30 hK30 => ?_
                                refine SW.region _ _ _ _ ?_
                                refine RL.p T ?_
                                refine RL.nil _ _ _ _ ?_
                                refine hK30 _ _ _ ?_
                                refine SW.ret ?_
                                refine retQ.rr (H) ?_
                                clear hK30 K30 hK28 K28 hK27 K27 hK26 K26 hK25 K25 hK24 K24 hK23 K23 hK22 K22 hK21 K21 hK20 K20 hK19 K19 hK18 K18 hK17 K17 hK16 K16 hK13 K13 hK12 K12 hK9 K9 hK8 K8 hK7 K7 hK5 K5 hK4 K4 hK2 K2 hK1 K1 hK0 K0
                                first
                                  | exact ⟨rfl, rfl⟩
                                )
                             ·skip
                              first
                               | (exfalso; first | omega | contradiction | (simp at *; done))
                               | (
                                refine SW.skip ?_
                                refine hK23 _ _ _ ?_
                                refine SW.seq_k fun K31 hK31 => ?_
                                first
                                  | refine SW.weaken (fun _ h => h.tail.tail.tail) ?_
                                  | refine SW.weaken (fun _ h => satmv2 h) ?_
                                  | refine SW.weaken (fun _ h => satC2 hn0 ho1 h) ?_
                                refine SW.draw [(112, 0), (113, 1), (114, 2), (115, 3), (116, 4), (117, 5), (118, 6), (119, 7), (120, 8), (121, 9), (122, 10), (123, 11), (124, 12), (125, 13), (126, 14), (127, 15), (128, 16), (129, 17), (130, 18), (131, 19), (132, 20), (133, 21), (134, 22), (135, 23), (136, 24), (137, 25), (138, 26)] [[], [0], [], [2], [3, 2], [4, 3, 2], [5, 4, 3, 2], [1, 0, 6, 5, 4, 3, 2], [7, 1, 0, 6, 5, 4, 3, 2], [8, 7, 1, 0, 6, 5, 4, 3, 2], [9, 8, 7, 1, 0, 6, 5, 4, 3, 2], [8, 7, 1, 0, 6, 5, 4, 3, 2], [11, 8, 7, 1, 0, 6, 5, 4, 3, 2], [12, 11, 8, 7, 1, 0, 6, 5, 4, 3, 2], [13, 12, 11, 8, 7, 1, 0, 6, 5, 4, 3, 2], [10, 9, 8, 7, 1, 0, 6, 5, 4, 3, 2, 14, 13, 12, 11], [8, 7, 1, 0, 6, 5, 4, 3, 2, 15, 10, 9, 14, 13, 12, 11], [16, 8, 7, 1, 0, 6, 5, 4, 3, 2, 15, 10, 9, 14, 13, 12, 11], [17, 16, 8, 7, 1, 0, 6, 5, 4, 3, 2, 15, 10, 9, 14, 13, 12, 11], [18, 17, 16, 8, 7, 1, 0, 6, 5, 4, 3, 2, 15, 10, 9, 14, 13, 12, 11], [17, 16, 8, 7, 1, 0, 6, 5, 4, 3, 2, 15, 10, 9, 14, 13, 12, 11], [20, 17, 16, 8, 7, 1, 0, 6, 5, 4, 3, 2, 15, 10, 9, 14, 13, 12, 11], [21, 20, 17, 16, 8, 7, 1, 0, 6, 5, 4, 3, 2, 15, 10, 9, 14, 13, 12, 11], [22, 21, 20, 17, 16, 8, 7, 1, 0, 6, 5, 4, 3, 2, 15, 10, 9, 14, 13, 12, 11], [19, 18, 17, 16, 8, 7, 1, 0, 6, 5, 4, 3, 2, 15, 10, 9, 14, 13, 12, 11, 23, 22, 21, 20], [24, 19, 18, 17, 16, 8, 7, 1, 0, 6, 5, 4, 3, 2, 15, 10, 9, 14, 13, 12, 11, 23, 22, 21, 20], [17, 16, 8, 7, 1, 0, 6, 5, 4, 3, 2, 15, 10, 9, 14, 13, 12, 11, 25, 24, 19, 18, 23, 22, 21, 20]] mixed (by kernel_rfl) (by kernel_rfl) ?_
                                refine RD.p T ?_
                                refine RD.p T ?_
                                refine RD.p T ?_
                                refine RD.p T ?_
                                refine RD.q rfl rfl (Gd.none rfl) (QV.v1 T) ?_
                                refine RD.p T ?_
                                refine RD.nv rfl rfl rfl (Gd.none rfl) ?_
                                refine NV.call rfl rfl rfl fun13 rfl rfl (flen bq R1 room _ n1 o1 _ (by repeat first | exact At.head _ _ | assumption | apply At.tail | apply At.app)) ?_
                                rintro _ _ ⟨rfl, e⟩; obtain rfl := e.symm
                                refine ⟨(Stab.cons rfl (Gd.none rfl) (pev_sound T rfl) (Stab.cons rfl (Gd.none rfl) (QV.v1 T) (Stab.cons rfl (Gd.none rfl) (pev_sound T rfl) (Stab.cons rfl (Gd.none rfl) (pev_sound T rfl) (Stab.cons rfl (Gd.none rfl) (pev_sound T rfl) Stab.nil))))), ?_⟩
                                refine RD.p T ?_
                                refine RD.p T ?_
                                refine RD.split 8 rfl (fun hs5 => ?_) (fun hs5 => ?_)
                                ·try simp only [decide_eq_true_eq, decide_eq_false_iff_not, Bool.not_eq_true', Bool.not_eq_false', Int.not_lt, Int.not_le, Int.toNat_natCast] at hs5
                                 first
                                  | (exfalso; first | omega | contradiction | (simp at *; done))
                                  | (
                                   refine RD.skip rfl rfl rfl rfl ?_
                                   refine RD.skip rfl rfl rfl rfl ?_
                                   refine RD.skip rfl rfl rfl rfl ?_
                                   refine RD.skip rfl rfl rfl rfl ?_
                                   refine RD.skip rfl rfl rfl rfl ?_
                                   refine RD.skipN rfl rfl rfl rfl rfl (Stab.skip rfl rfl rfl rfl (Stab.skip rfl rfl rfl rfl (Stab.skip rfl rfl rfl rfl (Stab.skip rfl rfl rfl rfl Stab.nil)))) ?_
                                   refine RD.skip rfl rfl rfl rfl ?_
                                   refine RD.p T ?_
                                   refine RD.p T ?_
                                   refine RD.skip rfl rfl rfl rfl ?_
                                   refine RD.skip rfl rfl rfl rfl ?_
                                   refine RD.skip rfl rfl rfl rfl ?_
                                   refine RD.skip rfl rfl rfl rfl ?_
                                   refine RD.skip rfl rfl rfl rfl ?_
                                   refine RD.skipN rfl rfl rfl rfl rfl (Stab.skip rfl rfl rfl rfl (Stab.skip rfl rfl rfl rfl (Stab.skip rfl rfl rfl rfl (Stab.skip rfl rfl rfl rfl Stab.nil)))) ?_
                                   refine RD.skipN rfl rfl rfl rfl rfl Stab.nil ?_
                                   refine RD.skip rfl rfl rfl rfl ?_
                                   refine RD.p T ?_
                                   refine RD.k rfl rfl ?_
                                   refine hK31 _ _ _ ?_
                                   refine SW.cond_t rfl ?_
                                   refine SW.seq_k fun K32 hK32 => ?_
                                   refine SW.region _ _ _ _ ?_
                                   refine RL.p T ?_
                                   refine RL.nil _ _ _ _ ?_
                                   refine hK32 _ _ _ ?_
                                   refine SW.ret ?_
                                   refine retQ.rr (H) ?_
                                   clear hK32 K32 hK31 K31 hK28 K28 hK27 K27 hK26 K26 hK25 K25 hK24 K24 hK23 K23 hK22 K22 hK21 K21 hK20 K20 hK19 K19 hK18 K18 hK17 K17 hK16 K16 hK13 K13 hK12 K12 hK9 K9 hK8 K8 hK7 K7 hK5 K5 hK4 K4 hK2 K2 hK1 K1 hK0 K0
                                   first
                                     | exact ⟨rfl, rfl⟩
                                   )
                                ·try simp only [decide_eq_true_eq, decide_eq_false_iff_not, Bool.not_eq_true', Bool.not_eq_false', Int.not_lt, Int.not_le, Int.toNat_natCast] at hs5
                                 first
                                  | (exfalso; first | omega | contradiction | (simp at *; done))
                                  | (
                                   refine RD.p T ?_
                                   refine RD.p T ?_
                                   refine RD.p T ?_
                                   refine RD.p T ?_
                                   refine RD.q rfl rfl (Gd.yes rfl rfl) (QV.v1 T) ?_
                                   refine RD.nv rfl rfl rfl (Gd.yes rfl rfl) ?_
                                   refine NV.call rfl rfl rfl fun14 rfl rfl (fover bq R1 room _ n1 o1 _ (by repeat first | exact At.head _ _ | assumption | apply At.tail | apply At.app)) ?_
                                   rintro _ _ ⟨rfl, e⟩; obtain rfl := e.symm
                                   refine ⟨(Stab.cons rfl (Gd.yes rfl rfl) (QV.v1 T) (Stab.cons rfl (Gd.yes rfl rfl) (pev_sound T rfl) (Stab.cons rfl (Gd.yes rfl rfl) (pev_sound T rfl) (Stab.cons rfl (Gd.yes rfl rfl) (pev_sound T rfl) Stab.nil)))), ?_⟩
                                   refine RD.p T ?_
                                   refine RD.p T ?_
                                   refine RD.p T ?_
                                   refine RD.split 17 rfl (fun hs6 => ?_) (fun hs6 => ?_)
                                   ·try simp only [decide_eq_true_eq, decide_eq_false_iff_not, Bool.not_eq_true', Bool.not_eq_false', Int.not_lt, Int.not_le, Int.toNat_natCast] at hs6
                                    first
                                     | (exfalso; first | omega | contradiction | (simp at *; done))
                                     | (
                                      refine RD.skip rfl rfl rfl rfl ?_
                                      refine RD.skip rfl rfl rfl rfl ?_
                                      refine RD.skip rfl rfl rfl rfl ?_
                                      refine RD.skip rfl rfl rfl rfl ?_
                                      refine RD.skip rfl rfl rfl rfl ?_
                                      refine RD.skipN rfl rfl rfl rfl rfl (Stab.skip rfl rfl rfl rfl (Stab.skip rfl rfl rfl rfl (Stab.skip rfl rfl rfl rfl (Stab.skip rfl rfl rfl rfl Stab.nil)))) ?_
                                      refine RD.skipN rfl rfl rfl rfl rfl Stab.nil ?_
                                      refine RD.skip rfl rfl rfl rfl ?_
                                      refine RD.p T ?_
                                      refine RD.k rfl rfl ?_
                                      refine hK31 _ _ _ ?_
                                      refine SW.cond_t rfl ?_
                                      refine SW.seq_k fun K33 hK33 => ?_
                                      refine SW.region _ _ _ _ ?_
                                      refine RL.p T ?_
                                      refine RL.nil _ _ _ _ ?_
                                      refine hK33 _ _ _ ?_
                                      refine SW.ret ?_
                                      refine retQ.rr (H) ?_
                                      clear hK33 K33 hK31 K31 hK28 K28 hK27 K27 hK26 K26 hK25 K25 hK24 K24 hK23 K23 hK22 K22 hK21 K21 hK20 K20 hK19 K19 hK18 K18 hK17 K17 hK16 K16 hK13 K13 hK12 K12 hK9 K9 hK8 K8 hK7 K7 hK5 K5 hK4 K4 hK2 K2 hK1 K1 hK0 K0
                                      first
                                        | exact ⟨rfl, rfl⟩
                                      )
                                   ·try simp only [decide_eq_true_eq, decide_eq_false_iff_not, Bool.not_eq_true', Bool.not_eq_false', Int.not_lt, Int.not_le, Int.toNat_natCast] at hs6
                                    first
                                     | (exfalso; first | omega | contradiction | (simp at *; done))
                                     | (
                                      refine RD.p T ?_
                                      refine RD.p T ?_
                                      refine RD.p T ?_
                                      refine RD.p T ?_
                                      refine RD.q rfl rfl (Gd.yes rfl rfl) (QV.v1 T) ?_
                                      refine RD.nv rfl rfl rfl (Gd.yes rfl rfl) ?_
                                      refine NV.call rfl rfl rfl fun18 rfl rfl (fall bq R1 room _ n1 o1 _ (by repeat first | exact At.head _ _ | assumption | apply At.tail | apply At.app) L1 hL1 hn1 (fun y hy => (hLo1 y hy).appr.cons.cons)) ?_
                                      rintro _ _ ⟨a4, c4, al4, rfl, hal4, haf4, han4, e⟩; obtain rfl := e.symm
                                      refine ⟨(Stab.cons rfl (Gd.yes rfl rfl) (QV.v1 T) (Stab.cons rfl (Gd.yes rfl rfl) (pev_sound T rfl) (Stab.cons rfl (Gd.yes rfl rfl) (pev_sound T rfl) (Stab.cons rfl (Gd.yes rfl rfl) (pev_sound T rfl) Stab.nil)))), ?_⟩
                                      refine RD.nv rfl rfl rfl (Gd.yes rfl rfl) ?_
                                      refine NV.sat (fun hs => ?_) (fun c hc => by cases hc)
                                      refine NV.call rfl rfl rfl fun17 rfl rfl (samesT al4 M1 _ _ _ _ n1 _ (Rd.rowh hs (by repeat first | exact At.head _ _ | apply At.tail | apply At.app)) (by repeat first | exact hRd1.appr | apply Rd.cons | apply Rd.app) hal4.symm hnM1 (by have := hL1.len; omega) (by have := hL1.len; omega) (fun y hy => (al_ok hLo1 haf4 han4 (satl (sat1 hs)) y hy).appr.cons) (fun y hy => (hMo1 y hy).appr.cons.cons.app.cons) (haf4.trans hfr1.symm)) ?_
                                      rintro _ _ ⟨rfl, e⟩; obtain rfl := e.symm
                                      refine ⟨Stab.nil, ?_⟩
                                      refine RD.p T ?_
                                      refine RD.p T ?_
                                      refine RD.k rfl rfl ?_
                                      refine hK31 _ _ _ ?_
                                      refine SW.cs (fun hc7 => ?_) (fun hc7 => ?_)
                                      ·skip
                                       first
                                        | (exfalso; first | omega | contradiction | (simp at *; done))
                                        | (
                                         refine SW.seq_k fun K34 hK34 => ?_
                                         refine SW.region _ _ _ _ ?_
                                         refine RL.p T ?_
                                         refine RL.nil _ _ _ _ ?_
                                         refine hK34 _ _ _ ?_
                                         refine SW.ret ?_
                                         refine retQ.rr (H) ?_
                                         clear hK34 K34 hK31 K31 hK28 K28 hK27 K27 hK26 K26 hK25 K25 hK24 K24 hK23 K23 hK22 K22 hK21 K21 hK20 K20 hK19 K19 hK18 K18 hK17 K17 hK16 K16 hK13 K13 hK12 K12 hK9 K9 hK8 K8 hK7 K7 hK5 K5 hK4 K4 hK2 K2 hK1 K1 hK0 K0
                                         first
                                           | exact ⟨rfl, rfl⟩
                                         )
                                      ·skip
                                       first
                                        | (exfalso; first | omega | contradiction | (simp at *; done))
                                        | (
                                         refine SW.skip ?_
                                         refine hK21 _ _ _ ?_
                                         refine SW.weaken (fun _ h => h.tail.app) ?_
                                         refine SW.region _ _ _ _ ?_
                                         first | refine RL.ar ?_ | refine RL.p T ?_
                                         refine RL.p T ?_
                                         refine RL.nil _ _ _ _ ?_
                                         first
                                           | exact ⟨nr - (k + 1), (by omega), k + 1, R1, F, n1, o1, G2 ++ (D1 ++ G), L1, M1, bM, aM1, cM1, (by rfl), ⟨by omega, hL1, hn1, hnM1, hLo1, hMo1, hRd1, hfr1, hov1⟩, (.cons rfl (.consI rfl (by first | omega | rfl) (.nil (by repeat first | exact Mx.refl | exact Mx.mix | refine Mx.put rfl ?_ | refine Mx.upd rfl ?_ | refine Mx.updl rfl ?_ | refine Mx.fin rfl ?_ | refine Mx.inner rfl ?_ | refine Mx.none ?_)))), rfl, rfl⟩
                                           | exact ⟨nr - (k + 1), (by omega), k + 1, R1, F1, n1, o1, G, L1, M1, bM, aM1, cM1, (by rfl), ⟨by omega, hL1, hn1, hnM1, hLo1, hMo1, hRd1, hfr1, hov1⟩, (.cons rfl (.consI rfl (by first | omega | rfl) (.nil (by repeat first | exact Mx.refl | exact Mx.mix | refine Mx.put rfl ?_ | refine Mx.upd rfl ?_ | refine Mx.updl rfl ?_ | refine Mx.fin rfl ?_ | refine Mx.inner rfl ?_ | refine Mx.none ?_)))), rfl, rfl⟩
                                           | exact ⟨nr - (k + 1), (by omega), k + 1, R1, F1, n1, o1, G, L1, M1, b111_4, none, 0, (by rfl), ⟨by omega, hL1, hn1, hnM1, hLo1, hMo1, hRd1, hfr1, hov1⟩, (.cons rfl (.consI rfl (by first | omega | rfl) (.nil (by repeat first | exact Mx.refl | exact Mx.mix | refine Mx.put rfl ?_ | refine Mx.upd rfl ?_ | refine Mx.updl rfl ?_ | refine Mx.fin rfl ?_ | refine Mx.inner rfl ?_ | refine Mx.none ?_)))), rfl, rfl⟩
                                         )
                                      )
                                   )
                                )
                             )
                          )
                       ·skip
                        first
                         | (exfalso; first | omega | contradiction | (simp at *; done))
                         | (
                          refine SW.seq_k fun K35 hK35 => ?_
                          refine SW.region _ _ _ _ ?_
                          refine RL.p T ?_
                          refine RL.p T ?_
                          refine RL.nil _ _ _ _ ?_
                          refine hK35 _ _ _ ?_
                          refine SW.cs (fun hc8 => ?_) (fun hc8 => ?_)
                          ·skip
                           first
                            | (exfalso; first | omega | contradiction | (simp at *; done))
                            | (
                             refine SW.seq_k fun K36 hK36 => ?_
                             refine SW.seq_k fun K37 hK37 => ?_
                             refine SW.draw [(101, 0), (102, 1), (103, 2), (104, 3), (105, 4), (106, 5), (107, 6), (108, 7)] [[], [0], [], [2], [3, 2], [4, 3, 2], [1, 0, 5, 4, 3, 2], [6, 1, 0, 5, 4, 3, 2]] mixed (by kernel_rfl) (by kernel_rfl) ?_
                             refine RD.p T ?_
                             refine RD.p T ?_
                             refine RD.p T ?_
                             refine RD.p T ?_
                             refine RD.q rfl rfl (Gd.none rfl) (QV.v1 T) ?_
                             refine RD.nv rfl rfl rfl (Gd.none rfl) ?_
                             refine NV.call rfl rfl rfl fun22 rfl rfl (clearV bq R room F q over _ (by repeat first | exact At.head _ _ | assumption | apply At.tail | apply At.app) L hL hq (fun y hy => (hLo y hy).appr.cons.cons.cons)) ?_
                             rintro _ _ ⟨a3, c3, al3, R1, F1, n1, o1, L1, rfl, hal3, haf3, han3, e, hL1, hn1, hLe, ho1⟩; obtain rfl := e.symm
                             refine ⟨(Stab.cons rfl (Gd.none rfl) (QV.v1 T) (Stab.cons rfl (Gd.none rfl) (pev_sound T rfl) (Stab.cons rfl (Gd.none rfl) (pev_sound T rfl) (Stab.cons rfl (Gd.none rfl) (pev_sound T rfl) Stab.nil)))), ?_⟩
                             refine RD.nv rfl rfl rfl (Gd.none rfl) ?_
                             refine NV.sat (fun hs => ?_) (fun c hc => by cases hc)
                             refine NV.call rfl rfl rfl fun17 rfl rfl (samesT al3 M _ aM _ _ q cM (Rd.rowh hs (by repeat first | exact At.head _ _ | apply At.tail | apply At.app)) (by repeat first | exact hRd.appr | apply Rd.cons | apply Rd.app) hal3.symm hqM (by omega) (by omega) (fun y hy => (al_ok hLo haf3 han3 (satl (sat1 hs)) y hy).appr.cons) (fun y hy => (hMo y hy).appr.cons.cons.cons.app.cons) (haf3.trans hfr.symm)) ?_
                             rintro _ _ ⟨rfl, e⟩; obtain rfl := e.symm
                             refine ⟨Stab.nil, ?_⟩
                             refine RD.p T ?_
                             refine RD.k rfl rfl ?_
                             refine hK37 _ _ _ ?_
                             refine SW.cs (fun hc9 => ?_) (fun hc9 => ?_)
                             ·skip
                              first
                               | (exfalso; first | omega | contradiction | (simp at *; done))
                               | (
                                refine SW.seq_k fun K38 hK38 => ?_
                                refine SW.region _ _ _ _ ?_
                                refine RL.p T ?_
                                refine RL.nil _ _ _ _ ?_
                                refine hK38 _ _ _ ?_
                                refine SW.ret ?_
                                refine retQ.rr (H) ?_
                                clear hK38 K38 hK37 K37 hK36 K36 hK35 K35 hK25 K25 hK24 K24 hK23 K23 hK22 K22 hK21 K21 hK20 K20 hK19 K19 hK18 K18 hK17 K17 hK16 K16 hK13 K13 hK12 K12 hK9 K9 hK8 K8 hK7 K7 hK5 K5 hK4 K4 hK2 K2 hK1 K1 hK0 K0
                                first
                                  | exact ⟨rfl, rfl⟩
                                )
                             ·skip
                              first
                               | (exfalso; first | omega | contradiction | (simp at *; done))
                               | (
                                refine SW.skip ?_
                                refine hK36 _ _ _ ?_
                                have hov1 : o1 ≤ k + 1 := by omega
                                have hn0 : n1 = 0 := by rw [hn1, hLe]; rfl
                                obtain ⟨M1, hM1⟩ : ∃ M1 : List Fs, M1 = [] := ⟨_, rfl⟩
                                have hnM1 : n1 = M1.length := by rw [hn0, hM1]; rfl
                                have hfr1 : frs M1 = frs L1 := by rw [hM1, hLe]
                                have hLo1 : ∀ x ∈ L1, FsOk w0 G x := fun x hx => by rw [hLe] at hx; cases hx
                                have hMo1 : ∀ x ∈ M1, FsOk w0 G x := fun x hx => by rw [hM1] at hx; cases hx
                                have hRd1 : Rd w0 G none n1 0 11 (M1.flatMap FsC) := by rw [hM1, hn0]; exact Rd.nilF
                                refine SW.region _ _ _ _ ?_
                                refine RL.p T ?_
                                refine RL.s ?_
                                first | refine NV.buildc T rfl (rfl : _ = some [_, _, _]) ?_ | refine NV.buildz T rfl (rfl : _ = some [_, _, _]) ?_ | refine NV.pure T (rfl : _ = some (Value.agg #[_, _, _])) ?_
                                refine RL.s ?_
                                refine NV.box rfl (by exact (rfl : _ = [_, _, _])) ?_
                                intro b111_4
                                refine RL.p T ?_
                                refine RL.nil _ _ _ _ ?_
                                refine hK23 _ _ _ ?_
                                refine SW.seq_k fun K39 hK39 => ?_
                                first
                                  | refine SW.weaken (fun _ h => h.tail.tail.tail) ?_
                                  | refine SW.weaken (fun _ h => satmv2 h) ?_
                                  | refine SW.weaken (fun _ h => satC2 hn0 ho1 h) ?_
                                refine SW.draw [(112, 0), (113, 1), (114, 2), (115, 3), (116, 4), (117, 5), (118, 6), (119, 7), (120, 8), (121, 9), (122, 10), (123, 11), (124, 12), (125, 13), (126, 14), (127, 15), (128, 16), (129, 17), (130, 18), (131, 19), (132, 20), (133, 21), (134, 22), (135, 23), (136, 24), (137, 25), (138, 26)] [[], [0], [], [2], [3, 2], [4, 3, 2], [5, 4, 3, 2], [1, 0, 6, 5, 4, 3, 2], [7, 1, 0, 6, 5, 4, 3, 2], [8, 7, 1, 0, 6, 5, 4, 3, 2], [9, 8, 7, 1, 0, 6, 5, 4, 3, 2], [8, 7, 1, 0, 6, 5, 4, 3, 2], [11, 8, 7, 1, 0, 6, 5, 4, 3, 2], [12, 11, 8, 7, 1, 0, 6, 5, 4, 3, 2], [13, 12, 11, 8, 7, 1, 0, 6, 5, 4, 3, 2], [10, 9, 8, 7, 1, 0, 6, 5, 4, 3, 2, 14, 13, 12, 11], [8, 7, 1, 0, 6, 5, 4, 3, 2, 15, 10, 9, 14, 13, 12, 11], [16, 8, 7, 1, 0, 6, 5, 4, 3, 2, 15, 10, 9, 14, 13, 12, 11], [17, 16, 8, 7, 1, 0, 6, 5, 4, 3, 2, 15, 10, 9, 14, 13, 12, 11], [18, 17, 16, 8, 7, 1, 0, 6, 5, 4, 3, 2, 15, 10, 9, 14, 13, 12, 11], [17, 16, 8, 7, 1, 0, 6, 5, 4, 3, 2, 15, 10, 9, 14, 13, 12, 11], [20, 17, 16, 8, 7, 1, 0, 6, 5, 4, 3, 2, 15, 10, 9, 14, 13, 12, 11], [21, 20, 17, 16, 8, 7, 1, 0, 6, 5, 4, 3, 2, 15, 10, 9, 14, 13, 12, 11], [22, 21, 20, 17, 16, 8, 7, 1, 0, 6, 5, 4, 3, 2, 15, 10, 9, 14, 13, 12, 11], [19, 18, 17, 16, 8, 7, 1, 0, 6, 5, 4, 3, 2, 15, 10, 9, 14, 13, 12, 11, 23, 22, 21, 20], [24, 19, 18, 17, 16, 8, 7, 1, 0, 6, 5, 4, 3, 2, 15, 10, 9, 14, 13, 12, 11, 23, 22, 21, 20], [17, 16, 8, 7, 1, 0, 6, 5, 4, 3, 2, 15, 10, 9, 14, 13, 12, 11, 25, 24, 19, 18, 23, 22, 21, 20]] mixed (by kernel_rfl) (by kernel_rfl) ?_
                                refine RD.p T ?_
                                refine RD.p T ?_
                                refine RD.p T ?_
                                refine RD.p T ?_
                                refine RD.q rfl rfl (Gd.none rfl) (QV.v1 T) ?_
                                refine RD.p T ?_
                                refine RD.nv rfl rfl rfl (Gd.none rfl) ?_
                                refine NV.call rfl rfl rfl fun13 rfl rfl (flen bq R1 room _ n1 o1 _ (by repeat first | exact At.head _ _ | assumption | apply At.tail | apply At.app)) ?_
                                rintro _ _ ⟨rfl, e⟩; obtain rfl := e.symm
                                refine ⟨(Stab.cons rfl (Gd.none rfl) (pev_sound T rfl) (Stab.cons rfl (Gd.none rfl) (QV.v1 T) (Stab.cons rfl (Gd.none rfl) (pev_sound T rfl) (Stab.cons rfl (Gd.none rfl) (pev_sound T rfl) (Stab.cons rfl (Gd.none rfl) (pev_sound T rfl) Stab.nil))))), ?_⟩
                                refine RD.p T ?_
                                refine RD.p T ?_
                                refine RD.split 8 rfl (fun hs7 => ?_) (fun hs7 => ?_)
                                ·try simp only [decide_eq_true_eq, decide_eq_false_iff_not, Bool.not_eq_true', Bool.not_eq_false', Int.not_lt, Int.not_le, Int.toNat_natCast] at hs7
                                 first
                                  | (exfalso; first | omega | contradiction | (simp at *; done))
                                  | (
                                   refine RD.skip rfl rfl rfl rfl ?_
                                   refine RD.skip rfl rfl rfl rfl ?_
                                   refine RD.skip rfl rfl rfl rfl ?_
                                   refine RD.skip rfl rfl rfl rfl ?_
                                   refine RD.skip rfl rfl rfl rfl ?_
                                   refine RD.skipN rfl rfl rfl rfl rfl (Stab.skip rfl rfl rfl rfl (Stab.skip rfl rfl rfl rfl (Stab.skip rfl rfl rfl rfl (Stab.skip rfl rfl rfl rfl Stab.nil)))) ?_
                                   refine RD.skip rfl rfl rfl rfl ?_
                                   refine RD.p T ?_
                                   refine RD.p T ?_
                                   refine RD.skip rfl rfl rfl rfl ?_
                                   refine RD.skip rfl rfl rfl rfl ?_
                                   refine RD.skip rfl rfl rfl rfl ?_
                                   refine RD.skip rfl rfl rfl rfl ?_
                                   refine RD.skip rfl rfl rfl rfl ?_
                                   refine RD.skipN rfl rfl rfl rfl rfl (Stab.skip rfl rfl rfl rfl (Stab.skip rfl rfl rfl rfl (Stab.skip rfl rfl rfl rfl (Stab.skip rfl rfl rfl rfl Stab.nil)))) ?_
                                   refine RD.skipN rfl rfl rfl rfl rfl Stab.nil ?_
                                   refine RD.skip rfl rfl rfl rfl ?_
                                   refine RD.p T ?_
                                   refine RD.k rfl rfl ?_
                                   refine hK39 _ _ _ ?_
                                   refine SW.cond_t rfl ?_
                                   refine SW.seq_k fun K40 hK40 => ?_
                                   refine SW.region _ _ _ _ ?_
                                   refine RL.p T ?_
                                   refine RL.nil _ _ _ _ ?_
                                   refine hK40 _ _ _ ?_
                                   refine SW.ret ?_
                                   refine retQ.rr (H) ?_
                                   clear hK40 K40 hK39 K39 hK37 K37 hK36 K36 hK35 K35 hK25 K25 hK24 K24 hK23 K23 hK22 K22 hK21 K21 hK20 K20 hK19 K19 hK18 K18 hK17 K17 hK16 K16 hK13 K13 hK12 K12 hK9 K9 hK8 K8 hK7 K7 hK5 K5 hK4 K4 hK2 K2 hK1 K1 hK0 K0
                                   first
                                     | exact ⟨rfl, rfl⟩
                                   )
                                ·try simp only [decide_eq_true_eq, decide_eq_false_iff_not, Bool.not_eq_true', Bool.not_eq_false', Int.not_lt, Int.not_le, Int.toNat_natCast] at hs7
                                 first
                                  | (exfalso; first | omega | contradiction | (simp at *; done))
                                  | (
                                   refine RD.p T ?_
                                   refine RD.p T ?_
                                   refine RD.p T ?_
                                   refine RD.p T ?_
                                   refine RD.q rfl rfl (Gd.yes rfl rfl) (QV.v1 T) ?_
                                   refine RD.nv rfl rfl rfl (Gd.yes rfl rfl) ?_
                                   refine NV.call rfl rfl rfl fun14 rfl rfl (fover bq R1 room _ n1 o1 _ (by repeat first | exact At.head _ _ | assumption | apply At.tail | apply At.app)) ?_
                                   rintro _ _ ⟨rfl, e⟩; obtain rfl := e.symm
                                   refine ⟨(Stab.cons rfl (Gd.yes rfl rfl) (QV.v1 T) (Stab.cons rfl (Gd.yes rfl rfl) (pev_sound T rfl) (Stab.cons rfl (Gd.yes rfl rfl) (pev_sound T rfl) (Stab.cons rfl (Gd.yes rfl rfl) (pev_sound T rfl) Stab.nil)))), ?_⟩
                                   refine RD.p T ?_
                                   refine RD.p T ?_
                                   refine RD.p T ?_
                                   refine RD.split 17 rfl (fun hs8 => ?_) (fun hs8 => ?_)
                                   ·try simp only [decide_eq_true_eq, decide_eq_false_iff_not, Bool.not_eq_true', Bool.not_eq_false', Int.not_lt, Int.not_le, Int.toNat_natCast] at hs8
                                    first
                                     | (exfalso; first | omega | contradiction | (simp at *; done))
                                     | (
                                      refine RD.skip rfl rfl rfl rfl ?_
                                      refine RD.skip rfl rfl rfl rfl ?_
                                      refine RD.skip rfl rfl rfl rfl ?_
                                      refine RD.skip rfl rfl rfl rfl ?_
                                      refine RD.skip rfl rfl rfl rfl ?_
                                      refine RD.skipN rfl rfl rfl rfl rfl (Stab.skip rfl rfl rfl rfl (Stab.skip rfl rfl rfl rfl (Stab.skip rfl rfl rfl rfl (Stab.skip rfl rfl rfl rfl Stab.nil)))) ?_
                                      refine RD.skipN rfl rfl rfl rfl rfl Stab.nil ?_
                                      refine RD.skip rfl rfl rfl rfl ?_
                                      refine RD.p T ?_
                                      refine RD.k rfl rfl ?_
                                      refine hK39 _ _ _ ?_
                                      refine SW.cond_t rfl ?_
                                      refine SW.seq_k fun K41 hK41 => ?_
                                      refine SW.region _ _ _ _ ?_
                                      refine RL.p T ?_
                                      refine RL.nil _ _ _ _ ?_
                                      refine hK41 _ _ _ ?_
                                      refine SW.ret ?_
                                      refine retQ.rr (H) ?_
                                      clear hK41 K41 hK39 K39 hK37 K37 hK36 K36 hK35 K35 hK25 K25 hK24 K24 hK23 K23 hK22 K22 hK21 K21 hK20 K20 hK19 K19 hK18 K18 hK17 K17 hK16 K16 hK13 K13 hK12 K12 hK9 K9 hK8 K8 hK7 K7 hK5 K5 hK4 K4 hK2 K2 hK1 K1 hK0 K0
                                      first
                                        | exact ⟨rfl, rfl⟩
                                      )
                                   ·try simp only [decide_eq_true_eq, decide_eq_false_iff_not, Bool.not_eq_true', Bool.not_eq_false', Int.not_lt, Int.not_le, Int.toNat_natCast] at hs8
                                    first
                                     | (exfalso; first | omega | contradiction | (simp at *; done))
                                     | (
                                      refine RD.p T ?_
                                      refine RD.p T ?_
                                      refine RD.p T ?_
                                      refine RD.p T ?_
                                      refine RD.q rfl rfl (Gd.yes rfl rfl) (QV.v1 T) ?_
                                      refine RD.nv rfl rfl rfl (Gd.yes rfl rfl) ?_
                                      refine NV.call rfl rfl rfl fun18 rfl rfl (fall bq R1 room _ n1 o1 _ (by repeat first | exact At.head _ _ | assumption | apply At.tail | apply At.app) L1 hL1 hn1 (fun y hy => (hLo1 y hy).appr.cons.cons)) ?_
                                      rintro _ _ ⟨a4, c4, al4, rfl, hal4, haf4, han4, e⟩; obtain rfl := e.symm
                                      refine ⟨(Stab.cons rfl (Gd.yes rfl rfl) (QV.v1 T) (Stab.cons rfl (Gd.yes rfl rfl) (pev_sound T rfl) (Stab.cons rfl (Gd.yes rfl rfl) (pev_sound T rfl) (Stab.cons rfl (Gd.yes rfl rfl) (pev_sound T rfl) Stab.nil)))), ?_⟩
                                      refine RD.nv rfl rfl rfl (Gd.yes rfl rfl) ?_
                                      refine NV.sat (fun hs => ?_) (fun c hc => by cases hc)
                                      refine NV.call rfl rfl rfl fun17 rfl rfl (samesT al4 M1 _ _ _ _ n1 _ (Rd.rowh hs (by repeat first | exact At.head _ _ | apply At.tail | apply At.app)) (by repeat first | exact hRd1.appr | apply Rd.cons | apply Rd.app) hal4.symm hnM1 (by have := hL1.len; omega) (by have := hL1.len; omega) (fun y hy => (al_ok hLo1 haf4 han4 (satl (sat1 hs)) y hy).appr.cons) (fun y hy => (hMo1 y hy).appr.cons.cons.app.cons) (haf4.trans hfr1.symm)) ?_
                                      rintro _ _ ⟨rfl, e⟩; obtain rfl := e.symm
                                      refine ⟨Stab.nil, ?_⟩
                                      refine RD.p T ?_
                                      refine RD.p T ?_
                                      refine RD.k rfl rfl ?_
                                      refine hK39 _ _ _ ?_
                                      refine SW.cs (fun hc10 => ?_) (fun hc10 => ?_)
                                      ·skip
                                       first
                                        | (exfalso; first | omega | contradiction | (simp at *; done))
                                        | (
                                         refine SW.seq_k fun K42 hK42 => ?_
                                         refine SW.region _ _ _ _ ?_
                                         refine RL.p T ?_
                                         refine RL.nil _ _ _ _ ?_
                                         refine hK42 _ _ _ ?_
                                         refine SW.ret ?_
                                         refine retQ.rr (H) ?_
                                         clear hK42 K42 hK39 K39 hK37 K37 hK36 K36 hK35 K35 hK25 K25 hK24 K24 hK23 K23 hK22 K22 hK21 K21 hK20 K20 hK19 K19 hK18 K18 hK17 K17 hK16 K16 hK13 K13 hK12 K12 hK9 K9 hK8 K8 hK7 K7 hK5 K5 hK4 K4 hK2 K2 hK1 K1 hK0 K0
                                         first
                                           | exact ⟨rfl, rfl⟩
                                         )
                                      ·skip
                                       first
                                        | (exfalso; first | omega | contradiction | (simp at *; done))
                                        | (
                                         refine SW.skip ?_
                                         refine hK21 _ _ _ ?_
                                         refine SW.weaken (fun _ h => h.tail.app) ?_
                                         refine SW.region _ _ _ _ ?_
                                         first | refine RL.ar ?_ | refine RL.p T ?_
                                         refine RL.p T ?_
                                         refine RL.nil _ _ _ _ ?_
                                         first
                                           | exact ⟨nr - (k + 1), (by omega), k + 1, R1, F, n1, o1, G2 ++ (D1 ++ G), L1, M1, bM, aM1, cM1, (by rfl), ⟨by omega, hL1, hn1, hnM1, hLo1, hMo1, hRd1, hfr1, hov1⟩, (.cons rfl (.consI rfl (by first | omega | rfl) (.nil (by repeat first | exact Mx.refl | exact Mx.mix | refine Mx.put rfl ?_ | refine Mx.upd rfl ?_ | refine Mx.updl rfl ?_ | refine Mx.fin rfl ?_ | refine Mx.inner rfl ?_ | refine Mx.none ?_)))), rfl, rfl⟩
                                           | exact ⟨nr - (k + 1), (by omega), k + 1, R1, F1, n1, o1, G, L1, M1, bM, aM1, cM1, (by rfl), ⟨by omega, hL1, hn1, hnM1, hLo1, hMo1, hRd1, hfr1, hov1⟩, (.cons rfl (.consI rfl (by first | omega | rfl) (.nil (by repeat first | exact Mx.refl | exact Mx.mix | refine Mx.put rfl ?_ | refine Mx.upd rfl ?_ | refine Mx.updl rfl ?_ | refine Mx.fin rfl ?_ | refine Mx.inner rfl ?_ | refine Mx.none ?_)))), rfl, rfl⟩
                                           | exact ⟨nr - (k + 1), (by omega), k + 1, R1, F1, n1, o1, G, L1, M1, b111_4, none, 0, (by rfl), ⟨by omega, hL1, hn1, hnM1, hLo1, hMo1, hRd1, hfr1, hov1⟩, (.cons rfl (.consI rfl (by first | omega | rfl) (.nil (by repeat first | exact Mx.refl | exact Mx.mix | refine Mx.put rfl ?_ | refine Mx.upd rfl ?_ | refine Mx.updl rfl ?_ | refine Mx.fin rfl ?_ | refine Mx.inner rfl ?_ | refine Mx.none ?_)))), rfl, rfl⟩
                                         )
                                      )
                                   )
                                )
                             )
                          ·skip
                           first
                            | (exfalso; first | omega | contradiction | (simp at *; done))
                            | (
                             refine SW.seq_k fun K43 hK43 => ?_
                             refine SW.region _ _ _ _ ?_
                             refine RL.p T ?_
                             refine RL.p T ?_
                             refine RL.q (QV.vN T rfl rfl rfl rfl rfl (by exact (rfl : _ = [_, _, _, _, _, _, _, _, _, _, _]))) ?_
                             refine RL.c fun11 (fun hs => pushU bq R room F q over _ (by repeat first | exact At.head _ _ | assumption | apply At.tail | apply At.app) L hL hq hr (by omega) (ls.getD k default).x hx) ?_
                             rintro _ _ ⟨D1, R1, n1, o1, L1, rfl, e, hL1, hn1, hf1, ho1, hg1⟩; obtain rfl := e.symm
                             have hpo := pushO_or room q over (ls.getD k default).x.f
                             rw [← ho1] at hpo
                             refine RL.p T ?_
                             refine RL.p T ?_
                             refine RL.p T ?_
                             refine RL.p T ?_
                             refine RL.p T ?_
                             refine RL.nil _ _ _ _ ?_
                             refine hK43 _ _ _ ?_
                             refine SW.seq_k fun K44 hK44 => ?_
                             refine SW.region _ _ _ _ ?_
                             refine RL.p T ?_
                             refine RL.p T ?_
                             refine RL.q (QV.vN T rfl rfl rfl rfl rfl (by exact (rfl : _ = [_, _, _, _, _, _, _, _, _, _, _]))) ?_
                             refine RL.c fun23 (fun hs => rpushV bM room over aM q cM _ (by repeat first | exact At.head _ _ | assumption | apply At.tail | apply At.app) M (by repeat first | exact hRd.appr | apply Rd.cons | apply Rd.app) hqM (by omega) (ls.getD k default).x hx (by omega) (by omega)) ?_
                             rintro _ _ ⟨G2, oM1, aM1, nM1, cM1, M1, rfl, e, hnM1, hfM, hoM, hgM, hRf⟩; obtain rfl := e.symm
                             obtain rfl : o1 = oM1 := ho1.trans hoM.symm
                             have hfr1 : frs M1 = frs L1 := by rw [hfM, hf1, hfr]
                             obtain rfl : n1 = nM1 := by rw [hnM1, hn1, ← frs_len, ← frs_len, hfr1]
                             have hLo1 : ∀ x ∈ L1, FsOk w0 (G2 ++ (D1 ++ G)) x := fun x hx => (okmix hLo hg1 x hx).app
                             have hMo1 : ∀ x ∈ M1, FsOk w0 (G2 ++ (D1 ++ G)) x := okmix (fun y hy => (hMo y hy).app) hgM
                             have hRd1 := hRf (D1 ++ G) hRd.app
                             have hov1 : o1 ≤ k + 1 := by omega
                             refine RL.p T ?_
                             refine RL.p T ?_
                             refine RL.p T ?_
                             refine RL.p T ?_
                             refine RL.p T ?_
                             refine RL.nil _ _ _ _ ?_
                             refine hK44 _ _ _ ?_
                             refine SW.seq_k fun K45 hK45 => ?_
                             refine SW.region _ _ _ _ ?_
                             refine RL.p T ?_
                             refine RL.p T ?_
                             refine RL.p T ?_
                             refine RL.p T ?_
                             refine RL.sp 73 (fun hs9 => ?_) (fun hs9 => ?_)
                             ·skip
                              first
                               | (exfalso; first | omega | contradiction | (simp at *; done))
                               | (
                                refine RL.guard_no rfl rfl rfl ?_
                                refine RL.guard_no rfl rfl rfl ?_
                                refine RL.guard_no rfl rfl rfl ?_
                                refine RL.p T ?_
                                refine RL.nil _ _ _ _ ?_
                                refine hK45 _ _ _ ?_
                                refine SW.cond_t rfl ?_
                                refine SW.seq_k fun K46 hK46 => ?_
                                refine SW.region _ _ _ _ ?_
                                refine RL.p T ?_
                                refine RL.nil _ _ _ _ ?_
                                refine hK46 _ _ _ ?_
                                refine SW.ret ?_
                                refine retQ.rr (H) ?_
                                clear hK46 K46 hK45 K45 hK44 K44 hK43 K43 hK35 K35 hK25 K25 hK24 K24 hK23 K23 hK22 K22 hK21 K21 hK20 K20 hK19 K19 hK18 K18 hK17 K17 hK16 K16 hK13 K13 hK12 K12 hK9 K9 hK8 K8 hK7 K7 hK5 K5 hK4 K4 hK2 K2 hK1 K1 hK0 K0
                                first
                                  | exact ⟨rfl, rfl⟩
                                )
                             ·skip
                              first
                               | (exfalso; first | omega | contradiction | (simp at *; done))
                               | (
                                refine RL.p T ?_
                                refine RL.p T ?_
                                refine RL.p T ?_
                                refine RL.p T ?_
                                refine RL.nil _ _ _ _ ?_
                                refine hK45 _ _ _ ?_
                                refine SW.cs (fun hc11 => ?_) (fun hc11 => ?_)
                                ·skip
                                 first
                                  | (exfalso; first | omega | contradiction | (simp at *; done))
                                  | (
                                   refine SW.seq_k fun K47 hK47 => ?_
                                   refine SW.region _ _ _ _ ?_
                                   refine RL.p T ?_
                                   refine RL.nil _ _ _ _ ?_
                                   refine hK47 _ _ _ ?_
                                   refine SW.ret ?_
                                   refine retQ.rr (H) ?_
                                   clear hK47 K47 hK45 K45 hK44 K44 hK43 K43 hK35 K35 hK25 K25 hK24 K24 hK23 K23 hK22 K22 hK21 K21 hK20 K20 hK19 K19 hK18 K18 hK17 K17 hK16 K16 hK13 K13 hK12 K12 hK9 K9 hK8 K8 hK7 K7 hK5 K5 hK4 K4 hK2 K2 hK1 K1 hK0 K0
                                   first
                                     | exact ⟨rfl, rfl⟩
                                   )
                                ·skip
                                 first
                                  | (exfalso; first | omega | contradiction | (simp at *; done))
                                  | (
                                   refine SW.skip ?_
                                   refine hK23 _ _ _ ?_
                                   refine SW.seq_k fun K48 hK48 => ?_
                                   first
                                     | refine SW.weaken (fun _ h => h.tail.tail.tail) ?_
                                     | refine SW.weaken (fun _ h => satmv2 h) ?_
                                     | refine SW.weaken (fun _ h => satC2 hn0 ho1 h) ?_
                                   refine SW.draw [(112, 0), (113, 1), (114, 2), (115, 3), (116, 4), (117, 5), (118, 6), (119, 7), (120, 8), (121, 9), (122, 10), (123, 11), (124, 12), (125, 13), (126, 14), (127, 15), (128, 16), (129, 17), (130, 18), (131, 19), (132, 20), (133, 21), (134, 22), (135, 23), (136, 24), (137, 25), (138, 26)] [[], [0], [], [2], [3, 2], [4, 3, 2], [5, 4, 3, 2], [1, 0, 6, 5, 4, 3, 2], [7, 1, 0, 6, 5, 4, 3, 2], [8, 7, 1, 0, 6, 5, 4, 3, 2], [9, 8, 7, 1, 0, 6, 5, 4, 3, 2], [8, 7, 1, 0, 6, 5, 4, 3, 2], [11, 8, 7, 1, 0, 6, 5, 4, 3, 2], [12, 11, 8, 7, 1, 0, 6, 5, 4, 3, 2], [13, 12, 11, 8, 7, 1, 0, 6, 5, 4, 3, 2], [10, 9, 8, 7, 1, 0, 6, 5, 4, 3, 2, 14, 13, 12, 11], [8, 7, 1, 0, 6, 5, 4, 3, 2, 15, 10, 9, 14, 13, 12, 11], [16, 8, 7, 1, 0, 6, 5, 4, 3, 2, 15, 10, 9, 14, 13, 12, 11], [17, 16, 8, 7, 1, 0, 6, 5, 4, 3, 2, 15, 10, 9, 14, 13, 12, 11], [18, 17, 16, 8, 7, 1, 0, 6, 5, 4, 3, 2, 15, 10, 9, 14, 13, 12, 11], [17, 16, 8, 7, 1, 0, 6, 5, 4, 3, 2, 15, 10, 9, 14, 13, 12, 11], [20, 17, 16, 8, 7, 1, 0, 6, 5, 4, 3, 2, 15, 10, 9, 14, 13, 12, 11], [21, 20, 17, 16, 8, 7, 1, 0, 6, 5, 4, 3, 2, 15, 10, 9, 14, 13, 12, 11], [22, 21, 20, 17, 16, 8, 7, 1, 0, 6, 5, 4, 3, 2, 15, 10, 9, 14, 13, 12, 11], [19, 18, 17, 16, 8, 7, 1, 0, 6, 5, 4, 3, 2, 15, 10, 9, 14, 13, 12, 11, 23, 22, 21, 20], [24, 19, 18, 17, 16, 8, 7, 1, 0, 6, 5, 4, 3, 2, 15, 10, 9, 14, 13, 12, 11, 23, 22, 21, 20], [17, 16, 8, 7, 1, 0, 6, 5, 4, 3, 2, 15, 10, 9, 14, 13, 12, 11, 25, 24, 19, 18, 23, 22, 21, 20]] mixed (by kernel_rfl) (by kernel_rfl) ?_
                                   refine RD.p T ?_
                                   refine RD.p T ?_
                                   refine RD.p T ?_
                                   refine RD.p T ?_
                                   refine RD.q rfl rfl (Gd.none rfl) (QV.v1 T) ?_
                                   refine RD.p T ?_
                                   refine RD.nv rfl rfl rfl (Gd.none rfl) ?_
                                   refine NV.call rfl rfl rfl fun13 rfl rfl (flen bq R1 room _ n1 o1 _ (by repeat first | exact At.head _ _ | assumption | apply At.tail | apply At.app)) ?_
                                   rintro _ _ ⟨rfl, e⟩; obtain rfl := e.symm
                                   refine ⟨(Stab.cons rfl (Gd.none rfl) (pev_sound T rfl) (Stab.cons rfl (Gd.none rfl) (QV.v1 T) (Stab.cons rfl (Gd.none rfl) (pev_sound T rfl) (Stab.cons rfl (Gd.none rfl) (pev_sound T rfl) (Stab.cons rfl (Gd.none rfl) (pev_sound T rfl) Stab.nil))))), ?_⟩
                                   refine RD.p T ?_
                                   refine RD.p T ?_
                                   refine RD.split 8 rfl (fun hs10 => ?_) (fun hs10 => ?_)
                                   ·try simp only [decide_eq_true_eq, decide_eq_false_iff_not, Bool.not_eq_true', Bool.not_eq_false', Int.not_lt, Int.not_le, Int.toNat_natCast] at hs10
                                    first
                                     | (exfalso; first | omega | contradiction | (simp at *; done))
                                     | (
                                      refine RD.skip rfl rfl rfl rfl ?_
                                      refine RD.skip rfl rfl rfl rfl ?_
                                      refine RD.skip rfl rfl rfl rfl ?_
                                      refine RD.skip rfl rfl rfl rfl ?_
                                      refine RD.skip rfl rfl rfl rfl ?_
                                      refine RD.skipN rfl rfl rfl rfl rfl (Stab.skip rfl rfl rfl rfl (Stab.skip rfl rfl rfl rfl (Stab.skip rfl rfl rfl rfl (Stab.skip rfl rfl rfl rfl Stab.nil)))) ?_
                                      refine RD.skip rfl rfl rfl rfl ?_
                                      refine RD.p T ?_
                                      refine RD.p T ?_
                                      refine RD.skip rfl rfl rfl rfl ?_
                                      refine RD.skip rfl rfl rfl rfl ?_
                                      refine RD.skip rfl rfl rfl rfl ?_
                                      refine RD.skip rfl rfl rfl rfl ?_
                                      refine RD.skip rfl rfl rfl rfl ?_
                                      refine RD.skipN rfl rfl rfl rfl rfl (Stab.skip rfl rfl rfl rfl (Stab.skip rfl rfl rfl rfl (Stab.skip rfl rfl rfl rfl (Stab.skip rfl rfl rfl rfl Stab.nil)))) ?_
                                      refine RD.skipN rfl rfl rfl rfl rfl Stab.nil ?_
                                      refine RD.skip rfl rfl rfl rfl ?_
                                      refine RD.p T ?_
                                      refine RD.k rfl rfl ?_
                                      refine hK48 _ _ _ ?_
                                      refine SW.cond_t rfl ?_
                                      refine SW.seq_k fun K49 hK49 => ?_
                                      refine SW.region _ _ _ _ ?_
                                      refine RL.p T ?_
                                      refine RL.nil _ _ _ _ ?_
                                      refine hK49 _ _ _ ?_
                                      refine SW.ret ?_
                                      refine retQ.rr (H) ?_
                                      clear hK49 K49 hK48 K48 hK45 K45 hK44 K44 hK43 K43 hK35 K35 hK25 K25 hK24 K24 hK23 K23 hK22 K22 hK21 K21 hK20 K20 hK19 K19 hK18 K18 hK17 K17 hK16 K16 hK13 K13 hK12 K12 hK9 K9 hK8 K8 hK7 K7 hK5 K5 hK4 K4 hK2 K2 hK1 K1 hK0 K0
                                      first
                                        | exact ⟨rfl, rfl⟩
                                      )
                                   ·try simp only [decide_eq_true_eq, decide_eq_false_iff_not, Bool.not_eq_true', Bool.not_eq_false', Int.not_lt, Int.not_le, Int.toNat_natCast] at hs10
                                    first
                                     | (exfalso; first | omega | contradiction | (simp at *; done))
                                     | (
                                      refine RD.p T ?_
                                      refine RD.p T ?_
                                      refine RD.p T ?_
                                      refine RD.p T ?_
                                      refine RD.q rfl rfl (Gd.yes rfl rfl) (QV.v1 T) ?_
                                      refine RD.nv rfl rfl rfl (Gd.yes rfl rfl) ?_
                                      refine NV.call rfl rfl rfl fun14 rfl rfl (fover bq R1 room _ n1 o1 _ (by repeat first | exact At.head _ _ | assumption | apply At.tail | apply At.app)) ?_
                                      rintro _ _ ⟨rfl, e⟩; obtain rfl := e.symm
                                      refine ⟨(Stab.cons rfl (Gd.yes rfl rfl) (QV.v1 T) (Stab.cons rfl (Gd.yes rfl rfl) (pev_sound T rfl) (Stab.cons rfl (Gd.yes rfl rfl) (pev_sound T rfl) (Stab.cons rfl (Gd.yes rfl rfl) (pev_sound T rfl) Stab.nil)))), ?_⟩
                                      refine RD.p T ?_
                                      refine RD.p T ?_
                                      refine RD.p T ?_
                                      refine RD.split 17 rfl (fun hs11 => ?_) (fun hs11 => ?_)
                                      ·try simp only [decide_eq_true_eq, decide_eq_false_iff_not, Bool.not_eq_true', Bool.not_eq_false', Int.not_lt, Int.not_le, Int.toNat_natCast] at hs11
                                       first
                                        | (exfalso; first | omega | contradiction | (simp at *; done))
                                        | (
                                         refine RD.skip rfl rfl rfl rfl ?_
                                         refine RD.skip rfl rfl rfl rfl ?_
                                         refine RD.skip rfl rfl rfl rfl ?_
                                         refine RD.skip rfl rfl rfl rfl ?_
                                         refine RD.skip rfl rfl rfl rfl ?_
                                         refine RD.skipN rfl rfl rfl rfl rfl (Stab.skip rfl rfl rfl rfl (Stab.skip rfl rfl rfl rfl (Stab.skip rfl rfl rfl rfl (Stab.skip rfl rfl rfl rfl Stab.nil)))) ?_
                                         refine RD.skipN rfl rfl rfl rfl rfl Stab.nil ?_
                                         refine RD.skip rfl rfl rfl rfl ?_
                                         refine RD.p T ?_
                                         refine RD.k rfl rfl ?_
                                         refine hK48 _ _ _ ?_
                                         refine SW.cond_t rfl ?_
                                         refine SW.seq_k fun K50 hK50 => ?_
                                         refine SW.region _ _ _ _ ?_
                                         refine RL.p T ?_
                                         refine RL.nil _ _ _ _ ?_
                                         refine hK50 _ _ _ ?_
                                         refine SW.ret ?_
                                         refine retQ.rr (H) ?_
                                         clear hK50 K50 hK48 K48 hK45 K45 hK44 K44 hK43 K43 hK35 K35 hK25 K25 hK24 K24 hK23 K23 hK22 K22 hK21 K21 hK20 K20 hK19 K19 hK18 K18 hK17 K17 hK16 K16 hK13 K13 hK12 K12 hK9 K9 hK8 K8 hK7 K7 hK5 K5 hK4 K4 hK2 K2 hK1 K1 hK0 K0
                                         first
                                           | exact ⟨rfl, rfl⟩
                                         )
                                      ·try simp only [decide_eq_true_eq, decide_eq_false_iff_not, Bool.not_eq_true', Bool.not_eq_false', Int.not_lt, Int.not_le, Int.toNat_natCast] at hs11
                                       first
                                        | (exfalso; first | omega | contradiction | (simp at *; done))
                                        | (
                                         refine RD.p T ?_
                                         refine RD.p T ?_
                                         refine RD.p T ?_
                                         refine RD.p T ?_
                                         refine RD.q rfl rfl (Gd.yes rfl rfl) (QV.v1 T) ?_
                                         refine RD.nv rfl rfl rfl (Gd.yes rfl rfl) ?_
                                         refine NV.call rfl rfl rfl fun18 rfl rfl (fall bq R1 room _ n1 o1 _ (by repeat first | exact At.head _ _ | assumption | apply At.tail | apply At.app) L1 hL1 hn1 (fun y hy => (hLo1 y hy).appr.cons.cons)) ?_
                                         rintro _ _ ⟨a4, c4, al4, rfl, hal4, haf4, han4, e⟩; obtain rfl := e.symm
                                         refine ⟨(Stab.cons rfl (Gd.yes rfl rfl) (QV.v1 T) (Stab.cons rfl (Gd.yes rfl rfl) (pev_sound T rfl) (Stab.cons rfl (Gd.yes rfl rfl) (pev_sound T rfl) (Stab.cons rfl (Gd.yes rfl rfl) (pev_sound T rfl) Stab.nil)))), ?_⟩
                                         refine RD.nv rfl rfl rfl (Gd.yes rfl rfl) ?_
                                         refine NV.sat (fun hs => ?_) (fun c hc => by cases hc)
                                         refine NV.call rfl rfl rfl fun17 rfl rfl (samesT al4 M1 _ _ _ _ n1 _ (Rd.rowh hs (by repeat first | exact At.head _ _ | apply At.tail | apply At.app)) (by repeat first | exact hRd1.appr | apply Rd.cons | apply Rd.app) hal4.symm hnM1 (by have := hL1.len; omega) (by have := hL1.len; omega) (fun y hy => (al_ok hLo1 haf4 han4 (satl (sat1 hs)) y hy).appr.cons) (fun y hy => (hMo1 y hy).appr.cons.cons.app.cons) (haf4.trans hfr1.symm)) ?_
                                         rintro _ _ ⟨rfl, e⟩; obtain rfl := e.symm
                                         refine ⟨Stab.nil, ?_⟩
                                         refine RD.p T ?_
                                         refine RD.p T ?_
                                         refine RD.k rfl rfl ?_
                                         refine hK48 _ _ _ ?_
                                         refine SW.cs (fun hc12 => ?_) (fun hc12 => ?_)
                                         ·skip
                                          first
                                           | (exfalso; first | omega | contradiction | (simp at *; done))
                                           | (
                                            refine SW.seq_k fun K51 hK51 => ?_
                                            refine SW.region _ _ _ _ ?_
                                            refine RL.p T ?_
                                            refine RL.nil _ _ _ _ ?_
                                            refine hK51 _ _ _ ?_
                                            refine SW.ret ?_
                                            refine retQ.rr (H) ?_
                                            clear hK51 K51 hK48 K48 hK45 K45 hK44 K44 hK43 K43 hK35 K35 hK25 K25 hK24 K24 hK23 K23 hK22 K22 hK21 K21 hK20 K20 hK19 K19 hK18 K18 hK17 K17 hK16 K16 hK13 K13 hK12 K12 hK9 K9 hK8 K8 hK7 K7 hK5 K5 hK4 K4 hK2 K2 hK1 K1 hK0 K0
                                            first
                                              | exact ⟨rfl, rfl⟩
                                            )
                                         ·skip
                                          first
                                           | (exfalso; first | omega | contradiction | (simp at *; done))
                                           | (
                                            refine SW.skip ?_
                                            refine hK21 _ _ _ ?_
                                            refine SW.weaken (fun _ h => h.tail.app) ?_
                                            refine SW.region _ _ _ _ ?_
                                            first | refine RL.ar ?_ | refine RL.p T ?_
                                            refine RL.p T ?_
                                            refine RL.nil _ _ _ _ ?_
                                            first
                                              | exact ⟨nr - (k + 1), (by omega), k + 1, R1, F, n1, o1, G2 ++ (D1 ++ G), L1, M1, bM, aM1, cM1, (by rfl), ⟨by omega, hL1, hn1, hnM1, hLo1, hMo1, hRd1, hfr1, hov1⟩, (.cons rfl (.consI rfl (by first | omega | rfl) (.nil (by repeat first | exact Mx.refl | exact Mx.mix | refine Mx.put rfl ?_ | refine Mx.upd rfl ?_ | refine Mx.updl rfl ?_ | refine Mx.fin rfl ?_ | refine Mx.inner rfl ?_ | refine Mx.none ?_)))), rfl, rfl⟩
                                              | exact ⟨nr - (k + 1), (by omega), k + 1, R1, F1, n1, o1, G, L1, M1, bM, aM1, cM1, (by rfl), ⟨by omega, hL1, hn1, hnM1, hLo1, hMo1, hRd1, hfr1, hov1⟩, (.cons rfl (.consI rfl (by first | omega | rfl) (.nil (by repeat first | exact Mx.refl | exact Mx.mix | refine Mx.put rfl ?_ | refine Mx.upd rfl ?_ | refine Mx.updl rfl ?_ | refine Mx.fin rfl ?_ | refine Mx.inner rfl ?_ | refine Mx.none ?_)))), rfl, rfl⟩
                                              | exact ⟨nr - (k + 1), (by omega), k + 1, R1, F1, n1, o1, G, L1, M1, b111_4, none, 0, (by rfl), ⟨by omega, hL1, hn1, hnM1, hLo1, hMo1, hRd1, hfr1, hov1⟩, (.cons rfl (.consI rfl (by first | omega | rfl) (.nil (by repeat first | exact Mx.refl | exact Mx.mix | refine Mx.put rfl ?_ | refine Mx.upd rfl ?_ | refine Mx.updl rfl ?_ | refine Mx.fin rfl ?_ | refine Mx.inner rfl ?_ | refine Mx.none ?_)))), rfl, rfl⟩
                                            )
                                         )
                                      )
                                   )
                                )
                             )
                          )
                       )
                    ·skip
                     first
                      | (exfalso; first | omega | contradiction | (simp at *; done))
                      | (
                       refine SW.exit ?_
                       refine hK17 _ _ _ ?_
                       refine SW.seq_k fun K52 hK52 => ?_
                       refine SW.region _ _ _ _ ?_
                       refine RL.p T ?_
                       refine RL.nil _ _ _ _ ?_
                       refine hK52 _ _ _ ?_
                       refine SW.ret ?_
                       refine retQ.rr (H) ?_
                       clear hK52 K52 hK20 K20 hK19 K19 hK18 K18 hK17 K17 hK16 K16 hK13 K13 hK12 K12 hK9 K9 hK8 K8 hK7 K7 hK5 K5 hK4 K4 hK2 K2 hK1 K1 hK0 K0
                       first
                         | exact ⟨rfl, rfl⟩
                       )
                   )
                )
             )
          )
       )
    )
theorem fifoActs_bad {w0 : World} {H : List Chunk} (room : Int) (hr : room < 0 ∨ 64 < room) (ls : List As) (sr : Option Addr) (nr cr : Nat) (hB : ∀ H, Rd w0 H sr nr cr 12 (ls.flatMap AcC)) (hnr : nr = ls.length) (hmr : nr ≤ 4398046511000) (hls : ∀ H, ∀ y ∈ ls, FsOk w0 H y.x) : SC Try.prog w0 6 #[.int .i64 room, .slice sr nr cr] H (fun v H' => v = .bool true ∧ H' = H) := by
 refine SC.enter Try.func6 rfl (Nat.le_of_ble_eq_true rfl) ?_
 refine SW.seq_k fun K0 hK0 => ?_
 refine SW.region _ _ _ _ ?_
 refine RL.p T ?_
 refine RL.nil _ _ _ _ ?_
 refine hK0 _ _ _ ?_
 refine SW.seq_k fun K1 hK1 => ?_
 refine SW.seq_k fun K2 hK2 => ?_
 refine SW.region _ _ _ _ ?_
 refine RL.c fun9 (fun hs => alive) ?_
 rintro _ _ ⟨rfl, e⟩; obtain rfl := e.symm
 refine RL.p T ?_
 refine RL.nil _ _ _ _ ?_
 refine hK2 _ _ _ ?_
 refine SW.cs (fun hc0 => ?_) (fun hc0 => ?_)
 ·skip
  first
   | (exfalso; first | omega | contradiction | (simp at *; done))
   | (
    refine SW.seq_k fun K3 hK3 => ?_
    refine SW.region _ _ _ _ ?_
    refine RL.p T ?_
    refine RL.nil _ _ _ _ ?_
    refine hK3 _ _ _ ?_
    refine SW.ret ?_
    refine retQ.rr (H) ?_
    clear hK3 K3 hK2 K2 hK1 K1 hK0 K0
    first
      | exact ⟨rfl, rfl⟩
    )
 ·skip
  first
   | (exfalso; first | omega | contradiction | (simp at *; done))
   | (
    refine SW.skip ?_
    refine hK1 _ _ _ ?_
    refine SW.seq_k fun K4 hK4 => ?_
    refine SW.seq_k fun K5 hK5 => ?_
    refine SW.region _ _ _ _ ?_
    refine RL.p T ?_
    refine RL.c fun19 (fun hs => great ls sr nr cr hB hnr hmr) ?_
    rintro _ _ ⟨gt, rfl, hgt, e⟩; obtain rfl := e.symm
    refine RL.nil _ _ _ _ ?_
    refine hK5 _ _ _ ?_
    refine SW.cs (fun hc1 => ?_) (fun hc1 => ?_)
    ·skip
     first
      | (exfalso; first | omega | contradiction | (simp at *; done))
      | (
       refine SW.seq_k fun K6 hK6 => ?_
       refine SW.region _ _ _ _ ?_
       refine RL.p T ?_
       refine RL.nil _ _ _ _ ?_
       refine hK6 _ _ _ ?_
       refine SW.ret ?_
       refine retQ.rr (H) ?_
       clear hK6 K6 hK5 K5 hK4 K4 hK2 K2 hK1 K1 hK0 K0
       first
         | exact ⟨rfl, rfl⟩
       )
    ·skip
     first
      | (exfalso; first | omega | contradiction | (simp at *; done))
      | (
       refine SW.skip ?_
       refine hK4 _ _ _ ?_
       refine SW.seq_k fun K7 hK7 => ?_
       refine SW.region _ _ _ _ ?_
       refine RL.p T ?_
       refine RL.c fun10 (fun hs => fnew_bad room hr) ?_
       rintro _ _ ⟨rfl, e⟩; obtain rfl := e.symm
       refine RL.p T ?_
       refine RL.p T ?_
       refine RL.p T ?_
       refine RL.p T ?_
       refine RL.p T ?_
       refine RL.nil _ _ _ _ ?_
       refine hK7 _ _ _ ?_
       refine SW.seq_k fun K8 hK8 => ?_
       refine SW.seq_k fun K9 hK9 => ?_
       refine SW.region _ _ _ _ ?_
       refine RL.p T ?_
       refine RL.p T ?_
       refine RL.p T ?_
       refine RL.sp 29 (fun hs0 => ?_) (fun hs0 => ?_)
       ·skip
        first
         | (exfalso; first | omega | contradiction | (simp at *; done))
         | (
          refine RL.guard_no rfl rfl rfl ?_
          refine RL.guard_no rfl rfl rfl ?_
          refine RL.p T ?_
          refine RL.nil _ _ _ _ ?_
          refine hK9 _ _ _ ?_
          refine SW.cond_t rfl ?_
          refine SW.seq_k fun K10 hK10 => ?_
          refine SW.region _ _ _ _ ?_
          refine RL.p T ?_
          refine RL.p T ?_
          refine RL.p T ?_
          refine RL.sp 35 (fun hs1 => ?_) (fun hs1 => ?_)
          ·skip
           first
            | (exfalso; first | omega | contradiction | (simp at *; done))
            | (
             refine RL.p T ?_
             refine RL.p T ?_
             refine RL.p T ?_
             refine RL.p T ?_
             refine RL.nil _ _ _ _ ?_
             refine hK10 _ _ _ ?_
             refine SW.ret ?_
             refine retQ.rr (H) ?_
             clear hK10 K10 hK9 K9 hK8 K8 hK7 K7 hK5 K5 hK4 K4 hK2 K2 hK1 K1 hK0 K0
             first
               | exact ⟨rfl, rfl⟩
             )
          ·skip
           first
            | (exfalso; first | omega | contradiction | (simp at *; done))
            | (
             refine RL.guard_no rfl rfl rfl ?_
             refine RL.guard_no rfl rfl rfl ?_
             refine RL.p T ?_
             refine RL.p T ?_
             refine RL.nil _ _ _ _ ?_
             refine hK10 _ _ _ ?_
             refine SW.ret ?_
             refine retQ.rr (H) ?_
             clear hK10 K10 hK9 K9 hK8 K8 hK7 K7 hK5 K5 hK4 K4 hK2 K2 hK1 K1 hK0 K0
             first
               | exact ⟨rfl, rfl⟩
             )
          )
       ·skip
        first
         | (exfalso; first | omega | contradiction | (simp at *; done))
         | (
          refine RL.p T ?_
          refine RL.p T ?_
          refine RL.p T ?_
          refine RL.nil _ _ _ _ ?_
          refine hK9 _ _ _ ?_
          refine SW.cs (fun hc2 => ?_) (fun hc2 => ?_)
          ·skip
           first
            | (exfalso; first | omega | contradiction | (simp at *; done))
            | (
             refine SW.seq_k fun K11 hK11 => ?_
             refine SW.region _ _ _ _ ?_
             refine RL.p T ?_
             refine RL.p T ?_
             refine RL.p T ?_
             refine RL.sp 35 (fun hs2 => ?_) (fun hs2 => ?_)
             ·skip
              first
               | (exfalso; first | omega | contradiction | (simp at *; done))
               | (
                refine RL.p T ?_
                refine RL.p T ?_
                refine RL.p T ?_
                refine RL.p T ?_
                refine RL.nil _ _ _ _ ?_
                refine hK11 _ _ _ ?_
                refine SW.ret ?_
                refine retQ.rr (H) ?_
                clear hK11 K11 hK9 K9 hK8 K8 hK7 K7 hK5 K5 hK4 K4 hK2 K2 hK1 K1 hK0 K0
                first
                  | exact ⟨rfl, rfl⟩
                )
             ·skip
              first
               | (exfalso; first | omega | contradiction | (simp at *; done))
               | (
                refine RL.guard_no rfl rfl rfl ?_
                refine RL.guard_no rfl rfl rfl ?_
                refine RL.p T ?_
                refine RL.p T ?_
                refine RL.nil _ _ _ _ ?_
                refine hK11 _ _ _ ?_
                refine SW.ret ?_
                refine retQ.rr (H) ?_
                clear hK11 K11 hK9 K9 hK8 K8 hK7 K7 hK5 K5 hK4 K4 hK2 K2 hK1 K1 hK0 K0
                first
                  | exact ⟨rfl, rfl⟩
                )
             )
          ·skip
           first
            | (exfalso; first | omega | contradiction | (simp at *; done))
            | (
             refine SW.skip ?_
             refine hK8 _ _ _ ?_
             refine SW.seq_k fun K12 hK12 => ?_
             refine SW.seq_k fun K13 hK13 => ?_
             refine SW.region _ _ _ _ ?_
             refine RL.p T ?_
             refine RL.p T ?_
             refine RL.p T ?_
             refine RL.sp 41 (fun hs3 => ?_) (fun hs3 => ?_)
             ·skip
              first
               | (exfalso; first | omega | contradiction | (simp at *; done))
               | (
                refine RL.guard_no rfl rfl rfl ?_
                refine RL.guard_no rfl rfl rfl ?_
                refine RL.p T ?_
                refine RL.nil _ _ _ _ ?_
                refine hK13 _ _ _ ?_
                refine SW.cond_t rfl ?_
                refine SW.seq_k fun K14 hK14 => ?_
                refine SW.region _ _ _ _ ?_
                refine RL.p T ?_
                refine RL.nil _ _ _ _ ?_
                refine hK14 _ _ _ ?_
                refine SW.ret ?_
                refine retQ.rr (H) ?_
                clear hK14 K14 hK13 K13 hK12 K12 hK9 K9 hK8 K8 hK7 K7 hK5 K5 hK4 K4 hK2 K2 hK1 K1 hK0 K0
                first
                  | exact ⟨rfl, rfl⟩
                )
             ·skip
              first
               | (exfalso; first | omega | contradiction | (simp at *; done))
               | (
                refine RL.p T ?_
                refine RL.p T ?_
                refine RL.p T ?_
                refine RL.nil _ _ _ _ ?_
                refine hK13 _ _ _ ?_
                refine SW.cs (fun hc3 => ?_) (fun hc3 => ?_)
                ·skip
                 first
                  | (exfalso; first | omega | contradiction | (simp at *; done))
                  | (
                   refine SW.seq_k fun K15 hK15 => ?_
                   refine SW.region _ _ _ _ ?_
                   refine RL.p T ?_
                   refine RL.nil _ _ _ _ ?_
                   refine hK15 _ _ _ ?_
                   refine SW.ret ?_
                   refine retQ.rr (H) ?_
                   clear hK15 K15 hK13 K13 hK12 K12 hK9 K9 hK8 K8 hK7 K7 hK5 K5 hK4 K4 hK2 K2 hK1 K1 hK0 K0
                   first
                     | exact ⟨rfl, rfl⟩
                   )
                ·skip
                 exfalso; first | omega | contradiction | (simp at *; done)
                )
             )
          )
       )
    )
theorem fifoActsI {w0 : World} {H : List Chunk} (room : Int) (ls : List As) (sr : Option Addr) (nr cr : Nat) (hB : ∀ H, Rd w0 H sr nr cr 12 (ls.flatMap AcC)) (hnr : nr = ls.length) (hmr : nr ≤ 4398046511000) (hls : ∀ H, ∀ y ∈ ls, FsOk w0 H y.x) : SC Try.prog w0 6 #[.int .i64 room, .slice sr nr cr] H (fun v H' => v = .bool true ∧ H' = H) := by
  by_cases h : room < 0 ∨ 64 < room
  · exact fifoActs_bad room h ls sr nr cr hB hnr hmr hls
  · obtain ⟨q, rfl⟩ := Int.eq_ofNat_of_zero_le (by omega : 0 ≤ room)
    exact fifoActs q (by omega) ls sr nr cr hB hnr hmr hls
end Go.Proofs.Ytojghialjpianaa.M
